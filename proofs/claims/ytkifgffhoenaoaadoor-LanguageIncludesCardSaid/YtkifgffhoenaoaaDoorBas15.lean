/-
  strconv.Itoa: the library's contract, laid at this program (the two declarations first are what the kit's command lays, printed by lay.py).
  alphabet.Union.
-/
import Derived.Test.YtkifgffhoenaoaaDoorBas13
import Derived.Shelf.Strconv.Itoa3
import Derived.Lib.AppendIntMem
import Derived.Test.YtkifgffhoenaoaaDoorBas02
import Derived.Test.YtkifgffhoenaoaaDoorBas11
namespace Go.Proofs.YtkifgffhoenaoaaDoor
open Go.RowKit Go.Shelf
set_option linter.unusedSimpArgs false
set_option linter.unusedVariables false
set_option maxRecDepth 100000
def laysItoa_ren : Go.Shelf.Ren := ⟨fun | 171 => 76 | 243 => 88 | 246 => 92 | 283 => 98 | 284 => 99 | 285 => 100 | 286 => 101 | 129 => 114 | 317 => 113 | 318 => 115 | 319 => 116 | 320 => 117 | 337 => 120 | 338 => 121 | n => n,fun | 3 => 3 | 9 => 9 | 2 => 2 | 4 => 4 | 171 => 131 | 0 => 0 | 53 => 132 | 37 => 62 | 5 => 5 | 173 => 135 | 212 => 153 | 51 => 154 | 20 => 20 | 213 => 155 | 46 => 157 | 232 => 162 | 233 => 163 | n => n,fun | 17 => 0 | 18 => 1 | 19 => 2 | n => n⟩
theorem laysItoa : LaysM.n171 Tryd.prog laysItoa_ren where
 mixed := by kernel_rfl
 f129 := Tryd.func114.trans (congrArg some (by kernel_rfl))
 f171 := Tryd.func76.trans (congrArg some (by kernel_rfl))
 f243 := Tryd.func88.trans (congrArg some (by kernel_rfl))
 f246 := Tryd.func92.trans (congrArg some (by kernel_rfl))
 f283 := Tryd.func98.trans (congrArg some (by kernel_rfl))
 f284 := Tryd.func99.trans (congrArg some (by kernel_rfl))
 f285 := Tryd.func100.trans (congrArg some (by kernel_rfl))
 f286 := Tryd.func101.trans (congrArg some (by kernel_rfl))
 f317 := Tryd.func113.trans (congrArg some (by kernel_rfl))
 f318 := Tryd.func115.trans (congrArg some (by kernel_rfl))
 f319 := Tryd.func116.trans (congrArg some (by kernel_rfl))
 f320 := Tryd.func117.trans (congrArg some (by kernel_rfl))
 f337 := Tryd.func120.trans (congrArg some (by kernel_rfl))
 f338 := Tryd.func121.trans (congrArg some (by kernel_rfl))
 t0 := Tryd.underlying0
 a0 := Tryd.isAgg0
 z0 := Tryd.sizeOf0
 v0 := Tryd.zeroValue0
 t2 := Tryd.underlying2
 a2 := Tryd.isAgg2
 z2 := Tryd.sizeOf2
 v2 := Tryd.zeroValue2
 t3 := Tryd.underlying3
 a3 := Tryd.isAgg3
 z3 := Tryd.sizeOf3
 v3 := Tryd.zeroValue3
 t4 := Tryd.underlying4
 a4 := Tryd.isAgg4
 z4 := Tryd.sizeOf4
 v4 := Tryd.zeroValue4
 t5 := Tryd.underlying5
 a5 := Tryd.isAgg5
 z5 := Tryd.sizeOf5
 v5 := Tryd.zeroValue5
 t9 := Tryd.underlying9
 a9 := Tryd.isAgg9
 z9 := Tryd.sizeOf9
 v9 := Tryd.zeroValue9
 t20 := Tryd.underlying20
 a20 := Tryd.isAgg20
 z20 := Tryd.sizeOf20
 v20 := Tryd.zeroValue20
 t37 := Tryd.underlying62
 a37 := Tryd.isAgg62
 z37 := Tryd.sizeOf62
 v37 := Tryd.zeroValue62
 t46 := Tryd.underlying157
 a46 := Tryd.isAgg157
 z46 := Tryd.sizeOf157
 v46 := Tryd.zeroValue157
 t51 := Tryd.underlying154
 a51 := Tryd.isAgg154
 z51 := Tryd.sizeOf154
 v51 := Tryd.zeroValue154
 t53 := Tryd.underlying132
 a53 := Tryd.isAgg132
 z53 := Tryd.sizeOf132
 v53 := Tryd.zeroValue132
 t171 := Tryd.underlying131
 a171 := Tryd.isAgg131
 z171 := Tryd.sizeOf131
 v171 := Tryd.zeroValue131
 t173 := Tryd.underlying135
 a173 := Tryd.isAgg135
 z173 := Tryd.sizeOf135
 v173 := Tryd.zeroValue135
 t212 := Tryd.underlying153
 a212 := Tryd.isAgg153
 z212 := Tryd.sizeOf153
 v212 := Tryd.zeroValue153
 t213 := Tryd.underlying155
 a213 := Tryd.isAgg155
 z213 := Tryd.sizeOf155
 t232 := Tryd.underlying162
 a232 := Tryd.isAgg162
 z232 := Tryd.sizeOf162
 v232 := Tryd.zeroValue162
 t233 := Tryd.underlying163
 a233 := Tryd.isAgg163
 z233 := Tryd.sizeOf163
 v233 := Tryd.zeroValue163
 g17 := by kernel_rfl
 g18 := by kernel_rfl
 g19 := by kernel_rfl
 i0 := by kernel_rfl
 i2 := by kernel_rfl
 i3 := by kernel_rfl
 i4 := by kernel_rfl
 i5 := by kernel_rfl
 i9 := by kernel_rfl
 i20 := by kernel_rfl
 i37 := by kernel_rfl
 i46 := by kernel_rfl
 i51 := by kernel_rfl
 i53 := by kernel_rfl
 i171 := by kernel_rfl
 i173 := by kernel_rfl
 i212 := by kernel_rfl
 i232 := by kernel_rfl
 i233 := by kernel_rfl
 m17 := by kernel_rfl
 m18 := by kernel_rfl
 m19 := by kernel_rfl

noncomputable def nmTab : String := ((Tryd.prog.globals[0]?).map (·.name)).getD default
def TabW (w : World) : Prop := Lib.TabIs Tryd.prog w nmTab .u64 Lib.pow10Tab
theorem TabW.lit {w : World} (h : TabW w) : ∀ s,nmTab = s → Lib.TabIs Tryd.prog w s .u64 Lib.pow10Tab := fun s e => by rw [← e]; exact h
theorem nmTab_named : Tryd.prog.globalNamed nmTab = some 0 := by kernel_rfl
theorem TabW.below {w w' : World} (h : TabW w) (hb : Below w.heap.size w w') : TabW w' := by
 unfold TabW Lib.TabIs World.var? at h ⊢
 rw [nmTab_named] at h ⊢
 simp only [Option.bind_some] at h ⊢
 have hlt : 0 < w.heap.size := by
  rcases Nat.lt_or_ge 0 w.heap.size with h' | h'
  · exact h'
  · rw [Array.getElem?_eq_none h'] at h; cases h
 rw [hb.block 0 hlt]
 exact h
theorem itoa_c (n : Int) (w : World) (h0 : -9223372036854775808 ≤ n) (h1 : n ≤ 9223372036854775807) (ht : TabW w) : Calls Tryd.prog 76 #[.int .i64 n] w (Ret (.string ⟨(Lib.itoa n).toArray⟩) w) :=
 (Any.strconv_Itoa laysItoa n h0 h1 w (ht.lit _ (by kernel_rfl))).mono fun e w' ⟨h,k,os,hw⟩ => ⟨h,by rw [hw]; exact Lib.below_grow _ _ (Nat.le_refl _) _ _⟩
end Go.Proofs.YtkifgffhoenaoaaDoor

namespace Go.Proofs.YtkifgffhoenaoaaDoor
open Go.RowKit
set_option linter.unusedSimpArgs false
set_option linter.unusedVariables false
set_option maxRecDepth 100000
set_option maxHeartbeats 1000000 in
theorem union_c (A B : Option Addr) (cA cB : Nat) (a b : List Int) (w : World) (hA : IntsAt w A a) (hB : IntsAt w B b) (ha : a.length ≤ cA) (hb : b.length ≤ cB) (la : a.length + b.length ≤ 100000) :
 Calls Tryd.prog 61 #[.slice A a.length cA,.slice B b.length cB] w (GivesMg (unionV a b) w) := by
 have HC : Hid (Calls Tryd.prog 82 #[.slice A a.length cA,.slice B b.length cB,.func (.func 83) #[] #[]] w (GivesMg (unionV a b) w)) :=
  merge_c A B cA cB a b _ orF (fun args w => by rfl) w (fun V p q => union1_c p q V) hA hB ha hb la
 clear hA hB
 go_enter Tryd.func61,Tryd.ntmps61
 go_wp2_with fail
 refine HC.out.mono ?_
 rintro e w' ⟨A',c',rfl,h1,h2⟩
 go_wp2_with fail
 go_ret
 exact ⟨A',c',rfl,h1,h2⟩
end Go.Proofs.YtkifgffhoenaoaaDoor

