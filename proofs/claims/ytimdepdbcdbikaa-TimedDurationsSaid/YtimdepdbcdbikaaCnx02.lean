/-
  What the row leans on.
-/
import Derived.Test.YtimdepdbcdbikaaBas01
import Derived.Test.YtimdepdbcdbikaaBas21
import Derived.Test.YtimdepdbcdbikaaCnx01
import Derived.Test.YtimdepdbcdbikaaBas17
import Derived.Test.YtimdepdbcdbikaaBas20
import Derived.BigQuiet
import Derived.Great.BuildSlice
import Derived.Deep.MidRow
import Derived.Deep.CutBlock
import Derived.Deep.DeepCutAuto
set_option linter.unusedSimpArgs false
set_option linter.unusedVariables false
namespace Go.Proofs.Ytimdepdbcdbikaa
open Go.RowKit
set_option maxRecDepth 100000
section
attribute [local go_sem] Oper.semAt_some

structure RV where
 v : SV
 n : Int
def RV.rd (x : RV) : Rd := (x.v.c,x.n)
def encQ (x : RV) : List Value := [.int .i64 x.v.c.1,.slice x.v.A x.v.c.2.length x.v.cp,.int .i64 x.n]
theorem encQ_one (x : RV) : ∀ u ∈ encQ x,u.oneCell' = true := fun u hu => by
 simp only [encQ,List.mem_cons,List.not_mem_nil,or_false] at hu;rcases hu with rfl | rfl | rfl <;> rfl
theorem rdInfo : (Try.prog.info? 117).map (fun i => (i.zero,i.size,i.bytes)) = some (some (.agg #[.int .i64 0,.slice none 0 0,.int .i64 0]),3,40) := by kernel_rfl
abbrev eRds (l : List RV) (v : Value) : Ent := eOwn encQ 3 117 l v
theorem Sep.rdAt {n : Nat} {w0 w : World} {es : List Ent} {l : List RV} {g off N c : Nat} (S : Sep n w0 es w) (i : Nat) (hi : es[i]? = some (eRds l (.slice (some ⟨g,off,none⟩) N c))) {k : Nat} {x : RV} (hx : l[k]? = some x) : w.cell? ⟨g,off + k * 3,none⟩ = some (.int .i64 x.v.c.1) ∧ w.cell? ⟨g,off + k * 3 + 1,none⟩ = some (.slice x.v.A x.v.c.2.length x.v.cp) ∧ w.cell? ⟨g,off + k * 3 + 2,none⟩ = some (.int .i64 x.n) := by
 have ho := S.get i hi;obtain ⟨A',c',e⟩ := Own.form ho;cases e;obtain ⟨b,o,y,vs,hA,_,hy,_,hv,hc⟩ := SlAt.at (Own.reads (enc := encQ) (k := 3) (fun _ => rfl) ho) (List.getElem?_eq_some_iff.1 hx).1;cases hA;rw [hx] at hy; cases hy;subst hv;exact ⟨by simpa using hc 0 _ rfl,hc 1 _ rfl,hc 2 _ rfl⟩
theorem Sep.rdForm {n : Nat} {w0 w : World} {es : List Ent} {l : List RV} {A : Option Addr} {N c : Nat} (S : Sep n w0 es w) (i : Nat) (hi : es[i]? = some (eRds l (.slice A N c))) {k : Nat} (hk : k < l.length) : ∃ g off,A = some ⟨g,off,none⟩ := by
 have ho := S.get i hi;obtain ⟨A',c',e⟩ := Own.form ho;cases e;obtain ⟨b,o,y,vs,hA,_⟩ := SlAt.at (Own.reads (enc := encQ) (k := 3) (fun _ => rfl) ho) hk;exact ⟨b,o,hA⟩
theorem Sep.rot3 {n : Nat} {w0 w : World} {a b c : Ent} {es : List Ent} (S : Sep n w0 (a :: b :: c :: es) w) : Sep n w0 (c :: a :: b :: es) w := S.perm ((List.Perm.cons _ (List.Perm.swap _ _ _)).trans (List.Perm.swap _ _ _))
theorem Sep.swapB {n : Nat} {w0 w : World} {e f : Ent} {es : List Ent} (S : Sep n w0 (e :: f :: es) w) : Sep n w0 (f :: e :: es) w := S.perm (List.Perm.swap _ _ _)
theorem Tells.noC {Q : Prop} {w w' : World} {e : Ending} (h : Tells Q w e w') (hq : ¬ Q) : e = .returned (.bool false) ∧ Below w.heap.size w w' := by
 obtain ⟨r,rfl,hr,hb⟩ := h;cases r
 · exact ⟨rfl,hb⟩
 · exact absurd (hr.1 rfl) hq
def GivesAd (n : Nat) (w0 : World) (es : List Ent) (raw : List RV) (x : RV) (e : Ending) (w' : World) : Prop := ∃ (raw' : List RV) (A : Option Addr) (c : Nat),e = .returned (.slice A raw'.length c) ∧ Hid (Sep n w0 (eRds raw' (.slice A raw'.length c) :: eTm (raw'.map RV.v) :: es) w') ∧ Hid (raw'.map RV.rd = addD (raw.map RV.rd) x.rd) ∧ Hid (∀ y,y ∈ raw' → y ∈ raw ∨ y = x)
set_option maxHeartbeats 8000000 in
theorem add_c (raw : List RV) (AL : Option Addr) (cL : Nat) (x : RV) (n : Nat) (w0 w : World) (es : List Ent) (S : Sep n w0 (eRds raw (.slice AL raw.length cL) :: eTm (raw.map RV.v) :: eInts x.v.c.2 (.slice x.v.A x.v.c.2.length x.v.cp) :: es) w) (hr : raw.length ≤ 1000000) (hb : ∀ y,y ∈ raw → y.v.c.2.length ≤ 140737488355328) (hx : x.v.c.2.length ≤ 140737488355328) :
 Calls Try.prog 50 #[.slice AL raw.length cL,.agg (encQ x).toArray] w (GivesAd n w0 es raw x) := by
 have HB := Lib.hid hb;have HXL := Lib.hid hx;have HS := Lib.hid S;clear hb hx S;go_enter Try.func50,Try.ntmps50
 obtain ⟨xb,hxb⟩ : ∃ g,g = w.heap.size := ⟨_,rfl⟩;go_upto_region 1 with fail
 rw [← hxb];refine wp_world (fun W => Hid (Sep n w0 (eBlk xb 117 (encQ x) :: eRds raw (.slice AL raw.length cL) :: eTm (raw.map RV.v) :: eInts x.v.c.2 (.slice x.v.A x.v.c.2.length x.v.cp) :: es) W)) (HS.out.alloc' 117 (encQ x) rfl hxb) fun W S' => ?_;have S0 := Lib.hid S'.out;clear S' HS hxb;go_wp2_with fail
 go_loopw [5] (fun vk wr => ∃ k : Nat,vk = .int .i64 ↑k ∧ k ≤ raw.length ∧ Hid (∀ (s : Nat) (y : RV),s < k → raw[s]? = some y → y.rd ≠ x.rd) ∧ Hid (Sep n w0 (eBlk xb 117 (encQ x) :: eRds raw (.slice AL raw.length cL) :: eTm (raw.map RV.v) :: eInts x.v.c.2 (.slice x.v.A x.v.c.2.length x.v.cp) :: es) wr)) (fun vk _ => raw.length - (intOf vk).toNat)
 case atStart => exact ⟨0,rfl,Nat.zero_le _,fun s y h => absurd h (by omega),S0.out⟩
 case round =>
  clear S0;obtain ⟨k,rfl,hk,HNO,S⟩ := hrel;by_cases hlt : k < raw.length
  · obtain ⟨y,hy⟩ : ∃ y,raw[k]? = some y := ⟨_,List.getElem?_eq_getElem hlt⟩;have HY := Lib.hid hy;have HYL : Hid (y.v.c.2.length ≤ 140737488355328) := HB.out y (List.mem_of_getElem? hy);obtain ⟨g1,o1,h1⟩ := S.out.rdForm 1 rfl hlt;subst h1;have hwk : IntKind.i64.wrap ((k : Int) + 1) = (k : Int) + 1 := IntWalk.i64_in _ (by omega);clear hy;by_cases hn : y.n = x.n
    · have hne : (y.n == x.n) = true := by simp [hn]
      have HN := Lib.hid hn;clear hn;by_cases hq : y.v.c = x.v.c
      · have HQ := Lib.hid hq;clear hq;go_upto_region 4 with fail
        go_cut [29] (fun v wx => v = .bool true ∧ Hid (Sep n w0 (eBlk xb 117 (encQ x) :: eRds raw (.slice (some ⟨g1,o1,none⟩) raw.length cL) :: eTm (raw.map RV.v) :: eInts x.v.c.2 (.slice x.v.A x.v.c.2.length x.v.cp) :: es) wx))
        case first =>
         have S := (show Hid (Sep n w0 ([eBlk xb 117 (encQ x),eRds raw (.slice (some ⟨g1,o1,none⟩) raw.length cL),eTm (raw.map RV.v),eInts x.v.c.2 (.slice x.v.A x.v.c.2.length x.v.cp)] ++ es) wr) from S);have S1 := Lib.hid S.out.drew;refine wp_region_held_drew (S := (fun V => Sep n w0 [eBlk xb 117 (encQ x),eRds raw (.slice (some ⟨g1,o1,none⟩) raw.length cL)] V)) (by kernel_rfl) ?_ (fun hH => ?_)
         · exact S1.out.left.pick [0,1] (by decide)
         generalize hwz : wr.drew = w1 at *;clear hwz;refine tkP 0 rfl (v := ?_) hH ?_;(try simp only [sx]);refine tkP 1 rfl (v := ?_) hH ?_;(try simp only [sx]);refine tkP 2 rfl (v := ?_) hH ?_;(try simp only [sx]);refine tkP 3 rfl (v := ?_) hH ?_;(try simp only [sx]);refine tkH 4 rfl (v := ?_) (by kernel_rfl) ?_ hH ?_;rotate_left
         · intro V hs_;have y2 := (Sep.rdAt (show Sep n w0 _ V from hs_) 1 rfl HY.out).2.2;clear hs_;first | (go_simp; done) | (go_simp; with_reducible rfl)
         (try simp only [sx]);refine tkP 5 rfl (v := ?_) hH ?_;(try simp only [sx]);refine tkH 6 rfl (v := ?_) (by kernel_rfl) ?_ hH ?_;rotate_left
         · intro V hs_;have x2 := BlkAt.cell (Sep.get (show Sep n w0 _ V from hs_) 0 rfl) 2;simp only [encQ,List.getElem?_cons_succ,List.getElem?_cons_zero] at x2;clear hs_;first | (go_simp; done) | (go_simp; with_reducible rfl)
         (try simp only [sx]);refine tkP 7 rfl (v := ?_) hH ?_;(try simp only [sx]);refine tkP 8 rfl (v := ?_) hH ?_;(try simp only [sx]);refine tkP 9 rfl (v := ?_) hH ?_;(try simp only [sx]);refine tkP 10 rfl (v := ?_) hH ?_;(try simp only [sx]);refine tkP 11 rfl (v := ?_) hH ?_;(try simp only [sx]);refine tkP 12 rfl (v := ?_) hH ?_;(try simp only [sx]);refine tkH 13 rfl (v := ?_) (by kernel_rfl) ?_ hH ?_;rotate_left
         · intro V hs_;have y0 := Sep.rdAt (show Sep n w0 _ V from hs_) 1 rfl HY.out;obtain ⟨y0,y1,y2⟩ := y0;clear hs_;first | (go_simp; done) | (go_simp; with_reducible rfl)
         (try simp only [sx]);refine tkP 14 rfl (v := ?_) hH ?_;(try simp only [sx]);refine tkH 15 rfl (v := ?_) (by kernel_rfl) ?_ hH ?_;rotate_left
         · intro V hs_;have x0 := BlkAt.cell (Sep.get (show Sep n w0 _ V from hs_) 0 rfl) 0;have x1 := BlkAt.cell (Sep.get (show Sep n w0 _ V from hs_) 0 rfl) 1;simp only [encQ,List.getElem?_cons_succ,List.getElem?_cons_zero] at x0 x1;clear hs_;first | (go_simp; done) | (go_simp; with_reducible rfl)
         (try simp only [sx]);refine rdH 16 rfl fun K hK => ?_;go_simp;refine (sameState_c y.v.c x.v.c y.v.A x.v.A y.v.cp x.v.cp w1 (S1.out.get 2 rfl y.v (List.mem_map.2 ⟨y,List.mem_of_getElem? HY.out,rfl⟩)) (S1.out.ints 3 rfl) HYL.out HXL.out).mono ?_;intro e_ w2 hs;obtain ⟨rfl,hb⟩ := hs.yes2 HQ.out;have S2 := Lib.hid (S1.out.next hb);clear hb hs;refine hK.out _ _ (S2.out.left.pick [0,1] (by decide)) fun hH => ?_;clear hK K;(try simp only [sx]);refine tkP 17 rfl (v := ?_) hH ?_;(try simp only [sx]);refine wpAnyH_done (by kernel_rfl) ?_ _;go_wp2_with fail
         go_meet
         exact ⟨rfl,S2.out⟩
        case rest =>
         clear S;obtain ⟨rfl,S⟩ := hcut;have hin : x.rd ∈ raw.map RV.rd := List.mem_map.2 ⟨y,List.mem_of_getElem? HY.out,Prod.ext HQ.out HN.out⟩;have HAD : Hid (raw.map RV.rd = addD (raw.map RV.rd) x.rd) := by rw [Hid]; unfold addD; rw [if_pos hin]
         clear hin hne;go_wp2_with fail
         go_ret
         have h2 : Sep n w0 (eRds raw (.slice (some ⟨g1,o1,none⟩) raw.length cL) :: eTm (raw.map RV.v) :: es) wc := by
          have h3 := S.out.drop1;exact h3.rot3.drop1
         exact ⟨raw,(some ⟨g1,o1,none⟩),cL,rfl,h2,HAD.out,fun y h => .inl h⟩
      · have HQ := Lib.hid hq;clear hq;go_upto_region 4 with fail
        go_cut [29] (fun v wx => v = .bool false ∧ Hid (Sep n w0 (eBlk xb 117 (encQ x) :: eRds raw (.slice (some ⟨g1,o1,none⟩) raw.length cL) :: eTm (raw.map RV.v) :: eInts x.v.c.2 (.slice x.v.A x.v.c.2.length x.v.cp) :: es) wx))
        case first =>
         have S := (show Hid (Sep n w0 ([eBlk xb 117 (encQ x),eRds raw (.slice (some ⟨g1,o1,none⟩) raw.length cL),eTm (raw.map RV.v),eInts x.v.c.2 (.slice x.v.A x.v.c.2.length x.v.cp)] ++ es) wr) from S);have S1 := Lib.hid S.out.drew;refine wp_region_held_drew (S := (fun V => Sep n w0 [eBlk xb 117 (encQ x),eRds raw (.slice (some ⟨g1,o1,none⟩) raw.length cL)] V)) (by kernel_rfl) ?_ (fun hH => ?_)
         · exact S1.out.left.pick [0,1] (by decide)
         generalize hwz : wr.drew = w1 at *;clear hwz;refine tkP 0 rfl (v := ?_) hH ?_;(try simp only [sx]);refine tkP 1 rfl (v := ?_) hH ?_;(try simp only [sx]);refine tkP 2 rfl (v := ?_) hH ?_;(try simp only [sx]);refine tkP 3 rfl (v := ?_) hH ?_;(try simp only [sx]);refine tkH 4 rfl (v := ?_) (by kernel_rfl) ?_ hH ?_;rotate_left
         · intro V hs_;have y2 := (Sep.rdAt (show Sep n w0 _ V from hs_) 1 rfl HY.out).2.2;clear hs_;first | (go_simp; done) | (go_simp; with_reducible rfl)
         (try simp only [sx]);refine tkP 5 rfl (v := ?_) hH ?_;(try simp only [sx]);refine tkH 6 rfl (v := ?_) (by kernel_rfl) ?_ hH ?_;rotate_left
         · intro V hs_;have x2 := BlkAt.cell (Sep.get (show Sep n w0 _ V from hs_) 0 rfl) 2;simp only [encQ,List.getElem?_cons_succ,List.getElem?_cons_zero] at x2;clear hs_;first | (go_simp; done) | (go_simp; with_reducible rfl)
         (try simp only [sx]);refine tkP 7 rfl (v := ?_) hH ?_;(try simp only [sx]);refine tkP 8 rfl (v := ?_) hH ?_;(try simp only [sx]);refine tkP 9 rfl (v := ?_) hH ?_;(try simp only [sx]);refine tkP 10 rfl (v := ?_) hH ?_;(try simp only [sx]);refine tkP 11 rfl (v := ?_) hH ?_;(try simp only [sx]);refine tkP 12 rfl (v := ?_) hH ?_;(try simp only [sx]);refine tkH 13 rfl (v := ?_) (by kernel_rfl) ?_ hH ?_;rotate_left
         · intro V hs_;have y0 := Sep.rdAt (show Sep n w0 _ V from hs_) 1 rfl HY.out;obtain ⟨y0,y1,y2⟩ := y0;clear hs_;first | (go_simp; done) | (go_simp; with_reducible rfl)
         (try simp only [sx]);refine tkP 14 rfl (v := ?_) hH ?_;(try simp only [sx]);refine tkH 15 rfl (v := ?_) (by kernel_rfl) ?_ hH ?_;rotate_left
         · intro V hs_;have x0 := BlkAt.cell (Sep.get (show Sep n w0 _ V from hs_) 0 rfl) 0;have x1 := BlkAt.cell (Sep.get (show Sep n w0 _ V from hs_) 0 rfl) 1;simp only [encQ,List.getElem?_cons_succ,List.getElem?_cons_zero] at x0 x1;clear hs_;first | (go_simp; done) | (go_simp; with_reducible rfl)
         (try simp only [sx]);refine rdH 16 rfl fun K hK => ?_;go_simp;refine (sameState_c y.v.c x.v.c y.v.A x.v.A y.v.cp x.v.cp w1 (S1.out.get 2 rfl y.v (List.mem_map.2 ⟨y,List.mem_of_getElem? HY.out,rfl⟩)) (S1.out.ints 3 rfl) HYL.out HXL.out).mono ?_;intro e_ w2 hs;obtain ⟨rfl,hb⟩ := hs.noC HQ.out;have S2 := Lib.hid (S1.out.next hb);clear hb hs;refine hK.out _ _ (S2.out.left.pick [0,1] (by decide)) fun hH => ?_;clear hK K;(try simp only [sx]);refine tkP 17 rfl (v := ?_) hH ?_;(try simp only [sx]);refine wpAnyH_done (by kernel_rfl) ?_ _;go_wp2_with fail
         go_meet
         exact ⟨rfl,S2.out⟩
        case rest =>
         clear S;obtain ⟨rfl,S⟩ := hcut;have HN2 : Hid (∀ (s : Nat) (z : RV),s < k + 1 → raw[s]? = some z → z.rd ≠ x.rd) := fun s z hs hz => by
          by_cases g : s = k
          · subst g; rw [HY.out] at hz; cases hz; exact fun e => HQ.out (congrArg Prod.fst e)
          · exact HNO.out s z (by omega) hz
         clear hne;go_wp2_with fail
         go_roundw
         case rel => exact ⟨k + 1,by go_num,by omega,HN2.out,S.out⟩
         case measure => simp [intOf]; omega
    · have hne : (y.n == x.n) = false := beq_eq_false_iff_ne.2 hn;have HN := Lib.hid hn;clear hn;have HN2 : Hid (∀ (s : Nat) (z : RV),s < k + 1 → raw[s]? = some z → z.rd ≠ x.rd) := fun s z hs hz => by
       by_cases g : s = k
       · subst g; rw [HY.out] at hz; cases hz; exact fun e => HN.out (congrArg Prod.snd e)
       · exact HNO.out s z (by omega) hz
      have y2 := (S.out.rdAt 1 rfl HY.out).2.2;have x2 := BlkAt.cell (S.out.get 0 rfl) 2;simp only [encQ,List.getElem?_cons_succ,List.getElem?_cons_zero] at x2;go_upto_region 4 with fail
      go_quiet (fail)
      go_wp2_with fail
      go_roundw
      case rel => exact ⟨k + 1,by go_num,by omega,HN2.out,S.out.draws _⟩
      case measure => simp [intOf]; omega
  · obtain rfl : k = raw.length := by omega
    have hni : ¬ x.rd ∈ raw.map RV.rd := fun g => by
     obtain ⟨y,hy,hyd⟩ := List.mem_map.1 g;obtain ⟨s,hs,hys⟩ := List.mem_iff_getElem.1 hy;exact HNO.out s y hs (by rw [List.getElem?_eq_getElem hs,hys]) hyd
    have HAD : Hid ((raw ++ [x]).map RV.rd = addD (raw.map RV.rd) x.rd) := by rw [Hid]; unfold addD; rw [if_neg hni,List.map_append]; rfl
    clear hni HNO;have x0 := BlkAt.cell (S.out.get 0 rfl) 0; have x1 := BlkAt.cell (S.out.get 0 rfl) 1; have x2 := BlkAt.cell (S.out.get 0 rfl) 2;simp only [encQ,List.getElem?_cons_succ,List.getElem?_cons_zero] at x0 x1 x2;go_wp2_with (at_builtin; refine wpList_pushS rfl _ _ 118 rfl (S.out.alloc 117 [.int .i64 x.v.c.1,.slice x.v.A x.v.c.2.length x.v.cp,.int .i64 x.n]) 2 rfl Try.underlying118 _ 40 rdInfo rfl (by decide) rfl x _ rfl rfl (one_cell _ _ [_,_,_] _ rfl) (encQ_one _) (by omega) (by decide) ?_)
    intro A7 c7 w7 S7 _;have S8 : Hid (Sep n w0 (eRds (raw ++ [x]) (.slice A7 (raw ++ [x]).length c7) :: eTm ((raw ++ [x]).map RV.v) :: es) w7) := by
     have h1 : Sep n w0 (eRds (raw ++ [x]) (.slice A7 (raw.length + 1) c7) :: eTm (raw.map RV.v) :: eInts x.v.c.2 (.slice x.v.A x.v.c.2.length x.v.cp) :: es) w7 := S7.drop1.drop1;have h2 := h1.rot3.perm (List.Perm.cons _ (List.Perm.swap _ _ _));have h3 := h2.tmIn;rw [List.length_append,List.length_singleton,List.map_append];exact Sep.swapB h3
    clear S7 S x0 x1 x2;go_wp2_with fail
    refine bodyPost_ret (v := .slice A7 (raw.length + 1) c7) (by simp [results,Try.results50,go_sem]) rfl ?_;exact ⟨raw ++ [x],A7,c7,by rw [List.length_append]; rfl,S8.out,HAD.out,fun y h => by simpa using h⟩
end
section
attribute [local go_sem] Oper.semAt_some

def GivesDr (m : Md) (most : Int) (wd : List Int) (w : World) (e : Ending) (w' : World) : Prop := ∃ (x y : Int) (f : Bool),e = .returned (.tuple #[.int .i64 x,.int .i64 y,.bool f]) ∧ Below w.heap.size w w' ∧ (x,y,f) = refDu (refL m most wd wd.length) most
def CurOk (Ex : Ent) (raw : List RV) (c : Ck) (A : Option Addr) (cp : Nat) : Prop := (Ex = eNo ∧ (⟨c,A,cp⟩ : SV) ∈ raw.map RV.v) ∨ Ex = eInts c.2 (.slice A c.2.length cp)
theorem CurOk.ints {Ex : Ent} {raw : List RV} {c : Ck} {A : Option Addr} {cp : Nat} (h : CurOk Ex raw c A cp) {n : Nat} {w0 W : World} {es : List Ent} (S : Sep n w0 es W) (i j : Nat) (hi : es[i]? = some Ex) (hj : es[j]? = some (eTm (raw.map RV.v))) : IntsAt W A c.2 := by
 rcases h with ⟨_,h⟩ | h
 · exact (S.get j hj) _ h
 · subst h; exact S.ints i hi
theorem waitD_stop {m : Md} {e most : Int} {s : Ck} {n : Int} {nx : List Rd} (h : ¬ n ≤ most) : waitD m e most (fuelD most n) s n nx = nx := by
 have : fuelD most n = 0 := by unfold fuelD; omega
 rw [this]; rfl
theorem waitD_go {m : Md} {e most : Int} {s : Ck} {n : Int} {nx : List Rd} (h : n ≤ most) : waitD m e most (fuelD most n) s n nx = match m.tick s with
 | none => putD m e s n nx
 | some s' => waitD m e most (fuelD most (n + 1)) s' (n + 1) (putD m e s n nx) := by
 have : fuelD most n = fuelD most (n + 1) + 1 := by unfold fuelD; omega
 rw [this];show (if n ≤ most then _ else _) = _
 rw [if_pos h];cases m.tick s <;> rfl
set_option maxHeartbeats 16000000 in
theorem durations_c (m : Md) (P : MdP) (AW : Option Addr) (cW : Nat) (wd : List Int) (most : Int) (w : World) (hm : m.Ok) (hA : Md.At w m P) (hn : 0 < m.a.n) (hW : IntsAt w AW wd) (hl : wd.length ≤ 4) (h0 : 0 ≤ most) (h28 : most ≤ 28) (hw : ∀ v,v ∈ wd → v ∈ m.a.al) :
 Calls Try.prog 15 #[.agg (m.cells P).toArray,.slice AW wd.length cW,.int .i64 most] w (GivesDr m most wd w) := by
 have h32 := hm.len32;have HM := Lib.hid hm;have HA := Lib.hid hA;have HW := Lib.hid hW;have HVW := Lib.hid hw;obtain ⟨st,hst⟩ : ∃ s,s = m.start := ⟨_,rfl⟩;have IR : Hid (∀ (W : World),Md.At W m P → Calls Try.prog 24 #[.agg (m.cells P).toArray] W (GivesStT st W)) := fun W h => by rw [hst]; exact initial44_c m P W hm h
 have R0 : Hid ([((st : Ck),(0 : Int))] = refL m most wd 0) := by rw [hst]; rfl
 have RL : Hid (∀ i,i ≤ wd.length → (refL m most wd i).length ≤ 707281 ∧ ∀ x,x ∈ refL m most wd i → m.Is x.1 ∧ 0 ≤ x.2 ∧ x.2 ≤ most) := fun i hi => by
  have h1 := refL_len hm hn h0 h28 hw i hi;have h2 : 29 ^ i ≤ 29 ^ 4 := Nat.pow_le_pow_right (by decide) (by omega);refine ⟨Nat.le_trans h1 h2,fun x hx => ?_⟩;have h3 := (refL_mem hm hn h0 hw i hi x.1 x.2).1 hx;have h4 := reT_is hm hn wd i x.1 x.2 h3.1;exact ⟨h4.1,h4.2,h3.2⟩
 have RW : Hid (∀ i,i < wd.length → ∀ k,k ≤ (refL m most wd i).length → (rowD m (wd.getD i 0) most (refL m most wd i) k).length ≤ 29 * k) := fun i hi k hk => by
  have h1 : ∀ x,x ∈ refL m most wd i → 0 ≤ x.2 := fun x hx => by
   have h3 := (refL_mem hm hn h0 hw i (by omega) x.1 x.2).1 hx;exact (reT_is hm hn wd i x.1 x.2 h3.1).2
  exact rowD_len h28 h1 k hk
 have RL3 : Hid (∀ i,i < wd.length → (refL m most wd i).length ≤ 24389) := fun i hi => by
  have h1 := refL_len hm hn h0 h28 hw i (by omega);have h2 : 29 ^ i ≤ 29 ^ 3 := Nat.pow_le_pow_right (by decide) (by omega);exact Nat.le_trans h1 h2
 obtain ⟨p,B,d⟩ := P;clear hm hA hn hW hw hst;go_enter Try.func15,Try.ntmps15
 obtain ⟨mb,hmb⟩ : ∃ g,g = w.heap.size := ⟨_,rfl⟩;go_upto_region 1 with fail
 rw [← hmb];refine wp_world (fun W => (SepW w [eBlk mb 37 [.slice p.A1 m.a.al.length p.c1,.int .i64 m.a.n,.slice p.A2 m.a.mr.length p.c2,.slice p.A3 m.a.ed.length p.c3,.slice B m.ac.length d,.int .i64 m.tk]] W)) ((Sep.here w).alloc' _ [_,_,_,_,_,_] rfl hmb) fun W S => ?_;have S0 := Lib.hid S.out;clear S hmb;have f_mb0 := qkC S0.out 0 rfl 0 rfl;have f_mb1 := qkC S0.out 0 rfl 1 rfl;have f_mb2 := qkC S0.out 0 rfl 2 rfl;have f_mb3 := qkC S0.out 0 rfl 3 rfl;have f_mb4 := qkC S0.out 0 rfl 4 rfl;have f_mb5 := qkC S0.out 0 rfl 5 rfl;go_wp2_with fail
 refine (IR.out W (HA.out.below S0.out.below)).mono ?_;rintro e51 v51 ⟨AI,cI,rfl,T⟩;have T51 := qkN S0.out T.out;clear f_mb0 f_mb1 f_mb2 f_mb3 f_mb4 f_mb5 T S0;obtain ⟨gf,hgf⟩ : ∃ g,g = v51.heap.size := ⟨_,rfl⟩;go_upto_region 2 with fail
 rw [← hgf];refine wp_world (fun V => (SepW w [eRds [(⟨⟨st,AI,cI⟩,0⟩ : RV)] (.slice (some ⟨gf,0,none⟩) 1 1),eTm ([(⟨⟨st,AI,cI⟩,0⟩ : RV)].map RV.v),eBlk mb 37 [.slice p.A1 m.a.al.length p.c1,.int .i64 m.a.n,.slice p.A2 m.a.mr.length p.c2,.slice p.A3 m.a.ed.length p.c3,.slice B m.ac.length d,.int .i64 m.tk]] V)) ?_ fun W1 S' => ?_
 · have h := (T51.out.alloc' 117 [.int .i64 st.1,.slice AI st.2.length cI,.int .i64 0] rfl hgf).own 0 rfl encQ 3 [(⟨⟨st,AI,cI⟩,0⟩ : RV)] rfl (fun _ => rfl) (by simp [maxLen]);have h2 := ((h.tmNil).pick [2,0,1,3] (by decide)).tmIn;exact h2.pick [1,0,2] (by decide)
 have S1 := Lib.hid S'.out;clear S' T51 hgf IR;go_wp2_with fail
 go_loopw [10,9] (fun vi vl wr => ∃ (i : Nat) (raw : List RV) (AL : Option Addr) (cL : Nat),vi = .int .i64 ↑i ∧ vl = .slice AL raw.length cL ∧ i ≤ wd.length ∧ Hid (raw.map RV.rd = refL m most wd i) ∧ (SepW w [eRds raw (.slice AL raw.length cL),eTm (raw.map RV.v),eBlk mb 37 [.slice p.A1 m.a.al.length p.c1,.int .i64 m.a.n,.slice p.A2 m.a.mr.length p.c2,.slice p.A3 m.a.ed.length p.c3,.slice B m.ac.length d,.int .i64 m.tk]] wr)) (fun vi _ _ => wd.length - (intOf vi).toNat)
 case atStart => exact ⟨0,[⟨⟨st,AI,cI⟩,0⟩],_,_,rfl,rfl,Nat.zero_le _,R0.out,S1.out⟩
 case round =>
  clear S1 R0;obtain ⟨i,raw,AL,cL,rfl,rfl,hi,HRW,S⟩ := hrel;by_cases hlt : i < wd.length
  · obtain ⟨e,he⟩ : ∃ e,e = wd.getD i 0 := ⟨_,rfl⟩;have hrl : raw.length ≤ 24389 := by have h := RL3.out i hlt; rw [← HRW.out,List.length_map] at h; exact h
    have HWE : Hid (wd[i]? = some e) := by rw [Hid,he,List.getD_eq_getElem?_getD,List.getElem?_eq_getElem hlt]; rfl
    have HEA : Hid (e ∈ m.a.al) := HVW.out e (List.mem_of_getElem? HWE.out);have RWK : Hid (∀ k,k ≤ raw.length → (rowD m e most (raw.map RV.rd) k).length ≤ 29 * k) := fun k hk => by
     have := RW.out i hlt k (by rw [← HRW.out,List.length_map]; exact hk);rw [← he,← HRW.out] at this;exact this
    have HXS : Hid (∀ x,x ∈ raw → m.Is x.v.c ∧ 0 ≤ x.n ∧ x.n ≤ most) := fun x hx => by
     have := (RL.out i hi).2 x.rd (by rw [← HRW.out]; exact List.mem_map.2 ⟨x,hx,rfl⟩);exact this
    have HNX : Hid (rowD m e most (raw.map RV.rd) raw.length = refL m most wd (i + 1)) := by
     show _ = rowD m (wd.getD i 0) most (refL m most wd i) (refL m most wd i).length
     rw [← he,← HRW.out,List.length_map]
    have R00 : Hid (([] : List RV).map RV.rd = rowD m e most (raw.map RV.rd) 0) := by rw [Hid]; simp [rowD]
    have S2 : (SepW w [eRds ([] : List RV) (.slice none 0 0),eTm (([] : List RV).map RV.v),eRds raw (.slice AL raw.length cL),eTm (raw.map RV.v),eBlk mb 37 [.slice p.A1 m.a.al.length p.c1,.int .i64 m.a.n,.slice p.A2 m.a.mr.length p.c2,.slice p.A3 m.a.ed.length p.c3,.slice B m.ac.length d,.int .i64 m.tk]] wr) := ((S.out.tmNil).nilOwn encQ 3 117);obtain ⟨gw,ow,e2,hAW,_,he2,hec⟩ := IntsAt.at (HW.out.below IntE.stays S.out.below) hlt;subst hAW;have WDC : Hid (∀ W : World,Below w.heap.size w W → W.cell? ⟨gw,ow + i,none⟩ = some (.int .i64 e)) := fun W hb => by
     obtain ⟨gt2,ot2,y2,h1,_,h2,h3⟩ := IntsAt.at (HW.out.below IntE.stays hb) hlt;cases h1;rw [HWE.out] at h2;cases h2;exact h3
    clear S he he2 hec;go_wp2_with fail
    go_loopw [12,11] (fun vk vn wr => ∃ (k : Nat) (raw2 : List RV) (A2 : Option Addr) (c2 : Nat),vk = .int .i64 ↑k ∧ vn = .slice A2 raw2.length c2 ∧ k ≤ raw.length ∧ Hid (raw2.map RV.rd = rowD m e most (raw.map RV.rd) k) ∧ Hid (∀ y,y ∈ raw2 → m.Is y.v.c) ∧ (SepW w [eRds raw2 (.slice A2 raw2.length c2),eTm (raw2.map RV.v),eRds raw (.slice AL raw.length cL),eTm (raw.map RV.v),eBlk mb 37 [.slice p.A1 m.a.al.length p.c1,.int .i64 m.a.n,.slice p.A2 m.a.mr.length p.c2,.slice p.A3 m.a.ed.length p.c3,.slice B m.ac.length d,.int .i64 m.tk]] wr)) (fun vk _ _ => raw.length - (intOf vk).toNat)
    case atStart => exact ⟨0,[],none,0,rfl,rfl,Nat.zero_le _,R00.out,(fun y hy => by cases hy),S2.out⟩
    case round =>
     clear S2 R00;obtain ⟨k,raw2,A2,c2,rfl,rfl,hk,HR2,HI2,S⟩ := hrel;by_cases hkl : k < raw.length
     · obtain ⟨x,hx⟩ : ∃ x,raw[k]? = some x := ⟨_,List.getElem?_eq_getElem hkl⟩;obtain ⟨gl,ol,hAL⟩ := S.out.rdForm 2 rfl hkl;subst hAL;obtain ⟨y0,y1,y2⟩ := S.out.rdAt 2 rfl hx;obtain ⟨hxi,hx0,hx1⟩ := HXS.out x (List.mem_of_getElem? hx);have HNK : Hid (rowD m e most (raw.map RV.rd) (k + 1) = waitD m e most (fuelD most x.n) x.v.c x.n (raw2.map RV.rd)) := by
        rw [Hid,HR2.out];exact rowD_next (x := x.rd) (by rw [List.getElem?_map,hx]; rfl)
       have HXM : Hid (x.v ∈ raw.map RV.v) := List.mem_map.2 ⟨x,List.mem_of_getElem? hx,rfl⟩;have HXI := Lib.hid hxi;have r2l : raw2.length ≤ 29 * k := by have h := RWK.out k (by omega); rw [← HR2.out,List.length_map] at h; exact h
       obtain ⟨sb,hsb⟩ : ∃ g,g = wr.heap.size := ⟨_,rfl⟩;go_upto_region 10 with fail
       rw [← hsb];refine wp_world (fun V => (SepW w [eBlk sb 63 [.int .i64 x.v.c.1,.slice x.v.A x.v.c.2.length x.v.cp],eNo,eRds raw2 (.slice A2 raw2.length c2),eTm (raw2.map RV.v),eRds raw (.slice (some ⟨gl,ol,none⟩) raw.length cL),eTm (raw.map RV.v),eBlk mb 37 [.slice p.A1 m.a.al.length p.c1,.int .i64 m.a.n,.slice p.A2 m.a.mr.length p.c2,.slice p.A3 m.a.ed.length p.c3,.slice B m.ac.length d,.int .i64 m.tk]] V)) (((S.out.no).alloc' 63 [.int .i64 x.v.c.1,.slice x.v.A x.v.c.2.length x.v.cp] rfl hsb)) fun W5 S' => ?_;have S5 := Lib.hid S'.out;clear S' S y0 y1 y2 hsb;have y2 := (S5.out.rdAt 4 rfl hx).2.2;clear hx hxi;go_wp2_with fail
       clear y2;go_loopw [14,15,11] (fun vs vt vn wr => ∃ (is : Bool) (t : Int) (c : Ck) (AC : Option Addr) (cpC : Nat) (Ex : Ent) (raw3 : List RV) (A3 : Option Addr) (c3 : Nat),vs = .bool is ∧ vt = .int .i64 t ∧ vn = .slice A3 raw3.length c3 ∧ (0 ≤ t ∧ t ≤ most + 1) ∧ Hid (is = true → m.Is c ∧ waitD m e most (fuelD most t) c t (raw3.map RV.rd) = rowD m e most (raw.map RV.rd) (k + 1)) ∧ Hid (is = false → raw3.map RV.rd = rowD m e most (raw.map RV.rd) (k + 1)) ∧ Hid (raw3.length ≤ 29 * k + t.toNat) ∧ Hid (∀ y,y ∈ raw3 → m.Is y.v.c) ∧ Hid (CurOk Ex raw c AC cpC) ∧ (SepW w [eBlk sb 63 [.int .i64 c.1,.slice AC c.2.length cpC],Ex,eRds raw3 (.slice A3 raw3.length c3),eTm (raw3.map RV.v),eRds raw (.slice (some ⟨gl,ol,none⟩) raw.length cL),eTm (raw.map RV.v),eBlk mb 37 [.slice p.A1 m.a.al.length p.c1,.int .i64 m.a.n,.slice p.A2 m.a.mr.length p.c2,.slice p.A3 m.a.ed.length p.c3,.slice B m.ac.length d,.int .i64 m.tk]] wr)) (fun _ vt _ _ => 30 - (intOf vt).toNat)
       case atStart => exact ⟨true,x.n,x.v.c,x.v.A,x.v.cp,eNo,raw2,A2,c2,rfl,rfl,rfl,⟨hx0,by omega⟩,(fun _ => ⟨HXI.out,HNK.out.symm⟩),(fun h => by cases h),(by show raw2.length ≤ 29 * k + x.n.toNat; omega),HI2.out,.inl ⟨rfl,HXM.out⟩,S5.out⟩
       case round =>
        clear S5 HR2 HI2 HNK HXM HXI r2l hx0 hx1;obtain ⟨is,t,c,AC,cpC,Ex,raw3,A3,c3,rfl,rfl,rfl,ht,HT,HFA,HLN,HI3,HCU,S⟩ := hrel;cases is
        · have HN3 : Hid (raw3.map RV.rd = rowD m e most (raw.map RV.rd) (k + 1)) := HFA.out rfl;have hwk : IntKind.i64.wrap ((k : Int) + 1) = (k : Int) + 1 := IntWalk.i64_in _ (by omega);have S9 := Lib.hid (S.out.pick [2,3,4,5,6] (by decide));clear S;go_wp2_with fail
          go_roundw
          case rel => exact ⟨k + 1,raw3,A3,c3,by go_num,rfl,by omega,HN3.out,HI3.out,S9.out⟩
          case measure => simp [intOf]; omega
        · obtain ⟨hci,hwt⟩ := HT.out rfl;by_cases htm : t ≤ most
          · have htd : decide (t ≤ most) = true := decide_eq_true htm;have HWG : Hid ((match m.tick c with
             | none => putD m e c t (raw3.map RV.rd)
             | some s' => waitD m e most (fuelD most (t + 1)) s' (t + 1) (putD m e c t (raw3.map RV.rd))) = rowD m e most (raw.map RV.rd) (k + 1)) := by rw [Hid,← hwt,waitD_go htm]
            have HCI := Lib.hid hci;have hwt1 : IntKind.i64.wrap (t + 1) = t + 1 := IntWalk.i64_in _ (by omega);obtain ⟨r,hr⟩ : ∃ r,r = m.eff e c := ⟨_,rfl⟩;obtain ⟨dd,hdd⟩ : ∃ d,d = r.getD (0,[]) := ⟨_,rfl⟩;obtain ⟨bb,hbb⟩ : ∃ b,b = r.isSome := ⟨_,rfl⟩;have SR : Hid (∀ (W : World),Md.At W m ⟨p,B,d⟩ → IntsAt W AC c.2 → Calls Try.prog 25 #[.agg #[.slice p.A1 m.a.al.length p.c1,.int .i64 m.a.n,.slice p.A2 m.a.mr.length p.c2,.slice p.A3 m.a.ed.length p.c3,.slice B m.ac.length d,.int .i64 m.tk],.agg #[.int .i64 c.1,.slice AC c.2.length cpC],.int .i64 e] W (GivesLastR dd bb W)) := fun W h h2 => by
             rw [hdd,hbb,hr];exact (stepR_c m ⟨p,B,d⟩ c e AC cpC W HM.out h h2 HCI.out).mono fun _ _ g => g
            have HPUT : Hid ((bb = true ∧ m.Is dd ∧ putD m e c t (raw3.map RV.rd) = addD (raw3.map RV.rd) (dd,t)) ∨ (bb = false ∧ putD m e c t (raw3.map RV.rd) = raw3.map RV.rd)) := by
             unfold putD
             rw [Hid,← hr,hdd,hbb];cases hrr : r with
             | none => exact .inr ⟨rfl,rfl⟩
             | some z => exact .inl ⟨rfl,HCI.out.eff HM.out (by rw [← hr]; exact hrr),rfl⟩
            obtain ⟨r2,hr2⟩ : ∃ r,r = m.tick c := ⟨_,rfl⟩;obtain ⟨d2,hd2⟩ : ∃ d,d = r2.getD (0,[]) := ⟨_,rfl⟩;obtain ⟨b2,hb2⟩ : ∃ b,b = r2.isSome := ⟨_,rfl⟩;have SR2 : Hid (∀ (W : World),Md.At W m ⟨p,B,d⟩ → IntsAt W AC c.2 → Calls Try.prog 25 #[.agg #[.slice p.A1 m.a.al.length p.c1,.int .i64 m.a.n,.slice p.A2 m.a.mr.length p.c2,.slice p.A3 m.a.ed.length p.c3,.slice B m.ac.length d,.int .i64 m.tk],.agg #[.int .i64 c.1,.slice AC c.2.length cpC],.int .i64 m.tk] W (GivesLastR d2 b2 W)) := fun W h h2 => by
             rw [hd2,hb2,hr2,← Md.eff_tick];exact (stepR_c m ⟨p,B,d⟩ c m.tk AC cpC W HM.out h h2 HCI.out).mono fun _ _ g => g
            have HTK : Hid ((b2 = true → m.Is d2 ∧ waitD m e most (fuelD most (t + 1)) d2 (t + 1) (putD m e c t (raw3.map RV.rd)) = rowD m e most (raw.map RV.rd) (k + 1)) ∧ (b2 = false → putD m e c t (raw3.map RV.rd) = rowD m e most (raw.map RV.rd) (k + 1))) := by
             have h := HWG.out;rw [← hr2] at h;rw [Hid,hd2,hb2];cases hrr : r2 with
             | none =>
               rw [hrr] at h;exact ⟨(fun g => by cases g),fun _ => h⟩
             | some z =>
               rw [hrr] at h;exact ⟨fun _ => ⟨HCI.out.tick HM.out (by rw [← hr2]; exact hrr),h⟩,(fun g => by cases g)⟩
            have RDS : Hid (∀ (W : World) (n : Nat) (w0 : World) (es : List Ent),Sep n w0 es W → ∀ i j,es[i]? = some Ex → es[j]? = some (eTm (raw.map RV.v)) → IntsAt W AC c.2) := fun W n w0 es S i j h1 h2 => HCU.out.ints S i j h1 h2;clear hci hwt HT HFA HWG hr hdd hbb hr2 hd2 hb2;go_upto_region 13 with fail
            go_cut [16,17] (fun u v wx => ∃ (nb : Nat) (A1 : Option Addr) (c1 : Nat),u = .pointer (some ⟨nb,0,none⟩) ∧ v = .bool bb ∧ (SepW w [eBlk nb 63 [.int .i64 dd.1,.slice A1 dd.2.length c1],eInts dd.2 (.slice A1 dd.2.length c1),eBlk sb 63 [.int .i64 c.1,.slice AC c.2.length cpC],Ex,eRds raw3 (.slice A3 raw3.length c3),eTm (raw3.map RV.v),eRds raw (.slice (some ⟨gl,ol,none⟩) raw.length cL),eTm (raw.map RV.v),eBlk mb 37 [.slice p.A1 m.a.al.length p.c1,.int .i64 m.a.n,.slice p.A2 m.a.mr.length p.c2,.slice p.A3 m.a.ed.length p.c3,.slice B m.ac.length d,.int .i64 m.tk]] wx))
            case first =>
             clear SR2 HTK HPUT hwt1;have S1 := Lib.hid S.out.drew;refine wp_region_held_drew (S := (fun V => Sep w.heap.size w [eBlk mb 37 [.slice p.A1 m.a.al.length p.c1,.int .i64 m.a.n,.slice p.A2 m.a.mr.length p.c2,.slice p.A3 m.a.ed.length p.c3,.slice B m.ac.length d,.int .i64 m.tk],eBlk sb 63 [.int .i64 c.1,.slice AC c.2.length cpC]] V)) (by kernel_rfl) ?_ (fun hH => ?_)
             · exact S1.out.pick [6,0] (by decide)
             generalize hwz : wr.drew = w1 at *;clear hwz;rw [show Array.replicate _ false = #[false,false,false,false,false,false,false,false,false,false,false,false,false] from rfl];refine tkH 0 rfl (v := ?_) (by kernel_rfl) ?_ hH ?_;rotate_left
             · intro V hs_;have b0 := qkC hs_ 0 rfl 0 rfl;have b1 := qkC hs_ 0 rfl 1 rfl;have b2 := qkC hs_ 0 rfl 2 rfl;have b3 := qkC hs_ 0 rfl 3 rfl;have b4 := qkC hs_ 0 rfl 4 rfl;have b5 := qkC hs_ 0 rfl 5 rfl;clear hs_;first | (go_simp; done) | (go_simp; with_reducible rfl)
             (try simp only [sx]);refine tkH 1 rfl (v := ?_) (by kernel_rfl) ?_ hH ?_;rotate_left
             · intro V hs_;have s0 := qkC hs_ 1 rfl 0 rfl;have s1 := qkC hs_ 1 rfl 1 rfl;clear hs_;first | (go_simp; done) | (go_simp; with_reducible rfl)
             (try simp only [sx]);refine tkP 2 rfl (v := ?_) hH ?_;(try simp only [sx]);refine tkP 3 rfl (v := ?_) hH ?_;(try simp only [sx]);refine tkP 4 rfl (v := ?_) hH ?_;(try simp only [sx]);refine tkH 5 rfl (v := ?_) (by kernel_rfl) ?_ hH ?_;rotate_left
             · intro V hs_;have z0 := WDC.out V (show Sep w.heap.size w _ V from hs_).below;clear hs_;first | (go_simp; done) | (go_simp; with_reducible rfl)
             (try simp only [sx]);refine act_name ?_;intro A0 hA0;obtain ⟨F,hF⟩ : ∃ F : Value → Value → Value → Value → Value → Value → Act,Hid (∀ x60 x53 x61 x62 x16 x17,F x60 x53 x61 x62 x16 x17 = ((((((A0.put (some 60) x60).put (some 53) x53).put (some 61) x61).put (some 62) x62).put (some 16) x16).put (some 17) x17)) := ⟨fun x60 x53 x61 x62 x16 x17 => ((((((A0.put (some 60) x60).put (some 53) x53).put (some 61) x61).put (some 62) x62).put (some 16) x16).put (some 17) x17),fun _ _ _ _ _ _ => rfl⟩;subst hA0;unfold Hid at hF
             simp only [List.getElem_toArray,List.getElem_cons_zero,List.getElem_cons_succ,Act.put,List.setIfInBounds_toArray,List.set_cons_zero,List.set_cons_succ] at hF;have HF := Lib.hid hF;clear hF
             obtain ⟨INV,hI⟩ : ∃ I : Array Bool → Act → World → Prop,Hid (∀ l_ a_ W_,I l_ a_ W_ ↔ ∃ (fb6 fb7 fb8 fb9 fb10 fb11 fb12 : Bool) (x60 x53 x61 x62 x16 x17 : Value) (E_nt E_q E_nb : Ent),l_ = #[true,true,true,true,true,true,fb6,fb7,fb8,fb9,fb10,fb11,fb12] ∧ a_ = F x60 x53 x61 x62 x16 x17 ∧ (SepW w [E_nt,E_q,E_nb,eBlk sb 63 [.int .i64 c.1,.slice AC c.2.length cpC],Ex,eRds raw3 (.slice A3 raw3.length c3),eTm (raw3.map RV.v),eRds raw (.slice (some ⟨gl,ol,none⟩) raw.length cL),eTm (raw.map RV.v),eBlk mb 37 [.slice p.A1 m.a.al.length p.c1,.int .i64 m.a.n,.slice p.A2 m.a.mr.length p.c2,.slice p.A3 m.a.ed.length p.c3,.slice B m.ac.length d,.int .i64 m.tk]] W_) ∧ True ∧ Hid (fb7 = true → fb6 = true) ∧ Hid (fb8 = true → fb7 = true) ∧ Hid (fb9 = true → fb7 = true) ∧ Hid (fb11 = true → fb8 = true) ∧ Hid (fb11 = true → fb10 = true) ∧ Hid (fb12 = true → fb9 = true) ∧ Hid (fb12 = true → fb11 = true) ∧ Hid (fb7 = true → x53 = x60) ∧ Hid (fb9 = true → x62 = .bool bb) ∧ Hid (fb12 = true → x17 = .bool bb) ∧ Hid (fb6 = false → E_nt = eNo) ∧ Hid (fb6 = true → ∃ A c',x60 = .tuple #[.agg #[.int .i64 dd.1,.slice A dd.2.length c'],.bool bb] ∧ E_nt = eInts dd.2 (.slice A dd.2.length c')) ∧ Hid (fb8 = false → E_q = eNo) ∧ Hid (fb8 = true → ∃ A c',x60 = .tuple #[.agg #[.int .i64 dd.1,.slice A dd.2.length c'],.bool bb] ∧ x61 = .agg #[.int .i64 dd.1,.slice A dd.2.length c'] ∧ E_q = eNo) ∧ Hid (fb10 = false → E_nb = eNo) ∧ Hid (fb10 = true → fb11 = false → ∃ g,x16 = .pointer (some ⟨g,0,none⟩) ∧ E_nb = eBlk g 63 [.int .i64 0,.slice none 0 0]) ∧ Hid (fb11 = true → ∃ g A c',x16 = .pointer (some ⟨g,0,none⟩) ∧ x60 = .tuple #[.agg #[.int .i64 dd.1,.slice A dd.2.length c'],.bool bb] ∧ E_nb = eBlk g 63 [.int .i64 dd.1,.slice A dd.2.length c'])) := ⟨_,fun _ _ _ => Iff.rfl⟩
             refine wpAnyH_inv (INV := INV) (D := [[],[],[],[],[2,3],[4],[0,1,5],[6],[7],[7],[],[0,1,2,3,4,5,6,7,8,10],[0,1,2,3,4,5,6,7,8,9,10,11]]) [6,7,8,9,10,11,12] (by kernel_rfl) (fun l_ a_ W_ h => ?_) (fun l_ a_ W_ h => ?_) (fun l_ a_ W_ h hall => ?_) ?_ _ _ _ _ (by decide) ?_
             · obtain ⟨fb6,fb7,fb8,fb9,fb10,fb11,fb12,x60,x53,x61,x62,x16,x17,E_nt,E_q,E_nb,rfl,rfl,S_,_,mf6_7,mf7_8,mf7_9,mf8_11,mf10_11,mf9_12,mf11_12,cf7,cf9,cf12,d_nt,d_nt0,d_q,d_q0,d_nb,d_nb0,d_nb1⟩ := (hI.out _ _ _).1 h;exact S_.out.pick [9,3] (by decide)
             · obtain ⟨fb6,fb7,fb8,fb9,fb10,fb11,fb12,x60,x53,x61,x62,x16,x17,E_nt,E_q,E_nb,rfl,rfl,S_,_,mf6_7,mf7_8,mf7_9,mf8_11,mf10_11,mf9_12,mf11_12,cf7,cf9,cf12,d_nt,d_nt0,d_q,d_q0,d_nb,d_nb0,d_nb1⟩ := (hI.out _ _ _).1 h;rfl
             · obtain ⟨fb6,fb7,fb8,fb9,fb10,fb11,fb12,x60,x53,x61,x62,x16,x17,E_nt,E_q,E_nb,rfl,rfl,S_,_,mf6_7,mf7_8,mf7_9,mf8_11,mf10_11,mf9_12,mf11_12,cf7,cf9,cf12,d_nt,d_nt0,d_q,d_q0,d_nb,d_nb0,d_nb1⟩ := (hI.out _ _ _).1 h;obtain rfl : fb6 = true := hall 6 (by decide);obtain rfl : fb7 = true := hall 7 (by decide);obtain rfl : fb8 = true := hall 8 (by decide);obtain rfl : fb9 = true := hall 9 (by decide);obtain rfl : fb10 = true := hall 10 (by decide);obtain rfl : fb11 = true := hall 11 (by decide);obtain rfl : fb12 = true := hall 12 (by decide);clear hall h hI INV;rw [HF.out];clear HF F;obtain rfl := cf7.out rfl;obtain rfl := cf9.out rfl;obtain rfl := cf12.out rfl;have v_nt := d_nt0.out rfl;have v_q := d_q0.out rfl;have v_nb := d_nb1.out rfl;clear mf6_7 mf7_8 mf7_9 mf8_11 mf10_11 mf9_12 mf11_12 cf7 cf9 cf12 d_nt d_nt0 d_q d_q0 d_nb d_nb0 d_nb1;obtain ⟨g,A1,c1,rfl,h48,rfl⟩ := v_nb;obtain ⟨A2,c2,rfl,rfl⟩ := v_nt;simp only [Value.tuple.injEq,Array.mk.injEq,List.cons.injEq,Value.agg.injEq,Value.slice.injEq,and_true,true_and] at h48;obtain ⟨rfl,rfl⟩ := h48;have S9 := Lib.hid (S_.out.pick [2,0,3,4,5,6,7,8,9] (by decide));clear S_;go_wp2_with fail
               go_meet
               exact ⟨g,_,_,rfl,rfl,S9.out⟩
             · clear hH S1;refine StepsI.cons rfl (fun l_ a_ W_ h hf hd K hK => ?_) (StepsI.cons rfl (fun l_ a_ W_ h hf hd K hK => ?_) (StepsI.cons rfl (fun l_ a_ W_ h hf hd K hK => ?_) (StepsI.cons rfl (fun l_ a_ W_ h hf hd K hK => ?_) (StepsI.cons rfl (fun l_ a_ W_ h hf hd K hK => ?_) (StepsI.cons rfl (fun l_ a_ W_ h hf hd K hK => ?_) (StepsI.cons rfl (fun l_ a_ W_ h hf hd K hK => ?_) (StepsI.nil)))))))
               · obtain ⟨fb6,fb7,fb8,fb9,fb10,fb11,fb12,x60,x53,x61,x62,x16,x17,E_nt,E_q,E_nb,rfl,rfl,S_,_,mf6_7,mf7_8,mf7_9,mf8_11,mf10_11,mf9_12,mf11_12,cf7,cf9,cf12,d_nt,d_nt0,d_q,d_q0,d_nb,d_nb0,d_nb1⟩ := (hI.out _ _ _).1 h;obtain rfl : fb6 = false := hf;clear h;obtain rfl : fb7 = false := by cases fb7 with | false => rfl | true => exact nomatch (mf6_7.out rfl)
                 obtain rfl : fb8 = false := by cases fb8 with | false => rfl | true => exact nomatch (mf7_8.out rfl)
                 obtain rfl : fb9 = false := by cases fb9 with | false => rfl | true => exact nomatch (mf7_9.out rfl)
                 obtain rfl : fb11 = false := by cases fb11 with | false => rfl | true => exact nomatch (mf8_11.out rfl)
                 obtain rfl : fb12 = false := by cases fb12 with | false => rfl | true => exact nomatch (mf9_12.out rfl)
                 clear hd;rw [HF.out];have v_nt := d_nt.out rfl;have v_q := d_q.out rfl;obtain rfl := v_nt;go_simp;refine (SR.out W_ (HA.out.below S_.out.below) (RDS.out W_ _ _ _ S_.out 4 8 rfl rfl)).mono ?_;rintro e_ W2 ⟨A1,c1,rfl,T⟩;have S2 := Lib.hid (S_.out.fill1 0 rfl T.out);clear T;(try simp only [sx]);refine hK.out _ _ ((hI.out _ _ _).2 ⟨true,false,false,false,fb10,false,false,_,_,_,_,_,_,_,_,_,rfl,(HF.out _ _ _ _ _ _).symm,S2,trivial,(fun _ => rfl),(fun h => nomatch h),(fun h => nomatch h),(fun h => nomatch h),(fun h => nomatch h),(fun h => nomatch h),(fun h => nomatch h),(fun h => nomatch h),(fun h => nomatch h),(fun h => nomatch h),(fun h => nomatch h),(fun _ => ⟨_,_,rfl,rfl⟩),d_q,(fun h => nomatch h),d_nb,d_nb0,(fun h => nomatch h)⟩)
               · obtain ⟨fb6,fb7,fb8,fb9,fb10,fb11,fb12,x60,x53,x61,x62,x16,x17,E_nt,E_q,E_nb,rfl,rfl,S_,_,mf6_7,mf7_8,mf7_9,mf8_11,mf10_11,mf9_12,mf11_12,cf7,cf9,cf12,d_nt,d_nt0,d_q,d_q0,d_nb,d_nb0,d_nb1⟩ := (hI.out _ _ _).1 h;obtain rfl : fb7 = false := hf;clear h;obtain rfl : fb6 = true := hd 6 (by decide);obtain rfl : fb8 = false := by cases fb8 with | false => rfl | true => exact nomatch (mf7_8.out rfl)
                 obtain rfl : fb9 = false := by cases fb9 with | false => rfl | true => exact nomatch (mf7_9.out rfl)
                 obtain rfl : fb11 = false := by cases fb11 with | false => rfl | true => exact nomatch (mf8_11.out rfl)
                 obtain rfl : fb12 = false := by cases fb12 with | false => rfl | true => exact nomatch (mf9_12.out rfl)
                 clear hd;rw [HF.out];have v_nt := d_nt0.out rfl;have v_q := d_q.out rfl;go_simp;(try simp only [sx]);refine hK.out _ _ ((hI.out _ _ _).2 ⟨true,true,false,false,fb10,false,false,_,_,_,_,_,_,_,_,_,rfl,(HF.out _ _ _ _ _ _).symm,S_,trivial,(fun _ => rfl),(fun _ => rfl),(fun _ => rfl),(fun h => nomatch h),(fun h => nomatch h),(fun h => nomatch h),(fun h => nomatch h),(fun _ => rfl),(fun h => nomatch h),(fun h => nomatch h),(fun h => nomatch h),d_nt0,d_q,(fun h => nomatch h),d_nb,d_nb0,(fun h => nomatch h)⟩)
               · obtain ⟨fb6,fb7,fb8,fb9,fb10,fb11,fb12,x60,x53,x61,x62,x16,x17,E_nt,E_q,E_nb,rfl,rfl,S_,_,mf6_7,mf7_8,mf7_9,mf8_11,mf10_11,mf9_12,mf11_12,cf7,cf9,cf12,d_nt,d_nt0,d_q,d_q0,d_nb,d_nb0,d_nb1⟩ := (hI.out _ _ _).1 h;obtain rfl : fb8 = false := hf;clear h;obtain rfl : fb7 = true := hd 7 (by decide);obtain rfl : fb6 = true := mf6_7.out rfl;obtain rfl : fb11 = false := by cases fb11 with | false => rfl | true => exact nomatch (mf8_11.out rfl)
                 obtain rfl : fb12 = false := by cases fb12 with | false => rfl | true => exact nomatch (mf11_12.out rfl)
                 clear hd;rw [HF.out];obtain rfl := cf7.out rfl;have v_nt := d_nt0.out rfl;have v_q := d_q.out rfl;obtain ⟨A1,c1,rfl,_⟩ := v_nt;go_simp;(try simp only [sx]);refine hK.out _ _ ((hI.out _ _ _).2 ⟨true,true,true,fb9,fb10,false,false,_,_,_,_,_,_,_,_,_,rfl,(HF.out _ _ _ _ _ _).symm,S_,trivial,(fun _ => rfl),(fun _ => rfl),(fun _ => rfl),(fun _ => rfl),(fun h => nomatch h),(fun h => nomatch h),(fun h => nomatch h),cf7,cf9,(fun h => nomatch h),(fun h => nomatch h),d_nt0,(fun h => nomatch h),(fun _ => ⟨_,_,rfl,rfl,v_q⟩),d_nb,d_nb0,(fun h => nomatch h)⟩)
               · obtain ⟨fb6,fb7,fb8,fb9,fb10,fb11,fb12,x60,x53,x61,x62,x16,x17,E_nt,E_q,E_nb,rfl,rfl,S_,_,mf6_7,mf7_8,mf7_9,mf8_11,mf10_11,mf9_12,mf11_12,cf7,cf9,cf12,d_nt,d_nt0,d_q,d_q0,d_nb,d_nb0,d_nb1⟩ := (hI.out _ _ _).1 h;obtain rfl : fb9 = false := hf;clear h;obtain rfl : fb7 = true := hd 7 (by decide);obtain rfl : fb6 = true := mf6_7.out rfl;obtain rfl : fb12 = false := by cases fb12 with | false => rfl | true => exact nomatch (mf9_12.out rfl)
                 clear hd;rw [HF.out];obtain rfl := cf7.out rfl;have v_nt := d_nt0.out rfl;obtain ⟨A1,c1,rfl,_⟩ := v_nt;go_simp;(try simp only [sx]);refine hK.out _ _ ((hI.out _ _ _).2 ⟨true,true,fb8,true,fb10,fb11,false,_,_,_,_,_,_,_,_,_,rfl,(HF.out _ _ _ _ _ _).symm,S_,trivial,(fun _ => rfl),(fun _ => rfl),(fun _ => rfl),mf8_11,mf10_11,(fun _ => rfl),(fun h => nomatch h),cf7,(fun _ => rfl),(fun h => nomatch h),(fun h => nomatch h),d_nt0,d_q,d_q0,d_nb,d_nb0,d_nb1⟩)
               · obtain ⟨fb6,fb7,fb8,fb9,fb10,fb11,fb12,x60,x53,x61,x62,x16,x17,E_nt,E_q,E_nb,rfl,rfl,S_,_,mf6_7,mf7_8,mf7_9,mf8_11,mf10_11,mf9_12,mf11_12,cf7,cf9,cf12,d_nt,d_nt0,d_q,d_q0,d_nb,d_nb0,d_nb1⟩ := (hI.out _ _ _).1 h;obtain rfl : fb10 = false := hf;clear h;obtain rfl : fb11 = false := by cases fb11 with | false => rfl | true => exact nomatch (mf10_11.out rfl)
                 obtain rfl : fb12 = false := by cases fb12 with | false => rfl | true => exact nomatch (mf11_12.out rfl)
                 clear hd;rw [HF.out];have v_nb := d_nb.out rfl;obtain rfl := v_nb;go_simp;obtain ⟨g2,hg2⟩ : ∃ g,g = W_.heap.size := ⟨_,rfl⟩;obtain ⟨W2,hW2⟩ : ∃ v,v = W_.alloc (.cells #[.int .i64 0,.slice none 0 0] 63) := ⟨_,rfl⟩;rw [← hW2,← hg2];have S2 := Lib.hid (S_.out.fillAlloc 2 rfl 63 [.int .i64 0,.slice none 0 0] (o := .cells #[.int .i64 0,.slice none 0 0] 63) rfl hg2);rw [← hW2] at S2;clear hW2 hg2;(try simp only [sx]);refine hK.out _ _ ((hI.out _ _ _).2 ⟨fb6,fb7,fb8,fb9,true,false,false,_,_,_,_,_,_,_,_,_,rfl,(HF.out _ _ _ _ _ _).symm,S2,trivial,mf6_7,mf7_8,mf7_9,(fun h => nomatch h),(fun _ => rfl),(fun h => nomatch h),(fun h => nomatch h),cf7,cf9,(fun h => nomatch h),d_nt,d_nt0,d_q,d_q0,(fun h => nomatch h),(fun _ _ => ⟨_,rfl,rfl⟩),(fun h => nomatch h)⟩)
               · obtain ⟨fb6,fb7,fb8,fb9,fb10,fb11,fb12,x60,x53,x61,x62,x16,x17,E_nt,E_q,E_nb,rfl,rfl,S_,_,mf6_7,mf7_8,mf7_9,mf8_11,mf10_11,mf9_12,mf11_12,cf7,cf9,cf12,d_nt,d_nt0,d_q,d_q0,d_nb,d_nb0,d_nb1⟩ := (hI.out _ _ _).1 h;obtain rfl : fb11 = false := hf;clear h;obtain rfl : fb6 = true := hd 6 (by decide);obtain rfl : fb7 = true := hd 7 (by decide);obtain rfl : fb8 = true := hd 8 (by decide);obtain rfl : fb10 = true := hd 10 (by decide);obtain rfl : fb12 = false := by cases fb12 with | false => rfl | true => exact nomatch (mf11_12.out rfl)
                 clear hd;rw [HF.out];obtain rfl := cf7.out rfl;have v_nt := d_nt0.out rfl;have v_q := d_q0.out rfl;have v_nb := d_nb0.out rfl rfl;obtain ⟨g,rfl,rfl⟩ := v_nb;obtain ⟨A1,c1,rfl,rfl,_⟩ := v_q;have sc0 := qkC S_.out 2 rfl 0 rfl;have sf0 := BlkAt.free (S_.out.get 2 rfl) 0;have sc1 := qkC S_.out 2 rfl 1 rfl;have sf1 := BlkAt.free (S_.out.get 2 rfl) 1;go_simp;obtain ⟨W2,hW2⟩ : ∃ v,v = ((W_.setCell ⟨g,0,none⟩ (.int .i64 dd.1)).setCell ⟨g,1,none⟩ (.slice A1 dd.2.length c1)) := ⟨_,rfl⟩;rw [← hW2];have S2 := Lib.hid ((S_.out.set 2 rfl 0 (.int .i64 dd.1)).set 2 rfl 1 (.slice A1 dd.2.length c1));rw [← hW2] at S2;clear hW2 sc0 sf0 sc1 sf1;(try simp only [sx]);refine hK.out _ _ ((hI.out _ _ _).2 ⟨true,true,true,fb9,true,true,false,_,_,_,_,_,_,_,_,_,rfl,(HF.out _ _ _ _ _ _).symm,S2,trivial,(fun _ => rfl),(fun _ => rfl),(fun _ => rfl),(fun _ => rfl),(fun _ => rfl),(fun h => nomatch h),(fun _ => rfl),cf7,cf9,(fun h => nomatch h),(fun h => nomatch h),d_nt0,(fun h => nomatch h),d_q0,(fun h => nomatch h),(fun _ h => nomatch h),(fun _ => ⟨_,_,_,rfl,rfl,rfl⟩)⟩)
               · obtain ⟨fb6,fb7,fb8,fb9,fb10,fb11,fb12,x60,x53,x61,x62,x16,x17,E_nt,E_q,E_nb,rfl,rfl,S_,_,mf6_7,mf7_8,mf7_9,mf8_11,mf10_11,mf9_12,mf11_12,cf7,cf9,cf12,d_nt,d_nt0,d_q,d_q0,d_nb,d_nb0,d_nb1⟩ := (hI.out _ _ _).1 h;obtain rfl : fb12 = false := hf;clear h;obtain rfl : fb6 = true := hd 6 (by decide);obtain rfl : fb7 = true := hd 7 (by decide);obtain rfl : fb8 = true := hd 8 (by decide);obtain rfl : fb9 = true := hd 9 (by decide);obtain rfl : fb10 = true := hd 10 (by decide);obtain rfl : fb11 = true := hd 11 (by decide);clear hd;rw [HF.out];obtain rfl := cf7.out rfl;obtain rfl := cf9.out rfl;have v_nt := d_nt0.out rfl;have v_q := d_q0.out rfl;have v_nb := d_nb1.out rfl;go_simp;(try simp only [sx]);refine hK.out _ _ ((hI.out _ _ _).2 ⟨true,true,true,true,true,true,true,_,_,_,_,_,_,_,_,_,rfl,(HF.out _ _ _ _ _ _).symm,S_,trivial,(fun _ => rfl),(fun _ => rfl),(fun _ => rfl),(fun _ => rfl),(fun _ => rfl),(fun _ => rfl),(fun _ => rfl),cf7,cf9,(fun _ => rfl),(fun h => nomatch h),d_nt0,(fun h => nomatch h),d_q0,(fun h => nomatch h),(fun _ h => nomatch h),d_nb1⟩)
             · refine (hI.out _ _ _).2 ⟨false,false,false,false,false,false,false,_,_,_,_,_,_,eNo,eNo,eNo,rfl,(HF.out _ _ _ _ _ _).symm,(S1.out.no.no.no : Sep w.heap.size w [eNo,eNo,eNo,eBlk sb 63 [.int .i64 c.1,.slice AC c.2.length cpC],Ex,eRds raw3 (.slice A3 raw3.length c3),eTm (raw3.map RV.v),eRds raw (.slice (some ⟨gl,ol,none⟩) raw.length cL),eTm (raw.map RV.v),eBlk mb 37 [.slice p.A1 m.a.al.length p.c1,.int .i64 m.a.n,.slice p.A2 m.a.mr.length p.c2,.slice p.A3 m.a.ed.length p.c3,.slice B m.ac.length d,.int .i64 m.tk]] w1),trivial,(fun h => nomatch h),(fun h => nomatch h),(fun h => nomatch h),(fun h => nomatch h),(fun h => nomatch h),(fun h => nomatch h),(fun h => nomatch h),(fun h => nomatch h),(fun h => nomatch h),(fun h => nomatch h),(fun _ => rfl),(fun h => nomatch h),(fun _ => rfl),(fun h => nomatch h),(fun _ => rfl),(fun h => nomatch h),(fun h => nomatch h)⟩
            case rest =>
             clear S SR;obtain ⟨nb,A1,c1,rfl,rfl,S⟩ := hcut;have hl3 : raw3.length ≤ 1000000 := by have := HLN.out; omega
             have HB3 : Hid (∀ y,y ∈ raw3 → y.v.c.2.length ≤ 140737488355328) := fun y hy => by have := (HI3.out y hy).len; omega
             obtain ⟨bf,hbf⟩ : ∃ b,b = bb := ⟨_,rfl⟩;go_upto_if 63 with fail
             go_cut [11] (fun v wx => ∃ (raw4 : List RV) (A4 : Option Addr) (c4 : Nat),v = .slice A4 raw4.length c4 ∧ Hid (raw4.map RV.rd = putD m e c t (raw3.map RV.rd)) ∧ Hid (∀ y,y ∈ raw4 → m.Is y.v.c) ∧ (SepW w [eBlk sb 63 [.int .i64 c.1,.slice AC c.2.length cpC],Ex,eRds raw4 (.slice A4 raw4.length c4),eTm (raw4.map RV.v),eRds raw (.slice (some ⟨gl,ol,none⟩) raw.length cL),eTm (raw.map RV.v),eBlk mb 37 [.slice p.A1 m.a.al.length p.c1,.int .i64 m.a.n,.slice p.A2 m.a.mr.length p.c2,.slice p.A3 m.a.ed.length p.c3,.slice B m.ac.length d,.int .i64 m.tk]] wx))
             case first =>
              rcases HPUT.out with ⟨rfl,hdi,hpt⟩ | ⟨rfl,hpt⟩
              · have HDI := Lib.hid hdi;have HPT := Lib.hid hpt;have HDL : Hid (dd.2.length ≤ 140737488355328) := by rw [Hid,hdi.len]; omega
                have q0 := qkC S.out 0 rfl 0 rfl;have q1 := qkC S.out 0 rfl 1 rfl;have AC2 := Lib.hid (add_c raw3 A3 c3 (⟨⟨dd,A1,c1⟩,t⟩ : RV) w.heap.size w wc [eBlk sb 63 [.int .i64 c.1,.slice AC c.2.length cpC],Ex,eRds raw (.slice (some ⟨gl,ol,none⟩) raw.length cL),eTm (raw.map RV.v),eBlk mb 37 [.slice p.A1 m.a.al.length p.c1,.int .i64 m.a.n,.slice p.A2 m.a.mr.length p.c2,.slice p.A3 m.a.ed.length p.c3,.slice B m.ac.length d,.int .i64 m.tk],eBlk nb 63 [.int .i64 dd.1,.slice A1 dd.2.length c1]] (S.out.pick [4,5,1,2,3,6,7,8,0] (by decide)) hl3 HB3.out HDL.out);clear hdi hpt hbf S;go_wp2_with fail
                refine AC2.out.mono ?_;rintro e9 w9 ⟨raw4,A4,c4,rfl,T,h4,h5⟩;have S9 : (SepW w [eBlk sb 63 [.int .i64 c.1,.slice AC c.2.length cpC],Ex,eRds raw4 (.slice A4 raw4.length c4),eTm (raw4.map RV.v),eRds raw (.slice (some ⟨gl,ol,none⟩) raw.length cL),eTm (raw.map RV.v),eBlk mb 37 [.slice p.A1 m.a.al.length p.c1,.int .i64 m.a.n,.slice p.A2 m.a.mr.length p.c2,.slice p.A3 m.a.ed.length p.c3,.slice B m.ac.length d,.int .i64 m.tk]] w9) := T.out.pick [2,3,0,1,4,5,6] (by decide);have HP4 : Hid (raw4.map RV.rd = putD m e c t (raw3.map RV.rd)) := by rw [Hid,HPT.out]; exact h4.out
                have HI4 : Hid (∀ y,y ∈ raw4 → m.Is y.v.c) := fun y hy => by
                 rcases h5.out y hy with g | g
                 · exact HI3.out y g
                 · subst g; exact HDI.out
                clear T AC2 h4 h5 q0 q1;go_wp2_with fail
                go_meet
                exact ⟨raw4,A4,c4,rfl,HP4.out,HI4.out,S9.out⟩
              · have HP4 : Hid (raw3.map RV.rd = putD m e c t (raw3.map RV.rd)) := hpt.symm;have S9 := Lib.hid (S.out.pick [2,3,4,5,6,7,8] (by decide));clear hpt hbf S;go_wp2_with fail
                go_meet
                exact ⟨raw3,A3,c3,rfl,HP4.out,HI3.out,S9.out⟩
             case rest =>
              clear S HPUT hl3 HB3 hbf;obtain ⟨raw4,A4,c4,rfl,HP4,HI4,S⟩ := hcut;have HL4 : Hid (raw4.length ≤ 29 * k + (t + 1).toNat) := by
               have h1 := congrArg List.length HP4.out;have h2 := putD_len (m := m) e c t (raw3.map RV.rd);rw [← h1,List.length_map,List.length_map] at h2;have h3 := HLN.out;show raw4.length ≤ 29 * k + (t + 1).toNat
               omega
              have HT4 : Hid (b2 = true → m.Is d2 ∧ waitD m e most (fuelD most (t + 1)) d2 (t + 1) (raw4.map RV.rd) = rowD m e most (raw.map RV.rd) (k + 1)) := by rw [Hid,HP4.out]; exact HTK.out.1
              have HF4 : Hid (b2 = false → raw4.map RV.rd = rowD m e most (raw.map RV.rd) (k + 1)) := by rw [Hid,HP4.out]; exact HTK.out.2
              clear HTK HP4;have f_mb0 := qkC S.out 6 rfl 0 rfl;have f_mb1 := qkC S.out 6 rfl 1 rfl;have f_mb2 := qkC S.out 6 rfl 2 rfl;have f_mb3 := qkC S.out 6 rfl 3 rfl;have f_mb4 := qkC S.out 6 rfl 4 rfl;have f_mb5 := qkC S.out 6 rfl 5 rfl;have f_sb0 := qkC S.out 0 rfl 0 rfl;have f_sb1 := qkC S.out 0 rfl 1 rfl;go_wp2_with fail
              refine (SR2.out wc (HA.out.below S.out.below) (RDS.out wc _ _ _ S.out 1 5 rfl rfl)).mono ?_;rintro e81 v81 ⟨A5,c5,rfl,T⟩;have T81 := qkN S.out T.out;clear f_mb0 f_mb1 f_mb2 f_mb3 f_mb4 f_mb5 f_sb0 f_sb1 T S;have f_sb0 := qkC T81.out 1 rfl 0 rfl;have f_sb1 := qkC T81.out 1 rfl 1 rfl;have g0 := BlkAt.free (T81.out.get 1 rfl) 0;have g1 := BlkAt.free (T81.out.get 1 rfl) 1;have U9 := Lib.hid ((T81.out.set 1 rfl 0 (.int .i64 d2.1)).set 1 rfl 1 (.slice A5 d2.2.length c5));clear T81 SR2 RDS;go_wp2_with fail
              go_roundw
              case rel => exact ⟨b2,t + 1,d2,A5,c5,eInts d2.2 (.slice A5 d2.2.length c5),raw4,A4,c4,rfl,by first | rfl | simp,rfl,⟨by omega,by omega⟩,HT4.out,HF4.out,HL4.out,HI4.out,.inr rfl,U9.out.pick [1,0,3,4,5,6,7] (by decide)⟩
              case measure => simp [intOf]; omega
          · have htd : decide (t ≤ most) = false := decide_eq_false htm;have HN3 : Hid (raw3.map RV.rd = rowD m e most (raw.map RV.rd) (k + 1)) := by rw [Hid,← hwt,waitD_stop htm]
            have hwk : IntKind.i64.wrap ((k : Int) + 1) = (k : Int) + 1 := IntWalk.i64_in _ (by omega);have S9 := Lib.hid (S.out.pick [2,3,4,5,6] (by decide));clear S hci hwt;go_wp2_with fail
            go_roundw
            case rel => exact ⟨k + 1,raw3,A3,c3,by go_num,rfl,by omega,HN3.out,HI3.out,S9.out⟩
            case measure => simp [intOf]; omega
     · obtain rfl : k = raw.length := by omega
       have HRN : Hid (raw2.map RV.rd = refL m most wd (i + 1)) := by rw [Hid,HR2.out,HNX.out]
       have hwi : IntKind.i64.wrap ((i : Int) + 1) = (i : Int) + 1 := IntWalk.i64_in _ (by omega);have S9 := Lib.hid (S.out.pick [0,1,4] (by decide));clear S;go_wp2_with fail
       go_roundw
       case rel => exact ⟨i + 1,raw2,A2,c2,by go_num,rfl,by omega,HRN.out,S9.out⟩
       case measure => simp [intOf]; omega
  · obtain rfl : i = wd.length := by omega
    obtain ⟨D,hD⟩ : ∃ D,D = raw.map RV.rd := ⟨_,rfl⟩;have HDR : Hid (D = refL m most wd wd.length) := by rw [hD]; exact HRW.out
    have hrl : raw.length ≤ 707281 := by have h := (RL.out wd.length (Nat.le_refl _)).1; rw [← HRW.out,List.length_map] at h; exact h
    have HDL : Hid (D.length = raw.length) := by rw [Hid,hD,List.length_map]
    have HDN : Hid (∀ (k : Nat) (x : RV),raw[k]? = some x → (D.getD k ((0,[]),0)).2 = x.n) := fun k x hx => by
     rw [hD,List.getD_eq_getElem?_getD,List.getElem?_map,hx]; rfl
    have Z1 : Hid ((lgV D 0).1 = 0) := rfl;have Z2 : Hid ((lgV D 0).2 = 0) := rfl;clear hD HRW;go_wp2_with fail
    go_loopw [18,6,7] (fun vi vl vg wr => ∃ i : Nat,vi = .int .i64 ↑i ∧ vl = .int .i64 (lgV D i).1 ∧ vg = .int .i64 (lgV D i).2 ∧ i ≤ raw.length ∧ (SepW w [eRds raw (.slice AL raw.length cL),eTm (raw.map RV.v),eBlk mb 37 [.slice p.A1 m.a.al.length p.c1,.int .i64 m.a.n,.slice p.A2 m.a.mr.length p.c2,.slice p.A3 m.a.ed.length p.c3,.slice B m.ac.length d,.int .i64 m.tk]] wr)) (fun vi _ _ _ => raw.length - (intOf vi).toNat)
    case atStart => exact ⟨0,rfl,by rw [Z1.out],by rw [Z2.out],Nat.zero_le _,S.out⟩
    case round =>
     clear S Z1 Z2;obtain ⟨i,rfl,rfl,rfl,hi,S⟩ := hrel;obtain ⟨lo,hlo⟩ : ∃ v,v = (lgV D i).1 := ⟨_,rfl⟩;obtain ⟨hg,hhg⟩ : ∃ v,v = (lgV D i).2 := ⟨_,rfl⟩;rw [← hlo,← hhg];by_cases hlt : i < raw.length
     · obtain ⟨x,hx⟩ : ∃ x,raw[i]? = some x := ⟨_,List.getElem?_eq_getElem hlt⟩;obtain ⟨gl,ol,hAL⟩ := S.out.rdForm 0 rfl hlt;subst hAL;have y2 := (S.out.rdAt 0 rfl hx).2.2;obtain ⟨xn,hxn⟩ : ∃ v,v = x.n := ⟨_,rfl⟩;rw [← hxn] at y2;have HLN : Hid (lgV D (i + 1) = (min (if i = 0 then xn else lo) xn,max hg xn)) := by
        show (min (if i = 0 then (D.getD i ((0,[]),0)).2 else (lgV D i).1) (D.getD i ((0,[]),0)).2,max (lgV D i).2 (D.getD i ((0,[]),0)).2) = _
        rw [HDN.out i x hx,hlo,hhg,hxn]
       have hwi : IntKind.i64.wrap ((i : Int) + 1) = (i : Int) + 1 := IntWalk.i64_in _ (by omega);clear hlo hhg hxn hx;by_cases h0 : i = 0
       · subst h0;have HL0 : Hid (lgV D (0 + 1) = (min xn xn,max hg xn)) := by rw [Hid,HLN.out,if_pos rfl]
         have y3 : wr.cell? ⟨gl,ol + 2,none⟩ = some (.int .i64 xn) := by simpa using y2
         clear HLN;go_upto_region 23 with fail
         go_quiet (fail)
         go_wp2_with fail
         go_roundw
         case rel => exact ⟨0 + 1,by go_num,by first | (rw [HL0.out]; done) | (rw [HL0.out]; simp),by first | (rw [HL0.out]; done) | (rw [HL0.out]; simp),by omega,S.out.draws _⟩
         case measure => simp [intOf]; omega
       · have h01 : ((i : Int) == 0) = false := beq_eq_false_iff_ne.2 (by omega);have h02 : (i == 0) = false := beq_eq_false_iff_ne.2 h0;have HL0 : Hid (lgV D (i + 1) = (min lo xn,max hg xn)) := by rw [Hid,HLN.out,if_neg h0]
         clear HLN h0;go_upto_region 23 with fail
         go_quiet (fail)
         go_wp2_with fail
         go_roundw
         case rel => exact ⟨i + 1,by go_num,by first | (rw [HL0.out]; done) | (rw [HL0.out]; simp),by first | (rw [HL0.out]; done) | (rw [HL0.out]; simp),by omega,S.out.draws _⟩
         case measure => simp [intOf]; omega
     · obtain rfl : i = raw.length := by omega
       have HRF : Hid (refDu (refL m most wd wd.length) most = (lo,if most ≤ hg then -1 else hg,decide (0 < raw.length))) := by
        rw [Hid,← HDR.out];unfold refDu
        rw [HDL.out,← hlo,← hhg]
       clear hlo hhg;by_cases hm2 : most ≤ hg
       · have hd : decide (most ≤ hg) = true := decide_eq_true hm2;have HR2 : Hid (refDu (refL m most wd wd.length) most = (lo,-1,decide (0 < raw.length))) := by rw [Hid,HRF.out,if_pos hm2]
         clear hm2 HRF;go_wp2_with fail
         refine bodyPost_ret (v := .tuple #[.int .i64 lo,.int .i64 (-1),.bool (decide (0 < raw.length))]) (by simp [results,Try.results15,go_sem, *]) rfl ?_;exact ⟨lo,-1,decide (0 < raw.length),rfl,S.out.below,HR2.out.symm⟩
       · have hd : decide (most ≤ hg) = false := decide_eq_false hm2;have HR2 : Hid (refDu (refL m most wd wd.length) most = (lo,hg,decide (0 < raw.length))) := by rw [Hid,HRF.out,if_neg hm2]
         clear hm2 HRF;go_wp2_with fail
         refine bodyPost_ret (v := .tuple #[.int .i64 lo,.int .i64 hg,.bool (decide (0 < raw.length))]) (by simp [results,Try.results15,go_sem, *]) rfl ?_;exact ⟨lo,hg,decide (0 < raw.length),rfl,S.out.below,HR2.out.symm⟩
end
end Go.Proofs.Ytimdepdbcdbikaa
