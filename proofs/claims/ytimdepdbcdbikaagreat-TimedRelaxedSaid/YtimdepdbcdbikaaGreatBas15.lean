/-
  machine.effect, machine.state, timed.events.
  timed.Check of a right model.
  timed: clocks as keys of maps; lists of clocks.
  Plain: the timed automaton, built breadth first.
  Plain: what timed.Duration counts: spans of ticks at clocks, in lists whose order is told.
-/
import Derived.Test.YtimdepdbcdbikaaGreatBas01
import Derived.Test.YtimdepdbcdbikaaGreatBas14
import Derived.BigQuiet
import Derived.Deep.MidRow
import Derived.DeepKeys
set_option linter.unusedSimpArgs false
set_option linter.unusedVariables false
namespace Go.Proofs.YtimdepdbcdbikaaGreat
open Go.RowKit
set_option maxRecDepth 100000
def FindsP (l : List Int) (x : Int) (w : World) (e : Ending) (w' : World) : Prop := ∃ (p : Nat) (r : Bool),e = .returned (.tuple #[.int .i64 p,.bool r]) ∧ (x ∈ l → l[p]? = some x) ∧ w = w'
set_option maxHeartbeats 400000 in
theorem bsearchP_c (A : Option Addr) (c : Nat) (l : List Int) (x : Int) (w : World) (h : IntsAt w A l) (hl : l.length < 4611686018427387904) (hs : incr l) :
 Calls Tryz.prog 47 #[.slice A l.length c,.int .i64 x] w (FindsP l x w) := by
 have HS := Lib.hid hs; clear hs
 go_enter Tryz.func47,Tryz.ntmps47
 go_wp2
 go_loop [7,8,9] (fun a b _ => ∃ lo hi : Nat,a = .int .i64 lo ∧ b = .int .i64 hi ∧ lo ≤ hi ∧ hi ≤ l.length ∧ Hid ((∀ t y,t < lo → l[t]? = some y → y < x) ∧ (∀ t y,hi ≤ t → l[t]? = some y → x ≤ y))) (fun a b _ => (intOf b).toNat - (intOf a).toNat)
 case atStart => exact ⟨0,l.length,rfl,rfl,Nat.zero_le _,Nat.le_refl _,fun t y ht => absurd ht (Nat.not_lt_zero _),fun t y h1 h2 => by have := (List.getElem?_eq_some_iff.1 h2).1; omega⟩
 case round =>
  obtain ⟨lo,hi,rfl,rfl,hlh,hin,H⟩ := hrel
  by_cases hlt : lo < hi
  · obtain ⟨b,off,y,rfl,_,hy,hcy⟩ := IntsAt.at h (k := (lo + hi) / 2) (by omega)
    by_cases hyx : y < x
    · go_wp2
      go_round
      case rel =>
       refine ⟨(lo + hi) / 2 + 1,hi,by go_num,rfl,by omega,hin,fun t z ht hz => ?_,H.out.2⟩
       by_cases e : t = (lo + hi) / 2
       · subst e; rw [hy] at hz; cases hz; exact hyx
       · have := HS.out t _ z y (by omega) hz hy; omega
      case measure => simp [intOf]; omega
    · go_wp2
      go_round
      case rel =>
       refine ⟨lo,(lo + hi) / 2,rfl,by go_num,by omega,by omega,H.out.1,fun t z ht hz => ?_⟩
       by_cases e : t = (lo + hi) / 2
       · subst e; rw [hy] at hz; cases hz; omega
       · have := HS.out _ t y z (by omega) hy hz; omega
      case measure => simp [intOf]; omega
  · obtain rfl : lo = hi := by omega
    by_cases hlo : lo < l.length
    · obtain ⟨b,off,y,rfl,_,hy,hcy⟩ := IntsAt.at h hlo
      have F := Lib.hid (HS.out.found hy H.out.1 (H.out.2 lo y (Nat.le_refl _) hy))
      have G : Hid (x ∈ l → l[lo]? = some x) := fun g => by rw [hy,F.out.1 g]
      clear hy
      go_wp2
      · go_ret2
        exact ⟨lo,true,rfl,G.out,rfl⟩
      · go_ret2
        exact ⟨lo,y == x,rfl,G.out,rfl⟩
    · have F := Lib.hid (not_mem_of_less (l := l) (x := x) (fun t z ht hz => H.out.1 t z (by omega) hz))
      go_wp2
      go_ret2
      exact ⟨lo,false,rfl,fun g => absurd g F.out,rfl⟩
set_option maxHeartbeats 2000000 in
theorem effect1_c (m : Md) (q : McP) (c : Ck) (i xb ib : Nat) (w : World) (hm : m.Ok) (hq : Mch w m q) (hc : m.Is c) (hi : i < m.ac.length) (hx : BlkAt w xb 87 [.pointer (some ⟨q.g,0,none⟩)]) (hb : BlkAt w ib 3 [.int .i64 (i : Int)]) :
 Calls Tryz.prog 65 #[.agg (ckC c).toArray,.pointer (some ⟨xb,0,none⟩),.pointer (some ⟨ib,0,none⟩)] w (Ret (ckV (m.act c i)) w) := by
 have hl32 : c.2.length ≤ 32 := by rw [hc.len]; exact hm.len32
 have HR32 : Hid (((m.act c i).getD (0,[])).2.length ≤ 32) := by
  rw [Hid]
  cases h : m.act c i with
  | none => simp
  | some d => simp only [Option.getD_some]; rw [(hc.act hm h).len]; exact hm.len32
 have HM := Lib.hid hm
 have HC := Lib.hid hc
 have HQ := Lib.hid hq
 have HX := Lib.hid hx
 have HB := Lib.hid hb
 clear hm hc hq hx hb
 go_enter Tryz.func65,Tryz.ntmps65
 obtain ⟨cb,hcb⟩ : ∃ g,g = w.heap.size := ⟨_,rfl⟩
 obtain ⟨rb,hrb⟩ : ∃ g,g = w.heap.size + 1 := ⟨_,rfl⟩
 go_upto_region 1 with fail
 rw [← hrb,← hcb]
 refine wp_world (fun W => Sep w.heap.size w [eBlk rb 91 (ckC (0,[])),eBlk cb 91 (ckC c)] W) (((Sep.here w).alloc' _ (ckC c) rfl hcb).alloc' _ (ckC (0,[])) rfl (by rw [hrb]; simp)) fun W S => ?_
 have S0 := Lib.hid S
 clear S hcb hrb
 have x0 := BlkAt.cell (HX.out.below S0.out.below HX.out.lt) 0
 have i0 := BlkAt.cell (HB.out.below S0.out.below HB.out.lt) 0
 simp only [List.getElem?_cons_zero] at x0 i0
 have AC := Lib.hid (act_c m q c i W HM.out (HQ.out.below S0.out.below) HC.out hi)
 obtain ⟨r,hr⟩ : ∃ r,r = m.act c i := ⟨_,rfl⟩
 rw [← hr] at AC HR32 ⊢
 unfold ckV at AC
 obtain ⟨d,hd⟩ : ∃ d,d = r.getD (0,[]) := ⟨_,rfl⟩
 obtain ⟨b,hb⟩ : ∃ b,b = r.isSome := ⟨_,rfl⟩
 rw [← hd] at AC HR32
 rw [← hb] at AC
 have HD := Lib.hid hd
 have HBB := Lib.hid hb
 have HR0 := Lib.hid hr
 clear hd hb hr
 go_wp2_with (refine wpList_ckLoad c cb (S0.out.get 1 rfl) hl32 rfl _ rfl rfl ?_)
 refine AC.out.mono ?_
 rintro e w2 ⟨rfl,hb⟩
 have S2 := Lib.hid (S0.out.next hb)
 clear hb S0 AC x0 i0
 go_wp2_with (refine wpList_ckAt d HR32.out rfl _ _ rfl S2.out 0 rb (0,[]) (by simp) rfl rfl rfl ?_)
 intro w3 S3
 have S4 : Hid (Sep w.heap.size w [eBlk rb 91 (ckC d),eBlk cb 91 (ckC c)] w3) := S3
 clear S3 S2
 go_wp2_with fail
 refine bodyPost_ret (v := ckV r) (res_ck Tryz.results65 rfl (by rw [← HBB.out]; rfl) HD.out.symm (S4.out.get 0 rfl) HR32.out) rfl ?_
 exact ⟨by rw [HR0.out],S4.out.below⟩
def ptrBlk : Value → Option Nat
 | .pointer (some a) => some a.block
 | _ => none
def footE : Value → List Nat
 | .func _ _ post => post.toList.filterMap ptrBlk
 | _ => []
theorem footE_two (F : Fn) (pre : Array Value) (a b : Nat) : footE (.func F pre #[.pointer (some ⟨a,0,none⟩),.pointer (some ⟨b,0,none⟩)]) = [a,b] := rfl
theorem footE_none (F : Fn) (pre : Array Value) : footE (.func F pre #[]) = [] := rfl
def EffOk (m : Md) (q : McP) (e : Int) (fv : Value) (W : World) : Prop :=
 (e = m.tk ∧ fv = .func (.func 64) #[.pointer (some ⟨q.g,0,none⟩)] #[]) ∨
 (e ≠ m.tk ∧ ∃ xb ib p : Nat,fv = .func (.func 65) #[] #[.pointer (some ⟨xb,0,none⟩),.pointer (some ⟨ib,0,none⟩)] ∧ m.a.al[p]? = some e ∧ BlkAt W xb 87 [.pointer (some ⟨q.g,0,none⟩)] ∧ BlkAt W ib 3 [.int .i64 (p : Int)])
def eEff (m : Md) (q : McP) (e : Int) (fv : Value) : Ent where
 foot := footE fv
 ok W := EffOk m q e fv W
 lt W h k hk := by
  rcases h with ⟨_,rfl⟩ | ⟨_,xb,ib,p,rfl,_,h1,h2⟩
  · rw [footE_none] at hk; cases hk
  · rw [footE_two] at hk
    simp only [List.mem_cons,List.not_mem_nil,or_false] at hk
    rcases hk with rfl | rfl
    · exact h1.lt
    · exact h2.lt
 turn W W' h hg := by
  rcases h with h | ⟨h0,xb,ib,p,rfl,hp,h1,h2⟩
  · exact .inl h
  · exact .inr ⟨h0,xb,ib,p,rfl,hp,(hg xb (by rw [footE_two]; simp)).trans h1,(hg ib (by rw [footE_two]; simp)).trans h2⟩
def GivesEff (m : Md) (q : McP) (e : Int) (w : World) (en : Ending) (w' : World) : Prop := ∃ fv,en = .returned fv ∧ Hid (Sep w.heap.size w [eEff m q e fv] w')
theorem Md.idx_at {m : Md} (hm : m.Ok) {e : Int} {p : Nat} (hp : m.a.al[p]? = some e) : m.idx e = p := by
 unfold Md.idx
 rw [hm.ev]
 have h1 := (List.getElem?_eq_some_iff.1 hp)
 obtain ⟨hl,he⟩ := h1
 rw [List.findIdx_eq hl]
 refine ⟨by simp [he],fun j hj => ?_⟩
 have := hm.a.al.incr j p _ e hj (List.getElem?_eq_getElem (by omega)) hp
 simp only [decide_eq_false_iff_not]
 omega
set_option maxHeartbeats 2000000 in
theorem effect_c (m : Md) (q : McP) (e : Int) (w : World) (hm : m.Ok) (hq : Mch w m q) (he : e = m.tk ∨ e ∈ m.a.al) :
 Calls Tryz.prog 40 #[.pointer (some ⟨q.g,0,none⟩),.int .i64 e] w (GivesEff m q e w) := by
 have HM := Lib.hid hm
 have HQ := Lib.hid hq
 have HL : Hid (m.a.al.length ≤ 32) := by rw [Hid,← hm.len]; exact hm.len32
 clear hm hq
 go_enter Tryz.func40,Tryz.ntmps40
 obtain ⟨xb,hxb⟩ : ∃ g,g = w.heap.size := ⟨_,rfl⟩
 go_upto_region 1 with fail
 rw [← hxb]
 refine wp_world (fun W => Sep w.heap.size w [eBlk xb 87 [.pointer (some ⟨q.g,0,none⟩)]] W) ((Sep.here w).alloc' _ [_] rfl hxb) fun W S => ?_
 have S0 := Lib.hid S
 clear S hxb
 have x0 := BlkAt.cell (S0.out.get 0 rfl) 0; simp only [List.getElem?_cons_succ,List.getElem?_cons_zero] at x0
 have HQ1 := Lib.hid (HQ.out.below S0.out.below)
 have k5 : W.cell? ⟨q.g,5,none⟩ = some (.int .i64 m.tk) := (HQ1.out.blk.cell 5).trans (mcell_m (by decide))
 by_cases ht : e = m.tk
 · have hd : (e == m.tk) = true := by simp [ht]
   have HT0 := Lib.hid ht
   clear ht he
   go_wp2_with fail
   go_ret
   refine ⟨.func (.func 64) #[.pointer (some ⟨q.g,0,none⟩)] #[],rfl,(Sep.here w).new1 S0.out.below (eEff m q e _) (.inl ⟨HT0.out,rfl⟩) (fun g hg => by unfold eEff at hg; dsimp only at hg; rw [footE_none] at hg; cases hg)⟩
 · have hd : (e == m.tk) = false := beq_eq_false_iff_ne.2 ht
   have hmem : e ∈ m.a.al := he.resolve_left ht
   have k0 : W.cell? ⟨q.g,0,none⟩ = some (.slice q.P.p.A1 m.a.al.length q.P.p.c1) := (HQ1.out.blk.cell 0).trans (mcell_m (by decide))
   have BC := Lib.hid (bsearchP_c q.P.p.A1 q.P.p.c1 m.a.al e W HQ1.out.md.a.al (by have := HL.out; omega) HM.out.a.al.incr)
   have HMEM := Lib.hid hmem
   have HNT := Lib.hid ht
   clear ht he hmem
   go_wp2_with fail
   refine BC.out.mono ?_
   rintro e2 w2 ⟨p,r,rfl,hp,rfl⟩
   have hp2 := hp HMEM.out
   have HP2 := Lib.hid hp2
   obtain ⟨ib,hib⟩ : ∃ g,g = W.heap.size := ⟨_,rfl⟩
   clear hp hp2 BC k0 k5
   go_upto_region 4 with fail
   rw [← hib]
   refine wp_world (fun V => Sep w.heap.size w [eBlk ib 3 [.int .i64 (p : Int)],eBlk xb 87 [.pointer (some ⟨q.g,0,none⟩)]] V) (S0.out.alloc' _ [_] rfl hib) fun W2 S => ?_
   have S2 := Lib.hid S
   clear S S0 hib HQ1 x0
   go_wp2_with fail
   go_ret
   refine ⟨.func (.func 65) #[] #[.pointer (some ⟨xb,0,none⟩),.pointer (some ⟨ib,0,none⟩)],rfl,(Sep.here w).new1 S2.out.below (eEff m q e _) (.inr ⟨HNT.out,xb,ib,p,rfl,HP2.out,S2.out.get 1 rfl,S2.out.get 0 rfl⟩) (fun g hg => ?_)⟩
   unfold eEff at hg
   dsimp only at hg
   rw [footE_two] at hg
   simp only [List.mem_cons,List.not_mem_nil,or_false] at hg
   rcases hg with rfl | rfl
   · exact S2.out.ge (eBlk g _ _) (List.mem_of_getElem? (i := 1) rfl) _ (by simp [eBlk])
   · exact S2.out.ge (eBlk g _ _) (List.mem_of_getElem? (i := 0) rfl) _ (by simp [eBlk])
theorem EffOk.call {m : Md} {q : McP} {e : Int} {fv : Value} {W : World} (h : EffOk m q e fv W) (hm : m.Ok) (hq : Mch W m q) (c : Ck) (hc : m.Is c) : ∃ (F : FuncId) (pre post : Array Value),fv = .func (.func F) pre post ∧ (∀ args w,(callFunc F args).run Tryz.prog w = .ok (.enter F args) w) ∧ Calls Tryz.prog F (pre ++ #[.agg (ckC c).toArray] ++ post) W (Ret (ckV (m.eff e c)) W) := by
 rcases h with ⟨he,rfl⟩ | ⟨he,xb,ib,p,rfl,hp,h1,h2⟩
 · refine ⟨_,_,_,rfl,fun args w => by rfl,?_⟩
   unfold Md.eff
   rw [if_pos he]
   exact tick_c m q c W hm hq hc
 · refine ⟨_,_,_,rfl,fun args w => by rfl,?_⟩
   unfold Md.eff
   rw [if_neg he,Md.idx_at hm hp]
   exact effect1_c m q c p xb ib W hm hq hc (by rw [hm.len]; exact (List.getElem?_eq_some_iff.1 hp).1) h1 h2
def GivesStT (c : Ck) (w : World) (e : Ending) (w' : World) : Prop := ∃ (A : Option Addr) (cp : Nat),e = .returned (.agg #[.int .i64 c.1,.slice A c.2.length cp]) ∧ Hid (Sep w.heap.size w [eInts c.2 (.slice A c.2.length cp)] w')
set_option maxHeartbeats 4000000 in
theorem state_c (m : Md) (q : McP) (c : Ck) (w : World) (hm : m.Ok) (hq : Mch w m q) (hc : m.Is c) :
 Calls Tryz.prog 42 #[.pointer (some ⟨q.g,0,none⟩),.agg (ckC c).toArray] w (GivesStT c w) := by
 have hlen := hc.len
 have h32 := hm.len32
 have hl32 : c.2.length ≤ 32 := by omega
 have HM := Lib.hid hm
 have HC := Lib.hid hc
 have HQ := Lib.hid hq
 have HT : Hid (∀ i : Nat,i < m.ac.length → 0 ≤ tmr c i ∧ tmr c i ≤ 16) := fun i hi => by have h1 := hc.t i hi; have h2 := hm.df hi; omega
 clear hq hc hm
 go_enter Tryz.func42,Tryz.ntmps42
 obtain ⟨cb,hcb⟩ : ∃ g,g = w.heap.size := ⟨_,rfl⟩
 obtain ⟨rb,hrb⟩ : ∃ g,g = w.heap.size + 1 := ⟨_,rfl⟩
 go_upto_region 1 with fail
 rw [← hrb,← hcb]
 refine wp_world (fun W => Sep w.heap.size w [eBlk rb 52 [.int .i64 0,.slice none 0 0],eBlk cb 91 (ckC c)] W) (((Sep.here w).alloc' _ (ckC c) rfl hcb).alloc' _ [_,_] rfl (by rw [hrb]; simp)) fun W S => ?_
 have S0 := Lib.hid S
 clear S hcb hrb
 have k0 : W.cell? ⟨cb,0,none⟩ = some (.int .i64 c.1) := BlkAt.cell (S0.out.get 1 rfl) 0
 obtain ⟨sb,hsb⟩ : ∃ g,g = W.heap.size := ⟨_,rfl⟩
 go_upto_region 2 with fail
 rw [← hsb]
 refine wp_world (fun V => Sep w.heap.size w [eBlk sb 52 [.int .i64 c.1,.slice none (c.2.take 0).length 0],eInts (c.2.take 0) (.slice none (c.2.take 0).length 0),eBlk rb 52 [.int .i64 0,.slice none 0 0],eBlk cb 91 (ckC c)] V) (((S0.out.alloc' _ [_,_] rfl hsb).nilOwn encI 1 3).pick [1,0,2,3] (by decide)) fun W1 S => ?_
 have S1 := Lib.hid S
 clear S S0 hsb k0
 have HQ1 := Lib.hid (HQ.out.below S1.out.below)
 have k5 : W1.cell? ⟨q.g,4,none⟩ = some (.slice q.P.B m.ac.length q.P.d) := (HQ1.out.blk.cell 4).trans (mcell_m (by decide))
 go_wp2_with fail
 clear k5 HQ1
 go_loopw [16] (fun i wr => ∃ (k : Nat) (A0 : Option Addr) (c0 : Nat),i = .int .i64 (k : Int) ∧ k ≤ m.ac.length ∧ Hid (Sep w.heap.size w [eBlk sb 52 [.int .i64 c.1,.slice A0 (c.2.take k).length c0],eInts (c.2.take k) (.slice A0 (c.2.take k).length c0),eBlk rb 52 [.int .i64 0,.slice none 0 0],eBlk cb 91 (ckC c)] wr)) (fun i _ => m.ac.length - (intOf i).toNat)
 case atStart => exact ⟨0,none,0,rfl,Nat.zero_le _,S1.out⟩
 case round =>
  clear S1
  obtain ⟨k,A0,c0,rfl,hk,S⟩ := hrel
  by_cases hlt : k < m.ac.length
  · obtain ⟨L,hL⟩ : ∃ L,L = c.2.take k := ⟨_,rfl⟩
    rw [← hL] at S
    have HTK : Hid (c.2.take (k + 1) = L ++ [tmr c k]) := by rw [Hid,List.take_add_one,tmr_get (by omega),hL]; rfl
    have HKL : Hid (k < c.2.length) := by rw [Hid]; omega
    have HLE : Hid (L.length ≤ 1048576) := by rw [Hid,hL,List.length_take]; omega
    clear hL
    have ht16 := HT.out k hlt
    have hw : IntKind.i64.wrap (tmr c k) = tmr c k := IntWalk.i64_in _ (by omega)
    have hi3 : (k : Int) < 32 := by omega
    clear ht16
    go_upto_region 5 with fail
    have S1 := Lib.hid S.out.drew
    refine wp_region_held_drew (S := (fun V => Sep w.heap.size w [eBlk cb 91 (ckC c)] V)) (by kernel_rfl) ?_ (fun hHeld => ?_)
    · exact S1.out.pick [3] (by decide)
    generalize hwz : wr.drew = w1 at *
    clear hwz
    refine tkP 0 rfl hHeld ?_
    try simp only [sx]
    refine tkP 2 rfl hHeld ?_
    try simp only [sx]
    refine tkP 3 rfl hHeld ?_
    try simp only [sx]
    refine tkP 4 rfl hHeld ?_
    try simp only [sx]
    refine tkH 5 rfl (v := ?_) (by kernel_rfl) ?_ hHeld ?_
    rotate_left
    · intro V hSw
      have kt := (BlkAt.cell (Sep.get (show Sep w.heap.size w _ V from hSw) 0 rfl) (1 + k)).trans (ckC_get HKL.out)
      clear hSw
      first | (go_simp; done) | (go_simp; with_reducible rfl)
    try simp only [sx]
    refine tkP 6 rfl hHeld ?_
    try simp only [sx]
    refine wpAnyH_ready (rs := [1,7]) (by kernel_rfl) (by simp) ?_
    refine AllReadyH.cons rfl (fun K hK => ?_) (AllReadyH.cons rfl (fun K hK => ?_) AllReadyH.nil)
    · skip
      have sl := qkC S1.out 0 rfl 1 rfl
      go_simp
      refine hK.out _ _ ?_ (fun hHeld => ?_)
      · exact S1.out.pick [3] (by decide)
      clear hK K
      try simp only [sx]
      refine rdH 7 rfl fun K hK => ?_
      go_simp
      obtain ⟨nnw,hnnw⟩ : ∃ n,n = w1.heap.size := ⟨_,rfl⟩
      obtain ⟨w2,hw2⟩ : ∃ v,v = w1.alloc (.cells #[(.int .i64 (tmr c k))] 3) := ⟨_,rfl⟩
      rw [← hw2,← hnnw]
      have S2 := qkA S1.out hw2 hnnw
      skip
      clear hw2 hnnw
      refine hK.out _ _ ?_ (fun hHeld => ?_)
      · exact S2.out.pick [4] (by decide)
      clear hK K
      try simp only [sx]
      refine rdH 8 rfl fun K hK => ?_
      refine step_pushS rfl (.tmp 20) (.tmp 26) 31 rfl S2.out 2 rfl Tryz.underlying31 _ 8 intInfo rfl (by decide) rfl (tmr c k) nnw rfl rfl (fun j u hj => (BlkAt.cell (S2.out.get 0 rfl) j).trans hj) (encI_one _) HLE.out (by decide) ?_
      intro A1 c1 w3 S3' _
      have S3 := qkR S3'
      clear S3'
      refine hK.out _ _ ?_ (fun hHeld => ?_)
      · exact S3.out.pick [4] (by decide)
      clear hK K
      try simp only [sx]
      refine tkP 9 rfl hHeld ?_
      try simp only [sx]
      refine rdH 10 rfl fun K hK => ?_
      have sc := qkC S3.out 1 rfl 1 rfl
      have sf := BlkAt.free (S3.out.get 1 rfl) 1
      go_simp
      obtain ⟨w4,hw4⟩ : ∃ v,v = w3.setCell ⟨sb,1,none⟩ (.slice A1 (L.length + 1) c1) := ⟨_,rfl⟩
      rw [← hw4]
      have S4 := qkS S3.out hw4 1 rfl
      clear hw4 sc sf
      refine hK.out _ _ ?_ (fun hHeld => ?_)
      · exact S4.out.pick [4] (by decide)
      clear hK K
      try simp only [sx]
      refine wpAnyH_done (by kernel_rfl) ?_ _
      have S9 : Hid (Sep w.heap.size w [eBlk sb 52 [.int .i64 c.1,.slice A1 (c.2.take (k + 1)).length c1],eInts (c.2.take (k + 1)) (.slice A1 (c.2.take (k + 1)).length c1),eBlk rb 52 [.int .i64 0,.slice none 0 0],eBlk cb 91 (ckC c)] w4) := by
       have h := S4.out.drop1
       rw [HTK.out]
       rw [List.length_append,List.length_singleton]
       exact h
      go_wp2_with fail
      go_roundw
      case rel => exact ⟨k + 1,A1,c1,by go_num,by omega,S9.out⟩
      case measure => simp [intOf]; omega
    · skip
      go_simp
      obtain ⟨nnw,hnnw⟩ : ∃ n,n = w1.heap.size := ⟨_,rfl⟩
      obtain ⟨w5,hw5⟩ : ∃ v,v = w1.alloc (.cells #[(.int .i64 (tmr c k))] 3) := ⟨_,rfl⟩
      rw [← hw5,← hnnw]
      have S5 := qkA S1.out hw5 hnnw
      skip
      clear hw5 hnnw
      refine hK.out _ _ ?_ (fun hHeld => ?_)
      · exact S5.out.pick [4] (by decide)
      clear hK K
      try simp only [sx]
      refine rdH 1 rfl fun K hK => ?_
      have sl := qkC S5.out 1 rfl 1 rfl
      go_simp
      refine hK.out _ _ ?_ (fun hHeld => ?_)
      · exact S5.out.pick [4] (by decide)
      clear hK K
      try simp only [sx]
      refine rdH 8 rfl fun K hK => ?_
      refine step_pushS rfl (.tmp 20) (.tmp 26) 31 rfl S5.out 2 rfl Tryz.underlying31 _ 8 intInfo rfl (by decide) rfl (tmr c k) nnw rfl rfl (fun j u hj => (BlkAt.cell (S5.out.get 0 rfl) j).trans hj) (encI_one _) HLE.out (by decide) ?_
      intro A1 c1 w6 S6' _
      have S6 := qkR S6'
      clear S6'
      refine hK.out _ _ ?_ (fun hHeld => ?_)
      · exact S6.out.pick [4] (by decide)
      clear hK K
      try simp only [sx]
      refine tkP 9 rfl hHeld ?_
      try simp only [sx]
      refine rdH 10 rfl fun K hK => ?_
      have sc := qkC S6.out 1 rfl 1 rfl
      have sf := BlkAt.free (S6.out.get 1 rfl) 1
      go_simp
      obtain ⟨w7,hw7⟩ : ∃ v,v = w6.setCell ⟨sb,1,none⟩ (.slice A1 (L.length + 1) c1) := ⟨_,rfl⟩
      rw [← hw7]
      have S7 := qkS S6.out hw7 1 rfl
      clear hw7 sc sf
      refine hK.out _ _ ?_ (fun hHeld => ?_)
      · exact S7.out.pick [4] (by decide)
      clear hK K
      try simp only [sx]
      refine wpAnyH_done (by kernel_rfl) ?_ _
      have S9 : Hid (Sep w.heap.size w [eBlk sb 52 [.int .i64 c.1,.slice A1 (c.2.take (k + 1)).length c1],eInts (c.2.take (k + 1)) (.slice A1 (c.2.take (k + 1)).length c1),eBlk rb 52 [.int .i64 0,.slice none 0 0],eBlk cb 91 (ckC c)] w7) := by
       have h := S7.out.drop1
       rw [HTK.out]
       rw [List.length_append,List.length_singleton]
       exact h
      go_wp2_with fail
      go_roundw
      case rel => exact ⟨k + 1,A1,c1,by go_num,by omega,S9.out⟩
      case measure => simp [intOf]; omega
  · obtain rfl : k = m.ac.length := by omega
    have hta : c.2.take m.ac.length = c.2 := by rw [← hlen,List.take_length]
    have S2 : Hid (Sep w.heap.size w [eBlk sb 52 [.int .i64 c.1,.slice A0 c.2.length c0],eInts c.2 (.slice A0 c.2.length c0),eBlk rb 52 [.int .i64 0,.slice none 0 0],eBlk cb 91 (ckC c)] wr) := by
     have h := S.out
     rw [hta] at h
     exact h
    have HLN := Lib.hid hlen
    rw [hta] at *
    clear S hta hlen
    have s0 := BlkAt.cell (S2.out.get 0 rfl) 0; have s1 := BlkAt.cell (S2.out.get 0 rfl) 1; simp only [List.getElem?_cons_succ,List.getElem?_cons_zero] at s0 s1
    have r0 := BlkAt.cell (S2.out.get 2 rfl) 0; have r1 := BlkAt.cell (S2.out.get 2 rfl) 1; simp only [List.getElem?_cons_succ,List.getElem?_cons_zero] at r0 r1
    have f0 := BlkAt.free (S2.out.get 2 rfl) 0
    have f1 := BlkAt.free (S2.out.get 2 rfl) 1
    have S3 : Hid (Sep w.heap.size w [eBlk sb 52 [.int .i64 c.1,.slice A0 c.2.length c0],eInts c.2 (.slice A0 c.2.length c0),eBlk rb 52 [.int .i64 c.1,.slice A0 c.2.length c0],eBlk cb 91 (ckC c)] ((wr.setCell ⟨rb,0,none⟩ (.int .i64 c.1)).setCell ⟨rb,1,none⟩ (.slice A0 c.2.length c0))) := (S2.out.set 2 rfl 0 (.int .i64 c.1)).set 2 rfl 1 (.slice A0 c.2.length c0)
    have g0 := qkC S3.out 2 rfl 0 rfl
    have g1 := qkC S3.out 2 rfl 1 rfl
    clear S2
    go_wp2_with fail
    refine bodyPost_ret (v := .agg #[.int .i64 c.1,.slice A0 c.2.length c0]) (by simp [results,Tryz.results42,go_sem, *]) rfl ?_
    exact ⟨A0,c0,rfl,S3.out.pick [1] (by decide)⟩
set_option maxHeartbeats 2000000 in
theorem events_c (m : Md) (P : MdP) (w : World) (hm : m.Ok) (hA : Md.At w m P) (hc : m.a.al.length ≤ P.p.c1) :
 Calls Tryz.prog 39 #[.agg (m.cells P).toArray] w (GivesMg m.all w) := by
 have HA := Lib.hid hA
 have HC := Lib.hid hc
 have HL : Hid (m.a.al.length ≤ 32) := by rw [Hid,← hm.len]; exact hm.len32
 obtain ⟨⟨al,n,mr,ed⟩,ac,tk⟩ := m
 obtain ⟨⟨A1,c1,A2,c2,A3,c3⟩,B,d⟩ := P
 dsimp only [Md.cells] at HC HL ⊢
 clear hm hA hc
 go_enter Tryz.func39,Tryz.ntmps39
 obtain ⟨mb,hmb⟩ : ∃ g,g = w.heap.size := ⟨_,rfl⟩
 go_upto_region 1 with fail
 rw [← hmb]
 refine wp_world (fun W => Sep w.heap.size w [eBlk mb 37 [.slice A1 al.length c1,.int .i64 n,.slice A2 mr.length c2,.slice A3 ed.length c3,.slice B ac.length d,.int .i64 tk]] W) ((Sep.here w).alloc' _ [_,_,_,_,_,_] rfl hmb) fun W S => ?_
 have S0 := Lib.hid S
 clear S hmb
 have a0 := BlkAt.cell (S0.out.get 0 rfl) 0; have a5 := BlkAt.cell (S0.out.get 0 rfl) 5; simp only [List.getElem?_cons_succ,List.getElem?_cons_zero] at a0 a5
 go_wp2_with fail
 obtain ⟨sl,hsl⟩ : ∃ g,g = W.heap.size := ⟨_,rfl⟩
 rw [← hsl]
 refine calls_world (fun V => Sep w.heap.size w [eBlk sl 3 [.int .i64 tk],eBlk mb 37 [.slice A1 al.length c1,.int .i64 n,.slice A2 mr.length c2,.slice A3 ed.length c3,.slice B ac.length d,.int .i64 tk]] V) (S0.out.alloc' 3 [_] rfl hsl) fun W2 S => ?_
 have S2 := Lib.hid S
 clear S S0 hsl a0 a5
 refine (union_c A1 (some ⟨sl,0,none⟩) c1 1 al [tk] W2 (HA.out.a.al.below IntE.stays S2.out.below) (IntsAt.blk [tk] (S2.out.get 0 rfl)) HC.out (by simp) (by have := HL.out; simp; omega)).mono ?_
 rintro e w3 ⟨A,cp,rfl,O,hb⟩
 have S3 := Lib.hid (S2.out.next hb)
 have O2 := Lib.hid (O.out.base S2.out.fro.z)
 clear S2 O hb
 go_wp2_with fail
 go_ret
 exact ⟨A,cp,rfl,O2.out,S3.out.below⟩
set_option maxHeartbeats 4000000 in
theorem check44_c (m : Md) (P : MdP) (w : World) (hm : m.Ok) (hA : Md.At w m P) :
 Calls Tryz.prog 18 #[.agg (m.cells P).toArray] w (Ret (.int .i64 0) w) := by
 have HM := Lib.hid hm
 have HA := Lib.hid hA
 have h32 := hm.len32
 have HLL := Lib.hid hm.len
 have htk := hm.tk
 have HNO := Lib.hid hm.no
 have HEV : Hid (∀ (k : Nat) x,m.ac[k]? = some x → m.a.al[k]? = some x.ev) := fun k x hx => by rw [← hm.ev,List.getElem?_map,hx]; rfl
 have HBD := Lib.hid hm.bd
 obtain ⟨⟨al,n,mr,ed⟩,ac,tk⟩ := m
 obtain ⟨⟨A1,c1,A2,c2,A3,c3⟩,B,d⟩ := P
 dsimp only [Md.cells] at h32 HLL htk HNO HEV HBD ⊢
 clear hm hA
 go_enter Tryz.func18,Tryz.ntmps18
 obtain ⟨mb,hmb⟩ : ∃ g,g = w.heap.size := ⟨_,rfl⟩
 obtain ⟨ab,hab⟩ : ∃ g,g = w.heap.size + 1 := ⟨_,rfl⟩
 go_upto_region 1 with fail
 rw [← hmb]
 refine wp_world (fun W => Sep w.heap.size w [eBlk mb 37 [.slice A1 al.length c1,.int .i64 n,.slice A2 mr.length c2,.slice A3 ed.length c3,.slice B ac.length d,.int .i64 tk]] W ∧ W.heap.size = ab) ⟨(Sep.here w).alloc' _ [_,_,_,_,_,_] rfl hmb,by rw [hab]; simp⟩ fun W ⟨S,hW⟩ => ?_
 have S0 := Lib.hid S
 clear S hmb hab
 have a0 := BlkAt.cell (S0.out.get 0 rfl) 0; have a1 := BlkAt.cell (S0.out.get 0 rfl) 1; have a2 := BlkAt.cell (S0.out.get 0 rfl) 2; have a3 := BlkAt.cell (S0.out.get 0 rfl) 3; simp only [List.getElem?_cons_succ,List.getElem?_cons_zero] at a0 a1 a2 a3
 go_upto_region 2 with fail
 try rw [hW]
 refine wp_world (fun V => Sep w.heap.size w [eBlk ab 34 [.slice A1 al.length c1,.int .i64 n,.slice A2 mr.length c2,.slice A3 ed.length c3],eBlk mb 37 [.slice A1 al.length c1,.int .i64 n,.slice A2 mr.length c2,.slice A3 ed.length c3,.slice B ac.length d,.int .i64 tk]] V) (S0.out.alloc' _ [_,_,_,_] rfl hW.symm) fun W1 S => ?_
 have S1 := Lib.hid S
 clear S S0 hW a0 a1 a2 a3
 have a0 := BlkAt.cell (S1.out.get 0 rfl) 0; have a1 := BlkAt.cell (S1.out.get 0 rfl) 1; have a2 := BlkAt.cell (S1.out.get 0 rfl) 2; have a3 := BlkAt.cell (S1.out.get 0 rfl) 3; simp only [List.getElem?_cons_succ,List.getElem?_cons_zero] at a0 a1 a2 a3
 go_wp2_with fail
 refine (CheckX_c ⟨al,n,mr,ed⟩ ⟨A1,c1,A2,c2,A3,c3⟩ W1 (HA.out.a.below S1.out.below)).mono ?_
 rintro e w2 ⟨r,rfl,hr,hb⟩
 obtain rfl : r = 0 := hr.zero.2 HM.out.a
 have S2 := Lib.hid (S1.out.next hb)
 clear S1 hb hr a0 a1 a2 a3
 have a0 := BlkAt.cell (S2.out.get 0 rfl) 0; simp only [List.getElem?_cons_succ,List.getElem?_cons_zero] at a0
 have b4 := BlkAt.cell (S2.out.get 1 rfl) 4; have b5 := BlkAt.cell (S2.out.get 1 rfl) 5; simp only [List.getElem?_cons_succ,List.getElem?_cons_zero] at b4 b5
 have hd1 : decide (tk < 0) = false := decide_eq_false (by omega)
 have hd2 : decide (32 ≤ tk) = false := decide_eq_false (by omega)
 have hd3 : ((ac.length : Int) != (al.length : Int)) = false := by have := HLL.out; simp [this]
 have CV := Lib.hid (containsV_c A1 c1 al tk w2 (HA.out.a.al.below IntE.stays S2.out.below) (by have := HLL.out; omega))
 go_wp2_with fail
 refine CV.out.mono ?_
 intro e w5 hs
 obtain ⟨rfl,rfl⟩ := hs.no3 HNO.out
 clear hs CV
 go_wp2_with fail
 clear a0 b4 b5
 go_loopw [37] (fun i wr => ∃ k : Nat,i = .int .i64 (k : Int) ∧ k ≤ ac.length ∧ Hid (Sep w.heap.size w [eBlk ab 34 [.slice A1 al.length c1,.int .i64 n,.slice A2 mr.length c2,.slice A3 ed.length c3],eBlk mb 37 [.slice A1 al.length c1,.int .i64 n,.slice A2 mr.length c2,.slice A3 ed.length c3,.slice B ac.length d,.int .i64 tk]] wr)) (fun i _ => ac.length - (intOf i).toNat)
 case atStart => exact ⟨0,rfl,Nat.zero_le _,S2.out⟩
 case round =>
  clear S2
  obtain ⟨k,rfl,hk,S⟩ := hrel
  by_cases hlt : k < ac.length
  · obtain ⟨b,off,x,hAe,hb,hx,e0,e1,e2⟩ := AcsAt.at (HA.out.ac.below AcE.stays S.out.below) hlt
    dsimp only at hAe
    subst hAe
    have hbd := HBD.out x (List.mem_of_getElem? hx)
    have hev := HEV.out k x hx
    obtain ⟨be,hbe⟩ : ∃ g,g = wr.heap.size := ⟨_,rfl⟩
    clear hx hb
    go_upto_region 14 with fail
    rw [← hbe]
    refine wp_world (fun W => Sep w.heap.size w [eBlk be 44 [.int .i64 x.ev,.int .i64 x.lo,.int .i64 x.up],eBlk ab 34 [.slice A1 al.length c1,.int .i64 n,.slice A2 mr.length c2,.slice A3 ed.length c3],eBlk mb 37 [.slice A1 al.length c1,.int .i64 n,.slice A2 mr.length c2,.slice A3 ed.length c3,.slice (some ⟨b,off,none⟩) ac.length d,.int .i64 tk]] W) (S.out.alloc' _ [_,_,_] rfl hbe) fun W S' => ?_
    have S3 := Lib.hid S'
    clear S' S hbe e0 e1 e2
    obtain ⟨b1,off1,y,hA1,_,hy,cy⟩ := IntsAt.at (HA.out.a.al.below IntE.stays S3.out.below) (List.getElem?_eq_some_iff.1 hev).1
    dsimp only at hA1
    subst hA1
    dsimp only at hy
    rw [hev] at hy; cases hy
    have hkl : (k : Int) < (al.length : Int) := by rw [← HLL.out]; omega
    have hkn : k < al.length := by rw [← HLL.out]; omega
    clear hev
    have z0 := BlkAt.cell (S3.out.get 0 rfl) 0; have z1 := BlkAt.cell (S3.out.get 0 rfl) 1; have z2 := BlkAt.cell (S3.out.get 0 rfl) 2; simp only [List.getElem?_cons_succ,List.getElem?_cons_zero] at z0 z1 z2
    have a0 := BlkAt.cell (S3.out.get 1 rfl) 0; simp only [List.getElem?_cons_succ,List.getElem?_cons_zero] at a0
    have hd3 : (x.ev != x.ev) = false := by simp
    have hd4 : decide (x.lo < 0) = false := decide_eq_false (by omega)
    have hd5 : decide (16 < x.lo) = false := decide_eq_false (by omega)
    go_quiet (fail)
    by_cases hu : x.up = -1
    · have hd6 : (x.up != -1) = false := by simp [hu]
      go_wp2_with fail
      go_roundw
      case rel => exact ⟨k + 1,by go_num,by omega,S3.out.drop1.draws _⟩
      case measure => simp [intOf]; omega
    · have hd6 : (x.up != -1) = true := by simp [hu]
      have hd7 : decide (x.up < x.lo) = false := decide_eq_false (by omega)
      have hd8 : decide (16 < x.up) = false := decide_eq_false (by omega)
      go_wp2_with fail
      go_roundw
      case rel => exact ⟨k + 1,by go_num,by omega,S3.out.drop1.draws _⟩
      case measure => simp [intOf]; omega
  · obtain rfl : k = ac.length := by omega
    go_wp2_with fail
    go_ret
    exact ⟨rfl,S.out.below⟩
theorem cells8 : Tryz.prog.cellsOf 88 = 1 := by kernel_rfl
theorem items8 (d : Nat) {xs ys : List Int} (hx : xs.length = 32) (hy : ys.length = 32) (w : World) : ∀ is : List Nat,(∀ i,i ∈ is → i < 32) →
 (Op.eqItems (d + 1) 88 (Tryz.prog.cellsOf 88) (xs.map (.int .i8)).toArray (ys.map (.int .i8)).toArray is).run Tryz.prog w = .ok (decide (∀ i,i ∈ is → xs[i]? = ys[i]?)) w
 | [],_ => by simp [Op.eqItems]
 | i :: is,h => by
   have hi := h i (by simp)
   obtain ⟨x,hxi⟩ : ∃ x,xs[i]? = some x := ⟨_,List.getElem?_eq_getElem (by omega)⟩
   obtain ⟨y,hyi⟩ : ∃ y,ys[i]? = some y := ⟨_,List.getElem?_eq_getElem (by omega)⟩
   have p1 : (part 88 (xs.map (.int .i8)).toArray (i * 1)).run Tryz.prog w = .ok (.int .i8 x) w := run_part_plain w (by kernel_rfl) (by simp [hxi])
   have p2 : (part 88 (ys.map (.int .i8)).toArray (i * 1)).run Tryz.prog w = .ok (.int .i8 y) w := run_part_plain w (by kernel_rfl) (by simp [hyi])
   have p3 := run_equalIn_int (P := Tryz.prog) w d 88 .i8 .i8 x y Tryz.underlying88
   have ih := items8 d hx hy w is (fun j hj => h j (by simp [hj]))
   rw [cells8] at ih
   rw [cells8]
   simp only [Op.eqItems,Sem.run_bind,p1,p2,p3,Result.andThen_ok]
   by_cases e : x = y
   · subst e
     simp [ih,hxi,hyi]
   · have : (x == y) = false := by simp [e]
     rw [this]
     simp [hxi,hyi,e]
theorem part_ckT {s : Int} {t : List Int} (ht : t.length ≤ 32) (w : World) : (part 89 (ckC (s,t)).toArray 1).run Tryz.prog w = .ok (.agg (ckT t).toArray) w := by
 unfold ckC
 dsimp only
 obtain ⟨z0,z1,z2,z3,z4,z5,z6,z7,z8,z9,z10,z11,z12,z13,z14,z15,z16,z17,z18,z19,z20,z21,z22,z23,z24,z25,z26,z27,z28,z29,z30,z31,e⟩ := len32 (ckT_len ht)
 simp only [e]
 kernel_rfl
theorem ck_und : Tryz.prog.underlying 91 = some (.struct (Tryz.prog.fieldsOf 91)) := by kernel_rfl
theorem ck_stood : Tryz.prog.stoodInHeld 91 = false := by kernel_rfl
theorem ck_fields : ∃ f0 f1 : Field, (Tryz.prog.fieldsOf 91).toList = [f0, f1] ∧ (f0.name ≠ "_" ∧ f0.type = 3 ∧ f0.offset = 0) ∧ f1.name ≠ "_" ∧ f1.type = 89 ∧ f1.offset = 1 :=
 ⟨(Tryz.prog.fieldsOf 91)[0]!,(Tryz.prog.fieldsOf 91)[1]!,by kernel_rfl,⟨of_decide_eq_true (by kernel_rfl),by kernel_rfl,by kernel_rfl⟩,of_decide_eq_true (by kernel_rfl),by kernel_rfl,by kernel_rfl⟩
theorem eq_timers {d : Nat} {t u : List Int} (ht : t.length ≤ 32) (hu : u.length ≤ 32) (w : World) : (Op.equalIn (d + 2) 89 (.agg (ckT t).toArray) (.agg (ckT u).toArray)).run Tryz.prog w = .ok (decide (pad32 t = pad32 u)) w := by
 obtain ⟨i8,hi8⟩ := info_of_underlying (P := Tryz.prog) Tryz.underlying88
 rw [run_equalIn_array w (d + 1) (ckT t).toArray (ckT u).toArray Tryz.underlying89 hi8]
 have := items8 d (pad32_len ht) (pad32_len hu) w (List.range 32) (fun i hi => List.mem_range.1 hi)
 refine this.trans ?_
 congr 1
 rw [decide_eq_decide]
 constructor
 · intro h
   exact list_eq_of (pad32_len ht) (pad32_len hu) fun i hi => h i (List.mem_range.2 hi)
 · intro h i _
   rw [h]
theorem eqFields2 {P : Program} {d : Nat} {xs ys : Array Value} {f0 f1 : Field} {a b a' b' : Value} {r r' : Bool} {w : World} (n0 : f0.name ≠ "_") (n1 : f1.name ≠ "_") (p1 : (part f0.type xs f0.offset).run P w = .ok a w) (p2 : (part f0.type ys f0.offset).run P w = .ok b w) (p3 : (Op.equalIn d f0.type a b).run P w = .ok r w)
 (p4 : (part f1.type xs f1.offset).run P w = .ok a' w) (p5 : (part f1.type ys f1.offset).run P w = .ok b' w) (p6 : (Op.equalIn d f1.type a' b').run P w = .ok r' w) : (Op.eqFields d xs ys [f0,f1]).run P w = .ok (r && r') w := by
 simp only [Op.eqFields,n0,n1,ne_eq,not_false_eq_true,if_true,Sem.run_bind,p1,p2,p3,Result.andThen_ok]
 cases r
 · simp
 · cases r' <;> simp [p4,p5,p6]
theorem eq_ckD {d : Nat} (s s' : Int) {t u : List Int} (ht : t.length ≤ 32) (hu : u.length ≤ 32) (w : World) : (Op.equalIn (d + 3) 91 (.agg (ckC (s,t)).toArray) (.agg (ckC (s',u)).toArray)).run Tryz.prog w = .ok (decide (s = s' ∧ pad32 t = pad32 u)) w := by
 obtain ⟨f0,f1,hfs,⟨n0,t0,o0⟩,n1,t1,o1⟩ := ck_fields
 rw [run_equalIn_struct w (d + 2) 91 _ _ ck_und ck_stood,hfs]
 have p1 : (part 3 (ckC (s,t)).toArray 0).run Tryz.prog w = .ok (.int .i64 s) w := run_part_plain w (by kernel_rfl) (by simp [ckC])
 have p2 : (part 3 (ckC (s',u)).toArray 0).run Tryz.prog w = .ok (.int .i64 s') w := run_part_plain w (by kernel_rfl) (by simp [ckC])
 have p3 := run_equalIn_int (P := Tryz.prog) w (d + 1) 3 .i64 .i64 s s' Tryz.underlying3
 have p4 : (part 89 (ckC (s,t)).toArray 1).run Tryz.prog w = .ok (.agg (ckT t).toArray) w := part_ckT ht w
 have p5 : (part 89 (ckC (s',u)).toArray 1).run Tryz.prog w = .ok (.agg (ckT u).toArray) w := part_ckT hu w
 have p6 := eq_timers (d := d) ht hu w
 rw [← t0,← o0] at p1 p2
 rw [← t1,← o1] at p4 p5
 rw [← t0] at p3
 rw [← t1] at p6
 rw [eqFields2 n0 n1 p1 p2 p3 p4 p5 p6]
 congr 1
 by_cases e : s = s' <;> simp [e]
theorem eq_ck (s s' : Int) {t u : List Int} (ht : t.length ≤ 32) (hu : u.length ≤ 32) (w : World) : (Op.equal 91 (.agg (ckC (s,t)).toArray) (.agg (ckC (s',u)).toArray)).run Tryz.prog w = .ok (decide (s = s' ∧ pad32 t = pad32 u)) w := by
 obtain ⟨d,hd⟩ : ∃ d,Op.maxDepth = d + 3 := ⟨9997,rfl⟩
 unfold Op.equal
 rw [hd]
 exact eq_ckD s s' ht hu w
abbrev CkK (K : Nat) := { c : Ck // c.2.length = K }
def keyC {K : Nat} (c : CkK K) : Value := .agg (ckC c.1).toArray
theorem okC {K : Nat} (hK : K ≤ 32) : KeyG Tryz.prog 91 (.struct (Tryz.prog.fieldsOf 91)) (keyC (K := K)) := ⟨by kernel_rfl,fun x y w => by
 obtain ⟨⟨s,t⟩,ht⟩ := x
 obtain ⟨⟨s',u⟩,hu⟩ := y
 dsimp only at ht hu
 unfold keyC
 rw [eq_ck s s' (by omega) (by omega) w]
 congr 1
 rw [decide_eq_decide]
 constructor
 · rintro ⟨rfl,h⟩
   have := pad32_inj (by omega) h
   subst this; rfl
 · intro h
   have := congrArg Subtype.val h
   simp only [Prod.mk.injEq] at this
   exact ⟨this.1,by rw [this.2]⟩,fun em x w => by
 obtain ⟨⟨s,t⟩,ht⟩ := x
 dsimp only at ht
 unfold keyC ckC
 obtain ⟨z0,z1,z2,z3,z4,z5,z6,z7,z8,z9,z10,z11,z12,z13,z14,z15,z16,z17,z18,z19,z20,z21,z22,z23,z24,z25,z26,z27,z28,z29,z30,z31,e⟩ := len32 (pad32_len (t := t) (by omega))
 unfold ckT
 simp only [e]
 cases em <;> kernel_rfl,fun x w => by
 obtain ⟨⟨s,t⟩,ht⟩ := x
 dsimp only at ht
 unfold keyC ckC
 obtain ⟨z0,z1,z2,z3,z4,z5,z6,z7,z8,z9,z10,z11,z12,z13,z14,z15,z16,z17,z18,z19,z20,z21,z22,z23,z24,z25,z26,z27,z28,z29,z30,z31,e⟩ := len32 (pad32_len (t := t) (by omega))
 unfold ckT
 simp only [e]
 simp [Instr.keyThatStays,Instr.sameBits],.inl fun _ _ => rfl,fun x y h => by
 unfold keyC at h
 have h2 : ckC x.1 = ckC y.1 := by injection h with h; simpa using congrArg Array.toList h
 exact Subtype.ext (ckC_inj (by rw [x.2,y.2]) h2)⟩
def encC (c : Ck) : List Value := (ckC c).take 33
theorem encC_len (c : Ck) : (encC c).length = 33 := by simp [encC,ckC,ckT,pad32]; omega
theorem encC_eq {c : Ck} (h : c.2.length ≤ 32) : encC c = ckC c := by unfold encC; rw [List.take_of_length_le]; rw [ckC_len h]; exact Nat.le_refl _
theorem encC_cell (c : Ck) : ∀ v ∈ encC c,v.oneCell' = true := fun v hv => ckC_cell c v (List.mem_of_mem_take hv)
abbrev eCks (l : List Ck) (v : Value) : Ent := eOwn encC 33 91 l v
abbrev CksAt := SlAt (fun _ (c : Ck) vs => vs = encC c) 33
theorem ckInfo : (Tryz.prog.info? 91).map (fun i => (i.zero,i.size,i.bytes)) = some (some (.agg (ckC (0,[])).toArray),33,40) := by kernel_rfl
theorem CksAt.at {w : World} {A : Option Addr} {l : List Ck} (h : CksAt w A l) {k : Nat} {c : Ck} (hk : l[k]? = some c) (hc : c.2.length ≤ 32) : ∃ b off,A = some ⟨b,off,none⟩ ∧ w.rangeAt b (off + k * 33) (ckC c) := by
 obtain ⟨b,off,x,vs,hA,_,hx,_,hv,hcs⟩ := SlAt.at h (List.getElem?_eq_some_iff.1 hk).1
 rw [hk] at hx; cases hx
 subst hv
 refine ⟨b,off,hA,fun j v hj => ?_⟩
 rw [← encC_eq hc] at hj
 exact hcs j v hj
theorem CksAt.range {w : World} {b off : Nat} {l : List Ck} (h : CksAt w (some ⟨b,off,none⟩) l) {k : Nat} {c : Ck} (hk : l[k]? = some c) (hc : c.2.length ≤ 32) : w.rangeAt b (off + k * 33) (ckC c) := by
 obtain ⟨b',off',hA,h2⟩ := CksAt.at h hk hc
 cases hA
 exact h2
section
def stB (m : Md) (i : Nat) (s : List Ck × List Ed) (e : Int) : List Ck × List Ed :=
 match s.1[i]? with
 | none => s
 | some v => match m.eff e v with
   | none => s
   | some t => if t ∈ s.1 then (s.1,s.2 ++ [⟨i,e,((idxK s.1 t : Nat) : Int)⟩]) else (s.1 ++ [t],s.2 ++ [⟨i,e,(s.1.length : Int)⟩])
def rowB (m : Md) (i : Nat) (s : List Ck × List Ed) (l : List Int) : List Ck × List Ed := l.foldl (stB m i) s
def bldB (m : Md) : Nat → List Ck × List Ed
 | 0 => ([m.start],[])
 | i + 1 => rowB m i (bldB m i) m.all
theorem rowB_next (m : Md) (i : Nat) (s : List Ck × List Ed) {l : List Int} {j : Nat} {e : Int} (h : l[j]? = some e) : rowB m i s (l.take (j + 1)) = stB m i (rowB m i s (l.take j)) e := by
 unfold rowB
 rw [List.take_add_one,h,Option.toList_some,List.foldl_append]; rfl
def outE (m : Md) (v : Ck) (l : List Int) : List (Int × Ck) := l.filterMap fun e => (m.eff e v).map fun t => (e,t)
abbrev outF (m : Md) (v : Ck) : List (Int × Ck) := outE m v m.all
section
variable {m : Md}
theorem take_snoc {l : List Int} {j : Nat} {e : Int} (h : l[j]? = some e) : l.take (j + 1) = l.take j ++ [e] := by rw [List.take_add_one,h]; rfl
theorem outE_yes {v t : Ck} {l : List Int} {j : Nat} {e : Int} (h : l[j]? = some e) (he : m.eff e v = some t) : (outE m v (l.take (j + 1))).length = (outE m v (l.take j)).length + 1 := by
 rw [take_snoc h]; unfold outE; rw [List.filterMap_append,List.length_append]; simp [he]
theorem outE_no {v : Ck} {l : List Int} {j : Nat} {e : Int} (h : l[j]? = some e) (he : m.eff e v = none) : (outE m v (l.take (j + 1))).length = (outE m v (l.take j)).length := by
 rw [take_snoc h]; unfold outE; rw [List.filterMap_append,List.length_append]; simp [he]
theorem outE_at {v t : Ck} {l : List Int} {j : Nat} {e : Int} (h : l[j]? = some e) (he : m.eff e v = some t) : (outE m v l)[(outE m v (l.take j)).length]? = some (e,t) := by
 have hlt := (List.getElem?_eq_some_iff.1 h).1
 have e1 : outE m v l = outE m v (l.take j) ++ outE m v (l.drop j) := by unfold outE; rw [← List.filterMap_append,List.take_append_drop]
 have e2 : l.drop j = e :: l.drop (j + 1) := by
  rw [List.drop_eq_getElem_cons hlt]
  rw [(List.getElem?_eq_some_iff.1 h).2]
 rw [e1,List.getElem?_append_right (Nat.le_refl _),Nat.sub_self,e2]
 unfold outE
 simp [he]
theorem all_incr (h : m.Ok) : Rises (fun p q : Int => p < q) m.all := by
 refine rises_unionV (m.a.al.length + 1) m.a.al [m.tk] (by simp) h.a.al.incr ?_
 intro i j x y hij hx hy
 have h1 := (List.getElem?_eq_some_iff.1 hx).1
 have h2 := (List.getElem?_eq_some_iff.1 hy).1
 simp at h1 h2; omega
theorem mem_all {e : Int} : e ∈ m.all ↔ e ∈ m.a.al ∨ e = m.tk := by
 unfold Md.all
 rw [mem_unionV (m.a.al.length + 1) m.a.al [m.tk] (by simp)]
 simp
theorem all_ok (h : m.Ok) : setOk m.all 32 m.all.length := setOk_of (all_incr h) fun x hx => by
 rcases mem_all.1 hx with g | rfl
 · exact al_rg h.a g
 · exact h.tk
theorem all_len (h : m.Ok) : m.all.length ≤ 33 := by
 have h2 : m.a.al.length ≤ 32 := by rw [← h.len]; exact h.len32
 have := mergeV_len orF (m.a.al.length + 1) m.a.al [m.tk] (by simp)
 unfold Md.all unionV
 omega
theorem out_ups (h : m.Ok) (v : Ck) : Ups (outF m v) := by
 have hp := rises_pw (all_incr h)
 have : (outF m v).Pairwise fun x y => x.1 < y.1 := by
  unfold outF outE
  rw [List.pairwise_filterMap]
  refine hp.imp fun {x y} hxy u hu w hw => ?_
  simp only [Option.mem_def,Option.map_eq_some_iff] at hu hw
  obtain ⟨_,_,rfl⟩ := hu
  obtain ⟨_,_,rfl⟩ := hw
  exact hxy
 exact pw_rises this
theorem mem_out {v : Ck} {x : Int × Ck} (h : x ∈ outF m v) : x.1 ∈ m.all ∧ m.eff x.1 v = some x.2 := by
 unfold outF outE at h
 rw [List.mem_filterMap] at h
 obtain ⟨e,he,h2⟩ := h
 rw [Option.map_eq_some_iff] at h2
 obtain ⟨t,h3,rfl⟩ := h2
 exact ⟨he,h3⟩
structure UO (m : Md) (i : Nat) (fs : List Ck) (ed : List Ed) : Prop where
 eq : (fs,ed) = bldB m i
 is : ∀ c,c ∈ fs → m.Is c
 nd : fs.Nodup
 el : ed.length ≤ 33 * i
 il : i ≤ fs.length
 bl : Bld id (outF m) m.start i 0 fs ed
 rd : ∀ k,k < i → k < (bldB m k).1.length
structure UI (m : Md) (i j : Nat) (v : Ck) (fs : List Ck) (ed : List Ed) : Prop where
 eq : (fs,ed) = rowB m i (bldB m i) (m.all.take j)
 is : ∀ c,c ∈ fs → m.Is c
 nd : fs.Nodup
 el : ed.length ≤ 33 * i + j
 at_ : fs[i]? = some v
 bl : Bld id (outF m) m.start i (outE m v (m.all.take j)).length fs ed
 rd : ∀ k,k < i + 1 → k < (bldB m k).1.length
theorem UO.start (hm : m.Ok) (hn : 0 < m.a.n) : UO m 0 [m.start] [] :=
 ⟨rfl,fun c hc => by simp at hc; subst hc; exact Md.Is.start hm hn,by simp,by simp,by simp,Bld.start,fun k hk => absurd hk (by omega)⟩
theorem UO.row {i : Nat} {fs : List Ck} {ed : List Ed} {v : Ck} (h : UO m i fs ed) (hv : fs[i]? = some v) : UI m i 0 v fs ed :=
 ⟨by rw [h.eq]; rfl,h.is,h.nd,by have := h.el; omega,hv,by have := h.bl; simpa [outE] using this,fun k hk => by
  rcases Nat.lt_or_ge k i with g | g
  · exact h.rd k g
  · obtain rfl : k = i := by omega
    rw [← h.eq]
    exact (List.getElem?_eq_some_iff.1 hv).1⟩
theorem UI.none_ {i j : Nat} {fs : List Ck} {ed : List Ed} {v : Ck} {e : Int} (h : UI m i j v fs ed) (he : m.all[j]? = some e) (hn : m.eff e v = none) : UI m i (j + 1) v fs ed :=
 ⟨by rw [rowB_next m i _ he,← h.eq]; simp only [stB,h.at_,hn],h.is,h.nd,by have := h.el; omega,h.at_,by rw [outE_no he hn]; exact h.bl,h.rd⟩
theorem UI.old {i j : Nat} {fs : List Ck} {ed : List Ed} {v t : Ck} {e : Int} (hm : m.Ok) (h : UI m i j v fs ed) (he : m.all[j]? = some e) (hn : m.eff e v = some t) (ht : t ∈ fs) :
 UI m i (j + 1) v fs (ed ++ [⟨i,e,((idxK fs t : Nat) : Int)⟩]) :=
 ⟨by rw [rowB_next m i _ he,← h.eq]; simp only [stB,h.at_,hn,if_pos ht],h.is,h.nd,by rw [List.length_append]; have := h.el; simp only [List.length_singleton]; omega,h.at_,by
  rw [outE_yes he hn]
  exact h.bl.old h.at_ (out_ups hm v) (outE_at he hn) (idxK_get ht) rfl,h.rd⟩
theorem UI.new {i j : Nat} {fs : List Ck} {ed : List Ed} {v t : Ck} {e : Int} (hm : m.Ok) (h : UI m i j v fs ed) (he : m.all[j]? = some e) (hn : m.eff e v = some t) (ht : ¬ t ∈ fs) :
 UI m i (j + 1) v (fs ++ [t]) (ed ++ [⟨i,e,(fs.length : Int)⟩]) := by
 refine ⟨by rw [rowB_next m i _ he,← h.eq]; simp only [stB,h.at_,hn,if_neg ht],fun c hc => ?_,?_,by rw [List.length_append]; have := h.el; simp only [List.length_singleton]; omega,get_keep h.at_ _,?_,h.rd⟩
 · rcases List.mem_append.1 hc with g | g
   · exact h.is c g
   · simp at g; subst g
     exact (h.is v (List.mem_of_getElem? h.at_)).eff hm hn
 · rw [List.nodup_append]
   exact ⟨h.nd,by simp,fun a ha b hb e => by simp at hb; subst hb; subst e; exact ht ha⟩
 · rw [outE_yes he hn]
   exact h.bl.new h.at_ (out_ups hm v) (outE_at he hn) (fun u hu g => by simp only [id] at g; subst g; exact ht hu)
theorem UI.fin {i : Nat} {fs : List Ck} {ed : List Ed} {v : Ck} (hm : m.Ok) (h : UI m i m.all.length v fs ed) : UO m (i + 1) fs ed := by
 have hil := (List.getElem?_eq_some_iff.1 h.at_).1
 refine ⟨by rw [h.eq,List.take_length]; rfl,h.is,h.nd,by have := h.el; have := all_len hm; omega,by omega,?_,h.rd⟩
 have hb := h.bl
 rw [List.take_length] at hb
 exact Bld.next hb h.at_
def Ufd (m : Md) (fs : List Ck) (ed : List Ed) : Prop := UO m fs.length fs ed
theorem Ufd.uniq {fs fs' : List Ck} {ed ed' : List Ed} (h : Ufd m fs ed) (k : Ufd m fs' ed') : fs = fs' ∧ ed = ed' := by
 have e : fs.length = fs'.length := by
  rcases Nat.lt_trichotomy fs.length fs'.length with g | g | g
  · have := k.rd _ g
    rw [← h.eq] at this
    simp only at this; omega
  · exact g
  · have := h.rd _ g
    rw [← k.eq] at this
    simp only at this; omega
 have h1 := h.eq
 have h2 := k.eq
 rw [e,← h2] at h1
 exact ⟨congrArg Prod.fst h1,congrArg Prod.snd h1⟩
def mkF (m : Md) (fs : List Ck) (j : Nat) : Bool := decide ((fs.getD j (0,[])).1 ∈ m.a.mr)
theorem mkF_push (m : Md) (fs : List Ck) (t : Ck) {k : Nat} (h : k ≤ fs.length) : mkV (mkF m (fs ++ [t])) k = mkV (mkF m fs) k := by
 unfold mkV
 congr 1
 refine List.filter_congr fun j hj => ?_
 have : j < fs.length := by have := List.mem_range.1 hj; omega
 simp only [mkF,List.getD_eq_getElem?_getD,List.getElem?_append_left this]
theorem mkF_at {fs : List Ck} {i : Nat} {v : Ck} (h : fs[i]? = some v) : mkF m fs i = decide (v.1 ∈ m.a.mr) := by
 simp only [mkF,List.getD_eq_getElem?_getD,h,Option.getD_some]
def tAu (m : Md) (fs : List Ck) (ed : List Ed) : Au := ⟨m.all,fs.length,mkV (mkF m fs) fs.length,ed⟩
theorem Ufd.right (hm : m.Ok) {fs : List Ck} {ed : List Ed} (h : Ufd m fs ed) (hl : fs.length ≤ 4096) : (tAu m fs ed).Right :=
 (h.bl.built (Nat.le_refl _) m.all (mkV (mkF m fs) fs.length) (all_ok hm) hl (mkV_ok _ _) (fun v _ x hx => (mem_out hx).1) (fun v _ => out_ups hm v)).rt
def Few (m : Md) : Prop := ∀ fs : List Ck,fs.Nodup → (∀ c,c ∈ fs → m.Is c) → fs.length ≤ 4000
end
end
structure Sp where
 lo : Int
 hi : Int
 en : Bool
 deriving DecidableEq
def jn (o : Option Sp) (s : Sp) : Sp := match o with
 | none => s
 | some t => ⟨min t.lo s.lo,max t.hi s.hi,t.en || s.en⟩
abbrev SpF := Ck → Option Sp
def jnF (F : SpF) (x : Ck × Sp) : SpF := fun u => if u = x.1 then some (jn (F u) x.2) else F u
theorem jn_comm (o : Option Sp) (x y : Sp) : jn (some (jn o x)) y = jn (some (jn o y)) x := by
 cases o with
 | none => simp only [jn,Sp.mk.injEq]; exact ⟨by omega,by omega,Bool.or_comm _ _⟩
 | some t => simp only [jn,Sp.mk.injEq]; exact ⟨by omega,by omega,by cases t.en <;> cases x.en <;> cases y.en <;> rfl⟩
theorem jnF_comm (F : SpF) (x y : Ck × Sp) : jnF (jnF F x) y = jnF (jnF F y) x := by
 funext u
 unfold jnF
 by_cases h1 : u = x.1
 · by_cases h2 : u = y.1
   · simp only [if_pos h1,if_pos h2,Option.some.injEq]
     exact jn_comm _ _ _
   · simp only [if_pos h1,if_neg h2]
 · by_cases h2 : u = y.1
   · simp only [if_neg h1,if_pos h2]
   · simp only [if_neg h1,if_neg h2]
theorem jnF_perm {L L' : List (Ck × Sp)} (h : L.Perm L') (F : SpF) : L.foldl jnF F = L'.foldl jnF F :=
 h.foldl_eq' (fun x _ y _ z => jnF_comm z x y) F
def insS (E : List (Ck × Sp)) (x : Ck × Sp) : List (Ck × Sp) := if x.1 ∈ E.map Prod.fst then E.map fun e => if e.1 = x.1 then (e.1,jn (some e.2) x.2) else e else E ++ [x]
def lkS (E : List (Ck × Sp)) : SpF := fun u => (E.find? fun e => decide (e.1 = u)).map Prod.snd
theorem lkS_none {E : List (Ck × Sp)} {u : Ck} (h : ¬ u ∈ E.map Prod.fst) : lkS E u = none := by
 unfold lkS
 rw [Option.map_eq_none_iff,List.find?_eq_none]
 intro e he g
 exact h (List.mem_map.2 ⟨e,he,of_decide_eq_true g⟩)
theorem lkS_map (E : List (Ck × Sp)) (g : Ck × Sp → Sp) (u : Ck) : lkS (E.map fun e => (e.1,g e)) u = (E.find? fun e => decide (e.1 = u)).map g := by
 unfold lkS
 induction E with
 | nil => rfl
 | cons e E ih =>
   simp only [List.map_cons,List.find?_cons]
   by_cases h : e.1 = u
   · simp [h]
   · simpa [h] using ih
theorem insS_lk (E : List (Ck × Sp)) (x : Ck × Sp) : lkS (insS E x) = jnF (lkS E) x := by
 funext u
 unfold insS jnF
 by_cases hx : x.1 ∈ E.map Prod.fst
 · rw [if_pos hx]
   have e : (E.map fun e => if e.1 = x.1 then (e.1,jn (some e.2) x.2) else e) = E.map fun e => (e.1,if e.1 = x.1 then jn (some e.2) x.2 else e.2) := by
    refine List.map_congr_left fun e _ => ?_
    by_cases h : e.1 = x.1 <;> simp [h]
   rw [e,lkS_map]
   by_cases hu : u = x.1
   · subst hu
     rw [if_pos rfl]
     unfold lkS
     cases hf : E.find? fun e => decide (e.1 = x.1) with
     | none =>
       obtain ⟨e,he,h2⟩ := List.mem_map.1 hx
       exact absurd (List.find?_eq_none.1 hf e he) (by simp [h2])
     | some e =>
       have := List.find?_some hf
       simp only [decide_eq_true_eq] at this
       simp [this]
   · rw [if_neg hu]
     unfold lkS
     cases hf : E.find? fun e => decide (e.1 = u) with
     | none => rfl
     | some e =>
       have := List.find?_some hf
       simp only [decide_eq_true_eq] at this
       have : ¬ e.1 = x.1 := fun g => hu (by rw [← this,g])
       simp [this]
 · rw [if_neg hx]
   have h0 := lkS_none hx
   by_cases hu : u = x.1
   · subst hu
     rw [if_pos rfl,h0]
     unfold lkS at h0 ⊢
     rw [Option.map_eq_none_iff] at h0
     simp [List.find?_append,h0,jn]
   · rw [if_neg hu]
     have : ¬ x.1 = u := fun g => hu g.symm
     unfold lkS
     simp [List.find?_append,this]
theorem insS_nd {E : List (Ck × Sp)} (h : (E.map Prod.fst).Nodup) (x : Ck × Sp) : ((insS E x).map Prod.fst).Nodup := by
 unfold insS
 by_cases hx : x.1 ∈ E.map Prod.fst
 · rw [if_pos hx,List.map_map]
   have e : (Prod.fst ∘ fun e : Ck × Sp => if e.1 = x.1 then (e.1,jn (some e.2) x.2) else e) = Prod.fst := by
    funext e
    simp only [Function.comp]
    split <;> rfl
   rw [e]; exact h
 · rw [if_neg hx,List.map_append,List.nodup_append]
   exact ⟨h,by simp,fun a ha b hb e => by simp at hb; subst hb; subst e; exact hx ha⟩
def insL (L : List (Ck × Sp)) : List (Ck × Sp) := L.foldl insS []
theorem insL_aux (L E : List (Ck × Sp)) : lkS (L.foldl insS E) = L.foldl jnF (lkS E) := by
 induction L generalizing E with
 | nil => rfl
 | cons x L ih => rw [List.foldl_cons,List.foldl_cons,ih,insS_lk]
theorem insL_lk (L : List (Ck × Sp)) : lkS (insL L) = L.foldl jnF (fun _ => none) := insL_aux L []
theorem insL_nd (L : List (Ck × Sp)) : ((insL L).map Prod.fst).Nodup := by
 unfold insL
 have : ∀ E : List (Ck × Sp),(E.map Prod.fst).Nodup → ((L.foldl insS E).map Prod.fst).Nodup := by
  induction L with
  | nil => exact fun E h => h
  | cons x L ih => exact fun E h => ih _ (insS_nd h x)
 exact this [] (by simp)
theorem lkS_mem {E : List (Ck × Sp)} (h : (E.map Prod.fst).Nodup) {u : Ck} {s : Sp} : lkS E u = some s ↔ (u,s) ∈ E := by
 induction E with
 | nil => simp [lkS]
 | cons e E ih =>
   rw [List.map_cons,List.nodup_cons] at h
   have ih := ih h.2
   unfold lkS at ih ⊢
   rw [List.find?_cons]
   by_cases g : e.1 = u
   · simp only [g,decide_true,Option.map_some,Option.some.injEq,List.mem_cons]
     constructor
     · intro h2; left; rw [← g,← h2]
     · rintro (h2 | h2)
       · rw [← h2]
       · exact absurd (List.mem_map.2 ⟨_,h2,rfl⟩) (by rw [← g] at *; exact h.1)
   · simp only [g,decide_false,List.mem_cons]
     rw [ih]
     constructor
     · exact .inr
     · rintro (h2 | h2)
       · exact absurd (by rw [← h2]) g
       · exact h2
theorem perm_of_done {E D : List (Ck × Sp)} (h : (E.map Prod.fst).Nodup) (k : (D.map Prod.fst).Nodup) (hm : ∀ u s,(u,s) ∈ D ↔ lkS E u = some s) : D.Perm E := by
 have nd : ∀ {L : List (Ck × Sp)},(L.map Prod.fst).Nodup → L.Nodup := fun {L} h => by
  rw [List.nodup_iff_pairwise_ne] at h ⊢
  rw [List.pairwise_map] at h
  exact h.imp fun {a b} g e => g (by rw [e])
 rw [List.perm_ext_iff_of_nodup (nd k) (nd h)]
 rintro ⟨u,s⟩
 rw [hm,lkS_mem h]
def tks (m : Md) : Nat → List Ck → Ck → List Ck × Option Nat
 | 0,ls,_ => (ls,none)
 | k + 1,ls,c => if c ∈ ls then (ls,some (idxK ls c)) else match m.tick c with
   | none => (ls ++ [c],none)
   | some d => tks m k (ls ++ [c]) d
def cnX (m : Md) (i : Nat) (s : Sp) (b : Bool) (ls : List Ck) (k : Nat) : List (Ck × Sp) := match ls[k]? with
 | none => []
 | some c => match m.act c i with
   | none => []
   | some t => [(t,⟨s.lo + k,s.hi + k,b⟩)]
def cnR (m : Md) (i : Nat) (s : Sp) (b : Bool) (ls : List Ck) (j k : Nat) : List (Ck × Sp) := (List.range k).flatMap fun t => cnX m i s b ls (j + t)
def fuelT : Nat := 4001
def conV (m : Md) (i : Nat) (x : Ck × Sp) : List (Ck × Sp) :=
 cnR m i x.2 x.2.en (tks m fuelT [] x.1).1 0 (tks m fuelT [] x.1).1.length ++ match (tks m fuelT [] x.1).2 with
  | none => []
  | some j => cnR m i x.2 true (tks m fuelT [] x.1).1 j ((tks m fuelT [] x.1).1.length - j)
theorem cnR_next {m : Md} {i : Nat} {s : Sp} {b : Bool} {ls : List Ck} {j k : Nat} : cnR m i s b ls j (k + 1) = cnR m i s b ls j k ++ cnX m i s b ls (j + k) := by
 unfold cnR; rw [List.range_succ,List.flatMap_append]; simp
theorem cnX_no {m : Md} {i : Nat} {s : Sp} {b : Bool} {ls : List Ck} {k : Nat} {c : Ck} (h : ls[k]? = some c) (ha : m.act c i = none) : cnX m i s b ls k = [] := by unfold cnX; rw [h]; simp only [ha]
theorem cnX_yes {m : Md} {i : Nat} {s : Sp} {b : Bool} {ls : List Ck} {k : Nat} {c t : Ck} (h : ls[k]? = some c) (ha : m.act c i = some t) : cnX m i s b ls k = [(t,⟨s.lo + k,s.hi + k,b⟩)] := by unfold cnX; rw [h]; simp only [ha]
theorem cnR_grow {m : Md} {i : Nat} {s : Sp} {b : Bool} {ls : List Ck} (r : List Ck) {j k : Nat} (h : j + k ≤ ls.length) : cnR m i s b (ls ++ r) j k = cnR m i s b ls j k := by
 unfold cnR
 have e : ∀ t,t ∈ List.range k → cnX m i s b (ls ++ r) (j + t) = cnX m i s b ls (j + t) := fun t ht => by
  have := List.mem_range.1 ht
  unfold cnX
  rw [List.getElem?_append_left (by omega)]
 rw [List.flatMap_def,List.flatMap_def,List.map_congr_left e]
def nxtV (m : Md) (i : Nat) (E : List (Ck × Sp)) : List (Ck × Sp) := insL (E.flatMap (conV m i))
def nowV (m : Md) (w : List Int) (k : Nat) : List (Ck × Sp) := (w.take k).foldl (fun E e => nxtV m (m.idx e) E) [(m.start,⟨0,0,false⟩)]
theorem nowV_next {m : Md} {w : List Int} {k : Nat} {e : Int} (h : w[k]? = some e) : nowV m w (k + 1) = nxtV m (m.idx e) (nowV m w k) := by
 unfold nowV; rw [List.take_add_one,h,Option.toList_some,List.foldl_append]; rfl
theorem nowV_nd (m : Md) (w : List Int) (k : Nat) : ((nowV m w k).map Prod.fst).Nodup := by
 unfold nowV
 rcases List.eq_nil_or_concat (w.take k) with h | ⟨l,e,h⟩
 · rw [h]; simp
 · rw [h,List.concat_eq_append,List.foldl_append]; exact insL_nd _
def allSp (L : List (Ck × Sp)) : Option Sp := L.foldl (fun o x => some (jn o x.2)) none
theorem allSp_perm {L L' : List (Ck × Sp)} (h : L.Perm L') : allSp L = allSp L' := h.foldl_eq' (fun x _ y _ z => by rw [jn_comm]) none
def durV (m : Md) (w : List Int) : Int × Int × Bool := match allSp (nowV m w w.length) with
 | none => (0,0,false)
 | some s => (s.lo,if s.en then -1 else s.hi,true)
end Go.Proofs.YtimdepdbcdbikaaGreat
