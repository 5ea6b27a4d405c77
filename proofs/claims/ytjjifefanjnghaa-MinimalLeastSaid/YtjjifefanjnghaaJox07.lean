/-
  What the row leans on.
-/
import Derived.Test.YtjjifefanjnghaaBas08
import Derived.Test.YtjjifefanjnghaaBas05
import Derived.Test.YtjjifefanjnghaaBas03
import Derived.Test.YtjjifefanjnghaaBas01
import Derived.Test.YtjjifefanjnghaaBas07
import Derived.Test.YtjjifefanjnghaaJox01
import Derived.Test.YtjjifefanjnghaaJox06
set_option linter.unusedSimpArgs false
set_option linter.unusedVariables false
namespace Go.Proofs.Ytjjifefanjnghaa
open Go.RowKit
set_option maxRecDepth 100000
theorem out1_c (x : Ed) (s : Int) (w : World) (h0 : -1000000 ≤ x.src) (h1 : x.src ≤ 1000000) (h2 : -1000000 ≤ s) (h3 : s ≤ 1000000) :
 Calls Try.prog 92 #[.agg #[.int .i64 x.src,.int .i64 x.ev,.int .i64 x.dst],.int .i64 s] w (Ret (.int .i64 (x.src - s)) w) := by
 have hw : IntKind.i64.wrap (x.src - s) = x.src - s := IntWalk.i64_in _ (by omega);have B := Lib.hid (Below.new w (.cells #[.int .i64 x.src,.int .i64 x.ev,.int .i64 x.dst] 70));have q0 : (w.alloc (.cells #[.int .i64 x.src,.int .i64 x.ev,.int .i64 x.dst] 70)).cell? ⟨w.heap.size,0,none⟩ = some (.int .i64 x.src) := new_cell w _ [_,_,_] _ 0 rfl;go_enter Try.func92,Try.ntmps92
 go_wp2
 go_ret
 exact ⟨rfl,B.out⟩
theorem out2_c (x : Ed) (s : Int) (w : World) (h0 : -1000000 ≤ x.src) (h1 : x.src ≤ 1000000) (h2 : -1000000 ≤ s) (h3 : s ≤ 1000000) :
 Calls Try.prog 93 #[.agg #[.int .i64 x.src,.int .i64 x.ev,.int .i64 x.dst],.int .i64 s] w (Ret (.int .i64 (x.src - s)) w) := by
 have hw : IntKind.i64.wrap (x.src - s) = x.src - s := IntWalk.i64_in _ (by omega);have B := Lib.hid (Below.new w (.cells #[.int .i64 x.src,.int .i64 x.ev,.int .i64 x.dst] 70));have q0 : (w.alloc (.cells #[.int .i64 x.src,.int .i64 x.ev,.int .i64 x.dst] 70)).cell? ⟨w.heap.size,0,none⟩ = some (.int .i64 x.src) := new_cell w _ [_,_,_] _ 0 rfl;go_enter Try.func93,Try.ntmps93
 go_wp2
 go_ret
 exact ⟨rfl,B.out⟩
def DistF (F : FuncId) : Prop := ∀ (x : Ed) (s : Int) (w : World),-1000000 ≤ x.src → x.src ≤ 1000000 → -1000000 ≤ s → s ≤ 1000000 → Calls Try.prog F #[.agg #[.int .i64 x.src,.int .i64 x.ev,.int .i64 x.dst],.int .i64 s] w (Ret (.int .i64 (x.src - s)) w)
def FindsE (l : List Ed) (s : Int) (w : World) (e : Ending) (w' : World) : Prop := ∃ (p : Nat) (r : Bool),e = .returned (.tuple #[.int .i64 ↑p,.bool r]) ∧ p ≤ l.length ∧ Hid ((∀ t y,t < p → l[t]? = some y → y.src < s) ∧ (∀ t y,p ≤ t → l[t]? = some y → s ≤ y.src)) ∧ Below w.heap.size w w'
set_option maxHeartbeats 2000000 in
theorem bsf_c (A : Option Addr) (c : Nat) (l : List Ed) (s : Int) (F : FuncId) (w : World) (h : EdsAt w A l) (hl : l.length ≤ 1000000) (hs : SrcUp l) (hr : ∀ x,x ∈ l → -1000000 ≤ x.src ∧ x.src ≤ 1000000) (h2 : -1000000 ≤ s) (h3 : s ≤ 1000000) (hF : DistF F) (ec : ∀ args w,(callFunc F args).run Try.prog w = .ok (.enter F args) w) :
 Calls Try.prog 80 #[.slice A l.length c,.int .i64 s,.func (.func F) #[] #[]] w (FindsE l s w) := by
 have H := Lib.hid h;have HF := Lib.hid hF;have HS : Hid (∀ (i j : Nat) x y,i ≤ j → l[i]? = some x → l[j]? = some y → x.src ≤ y.src) := fun i j x y hij hx hy => by
  rcases Nat.lt_or_eq_of_le hij with e | e
  · obtain ⟨hi,rfl⟩ := List.getElem?_eq_some_iff.1 hx;obtain ⟨hj,rfl⟩ := List.getElem?_eq_some_iff.1 hy;exact List.pairwise_iff_getElem.1 hs i j hi hj e
  · subst e; rw [hx] at hy; cases hy; exact Int.le_refl _
 have HRG := Lib.hid hr;clear h hF hs hr;go_enter Try.func80,Try.ntmps80
 go_wp2_with fail
 go_loopw [9,10,11] (fun a b _ wr => ∃ lo hi : Nat,a = .int .i64 ↑lo ∧ b = .int .i64 ↑hi ∧ lo ≤ hi ∧ hi ≤ l.length ∧ Hid ((∀ t y,t < lo → l[t]? = some y → y.src < s) ∧ (∀ t y,hi ≤ t → l[t]? = some y → s ≤ y.src)) ∧ Hid (Fro w.heap.size w wr)) (fun a b _ _ => (intOf b).toNat - (intOf a).toNat)
 case atStart => exact ⟨0,l.length,rfl,rfl,Nat.zero_le _,Nat.le_refl _,⟨fun t y ht => absurd ht (Nat.not_lt_zero _),fun t y h1 h2 => by have := (List.getElem?_eq_some_iff.1 h2).1; omega⟩,Fro.here w⟩
 case round =>
  obtain ⟨lo,hi,rfl,rfl,hlh,hin,HB,W0⟩ := hrel;by_cases hlt : lo < hi
  · obtain ⟨md,hmd⟩ : ∃ md,md = (lo + hi) / 2 := ⟨_,rfl⟩;obtain ⟨b,off,x,rfl,hb,hx,e0,e1,e2⟩ := EdsAt.at (H.out.below EdE.stays W0.out.b) (k := (lo + hi) / 2) (by omega);have hxr := HRG.out x (List.mem_of_getElem? hx);have HX := Lib.hid hx;have HC := Lib.hid (HF.out x s wr hxr.1 hxr.2 h2 h3);clear hx;go_wp2_with fail
    refine HC.out.mono ?_;rintro e w2 ⟨rfl,hb2⟩;have W1 := Lib.hid (W0.out.next hb2);clear hb2 HC e0 e1 e2 W0;by_cases hyx : x.src < s
    · have hd : decide (x.src - s < 0) = true := by simp; omega
      go_wp2
      go_roundw
      case rel =>
       refine ⟨(lo + hi) / 2 + 1,hi,by go_num,rfl,by omega,hin,⟨fun t z ht hz => ?_,HB.out.2⟩,W1.out⟩;by_cases e : t = (lo + hi) / 2
       · subst e; rw [HX.out] at hz; cases hz; exact hyx
       · have := HS.out t _ z x (by omega) hz HX.out; omega
      case measure => simp [intOf]; omega
    · have hd : decide (x.src - s < 0) = false := by simp; omega
      go_wp2
      go_roundw
      case rel =>
       refine ⟨lo,(lo + hi) / 2,rfl,by go_num,by omega,by omega,⟨HB.out.1,fun t z ht hz => ?_⟩,W1.out⟩;by_cases e : t = (lo + hi) / 2
       · subst e; rw [HX.out] at hz; cases hz; omega
       · have := HS.out _ t x z (by omega) HX.out hz; omega
      case measure => simp [intOf]; omega
  · obtain rfl : lo = hi := by omega
    by_cases hlo : lo < l.length
    · obtain ⟨b,off,x,rfl,hb,hx,e0,e1,e2⟩ := EdsAt.at (H.out.below EdE.stays W0.out.b) hlo;have hxr := HRG.out x (List.mem_of_getElem? hx);have HC := Lib.hid (HF.out x s wr hxr.1 hxr.2 h2 h3);have hlo2 : decide ((lo : Int) < (l.length : Int)) = true := by simp; omega
      clear hx;go_wp2_with fail
      refine HC.out.mono ?_;rintro e w2 ⟨rfl,hb2⟩;have W1 := Lib.hid (W0.out.next hb2);clear hb2 HC e0 e1 e2 W0;go_wp2_with fail
      refine bodyPost_ret (v := .tuple #[.int .i64 ↑lo,.bool (x.src - s == 0)]) (by simp [results,Try.results80,go_sem]) rfl ?_;exact ⟨lo,_,rfl,hin,HB.out,W1.out.b⟩
    · have hlo2 : decide ((lo : Int) < (l.length : Int)) = false := by simp; omega
      go_wp2_with fail
      refine bodyPost_ret (v := .tuple #[.int .i64 ↑lo,.bool false]) (by simp [results,Try.results80,go_sem]) rfl ?_;exact ⟨lo,false,rfl,hin,HB.out,W0.out.b⟩
theorem part_at {l : List Ed} {s : Int} {p : Nat} (hp : p ≤ l.length) (h : (∀ t y,t < p → l[t]? = some y → y.src < s) ∧ (∀ t y,p ≤ t → l[t]? = some y → s ≤ y.src)) : p = (l.filter fun x => decide (x.src < s)).length := by
 have e : l = l.take p ++ l.drop p := (List.take_append_drop p l).symm;have e1 : (l.take p).filter (fun x => decide (x.src < s)) = l.take p := List.filter_eq_self.2 fun x hx => by
  obtain ⟨t,ht,rfl⟩ := List.mem_iff_getElem.1 hx;have ht2 : t < p := by rw [List.length_take] at ht; omega
  rw [decide_eq_true_eq];exact h.1 t _ ht2 (by rw [List.getElem_take,List.getElem?_eq_getElem])
 have e2 : (l.drop p).filter (fun x => decide (x.src < s)) = [] := List.filter_eq_nil_iff.2 fun x hx => by
  obtain ⟨t,ht,rfl⟩ := List.mem_iff_getElem.1 hx;have := h.2 (p + t) (l.drop p)[t] (by omega) (by rw [List.getElem_drop,List.getElem?_eq_getElem]);rw [decide_eq_true_eq]; omega
 have e3 : l.filter (fun x => decide (x.src < s)) = l.take p := by
  conv => lhs; rw [e]
  rw [List.filter_append,e1,e2,List.append_nil]
 rw [e3,List.length_take];omega
def GivesOut (a : Au) (s : Nat) (w0 w : World) (e : Ending) (w' : World) : Prop := ∃ A c,e = .returned (.slice A (outOf a.ed s).length c) ∧ Hid (EdsAt w0 A (outOf a.ed s)) ∧ Below w.heap.size w w'
set_option maxHeartbeats 2000000 in
theorem out_c (a : Au) (p : AuP) (s : Nat) (w0 w : World) (hr : a.Right) (hA : EdsAt w0 p.A3 a.ed) (hb0 : Below w0.heap.size w0 w) (hc : a.ed.length ≤ p.c3) (hs : s ≤ 4096) :
 Calls Try.prog 76 #[a.val p,.int .i64 ↑s] w (GivesOut a s w0 w) := by
 have HR := Lib.hid hr;have HA := Lib.hid hA;have HA1 := Lib.hid (hA.below EdE.stays hb0);have hle := ed_len hr;have HU := Lib.hid hr.srcUp;have HG : Hid (∀ x,x ∈ a.ed → -1000000 ≤ x.src ∧ x.src ≤ 1000000) := fun x hx => by
  obtain ⟨q,hq,hqx⟩ := List.mem_iff_getElem.1 hx;have h := hr.edge (p := q) (by rw [List.getElem?_eq_getElem hq,hqx]);have := hr.n1;omega
 have HO : Hid (outOf a.ed s = (a.ed.take (fstV a.ed (s + 1))).drop (fstV a.ed s)) := outOf_range hr.srcUp s;have hm := fstV_mono a.ed s;have ht := fstV_le a.ed (s + 1);obtain ⟨al,n,mr,ed⟩ := a;obtain ⟨A1,c1,A2,c2,A3,c3⟩ := p;dsimp only [Au.val,GivesOut] at *;clear hr hA hb0;have hw1 : IntKind.i64.wrap ((s : Int) + 1) = (s : Int) + 1 := IntWalk.i64_in _ (by omega);go_enter Try.func76,Try.ntmps76
 go_upto_region 1 with fail
 refine wp_world (fun W => Sep w.heap.size w [eBlk w.heap.size 25 [.slice A1 al.length c1,.int .i64 n,.slice A2 mr.length c2,.slice A3 ed.length c3]] W) ?_ fun W S => ?_
 · exact (Sep.here w).alloc' _ [_,_,_,_] rfl rfl
 have S0 := Lib.hid S;clear S;have a3 := ckC S0.out 0 rfl 3 rfl;go_wp2_with fail
 refine (bsf_c A3 c3 ed (s : Int) 92 W (HA1.out.below EdE.stays S0.out.below) (by omega) HU.out HG.out (by omega) (by omega) (fun x s w h0 h1 h2 h3 => out1_c x s w h0 h1 h2 h3) (fun _ _ => rfl)).mono ?_;rintro e w1 ⟨k,r1,rfl,hk,hkk,hb⟩;obtain rfl : k = fstV ed s := part_at hk hkk.out;have S1 := Lib.hid (S0.out.next hb);clear hb S0 hkk a3;have a3 := ckC S1.out 0 rfl 3 rfl;go_wp2_with fail
 refine (bsf_c A3 c3 ed ((s : Int) + 1) 93 w1 (HA1.out.below EdE.stays S1.out.below) (by omega) HU.out HG.out (by omega) (by omega) (fun x s w h0 h1 h2 h3 => out2_c x s w h0 h1 h2 h3) (fun _ _ => rfl)).mono ?_;rintro e w2 ⟨m,r2,rfl,hk2,hkk,hb⟩;obtain rfl : m = fstV ed (s + 1) := part_at hk2 hkk.out;have S2 := Lib.hid (S1.out.next hb);clear hb S1 hkk a3;have a3 := ckC S2.out 0 rfl 3 rfl;have HA2 := HA;obtain ⟨f0,hf0⟩ : ∃ f0,f0 = fstV ed s := ⟨_,rfl⟩;obtain ⟨f1,hf1⟩ : ∃ f1,f1 = fstV ed (s + 1) := ⟨_,rfl⟩;rw [← hf0,← hf1] at HO hm;rw [← hf1] at ht;rw [← hf0,← hf1];have hsz : (outOf ed s).length = f1 - f0 := by rw [HO.out,List.length_drop,List.length_take]; omega
 clear hf0 hf1 hk hk2 HU HG HR HA HA1;have B2 := Lib.hid S2.out.below;by_cases hne : 0 < ed.length
 · obtain ⟨b,off,x,hAe,hb,_⟩ := EdsAt.at HA2.out hne;subst hAe;have HNIL : Hid (f0 = f1 → ∀ A',EdsAt w0 A' (outOf ed s)) := fun e A' => by
    have : outOf ed s = [] := List.length_eq_zero_iff.1 (by omega);rw [this]; exact fun h => absurd rfl h
   go_wp2_with fail
   · go_ret
     exact ⟨_,_,by rw [hsz]; rfl,HNIL.out (by omega) _,B2.out⟩
   · go_ret
     refine ⟨_,_,by rw [hsz]; rfl,?_,B2.out⟩;show EdsAt w0 (some ⟨b,off + f0 * 3,none⟩) (outOf ed s)
     rw [HO.out];exact SlAt.sub HA2.out f0 f1
 · obtain rfl : f1 = 0 := by omega
   obtain rfl : f0 = 0 := by omega
   have HNIL : Hid (∀ A',EdsAt w0 A' (outOf ed s)) := fun A' => by
    have : outOf ed s = [] := List.length_eq_zero_iff.1 (by omega);rw [this]; exact fun h => absurd rfl h
   cases A3 with
   | none =>
     go_wp2_with fail
     go_ret
     exact ⟨_,_,by rw [hsz]; rfl,HNIL.out _,B2.out⟩
   | some ad =>
     obtain ⟨b,o,pth⟩ := ad;go_wp2_with fail
     all_goals (go_ret; exact ⟨_,_,by rw [hsz]; rfl,HNIL.out _,B2.out⟩)
def Finds (Q : Prop) (w : World) (e : Ending) (w' : World) : Prop := ∃ (p : Nat) (r : Bool),e = .returned (.tuple #[.int .i64 p,.bool r]) ∧ (r = true ↔ Q) ∧ w = w'
set_option maxHeartbeats 400000 in
theorem bsearch_c (A : Option Addr) (c : Nat) (l : List Int) (x : Int) (w : World) (h : IntsAt w A l) (hl : l.length < 4611686018427387904) (hs : incr l) :
 Calls Try.prog 75 #[.slice A l.length c,.int .i64 x] w (Finds (x ∈ l) w) := by
 have HS := Lib.hid hs; clear hs;go_enter Try.func75,Try.ntmps75
 go_wp2
 go_loop [7,8,9] (fun a b _ => ∃ lo hi : Nat,a = .int .i64 lo ∧ b = .int .i64 hi ∧ lo ≤ hi ∧ hi ≤ l.length ∧ Hid ((∀ t y,t < lo → l[t]? = some y → y < x) ∧ (∀ t y,hi ≤ t → l[t]? = some y → x ≤ y))) (fun a b _ => (intOf b).toNat - (intOf a).toNat)
 case atStart => exact ⟨0,l.length,rfl,rfl,Nat.zero_le _,Nat.le_refl _,fun t y ht => absurd ht (Nat.not_lt_zero _),fun t y h1 h2 => by have := (List.getElem?_eq_some_iff.1 h2).1; omega⟩
 case round =>
  obtain ⟨lo,hi,rfl,rfl,hlh,hin,H⟩ := hrel;by_cases hlt : lo < hi
  · obtain ⟨b,off,y,rfl,_,hy,hcy⟩ := IntsAt.at h (k := (lo + hi) / 2) (by omega);by_cases hyx : y < x
    · go_wp2
      go_round
      case rel =>
       refine ⟨(lo + hi) / 2 + 1,hi,by go_num,rfl,by omega,hin,fun t z ht hz => ?_,H.out.2⟩;by_cases e : t = (lo + hi) / 2
       · subst e; rw [hy] at hz; cases hz; exact hyx
       · have := HS.out t _ z y (by omega) hz hy; omega
      case measure => simp [intOf]; omega
    · go_wp2
      go_round
      case rel =>
       refine ⟨lo,(lo + hi) / 2,rfl,by go_num,by omega,by omega,H.out.1,fun t z ht hz => ?_⟩;by_cases e : t = (lo + hi) / 2
       · subst e; rw [hy] at hz; cases hz; omega
       · have := HS.out _ t y z (by omega) hy hz; omega
      case measure => simp [intOf]; omega
  · obtain rfl : lo = hi := by omega
    by_cases hlo : lo < l.length
    · obtain ⟨b,off,y,rfl,_,hy,hcy⟩ := IntsAt.at h hlo;have F := Lib.hid (HS.out.found hy H.out.1 (H.out.2 lo y (Nat.le_refl _) hy));go_wp2
      · go_ret2
        exact ⟨lo,true,rfl,by simpa using F.out.2 (by assumption),rfl⟩
      · go_ret2
        exact ⟨lo,y == x,rfl,by rw [F.out]; simp,rfl⟩
    · have F := Lib.hid (not_mem_of_less (l := l) (x := x) (fun t z ht hz => H.out.1 t z (by omega) hz));go_wp2
      go_ret2
      exact ⟨lo,false,rfl,by simpa using F.out,rfl⟩
def numV (fs : List Int) (t : Nat) : Int := if (t : Int) ∈ fs then ((idxK fs (t : Int) : Nat) : Int) + 1 else 0
theorem numV_one (t : Nat) : numV [0] t = if t = 0 then 1 else 0 := by
 unfold numV
 by_cases e : t = 0
 · subst e; simp [idxK]
 · rw [if_neg e,if_neg (by simp; omega)]
theorem numV_no {fs : List Int} {t : Nat} (h : ¬ (t : Int) ∈ fs) : numV fs t = 0 := if_neg h
theorem numV_yes {fs : List Int} {t : Nat} (h : (t : Int) ∈ fs) : ∃ j : Nat,numV fs t = (j : Int) + 1 ∧ fs[j]? = some (t : Int) := ⟨_,if_pos h,idxK_get h⟩
theorem numV_push {fs : List Int} {d : Nat} (h : ¬ (d : Int) ∈ fs) (t : Nat) : numV (fs ++ [(d : Int)]) t = if t = d then (fs.length : Int) + 1 else numV fs t := by
 unfold numV
 by_cases e : t = d
 · subst e; rw [if_pos rfl,if_pos (by simp),idxK_new h]
 · rw [if_neg e];by_cases m : (t : Int) ∈ fs
   · rw [if_pos m,if_pos (List.mem_append_left _ m),idxK_app m]
   · rw [if_neg m,if_neg (by simp [m]; omega)]
def GivesCan (a : Au) (w : World) (e : Ending) (w' : World) : Prop := ∃ m p',e = .returned (m.val p') ∧ (SepW w (eAu m p') w') ∧ Hid (Lens m) ∧ m.al = a.al ∧ ((a.n = 0 ∧ m = ⟨a.al,0,[],[]⟩) ∨ ∃ fs,Built id (outK a fun _ => true) 0 m fs ∧ (∀ v,v ∈ fs → 0 ≤ v ∧ v < a.n) ∧ ∀ d : Nat,(d : Int) ∈ m.mr ↔ ∃ v,fs[d]? = some v ∧ v ∈ a.mr)
set_option maxHeartbeats 8000000 in
theorem canonical_c (a : Au) (p : AuP) (w : World) (hr : a.Right) (hc : Caps a p) (hA : Au.At w a p) :
 Calls Try.prog 55 #[a.val p] w (GivesCan a w) := by
 have h0 := hr.n0;have hn := hr.n1;have hal : a.al.length ≤ 32 := rises_len (n := 32) (l := a.al) hr.al.incr (fun x hx => by
  obtain ⟨i,hi,rfl⟩ := List.mem_iff_getElem.1 hx;have := hr.al i _ hi (List.getElem?_eq_getElem hi);exact ⟨this.1,this.2.1⟩)
 have hmr : a.mr.length < 4611686018427387904 := by have := hA.lmk; omega
 have HR := Lib.hid hr;have HA := Lib.hid hA;have HC := Lib.hid hc;have HINC : Hid (incr a.mr) := hr.mr.incr;obtain ⟨al,n,mr,ed⟩ := a;obtain ⟨A1,c1,A2,c2,A3,c3⟩ := p;obtain ⟨N,rfl⟩ := Int.eq_ofNat_of_zero_le h0;(try dsimp only [Au.val] at *);clear hr hA hc h0;have hmk := make_run (P := Try.prog) 22 3 (.int .i64 0) 8 Try.underlying22 intInfo rfl N (by omega) (by omega);go_enter Try.func55,Try.ntmps55
 go_upto_region 1 with fail
 refine wp_world (fun W => Sep w.heap.size w [eBlk (w.heap.size + 1) 25 [.slice none 0 0,.int .i64 0,.slice none 0 0,.slice none 0 0],eBlk w.heap.size 25 [.slice A1 al.length c1,.int .i64 ↑N,.slice A2 mr.length c2,.slice A3 ed.length c3]] W) ?_ fun W S => ?_
 · exact ((Sep.here w).alloc' _ [_,_,_,_] rfl rfl).alloc' _ [_,_,_,_] (g := w.heap.size + 1) rfl (by simp)
 have S0 := Lib.hid S;clear S;have a0 := ckC S0.out 1 rfl 0 rfl;have a1 := ckC S0.out 1 rfl 1 rfl;have a2 := ckC S0.out 1 rfl 2 rfl;have a3 := ckC S0.out 1 rfl 3 rfl;go_wp2_with fail
 refine (cloneO_c A1 c1 al W (HA.out.al.below IntE.stays S0.out.below) (by omega)).mono ?_;rintro e w2 ⟨v,rfl,O,hb⟩;obtain ⟨AL,cL,rfl⟩ := O.out.form;have S2 : (SepW w [eInts al (.slice AL al.length cL),eBlk (w.heap.size + 1) 25 [.slice none 0 0,.int .i64 0,.slice none 0 0,.slice none 0 0],eBlk w.heap.size 25 [.slice A1 al.length c1,.int .i64 ↑N,.slice A2 mr.length c2,.slice A3 ed.length c3]] w2) := S0.out.newI O.out hb;clear O hb S0 a0 a1 a2 a3;have a0 := ckC S2.out 2 rfl 0 rfl;have a1 := ckC S2.out 2 rfl 1 rfl;have a2 := ckC S2.out 2 rfl 2 rfl;have a3 := ckC S2.out 2 rfl 3 rfl;obtain ⟨b5,h5⟩ : ∃ b5,b5 = w2.heap.size := ⟨_,rfl⟩;go_upto_region 2 with fail
 rw [← h5];refine wp_world (fun V => Sep w.heap.size w [eBlk b5 25 [.slice AL al.length cL,.int .i64 0,.slice none 0 0,.slice none 0 0],eInts al (.slice AL al.length cL),eBlk (w.heap.size + 1) 25 [.slice none 0 0,.int .i64 0,.slice none 0 0,.slice none 0 0],eBlk w.heap.size 25 [.slice A1 al.length c1,.int .i64 ↑N,.slice A2 mr.length c2,.slice A3 ed.length c3]] V) (S2.out.alloc' _ [_,_,_,_] rfl h5) fun W3 S' => ?_;have S3 := Lib.hid S';clear S' S2 h5 a0 a1 a2 a3;have a0 := ckC S3.out 3 rfl 0 rfl;have a1 := ckC S3.out 3 rfl 1 rfl;have a2 := ckC S3.out 3 rfl 2 rfl;have a3 := ckC S3.out 3 rfl 3 rfl;by_cases hN : N = 0
 · subst hN;have q0 := ckC S3.out 0 rfl 0 rfl;have q1 := ckC S3.out 0 rfl 1 rfl;have q2 := ckC S3.out 0 rfl 2 rfl;have q3 := ckC S3.out 0 rfl 3 rfl;have r0 := ckC S3.out 2 rfl 0 rfl;have r1 := ckC S3.out 2 rfl 1 rfl;have r2 := ckC S3.out 2 rfl 2 rfl;have r3 := ckC S3.out 2 rfl 3 rfl;have rf0 := BlkAt.free (S3.out.get 2 rfl) 0;have rf1 := BlkAt.free (S3.out.get 2 rfl) 1;have rf2 := BlkAt.free (S3.out.get 2 rfl) 2;have rf3 := BlkAt.free (S3.out.get 2 rfl) 3;have S4 : (SepW w [eBlk b5 25 [.slice AL al.length cL,.int .i64 0,.slice none 0 0,.slice none 0 0],eInts al (.slice AL al.length cL),eBlk (w.heap.size + 1) 25 [.slice AL al.length cL,.int .i64 0,.slice none 0 0,.slice none 0 0],eBlk w.heap.size 25 [.slice A1 al.length c1,.int .i64 ((0 : Nat) : Int),.slice A2 mr.length c2,.slice A3 ed.length c3]] _) := (((S3.out.set 2 rfl 0 (.slice AL al.length cL)).set 2 rfl 1 (.int .i64 0)).set 2 rfl 2 (.slice none 0 0)).set 2 rfl 3 (.slice none 0 0);have t0 := ckC S4.out 2 rfl 0 rfl;have t1 := ckC S4.out 2 rfl 1 rfl;have t2 := ckC S4.out 2 rfl 2 rfl;have t3 := ckC S4.out 2 rfl 3 rfl;clear S3;go_wp2_with fail
   refine bodyPost_ret (v := .agg #[.slice AL al.length cL,.int .i64 0,.slice none 0 0,.slice none 0 0]) (by simp [results,Try.results55,go_sem, *]) rfl ?_;exact ⟨⟨al,0,[],[]⟩,⟨AL,cL,none,0,none,0⟩,rfl,((S4.out.nilOwn Ed.cells 3 70).nilOwn encI 1 3).pick [3,0,1] (by decide),⟨by show al.length ≤ _; omega,by simp,by simp⟩,rfl,.inl ⟨rfl,rfl⟩⟩
 · have hN0 : 0 < N := by omega
   have hN1 : ((N : Int) == 0) = false := by simp; omega
   obtain ⟨gn,hgn⟩ : ∃ g,g = W3.heap.size := ⟨_,rfl⟩;go_upto_region 5 with fail
   rw [← hgn];refine wp_world (fun V => Sep w.heap.size w [eBlk gn 3 (mkI N fun s => if s < 0 then -1 else 0),eBlk b5 25 [.slice AL al.length cL,.int .i64 0,.slice none 0 0,.slice none 0 0],eInts al (.slice AL al.length cL),eBlk (w.heap.size + 1) 25 [.slice none 0 0,.int .i64 0,.slice none 0 0,.slice none 0 0],eBlk w.heap.size 25 [.slice A1 al.length c1,.int .i64 ↑N,.slice A2 mr.length c2,.slice A3 ed.length c3]] V) ?_ fun W4 S' => ?_
   · have h := S3.out.alloc' 3 (List.replicate N (.int .i64 0)) (o := Obj.cells (Array.replicate N (.int .i64 0)) 3) (by simp) hgn;rw [mkI_rep] at h;exact h
   have S4 := Lib.hid S';clear S' S3 hgn a0 a1 a2 a3 hN;go_wp2_with fail
   go_loopw [5,25] (fun _ v wr => ∃ k : Nat,v = .int .i64 ↑k ∧ k ≤ N ∧ (SepW w [eBlk gn 3 (mkI N fun s => if s < k then -1 else 0),eBlk b5 25 [.slice AL al.length cL,.int .i64 0,.slice none 0 0,.slice none 0 0],eInts al (.slice AL al.length cL),eBlk (w.heap.size + 1) 25 [.slice none 0 0,.int .i64 0,.slice none 0 0,.slice none 0 0],eBlk w.heap.size 25 [.slice A1 al.length c1,.int .i64 ↑N,.slice A2 mr.length c2,.slice A3 ed.length c3]] wr)) (fun _ v _ => N - (intOf v).toNat)
   case atStart => exact ⟨0,rfl,Nat.zero_le _,S4.out⟩
   case round =>
    clear S4;obtain ⟨k,rfl,hk,S⟩ := hrel;by_cases hlt : k < N
    · have g0 := (BlkAt.cell (S.out.get 0 rfl) k).trans (mkI_get hlt);have gf := BlkAt.free (S.out.get 0 rfl) k;have S5 : (SepW w [eBlk gn 3 (mkI N fun s => if s < k + 1 then -1 else 0),eBlk b5 25 [.slice AL al.length cL,.int .i64 0,.slice none 0 0,.slice none 0 0],eInts al (.slice AL al.length cL),eBlk (w.heap.size + 1) 25 [.slice none 0 0,.int .i64 0,.slice none 0 0,.slice none 0 0],eBlk w.heap.size 25 [.slice A1 al.length c1,.int .i64 ↑N,.slice A2 mr.length c2,.slice A3 ed.length c3]] (wr.setCell ⟨gn,k,none⟩ (.int .i64 (-1)))) := by
       have h := S.out.set 0 rfl k (.int .i64 (-1));rw [mkI_set,mkI_congr (f := fun t => if t = k then (-1 : Int) else if t < k then -1 else 0) (g := fun s => if s < k + 1 then -1 else 0) (fun t _ => by
        by_cases e : t = k
        · subst e; simp
        · rw [if_neg e];by_cases h : t < k
          · rw [if_pos h,if_pos (by omega)]
          · rw [if_neg h,if_neg (by omega)])] at h
       exact h
      clear S;go_wp2_with fail
      go_roundw
      case rel => exact ⟨k + 1,by go_num,by omega,S5.out⟩
      case measure => simp [intOf]; omega
    · obtain rfl : N = k := by omega
      have g0 := (BlkAt.cell (S.out.get 0 rfl) 0).trans (mkI_get hN0);have gf := BlkAt.free (S.out.get 0 rfl) 0;obtain ⟨nf,hnf⟩ : ∃ g,g = wr.heap.size := ⟨_,rfl⟩;go_upto_region 12 with fail
      rw [← hnf];refine wp_world (fun V => Sep w.heap.size w [eInts [(0 : Int)] (.slice (some ⟨nf,0,none⟩) 1 1),eBlk gn 3 (mkI N fun t => numV [(0 : Int)] t - 1),eBlk b5 25 [.slice AL al.length cL,.int .i64 0,(.slice none 0 0),(.slice none 0 0)],eInts [] (.slice none 0 0),eEds [] (.slice none 0 0),eInts al (.slice AL al.length cL),eBlk (w.heap.size + 1) 25 [.slice none 0 0,.int .i64 0,.slice none 0 0,.slice none 0 0],eBlk w.heap.size 25 [.slice A1 al.length c1,.int .i64 ↑N,.slice A2 mr.length c2,.slice A3 ed.length c3]] V) ?_ fun W5 S' => ?_
      · have h := S.out.set 0 rfl 0 (.int .i64 0);rw [mkI_set,mkI_congr (f := fun t => if t = 0 then (0 : Int) else if t < N then -1 else 0) (g := fun t => numV [(0 : Int)] t - 1) (fun t ht => by
         rw [numV_one];by_cases e : t = 0
         · subst e; simp
         · rw [if_neg e,if_neg e,if_pos ht]; rfl)] at h
        have h1 := h.alloc' 3 [.int .i64 0] (o := .cells #[.int .i64 0] 3) rfl (g := nf) (by rw [hnf]; simp);have h2 := h1.own 0 rfl encI 1 [0] rfl (fun _ => rfl) (by simp [maxLen]);exact ((h2.nilOwn Ed.cells 3 70).nilOwn encI 1 3).pick [2,3,4,0,1,5,6,7] (by decide)
      have S5 := Lib.hid S';clear S' S g0 gf hnf hk hlt;go_wp2_with fail
      go_loopw [6,7] (fun v6 vi wr => ∃ (i : Nat) (fs M : List Int) (E : List Ed) (AF : Option Addr) (cF : Nat) (v2 v3 : Value),v6 = .slice AF fs.length cF ∧ vi = .int .i64 ↑i ∧ i ≤ fs.length ∧ fs.length ≤ N ∧ E.length ≤ i * 32 ∧ M.length ≤ i ∧ Hid (Bld id (outK ⟨al,↑N,mr,ed⟩ fun _ => true) 0 i 0 fs E) ∧ Hid (Mks (· ∈ mr) fs i M) ∧ Hid (∀ v,v ∈ fs → 0 ≤ v ∧ v < (N : Int)) ∧ (SepW w [eInts fs (.slice AF fs.length cF),eBlk gn 3 (mkI N fun t => numV fs t - 1),eBlk b5 25 [.slice AL al.length cL,.int .i64 0,v2,v3],eInts M v2,eEds E v3,eInts al (.slice AL al.length cL),eBlk (w.heap.size + 1) 25 [.slice none 0 0,.int .i64 0,.slice none 0 0,.slice none 0 0],eBlk w.heap.size 25 [.slice A1 al.length c1,.int .i64 ↑N,.slice A2 mr.length c2,.slice A3 ed.length c3]] wr)) (fun _ vi _ => N - (intOf vi).toNat)
      case atStart => exact ⟨0,[0],[],[],some ⟨nf,0,none⟩,1,_,_,rfl,rfl,Nat.zero_le _,hN0,Nat.le_refl _,Nat.le_refl _,Bld.start,Mks.start _ _,fun v hv => by simp at hv; subst hv; omega,S5.out⟩
      case round =>
       clear S5;obtain ⟨i,fs,M,E,AF,cF,v2,v3,rfl,rfl,hi,hfs,hEl,hMl,B,K,RG,S⟩ := hrel;by_cases hlt : i < fs.length
       · obtain ⟨gf,of,s0,hFe,_,hs0,cf0⟩ := IntsAt.at (S.out.ints 0 rfl) hlt;subst hFe;obtain ⟨s,hs⟩ := Int.eq_ofNat_of_zero_le (RG.out s0 (List.mem_of_getElem? hs0)).1;have hsN : s < N := by have := (RG.out s0 (List.mem_of_getElem? hs0)).2; omega
         rw [hs] at hs0 cf0;have FS := Lib.hid hs0;clear hs0 hs;have HCF : Hid (∀ V,IntsAt V (some ⟨gf,of,none⟩) fs → V.cell? ⟨gf,of + i,none⟩ = some (.int .i64 ↑s)) := fun V h => by
          obtain ⟨y0,hy0,c0⟩ := IntsAt.more h hlt;rw [FS.out] at hy0; cases hy0; exact c0
         clear cf0;go_upto_region 15 with fail
         go_cut [8,9] (fun _ v9 wx => ∃ q : Bool,v9 = .bool q ∧ Hid (q = true ↔ (s : Int) ∈ mr) ∧ (SepW w [eInts fs (.slice (some ⟨gf,of,none⟩) fs.length cF),eBlk gn 3 (mkI N fun t => numV fs t - 1),eBlk b5 25 [.slice AL al.length cL,.int .i64 0,v2,v3],eInts M v2,eEds E v3,eInts al (.slice AL al.length cL),eBlk (w.heap.size + 1) 25 [.slice none 0 0,.int .i64 0,.slice none 0 0,.slice none 0 0],eBlk w.heap.size 25 [.slice A1 al.length c1,.int .i64 ↑N,.slice A2 mr.length c2,.slice A3 ed.length c3]] wx))
         case first =>
          have S1 := Lib.hid S.out.drew;refine wp_region_held_drew (S := (fun V => Sep w.heap.size w [eBlk w.heap.size 25 [.slice A1 al.length c1,.int .i64 ↑N,.slice A2 mr.length c2,.slice A3 ed.length c3],eInts fs (.slice (some ⟨gf,of,none⟩) fs.length cF)] V)) (by kernel_rfl) ?_ (fun hH => ?_)
          · exact S1.out.pick [7,0] (by decide)
          generalize hwz : wr.drew = w1 at *;clear hwz;refine tkP 0 rfl (v := ?_) hH ?_;(try simp only [sx]);refine tkH 1 rfl (v := ?_) (by kernel_rfl) ?_ hH ?_;rotate_left
          · intro V hs_;have b2 := ckC hs_ 0 rfl 2 rfl;clear hs_;first | (go_simp; done) | (go_simp; with_reducible rfl)
          (try simp only [sx]);refine tkP 2 rfl (v := ?_) hH ?_;(try simp only [sx]);refine tkP 3 rfl (v := ?_) hH ?_;(try simp only [sx]);refine tkP 4 rfl (v := ?_) hH ?_;(try simp only [sx]);refine tkH 5 rfl (v := ?_) (by kernel_rfl) ?_ hH ?_;rotate_left
          · intro V hs_;have c0 := HCF.out V (Sep.ints (show Sep w.heap.size w _ V from hs_) 1 rfl);clear hs_;first | (go_simp; done) | (go_simp; with_reducible rfl)
          (try simp only [sx]);refine rdH 6 rfl fun K hK => ?_;go_simp;refine (bsearch_c A2 c2 mr (s : Int) w1 (HA.out.below S1.out.below).mr hmr HINC.out).mono ?_;rintro e w2 ⟨pp,q,rfl,hq,hw⟩;have HQ := Lib.hid hq;have S2 : (SepW w [eInts fs (.slice (some ⟨gf,of,none⟩) fs.length cF),eBlk gn 3 (mkI N fun t => numV fs t - 1),eBlk b5 25 [.slice AL al.length cL,.int .i64 0,v2,v3],eInts M v2,eEds E v3,eInts al (.slice AL al.length cL),eBlk (w.heap.size + 1) 25 [.slice none 0 0,.int .i64 0,.slice none 0 0,.slice none 0 0],eBlk w.heap.size 25 [.slice A1 al.length c1,.int .i64 ↑N,.slice A2 mr.length c2,.slice A3 ed.length c3]] w2) := by rw [← hw]; exact S1.out
          clear hq hw;refine hK.out _ _ (S2.out.pick [7,0] (by decide)) fun hH => ?_;clear hK K;(try simp only [sx]);refine tkP 7 rfl (v := ?_) hH ?_;(try simp only [sx]);refine tkP 8 rfl (v := ?_) hH ?_;(try simp only [sx]);refine tkP 9 rfl (v := ?_) hH ?_;(try simp only [sx]);refine tkP 10 rfl (v := ?_) hH ?_;(try simp only [sx]);refine tkP 11 rfl (v := ?_) hH ?_;(try simp only [sx]);refine wpAnyH_done (by kernel_rfl) ?_ _;go_wp2_with fail
          go_meet
          exact ⟨q,rfl,HQ.out,S2.out⟩
         case rest =>
          clear S;obtain ⟨q,rfl,HQ,S⟩ := hcut;go_upto_if 51 with fail
          go_cut [51] (fun _ wx => ∃ (M' : List Int) (v2 : Value),M'.length ≤ i + 1 ∧ Hid (Mks (· ∈ mr) fs (i + 1) M') ∧ (SepW w [eInts fs (.slice (some ⟨gf,of,none⟩) fs.length cF),eBlk gn 3 (mkI N fun t => numV fs t - 1),eBlk b5 25 [.slice AL al.length cL,.int .i64 0,v2,v3],eInts M' v2,eEds E v3,eInts al (.slice AL al.length cL),eBlk (w.heap.size + 1) 25 [.slice none 0 0,.int .i64 0,.slice none 0 0,.slice none 0 0],eBlk w.heap.size 25 [.slice A1 al.length c1,.int .i64 ↑N,.slice A2 mr.length c2,.slice A3 ed.length c3]] wx))
          case first =>
           cases q;case true =>
            have hm : (s : Int) ∈ mr := HQ.out.1 rfl;have K2 := Lib.hid (K.out.yes FS.out hm);have q2 := ckC S.out 2 rfl 2 rfl;clear hm;go_wp2_with (at_builtin; refine wpList_pushS rfl _ _ 22 rfl (S.out.alloc 3 [.int .i64 ↑i]) 4 rfl Try.underlying22 _ 8 intInfo rfl (by decide) rfl (i : Int) _ rfl rfl (one_cell _ _ [_] _ rfl) (encI_one _) ?_ (by decide) ?_)
            · omega
            intro A5 c5 w6 S9 _;have S10 : (SepW w [eInts fs (.slice (some ⟨gf,of,none⟩) fs.length cF),eBlk gn 3 (mkI N fun t => numV fs t - 1),eBlk b5 25 [.slice AL al.length cL,.int .i64 0,v2,v3],eInts (M ++ [(i : Int)]) (.slice A5 (M.length + 1) c5),eEds E v3,eInts al (.slice AL al.length cL),eBlk (w.heap.size + 1) 25 [.slice none 0 0,.int .i64 0,.slice none 0 0,.slice none 0 0],eBlk w.heap.size 25 [.slice A1 al.length c1,.int .i64 ↑N,.slice A2 mr.length c2,.slice A3 ed.length c3]] w6) := S9.drop1;have u2 := ckC S10.out 2 rfl 2 rfl;have f2 := BlkAt.free (S10.out.get 2 rfl) 2;have S11 := Lib.hid (S10.out.set 2 rfl 2 (.slice A5 (M.length + 1) c5));clear S S9 S10 q2;go_wp2_with fail
            go_meet
            exact ⟨(M ++ [(i : Int)]),_,by simp; omega,K2.out,S11.out⟩
           case false =>
            have hm : ¬ (s : Int) ∈ mr := fun h => by have := HQ.out.2 h; cases this
            have K2 := Lib.hid (K.out.no FS.out hm);clear hm;go_wp2_with fail
            go_meet
            exact ⟨M,v2,by omega,K2.out,S.out⟩
          case rest =>
           clear S K hMl HQ;obtain ⟨M',v2,hMl,K,S⟩ := hcut;obtain ⟨L,hL⟩ : ∃ L,L = outOf ed s := ⟨_,rfl⟩;have HLE := Lib.hid hL;have hL32 : L.length ≤ 32 := by rw [hL]; exact outOf_32 HR.out s
           have HX : Hid (∀ x,x ∈ L → (0 ≤ x.ev ∧ x.ev < 32) ∧ 0 ≤ x.dst ∧ x.dst < (N : Int)) := fun x hx => by
            rw [hL] at hx;have hm := (mem_outOf.1 hx).1;have := edge_next HR.out hm;exact ⟨HR.out.ev hm,this.2.2.2.1,this.2.2.2.2⟩
           have HO : Hid (∀ (q : Nat) x,L[q]? = some x → ((outK ⟨al,↑N,mr,ed⟩ fun _ => true) s)[q]? = some (x.ev,x.dst)) := fun q x hx => by
            rw [outK_get]; simp only [Int.toNat_natCast]; rw [← hL,hx]; rfl
           have HOL : Hid (((outK ⟨al,↑N,mr,ed⟩ fun _ => true) s).length = L.length) := by
            rw [Hid,outK_len]; simp only [Int.toNat_natCast]; rw [← hL]
           clear hL;go_upto_region 18 with fail
           go_cut [63,64,65] (fun v63 v64 v65 wx => ∃ (A : Option Addr) (cA : Nat),v63 = .slice A L.length cA ∧ v64 = .int .i64 (L.length : Int) ∧ v65 = .int .i64 0 ∧ Hid (EdsAt w A L) ∧ (SepW w [eInts fs (.slice (some ⟨gf,of,none⟩) fs.length cF),eBlk gn 3 (mkI N fun t => numV fs t - 1),eBlk b5 25 [.slice AL al.length cL,.int .i64 0,v2,v3],eInts M' v2,eEds E v3,eInts al (.slice AL al.length cL),eBlk (w.heap.size + 1) 25 [.slice none 0 0,.int .i64 0,.slice none 0 0,.slice none 0 0],eBlk w.heap.size 25 [.slice A1 al.length c1,.int .i64 ↑N,.slice A2 mr.length c2,.slice A3 ed.length c3]] wx))
           case first =>
            have S1 := Lib.hid S.out.drew;refine wp_region_held_drew (S := (fun V => Sep w.heap.size w [eBlk w.heap.size 25 [.slice A1 al.length c1,.int .i64 ↑N,.slice A2 mr.length c2,.slice A3 ed.length c3],eInts fs (.slice (some ⟨gf,of,none⟩) fs.length cF)] V)) (by kernel_rfl) ?_ (fun hH => ?_)
            · exact S1.out.pick [7,0] (by decide)
            generalize hwz : wc.drew = w1 at *;clear hwz;refine tkH 0 rfl (v := ?_) (by kernel_rfl) ?_ hH ?_;rotate_left
            · intro V hs_;have b0 := ckC hs_ 0 rfl 0 rfl;have b1 := ckC hs_ 0 rfl 1 rfl;have b2 := ckC hs_ 0 rfl 2 rfl;have b3 := ckC hs_ 0 rfl 3 rfl;clear hs_;first | (go_simp; done) | (go_simp; with_reducible rfl)
            (try simp only [sx]);refine tkP 1 rfl (v := ?_) hH ?_;(try simp only [sx]);refine tkP 2 rfl (v := ?_) hH ?_;(try simp only [sx]);refine tkP 3 rfl (v := ?_) hH ?_;(try simp only [sx]);refine tkH 4 rfl (v := ?_) (by kernel_rfl) ?_ hH ?_;rotate_left
            · intro V hs_;have c0 := HCF.out V (Sep.ints (show Sep w.heap.size w _ V from hs_) 1 rfl);clear hs_;first | (go_simp; done) | (go_simp; with_reducible rfl)
            (try simp only [sx]);refine tkP 7 rfl (v := ?_) hH ?_;(try simp only [sx]);refine rdH 5 rfl fun K hK => ?_;go_simp;refine (out_c ⟨al,↑N,mr,ed⟩ ⟨A1,c1,A2,c2,A3,c3⟩ s w w1 HR.out HA.out.ed S1.out.below HC.out.c3 (by omega)).mono ?_;rintro e w2 ⟨A,cA,rfl,hE,hb⟩;rw [← HLE.out] at hE ⊢;have HED := Lib.hid hE.out;have S2 := Lib.hid (S1.out.next hb);clear hE hb;refine hK.out _ _ (S2.out.pick [7,0] (by decide)) fun hH => ?_;clear hK K;(try simp only [sx]);refine tkP 6 rfl (v := ?_) hH ?_;(try simp only [sx]);refine wpAnyH_done (by kernel_rfl) ?_ _;go_wp2_with fail
            go_meet
            exact ⟨A,cA,rfl,rfl,rfl,HED.out,S2.out⟩
           case rest =>
            clear S HLE;obtain ⟨A,cA,rfl,rfl,rfl,HE,S⟩ := hcut;go_wp2_with fail
            go_loopw [6,65] (fun v6 vt wr => ∃ (t : Nat) (fs' : List Int) (E' : List Ed) (AF' : Option Addr) (cF' : Nat) (v3' : Value),v6 = .slice AF' fs'.length cF' ∧ vt = .int .i64 ↑t ∧ t ≤ L.length ∧ i < fs'.length ∧ fs'.length ≤ N ∧ E'.length ≤ i * 32 + t ∧ Hid (Bld id (outK ⟨al,↑N,mr,ed⟩ fun _ => true) 0 i t fs' E') ∧ Hid (fs'[i]? = some (s : Int)) ∧ Hid (Mks (· ∈ mr) fs' (i + 1) M') ∧ Hid (∀ v,v ∈ fs' → 0 ≤ v ∧ v < (N : Int)) ∧ (SepW w [eInts fs' (.slice AF' fs'.length cF'),eBlk gn 3 (mkI N fun t => numV fs' t - 1),eBlk b5 25 [.slice AL al.length cL,.int .i64 0,v2,v3'],eInts M' v2,eEds E' v3',eInts al (.slice AL al.length cL),eBlk (w.heap.size + 1) 25 [.slice none 0 0,.int .i64 0,.slice none 0 0,.slice none 0 0],eBlk w.heap.size 25 [.slice A1 al.length c1,.int .i64 ↑N,.slice A2 mr.length c2,.slice A3 ed.length c3]] wr)) (fun _ vt _ => L.length - (intOf vt).toNat)
            case atStart => exact ⟨0,fs,E,some ⟨gf,of,none⟩,cF,v3,rfl,rfl,Nat.zero_le _,hlt,hfs,by omega,B.out,FS.out,K.out,RG.out,S.out⟩
            case round =>
             clear S B FS K RG HCF hEl hfs hi hlt;obtain ⟨t,fs',E',AF',cF',v3',rfl,rfl,ht,hif,hfs,hEl,B,FS,K,RG,S⟩ := hrel;by_cases hlt2 : t < L.length
             · obtain ⟨b,off,x,hAe,hb,hx,y0,y1,y2⟩ := EdsAt.at (HE.out.below EdE.stays S.out.below) hlt2;subst hAe;obtain ⟨⟨e0,e1⟩,d0,d1⟩ := HX.out x (List.mem_of_getElem? hx);have OX := Lib.hid (HO.out t x hx);obtain ⟨d,hd⟩ := Int.eq_ofNat_of_zero_le d0;obtain ⟨ye,hye⟩ : ∃ z,z = x.ev := ⟨_,rfl⟩;obtain ⟨ys,hys⟩ : ∃ z,z = x.src := ⟨_,rfl⟩;rw [← hye] at y1 e0 e1 OX;rw [← hys] at y0;rw [hd] at y2 d1 OX;have hdN : d < N := by omega
               clear hx d0 hye hys hd hb;obtain ⟨bx,hbx⟩ : ∃ g,g = wr.heap.size := ⟨_,rfl⟩;go_upto_region 21 with fail
               rw [← hbx];refine wp_world (fun V => Sep w.heap.size w [eBlk bx 70 [.int .i64 ys,.int .i64 ye,.int .i64 ↑d],eInts fs' (.slice AF' fs'.length cF'),eBlk gn 3 (mkI N fun t => numV fs' t - 1),eBlk b5 25 [.slice AL al.length cL,.int .i64 0,v2,v3'],eInts M' v2,eEds E' v3',eInts al (.slice AL al.length cL),eBlk (w.heap.size + 1) 25 [.slice none 0 0,.int .i64 0,.slice none 0 0,.slice none 0 0],eBlk w.heap.size 25 [.slice A1 al.length c1,.int .i64 ↑N,.slice A2 mr.length c2,.slice A3 ed.length c3]] V) (S.out.alloc' _ [_,_,_] rfl hbx) fun W7 S' => ?_;have S3 := Lib.hid S';clear S' hbx S y0 y1 y2;have bx2 := ckC S3.out 0 rfl 2 rfl;have nd := (BlkAt.cell (S3.out.get 2 rfl) d).trans (mkI_get hdN);have ndf := BlkAt.free (S3.out.get 2 rfl) d;obtain ⟨nv,hnv⟩ : ∃ nv,nv = numV fs' d - 1 := ⟨_,rfl⟩;rw [← hnv] at nd;have HNV := Lib.hid hnv;clear hnv;obtain ⟨bq,hbq⟩ : ∃ b,decide (nv < 0) = b := ⟨_,rfl⟩;go_upto_if 74 with fail
               go_cut [6,74] (fun v6 _ wx => ∃ (fs2 : List Int) (AF2 : Option Addr) (cF2 j : Nat),v6 = .slice AF2 fs2.length cF2 ∧ i < fs2.length ∧ fs2.length ≤ N ∧ Hid (Bld id (outK ⟨al,↑N,mr,ed⟩ fun _ => true) 0 i (t + 1) fs2 (E' ++ [⟨i,ye,j⟩])) ∧ Hid (fs2[i]? = some (s : Int)) ∧ Hid (Mks (· ∈ mr) fs2 (i + 1) M') ∧ Hid (∀ v,v ∈ fs2 → 0 ≤ v ∧ v < (N : Int)) ∧ Hid (numV fs2 d - 1 = (j : Int)) ∧ (SepW w [eBlk bx 70 [.int .i64 ys,.int .i64 ye,.int .i64 ↑d],eInts fs2 (.slice AF2 fs2.length cF2),eBlk gn 3 (mkI N fun t => numV fs2 t - 1),eBlk b5 25 [.slice AL al.length cL,.int .i64 0,v2,v3'],eInts M' v2,eEds E' v3',eInts al (.slice AL al.length cL),eBlk (w.heap.size + 1) 25 [.slice none 0 0,.int .i64 0,.slice none 0 0,.slice none 0 0],eBlk w.heap.size 25 [.slice A1 al.length c1,.int .i64 ↑N,.slice A2 mr.length c2,.slice A3 ed.length c3]] wx))
               case first =>
                by_cases hm : (d : Int) ∈ fs'
                · obtain ⟨j,hj,hjd⟩ := numV_yes hm;have B2 : Hid (Bld id (outK ⟨al,↑N,mr,ed⟩ fun _ => true) 0 i (t + 1) fs' (E' ++ [⟨i,ye,j⟩])) := B.out.old FS.out (outK_ups HR.out _ _) OX.out hjd rfl;have hnj : numV fs' d - 1 = (j : Int) := by omega
                  obtain rfl : bq = false := by rw [← hbq]; have := HNV.out; simp; omega
                  clear hm hj hjd;have HNJ := Lib.hid hnj;clear hnj;go_wp2_with fail
                  go_meet
                  exact ⟨fs',AF',cF',j,rfl,hif,hfs,B2.out,FS.out,K.out,RG.out,HNJ.out,S3.out⟩
                · have hnm : numV fs' d - 1 = -1 := by rw [numV_no hm]; rfl
                  have B2 : Hid (Bld id (outK ⟨al,↑N,mr,ed⟩ fun _ => true) 0 i (t + 1) (fs' ++ [(d : Int)]) (E' ++ [⟨i,ye,fs'.length⟩])) := B.out.new FS.out (outK_ups HR.out _ _) OX.out (fun u hu he => hm (by have e : u = (d : Int) := he; rw [← e]; exact hu));have RG2 : Hid (∀ v,v ∈ (fs' ++ [(d : Int)]) → 0 ≤ v ∧ v < (N : Int)) := fun v hv => by
                   rcases List.mem_append.1 hv with g | g
                   · exact RG.out v g
                   · rw [List.mem_singleton.1 g]; omega
                  have hfn : (fs' ++ [(d : Int)]).length ≤ N := by simpa using B2.out.len RG2.out
                  have K2 := Lib.hid (K.out.grow (by omega) (d : Int));have FS2 : Hid ((fs' ++ [(d : Int)])[i]? = some (s : Int)) := get_keep FS.out _;have HNJ : Hid (numV (fs' ++ [(d : Int)]) d - 1 = (fs'.length : Int)) := by rw [Hid,numV_push hm,if_pos rfl]; omega
                  have S4 : (SepW w [eBlk bx 70 [.int .i64 ys,.int .i64 ye,.int .i64 ↑d],eInts fs' (.slice AF' fs'.length cF'),eBlk gn 3 (mkI N fun t => numV (fs' ++ [(d : Int)]) t - 1),eBlk b5 25 [.slice AL al.length cL,.int .i64 0,v2,v3'],eInts M' v2,eEds E' v3',eInts al (.slice AL al.length cL),eBlk (w.heap.size + 1) 25 [.slice none 0 0,.int .i64 0,.slice none 0 0,.slice none 0 0],eBlk w.heap.size 25 [.slice A1 al.length c1,.int .i64 ↑N,.slice A2 mr.length c2,.slice A3 ed.length c3]] (W7.setCell ⟨gn,d,none⟩ (.int .i64 (fs'.length : Int)))) := by
                   have h := S3.out.set 2 rfl d (.int .i64 (fs'.length : Int));rw [mkI_set,mkI_congr (f := fun t => if t = d then (fs'.length : Int) else numV fs' t - 1) (g := fun t => numV (fs' ++ [(d : Int)]) t - 1) (fun t _ => by
                    rw [numV_push hm];by_cases e : t = d
                    · rw [if_pos e,if_pos e]; omega
                    · rw [if_neg e,if_neg e])] at h
                   exact h
                  obtain rfl : bq = true := by rw [← hbq]; have := HNV.out; simp; omega
                  clear hm hnm;obtain ⟨W8,hW8⟩ : ∃ V,V = W7.setCell ⟨gn,d,none⟩ (.int .i64 (fs'.length : Int)) := ⟨_,rfl⟩;rw [← hW8] at S4;go_upto_region 23 with fail
                  rw [← hW8];clear hW8 S3 nd ndf bx2;have bx2 := ckC S4.out 0 rfl 2 rfl;go_wp2_with (at_builtin; refine wpList_pushS rfl _ _ 22 rfl (S4.out.alloc 3 [.int .i64 ↑d]) 2 rfl Try.underlying22 _ 8 intInfo rfl (by decide) rfl (d : Int) _ rfl rfl (one_cell _ _ [_] _ rfl) (encI_one _) ?_ (by decide) ?_)
                  · omega
                  intro A4 c4 w5 S5' _;have S5 : (SepW w [eBlk bx 70 [.int .i64 ys,.int .i64 ye,.int .i64 ↑d],eInts (fs' ++ [(d : Int)]) (.slice A4 (fs' ++ [(d : Int)]).length c4),eBlk gn 3 (mkI N fun t => numV (fs' ++ [(d : Int)]) t - 1),eBlk b5 25 [.slice AL al.length cL,.int .i64 0,v2,v3'],eInts M' v2,eEds E' v3',eInts al (.slice AL al.length cL),eBlk (w.heap.size + 1) 25 [.slice none 0 0,.int .i64 0,.slice none 0 0,.slice none 0 0],eBlk w.heap.size 25 [.slice A1 al.length c1,.int .i64 ↑N,.slice A2 mr.length c2,.slice A3 ed.length c3]] w5) := by
                   have h := S5'.drop1;rw [show fs'.length + 1 = (fs' ++ [(d : Int)]).length by simp] at h;exact h
                  clear S5' S4 bx2;go_wp2_with fail
                  go_meet
                  exact ⟨(fs' ++ [(d : Int)]),A4,c4,fs'.length,by simp,by simp; omega,hfn,B2.out,FS2.out,K2.out,RG2.out,HNJ.out,S5.out⟩
               case rest =>
                clear S3 nd ndf bx2 B FS K RG hif hfs hbq HNV;obtain ⟨fs2,AF2,cF2,j,rfl,hif,hfs,B,FS,K,RG,HNJ,S3⟩ := hcut;have hel2 : E'.length ≤ 1048576 := by omega
                obtain ⟨AV,cV,hv3⟩ := S3.out.form 5 rfl;subst hv3;go_upto_region 24 with fail
                have S1 := Lib.hid S3.out.drew;refine wp_region_held_drew (S := (fun V => Sep w.heap.size w [eBlk bx 70 [.int .i64 ys,.int .i64 ye,.int .i64 ↑d],eBlk gn 3 (mkI N fun t => numV fs2 t - 1)] V)) (by kernel_rfl) ?_ (fun hH => ?_)
                · exact S1.out.pick [0,2] (by decide)
                generalize hwz : wc.drew = w1 at *;clear hwz;refine tkP 0 rfl (v := ?_) hH ?_;(try simp only [sx]);refine tkP 2 rfl (v := ?_) hH ?_;(try simp only [sx]);refine tkP 3 rfl (v := ?_) hH ?_;(try simp only [sx]);refine tkH 4 rfl (v := ?_) (by kernel_rfl) ?_ hH ?_;rotate_left
                · intro V hs_;have b1 := ckC hs_ 0 rfl 1 rfl;clear hs_;first | (go_simp; done) | (go_simp; with_reducible rfl)
                (try simp only [sx]);refine tkP 5 rfl (v := ?_) hH ?_;(try simp only [sx]);refine tkP 6 rfl (v := ?_) hH ?_;(try simp only [sx]);refine tkH 7 rfl (v := ?_) (by kernel_rfl) ?_ hH ?_;rotate_left
                · intro V hs_;have b2 := ckC hs_ 0 rfl 2 rfl;clear hs_;first | (go_simp; done) | (go_simp; with_reducible rfl)
                (try simp only [sx]);refine tkP 8 rfl (v := ?_) hH ?_;(try simp only [sx]);refine tkH 9 rfl (v := ?_) (by kernel_rfl) ?_ hH ?_;rotate_left
                · intro V hs_;have gv := (BlkAt.cell (Sep.get (show Sep w.heap.size w _ V from hs_) 1 rfl) d).trans (mkI_get hdN);rw [HNJ.out] at gv;clear hs_;first | (go_simp; done) | (go_simp; with_reducible rfl)
                (try simp only [sx]);refine tkP 10 rfl (v := ?_) hH ?_;(try simp only [sx]);refine wpAnyH_ready (rs := [1,11]) (by kernel_rfl) (by simp) ?_;refine AllReadyH.cons rfl (fun K hK => ?_) (AllReadyH.cons rfl (fun K hK => ?_) AllReadyH.nil)
                · skip;have o3 := ckC S1.out 3 rfl 3 rfl;go_simp;refine hK.out _ _ (S1.out.pick [0,2] (by decide)) fun hH => ?_;clear hK K;(try simp only [sx]);refine rdH 11 rfl fun K hK => ?_;go_simp;obtain ⟨nnw,hnnw⟩ : ∃ n,n = w1.heap.size := ⟨_,rfl⟩;obtain ⟨w2,hw2⟩ : ∃ v,v = w1.alloc (.cells #[.int .i64 ↑i,.int .i64 ye,.int .i64 ↑j] 70) := ⟨_,rfl⟩;rw [← hw2,← hnnw];have S2 := ckA S1.out hw2 hnnw;skip;clear hw2 hnnw;refine hK.out _ _ (S2.out.pick [1,3] (by decide)) fun hH => ?_;clear hK K;(try simp only [sx]);refine rdH 12 rfl fun K hK => ?_;refine step_pushS rfl (.tmp 87) (.tmp 97) 23 rfl S2.out 6 rfl Try.underlying23 _ 24 edInfo rfl (by decide) rfl ⟨(i : Int),ye,(j : Int)⟩ nnw rfl rfl (fun j u hj => (BlkAt.cell (S2.out.get 0 rfl) j).trans hj) (edOne _) hel2 (by decide) ?_;intro AE3 cE3 w3 S3' _;have S3 := ckR S3';clear S3';refine hK.out _ _ (S3.out.pick [1,3] (by decide)) fun hH => ?_;clear hK K;(try simp only [sx]);refine tkP 13 rfl (v := ?_) hH ?_;(try simp only [sx]);refine rdH 14 rfl fun K hK => ?_;have sc := ckC S3.out 4 rfl 3 rfl;have sf := BlkAt.free (S3.out.get 4 rfl) 3;go_simp;obtain ⟨w4,hw4⟩ : ∃ v,v = w3.setCell ⟨b5,3,none⟩ (.slice AE3 (E'.length + 1) cE3) := ⟨_,rfl⟩;rw [← hw4];have S4 := ckS S3.out hw4 4 rfl;clear hw4 sc sf;refine hK.out _ _ (S4.out.pick [1,3] (by decide)) fun hH => ?_;clear hK K;(try simp only [sx]);refine wpAnyH_done (by kernel_rfl) ?_ _;go_wp2_with fail
                  go_roundw
                  case rel => exact ⟨t + 1,fs2,E' ++ [(⟨(i : Int),ye,(j : Int)⟩ : Ed)],AF2,cF2,_,rfl,by go_num,by omega,hif,hfs,by simp; omega,B.out,FS.out,K.out,RG.out,S4.out.pick [2,3,4,5,6,7,8,9] (by decide)⟩
                  case measure => simp [intOf]; omega
                · skip;go_simp;obtain ⟨nnw,hnnw⟩ : ∃ n,n = w1.heap.size := ⟨_,rfl⟩;obtain ⟨w5,hw5⟩ : ∃ v,v = w1.alloc (.cells #[.int .i64 ↑i,.int .i64 ye,.int .i64 ↑j] 70) := ⟨_,rfl⟩;rw [← hw5,← hnnw];have S5 := ckA S1.out hw5 hnnw;skip;clear hw5 hnnw;refine hK.out _ _ (S5.out.pick [1,3] (by decide)) fun hH => ?_;clear hK K;(try simp only [sx]);refine rdH 1 rfl fun K hK => ?_;have o3 := ckC S5.out 4 rfl 3 rfl;go_simp;refine hK.out _ _ (S5.out.pick [1,3] (by decide)) fun hH => ?_;clear hK K;(try simp only [sx]);refine rdH 12 rfl fun K hK => ?_;refine step_pushS rfl (.tmp 87) (.tmp 97) 23 rfl S5.out 6 rfl Try.underlying23 _ 24 edInfo rfl (by decide) rfl ⟨(i : Int),ye,(j : Int)⟩ nnw rfl rfl (fun j u hj => (BlkAt.cell (S5.out.get 0 rfl) j).trans hj) (edOne _) hel2 (by decide) ?_;intro AE6 cE6 w6 S6' _;have S6 := ckR S6';clear S6';refine hK.out _ _ (S6.out.pick [1,3] (by decide)) fun hH => ?_;clear hK K;(try simp only [sx]);refine tkP 13 rfl (v := ?_) hH ?_;(try simp only [sx]);refine rdH 14 rfl fun K hK => ?_;have sc := ckC S6.out 4 rfl 3 rfl;have sf := BlkAt.free (S6.out.get 4 rfl) 3;go_simp;obtain ⟨w7,hw7⟩ : ∃ v,v = w6.setCell ⟨b5,3,none⟩ (.slice AE6 (E'.length + 1) cE6) := ⟨_,rfl⟩;rw [← hw7];have S7 := ckS S6.out hw7 4 rfl;clear hw7 sc sf;refine hK.out _ _ (S7.out.pick [1,3] (by decide)) fun hH => ?_;clear hK K;(try simp only [sx]);refine wpAnyH_done (by kernel_rfl) ?_ _;go_wp2_with fail
                  go_roundw
                  case rel => exact ⟨t + 1,fs2,E' ++ [(⟨(i : Int),ye,(j : Int)⟩ : Ed)],AF2,cF2,_,rfl,by go_num,by omega,hif,hfs,by simp; omega,B.out,FS.out,K.out,RG.out,S7.out.pick [2,3,4,5,6,7,8,9] (by decide)⟩
                  case measure => simp [intOf]; omega
             · obtain rfl : t = L.length := by omega
               have B2 : Hid (Bld id (outK ⟨al,↑N,mr,ed⟩ fun _ => true) 0 (i + 1) 0 fs' E') := Bld.next (by rw [HOL.out]; exact B.out) FS.out;clear B;go_wp2_with fail
               go_roundw
               case rel => exact ⟨i + 1,fs',M',E',AF',cF',v2,v3',rfl,by go_num,by omega,hfs,by omega,by omega,B2.out,K.out,RG.out,S.out⟩
               case measure => simp [intOf]; omega
       · obtain rfl : i = fs.length := by omega
         obtain ⟨AM,cM,hv2⟩ := S.out.form 3 rfl;obtain ⟨AX,cX,hv3⟩ := S.out.form 4 rfl;subst hv2; subst hv3;have u1 := ckC S.out 2 rfl 1 rfl;have f1 := BlkAt.free (S.out.get 2 rfl) 1;go_upto_region 27 with fail
         refine wp_world (fun V => Sep w.heap.size w [eInts fs (.slice AF fs.length cF),eBlk gn 3 (mkI N fun t => numV fs t - 1),eBlk b5 25 [.slice AL al.length cL,.int .i64 (fs.length : Int),.slice AM M.length cM,.slice AX E.length cX],eInts M (.slice AM M.length cM),eEds E (.slice AX E.length cX),eInts al (.slice AL al.length cL),eBlk (w.heap.size + 1) 25 [.slice none 0 0,.int .i64 0,.slice none 0 0,.slice none 0 0],eBlk w.heap.size 25 [.slice A1 al.length c1,.int .i64 ↑N,.slice A2 mr.length c2,.slice A3 ed.length c3]] V) (S.out.set 2 rfl 1 (.int .i64 (fs.length : Int))) fun W9 S' => ?_;have S2 := Lib.hid S';clear S' S u1 f1;have r0 := ckC S2.out 6 rfl 0 rfl;have r1 := ckC S2.out 6 rfl 1 rfl;have r2 := ckC S2.out 6 rfl 2 rfl;have r3 := ckC S2.out 6 rfl 3 rfl;have rf0 := BlkAt.free (S2.out.get 6 rfl) 0;have rf1 := BlkAt.free (S2.out.get 6 rfl) 1;have rf2 := BlkAt.free (S2.out.get 6 rfl) 2;have rf3 := BlkAt.free (S2.out.get 6 rfl) 3;have q0 := ckC S2.out 2 rfl 0 rfl;have q1 := ckC S2.out 2 rfl 1 rfl;have q2 := ckC S2.out 2 rfl 2 rfl;have q3 := ckC S2.out 2 rfl 3 rfl;have S4 := Lib.hid ((((S2.out.set 6 rfl 0 (.slice AL al.length cL)).set 6 rfl 1 (.int .i64 (fs.length : Int))).set 6 rfl 2 (.slice AM M.length cM)).set 6 rfl 3 (.slice AX E.length cX));have FIN : Hid (Built id (outK ⟨al,↑N,mr,ed⟩ fun _ => true) 0 ⟨al,fs.length,M,E⟩ fs) := B.out.built (Nat.le_refl _) al M HR.out.al (by omega) K.out.set (fun v hv x hx => by
          obtain ⟨e',t'⟩ := x;obtain ⟨g1,g2,_⟩ := (mem_outK HR.out (RG.out v hv).1).1 hx;rcases HR.out.next_cases v e' with g | ⟨_,_,x,hx,x1,x2,x3⟩
          · omega
          · obtain ⟨p,hp,hpx⟩ := List.mem_iff_getElem.1 hx;have := (HR.out.edge (p := p) (by rw [List.getElem?_eq_getElem hp,hpx])).2.2.2.2;rw [x2] at this;exact this) (fun v _ => outK_ups HR.out _ v)
         have MK := Lib.hid K.out.fin;have hmn : E.length ≤ 131072 := by omega
         have t0 := BlkAt.cell (S4.out.get 6 rfl) 0;have t1 := BlkAt.cell (S4.out.get 6 rfl) 1;have t2 := BlkAt.cell (S4.out.get 6 rfl) 2;have t3 := BlkAt.cell (S4.out.get 6 rfl) 3;simp only [List.set_cons_succ,List.set_cons_zero,List.getElem?_cons_succ,List.getElem?_cons_zero] at t0 t1 t2 t3;go_wp2_with fail
         refine bodyPost_ret (v := .agg #[.slice AL al.length cL,.int .i64 (fs.length : Int),.slice AM M.length cM,.slice AX E.length cX]) (by simp [results,Try.results55,go_sem, *]) rfl ?_;exact ⟨⟨al,fs.length,M,E⟩,⟨AL,cL,AM,cM,AX,cX⟩,rfl,S4.out.pick [5,3,4] (by decide),⟨by show al.length ≤ _; omega,by show M.length ≤ _; omega,by show E.length ≤ _; omega⟩,rfl,.inr ⟨fs,FIN.out,RG.out,MK.out⟩⟩
section

section
variable {P : Program} {ops : Array Oper} {Q : Exit → Act → World → Prop} {md : Region.Mode} {S : World → Prop} {INV : Array Bool → Act → World → Prop} {D : List (List Nat)}

def depsOk (md : Region.Mode) (ops : Array Oper) (D : List (List Nat)) : Bool :=
 (List.range ops.size).all fun i => ((ops[i]?).map fun o => (o.after.all fun e => !Region.binds md e || decide (e.on < i)) && ((D.getD i []).all fun d => o.after.any fun e => e.on == d && Region.binds md e)).getD false
def StepI (P : Program) (ops : Array Oper) (Q : Exit → Act → World → Prop) (INV : Array Bool → Act → World → Prop) (D : List (List Nat)) (i : Nat) : Prop :=
 ∀ l a w,INV l a w → l.getD i true = false → (∀ d,d ∈ D.getD i [] → l.getD d false = true) → wpOp P ops Q i (INV (l.setIfInBounds i true)) a w
def StepsI (P : Program) (ops : Array Oper) (Q : Exit → Act → World → Prop) (INV : Array Bool → Act → World → Prop) (D : List (List Nat)) (rs : List Nat) : Prop := ∀ i ∈ rs,StepI P ops Q INV D i
theorem StepsI.nil : StepsI P ops Q INV D [] := fun _ h => by cases h
theorem StepsI.cons {i : Nat} {o : Oper} {rs : List Nat} (ho : ops[i]? = some o)
 (h : ∀ l a w,INV l a w → l.getD i true = false → (∀ d,d ∈ D.getD i [] → l.getD d false = true) → ∀ K' : Act → World → Prop,Hid (∀ a w,INV (l.setIfInBounds i true) a w → K' a w) → if Region.wanted o (yielded ops a.tmps) = true then Oper.wp P o a w K' Q else K' (a.put o.dst undef) w)
 (hs : StepsI P ops Q INV D rs) : StepsI P ops Q INV D (i :: rs) := fun j hj => by
 rcases List.mem_cons.1 hj with rfl | hj
 · exact fun l a w hI hl hd => wpOp_step ho (fun K' hK => h l a w hI hl hd K' hK)
 · exact hs j hj
end

def eNo : Ent where
 foot := []
 ok _ := True
 lt w h g hg := by cases hg
 turn w w' h hg := trivial
section
variable {n : Nat} {w0 w w' : World} {es : List Ent}
theorem Sep.no (S : Sep n w0 es w) : Sep n w0 (eNo :: es) w := S.new1 (Below.refl _ _) eNo trivial (by simp [eNo])
end
end
theorem check_ok (a : Au) (p : AuP) (w : World) (hr : a.Right) (hA : Au.At w a p) : Calls Try.prog 13 #[a.val p] w (Ret (.int .i64 0) w) := by
 refine (Check_c a p w hA).mono ?_;intro e w1 hs;rcases hs.two with ⟨r,rfl,h,_,HN,_⟩ | ⟨rfl,_,hb⟩
 · exact absurd hr HN.out
 · exact ⟨rfl,hb⟩
def CanOf (a m : Au) : Prop := m.al = a.al ∧ ((a.n = 0 ∧ m = ⟨a.al,0,[],[]⟩) ∨ ∃ fs,Built id (outK a fun _ => true) 0 m fs ∧ (∀ v,v ∈ fs → 0 ≤ v ∧ v < a.n) ∧ ∀ d : Nat,(d : Int) ∈ m.mr ↔ ∃ v,fs[d]? = some v ∧ v ∈ a.mr)
def GivesIC (a : Au) (w : World) (e : Ending) (w' : World) : Prop := ∃ (r : Bool) (m : Au),e = .returned (.bool r) ∧ Below w.heap.size w w' ∧ CanOf a m ∧ (r = true ↔ a = m)
set_option maxHeartbeats 4000000 in
theorem isCan_c (a : Au) (p : AuP) (w : World) (hr : a.Right) (hc : Caps a p) (hA : Au.At w a p) :
 Calls Try.prog 34 #[a.val p] w (GivesIC a w) := by
 have HR := Lib.hid hr;have HA := Lib.hid hA;have HC := Lib.hid hc;obtain ⟨al,n,mr,ed⟩ := a;obtain ⟨A1,c1,A2,c2,A3,c3⟩ := p;(try dsimp only [Au.val] at *);clear hr hA hc;go_enter Try.func34,Try.ntmps34
 go_upto_region 1 with fail
 refine wp_world (fun W => Sep w.heap.size w [eBlk w.heap.size 25 [.slice A1 al.length c1,.int .i64 n,.slice A2 mr.length c2,.slice A3 ed.length c3]] W) ?_ fun W S => ?_
 · exact (Sep.here w).alloc' _ [_,_,_,_] rfl rfl
 have S0 := Lib.hid S;clear S;have S1 := Lib.hid S0.out.drew;refine wp_region_held_drew (S := (fun V => Sep w.heap.size w [eBlk w.heap.size 25 [.slice A1 al.length c1,.int .i64 n,.slice A2 mr.length c2,.slice A3 ed.length c3]] V)) (by kernel_rfl) ?_ (fun hH => ?_)
 · exact S1.out.pick [0] (by decide)
 generalize hwz : W.drew = w1 at *;clear hwz;refine tkH 0 rfl (v := ?_) (by kernel_rfl) ?_ hH ?_;rotate_left
 · intro V hs_;have a0 := ckC hs_ 0 rfl 0 rfl;have a1 := ckC hs_ 0 rfl 1 rfl;have a2 := ckC hs_ 0 rfl 2 rfl;have a3 := ckC hs_ 0 rfl 3 rfl;clear hs_;first | (go_simp; done) | (go_simp; with_reducible rfl)
 (try simp only [sx]);refine rdH 1 rfl fun K hK => ?_;go_simp;refine (check_ok ⟨al,n,mr,ed⟩ ⟨A1,c1,A2,c2,A3,c3⟩ w1 HR.out (HA.out.below S1.out.below)).mono ?_;rintro e w2 ⟨rfl,hb⟩;have S2 := Lib.hid (S1.out.next hb);clear hb;refine hK.out _ _ (S2.out.pick [0] (by decide)) fun hH => ?_;clear hK K;(try simp only [sx]);refine tkP 2 rfl (v := ?_) hH ?_;(try simp only [sx]);refine tkP 3 rfl (v := ?_) hH ?_;(try simp only [sx]);refine tkH 4 rfl (v := ?_) (by kernel_rfl) ?_ hH ?_;rotate_left
 · intro V hs_;have a0 := ckC hs_ 0 rfl 0 rfl;have a1 := ckC hs_ 0 rfl 1 rfl;have a2 := ckC hs_ 0 rfl 2 rfl;have a3 := ckC hs_ 0 rfl 3 rfl;clear hs_;first | (go_simp; done) | (go_simp; with_reducible rfl)
 (try simp only [sx]);refine tkH 5 rfl (v := ?_) (by kernel_rfl) ?_ hH ?_;rotate_left
 · intro V hs_;have a0 := ckC hs_ 0 rfl 0 rfl;have a1 := ckC hs_ 0 rfl 1 rfl;have a2 := ckC hs_ 0 rfl 2 rfl;have a3 := ckC hs_ 0 rfl 3 rfl;clear hs_;first | (go_simp; done) | (go_simp; with_reducible rfl)
 (try simp only [sx]);refine rdH 6 rfl fun K hK => ?_;go_simp;refine (canonical_c ⟨al,n,mr,ed⟩ ⟨A1,c1,A2,c2,A3,c3⟩ w2 HR.out HC.out (HA.out.below S2.out.below)).mono ?_;rintro e_ w3 ⟨m,⟨M1,k1,M2,k2,M3,k3⟩,rfl,TT,HLm,HCN0⟩;have S3 := Lib.hid (S2.out.news TT.out);have HCN := Lib.hid HCN0;clear TT HCN0;dsimp only [Au.val];refine hK.out _ _ (S3.out.pick [3] (by decide)) fun hH => ?_;clear hK K;(try simp only [sx]);refine rdH 7 rfl fun K hK => ?_;go_simp;refine (autoEq_c ⟨al,n,mr,ed⟩ m ⟨A1,c1,A2,c2,A3,c3⟩ ⟨M1,k1,M2,k2,M3,k3⟩ w3 (HA.out.below S3.out.below) (Sep.au (show Sep w.heap.size w (eAu m ⟨M1,k1,M2,k2,M3,k3⟩ ++ [eBlk w.heap.size 25 [.slice A1 al.length c1,.int .i64 n,.slice A2 mr.length c2,.slice A3 ed.length c3]]) w3 from S3.out) HLm.out)).mono ?_;rintro e_ w4 ⟨r,rfl,hr,hb⟩;have S4 := Lib.hid (S3.out.next hb);have HRR := Lib.hid hr;clear hb hr;refine hK.out _ _ (S4.out.pick [3] (by decide)) fun hH => ?_;clear hK K;(try simp only [sx]);refine tkP 8 rfl (v := ?_) hH ?_;(try simp only [sx]);refine tkP 9 rfl (v := ?_) hH ?_;(try simp only [sx]);refine wpAnyH_done (by kernel_rfl) ?_ _;have S9 := S4;go_wp2_with fail
 go_ret
 exact ⟨r,m,rfl,S9.out.below,HCN.out,HRR.out⟩
def edLt4 (x y : Ed) : Prop := x.src < y.src ∨ x.src = y.src ∧ x.ev < y.ev
theorem Sm4.mem_row {d : Sm4} {N i k : Nat} {x : Ed} : x ∈ d.row N i k ↔ ∃ j,j < k ∧ d.has N i j = true ∧ x = ⟨(i : Int),(j : Int),d.t i j⟩ := by
 unfold Sm4.row
 simp only [List.mem_map,List.mem_filter,List.mem_range];constructor
 · rintro ⟨j,⟨h1,h2⟩,rfl⟩; exact ⟨j,h1,h2,rfl⟩
 · rintro ⟨j,h1,h2,rfl⟩; exact ⟨j,⟨h1,h2⟩,rfl⟩
theorem Sm4.mem_eds {d : Sm4} {N k : Nat} {x : Ed} : x ∈ d.eds N k ↔ ∃ i j,i < k ∧ j < 4 ∧ d.has N i j = true ∧ x = ⟨(i : Int),(j : Int),d.t i j⟩ := by
 unfold Sm4.eds
 simp only [List.mem_flatMap,List.mem_range,Sm4.mem_row];constructor
 · rintro ⟨i,hi,j,hj,h,rfl⟩; exact ⟨i,j,hi,hj,h,rfl⟩
 · rintro ⟨i,j,hi,hj,h,rfl⟩; exact ⟨i,hi,j,hj,h,rfl⟩
theorem Sm4.row_rises (d : Sm4) (N i k : Nat) : (d.row N i k).Pairwise edLt4 := by
 unfold Sm4.row
 rw [List.pairwise_map];exact (List.Pairwise.filter _ List.pairwise_lt_range).imp fun h => .inr ⟨rfl,by simp only; omega⟩
theorem Sm4.eds_rises (d : Sm4) (N : Nat) : ∀ k,(d.eds N k).Pairwise edLt4
 | 0 => by simp [Sm4.eds]
 | k + 1 => by
   rw [Sm4.eds_next,List.pairwise_append];refine ⟨d.eds_rises N k,d.row_rises N k 4,fun x hx y hy => ?_⟩;obtain ⟨i,j,hi,_,_,rfl⟩ := Sm4.mem_eds.1 hx;obtain ⟨j',_,_,rfl⟩ := Sm4.mem_row.1 hy;exact .inl (by show (i : Int) < (k : Int); omega)
theorem mkV_ok (X : Nat → Bool) (k : Nat) : setOk (mkV X k) k (mkV X k).length := by
 refine setOk_dec (fun x hx => ?_) ?_
 · unfold mkV at hx
   simp only [List.mem_map,List.mem_filter,List.mem_range] at hx;obtain ⟨s,⟨h1,_⟩,rfl⟩ := hx;omega
 · unfold mkV
   rw [List.pairwise_map];exact (List.Pairwise.filter _ List.pairwise_lt_range).imp fun h => by omega
theorem Sm4.n_rg {d : Sm4} (h : d.Ok) : 1 ≤ d.n ∧ d.n ≤ 6 := by
 have := h.s0;unfold Sm4.n
 omega
theorem Sm4.right {d : Sm4} (h : d.Ok) : d.au.Right := by
 have hn := Sm4.n_rg h;unfold Sm4.au
 refine ⟨(setOk_dec (l := [0,1,2,3]) (n := 32) (by decide) (by decide) : setOk [0,1,2,3] 32 4),Int.natCast_nonneg _,by show ((d.n : Nat) : Int) ≤ 4096; omega,mkV_ok _ _,fun p hp x hx => ?_⟩;obtain ⟨i,j,hi,hj,hh,rfl⟩ := Sm4.mem_eds.1 (List.mem_of_getElem? hx);unfold Sm4.has at hh
 simp only [Bool.and_eq_true,decide_eq_true_eq] at hh;refine ⟨Int.natCast_nonneg _,by show (i : Int) < (d.n : Int); omega,hh.1,hh.2,?_,fun y hy hyx => ?_⟩
 · show (j : Int) ∈ [(0 : Int),1,2,3]
   simp only [List.mem_cons,List.not_mem_nil,or_false];omega
 · have hpw := List.pairwise_iff_getElem.1 (d.eds_rises d.n d.n);obtain ⟨h1,h2⟩ := List.getElem?_eq_some_iff.1 hyx;obtain ⟨h3,h4⟩ := List.getElem?_eq_some_iff.1 hx;have := hpw (p - 1) p h1 h3 (by omega);rw [h2,h4] at this;exact this
theorem Sm4.lens {d : Sm4} (h : d.Ok) : Lens d.au := by
 have hn := Sm4.n_rg h;have h1 := mkV_len (bit4 d.m) d.n;have h2 := d.eds_len d.n d.n;refine ⟨by simp [Sm4.au],?_,?_⟩
 · show (mkV (bit4 d.m) d.n).length ≤ _
   omega
 · show (d.eds d.n d.n).length ≤ _
   omega

end Go.Proofs.Ytjjifefanjnghaa
