/-
  language.explore at pairs of states.
  strconv.Itoa: the library's contract, laid at this program (the two declarations first are what the kit's command lays, printed by lay.py).
  alphabet.Union.
-/
import Derived.Test.YtkifgffhoenaoaaDoorBas01
import Derived.Test.YtkifgffhoenaoaaDoorBas13
import Derived.Test.YtkifgffhoenaoaaDoorBas11
import Derived.Shelf.Strconv.Itoa3
import Derived.Lib.AppendIntMem
import Derived.Test.YtkifgffhoenaoaaDoorBas02
set_option linter.unusedSimpArgs false
set_option linter.unusedVariables false
namespace Go.Proofs.YtkifgffhoenaoaaDoor
open Go.RowKit
set_option maxRecDepth 100000
def encP (p : Int × Int) : List Value := [.int .i64 p.1,.int .i64 p.2]
theorem encPone (y : Int × Int) : ∀ u ∈ encP y,u.oneCell' = true := fun u hu => by simp [encP] at hu; rcases hu with rfl | rfl <;> rfl
theorem pairInfo : (Tryd.prog.info? 75).map (fun i => (i.zero,i.size,i.bytes)) = some (some (.agg #[.int .i64 0,.int .i64 0]),2,16) := by kernel_rfl
def pv (v : Int × Int) : Value := .agg #[.int .i64 v.1,.int .i64 v.2]
theorem idxF_one {κ : Type} [DecidableEq κ] (k u : κ) : idxF [k] u = if u = k then some 0 else none := by
 unfold idxF
 by_cases e : u = k
 · subst e; simp [idxK]
 · simp [e]
theorem Sep.pairs {n : Nat} {w0 w : World} {es : List Ent} {l : List (Int × Int)} {A : Option Addr} {c : Nat} (S : Sep n w0 es w) (i : Nat) (hi : es[i]? = some (eOwn encP 2 75 l (.slice A l.length c))) {k : Nat} (hk : k < l.length) :
 ∃ g off x,A = some ⟨g,off,none⟩ ∧ l[k]? = some x ∧ w.cell? ⟨g,off + k * 2,none⟩ = some (.int .i64 x.1) ∧ w.cell? ⟨g,off + k * 2 + 1,none⟩ = some (.int .i64 x.2) := by
 obtain ⟨b,off,x,vs,hA,_,hx,_,hE,hc⟩ := SlAt.at (Own.reads (enc := encP) (k := 2) (fun _ => rfl) (S.get i hi)) hk
 obtain rfl : vs = encP x := hE
 exact ⟨b,off,x,hA,hx,by simpa using hc 0 _ rfl,hc 1 _ rfl⟩
theorem mem_mapT {fs : List (Int × Int)} {t : Int × Int} : textP t ∈ fs.map textP ↔ t ∈ fs := by
 rw [List.mem_map]
 exact ⟨fun ⟨u,hu,he⟩ => by rw [← textP_inj he]; exact hu,fun h => ⟨t,h,rfl⟩⟩
theorem idxF_hit {fs : List (Int × Int)} {t : Int × Int} (h : t ∈ fs) : ∃ j : Nat,idxF (fs.map textP) (textP t) = some (j : Int) ∧ fs[j]? = some t := by
 refine ⟨idxK (fs.map textP) (textP t),by rw [idxF,if_pos (mem_mapT.2 h)],?_⟩
 have hg := idxK_get (mem_mapT.2 h)
 rw [List.getElem?_map,Option.map_eq_some_iff] at hg
 obtain ⟨u,hu,he⟩ := hg
 rw [hu,textP_inj he]
theorem idxF_miss {fs : List (Int × Int)} {t : Int × Int} (h : ¬ t ∈ fs) : idxF (fs.map textP) (textP t) = none := by rw [idxF,if_neg (fun g => h (mem_mapT.1 g))]
def RchP (a b : Au) (al : List Int) (v : Int × Int) : Prop := ∃ u,runS (outP a b al) (a.st,b.st) u = some v
theorem RchP.go {a b : Au} {al : List Int} {v : Int × Int} {e : Int} (h : RchP a b al v) (he : e ∈ al) : RchP a b al (stp2 a b v e) := by
 obtain ⟨u,hu⟩ := h
 exact ⟨u ++ [e],by rw [runS_snoc,hu,Option.bind_some,stepS_outP,if_pos he]⟩
def ExOk (a b : Au) (al : List Int) (mkf : Int × Int → Bool) (m m0 : Au) (fs : List (Int × Int)) : Prop :=
 m0.al = al ∧ Built id (outP a b al) (a.st,b.st) m0 fs ∧ (∀ v,v ∈ fs → rgP a b v ∧ RchP a b al v) ∧ (∀ d : Nat,(d : Int) ∈ m0.mr ↔ ∃ v,fs[d]? = some v ∧ mkf v = true) ∧ IsMin m (fun u => rn m0 u ∈ m0.mr) ∧ m.al = al
def ExNo (a b : Au) (al : List Int) : Prop := ∃ fs : List (Int × Int),fs.length = 4097 ∧ fs.Nodup ∧ ∀ v,v ∈ fs → RchP a b al v
def GivesEx (a b : Au) (al : List Int) (mkf : Int × Int → Bool) (w : World) (e : Ending) (w' : World) : Prop :=
 (∃ m p' m0 fs,e = .returned (.tuple #[m.val p',.int .i64 0]) ∧ Hid (Sep w.heap.size w (eAu m p') w') ∧ Hid (Lens m) ∧ Hid (ExOk a b al mkf m m0 fs)) ∨
 (e = .returned (.tuple #[.agg #[.slice none 0 0,.int .i64 0,.slice none 0 0,.slice none 0 0],.int .i64 3]) ∧ Below w.heap.size w w' ∧ Hid (ExNo a b al))
set_option maxHeartbeats 16000000 in
theorem explore_c (a b : Au) (al : List Int) (AL : Option Addr) (cL ft fm fn : Nat) (lbt lbm lbn : Array Value) (mkf : Int × Int → Bool) (w : World) (et : ∀ args w,(callFunc ft args).run Tryd.prog w = .ok (.enter ft args) w) (em : ∀ args w,(callFunc fm args).run Tryd.prog w = .ok (.enter fm args) w) (en : ∀ args w,(callFunc fn args).run Tryd.prog w = .ok (.enter fn args) w)
 (ha : a.Right) (hb : b.Right) (hal : setOk al 32 al.length) (hAL : IntsAt w AL al)
 (ht : ∀ (V : World) (v : Int × Int),Below w.heap.size w V → rgP a b v → Calls Tryd.prog ft (#[.agg #[.int .i64 v.1,.int .i64 v.2]] ++ lbt) V (Ret (.string (textP v)) V))
 (hm : ∀ (V : World) (v : Int × Int),Below w.heap.size w V → rgP a b v → Calls Tryd.prog fm (#[.agg #[.int .i64 v.1,.int .i64 v.2]] ++ lbm) V (Ret (.bool (mkf v)) V))
 (hn : ∀ (V : World) (v : Int × Int) (e : Int),Below w.heap.size w V → rgP a b v → Calls Tryd.prog fn (#[.agg #[.int .i64 v.1,.int .i64 v.2],.int .i64 e] ++ lbn) V (Ret (pv (stp2 a b v e)) V)) :
 Calls Tryd.prog 74 #[.slice AL al.length cL,.agg #[.int .i64 a.st,.int .i64 b.st],.func (.func ft) #[] lbt,.func (.func fm) #[] lbm,.func (.func fn) #[] lbn] w (GivesEx a b al mkf w) := by
 have HA := Lib.hid ha
 have HB := Lib.hid hb
 have HAL := Lib.hid hAL
 have HOK := Lib.hid hal
 have HT := Lib.hid ht
 have HM := Lib.hid hm
 have HN := Lib.hid hn
 have hal32 : al.length ≤ 32 := by
  have := rises_len (n := 32) (l := al) hal.incr (fun x hx => by
   obtain ⟨i,hi,rfl⟩ := List.mem_iff_getElem.1 hx
   have := hal i _ hi (List.getElem?_eq_getElem hi)
   exact ⟨this.1,this.2.1⟩)
  exact this
 obtain ⟨s0,hs0⟩ : ∃ s0 : Int × Int,s0 = (a.st,b.st) := ⟨_,rfl⟩
 have RG0' : Hid (rgP a b s0 ∧ RchP a b al s0) := by rw [hs0]; exact ⟨rgP_start ha hb,[],rfl⟩
 obtain ⟨x0,y0⟩ := s0
 have RG0 : Hid (rgP a b (x0,y0)) := RG0'.out.1
 have HS0 := Lib.hid hs0
 rw [Prod.mk.injEq] at hs0
 rw [← hs0.1,← hs0.2]
 clear ha hb hAL hal ht hm hn hs0
 have hmm := @run_makeMap Tryd.prog
 go_enter Tryd.func74,Tryd.ntmps74
 go_wp2_with fail
 refine calls_world (fun W => Sep w.heap.size w [eBlk (w.heap.size + 1) 35 [.slice none 0 0,.int .i64 0,.slice none 0 0,.slice none 0 0],eBlk w.heap.size 75 [.int .i64 x0,.int .i64 y0]] W) ?_ fun W S => ?_
 · exact ((Sep.here w).alloc' _ [_,_] rfl rfl).alloc' _ [_,_,_,_] rfl (by simp)
 refine (cloneO_c AL cL al W (HAL.out.below IntE.stays S.below) (by omega)).mono ?_
 rintro e w1 ⟨v,rfl,O,hb⟩
 obtain ⟨AC,cC,rfl⟩ := O.out.form
 have S2 := Lib.hid (S.newI O.out hb)
 clear S O hb
 obtain ⟨ob,hob⟩ : ∃ ob,ob = w1.heap.size := ⟨_,rfl⟩
 go_upto_region 2 with fail
 rw [← hob]
 refine wp_world (fun W => Sep w.heap.size w [eBlk ob 35 [.slice AC al.length cC,.int .i64 0,.slice none 0 0,.slice none 0 0],eInts al (.slice AC al.length cC),eBlk (w.heap.size + 1) 35 [.slice none 0 0,.int .i64 0,.slice none 0 0,.slice none 0 0],eBlk w.heap.size 75 [.int .i64 x0,.int .i64 y0]] W) (S2.out.alloc' _ [_,_,_,_] rfl hob) fun W2 S => ?_
 have S3 := Lib.hid S
 clear S S2 hob
 go_cut [13,14] (fun v13 v14 wx => ∃ gf nm,v13 = .slice (some ⟨gf,0,none⟩) 1 1 ∧ v14 = .map (some nm) ∧ Hid (Sep w.heap.size w [eMapS keyS veI nm (idxF ([(x0,y0)].map textP)),eOwn encP 2 75 [(x0,y0)] (.slice (some ⟨gf,0,none⟩) 1 1),eBlk ob 35 [.slice AC al.length cC,.int .i64 0,.slice none 0 0,.slice none 0 0],eInts al (.slice AC al.length cC),eBlk (w.heap.size + 1) 35 [.slice none 0 0,.int .i64 0,.slice none 0 0,.slice none 0 0],eBlk w.heap.size 75 [.int .i64 x0,.int .i64 y0]] wx))
 case first =>
  have S1 := Lib.hid S3.out.drew
  refine wp_region_held_drew (S := (fun V => Sep w.heap.size w [eBlk w.heap.size 75 [.int .i64 x0,.int .i64 y0]] V)) (by kernel_rfl) ?_ (fun hHeld => ?_)
  · exact S1.out.pick [3] (by decide)
  generalize hwz : W2.drew = w1 at *
  clear hwz
  refine tkH 0 rfl (v := ?_) (by kernel_rfl) ?_ hHeld ?_
  rotate_left
  · intro V hSw
    have b0 := ckC hSw 0 rfl 0 rfl
    have b1 := ckC hSw 0 rfl 1 rfl
    clear hSw
    first | (go_simp; done) | (go_simp; with_reducible rfl)
  try simp only [sx]
  refine tkP 3 rfl hHeld ?_
  try simp only [sx]
  refine tkH 4 rfl (v := ?_) (by kernel_rfl) ?_ hHeld ?_
  rotate_left
  · intro V hSw
    have b0 := ckC hSw 0 rfl 0 rfl
    have b1 := ckC hSw 0 rfl 1 rfl
    clear hSw
    first | (go_simp; done) | (go_simp; with_reducible rfl)
  try simp only [sx]
  refine wpAnyH_ready (rs := [1,2,5]) (by kernel_rfl) (by simp) ?_
  refine AllReadyH.cons rfl (fun K hK => ?_) (AllReadyH.cons rfl (fun K hK => ?_) (AllReadyH.cons rfl (fun K hK => ?_) AllReadyH.nil))
  · skip
    go_simp
    obtain ⟨nfb,hnfb⟩ : ∃ n,n = w1.heap.size := ⟨_,rfl⟩
    obtain ⟨w2,hw2⟩ : ∃ v,v = w1.alloc (.cells #[.int .i64 x0,.int .i64 y0] 75) := ⟨_,rfl⟩
    rw [← hw2,← hnfb]
    have S2 := ckA S1.out hw2 hnfb
    skip
    clear hw2 hnfb
    refine hK.out _ _ ?_ (fun hHeld => ?_)
    · exact S2.out.pick [4] (by decide)
    clear hK K
    try simp only [sx]
    refine wpAnyH_ready (rs := [2,5]) (by kernel_rfl) (by simp) ?_
    refine AllReadyH.cons rfl (fun K hK => ?_) (AllReadyH.cons rfl (fun K hK => ?_) AllReadyH.nil)
    · skip
      go_simp
      obtain ⟨nm,hnm⟩ : ∃ n,n = w2.heap.size := ⟨_,rfl⟩
      obtain ⟨w3,hw3⟩ : ∃ v,v = w2.alloc (.map #[] 0) := ⟨_,rfl⟩
      rw [← hw3,← hnm]
      have S3 : Hid (Sep w.heap.size w [eMapS keyS veI nm (fun _ => none),eBlk nfb 75 [.int .i64 x0,.int .i64 y0],eBlk ob 35 [.slice AC al.length cC,.int .i64 0,.slice none 0 0,.slice none 0 0],eInts al (.slice AC al.length cC),eBlk (w.heap.size + 1) 35 [.slice none 0 0,.int .i64 0,.slice none 0 0,.slice none 0 0],eBlk w.heap.size 75 [.int .i64 x0,.int .i64 y0]] w3) := by rw [hw3]; exact S2.out.allocMapS keyS veI hnm
      clear hw3 hnm
      refine hK.out _ _ ?_ (fun hHeld => ?_)
      · exact S3.out.pick [5] (by decide)
      clear hK K
      try simp only [sx]
      refine rdH 5 rfl fun K hK => ?_
      go_simp
      refine (HT.out w3 (x0,y0) S3.out.below RG0.out).mono ?_
      rintro e w4 ⟨rfl,hb⟩
      have S4 := Lib.hid (S3.out.next hb)
      clear hb
      refine hK.out _ _ ?_ (fun hHeld => ?_)
      · exact S4.out.pick [5] (by decide)
      clear hK K
      try simp only [sx]
      refine tkP 8 rfl hHeld ?_
      try simp only [sx]
      refine rdH 6 rfl fun K hK => ?_
      refine step_insertS rfl (.tmp 26) (.tmp 29) (.const (.int .i64 0)) 126 9 3 rfl S4.out 0 rfl okS Tryd.underlying126 (textP (x0,y0)) rfl 0 rfl rfl rfl ?_
      intro w5 S5'
      have S5 : Hid (Sep w.heap.size w [eMapS keyS veI nm (fun u => if u = textP (x0,y0) then some 0 else none),eBlk nfb 75 [.int .i64 x0,.int .i64 y0],eBlk ob 35 [.slice AC al.length cC,.int .i64 0,.slice none 0 0,.slice none 0 0],eInts al (.slice AC al.length cC),eBlk (w.heap.size + 1) 35 [.slice none 0 0,.int .i64 0,.slice none 0 0,.slice none 0 0],eBlk w.heap.size 75 [.int .i64 x0,.int .i64 y0]] w5) := S5'
      clear S5'
      refine hK.out _ _ ?_ (fun hHeld => ?_)
      · exact S5.out.pick [5] (by decide)
      clear hK K
      try simp only [sx]
      refine tkP 7 rfl hHeld ?_
      try simp only [sx]
      refine tkP 9 rfl hHeld ?_
      try simp only [sx]
      refine wpAnyH_done (by kernel_rfl) ?_ _
      go_wp2_with fail
      go_meet
      exact ⟨nfb,nm,rfl,rfl,((S5.out.own 1 rfl encP 2 [(x0,y0)] rfl (fun _ => rfl) (by simp [maxLen])).mapSAs 0 rfl (idxF ([(x0,y0)].map textP)) (fun u => idxF_one _ u)).pick [0,1,2,3,4,5] (by decide)⟩
    · skip
      go_simp
      refine (HT.out w2 (x0,y0) S2.out.below RG0.out).mono ?_
      rintro e w6 ⟨rfl,hb⟩
      have S6 := Lib.hid (S2.out.next hb)
      clear hb
      refine hK.out _ _ ?_ (fun hHeld => ?_)
      · exact S6.out.pick [4] (by decide)
      clear hK K
      try simp only [sx]
      refine tkP 8 rfl hHeld ?_
      try simp only [sx]
      refine rdH 2 rfl fun K hK => ?_
      go_simp
      obtain ⟨nm,hnm⟩ : ∃ n,n = w6.heap.size := ⟨_,rfl⟩
      obtain ⟨w7,hw7⟩ : ∃ v,v = w6.alloc (.map #[] 0) := ⟨_,rfl⟩
      rw [← hw7,← hnm]
      have S7 : Hid (Sep w.heap.size w [eMapS keyS veI nm (fun _ => none),eBlk nfb 75 [.int .i64 x0,.int .i64 y0],eBlk ob 35 [.slice AC al.length cC,.int .i64 0,.slice none 0 0,.slice none 0 0],eInts al (.slice AC al.length cC),eBlk (w.heap.size + 1) 35 [.slice none 0 0,.int .i64 0,.slice none 0 0,.slice none 0 0],eBlk w.heap.size 75 [.int .i64 x0,.int .i64 y0]] w7) := by rw [hw7]; exact S6.out.allocMapS keyS veI hnm
      clear hw7 hnm
      refine hK.out _ _ ?_ (fun hHeld => ?_)
      · exact S7.out.pick [5] (by decide)
      clear hK K
      try simp only [sx]
      refine rdH 6 rfl fun K hK => ?_
      refine step_insertS rfl (.tmp 26) (.tmp 29) (.const (.int .i64 0)) 126 9 3 rfl S7.out 0 rfl okS Tryd.underlying126 (textP (x0,y0)) rfl 0 rfl rfl rfl ?_
      intro w8 S8'
      have S8 : Hid (Sep w.heap.size w [eMapS keyS veI nm (fun u => if u = textP (x0,y0) then some 0 else none),eBlk nfb 75 [.int .i64 x0,.int .i64 y0],eBlk ob 35 [.slice AC al.length cC,.int .i64 0,.slice none 0 0,.slice none 0 0],eInts al (.slice AC al.length cC),eBlk (w.heap.size + 1) 35 [.slice none 0 0,.int .i64 0,.slice none 0 0,.slice none 0 0],eBlk w.heap.size 75 [.int .i64 x0,.int .i64 y0]] w8) := S8'
      clear S8'
      refine hK.out _ _ ?_ (fun hHeld => ?_)
      · exact S8.out.pick [5] (by decide)
      clear hK K
      try simp only [sx]
      refine tkP 7 rfl hHeld ?_
      try simp only [sx]
      refine tkP 9 rfl hHeld ?_
      try simp only [sx]
      refine wpAnyH_done (by kernel_rfl) ?_ _
      go_wp2_with fail
      go_meet
      exact ⟨nfb,nm,rfl,rfl,((S8.out.own 1 rfl encP 2 [(x0,y0)] rfl (fun _ => rfl) (by simp [maxLen])).mapSAs 0 rfl (idxF ([(x0,y0)].map textP)) (fun u => idxF_one _ u)).pick [0,1,2,3,4,5] (by decide)⟩
  · skip
    go_simp
    obtain ⟨nm,hnm⟩ : ∃ n,n = w1.heap.size := ⟨_,rfl⟩
    obtain ⟨w9,hw9⟩ : ∃ v,v = w1.alloc (.map #[] 0) := ⟨_,rfl⟩
    rw [← hw9,← hnm]
    have S9 : Hid (Sep w.heap.size w [eMapS keyS veI nm (fun _ => none),eBlk ob 35 [.slice AC al.length cC,.int .i64 0,.slice none 0 0,.slice none 0 0],eInts al (.slice AC al.length cC),eBlk (w.heap.size + 1) 35 [.slice none 0 0,.int .i64 0,.slice none 0 0,.slice none 0 0],eBlk w.heap.size 75 [.int .i64 x0,.int .i64 y0]] w9) := by rw [hw9]; exact S1.out.allocMapS keyS veI hnm
    clear hw9 hnm
    refine hK.out _ _ ?_ (fun hHeld => ?_)
    · exact S9.out.pick [4] (by decide)
    clear hK K
    try simp only [sx]
    refine wpAnyH_ready (rs := [1,5]) (by kernel_rfl) (by simp) ?_
    refine AllReadyH.cons rfl (fun K hK => ?_) (AllReadyH.cons rfl (fun K hK => ?_) AllReadyH.nil)
    · skip
      go_simp
      obtain ⟨nfb,hnfb⟩ : ∃ n,n = w9.heap.size := ⟨_,rfl⟩
      obtain ⟨w10,hw10⟩ : ∃ v,v = w9.alloc (.cells #[.int .i64 x0,.int .i64 y0] 75) := ⟨_,rfl⟩
      rw [← hw10,← hnfb]
      have S10 := ckA S9.out hw10 hnfb
      skip
      clear hw10 hnfb
      refine hK.out _ _ ?_ (fun hHeld => ?_)
      · exact S10.out.pick [5] (by decide)
      clear hK K
      try simp only [sx]
      refine rdH 5 rfl fun K hK => ?_
      go_simp
      refine (HT.out w10 (x0,y0) S10.out.below RG0.out).mono ?_
      rintro e w11 ⟨rfl,hb⟩
      have S11 := Lib.hid (S10.out.next hb)
      clear hb
      refine hK.out _ _ ?_ (fun hHeld => ?_)
      · exact S11.out.pick [5] (by decide)
      clear hK K
      try simp only [sx]
      refine tkP 8 rfl hHeld ?_
      try simp only [sx]
      refine rdH 6 rfl fun K hK => ?_
      refine step_insertS rfl (.tmp 26) (.tmp 29) (.const (.int .i64 0)) 126 9 3 rfl S11.out 1 rfl okS Tryd.underlying126 (textP (x0,y0)) rfl 0 rfl rfl rfl ?_
      intro w12 S12'
      have S12 : Hid (Sep w.heap.size w [eBlk nfb 75 [.int .i64 x0,.int .i64 y0],eMapS keyS veI nm (fun u => if u = textP (x0,y0) then some 0 else none),eBlk ob 35 [.slice AC al.length cC,.int .i64 0,.slice none 0 0,.slice none 0 0],eInts al (.slice AC al.length cC),eBlk (w.heap.size + 1) 35 [.slice none 0 0,.int .i64 0,.slice none 0 0,.slice none 0 0],eBlk w.heap.size 75 [.int .i64 x0,.int .i64 y0]] w12) := S12'
      clear S12'
      refine hK.out _ _ ?_ (fun hHeld => ?_)
      · exact S12.out.pick [5] (by decide)
      clear hK K
      try simp only [sx]
      refine tkP 7 rfl hHeld ?_
      try simp only [sx]
      refine tkP 9 rfl hHeld ?_
      try simp only [sx]
      refine wpAnyH_done (by kernel_rfl) ?_ _
      go_wp2_with fail
      go_meet
      exact ⟨nfb,nm,rfl,rfl,((S12.out.own 0 rfl encP 2 [(x0,y0)] rfl (fun _ => rfl) (by simp [maxLen])).mapSAs 1 rfl (idxF ([(x0,y0)].map textP)) (fun u => idxF_one _ u)).pick [1,0,2,3,4,5] (by decide)⟩
    · skip
      go_simp
      refine (HT.out w9 (x0,y0) S9.out.below RG0.out).mono ?_
      rintro e w13 ⟨rfl,hb⟩
      have S13 := Lib.hid (S9.out.next hb)
      clear hb
      refine hK.out _ _ ?_ (fun hHeld => ?_)
      · exact S13.out.pick [4] (by decide)
      clear hK K
      try simp only [sx]
      refine wpAnyH_ready (rs := [1,6]) (by kernel_rfl) (by simp) ?_
      refine AllReadyH.cons rfl (fun K hK => ?_) (AllReadyH.cons rfl (fun K hK => ?_) AllReadyH.nil)
      · skip
        go_simp
        obtain ⟨nfb,hnfb⟩ : ∃ n,n = w13.heap.size := ⟨_,rfl⟩
        obtain ⟨w14,hw14⟩ : ∃ v,v = w13.alloc (.cells #[.int .i64 x0,.int .i64 y0] 75) := ⟨_,rfl⟩
        rw [← hw14,← hnfb]
        have S14 := ckA S13.out hw14 hnfb
        skip
        clear hw14 hnfb
        refine hK.out _ _ ?_ (fun hHeld => ?_)
        · exact S14.out.pick [5] (by decide)
        clear hK K
        try simp only [sx]
        refine tkP 8 rfl hHeld ?_
        try simp only [sx]
        refine rdH 6 rfl fun K hK => ?_
        refine step_insertS rfl (.tmp 26) (.tmp 29) (.const (.int .i64 0)) 126 9 3 rfl S14.out 1 rfl okS Tryd.underlying126 (textP (x0,y0)) rfl 0 rfl rfl rfl ?_
        intro w15 S15'
        have S15 : Hid (Sep w.heap.size w [eBlk nfb 75 [.int .i64 x0,.int .i64 y0],eMapS keyS veI nm (fun u => if u = textP (x0,y0) then some 0 else none),eBlk ob 35 [.slice AC al.length cC,.int .i64 0,.slice none 0 0,.slice none 0 0],eInts al (.slice AC al.length cC),eBlk (w.heap.size + 1) 35 [.slice none 0 0,.int .i64 0,.slice none 0 0,.slice none 0 0],eBlk w.heap.size 75 [.int .i64 x0,.int .i64 y0]] w15) := S15'
        clear S15'
        refine hK.out _ _ ?_ (fun hHeld => ?_)
        · exact S15.out.pick [5] (by decide)
        clear hK K
        try simp only [sx]
        refine tkP 7 rfl hHeld ?_
        try simp only [sx]
        refine tkP 9 rfl hHeld ?_
        try simp only [sx]
        refine wpAnyH_done (by kernel_rfl) ?_ _
        go_wp2_with fail
        go_meet
        exact ⟨nfb,nm,rfl,rfl,((S15.out.own 0 rfl encP 2 [(x0,y0)] rfl (fun _ => rfl) (by simp [maxLen])).mapSAs 1 rfl (idxF ([(x0,y0)].map textP)) (fun u => idxF_one _ u)).pick [1,0,2,3,4,5] (by decide)⟩
      · skip
        refine step_insertS rfl (.tmp 26) (.tmp 29) (.const (.int .i64 0)) 126 9 3 rfl S13.out 0 rfl okS Tryd.underlying126 (textP (x0,y0)) rfl 0 rfl rfl rfl ?_
        intro w16 S16'
        have S16 : Hid (Sep w.heap.size w [eMapS keyS veI nm (fun u => if u = textP (x0,y0) then some 0 else none),eBlk ob 35 [.slice AC al.length cC,.int .i64 0,.slice none 0 0,.slice none 0 0],eInts al (.slice AC al.length cC),eBlk (w.heap.size + 1) 35 [.slice none 0 0,.int .i64 0,.slice none 0 0,.slice none 0 0],eBlk w.heap.size 75 [.int .i64 x0,.int .i64 y0]] w16) := S16'
        clear S16'
        refine hK.out _ _ ?_ (fun hHeld => ?_)
        · exact S16.out.pick [4] (by decide)
        clear hK K
        try simp only [sx]
        refine tkP 7 rfl hHeld ?_
        try simp only [sx]
        refine rdH 1 rfl fun K hK => ?_
        go_simp
        obtain ⟨nfb,hnfb⟩ : ∃ n,n = w16.heap.size := ⟨_,rfl⟩
        obtain ⟨w17,hw17⟩ : ∃ v,v = w16.alloc (.cells #[.int .i64 x0,.int .i64 y0] 75) := ⟨_,rfl⟩
        rw [← hw17,← hnfb]
        have S17 := ckA S16.out hw17 hnfb
        skip
        clear hw17 hnfb
        refine hK.out _ _ ?_ (fun hHeld => ?_)
        · exact S17.out.pick [5] (by decide)
        clear hK K
        try simp only [sx]
        refine tkP 8 rfl hHeld ?_
        try simp only [sx]
        refine tkP 9 rfl hHeld ?_
        try simp only [sx]
        refine wpAnyH_done (by kernel_rfl) ?_ _
        go_wp2_with fail
        go_meet
        exact ⟨nfb,nm,rfl,rfl,((S17.out.own 0 rfl encP 2 [(x0,y0)] rfl (fun _ => rfl) (by simp [maxLen])).mapSAs 1 rfl (idxF ([(x0,y0)].map textP)) (fun u => idxF_one _ u)).pick [1,0,2,3,4,5] (by decide)⟩
  · skip
    go_simp
    refine (HT.out w1 (x0,y0) S1.out.below RG0.out).mono ?_
    rintro e w18 ⟨rfl,hb⟩
    have S18 := Lib.hid (S1.out.next hb)
    clear hb
    refine hK.out _ _ ?_ (fun hHeld => ?_)
    · exact S18.out.pick [3] (by decide)
    clear hK K
    try simp only [sx]
    refine wpAnyH_ready (rs := [1,2]) (by kernel_rfl) (by simp) ?_
    refine AllReadyH.cons rfl (fun K hK => ?_) (AllReadyH.cons rfl (fun K hK => ?_) AllReadyH.nil)
    · skip
      go_simp
      obtain ⟨nfb,hnfb⟩ : ∃ n,n = w18.heap.size := ⟨_,rfl⟩
      obtain ⟨w19,hw19⟩ : ∃ v,v = w18.alloc (.cells #[.int .i64 x0,.int .i64 y0] 75) := ⟨_,rfl⟩
      rw [← hw19,← hnfb]
      have S19 := ckA S18.out hw19 hnfb
      skip
      clear hw19 hnfb
      refine hK.out _ _ ?_ (fun hHeld => ?_)
      · exact S19.out.pick [4] (by decide)
      clear hK K
      try simp only [sx]
      refine tkP 8 rfl hHeld ?_
      try simp only [sx]
      refine rdH 2 rfl fun K hK => ?_
      go_simp
      obtain ⟨nm,hnm⟩ : ∃ n,n = w19.heap.size := ⟨_,rfl⟩
      obtain ⟨w20,hw20⟩ : ∃ v,v = w19.alloc (.map #[] 0) := ⟨_,rfl⟩
      rw [← hw20,← hnm]
      have S20 : Hid (Sep w.heap.size w [eMapS keyS veI nm (fun _ => none),eBlk nfb 75 [.int .i64 x0,.int .i64 y0],eBlk ob 35 [.slice AC al.length cC,.int .i64 0,.slice none 0 0,.slice none 0 0],eInts al (.slice AC al.length cC),eBlk (w.heap.size + 1) 35 [.slice none 0 0,.int .i64 0,.slice none 0 0,.slice none 0 0],eBlk w.heap.size 75 [.int .i64 x0,.int .i64 y0]] w20) := by rw [hw20]; exact S19.out.allocMapS keyS veI hnm
      clear hw20 hnm
      refine hK.out _ _ ?_ (fun hHeld => ?_)
      · exact S20.out.pick [5] (by decide)
      clear hK K
      try simp only [sx]
      refine rdH 6 rfl fun K hK => ?_
      refine step_insertS rfl (.tmp 26) (.tmp 29) (.const (.int .i64 0)) 126 9 3 rfl S20.out 0 rfl okS Tryd.underlying126 (textP (x0,y0)) rfl 0 rfl rfl rfl ?_
      intro w21 S21'
      have S21 : Hid (Sep w.heap.size w [eMapS keyS veI nm (fun u => if u = textP (x0,y0) then some 0 else none),eBlk nfb 75 [.int .i64 x0,.int .i64 y0],eBlk ob 35 [.slice AC al.length cC,.int .i64 0,.slice none 0 0,.slice none 0 0],eInts al (.slice AC al.length cC),eBlk (w.heap.size + 1) 35 [.slice none 0 0,.int .i64 0,.slice none 0 0,.slice none 0 0],eBlk w.heap.size 75 [.int .i64 x0,.int .i64 y0]] w21) := S21'
      clear S21'
      refine hK.out _ _ ?_ (fun hHeld => ?_)
      · exact S21.out.pick [5] (by decide)
      clear hK K
      try simp only [sx]
      refine tkP 7 rfl hHeld ?_
      try simp only [sx]
      refine tkP 9 rfl hHeld ?_
      try simp only [sx]
      refine wpAnyH_done (by kernel_rfl) ?_ _
      go_wp2_with fail
      go_meet
      exact ⟨nfb,nm,rfl,rfl,((S21.out.own 1 rfl encP 2 [(x0,y0)] rfl (fun _ => rfl) (by simp [maxLen])).mapSAs 0 rfl (idxF ([(x0,y0)].map textP)) (fun u => idxF_one _ u)).pick [0,1,2,3,4,5] (by decide)⟩
    · skip
      go_simp
      obtain ⟨nm,hnm⟩ : ∃ n,n = w18.heap.size := ⟨_,rfl⟩
      obtain ⟨w22,hw22⟩ : ∃ v,v = w18.alloc (.map #[] 0) := ⟨_,rfl⟩
      rw [← hw22,← hnm]
      have S22 : Hid (Sep w.heap.size w [eMapS keyS veI nm (fun _ => none),eBlk ob 35 [.slice AC al.length cC,.int .i64 0,.slice none 0 0,.slice none 0 0],eInts al (.slice AC al.length cC),eBlk (w.heap.size + 1) 35 [.slice none 0 0,.int .i64 0,.slice none 0 0,.slice none 0 0],eBlk w.heap.size 75 [.int .i64 x0,.int .i64 y0]] w22) := by rw [hw22]; exact S18.out.allocMapS keyS veI hnm
      clear hw22 hnm
      refine hK.out _ _ ?_ (fun hHeld => ?_)
      · exact S22.out.pick [4] (by decide)
      clear hK K
      try simp only [sx]
      refine wpAnyH_ready (rs := [1,6]) (by kernel_rfl) (by simp) ?_
      refine AllReadyH.cons rfl (fun K hK => ?_) (AllReadyH.cons rfl (fun K hK => ?_) AllReadyH.nil)
      · skip
        go_simp
        obtain ⟨nfb,hnfb⟩ : ∃ n,n = w22.heap.size := ⟨_,rfl⟩
        obtain ⟨w23,hw23⟩ : ∃ v,v = w22.alloc (.cells #[.int .i64 x0,.int .i64 y0] 75) := ⟨_,rfl⟩
        rw [← hw23,← hnfb]
        have S23 := ckA S22.out hw23 hnfb
        skip
        clear hw23 hnfb
        refine hK.out _ _ ?_ (fun hHeld => ?_)
        · exact S23.out.pick [5] (by decide)
        clear hK K
        try simp only [sx]
        refine tkP 8 rfl hHeld ?_
        try simp only [sx]
        refine rdH 6 rfl fun K hK => ?_
        refine step_insertS rfl (.tmp 26) (.tmp 29) (.const (.int .i64 0)) 126 9 3 rfl S23.out 1 rfl okS Tryd.underlying126 (textP (x0,y0)) rfl 0 rfl rfl rfl ?_
        intro w24 S24'
        have S24 : Hid (Sep w.heap.size w [eBlk nfb 75 [.int .i64 x0,.int .i64 y0],eMapS keyS veI nm (fun u => if u = textP (x0,y0) then some 0 else none),eBlk ob 35 [.slice AC al.length cC,.int .i64 0,.slice none 0 0,.slice none 0 0],eInts al (.slice AC al.length cC),eBlk (w.heap.size + 1) 35 [.slice none 0 0,.int .i64 0,.slice none 0 0,.slice none 0 0],eBlk w.heap.size 75 [.int .i64 x0,.int .i64 y0]] w24) := S24'
        clear S24'
        refine hK.out _ _ ?_ (fun hHeld => ?_)
        · exact S24.out.pick [5] (by decide)
        clear hK K
        try simp only [sx]
        refine tkP 7 rfl hHeld ?_
        try simp only [sx]
        refine tkP 9 rfl hHeld ?_
        try simp only [sx]
        refine wpAnyH_done (by kernel_rfl) ?_ _
        go_wp2_with fail
        go_meet
        exact ⟨nfb,nm,rfl,rfl,((S24.out.own 0 rfl encP 2 [(x0,y0)] rfl (fun _ => rfl) (by simp [maxLen])).mapSAs 1 rfl (idxF ([(x0,y0)].map textP)) (fun u => idxF_one _ u)).pick [1,0,2,3,4,5] (by decide)⟩
      · skip
        refine step_insertS rfl (.tmp 26) (.tmp 29) (.const (.int .i64 0)) 126 9 3 rfl S22.out 0 rfl okS Tryd.underlying126 (textP (x0,y0)) rfl 0 rfl rfl rfl ?_
        intro w25 S25'
        have S25 : Hid (Sep w.heap.size w [eMapS keyS veI nm (fun u => if u = textP (x0,y0) then some 0 else none),eBlk ob 35 [.slice AC al.length cC,.int .i64 0,.slice none 0 0,.slice none 0 0],eInts al (.slice AC al.length cC),eBlk (w.heap.size + 1) 35 [.slice none 0 0,.int .i64 0,.slice none 0 0,.slice none 0 0],eBlk w.heap.size 75 [.int .i64 x0,.int .i64 y0]] w25) := S25'
        clear S25'
        refine hK.out _ _ ?_ (fun hHeld => ?_)
        · exact S25.out.pick [4] (by decide)
        clear hK K
        try simp only [sx]
        refine tkP 7 rfl hHeld ?_
        try simp only [sx]
        refine rdH 1 rfl fun K hK => ?_
        go_simp
        obtain ⟨nfb,hnfb⟩ : ∃ n,n = w25.heap.size := ⟨_,rfl⟩
        obtain ⟨w26,hw26⟩ : ∃ v,v = w25.alloc (.cells #[.int .i64 x0,.int .i64 y0] 75) := ⟨_,rfl⟩
        rw [← hw26,← hnfb]
        have S26 := ckA S25.out hw26 hnfb
        skip
        clear hw26 hnfb
        refine hK.out _ _ ?_ (fun hHeld => ?_)
        · exact S26.out.pick [5] (by decide)
        clear hK K
        try simp only [sx]
        refine tkP 8 rfl hHeld ?_
        try simp only [sx]
        refine tkP 9 rfl hHeld ?_
        try simp only [sx]
        refine wpAnyH_done (by kernel_rfl) ?_ _
        go_wp2_with fail
        go_meet
        exact ⟨nfb,nm,rfl,rfl,((S26.out.own 0 rfl encP 2 [(x0,y0)] rfl (fun _ => rfl) (by simp [maxLen])).mapSAs 1 rfl (idxF ([(x0,y0)].map textP)) (fun u => idxF_one _ u)).pick [1,0,2,3,4,5] (by decide)⟩
 case rest =>
  clear S3 hmm
  obtain ⟨gf,nm,rfl,rfl,S⟩ := hcut
  have B0 : Hid (Bld id (outP a b al) (a.st,b.st) 0 0 [(x0,y0)] []) := by rw [HS0.out]; exact Bld.start
  go_wp2_with fail
  go_loopw [13,15] (fun v13 v15 wr => ∃ (i : Nat) (fs : List (Int × Int)) (M : List Int) (E : List Ed) (AF : Option Addr) (cF : Nat) (v2 v3 : Value),v13 = .slice AF fs.length cF ∧ v15 = .int .i64 i ∧ i ≤ fs.length ∧ fs.length ≤ 4096 ∧ M.length ≤ i ∧ E.length ≤ 32 * i ∧ Hid (Bld id (outP a b al) (a.st,b.st) i 0 fs E) ∧ Hid (Mks (fun v => mkf v = true) fs i M) ∧ Hid (∀ v,v ∈ fs → rgP a b v ∧ RchP a b al v) ∧ Hid (Sep w.heap.size w [eMapS keyS veI nm (idxF (fs.map textP)),eOwn encP 2 75 fs (.slice AF fs.length cF),eBlk ob 35 [.slice AC al.length cC,.int .i64 0,v2,v3],eInts M v2,eEds E v3,eInts al (.slice AC al.length cC),eBlk (w.heap.size + 1) 35 [.slice none 0 0,.int .i64 0,.slice none 0 0,.slice none 0 0],eBlk w.heap.size 75 [.int .i64 x0,.int .i64 y0]] wr)) (fun _ v15 _ => 4096 + 1 - (intOf v15).toNat)
  case atStart => exact ⟨0,[(x0,y0)],[],[],some ⟨gf,0,none⟩,1,.slice none 0 0,.slice none 0 0,rfl,rfl,Nat.zero_le _,by simp,Nat.le_refl _,Nat.le_refl _,B0.out,Mks.start _ _,fun v hv => by rw [List.mem_singleton.1 hv]; exact RG0'.out,((S.out.nilOwn encI 1 3).nilOwn Ed.cells 3 87).pick [2,3,4,1,0,5,6,7] (by decide)⟩
  case round =>
   clear S
   obtain ⟨i,fs,M,E,AF,cF,v2,v3,rfl,rfl,hi,hfs,hMl,hEl,B,K,RG,S⟩ := hrel
   by_cases hlt : i < fs.length
   · obtain ⟨gq,oq,v,hFe,hv,cx,cy⟩ := S.out.pairs 1 rfl hlt
     subst hFe
     obtain ⟨vx,vy⟩ := v
     have FS := Lib.hid hv
     have RGV := Lib.hid (RG.out _ (List.mem_of_getElem? hv))
     have HMC := Lib.hid (HM.out wr (vx,vy) S.out.below RGV.out.1)
     obtain ⟨q,hq⟩ : ∃ q,q = mkf (vx,vy) := ⟨_,rfl⟩
     rw [← hq] at HMC
     have HQ := Lib.hid hq
     dsimp only at cx cy HMC
     clear hv hq
     go_wp2_with fail
     refine HMC.out.mono ?_
     rintro e w3 ⟨rfl,hb⟩
     have S1 := Lib.hid (S.out.next hb)
     clear S hb HMC cx cy
     go_upto_if 42 with fail
     go_cut [42] (fun v wx => ∃ (M' : List Int) (v2 : Value),M'.length ≤ i + 1 ∧ Hid (Mks (fun v => mkf v = true) fs (i + 1) M') ∧ Hid (Sep w.heap.size w [eMapS keyS veI nm (idxF (fs.map textP)),eOwn encP 2 75 fs (.slice (some ⟨gq,oq,none⟩) fs.length cF),eBlk ob 35 [.slice AC al.length cC,.int .i64 0,v2,v3],eInts M' v2,eEds E v3,eInts al (.slice AC al.length cC),eBlk (w.heap.size + 1) 35 [.slice none 0 0,.int .i64 0,.slice none 0 0,.slice none 0 0],eBlk w.heap.size 75 [.int .i64 x0,.int .i64 y0]] wx))
     case first =>
      cases q
      case true =>
       have K2 := Lib.hid (K.out.yes FS.out HQ.out.symm)
       have q2 := ckC S1.out 2 rfl 2 rfl
       go_wp2_with (at_builtin; refine wpList_pushS rfl _ _ 32 rfl (S1.out.alloc 3 [.int .i64 (i : Int)]) 4 rfl Tryd.underlying32 _ 8 intInfo rfl (by decide) rfl (i : Int) _ rfl rfl (one_cell _ _ [_] _ rfl) (encI_one _) ?_ (by decide) ?_)
       · omega
       intro A5 c5 w6 S9 _
       have S10 : Hid (Sep w.heap.size w [eMapS keyS veI nm (idxF (fs.map textP)),eOwn encP 2 75 fs (.slice (some ⟨gq,oq,none⟩) fs.length cF),eBlk ob 35 [.slice AC al.length cC,.int .i64 0,v2,v3],eInts (M ++ [(i : Int)]) (.slice A5 (M ++ [(i : Int)]).length c5),eEds E v3,eInts al (.slice AC al.length cC),eBlk (w.heap.size + 1) 35 [.slice none 0 0,.int .i64 0,.slice none 0 0,.slice none 0 0],eBlk w.heap.size 75 [.int .i64 x0,.int .i64 y0]] w6) := by
        have h := S9.drop1
        rw [show M.length + 1 = (M ++ [(i : Int)]).length by simp] at h
        exact h
       have u2 := ckC S10.out 2 rfl 2 rfl
       have f2 := BlkAt.free (S10.out.get 2 rfl) 2
       have S11 : Hid (Sep w.heap.size w [eMapS keyS veI nm (idxF (fs.map textP)),eOwn encP 2 75 fs (.slice (some ⟨gq,oq,none⟩) fs.length cF),eBlk ob 35 [.slice AC al.length cC,.int .i64 0,(.slice A5 (M ++ [(i : Int)]).length c5),v3],eInts (M ++ [(i : Int)]) (.slice A5 (M ++ [(i : Int)]).length c5),eEds E v3,eInts al (.slice AC al.length cC),eBlk (w.heap.size + 1) 35 [.slice none 0 0,.int .i64 0,.slice none 0 0,.slice none 0 0],eBlk w.heap.size 75 [.int .i64 x0,.int .i64 y0]] (w6.setCell ⟨ob,2,none⟩ (.slice A5 (M ++ [(i : Int)]).length c5))) := S10.out.set 2 rfl 2 (.slice A5 (M ++ [(i : Int)]).length c5)
       rw [show (M ++ [(i : Int)]).length = M.length + 1 by simp] at S11
       clear S1 S9 S10 q2
       go_wp2_with fail
       go_meet
       exact ⟨M ++ [(i : Int)],_,by simp; omega,K2.out,S11.out⟩
      case false =>
       have K2 := Lib.hid (K.out.no FS.out (fun h => by rw [← HQ.out] at h; cases h))
       go_wp2_with fail
       go_meet
       exact ⟨M,v2,by omega,K2.out,S1.out⟩
     case rest =>
      clear S1 K hMl
      obtain ⟨M',v2,hMl,K,S⟩ := hcut
      go_wp2_with fail
      go_loopw [13,51] (fun v13 v51 wr => ∃ (t : Nat) (fs' : List (Int × Int)) (E' : List Ed) (AF' : Option Addr) (cF' : Nat) (v3' : Value),v13 = .slice AF' fs'.length cF' ∧ v51 = .int .i64 t ∧ t ≤ al.length ∧ i < fs'.length ∧ fs'.length ≤ 4096 ∧ E'.length ≤ 32 * i + t ∧ Hid (Bld id (outP a b al) (a.st,b.st) i t fs' E') ∧ Hid (fs'[i]? = some (vx,vy)) ∧ Hid (Mks (fun v => mkf v = true) fs' (i + 1) M') ∧ Hid (∀ v,v ∈ fs' → rgP a b v ∧ RchP a b al v) ∧ Hid (Sep w.heap.size w [eMapS keyS veI nm (idxF (fs'.map textP)),eOwn encP 2 75 fs' (.slice AF' fs'.length cF'),eBlk ob 35 [.slice AC al.length cC,.int .i64 0,v2,v3'],eInts M' v2,eEds E' v3',eInts al (.slice AC al.length cC),eBlk (w.heap.size + 1) 35 [.slice none 0 0,.int .i64 0,.slice none 0 0,.slice none 0 0],eBlk w.heap.size 75 [.int .i64 x0,.int .i64 y0]] wr)) (fun _ v51 _ => al.length - (intOf v51).toNat)
      case atStart => exact ⟨0,fs,E,some ⟨gq,oq,none⟩,cF,v3,rfl,rfl,Nat.zero_le _,hlt,hfs,by omega,B.out,FS.out,K.out,RG.out,S.out⟩
      case round =>
       clear S B FS K RG hlt hfs hi hEl
       obtain ⟨t,fs',E',AF',cF',v3',rfl,rfl,ht,hif,hfs,hEl,B,FS,K,RG,S⟩ := hrel
       by_cases hlt2 : t < al.length
       · obtain ⟨ba,oa,e,hAe,_,he,ce⟩ := IntsAt.at (HAL.out.below IntE.stays S.out.below) hlt2
         subst hAe
         obtain ⟨gr,or_,v',hFe,hv,cx,cy⟩ := S.out.pairs 1 rfl hif
         subst hFe
         rw [FS.out] at hv
         cases hv
         have HE := Lib.hid he
         have hea : Hid (e ∈ al) := List.mem_of_getElem? he
         have HNC := Lib.hid (HN.out wr (vx,vy) e S.out.below RGV.out.1)
         obtain ⟨tt,htt⟩ : ∃ tt,tt = stp2 a b (vx,vy) e := ⟨_,rfl⟩
         rw [← htt] at HNC
         obtain ⟨tx,ty⟩ := tt
         have HTT := Lib.hid htt
         have RGT : Hid (rgP a b (tx,ty)) := by rw [htt]; exact rgP_step HA.out HB.out _ _
         have RCT : Hid (RchP a b al (tx,ty)) := by rw [htt]; exact RchP.go RGV.out.2 hea.out
         have OX : Hid ((outP a b al (vx,vy))[t]? = some (e,(tx,ty))) := by rw [Hid,outP_get,he,htt]; rfl
         dsimp only [pv] at cx cy HNC
         clear he htt
         go_wp2_with fail
         refine HNC.out.mono ?_
         rintro e' w4 ⟨rfl,hb⟩
         have S1 := Lib.hid (S.out.next hb)
         clear S hb HNC cx cy ce
         obtain ⟨tb,htb⟩ : ∃ g,g = w4.heap.size := ⟨_,rfl⟩
         go_upto_region 12 with fail
         rw [← htb]
         refine wp_world (fun V => Sep w.heap.size w [eBlk tb 75 [.int .i64 tx,.int .i64 ty],eMapS keyS veI nm (idxF (fs'.map textP)),eOwn encP 2 75 fs' (.slice (some ⟨gr,or_,none⟩) fs'.length cF'),eBlk ob 35 [.slice AC al.length cC,.int .i64 0,v2,v3'],eInts M' v2,eEds E' v3',eInts al (.slice AC al.length cC),eBlk (w.heap.size + 1) 35 [.slice none 0 0,.int .i64 0,.slice none 0 0,.slice none 0 0],eBlk w.heap.size 75 [.int .i64 x0,.int .i64 y0]] V) (S1.out.alloc' _ [_,_] rfl htb) fun W5 S' => ?_
         have S2 := Lib.hid S'
         clear S' S1 htb
         have t0 := ckC S2.out 0 rfl 0 rfl
         have t1 := ckC S2.out 0 rfl 1 rfl
         have HTC := Lib.hid (HT.out W5 (tx,ty) S2.out.below RGT.out)
         dsimp only at HTC
         go_wp2_with fail
         refine HTC.out.mono ?_
         rintro e' w6 ⟨rfl,hb⟩
         have S6 := Lib.hid (S2.out.next hb)
         clear S2 hb HTC t0 t1
         have hlk := (MapG.look okS Tryd.underlying126 zeroI (S6.out.get 1 rfl).g (textP (tx,ty))).1
         obtain ⟨z0,hz0⟩ : ∃ z,z = (idxF (fs'.map textP) (textP (tx,ty))).getD 0 := ⟨_,rfl⟩
         obtain ⟨q0,hq0⟩ : ∃ q,q = (idxF (fs'.map textP) (textP (tx,ty))).isSome := ⟨_,rfl⟩
         rw [← hz0,← hq0] at hlk
         dsimp only [keyS,veI] at hlk
         have HZ0 := Lib.hid hz0
         have HQ0 := Lib.hid hq0
         clear hz0 hq0
         go_upto_if 71 with fail
         go_cut [13,19,71] from 72 to 84 (fun v13 v19 v71 wx => ∃ (fs2 : List (Int × Int)) (AF2 : Option Addr) (cF2 j : Nat),v13 = .slice AF2 fs2.length cF2 ∧ v19 = .int .i64 j ∧ j < fs2.length ∧ fs2.length ≤ 4097 ∧ (4096 ≤ j → fs2.length = 4097) ∧ (j < 4096 → fs2.length ≤ 4096) ∧ Hid (Bld id (outP a b al) (a.st,b.st) i (t + 1) fs2 (E' ++ [⟨i,e,j⟩])) ∧ Hid (fs2[i]? = some (vx,vy)) ∧ Hid (Mks (fun v => mkf v = true) fs2 (i + 1) M') ∧ Hid (∀ v,v ∈ fs2 → rgP a b v ∧ RchP a b al v) ∧ Hid (Sep w.heap.size w [eMapS keyS veI nm (idxF (fs2.map textP)),eOwn encP 2 75 fs2 (.slice AF2 fs2.length cF2),eBlk ob 35 [.slice AC al.length cC,.int .i64 0,v2,v3'],eInts M' v2,eEds E' v3',eInts al (.slice AC al.length cC),eBlk (w.heap.size + 1) 35 [.slice none 0 0,.int .i64 0,.slice none 0 0,.slice none 0 0],eBlk w.heap.size 75 [.int .i64 x0,.int .i64 y0]] wx))
         case first =>
          clear hlk
          cases q0
          case true =>
           have hmem : (tx,ty) ∈ fs' := by
            apply Classical.byContradiction
            intro h
            have := HQ0.out
            rw [idxF_miss h] at this
            cases this
           obtain ⟨j,hj,hjf⟩ := idxF_hit hmem
           have hzj : z0 = (j : Int) := by have := HZ0.out; rw [hj] at this; exact this
           subst hzj
           have hjl := (List.getElem?_eq_some_iff.1 hjf).1
           have B2 : Hid (Bld id (outP a b al) (a.st,b.st) i (t + 1) fs' (E' ++ [⟨i,e,j⟩])) := B.out.old FS.out (outP_ups HOK.out.incr _) OX.out hjf rfl
           have S7 : Hid (Sep w.heap.size w [eMapS keyS veI nm (idxF (fs'.map textP)),eOwn encP 2 75 fs' (.slice (some ⟨gr,or_,none⟩) fs'.length cF'),eBlk ob 35 [.slice AC al.length cC,.int .i64 0,v2,v3'],eInts M' v2,eEds E' v3',eInts al (.slice AC al.length cC),eBlk (w.heap.size + 1) 35 [.slice none 0 0,.int .i64 0,.slice none 0 0,.slice none 0 0],eBlk w.heap.size 75 [.int .i64 x0,.int .i64 y0]] w6) := S6.out.drop1
           clear hj hjf hmem S6
           go_wp2_with fail
           go_meet
           exact ⟨fs',some ⟨gr,or_,none⟩,cF',j,rfl,rfl,hjl,by omega,by omega,fun _ => hfs,B2.out,FS.out,K.out,RG.out,S7.out⟩
          case false =>
           have NMEM : Hid (¬ (tx,ty) ∈ fs') := fun h => by
            obtain ⟨j,hj,_⟩ := idxF_hit h
            have := HQ0.out
            rw [hj] at this
            cases this
           have NOF : Hid (idxF (fs'.map textP) (textP (tx,ty)) = none) := idxF_miss NMEM.out
           have NF2 : Hid (∀ u,idxF ((fs' ++ [(tx,ty)]).map textP) u = if u = textP (tx,ty) then some (fs'.length : Int) else idxF (fs'.map textP) u) := fun u => by
            rw [List.map_append,List.map_singleton,idxF_push (fun h => NMEM.out (mem_mapT.1 h)),List.length_map]
           have B2 : Hid (Bld id (outP a b al) (a.st,b.st) i (t + 1) (fs' ++ [(tx,ty)]) (E' ++ [⟨i,e,fs'.length⟩])) := B.out.new FS.out (outP_ups HOK.out.incr _) OX.out (fun u hu he => NMEM.out (by rw [← (show u = (tx,ty) from he)]; exact hu))
           have K2 := Lib.hid (K.out.grow (by omega) (tx,ty))
           have FS2 : Hid ((fs' ++ [(tx,ty)])[i]? = some (vx,vy)) := get_keep FS.out _
           have RG2 : Hid (∀ v,v ∈ fs' ++ [(tx,ty)] → rgP a b v ∧ RchP a b al v) := fun v hv => by
            rcases List.mem_append.1 hv with g | g
            · exact RG.out v g
            · rw [List.mem_singleton.1 g]; exact ⟨RGT.out,RCT.out⟩
           have hfl : fs'.length ≤ 1048576 := by omega
           go_upto_region 15 with fail
           have S27 := Lib.hid S6.out.drew
           refine wp_region_held_drew (S := (fun V => Sep w.heap.size w [eBlk tb 75 [.int .i64 tx,.int .i64 ty]] V)) (by kernel_rfl) ?_ (fun hHeld => ?_)
           · exact S27.out.pick [0] (by decide)
           generalize hwz : w6.drew = w27 at *
           clear hwz
           refine tkP 0 rfl hHeld ?_
           try simp only [sx]
           refine tkP 1 rfl hHeld ?_
           try simp only [sx]
           refine tkH 2 rfl (v := ?_) (by kernel_rfl) ?_ hHeld ?_
           rotate_left
           · intro V hSw
             have t0 := ckC hSw 0 rfl 0 rfl
             have t1 := ckC hSw 0 rfl 1 rfl
             clear hSw
             first | (go_simp; done) | (go_simp; with_reducible rfl)
           try simp only [sx]
           refine tkP 4 rfl hHeld ?_
           try simp only [sx]
           refine tkP 5 rfl hHeld ?_
           try simp only [sx]
           refine tkH 6 rfl (v := ?_) (by kernel_rfl) ?_ hHeld ?_
           rotate_left
           · intro V hSw
             have t0 := ckC hSw 0 rfl 0 rfl
             have t1 := ckC hSw 0 rfl 1 rfl
             clear hSw
             first | (go_simp; done) | (go_simp; with_reducible rfl)
           try simp only [sx]
           refine wpAnyH_ready (rs := [3,7]) (by kernel_rfl) (by simp) ?_
           refine AllReadyH.cons rfl (fun K hK => ?_) (AllReadyH.cons rfl (fun K hK => ?_) AllReadyH.nil)
           · skip
             go_simp
             refine (HT.out w27 (tx,ty) S27.out.below RGT.out).mono ?_
             rintro e w28 ⟨rfl,hb⟩
             have S28 := Lib.hid (S27.out.next hb)
             clear hb
             refine hK.out _ _ ?_ (fun hHeld => ?_)
             · exact S28.out.pick [0] (by decide)
             clear hK K
             try simp only [sx]
             refine rdH 7 rfl fun K hK => ?_
             go_simp
             obtain ⟨nnw,hnnw⟩ : ∃ n,n = w28.heap.size := ⟨_,rfl⟩
             obtain ⟨w29,hw29⟩ : ∃ v,v = w28.alloc (.cells #[.int .i64 tx,.int .i64 ty] 75) := ⟨_,rfl⟩
             rw [← hw29,← hnnw]
             have S29 := ckA S28.out hw29 hnnw
             skip
             clear hw29 hnnw
             refine hK.out _ _ ?_ (fun hHeld => ?_)
             · exact S29.out.pick [1] (by decide)
             clear hK K
             try simp only [sx]
             refine rdH 8 rfl fun K hK => ?_
             refine step_pushS rfl (.tmp 79) (.tmp 81) 125 rfl S29.out 3 rfl Tryd.underlying125 _ 16 pairInfo rfl (by decide) rfl (tx,ty) nnw rfl rfl (fun j u hj => (BlkAt.cell (S29.out.get 0 rfl) j).trans hj) (encPone _) hfl (by decide) ?_
             intro Afs30 cfs30 w30 S30' _
             have S30 := ckR S30'
             clear S30'
             refine hK.out _ _ ?_ (fun hHeld => ?_)
             · exact S30.out.pick [1] (by decide)
             clear hK K
             try simp only [sx]
             refine rdH 9 rfl fun K hK => ?_
             refine step_mapEntryS rfl (.tmp 74) (.tmp 77) 126 9 3 rfl S30.out 2 rfl okS Tryd.underlying126 zeroI (textP (tx,ty)) NOF.out rfl rfl ?_
             intro st31 w31 S31'
             have S31 : Hid (Sep w.heap.size w [eBlk nnw 75 [.int .i64 tx,.int .i64 ty],eBlk tb 75 [.int .i64 tx,.int .i64 ty],eMapW keyS veI nm (idxF (fs'.map textP)) (textP (tx,ty)) 0 st31,eOwn encP 2 75 (fs' ++ [(tx,ty)]) (.slice Afs30 ((fs').length + 1) cfs30),eBlk ob 35 [.slice AC al.length cC,.int .i64 0,v2,v3'],eInts M' v2,eEds E' v3',eInts al (.slice AC al.length cC),eBlk (w.heap.size + 1) 35 [.slice none 0 0,.int .i64 0,.slice none 0 0,.slice none 0 0],eBlk w.heap.size 75 [.int .i64 x0,.int .i64 y0]] w31) := S31'
             clear S31'
             refine hK.out _ _ ?_ (fun hHeld => ?_)
             · exact S31.out.pick [1] (by decide)
             clear hK K
             try simp only [sx]
             refine tkP 10 rfl hHeld ?_
             try simp only [sx]
             refine rdH 11 rfl fun K hK => ?_
             refine step_entryStoreS rfl (.tmp 74) (.tmp 84) (.tmp 78) 126 rfl S31.out 2 rfl (fs'.length : Int) rfl rfl rfl ?_
             intro w32 S32'
             have S32 : Hid (Sep w.heap.size w [eBlk nnw 75 [.int .i64 tx,.int .i64 ty],eBlk tb 75 [.int .i64 tx,.int .i64 ty],eMapS keyS veI nm (fun u => if u = textP (tx,ty) then some (fs'.length : Int) else idxF (fs'.map textP) u),eOwn encP 2 75 (fs' ++ [(tx,ty)]) (.slice Afs30 ((fs').length + 1) cfs30),eBlk ob 35 [.slice AC al.length cC,.int .i64 0,v2,v3'],eInts M' v2,eEds E' v3',eInts al (.slice AC al.length cC),eBlk (w.heap.size + 1) 35 [.slice none 0 0,.int .i64 0,.slice none 0 0,.slice none 0 0],eBlk w.heap.size 75 [.int .i64 x0,.int .i64 y0]] w32) := S32'
             clear S32'
             refine hK.out _ _ ?_ (fun hHeld => ?_)
             · exact S32.out.pick [1] (by decide)
             clear hK K
             try simp only [sx]
             refine tkP 12 rfl hHeld ?_
             try simp only [sx]
             refine wpAnyH_done (by kernel_rfl) ?_ _
             go_wp2_with fail
             go_meet
             exact ⟨fs' ++ [(tx,ty)],Afs30,cfs30,fs'.length,by rw [List.length_append]; rfl,rfl,by rw [List.length_append]; exact Nat.lt_succ_self _,by rw [List.length_append]; show fs'.length + 1 ≤ 4097; omega,fun h => by rw [List.length_append]; show fs'.length + 1 = 4097; omega,fun h => by rw [List.length_append]; show fs'.length + 1 ≤ 4096; omega,B2.out,FS2.out,K2.out,RG2.out,by
              have h := (S32.out.mapSAs 2 rfl (idxF ((fs' ++ [(tx,ty)]).map textP)) NF2.out).pick [2,3,4,5,6,7,8,9] (by decide)
              rw [List.length_append]; exact h⟩
           · skip
             go_simp
             obtain ⟨nnw,hnnw⟩ : ∃ n,n = w27.heap.size := ⟨_,rfl⟩
             obtain ⟨w33,hw33⟩ : ∃ v,v = w27.alloc (.cells #[.int .i64 tx,.int .i64 ty] 75) := ⟨_,rfl⟩
             rw [← hw33,← hnnw]
             have S33 := ckA S27.out hw33 hnnw
             skip
             clear hw33 hnnw
             refine hK.out _ _ ?_ (fun hHeld => ?_)
             · exact S33.out.pick [1] (by decide)
             clear hK K
             try simp only [sx]
             refine rdH 3 rfl fun K hK => ?_
             go_simp
             refine (HT.out w33 (tx,ty) S33.out.below RGT.out).mono ?_
             rintro e w34 ⟨rfl,hb⟩
             have S34 := Lib.hid (S33.out.next hb)
             clear hb
             refine hK.out _ _ ?_ (fun hHeld => ?_)
             · exact S34.out.pick [1] (by decide)
             clear hK K
             try simp only [sx]
             refine rdH 8 rfl fun K hK => ?_
             refine step_pushS rfl (.tmp 79) (.tmp 81) 125 rfl S34.out 3 rfl Tryd.underlying125 _ 16 pairInfo rfl (by decide) rfl (tx,ty) nnw rfl rfl (fun j u hj => (BlkAt.cell (S34.out.get 0 rfl) j).trans hj) (encPone _) hfl (by decide) ?_
             intro Afs35 cfs35 w35 S35' _
             have S35 := ckR S35'
             clear S35'
             refine hK.out _ _ ?_ (fun hHeld => ?_)
             · exact S35.out.pick [1] (by decide)
             clear hK K
             try simp only [sx]
             refine rdH 9 rfl fun K hK => ?_
             refine step_mapEntryS rfl (.tmp 74) (.tmp 77) 126 9 3 rfl S35.out 2 rfl okS Tryd.underlying126 zeroI (textP (tx,ty)) NOF.out rfl rfl ?_
             intro st36 w36 S36'
             have S36 : Hid (Sep w.heap.size w [eBlk nnw 75 [.int .i64 tx,.int .i64 ty],eBlk tb 75 [.int .i64 tx,.int .i64 ty],eMapW keyS veI nm (idxF (fs'.map textP)) (textP (tx,ty)) 0 st36,eOwn encP 2 75 (fs' ++ [(tx,ty)]) (.slice Afs35 ((fs').length + 1) cfs35),eBlk ob 35 [.slice AC al.length cC,.int .i64 0,v2,v3'],eInts M' v2,eEds E' v3',eInts al (.slice AC al.length cC),eBlk (w.heap.size + 1) 35 [.slice none 0 0,.int .i64 0,.slice none 0 0,.slice none 0 0],eBlk w.heap.size 75 [.int .i64 x0,.int .i64 y0]] w36) := S36'
             clear S36'
             refine hK.out _ _ ?_ (fun hHeld => ?_)
             · exact S36.out.pick [1] (by decide)
             clear hK K
             try simp only [sx]
             refine tkP 10 rfl hHeld ?_
             try simp only [sx]
             refine rdH 11 rfl fun K hK => ?_
             refine step_entryStoreS rfl (.tmp 74) (.tmp 84) (.tmp 78) 126 rfl S36.out 2 rfl (fs'.length : Int) rfl rfl rfl ?_
             intro w37 S37'
             have S37 : Hid (Sep w.heap.size w [eBlk nnw 75 [.int .i64 tx,.int .i64 ty],eBlk tb 75 [.int .i64 tx,.int .i64 ty],eMapS keyS veI nm (fun u => if u = textP (tx,ty) then some (fs'.length : Int) else idxF (fs'.map textP) u),eOwn encP 2 75 (fs' ++ [(tx,ty)]) (.slice Afs35 ((fs').length + 1) cfs35),eBlk ob 35 [.slice AC al.length cC,.int .i64 0,v2,v3'],eInts M' v2,eEds E' v3',eInts al (.slice AC al.length cC),eBlk (w.heap.size + 1) 35 [.slice none 0 0,.int .i64 0,.slice none 0 0,.slice none 0 0],eBlk w.heap.size 75 [.int .i64 x0,.int .i64 y0]] w37) := S37'
             clear S37'
             refine hK.out _ _ ?_ (fun hHeld => ?_)
             · exact S37.out.pick [1] (by decide)
             clear hK K
             try simp only [sx]
             refine tkP 12 rfl hHeld ?_
             try simp only [sx]
             refine wpAnyH_done (by kernel_rfl) ?_ _
             go_wp2_with fail
             go_meet
             exact ⟨fs' ++ [(tx,ty)],Afs35,cfs35,fs'.length,by rw [List.length_append]; rfl,rfl,by rw [List.length_append]; exact Nat.lt_succ_self _,by rw [List.length_append]; show fs'.length + 1 ≤ 4097; omega,fun h => by rw [List.length_append]; show fs'.length + 1 = 4097; omega,fun h => by rw [List.length_append]; show fs'.length + 1 ≤ 4096; omega,B2.out,FS2.out,K2.out,RG2.out,by
              have h := (S37.out.mapSAs 2 rfl (idxF ((fs' ++ [(tx,ty)]).map textP)) NF2.out).pick [2,3,4,5,6,7,8,9] (by decide)
              rw [List.length_append]; exact h⟩
         case rest =>
          clear hlk S6 B FS K RG hif hfs
          obtain ⟨fs2,AF2,cF2,j,rfl,rfl,hj2,hf7,hbig,hsml,B,FS,K,RG,S⟩ := hcut
          by_cases hj : j < 4096
          · have hf6 := hsml hj
            have hjd : decide ((4096 : Int) ≤ (j : Int)) = false := by simp; omega
            have q3 := ckC S.out 2 rfl 3 rfl
            have hi2 := (List.getElem?_eq_some_iff.1 FS.out).1
            have hhl : E'.length ≤ 1048576 := by omega
            clear hbig hsml
            go_wp2_with (at_builtin; refine wpList_pushS rfl _ _ 33 rfl (S.out.alloc 87 [.int .i64 (i : Int),.int .i64 e,.int .i64 (j : Int)]) 5 rfl Tryd.underlying33 _ 24 edInfo rfl (by decide) rfl (⟨(i : Int),e,(j : Int)⟩ : Ed) _ rfl rfl (one_cell _ _ [_,_,_] _ rfl) (edOne _) hhl (by decide) ?_)
            intro A5 c5 w7 S9 _
            have S10 : Hid (Sep w.heap.size w [eMapS keyS veI nm (idxF (fs2.map textP)),eOwn encP 2 75 fs2 (.slice AF2 fs2.length cF2),eBlk ob 35 [.slice AC al.length cC,.int .i64 0,v2,v3'],eInts M' v2,eEds (E' ++ [(⟨(i : Int),e,(j : Int)⟩ : Ed)]) (.slice A5 (E'.length + 1) c5),eInts al (.slice AC al.length cC),eBlk (w.heap.size + 1) 35 [.slice none 0 0,.int .i64 0,.slice none 0 0,.slice none 0 0],eBlk w.heap.size 75 [.int .i64 x0,.int .i64 y0]] w7) := S9.drop1
            have u3 := ckC S10.out 2 rfl 3 rfl
            have f3 := BlkAt.free (S10.out.get 2 rfl) 3
            have S11 : Hid (Sep w.heap.size w [eMapS keyS veI nm (idxF (fs2.map textP)),eOwn encP 2 75 fs2 (.slice AF2 fs2.length cF2),eBlk ob 35 [.slice AC al.length cC,.int .i64 0,v2,(.slice A5 (E'.length + 1) c5)],eInts M' v2,eEds (E' ++ [(⟨(i : Int),e,(j : Int)⟩ : Ed)]) (.slice A5 (E'.length + 1) c5),eInts al (.slice AC al.length cC),eBlk (w.heap.size + 1) 35 [.slice none 0 0,.int .i64 0,.slice none 0 0,.slice none 0 0],eBlk w.heap.size 75 [.int .i64 x0,.int .i64 y0]] (w7.setCell ⟨ob,3,none⟩ (.slice A5 (E'.length + 1) c5))) := S10.out.set 2 rfl 3 (.slice A5 (E'.length + 1) c5)
            clear S S9 S10 q3
            go_wp2_with fail
            go_roundw
            case rel => exact ⟨t + 1,fs2,E' ++ [(⟨(i : Int),e,(j : Int)⟩ : Ed)],AF2,cF2,.slice A5 (E'.length + 1) c5,rfl,by go_num,by omega,by have := (List.getElem?_eq_some_iff.1 FS.out).1; exact this,hf6,by rw [List.length_append]; simp; omega,B.out,FS.out,K.out,RG.out,S11.out⟩
            case measure => simp [intOf]; omega
          · have hjd : decide ((4096 : Int) ≤ (j : Int)) = true := by simp; omega
            have NO : Hid (ExNo a b al) := ⟨fs2,hbig (by omega),by
             rw [List.nodup_iff_pairwise_ne,List.pairwise_iff_getElem]
             intro p q hp hq hpq he'
             have := B.out.nd p q fs2[p] fs2[q] (List.getElem?_eq_getElem hp) (List.getElem?_eq_getElem hq) he'
             omega,fun v hv => (RG.out v hv).2⟩
            clear B K RG FS hbig hsml
            have r0 := ckC S.out 6 rfl 0 rfl
            have r1 := ckC S.out 6 rfl 1 rfl
            have r2 := ckC S.out 6 rfl 2 rfl
            have r3 := ckC S.out 6 rfl 3 rfl
            have f0 := BlkAt.free (S.out.get 6 rfl) 0
            have f1 := BlkAt.free (S.out.get 6 rfl) 1
            have f2 := BlkAt.free (S.out.get 6 rfl) 2
            have f3 := BlkAt.free (S.out.get 6 rfl) 3
            have S7 : Hid (Sep w.heap.size w [eMapS keyS veI nm (idxF (fs2.map textP)),eOwn encP 2 75 fs2 (.slice AF2 fs2.length cF2),eBlk ob 35 [.slice AC al.length cC,.int .i64 0,v2,v3'],eInts M' v2,eEds E' v3',eInts al (.slice AC al.length cC),eBlk (w.heap.size + 1) 35 [.slice none 0 0,.int .i64 0,.slice none 0 0,.slice none 0 0],eBlk w.heap.size 75 [.int .i64 x0,.int .i64 y0]] _) := (((S.out.set 6 rfl 0 (.slice none 0 0)).set 6 rfl 1 (.int .i64 0)).set 6 rfl 2 (.slice none 0 0)).set 6 rfl 3 (.slice none 0 0)
            have t0 := ckC S7.out 6 rfl 0 rfl
            have t1 := ckC S7.out 6 rfl 1 rfl
            have t2 := ckC S7.out 6 rfl 2 rfl
            have t3 := ckC S7.out 6 rfl 3 rfl
            go_wp2_with fail
            refine bodyPost_ret (v := .tuple #[.agg #[.slice none 0 0,.int .i64 0,.slice none 0 0,.slice none 0 0],.int .i64 3]) (by simp [results,Tryd.results74,go_sem, *]) rfl ?_
            exact .inr ⟨rfl,S7.out.below,NO.out⟩
       · obtain rfl : t = al.length := by omega
         have B2 : Hid (Bld id (outP a b al) (a.st,b.st) (i + 1) 0 fs' E') := Bld.next (by rw [outP_len]; exact B.out) FS.out
         clear B
         go_wp2_with fail
         go_roundw
         case rel => exact ⟨i + 1,fs',M',E',AF',cF',v2,v3',rfl,by go_num,by omega,hfs,by omega,by omega,B2.out,K.out,RG.out,S.out⟩
         case measure => simp [intOf]; omega
   · obtain rfl : i = fs.length := by omega
     obtain ⟨AM,cM,hv2⟩ := S.out.form 3 rfl
     obtain ⟨AX,cX,hv3⟩ := S.out.form 4 rfl
     subst hv2; subst hv3
     have u1 := ckC S.out 2 rfl 1 rfl
     have f1 := BlkAt.free (S.out.get 2 rfl) 1
     go_upto_region 21 with fail
     have S2' := S.out.set 2 rfl 1 (.int .i64 (fs.length : Int))
     refine wp_world (fun W => Sep w.heap.size w [eMapS keyS veI nm (idxF (fs.map textP)),eOwn encP 2 75 fs (.slice AF fs.length cF),eBlk ob 35 [.slice AC al.length cC,.int .i64 (fs.length : Int),(.slice AM M.length cM),(.slice AX E.length cX)],eInts M (.slice AM M.length cM),eEds E (.slice AX E.length cX),eInts al (.slice AC al.length cC),eBlk (w.heap.size + 1) 35 [.slice none 0 0,.int .i64 0,.slice none 0 0,.slice none 0 0],eBlk w.heap.size 75 [.int .i64 x0,.int .i64 y0]] W) S2' fun W S2' => ?_
     have S2 := Lib.hid S2'
     clear S2' S u1 f1
     have BT : Hid (Built id (outP a b al) (a.st,b.st) ⟨al,fs.length,M,E⟩ fs) := B.out.built (Nat.le_refl _) al M HOK.out (by omega) K.out.set (fun v hv x hx => (mem_outP (e := x.1) (t := x.2) hx).1) (fun v _ => outP_ups HOK.out.incr v)
     have MK := Lib.hid K.out.fin
     have hmn : E.length ≤ 131072 := by omega
     have AT : Hid (Au.At W ⟨al,fs.length,M,E⟩ ⟨AC,cC,AM,cM,AX,cX⟩) := ⟨S2.out.ints 5 rfl,S2.out.ints 3 rfl,S2.out.eds 4 rfl,by show al.length ≤ _; omega,by show M.length ≤ _; omega,by show E.length ≤ _; omega⟩
     have CP : Hid (Caps ⟨al,fs.length,M,E⟩ ⟨AC,cC,AM,cM,AX,cX⟩) := ⟨Own.cap (S2.out.get 5 rfl),Own.cap (S2.out.get 3 rfl),Own.cap (S2.out.get 4 rfl)⟩
     have q0 := ckC S2.out 2 rfl 0 rfl
     have q1 := ckC S2.out 2 rfl 1 rfl
     have q2 := ckC S2.out 2 rfl 2 rfl
     have q3 := ckC S2.out 2 rfl 3 rfl
     clear B K
     go_wp2_with fail
     refine (small_c ⟨al,fs.length,M,E⟩ ⟨AC,cC,AM,cM,AX,cX⟩ _ BT.out.rt CP.out AT.out).mono ?_
     rintro e w3 ⟨⟨al2,n2,mr2,ed2⟩,⟨D12,d12,D22,d22,D32,d32⟩,rfl,T2,LN2,FA2⟩
     have S3 : Hid (Sep w.heap.size w [eInts al2 (.slice D12 al2.length d12),eInts mr2 (.slice D22 mr2.length d22),eEds ed2 (.slice D32 ed2.length d32),eMapS keyS veI nm (idxF (fs.map textP)),eOwn encP 2 75 fs (.slice AF fs.length cF),eBlk ob 35 [.slice AC al.length cC,.int .i64 (fs.length : Int),(.slice AM M.length cM),(.slice AX E.length cX)],eInts M (.slice AM M.length cM),eEds E (.slice AX E.length cX),eInts al (.slice AC al.length cC),eBlk (w.heap.size + 1) 35 [.slice none 0 0,.int .i64 0,.slice none 0 0,.slice none 0 0],eBlk w.heap.size 75 [.int .i64 x0,.int .i64 y0]] w3) := S2.out.news T2.out
     have FM : Hid (ExOk a b al mkf ⟨al2,n2,mr2,ed2⟩ ⟨al,fs.length,M,E⟩ fs) := ⟨rfl,BT.out,RG.out,MK.out,FA2.out⟩
     clear T2 S2 q0 q1 q2 q3 AT CP
     have r0 := ckC S3.out 9 rfl 0 rfl
     have r1 := ckC S3.out 9 rfl 1 rfl
     have r2 := ckC S3.out 9 rfl 2 rfl
     have r3 := ckC S3.out 9 rfl 3 rfl
     have f0 := BlkAt.free (S3.out.get 9 rfl) 0
     have f1 := BlkAt.free (S3.out.get 9 rfl) 1
     have f2 := BlkAt.free (S3.out.get 9 rfl) 2
     have f3 := BlkAt.free (S3.out.get 9 rfl) 3
     have S4 : Hid (Sep w.heap.size w [eInts al2 (.slice D12 al2.length d12),eInts mr2 (.slice D22 mr2.length d22),eEds ed2 (.slice D32 ed2.length d32),eMapS keyS veI nm (idxF (fs.map textP)),eOwn encP 2 75 fs (.slice AF fs.length cF),eBlk ob 35 [.slice AC al.length cC,.int .i64 (fs.length : Int),(.slice AM M.length cM),(.slice AX E.length cX)],eInts M (.slice AM M.length cM),eEds E (.slice AX E.length cX),eInts al (.slice AC al.length cC),eBlk (w.heap.size + 1) 35 [.slice D12 al2.length d12,.int .i64 n2,.slice D22 mr2.length d22,.slice D32 ed2.length d32],eBlk w.heap.size 75 [.int .i64 x0,.int .i64 y0]] _) := ((((S3.out.set 9 rfl 0 (.slice D12 al2.length d12)).set 9 rfl 1 (.int .i64 n2)).set 9 rfl 2 (.slice D22 mr2.length d22)).set 9 rfl 3 (.slice D32 ed2.length d32))
     have SF : Hid (Sep w.heap.size w (eAu ⟨al2,n2,mr2,ed2⟩ ⟨D12,d12,D22,d22,D32,d32⟩) _) := S4.out.pick [0,1,2] (by decide)
     have t0 := ckC S4.out 9 rfl 0 rfl
     have t1 := ckC S4.out 9 rfl 1 rfl
     have t2 := ckC S4.out 9 rfl 2 rfl
     have t3 := ckC S4.out 9 rfl 3 rfl
     clear S3
     dsimp only [Au.val]
     go_wp2_with fail
     refine bodyPost_ret (v := .tuple #[.agg #[.slice D12 al2.length d12,.int .i64 n2,.slice D22 mr2.length d22,.slice D32 ed2.length d32],.int .i64 0]) (by simp [results,Tryd.results74,go_sem, *]) rfl ?_
     exact .inl ⟨⟨al2,n2,mr2,ed2⟩,⟨D12,d12,D22,d22,D32,d32⟩,⟨al,fs.length,M,E⟩,fs,rfl,SF.out,LN2.out,FM.out⟩
open Go.RowKit Go.Shelf
def laysItoa_ren : Go.Shelf.Ren := ⟨fun | 171 => 76 | 243 => 88 | 246 => 92 | 283 => 98 | 284 => 99 | 285 => 100 | 286 => 101 | 129 => 114 | 317 => 113 | 318 => 115 | 319 => 116 | 320 => 117 | 337 => 120 | 338 => 121 | n => n,fun | 3 => 3 | 9 => 9 | 2 => 2 | 4 => 4 | 171 => 131 | 0 => 0 | 53 => 132 | 37 => 62 | 5 => 5 | 173 => 135 | 212 => 153 | 51 => 154 | 20 => 20 | 213 => 155 | 46 => 157 | 232 => 162 | 233 => 163 | n => n,fun | 17 => 0 | 18 => 1 | 19 => 2 | n => n⟩
theorem laysItoa : LaysM.n171 Tryd.prog laysItoa_ren where
 mixed := by kernel_rfl
 f129 := Tryd.func114.trans (congrArg some (by kernel_rfl))
 f171 := Tryd.func76.trans (congrArg some (by kernel_rfl))
 f243 := Tryd.func88.trans (congrArg some (by kernel_rfl))
 f246 := Tryd.func92.trans (congrArg some (by kernel_rfl))
 f283 := Tryd.func98.trans (congrArg some (by kernel_rfl))
 f284 := Tryd.func99.trans (congrArg some (by kernel_rfl))
 f285 := Tryd.func100.trans (congrArg some (by kernel_rfl))
 f286 := Tryd.func101.trans (congrArg some (by kernel_rfl))
 f317 := Tryd.func113.trans (congrArg some (by kernel_rfl))
 f318 := Tryd.func115.trans (congrArg some (by kernel_rfl))
 f319 := Tryd.func116.trans (congrArg some (by kernel_rfl))
 f320 := Tryd.func117.trans (congrArg some (by kernel_rfl))
 f337 := Tryd.func120.trans (congrArg some (by kernel_rfl))
 f338 := Tryd.func121.trans (congrArg some (by kernel_rfl))
 t0 := Tryd.underlying0
 a0 := Tryd.isAgg0
 z0 := Tryd.sizeOf0
 v0 := Tryd.zeroValue0
 t2 := Tryd.underlying2
 a2 := Tryd.isAgg2
 z2 := Tryd.sizeOf2
 v2 := Tryd.zeroValue2
 t3 := Tryd.underlying3
 a3 := Tryd.isAgg3
 z3 := Tryd.sizeOf3
 v3 := Tryd.zeroValue3
 t4 := Tryd.underlying4
 a4 := Tryd.isAgg4
 z4 := Tryd.sizeOf4
 v4 := Tryd.zeroValue4
 t5 := Tryd.underlying5
 a5 := Tryd.isAgg5
 z5 := Tryd.sizeOf5
 v5 := Tryd.zeroValue5
 t9 := Tryd.underlying9
 a9 := Tryd.isAgg9
 z9 := Tryd.sizeOf9
 v9 := Tryd.zeroValue9
 t20 := Tryd.underlying20
 a20 := Tryd.isAgg20
 z20 := Tryd.sizeOf20
 v20 := Tryd.zeroValue20
 t37 := Tryd.underlying62
 a37 := Tryd.isAgg62
 z37 := Tryd.sizeOf62
 v37 := Tryd.zeroValue62
 t46 := Tryd.underlying157
 a46 := Tryd.isAgg157
 z46 := Tryd.sizeOf157
 v46 := Tryd.zeroValue157
 t51 := Tryd.underlying154
 a51 := Tryd.isAgg154
 z51 := Tryd.sizeOf154
 v51 := Tryd.zeroValue154
 t53 := Tryd.underlying132
 a53 := Tryd.isAgg132
 z53 := Tryd.sizeOf132
 v53 := Tryd.zeroValue132
 t171 := Tryd.underlying131
 a171 := Tryd.isAgg131
 z171 := Tryd.sizeOf131
 v171 := Tryd.zeroValue131
 t173 := Tryd.underlying135
 a173 := Tryd.isAgg135
 z173 := Tryd.sizeOf135
 v173 := Tryd.zeroValue135
 t212 := Tryd.underlying153
 a212 := Tryd.isAgg153
 z212 := Tryd.sizeOf153
 v212 := Tryd.zeroValue153
 t213 := Tryd.underlying155
 a213 := Tryd.isAgg155
 z213 := Tryd.sizeOf155
 t232 := Tryd.underlying162
 a232 := Tryd.isAgg162
 z232 := Tryd.sizeOf162
 v232 := Tryd.zeroValue162
 t233 := Tryd.underlying163
 a233 := Tryd.isAgg163
 z233 := Tryd.sizeOf163
 v233 := Tryd.zeroValue163
 g17 := by kernel_rfl
 g18 := by kernel_rfl
 g19 := by kernel_rfl
 i0 := by kernel_rfl
 i2 := by kernel_rfl
 i3 := by kernel_rfl
 i4 := by kernel_rfl
 i5 := by kernel_rfl
 i9 := by kernel_rfl
 i20 := by kernel_rfl
 i37 := by kernel_rfl
 i46 := by kernel_rfl
 i51 := by kernel_rfl
 i53 := by kernel_rfl
 i171 := by kernel_rfl
 i173 := by kernel_rfl
 i212 := by kernel_rfl
 i232 := by kernel_rfl
 i233 := by kernel_rfl
 m17 := by kernel_rfl
 m18 := by kernel_rfl
 m19 := by kernel_rfl

noncomputable def nmTab : String := ((Tryd.prog.globals[0]?).map (·.name)).getD default
def TabW (w : World) : Prop := Lib.TabIs Tryd.prog w nmTab .u64 Lib.pow10Tab
theorem TabW.lit {w : World} (h : TabW w) : ∀ s,nmTab = s → Lib.TabIs Tryd.prog w s .u64 Lib.pow10Tab := fun s e => by rw [← e]; exact h
theorem nmTab_named : Tryd.prog.globalNamed nmTab = some 0 := by kernel_rfl
theorem TabW.below {w w' : World} (h : TabW w) (hb : Below w.heap.size w w') : TabW w' := by
 unfold TabW Lib.TabIs World.var? at h ⊢
 rw [nmTab_named] at h ⊢
 simp only [Option.bind_some] at h ⊢
 have hlt : 0 < w.heap.size := by
  rcases Nat.lt_or_ge 0 w.heap.size with h' | h'
  · exact h'
  · rw [Array.getElem?_eq_none h'] at h; cases h
 rw [hb.block 0 hlt]
 exact h
theorem itoa_c (n : Int) (w : World) (h0 : -9223372036854775808 ≤ n) (h1 : n ≤ 9223372036854775807) (ht : TabW w) : Calls Tryd.prog 76 #[.int .i64 n] w (Ret (.string ⟨(Lib.itoa n).toArray⟩) w) :=
 (Any.strconv_Itoa laysItoa n h0 h1 w (ht.lit _ (by kernel_rfl))).mono fun e w' ⟨h,k,os,hw⟩ => ⟨h,by rw [hw]; exact Lib.below_grow _ _ (Nat.le_refl _) _ _⟩
set_option maxHeartbeats 1000000 in
theorem union_c (A B : Option Addr) (cA cB : Nat) (a b : List Int) (w : World) (hA : IntsAt w A a) (hB : IntsAt w B b) (ha : a.length ≤ cA) (hb : b.length ≤ cB) (la : a.length + b.length ≤ 100000) :
 Calls Tryd.prog 61 #[.slice A a.length cA,.slice B b.length cB] w (GivesMg (unionV a b) w) := by
 have HC : Hid (Calls Tryd.prog 82 #[.slice A a.length cA,.slice B b.length cB,.func (.func 83) #[] #[]] w (GivesMg (unionV a b) w)) :=
  merge_c A B cA cB a b _ orF (fun args w => by rfl) w (fun V p q => union1_c p q V) hA hB ha hb la
 clear hA hB
 go_enter Tryd.func61,Tryd.ntmps61
 go_wp2_with fail
 refine HC.out.mono ?_
 rintro e w' ⟨A',c',rfl,h1,h2⟩
 go_wp2_with fail
 go_ret
 exact ⟨A',c',rfl,h1,h2⟩
end Go.Proofs.YtkifgffhoenaoaaDoor
