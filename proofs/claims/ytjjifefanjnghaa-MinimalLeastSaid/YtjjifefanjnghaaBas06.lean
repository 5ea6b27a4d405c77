/-
  minimal.classes: the classes of states that nothing tells apart.
  Plain: marks of what is built; how many states there are.
-/
import Derived.Test.YtjjifefanjnghaaBas01
import Derived.Test.YtjjifefanjnghaaBas05
import Derived.Test.YtjjifefanjnghaaBas04
set_option linter.unusedSimpArgs false
set_option linter.unusedVariables false
namespace Go.Proofs.Ytjjifefanjnghaa
open Go.RowKit
set_option maxRecDepth 100000
theorem EdgRow.below {w w' : World} {l : List Ed} {n : Nat} {vs : List Value} (h : EdgRow w l n vs) (hb : Below w.heap.size w w') : EdgRow w' l n vs :=
 ⟨h.len,fun s hs => let ⟨A,c,h1,h2,h3⟩ := h.row s hs; ⟨A,c,h1,h2.below EdE.stays hb,h3⟩⟩
theorem Canon.le {c : List Int} {m : Nat} (h : Canon c m) : m ≤ c.length := (pigeon (fun y => (c.getD y 0).toNat) m c.length fun x hx => by
 obtain ⟨s,hs⟩ := h.on x hx
 exact ⟨s,(List.getElem?_eq_some_iff.1 hs).1,by rw [getD_some hs]; simp⟩).1
theorem keyOne_eq {mr : List Int} {i j : Nat} : keyOne mr i = keyOne mr j ↔ ((i : Int) ∈ mr ↔ (j : Int) ∈ mr) := by
 unfold keyOne
 have h : (⟨#[109]⟩ : ByteArray) ≠ ⟨#[]⟩ := by
  intro h
  have := congrArg (fun b : ByteArray => b.data.size) h
  simp at this
 by_cases h1 : (i : Int) ∈ mr <;> by_cases h2 : (j : Int) ∈ mr <;> simp [h1,h2,h,h.symm]
theorem sigB_rg {a : Au} {c : List Int} {s n : Nat} (hr : a.Right) (hn : a.n = n) (hs : s < n) (hl : c.length = n) (hc : ∀ x,x ∈ c → 0 ≤ x ∧ x < 4096) : ∀ y,y ∈ sigB (sigV a c s) → 0 ≤ y ∧ y < 256 := by
 intro y hy
 have cls : ∀ d : Int,0 ≤ d → d < n → 0 ≤ clsV c d ∧ clsV c d < 4096 := fun d h0 h1 => by
  unfold clsV
  have hd : d.toNat < c.length := by omega
  rw [getD_lt _ hd]
  exact hc _ (List.getElem_mem hd)
 simp only [sigB,sigV,List.mem_append,List.mem_flatMap,List.mem_map] at hy
 rcases hy with hy | ⟨q,⟨x,hx,rfl⟩,hy⟩
 · have hsl : s < c.length := by omega
   rw [getD_lt _ hsl] at hy
   have := hc _ (List.getElem_mem hsl)
   exact two_rg this.1 (by omega) y hy
 · have hm := (mem_outOf.1 hx).1
   have he := hr.ev hm
   have hd := edge_next hr hm
   rcases hy with hy | hy
   · exact two_rg he.1 (by omega) y hy
   · have := cls x.dst hd.2.2.2.1 (by omega)
     exact two_rg this.1 (by omega) y hy
theorem keyTwo_eq {a : Au} {c : List Int} {i j n : Nat} (hr : a.Right) (hn : a.n = n) (hi : i < n) (hj : j < n) (hl : c.length = n) (hc : ∀ x,x ∈ c → 0 ≤ x ∧ x < 4096) : keyTwo a c i = keyTwo a c j ↔ sigV a c i = sigV a c j :=
 ⟨fun h => sigB_inj (strOfNums_inj (sigB_rg hr hn hi hl hc) (sigB_rg hr hn hj hl hc) h),fun h => by unfold keyTwo; rw [h]⟩
theorem keys_ker {n : Nat} {key : Nat → ByteArray} {i j : Nat} (hi : i < n) (hj : j < n) : (numK ((List.range n).map key))[i]? = (numK ((List.range n).map key))[j]? ↔ key i = key j :=
 numK_ker (by simp [hi]) (by simp [hj])
def GivesC (a : Au) (w : World) (e : Ending) (w' : World) : Prop := ∃ g c m,e = .returned (.slice (some ⟨g,0,none⟩) a.n.toNat a.n.toNat) ∧ Hid (Sep w.heap.size w [eBlk g 3 (c.map (Value.int .i64))] w') ∧ Hid (c.length = a.n.toNat ∧ Canon c m ∧ ∀ i j : Nat,i < c.length → j < c.length → (c[i]? = c[j]? ↔ Eqv a i j))
set_option maxHeartbeats 8000000 in
theorem classes_c (a : Au) (p : AuP) (w : World) (hr : a.Right) (hc : Caps a p) (hA : Au.At w a p) :
 Calls Try.prog 38 #[a.val p] w (GivesC a w) := by
 have h0 := hr.n0
 have hn := hr.n1
 have HM : Hid (∀ x,x ∈ a.mr → 0 ≤ x ∧ x < a.n) := fun x hx => hr.mem hx
 have HR := Lib.hid hr
 have HA := Lib.hid hA
 have HC := Lib.hid hc
 obtain ⟨al,n,mr,ed⟩ := a
 obtain ⟨A1,c1,A2,c2,A3,c3⟩ := p
 obtain ⟨N,rfl⟩ := Int.eq_ofNat_of_zero_le h0
 dsimp only at HM hn h0 ⊢
 clear hr hA h0 hc
 go_enter Try.func38,Try.ntmps38
 go_wp2_with fail
 refine wp_world (fun W => Sep w.heap.size w [eBlk w.heap.size 25 [.slice A1 al.length c1,.int .i64 N,.slice A2 mr.length c2,.slice A3 ed.length c3]] W) ?_ fun W S => ?_
 · exact (Sep.here w).alloc' _ [_,_,_,_] rfl rfl
 have S0 := Lib.hid S
 clear S
 go_cut [3,4] (fun v3 v4 wx => ∃ nx ny gm ge vs,v3 = .pointer (some ⟨nx,0,none⟩) ∧ v4 = .pointer (some ⟨ny,0,none⟩) ∧ Hid (∀ V,EdsAt V A3 ed → EdgRow V ed N vs) ∧ Hid (Sep w.heap.size w [eBlk nx 82 [.slice (some ⟨gm,0,none⟩) N N],eBlk gm 4 (mkB N fun s => decide ((s : Int) ∈ mr)),eBlk ny 89 [.slice (some ⟨ge,0,none⟩) N N],eBlk ge 23 vs,eBlk w.heap.size 25 [.slice A1 al.length c1,.int .i64 N,.slice A2 mr.length c2,.slice A3 ed.length c3]] wx))
 case first =>
  have S1 := Lib.hid S0.out.drew
  refine wp_region_held_drew (S := (fun V => Sep w.heap.size w [eBlk w.heap.size 25 [.slice A1 al.length c1,.int .i64 N,.slice A2 mr.length c2,.slice A3 ed.length c3]] V)) (by kernel_rfl) ?_ (fun hHeld => ?_)
  · exact S1.out.pick [0] (by decide)
  generalize hwz : W.drew = w1 at *
  clear hwz
  refine tkH 0 rfl (v := ?_) (by kernel_rfl) ?_ hHeld ?_
  rotate_left
  · intro V hSw
    have b0 := ckC hSw 0 rfl 0 rfl
    have b1 := ckC hSw 0 rfl 1 rfl
    have b2 := ckC hSw 0 rfl 2 rfl
    have b3 := ckC hSw 0 rfl 3 rfl
    clear hSw
    first | (go_simp; done) | (go_simp; with_reducible rfl)
  try simp only [sx]
  refine tkH 2 rfl (v := ?_) (by kernel_rfl) ?_ hHeld ?_
  rotate_left
  · intro V hSw
    have b0 := ckC hSw 0 rfl 0 rfl
    have b1 := ckC hSw 0 rfl 1 rfl
    have b2 := ckC hSw 0 rfl 2 rfl
    have b3 := ckC hSw 0 rfl 3 rfl
    clear hSw
    first | (go_simp; done) | (go_simp; with_reducible rfl)
  try simp only [sx]
  refine wpAnyH_ready (rs := [1,4,5]) (by kernel_rfl) (by simp) ?_
  refine AllReadyH.cons rfl (fun K hK => ?_) (AllReadyH.cons rfl (fun K hK => ?_) (AllReadyH.cons rfl (fun K hK => ?_) AllReadyH.nil))
  · skip
    go_simp
    refine (marks_c ⟨al,N,mr,ed⟩ ⟨A1,c1,A2,c2,A3,c3⟩ w1 HM.out (Int.natCast_nonneg _) hn (HA.out.below S1.out.below)).mono ?_
    rintro e w2 ⟨gm,rfl,T⟩
    have S2 : Hid (Sep w.heap.size w [eBlk gm 4 (mkB N fun s => decide ((s : Int) ∈ mr)),eBlk w.heap.size 25 [.slice A1 al.length c1,.int .i64 N,.slice A2 mr.length c2,.slice A3 ed.length c3]] w2) := S1.out.news T.out
    clear T
    refine hK.out _ _ ?_ (fun hHeld => ?_)
    · exact S2.out.pick [1] (by decide)
    clear hK K
    try simp only [sx]
    refine wpAnyH_ready (rs := [3,4,5]) (by kernel_rfl) (by simp) ?_
    refine AllReadyH.cons rfl (fun K hK => ?_) (AllReadyH.cons rfl (fun K hK => ?_) (AllReadyH.cons rfl (fun K hK => ?_) AllReadyH.nil))
    · skip
      go_simp
      refine (edges_c ⟨al,N,mr,ed⟩ ⟨A1,c1,A2,c2,A3,c3⟩ w2 HR.out HC.out (HA.out.below S2.out.below)).mono ?_
      rintro e w3 ⟨ge,vs,rfl,T,HV0⟩
      have S3 : Hid (Sep w.heap.size w [eBlk ge 23 vs,eBlk gm 4 (mkB N fun s => decide ((s : Int) ∈ mr)),eBlk w.heap.size 25 [.slice A1 al.length c1,.int .i64 N,.slice A2 mr.length c2,.slice A3 ed.length c3]] w3) := S2.out.news T.out
      have HV := Lib.hid HV0.out
      clear T HV0
      refine hK.out _ _ ?_ (fun hHeld => ?_)
      · exact S3.out.pick [2] (by decide)
      clear hK K
      try simp only [sx]
      refine wpAnyH_ready (rs := [4,5]) (by kernel_rfl) (by simp) ?_
      refine AllReadyH.cons rfl (fun K hK => ?_) (AllReadyH.cons rfl (fun K hK => ?_) AllReadyH.nil)
      · skip
        go_simp
        obtain ⟨nx,hnx⟩ : ∃ n,n = w3.heap.size := ⟨_,rfl⟩
        obtain ⟨w4,hw4⟩ : ∃ v,v = w3.alloc (.cells #[.slice none 0 0] 82) := ⟨_,rfl⟩
        rw [← hw4,← hnx]
        have S4 := ckA S3.out hw4 hnx
        skip
        clear hw4 hnx
        refine hK.out _ _ ?_ (fun hHeld => ?_)
        · exact S4.out.pick [3] (by decide)
        clear hK K
        try simp only [sx]
        refine rdH 5 rfl fun K hK => ?_
        go_simp
        obtain ⟨ny,hny⟩ : ∃ n,n = w4.heap.size := ⟨_,rfl⟩
        obtain ⟨w5,hw5⟩ : ∃ v,v = w4.alloc (.cells #[.slice none 0 0] 89) := ⟨_,rfl⟩
        rw [← hw5,← hny]
        have S5 := ckA S4.out hw5 hny
        skip
        clear hw5 hny
        refine hK.out _ _ ?_ (fun hHeld => ?_)
        · exact S5.out.pick [4] (by decide)
        clear hK K
        try simp only [sx]
        refine rdH 6 rfl fun K hK => ?_
        have sc := ckC S5.out 1 rfl 0 rfl
        have sf := BlkAt.free (S5.out.get 1 rfl) 0
        go_simp
        obtain ⟨w6,hw6⟩ : ∃ v,v = w5.setCell ⟨nx,0,none⟩ (.slice (some ⟨gm,0,none⟩) N N) := ⟨_,rfl⟩
        rw [← hw6]
        have S6 := ckS S5.out hw6 1 rfl
        clear hw6 sc sf
        refine hK.out _ _ ?_ (fun hHeld => ?_)
        · exact S6.out.pick [4] (by decide)
        clear hK K
        try simp only [sx]
        refine rdH 7 rfl fun K hK => ?_
        have sc := ckC S6.out 0 rfl 0 rfl
        have sf := BlkAt.free (S6.out.get 0 rfl) 0
        go_simp
        obtain ⟨w7,hw7⟩ : ∃ v,v = w6.setCell ⟨ny,0,none⟩ (.slice (some ⟨ge,0,none⟩) N N) := ⟨_,rfl⟩
        rw [← hw7]
        have S7 := ckS S6.out hw7 0 rfl
        clear hw7 sc sf
        refine hK.out _ _ ?_ (fun hHeld => ?_)
        · exact S7.out.pick [4] (by decide)
        clear hK K
        try simp only [sx]
        refine wpAnyH_done (by kernel_rfl) ?_ _
        go_wp2_with fail
        go_meet
        exact ⟨nx,ny,gm,ge,vs,rfl,rfl,HV.out,S7.out.pick [1,3,0,2,4] (by decide)⟩
      · skip
        go_simp
        obtain ⟨ny,hny⟩ : ∃ n,n = w3.heap.size := ⟨_,rfl⟩
        obtain ⟨w8,hw8⟩ : ∃ v,v = w3.alloc (.cells #[.slice none 0 0] 89) := ⟨_,rfl⟩
        rw [← hw8,← hny]
        have S8 := ckA S3.out hw8 hny
        skip
        clear hw8 hny
        refine hK.out _ _ ?_ (fun hHeld => ?_)
        · exact S8.out.pick [3] (by decide)
        clear hK K
        try simp only [sx]
        refine rdH 4 rfl fun K hK => ?_
        go_simp
        obtain ⟨nx,hnx⟩ : ∃ n,n = w8.heap.size := ⟨_,rfl⟩
        obtain ⟨w9,hw9⟩ : ∃ v,v = w8.alloc (.cells #[.slice none 0 0] 82) := ⟨_,rfl⟩
        rw [← hw9,← hnx]
        have S9 := ckA S8.out hw9 hnx
        skip
        clear hw9 hnx
        refine hK.out _ _ ?_ (fun hHeld => ?_)
        · exact S9.out.pick [4] (by decide)
        clear hK K
        try simp only [sx]
        refine rdH 6 rfl fun K hK => ?_
        have sc := ckC S9.out 0 rfl 0 rfl
        have sf := BlkAt.free (S9.out.get 0 rfl) 0
        go_simp
        obtain ⟨w10,hw10⟩ : ∃ v,v = w9.setCell ⟨nx,0,none⟩ (.slice (some ⟨gm,0,none⟩) N N) := ⟨_,rfl⟩
        rw [← hw10]
        have S10 := ckS S9.out hw10 0 rfl
        clear hw10 sc sf
        refine hK.out _ _ ?_ (fun hHeld => ?_)
        · exact S10.out.pick [4] (by decide)
        clear hK K
        try simp only [sx]
        refine rdH 7 rfl fun K hK => ?_
        have sc := ckC S10.out 1 rfl 0 rfl
        have sf := BlkAt.free (S10.out.get 1 rfl) 0
        go_simp
        obtain ⟨w11,hw11⟩ : ∃ v,v = w10.setCell ⟨ny,0,none⟩ (.slice (some ⟨ge,0,none⟩) N N) := ⟨_,rfl⟩
        rw [← hw11]
        have S11 := ckS S10.out hw11 1 rfl
        clear hw11 sc sf
        refine hK.out _ _ ?_ (fun hHeld => ?_)
        · exact S11.out.pick [4] (by decide)
        clear hK K
        try simp only [sx]
        refine wpAnyH_done (by kernel_rfl) ?_ _
        go_wp2_with fail
        go_meet
        exact ⟨nx,ny,gm,ge,vs,rfl,rfl,HV.out,S11.out.pick [0,3,1,2,4] (by decide)⟩
    · skip
      go_simp
      obtain ⟨nx,hnx⟩ : ∃ n,n = w2.heap.size := ⟨_,rfl⟩
      obtain ⟨w12,hw12⟩ : ∃ v,v = w2.alloc (.cells #[.slice none 0 0] 82) := ⟨_,rfl⟩
      rw [← hw12,← hnx]
      have S12 := ckA S2.out hw12 hnx
      skip
      clear hw12 hnx
      refine hK.out _ _ ?_ (fun hHeld => ?_)
      · exact S12.out.pick [2] (by decide)
      clear hK K
      try simp only [sx]
      refine wpAnyH_ready (rs := [3,5]) (by kernel_rfl) (by simp) ?_
      refine AllReadyH.cons rfl (fun K hK => ?_) (AllReadyH.cons rfl (fun K hK => ?_) AllReadyH.nil)
      · skip
        go_simp
        refine (edges_c ⟨al,N,mr,ed⟩ ⟨A1,c1,A2,c2,A3,c3⟩ w12 HR.out HC.out (HA.out.below S12.out.below)).mono ?_
        rintro e w13 ⟨ge,vs,rfl,T,HV0⟩
        have S13 : Hid (Sep w.heap.size w [eBlk ge 23 vs,eBlk nx 82 [.slice none 0 0],eBlk gm 4 (mkB N fun s => decide ((s : Int) ∈ mr)),eBlk w.heap.size 25 [.slice A1 al.length c1,.int .i64 N,.slice A2 mr.length c2,.slice A3 ed.length c3]] w13) := S12.out.news T.out
        have HV := Lib.hid HV0.out
        clear T HV0
        refine hK.out _ _ ?_ (fun hHeld => ?_)
        · exact S13.out.pick [3] (by decide)
        clear hK K
        try simp only [sx]
        refine rdH 5 rfl fun K hK => ?_
        go_simp
        obtain ⟨ny,hny⟩ : ∃ n,n = w13.heap.size := ⟨_,rfl⟩
        obtain ⟨w14,hw14⟩ : ∃ v,v = w13.alloc (.cells #[.slice none 0 0] 89) := ⟨_,rfl⟩
        rw [← hw14,← hny]
        have S14 := ckA S13.out hw14 hny
        skip
        clear hw14 hny
        refine hK.out _ _ ?_ (fun hHeld => ?_)
        · exact S14.out.pick [4] (by decide)
        clear hK K
        try simp only [sx]
        refine rdH 6 rfl fun K hK => ?_
        have sc := ckC S14.out 2 rfl 0 rfl
        have sf := BlkAt.free (S14.out.get 2 rfl) 0
        go_simp
        obtain ⟨w15,hw15⟩ : ∃ v,v = w14.setCell ⟨nx,0,none⟩ (.slice (some ⟨gm,0,none⟩) N N) := ⟨_,rfl⟩
        rw [← hw15]
        have S15 := ckS S14.out hw15 2 rfl
        clear hw15 sc sf
        refine hK.out _ _ ?_ (fun hHeld => ?_)
        · exact S15.out.pick [4] (by decide)
        clear hK K
        try simp only [sx]
        refine rdH 7 rfl fun K hK => ?_
        have sc := ckC S15.out 0 rfl 0 rfl
        have sf := BlkAt.free (S15.out.get 0 rfl) 0
        go_simp
        obtain ⟨w16,hw16⟩ : ∃ v,v = w15.setCell ⟨ny,0,none⟩ (.slice (some ⟨ge,0,none⟩) N N) := ⟨_,rfl⟩
        rw [← hw16]
        have S16 := ckS S15.out hw16 0 rfl
        clear hw16 sc sf
        refine hK.out _ _ ?_ (fun hHeld => ?_)
        · exact S16.out.pick [4] (by decide)
        clear hK K
        try simp only [sx]
        refine wpAnyH_done (by kernel_rfl) ?_ _
        go_wp2_with fail
        go_meet
        exact ⟨nx,ny,gm,ge,vs,rfl,rfl,HV.out,S16.out.pick [2,3,0,1,4] (by decide)⟩
      · skip
        go_simp
        obtain ⟨ny,hny⟩ : ∃ n,n = w12.heap.size := ⟨_,rfl⟩
        obtain ⟨w17,hw17⟩ : ∃ v,v = w12.alloc (.cells #[.slice none 0 0] 89) := ⟨_,rfl⟩
        rw [← hw17,← hny]
        have S17 := ckA S12.out hw17 hny
        skip
        clear hw17 hny
        refine hK.out _ _ ?_ (fun hHeld => ?_)
        · exact S17.out.pick [3] (by decide)
        clear hK K
        try simp only [sx]
        refine rdH 3 rfl fun K hK => ?_
        go_simp
        refine (edges_c ⟨al,N,mr,ed⟩ ⟨A1,c1,A2,c2,A3,c3⟩ w17 HR.out HC.out (HA.out.below S17.out.below)).mono ?_
        rintro e w18 ⟨ge,vs,rfl,T,HV0⟩
        have S18 : Hid (Sep w.heap.size w [eBlk ge 23 vs,eBlk ny 89 [.slice none 0 0],eBlk nx 82 [.slice none 0 0],eBlk gm 4 (mkB N fun s => decide ((s : Int) ∈ mr)),eBlk w.heap.size 25 [.slice A1 al.length c1,.int .i64 N,.slice A2 mr.length c2,.slice A3 ed.length c3]] w18) := S17.out.news T.out
        have HV := Lib.hid HV0.out
        clear T HV0
        refine hK.out _ _ ?_ (fun hHeld => ?_)
        · exact S18.out.pick [4] (by decide)
        clear hK K
        try simp only [sx]
        refine rdH 6 rfl fun K hK => ?_
        have sc := ckC S18.out 2 rfl 0 rfl
        have sf := BlkAt.free (S18.out.get 2 rfl) 0
        go_simp
        obtain ⟨w19,hw19⟩ : ∃ v,v = w18.setCell ⟨nx,0,none⟩ (.slice (some ⟨gm,0,none⟩) N N) := ⟨_,rfl⟩
        rw [← hw19]
        have S19 := ckS S18.out hw19 2 rfl
        clear hw19 sc sf
        refine hK.out _ _ ?_ (fun hHeld => ?_)
        · exact S19.out.pick [4] (by decide)
        clear hK K
        try simp only [sx]
        refine rdH 7 rfl fun K hK => ?_
        have sc := ckC S19.out 1 rfl 0 rfl
        have sf := BlkAt.free (S19.out.get 1 rfl) 0
        go_simp
        obtain ⟨w20,hw20⟩ : ∃ v,v = w19.setCell ⟨ny,0,none⟩ (.slice (some ⟨ge,0,none⟩) N N) := ⟨_,rfl⟩
        rw [← hw20]
        have S20 := ckS S19.out hw20 1 rfl
        clear hw20 sc sf
        refine hK.out _ _ ?_ (fun hHeld => ?_)
        · exact S20.out.pick [4] (by decide)
        clear hK K
        try simp only [sx]
        refine wpAnyH_done (by kernel_rfl) ?_ _
        go_wp2_with fail
        go_meet
        exact ⟨nx,ny,gm,ge,vs,rfl,rfl,HV.out,S20.out.pick [2,3,1,0,4] (by decide)⟩
    · skip
      go_simp
      obtain ⟨ny,hny⟩ : ∃ n,n = w2.heap.size := ⟨_,rfl⟩
      obtain ⟨w21,hw21⟩ : ∃ v,v = w2.alloc (.cells #[.slice none 0 0] 89) := ⟨_,rfl⟩
      rw [← hw21,← hny]
      have S21 := ckA S2.out hw21 hny
      skip
      clear hw21 hny
      refine hK.out _ _ ?_ (fun hHeld => ?_)
      · exact S21.out.pick [2] (by decide)
      clear hK K
      try simp only [sx]
      refine wpAnyH_ready (rs := [3,4]) (by kernel_rfl) (by simp) ?_
      refine AllReadyH.cons rfl (fun K hK => ?_) (AllReadyH.cons rfl (fun K hK => ?_) AllReadyH.nil)
      · skip
        go_simp
        refine (edges_c ⟨al,N,mr,ed⟩ ⟨A1,c1,A2,c2,A3,c3⟩ w21 HR.out HC.out (HA.out.below S21.out.below)).mono ?_
        rintro e w22 ⟨ge,vs,rfl,T,HV0⟩
        have S22 : Hid (Sep w.heap.size w [eBlk ge 23 vs,eBlk ny 89 [.slice none 0 0],eBlk gm 4 (mkB N fun s => decide ((s : Int) ∈ mr)),eBlk w.heap.size 25 [.slice A1 al.length c1,.int .i64 N,.slice A2 mr.length c2,.slice A3 ed.length c3]] w22) := S21.out.news T.out
        have HV := Lib.hid HV0.out
        clear T HV0
        refine hK.out _ _ ?_ (fun hHeld => ?_)
        · exact S22.out.pick [3] (by decide)
        clear hK K
        try simp only [sx]
        refine rdH 4 rfl fun K hK => ?_
        go_simp
        obtain ⟨nx,hnx⟩ : ∃ n,n = w22.heap.size := ⟨_,rfl⟩
        obtain ⟨w23,hw23⟩ : ∃ v,v = w22.alloc (.cells #[.slice none 0 0] 82) := ⟨_,rfl⟩
        rw [← hw23,← hnx]
        have S23 := ckA S22.out hw23 hnx
        skip
        clear hw23 hnx
        refine hK.out _ _ ?_ (fun hHeld => ?_)
        · exact S23.out.pick [4] (by decide)
        clear hK K
        try simp only [sx]
        refine rdH 6 rfl fun K hK => ?_
        have sc := ckC S23.out 0 rfl 0 rfl
        have sf := BlkAt.free (S23.out.get 0 rfl) 0
        go_simp
        obtain ⟨w24,hw24⟩ : ∃ v,v = w23.setCell ⟨nx,0,none⟩ (.slice (some ⟨gm,0,none⟩) N N) := ⟨_,rfl⟩
        rw [← hw24]
        have S24 := ckS S23.out hw24 0 rfl
        clear hw24 sc sf
        refine hK.out _ _ ?_ (fun hHeld => ?_)
        · exact S24.out.pick [4] (by decide)
        clear hK K
        try simp only [sx]
        refine rdH 7 rfl fun K hK => ?_
        have sc := ckC S24.out 2 rfl 0 rfl
        have sf := BlkAt.free (S24.out.get 2 rfl) 0
        go_simp
        obtain ⟨w25,hw25⟩ : ∃ v,v = w24.setCell ⟨ny,0,none⟩ (.slice (some ⟨ge,0,none⟩) N N) := ⟨_,rfl⟩
        rw [← hw25]
        have S25 := ckS S24.out hw25 2 rfl
        clear hw25 sc sf
        refine hK.out _ _ ?_ (fun hHeld => ?_)
        · exact S25.out.pick [4] (by decide)
        clear hK K
        try simp only [sx]
        refine wpAnyH_done (by kernel_rfl) ?_ _
        go_wp2_with fail
        go_meet
        exact ⟨nx,ny,gm,ge,vs,rfl,rfl,HV.out,S25.out.pick [0,3,2,1,4] (by decide)⟩
      · skip
        go_simp
        obtain ⟨nx,hnx⟩ : ∃ n,n = w21.heap.size := ⟨_,rfl⟩
        obtain ⟨w26,hw26⟩ : ∃ v,v = w21.alloc (.cells #[.slice none 0 0] 82) := ⟨_,rfl⟩
        rw [← hw26,← hnx]
        have S26 := ckA S21.out hw26 hnx
        skip
        clear hw26 hnx
        refine hK.out _ _ ?_ (fun hHeld => ?_)
        · exact S26.out.pick [3] (by decide)
        clear hK K
        try simp only [sx]
        refine rdH 3 rfl fun K hK => ?_
        go_simp
        refine (edges_c ⟨al,N,mr,ed⟩ ⟨A1,c1,A2,c2,A3,c3⟩ w26 HR.out HC.out (HA.out.below S26.out.below)).mono ?_
        rintro e w27 ⟨ge,vs,rfl,T,HV0⟩
        have S27 : Hid (Sep w.heap.size w [eBlk ge 23 vs,eBlk nx 82 [.slice none 0 0],eBlk ny 89 [.slice none 0 0],eBlk gm 4 (mkB N fun s => decide ((s : Int) ∈ mr)),eBlk w.heap.size 25 [.slice A1 al.length c1,.int .i64 N,.slice A2 mr.length c2,.slice A3 ed.length c3]] w27) := S26.out.news T.out
        have HV := Lib.hid HV0.out
        clear T HV0
        refine hK.out _ _ ?_ (fun hHeld => ?_)
        · exact S27.out.pick [4] (by decide)
        clear hK K
        try simp only [sx]
        refine rdH 6 rfl fun K hK => ?_
        have sc := ckC S27.out 1 rfl 0 rfl
        have sf := BlkAt.free (S27.out.get 1 rfl) 0
        go_simp
        obtain ⟨w28,hw28⟩ : ∃ v,v = w27.setCell ⟨nx,0,none⟩ (.slice (some ⟨gm,0,none⟩) N N) := ⟨_,rfl⟩
        rw [← hw28]
        have S28 := ckS S27.out hw28 1 rfl
        clear hw28 sc sf
        refine hK.out _ _ ?_ (fun hHeld => ?_)
        · exact S28.out.pick [4] (by decide)
        clear hK K
        try simp only [sx]
        refine rdH 7 rfl fun K hK => ?_
        have sc := ckC S28.out 2 rfl 0 rfl
        have sf := BlkAt.free (S28.out.get 2 rfl) 0
        go_simp
        obtain ⟨w29,hw29⟩ : ∃ v,v = w28.setCell ⟨ny,0,none⟩ (.slice (some ⟨ge,0,none⟩) N N) := ⟨_,rfl⟩
        rw [← hw29]
        have S29 := ckS S28.out hw29 2 rfl
        clear hw29 sc sf
        refine hK.out _ _ ?_ (fun hHeld => ?_)
        · exact S29.out.pick [4] (by decide)
        clear hK K
        try simp only [sx]
        refine wpAnyH_done (by kernel_rfl) ?_ _
        go_wp2_with fail
        go_meet
        exact ⟨nx,ny,gm,ge,vs,rfl,rfl,HV.out,S29.out.pick [1,3,2,0,4] (by decide)⟩
  · skip
    go_simp
    obtain ⟨nx,hnx⟩ : ∃ n,n = w1.heap.size := ⟨_,rfl⟩
    obtain ⟨w30,hw30⟩ : ∃ v,v = w1.alloc (.cells #[.slice none 0 0] 82) := ⟨_,rfl⟩
    rw [← hw30,← hnx]
    have S30 := ckA S1.out hw30 hnx
    skip
    clear hw30 hnx
    refine hK.out _ _ ?_ (fun hHeld => ?_)
    · exact S30.out.pick [1] (by decide)
    clear hK K
    try simp only [sx]
    refine wpAnyH_ready (rs := [1,5]) (by kernel_rfl) (by simp) ?_
    refine AllReadyH.cons rfl (fun K hK => ?_) (AllReadyH.cons rfl (fun K hK => ?_) AllReadyH.nil)
    · skip
      go_simp
      refine (marks_c ⟨al,N,mr,ed⟩ ⟨A1,c1,A2,c2,A3,c3⟩ w30 HM.out (Int.natCast_nonneg _) hn (HA.out.below S30.out.below)).mono ?_
      rintro e w31 ⟨gm,rfl,T⟩
      have S31 : Hid (Sep w.heap.size w [eBlk gm 4 (mkB N fun s => decide ((s : Int) ∈ mr)),eBlk nx 82 [.slice none 0 0],eBlk w.heap.size 25 [.slice A1 al.length c1,.int .i64 N,.slice A2 mr.length c2,.slice A3 ed.length c3]] w31) := S30.out.news T.out
      clear T
      refine hK.out _ _ ?_ (fun hHeld => ?_)
      · exact S31.out.pick [2] (by decide)
      clear hK K
      try simp only [sx]
      refine wpAnyH_ready (rs := [3,5]) (by kernel_rfl) (by simp) ?_
      refine AllReadyH.cons rfl (fun K hK => ?_) (AllReadyH.cons rfl (fun K hK => ?_) AllReadyH.nil)
      · skip
        go_simp
        refine (edges_c ⟨al,N,mr,ed⟩ ⟨A1,c1,A2,c2,A3,c3⟩ w31 HR.out HC.out (HA.out.below S31.out.below)).mono ?_
        rintro e w32 ⟨ge,vs,rfl,T,HV0⟩
        have S32 : Hid (Sep w.heap.size w [eBlk ge 23 vs,eBlk gm 4 (mkB N fun s => decide ((s : Int) ∈ mr)),eBlk nx 82 [.slice none 0 0],eBlk w.heap.size 25 [.slice A1 al.length c1,.int .i64 N,.slice A2 mr.length c2,.slice A3 ed.length c3]] w32) := S31.out.news T.out
        have HV := Lib.hid HV0.out
        clear T HV0
        refine hK.out _ _ ?_ (fun hHeld => ?_)
        · exact S32.out.pick [3] (by decide)
        clear hK K
        try simp only [sx]
        refine rdH 5 rfl fun K hK => ?_
        go_simp
        obtain ⟨ny,hny⟩ : ∃ n,n = w32.heap.size := ⟨_,rfl⟩
        obtain ⟨w33,hw33⟩ : ∃ v,v = w32.alloc (.cells #[.slice none 0 0] 89) := ⟨_,rfl⟩
        rw [← hw33,← hny]
        have S33 := ckA S32.out hw33 hny
        skip
        clear hw33 hny
        refine hK.out _ _ ?_ (fun hHeld => ?_)
        · exact S33.out.pick [4] (by decide)
        clear hK K
        try simp only [sx]
        refine rdH 6 rfl fun K hK => ?_
        have sc := ckC S33.out 3 rfl 0 rfl
        have sf := BlkAt.free (S33.out.get 3 rfl) 0
        go_simp
        obtain ⟨w34,hw34⟩ : ∃ v,v = w33.setCell ⟨nx,0,none⟩ (.slice (some ⟨gm,0,none⟩) N N) := ⟨_,rfl⟩
        rw [← hw34]
        have S34 := ckS S33.out hw34 3 rfl
        clear hw34 sc sf
        refine hK.out _ _ ?_ (fun hHeld => ?_)
        · exact S34.out.pick [4] (by decide)
        clear hK K
        try simp only [sx]
        refine rdH 7 rfl fun K hK => ?_
        have sc := ckC S34.out 0 rfl 0 rfl
        have sf := BlkAt.free (S34.out.get 0 rfl) 0
        go_simp
        obtain ⟨w35,hw35⟩ : ∃ v,v = w34.setCell ⟨ny,0,none⟩ (.slice (some ⟨ge,0,none⟩) N N) := ⟨_,rfl⟩
        rw [← hw35]
        have S35 := ckS S34.out hw35 0 rfl
        clear hw35 sc sf
        refine hK.out _ _ ?_ (fun hHeld => ?_)
        · exact S35.out.pick [4] (by decide)
        clear hK K
        try simp only [sx]
        refine wpAnyH_done (by kernel_rfl) ?_ _
        go_wp2_with fail
        go_meet
        exact ⟨nx,ny,gm,ge,vs,rfl,rfl,HV.out,S35.out.pick [3,2,0,1,4] (by decide)⟩
      · skip
        go_simp
        obtain ⟨ny,hny⟩ : ∃ n,n = w31.heap.size := ⟨_,rfl⟩
        obtain ⟨w36,hw36⟩ : ∃ v,v = w31.alloc (.cells #[.slice none 0 0] 89) := ⟨_,rfl⟩
        rw [← hw36,← hny]
        have S36 := ckA S31.out hw36 hny
        skip
        clear hw36 hny
        refine hK.out _ _ ?_ (fun hHeld => ?_)
        · exact S36.out.pick [3] (by decide)
        clear hK K
        try simp only [sx]
        refine rdH 3 rfl fun K hK => ?_
        go_simp
        refine (edges_c ⟨al,N,mr,ed⟩ ⟨A1,c1,A2,c2,A3,c3⟩ w36 HR.out HC.out (HA.out.below S36.out.below)).mono ?_
        rintro e w37 ⟨ge,vs,rfl,T,HV0⟩
        have S37 : Hid (Sep w.heap.size w [eBlk ge 23 vs,eBlk ny 89 [.slice none 0 0],eBlk gm 4 (mkB N fun s => decide ((s : Int) ∈ mr)),eBlk nx 82 [.slice none 0 0],eBlk w.heap.size 25 [.slice A1 al.length c1,.int .i64 N,.slice A2 mr.length c2,.slice A3 ed.length c3]] w37) := S36.out.news T.out
        have HV := Lib.hid HV0.out
        clear T HV0
        refine hK.out _ _ ?_ (fun hHeld => ?_)
        · exact S37.out.pick [4] (by decide)
        clear hK K
        try simp only [sx]
        refine rdH 6 rfl fun K hK => ?_
        have sc := ckC S37.out 3 rfl 0 rfl
        have sf := BlkAt.free (S37.out.get 3 rfl) 0
        go_simp
        obtain ⟨w38,hw38⟩ : ∃ v,v = w37.setCell ⟨nx,0,none⟩ (.slice (some ⟨gm,0,none⟩) N N) := ⟨_,rfl⟩
        rw [← hw38]
        have S38 := ckS S37.out hw38 3 rfl
        clear hw38 sc sf
        refine hK.out _ _ ?_ (fun hHeld => ?_)
        · exact S38.out.pick [4] (by decide)
        clear hK K
        try simp only [sx]
        refine rdH 7 rfl fun K hK => ?_
        have sc := ckC S38.out 1 rfl 0 rfl
        have sf := BlkAt.free (S38.out.get 1 rfl) 0
        go_simp
        obtain ⟨w39,hw39⟩ : ∃ v,v = w38.setCell ⟨ny,0,none⟩ (.slice (some ⟨ge,0,none⟩) N N) := ⟨_,rfl⟩
        rw [← hw39]
        have S39 := ckS S38.out hw39 1 rfl
        clear hw39 sc sf
        refine hK.out _ _ ?_ (fun hHeld => ?_)
        · exact S39.out.pick [4] (by decide)
        clear hK K
        try simp only [sx]
        refine wpAnyH_done (by kernel_rfl) ?_ _
        go_wp2_with fail
        go_meet
        exact ⟨nx,ny,gm,ge,vs,rfl,rfl,HV.out,S39.out.pick [3,2,1,0,4] (by decide)⟩
    · skip
      go_simp
      obtain ⟨ny,hny⟩ : ∃ n,n = w30.heap.size := ⟨_,rfl⟩
      obtain ⟨w40,hw40⟩ : ∃ v,v = w30.alloc (.cells #[.slice none 0 0] 89) := ⟨_,rfl⟩
      rw [← hw40,← hny]
      have S40 := ckA S30.out hw40 hny
      skip
      clear hw40 hny
      refine hK.out _ _ ?_ (fun hHeld => ?_)
      · exact S40.out.pick [2] (by decide)
      clear hK K
      try simp only [sx]
      refine rdH 1 rfl fun K hK => ?_
      go_simp
      refine (marks_c ⟨al,N,mr,ed⟩ ⟨A1,c1,A2,c2,A3,c3⟩ w40 HM.out (Int.natCast_nonneg _) hn (HA.out.below S40.out.below)).mono ?_
      rintro e w41 ⟨gm,rfl,T⟩
      have S41 : Hid (Sep w.heap.size w [eBlk gm 4 (mkB N fun s => decide ((s : Int) ∈ mr)),eBlk ny 89 [.slice none 0 0],eBlk nx 82 [.slice none 0 0],eBlk w.heap.size 25 [.slice A1 al.length c1,.int .i64 N,.slice A2 mr.length c2,.slice A3 ed.length c3]] w41) := S40.out.news T.out
      clear T
      refine hK.out _ _ ?_ (fun hHeld => ?_)
      · exact S41.out.pick [3] (by decide)
      clear hK K
      try simp only [sx]
      refine rdH 3 rfl fun K hK => ?_
      go_simp
      refine (edges_c ⟨al,N,mr,ed⟩ ⟨A1,c1,A2,c2,A3,c3⟩ w41 HR.out HC.out (HA.out.below S41.out.below)).mono ?_
      rintro e w42 ⟨ge,vs,rfl,T,HV0⟩
      have S42 : Hid (Sep w.heap.size w [eBlk ge 23 vs,eBlk gm 4 (mkB N fun s => decide ((s : Int) ∈ mr)),eBlk ny 89 [.slice none 0 0],eBlk nx 82 [.slice none 0 0],eBlk w.heap.size 25 [.slice A1 al.length c1,.int .i64 N,.slice A2 mr.length c2,.slice A3 ed.length c3]] w42) := S41.out.news T.out
      have HV := Lib.hid HV0.out
      clear T HV0
      refine hK.out _ _ ?_ (fun hHeld => ?_)
      · exact S42.out.pick [4] (by decide)
      clear hK K
      try simp only [sx]
      refine rdH 6 rfl fun K hK => ?_
      have sc := ckC S42.out 3 rfl 0 rfl
      have sf := BlkAt.free (S42.out.get 3 rfl) 0
      go_simp
      obtain ⟨w43,hw43⟩ : ∃ v,v = w42.setCell ⟨nx,0,none⟩ (.slice (some ⟨gm,0,none⟩) N N) := ⟨_,rfl⟩
      rw [← hw43]
      have S43 := ckS S42.out hw43 3 rfl
      clear hw43 sc sf
      refine hK.out _ _ ?_ (fun hHeld => ?_)
      · exact S43.out.pick [4] (by decide)
      clear hK K
      try simp only [sx]
      refine rdH 7 rfl fun K hK => ?_
      have sc := ckC S43.out 2 rfl 0 rfl
      have sf := BlkAt.free (S43.out.get 2 rfl) 0
      go_simp
      obtain ⟨w44,hw44⟩ : ∃ v,v = w43.setCell ⟨ny,0,none⟩ (.slice (some ⟨ge,0,none⟩) N N) := ⟨_,rfl⟩
      rw [← hw44]
      have S44 := ckS S43.out hw44 2 rfl
      clear hw44 sc sf
      refine hK.out _ _ ?_ (fun hHeld => ?_)
      · exact S44.out.pick [4] (by decide)
      clear hK K
      try simp only [sx]
      refine wpAnyH_done (by kernel_rfl) ?_ _
      go_wp2_with fail
      go_meet
      exact ⟨nx,ny,gm,ge,vs,rfl,rfl,HV.out,S44.out.pick [3,1,2,0,4] (by decide)⟩
  · skip
    go_simp
    obtain ⟨ny,hny⟩ : ∃ n,n = w1.heap.size := ⟨_,rfl⟩
    obtain ⟨w45,hw45⟩ : ∃ v,v = w1.alloc (.cells #[.slice none 0 0] 89) := ⟨_,rfl⟩
    rw [← hw45,← hny]
    have S45 := ckA S1.out hw45 hny
    skip
    clear hw45 hny
    refine hK.out _ _ ?_ (fun hHeld => ?_)
    · exact S45.out.pick [1] (by decide)
    clear hK K
    try simp only [sx]
    refine wpAnyH_ready (rs := [1,4]) (by kernel_rfl) (by simp) ?_
    refine AllReadyH.cons rfl (fun K hK => ?_) (AllReadyH.cons rfl (fun K hK => ?_) AllReadyH.nil)
    · skip
      go_simp
      refine (marks_c ⟨al,N,mr,ed⟩ ⟨A1,c1,A2,c2,A3,c3⟩ w45 HM.out (Int.natCast_nonneg _) hn (HA.out.below S45.out.below)).mono ?_
      rintro e w46 ⟨gm,rfl,T⟩
      have S46 : Hid (Sep w.heap.size w [eBlk gm 4 (mkB N fun s => decide ((s : Int) ∈ mr)),eBlk ny 89 [.slice none 0 0],eBlk w.heap.size 25 [.slice A1 al.length c1,.int .i64 N,.slice A2 mr.length c2,.slice A3 ed.length c3]] w46) := S45.out.news T.out
      clear T
      refine hK.out _ _ ?_ (fun hHeld => ?_)
      · exact S46.out.pick [2] (by decide)
      clear hK K
      try simp only [sx]
      refine wpAnyH_ready (rs := [3,4]) (by kernel_rfl) (by simp) ?_
      refine AllReadyH.cons rfl (fun K hK => ?_) (AllReadyH.cons rfl (fun K hK => ?_) AllReadyH.nil)
      · skip
        go_simp
        refine (edges_c ⟨al,N,mr,ed⟩ ⟨A1,c1,A2,c2,A3,c3⟩ w46 HR.out HC.out (HA.out.below S46.out.below)).mono ?_
        rintro e w47 ⟨ge,vs,rfl,T,HV0⟩
        have S47 : Hid (Sep w.heap.size w [eBlk ge 23 vs,eBlk gm 4 (mkB N fun s => decide ((s : Int) ∈ mr)),eBlk ny 89 [.slice none 0 0],eBlk w.heap.size 25 [.slice A1 al.length c1,.int .i64 N,.slice A2 mr.length c2,.slice A3 ed.length c3]] w47) := S46.out.news T.out
        have HV := Lib.hid HV0.out
        clear T HV0
        refine hK.out _ _ ?_ (fun hHeld => ?_)
        · exact S47.out.pick [3] (by decide)
        clear hK K
        try simp only [sx]
        refine rdH 4 rfl fun K hK => ?_
        go_simp
        obtain ⟨nx,hnx⟩ : ∃ n,n = w47.heap.size := ⟨_,rfl⟩
        obtain ⟨w48,hw48⟩ : ∃ v,v = w47.alloc (.cells #[.slice none 0 0] 82) := ⟨_,rfl⟩
        rw [← hw48,← hnx]
        have S48 := ckA S47.out hw48 hnx
        skip
        clear hw48 hnx
        refine hK.out _ _ ?_ (fun hHeld => ?_)
        · exact S48.out.pick [4] (by decide)
        clear hK K
        try simp only [sx]
        refine rdH 6 rfl fun K hK => ?_
        have sc := ckC S48.out 0 rfl 0 rfl
        have sf := BlkAt.free (S48.out.get 0 rfl) 0
        go_simp
        obtain ⟨w49,hw49⟩ : ∃ v,v = w48.setCell ⟨nx,0,none⟩ (.slice (some ⟨gm,0,none⟩) N N) := ⟨_,rfl⟩
        rw [← hw49]
        have S49 := ckS S48.out hw49 0 rfl
        clear hw49 sc sf
        refine hK.out _ _ ?_ (fun hHeld => ?_)
        · exact S49.out.pick [4] (by decide)
        clear hK K
        try simp only [sx]
        refine rdH 7 rfl fun K hK => ?_
        have sc := ckC S49.out 3 rfl 0 rfl
        have sf := BlkAt.free (S49.out.get 3 rfl) 0
        go_simp
        obtain ⟨w50,hw50⟩ : ∃ v,v = w49.setCell ⟨ny,0,none⟩ (.slice (some ⟨ge,0,none⟩) N N) := ⟨_,rfl⟩
        rw [← hw50]
        have S50 := ckS S49.out hw50 3 rfl
        clear hw50 sc sf
        refine hK.out _ _ ?_ (fun hHeld => ?_)
        · exact S50.out.pick [4] (by decide)
        clear hK K
        try simp only [sx]
        refine wpAnyH_done (by kernel_rfl) ?_ _
        go_wp2_with fail
        go_meet
        exact ⟨nx,ny,gm,ge,vs,rfl,rfl,HV.out,S50.out.pick [0,2,3,1,4] (by decide)⟩
      · skip
        go_simp
        obtain ⟨nx,hnx⟩ : ∃ n,n = w46.heap.size := ⟨_,rfl⟩
        obtain ⟨w51,hw51⟩ : ∃ v,v = w46.alloc (.cells #[.slice none 0 0] 82) := ⟨_,rfl⟩
        rw [← hw51,← hnx]
        have S51 := ckA S46.out hw51 hnx
        skip
        clear hw51 hnx
        refine hK.out _ _ ?_ (fun hHeld => ?_)
        · exact S51.out.pick [3] (by decide)
        clear hK K
        try simp only [sx]
        refine rdH 3 rfl fun K hK => ?_
        go_simp
        refine (edges_c ⟨al,N,mr,ed⟩ ⟨A1,c1,A2,c2,A3,c3⟩ w51 HR.out HC.out (HA.out.below S51.out.below)).mono ?_
        rintro e w52 ⟨ge,vs,rfl,T,HV0⟩
        have S52 : Hid (Sep w.heap.size w [eBlk ge 23 vs,eBlk nx 82 [.slice none 0 0],eBlk gm 4 (mkB N fun s => decide ((s : Int) ∈ mr)),eBlk ny 89 [.slice none 0 0],eBlk w.heap.size 25 [.slice A1 al.length c1,.int .i64 N,.slice A2 mr.length c2,.slice A3 ed.length c3]] w52) := S51.out.news T.out
        have HV := Lib.hid HV0.out
        clear T HV0
        refine hK.out _ _ ?_ (fun hHeld => ?_)
        · exact S52.out.pick [4] (by decide)
        clear hK K
        try simp only [sx]
        refine rdH 6 rfl fun K hK => ?_
        have sc := ckC S52.out 1 rfl 0 rfl
        have sf := BlkAt.free (S52.out.get 1 rfl) 0
        go_simp
        obtain ⟨w53,hw53⟩ : ∃ v,v = w52.setCell ⟨nx,0,none⟩ (.slice (some ⟨gm,0,none⟩) N N) := ⟨_,rfl⟩
        rw [← hw53]
        have S53 := ckS S52.out hw53 1 rfl
        clear hw53 sc sf
        refine hK.out _ _ ?_ (fun hHeld => ?_)
        · exact S53.out.pick [4] (by decide)
        clear hK K
        try simp only [sx]
        refine rdH 7 rfl fun K hK => ?_
        have sc := ckC S53.out 3 rfl 0 rfl
        have sf := BlkAt.free (S53.out.get 3 rfl) 0
        go_simp
        obtain ⟨w54,hw54⟩ : ∃ v,v = w53.setCell ⟨ny,0,none⟩ (.slice (some ⟨ge,0,none⟩) N N) := ⟨_,rfl⟩
        rw [← hw54]
        have S54 := ckS S53.out hw54 3 rfl
        clear hw54 sc sf
        refine hK.out _ _ ?_ (fun hHeld => ?_)
        · exact S54.out.pick [4] (by decide)
        clear hK K
        try simp only [sx]
        refine wpAnyH_done (by kernel_rfl) ?_ _
        go_wp2_with fail
        go_meet
        exact ⟨nx,ny,gm,ge,vs,rfl,rfl,HV.out,S54.out.pick [1,2,3,0,4] (by decide)⟩
    · skip
      go_simp
      obtain ⟨nx,hnx⟩ : ∃ n,n = w45.heap.size := ⟨_,rfl⟩
      obtain ⟨w55,hw55⟩ : ∃ v,v = w45.alloc (.cells #[.slice none 0 0] 82) := ⟨_,rfl⟩
      rw [← hw55,← hnx]
      have S55 := ckA S45.out hw55 hnx
      skip
      clear hw55 hnx
      refine hK.out _ _ ?_ (fun hHeld => ?_)
      · exact S55.out.pick [2] (by decide)
      clear hK K
      try simp only [sx]
      refine rdH 1 rfl fun K hK => ?_
      go_simp
      refine (marks_c ⟨al,N,mr,ed⟩ ⟨A1,c1,A2,c2,A3,c3⟩ w55 HM.out (Int.natCast_nonneg _) hn (HA.out.below S55.out.below)).mono ?_
      rintro e w56 ⟨gm,rfl,T⟩
      have S56 : Hid (Sep w.heap.size w [eBlk gm 4 (mkB N fun s => decide ((s : Int) ∈ mr)),eBlk nx 82 [.slice none 0 0],eBlk ny 89 [.slice none 0 0],eBlk w.heap.size 25 [.slice A1 al.length c1,.int .i64 N,.slice A2 mr.length c2,.slice A3 ed.length c3]] w56) := S55.out.news T.out
      clear T
      refine hK.out _ _ ?_ (fun hHeld => ?_)
      · exact S56.out.pick [3] (by decide)
      clear hK K
      try simp only [sx]
      refine rdH 3 rfl fun K hK => ?_
      go_simp
      refine (edges_c ⟨al,N,mr,ed⟩ ⟨A1,c1,A2,c2,A3,c3⟩ w56 HR.out HC.out (HA.out.below S56.out.below)).mono ?_
      rintro e w57 ⟨ge,vs,rfl,T,HV0⟩
      have S57 : Hid (Sep w.heap.size w [eBlk ge 23 vs,eBlk gm 4 (mkB N fun s => decide ((s : Int) ∈ mr)),eBlk nx 82 [.slice none 0 0],eBlk ny 89 [.slice none 0 0],eBlk w.heap.size 25 [.slice A1 al.length c1,.int .i64 N,.slice A2 mr.length c2,.slice A3 ed.length c3]] w57) := S56.out.news T.out
      have HV := Lib.hid HV0.out
      clear T HV0
      refine hK.out _ _ ?_ (fun hHeld => ?_)
      · exact S57.out.pick [4] (by decide)
      clear hK K
      try simp only [sx]
      refine rdH 6 rfl fun K hK => ?_
      have sc := ckC S57.out 2 rfl 0 rfl
      have sf := BlkAt.free (S57.out.get 2 rfl) 0
      go_simp
      obtain ⟨w58,hw58⟩ : ∃ v,v = w57.setCell ⟨nx,0,none⟩ (.slice (some ⟨gm,0,none⟩) N N) := ⟨_,rfl⟩
      rw [← hw58]
      have S58 := ckS S57.out hw58 2 rfl
      clear hw58 sc sf
      refine hK.out _ _ ?_ (fun hHeld => ?_)
      · exact S58.out.pick [4] (by decide)
      clear hK K
      try simp only [sx]
      refine rdH 7 rfl fun K hK => ?_
      have sc := ckC S58.out 3 rfl 0 rfl
      have sf := BlkAt.free (S58.out.get 3 rfl) 0
      go_simp
      obtain ⟨w59,hw59⟩ : ∃ v,v = w58.setCell ⟨ny,0,none⟩ (.slice (some ⟨ge,0,none⟩) N N) := ⟨_,rfl⟩
      rw [← hw59]
      have S59 := ckS S58.out hw59 3 rfl
      clear hw59 sc sf
      refine hK.out _ _ ?_ (fun hHeld => ?_)
      · exact S59.out.pick [4] (by decide)
      clear hK K
      try simp only [sx]
      refine wpAnyH_done (by kernel_rfl) ?_ _
      go_wp2_with fail
      go_meet
      exact ⟨nx,ny,gm,ge,vs,rfl,rfl,HV.out,S59.out.pick [2,1,3,0,4] (by decide)⟩
 case rest =>
  clear S0
  obtain ⟨nx,ny,gm,ge,vs,rfl,rfl,HV,S⟩ := hcut
  have HX0 := Lib.hid (HA.out.ed.below EdE.stays S.out.below)
  have b1 := ckC S.out 4 rfl 1 rfl
  go_wp2_with fail
  refine (refine_c N 60 #[.pointer (some ⟨nx,0,none⟩)] (fun args w => by rfl) (keyOne mr) wc (by omega) (fun V s hs hb => key1_c mr N s nx gm _ V hs ((BlkAt.below (S.out.get 0 rfl) hb (BlkAt.lt (S.out.get 0 rfl)))) ((BlkAt.below (S.out.get 1 rfl) hb (BlkAt.lt (S.out.get 1 rfl)))))).mono ?_
  rintro e w2 ⟨g,rfl,T⟩
  have S2 := Lib.hid (S.out.news T.out)
  obtain ⟨c,hc⟩ : ∃ c,c = numK ((List.range N).map (keyOne mr)) := ⟨_,rfl⟩
  obtain ⟨m,hm⟩ : ∃ m,m = cntK ((List.range N).map (keyOne mr)) := ⟨_,rfl⟩
  have M0 : Hid (Moore ⟨al,N,mr,ed⟩ c m) := by
   have hl : c.length = N := by rw [hc,numK_len]; simp
   refine Moore.first (by simpa using hl) (by rw [hc,hm]; exact numK_canon _) fun i j hi hj => ?_
   rw [hc,keys_ker (by omega) (by omega)]
   exact keyOne_eq
  rw [← hc] at S2
  rw [← hm]
  clear hc hm T b1 S
  go_wp2_with fail
  refine wp_world (fun W => ∃ b5,b5 = w2.heap.size ∧ Sep w.heap.size w [eBlk b5 22 [.slice (some ⟨g,0,none⟩) N N],eBlk g 3 (c.map (Value.int .i64)),eBlk ny 89 [.slice (some ⟨ge,0,none⟩) N N],eBlk ge 23 vs,eBlk w.heap.size 25 [.slice A1 al.length c1,.int .i64 N,.slice A2 mr.length c2,.slice A3 ed.length c3]] W) ⟨_,rfl,(S2.out.alloc' _ [_] rfl rfl).pick [0,1,4,5,6] (by decide)⟩ fun W S => ?_
  obtain ⟨b5,h5,S'⟩ := S
  rw [← h5]
  have S3 := Lib.hid S'
  clear S' h5 S2
  go_loopw [6] (fun v wr => ∃ (g : Nat) (c : List Int) (m : Nat),v = .int .i64 m ∧ m ≤ N ∧ Hid (Moore ⟨al,N,mr,ed⟩ c m) ∧ Hid (Sep w.heap.size w [eBlk b5 22 [.slice (some ⟨g,0,none⟩) N N],eBlk g 3 (c.map (Value.int .i64)),eBlk ny 89 [.slice (some ⟨ge,0,none⟩) N N],eBlk ge 23 vs,eBlk w.heap.size 25 [.slice A1 al.length c1,.int .i64 N,.slice A2 mr.length c2,.slice A3 ed.length c3]] wr)) (fun v _ => N + 1 - (intOf v).toNat)
  case atStart => exact ⟨g,c,m,rfl,by have := M0.out.can.le; have := M0.out.len; simp at this; omega,M0.out,S3.out⟩
  case round =>
   clear S3 M0
   obtain ⟨g,c,m,rfl,hm,M,S⟩ := hrel
   have b1 := ckC S.out 4 rfl 1 rfl
   have HL : Hid (c.length = N) := by have := M.out.len; simpa [Hid] using this
   have HCR : Hid (∀ x,x ∈ c → 0 ≤ x ∧ x < 4096) := fun x hx => by
    obtain ⟨i,hi,rfl⟩ := List.mem_iff_getElem.1 hx
    have := M.out.can.rg i _ (List.getElem?_eq_getElem hi)
    omega
   go_wp2_with fail
   refine (refine_c N 61 #[.pointer (some ⟨b5,0,none⟩),.pointer (some ⟨ny,0,none⟩)] (fun args w => by rfl) (keyTwo ⟨al,N,mr,ed⟩ c) wr (by omega) (fun V s hs hb => key2_c ⟨al,N,mr,ed⟩ c N s b5 g ny ge _ _ vs V HR.out rfl hs HL.out HCR.out
    (BlkAt.below (S.out.get 0 rfl) hb (BlkAt.lt (S.out.get 0 rfl))) (BlkAt.below (S.out.get 1 rfl) hb (BlkAt.lt (S.out.get 1 rfl))) (BlkAt.below (S.out.get 2 rfl) hb (BlkAt.lt (S.out.get 2 rfl))) (BlkAt.below (S.out.get 3 rfl) hb (BlkAt.lt (S.out.get 3 rfl))) (HV.out V ((HA.out.ed.below EdE.stays S.out.below).below EdE.stays hb)))).mono ?_
   rintro e w3 ⟨g',rfl,T⟩
   have S2 := Lib.hid (S.out.news T.out)
   obtain ⟨c',hc⟩ : ∃ c',c' = numK ((List.range N).map (keyTwo ⟨al,N,mr,ed⟩ c)) := ⟨_,rfl⟩
   obtain ⟨m',hm'⟩ : ∃ m',m' = cntK ((List.range N).map (keyTwo ⟨al,N,mr,ed⟩ c)) := ⟨_,rfl⟩
   have HK : Hid (c'.length = N ∧ Canon c' m' ∧ ∀ i j : Nat,i < c'.length → j < c'.length → (c'[i]? = c'[j]? ↔ sigV ⟨al,N,mr,ed⟩ c i = sigV ⟨al,N,mr,ed⟩ c j)) := by
    have hl : c'.length = N := by rw [hc,numK_len]; simp
    refine ⟨hl,by rw [hc,hm']; exact numK_canon _,fun i j hi hj => ?_⟩
    rw [hc,keys_ker (by omega) (by omega)]
    exact keyTwo_eq HR.out rfl (by omega) (by omega) HL.out HCR.out
   rw [← hc] at S2
   rw [← hm']
   clear hc hm' T S
   have hle := (M.out.count (by simpa using HK.out.1) HK.out.2.1 HK.out.2.2).1
   have hmN : m' ≤ N := by have := HK.out.2.1.le; have := HK.out.1; omega
   by_cases he : m' = m
   · subst he
     have HF : Hid (∀ i j : Nat,i < c'.length → j < c'.length → (c'[i]? = c'[j]? ↔ Eqv ⟨al,N,mr,ed⟩ i j)) := M.out.fin HR.out (by simpa using HK.out.1) HK.out.2.1 HK.out.2.2
     clear b1
     go_wp2_with fail
     go_ret
     exact ⟨g',c',m',rfl,S2.out.first,by simpa using HK.out.1,HK.out.2.1,HF.out⟩
   · have hne : ((m' : Int) == (m : Int)) = false := by simp; omega
     have M2 := Lib.hid (M.out.step HR.out (by simpa using HK.out.1) HK.out.2.1 HK.out.2.2)
     have c5 := ckC S2.out 1 rfl 0 rfl
     have f5 := BlkAt.free (S2.out.get 1 rfl) 0
     have S3 : Hid (Sep w.heap.size w [eBlk b5 22 [.slice (some ⟨g',0,none⟩) N N],eBlk g' 3 (c'.map (Value.int .i64)),eBlk ny 89 [.slice (some ⟨ge,0,none⟩) N N],eBlk ge 23 vs,eBlk w.heap.size 25 [.slice A1 al.length c1,.int .i64 N,.slice A2 mr.length c2,.slice A3 ed.length c3]] (w3.setCell ⟨b5,0,none⟩ (.slice (some ⟨g',0,none⟩) N N))) := (S2.out.set 1 rfl 0 (.slice (some ⟨g',0,none⟩) N N)).pick [1,0,3,4,5] (by decide)
     clear b1 HK M
     go_wp2_with fail
     go_roundw
     case rel => exact ⟨g',c',m',rfl,hmN,M2.out,S3.out⟩
     case measure => simp [intOf]; omega
section

section
variable {σ κ : Type} {key : σ → κ} {out : σ → List (Int × σ)} {s0 : σ}
structure Mks (P : σ → Prop) (fs : List σ) (i : Nat) (M : List Int) : Prop where
 up : Rises (fun x y : Int => x < y) M
 mem : ∀ x,x ∈ M ↔ ∃ (d : Nat) (v : σ),x = d ∧ d < i ∧ fs[d]? = some v ∧ P v
variable {P : σ → Prop} {fs : List σ} {i : Nat} {M : List Int}
theorem Mks.start (P : σ → Prop) (fs : List σ) : Mks P fs 0 [] := ⟨fun i j u v _ hu => by simp at hu,fun x => by simp⟩
theorem Mks.lt (h : Mks P fs i M) {x : Int} (hx : x ∈ M) : 0 ≤ x ∧ x < i := by
 obtain ⟨d,v,h1,h2,_⟩ := (h.mem x).1 hx
 omega
theorem Mks.yes (h : Mks P fs i M) {v : σ} (hv : fs[i]? = some v) (hp : P v) : Mks P fs (i + 1) (M ++ [(i : Int)]) := by
 refine ⟨h.up.push fun u hu => (h.lt hu).2,fun x => ?_⟩
 rw [List.mem_append,List.mem_singleton,h.mem]
 constructor
 · rintro (⟨d,u,h1,h2,h3,h4⟩ | rfl)
   · exact ⟨d,u,h1,by omega,h3,h4⟩
   · exact ⟨i,v,rfl,by omega,hv,hp⟩
 · rintro ⟨d,u,h1,h2,h3,h4⟩
   by_cases e : d = i
   · exact .inr (by rw [h1,e])
   · exact .inl ⟨d,u,h1,by omega,h3,h4⟩
theorem Mks.no (h : Mks P fs i M) {v : σ} (hv : fs[i]? = some v) (hp : ¬ P v) : Mks P fs (i + 1) M := by
 refine ⟨h.up,fun x => ?_⟩
 rw [h.mem]
 constructor
 · rintro ⟨d,u,h1,h2,h3,h4⟩
   exact ⟨d,u,h1,by omega,h3,h4⟩
 · rintro ⟨d,u,h1,h2,h3,h4⟩
   by_cases e : d = i
   · subst e; rw [hv] at h3; cases h3; exact absurd h4 hp
   · exact ⟨d,u,h1,by omega,h3,h4⟩
theorem Mks.grow (h : Mks P fs i M) (hi : i ≤ fs.length) (t : σ) : Mks P (fs ++ [t]) i M := by
 refine ⟨h.up,fun x => ?_⟩
 rw [h.mem]
 constructor
 · rintro ⟨d,u,h1,h2,h3,h4⟩
   exact ⟨d,u,h1,h2,get_keep h3 _,h4⟩
 · rintro ⟨d,u,h1,h2,h3,h4⟩
   rw [List.getElem?_append_left (by omega)] at h3
   exact ⟨d,u,h1,h2,h3,h4⟩
theorem Mks.set (h : Mks P fs i M) : setOk M i M.length := by
 intro j x hj hx
 have := h.lt (List.mem_of_getElem? hx)
 exact ⟨this.1,this.2,fun y h0 hy => h.up (j - 1) j y x (by omega) hy hx⟩
theorem Mks.fin (h : Mks P fs fs.length M) (d : Nat) : (d : Int) ∈ M ↔ ∃ v,fs[d]? = some v ∧ P v := by
 rw [h.mem]
 constructor
 · rintro ⟨d',v,h1,h2,h3,h4⟩
   obtain rfl : d = d' := by omega
   exact ⟨v,h3,h4⟩
 · rintro ⟨v,h3,h4⟩
   exact ⟨d,v,rfl,(List.getElem?_eq_some_iff.1 h3).1,h3,h4⟩
theorem Bld.len {i k : Nat} {fs : List Int} {ed : List Ed} {κ : Type} {key : Int → κ} {out : Int → List (Int × Int)} {s0 : Int} {n : Nat} (h : Bld key out s0 i k fs ed) (hr : ∀ v,v ∈ fs → 0 ≤ v ∧ v < (n : Int)) : fs.length ≤ n := by
 have := sub_len (fs.map Int.toNat) (List.range n) (by
  rw [List.nodup_iff_pairwise_ne,List.pairwise_map,List.pairwise_iff_getElem]
  intro a b ha hb hab he
  have h1 := hr _ (List.getElem_mem ha)
  have h2 := hr _ (List.getElem_mem hb)
  have := h.nd a b _ _ (List.getElem?_eq_getElem ha) (List.getElem?_eq_getElem hb) (by rw [show fs[a] = fs[b] by omega])
  omega) (fun x hx => by
  obtain ⟨v,hv,rfl⟩ := List.mem_map.1 hx
  have := hr v hv
  simp; omega)
 simpa using this
theorem outK_get (a : Au) (v : Int) (q : Nat) : (outK a (fun _ => true) v)[q]? = ((outOf a.ed v.toNat)[q]?).map fun x => (x.ev,x.dst) := by
 unfold outK
 rw [List.getElem?_map,List.filter_eq_self.2 (by simp)]
theorem outK_len (a : Au) (v : Int) : (outK a (fun _ => true) v).length = (outOf a.ed v.toNat).length := by
 unfold outK
 rw [List.length_map,List.filter_eq_self.2 (by simp)]
end
end
end Go.Proofs.Ytjjifefanjnghaa
