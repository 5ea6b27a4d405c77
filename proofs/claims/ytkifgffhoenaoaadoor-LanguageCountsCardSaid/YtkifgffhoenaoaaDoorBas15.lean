/-
  Included: the least word of a language that is not one of another one.
-/
import Derived.Test.YtkifgffhoenaoaaDoorBas01
import Derived.Test.YtkifgffhoenaoaaDoorBas11
import Derived.Deep.RegionHeld
set_option linter.unusedSimpArgs false
set_option linter.unusedVariables false
namespace Go.Proofs.YtkifgffhoenaoaaDoor
open Go.RowKit
set_option maxRecDepth 100000
theorem setOk.room {l : List Int} {n : Int} (h : setOk l n l.length) : ∀ (i : Nat) x,l[i]? = some x → (i : Int) ≤ x := by
 intro i
 induction i with
 | zero => intro x hx; have h0 : 0 < l.length := (List.getElem?_eq_some_iff.1 hx).1; have := (h 0 x h0 hx).1; simpa using this
 | succ i ih =>
   intro x hx
   have h0 := (List.getElem?_eq_some_iff.1 hx).1
   obtain ⟨y,hy⟩ : ∃ y,l[i]? = some y := ⟨_,List.getElem?_eq_getElem (Nat.lt_of_succ_lt h0)⟩
   have h1 := ih y hy
   have h2 := (h (i + 1) x h0 hx).2.2 y (by omega) (by simpa using hy)
   omega
theorem setOk.short {l : List Int} {n : Int} (h : setOk l n l.length) : l.length ≤ n.toNat := by
 cases hl : l.length with
 | zero => omega
 | succ k =>
   obtain ⟨y,hy⟩ : ∃ y,l[k]? = some y := ⟨_,List.getElem?_eq_getElem (by omega)⟩
   have h1 := h.room k y hy
   have h2 := (h k y (by omega) hy).2.1
   omega
theorem AuE.two (T : TypeId) (a b : Au) (p q : AuP) (w : World) (ha : Au.At w a p) (hb : Au.At w b q) : SlAt AuE 4 (w.alloc (.cells (auCells a p ++ auCells b q).toArray T)) (some ⟨w.heap.size,0,none⟩) [a,b] := by
 intro _
 have hB := Below.new w (.cells (auCells a p ++ auCells b q).toArray T)
 refine ⟨w.heap.size,0,rfl,by simp,?_⟩
 intro i x hx
 match i,hx with
 | 0,hx =>
   obtain rfl : a = x := by simpa using hx
   refine ⟨auCells a p,rfl,⟨p,rfl,ha.below hB⟩,fun j v hj => ?_⟩
   refine (new_cell w T _ _ _ rfl).trans ?_
   have hj4 := (List.getElem?_eq_some_iff.1 hj).1
   simp only [Nat.zero_mul,Nat.zero_add]
   rw [List.getElem?_append_left hj4]; exact hj
 | 1,hx =>
   obtain rfl : b = x := by simpa using hx
   refine ⟨auCells b q,rfl,⟨q,rfl,hb.below hB⟩,fun j v hj => ?_⟩
   refine (new_cell w T _ _ _ rfl).trans ?_
   simp only [Nat.one_mul,Nat.zero_add]
   rw [List.getElem?_append_right (show (auCells a p).length ≤ 4 + j from Nat.le_add_right 4 j),show 4 + j - (auCells a p).length = j from Nat.add_sub_cancel_left 4 j]; exact hj
theorem HasAt.of_blk {w : World} {b : Nat} {T : TypeId} {l : List Value} (h : BlkAt w b T l) : HasAt b l w := ⟨fun i u hi => (h.cell i).trans hi,h.lt⟩
def incP (a b : Au) (kind : Int) (q : Int × Int) : Bool := inV a q.1 kind && !inV b q.2 kind
set_option maxHeartbeats 1000000 in
theorem inc1_c (n10 n5 n11 b1 b2 : Nat) (a b : Au) (kind x y : Int) (w : World) (c1 : w.cell? ⟨n10,0,none⟩ = some (.pointer (some ⟨b1,0,none⟩))) (c2 : w.cell? ⟨n5,0,none⟩ = some (.int .i64 kind)) (c3 : w.cell? ⟨n11,0,none⟩ = some (.pointer (some ⟨b2,0,none⟩)))
 (z1 : n10 < w.heap.size) (z2 : n5 < w.heap.size) (z3 : n11 < w.heap.size) (h1 : Mach w b1 a) (h2 : Mach w b2 b) :
 Calls Tryd.prog 41 #[.agg #[.int .i64 x,.int .i64 y],.pointer (some ⟨n10,0,none⟩),.pointer (some ⟨n5,0,none⟩),.pointer (some ⟨n11,0,none⟩)] w (Ret (.bool (incP a b kind (x,y))) w) := by
 have B0 : Hid (Below w.heap.size w (w.alloc (.cells #[.int .i64 x,.int .i64 y] 75))) := Below.new _ _
 have H1 := Lib.hid (min_c b1 a x kind (w.alloc (.cells #[.int .i64 x,.int .i64 y] 75)) (h1.below B0.out))
 have H2 := Lib.hid (min_c b2 b y kind (w.alloc (.cells #[.int .i64 x,.int .i64 y] 75)) (h2.below B0.out))
 clear h1 h2
 unfold incP
 obtain ⟨p,hp⟩ : ∃ p,p = inV a x kind := ⟨_,rfl⟩
 obtain ⟨q,hq⟩ : ∃ q,q = inV b y kind := ⟨_,rfl⟩
 simp only
 rw [← hp] at H1 ⊢
 rw [← hq] at H2 ⊢
 clear hp hq
 go_enter Tryd.func41,Tryd.ntmps41
 go_wp2_with fail
 refine H1.out.mono ?_
 rintro e w' ⟨rfl,rfl⟩
 cases p
 · go_wp2
   go_ret
   exact ⟨rfl,B0.out⟩
 · go_wp2_with fail
   refine H2.out.mono ?_
   rintro e w' ⟨rfl,rfl⟩
   go_wp2
   go_ret
   exact ⟨by simp,B0.out⟩

def GivesQ (a b : Au) (evs : List Int) (P : Int × Int → Bool) (w : World) (e : Ending) (w' : World) : Prop := ∃ (A : Option Addr) (c : Nat) (l : List Int) (f : Bool),e = .returned (.tuple #[.slice A l.length c,.bool f,.int .i64 0]) ∧ Hid (IntsAt w' A l) ∧ Below w.heap.size w w' ∧
 Hid (f = false ∧ LeastW (LeadsTo (stp2 a b) (a.st,b.st) evs (fun q => P q = true)) l ∨ f = true ∧ l = [] ∧ ∀ u,¬ LeadsTo (stp2 a b) (a.st,b.st) evs (fun q => P q = true) u)
set_option maxHeartbeats 8000000 in
theorem included_c (a b : Au) (p q : AuP) (kind : Int) (w : World) (h1 : Au.At w a p) (h2 : Au.At w b q) (ha : a.Right) (hb : b.Right) (hN : (a.n.toNat + 2) * (b.n.toNat + 2) ≤ 1000000) (hk : kind = 1 ∨ kind = 2) (hdead : incP a b kind (-1,-1) = false) :
 Calls Tryd.prog 15 #[a.val p,b.val q,.int .i64 kind] w (GivesQ a b a.al (incP a b kind) w) := by
 have H1 := Lib.hid h1
 have H2 := Lib.hid h2
 have RA := Lib.hid ha
 have RB := Lib.hid hb
 have HN := Lib.hid hN
 have HD := Lib.hid hdead
 have HK := Lib.hid hk
 have HINC : Hid (incr a.al) := ha.al.incr
 have LAL : Hid (a.al.length ≤ 32) := ha.al.short
 clear h1 h2 ha hb hN hdead hk
 obtain ⟨n3,hn3⟩ : ∃ n3,n3 = w.heap.size := ⟨_,rfl⟩
 have W0 : Hid (Fro w.heap.size w (((w.alloc (.cells (auCells a p).toArray 35)).alloc (.cells (auCells b q).toArray 35)).alloc (.cells #[.int .i64 kind] 3))) := (((Fro.here w).alloc _).alloc _).alloc _
 have D3 : Hid (HasAt w.heap.size (auCells a p) (((w.alloc (.cells (auCells a p).toArray 35)).alloc (.cells (auCells b q).toArray 35)).alloc (.cells #[.int .i64 kind] 3))) := ((HasAt.new w _ _ rfl).alloc _).alloc _
 have D4 : Hid (HasAt (w.heap.size + 1) (auCells b q) (((w.alloc (.cells (auCells a p).toArray 35)).alloc (.cells (auCells b q).toArray 35)).alloc (.cells #[.int .i64 kind] 3))) := (HasAt.new _ _ _ (by simp)).alloc _
 have D5 : Hid (HasAt (w.heap.size + 1 + 1) [.int .i64 kind] (((w.alloc (.cells (auCells a p).toArray 35)).alloc (.cells (auCells b q).toArray 35)).alloc (.cells #[.int .i64 kind] 3))) := HasAt.new _ _ [_] (by simp)
 obtain ⟨al,n,mr,ed⟩ := a
 obtain ⟨A1,c1,A2,c2,A3,c3⟩ := p
 obtain ⟨al',n',mr',ed'⟩ := b
 obtain ⟨A1',c1',A2',c2',A3',c3'⟩ := q
 dsimp only [Au.val,auCells] at *
 go_enter Tryd.func15,Tryd.ntmps15
 go_upto_region 1 with fail
 generalize hW : (((w.alloc (.cells #[.slice A1 al.length c1,.int .i64 n,.slice A2 mr.length c2,.slice A3 ed.length c3] 35)).alloc (.cells #[.slice A1' al'.length c1',.int .i64 n',.slice A2' mr'.length c2',.slice A3' ed'.length c3'] 35)).alloc (.cells #[.int .i64 kind] 3)) = W at *
 clear hW hn3
 have a0 := D3.out.c 0 _ rfl
 have a1 := D3.out.c 1 _ rfl
 have a2 := D3.out.c 2 _ rfl
 have a3 := D3.out.c 3 _ rfl
 have b0 := D4.out.c 0 _ rfl
 have b1 := D4.out.c 1 _ rfl
 have b2 := D4.out.c 2 _ rfl
 have b3 := D4.out.c 3 _ rfl
 have k0 := D5.out.c 0 _ rfl
 have CK : Hid (SlAt AuE 4 (W.alloc (.cells #[.slice A1 al.length c1,.int .i64 n,.slice A2 mr.length c2,.slice A3 ed.length c3,.slice A1' al'.length c1',.int .i64 n',.slice A2' mr'.length c2',.slice A3' ed'.length c3'] 35)) (some ⟨W.heap.size,0,none⟩) [⟨al,n,mr,ed⟩,⟨al',n',mr',ed'⟩]) := AuE.two _ _ _ ⟨A1,c1,A2,c2,A3,c3⟩ ⟨A1',c1',A2',c2',A3',c3'⟩ W (H1.out.below W0.out.b) (H2.out.below W0.out.b)
 have CR : Hid (∀ a,a ∈ [(⟨al,n,mr,ed⟩ : Au),⟨al',n',mr',ed'⟩] → a.Right) := fun a h => by
  rcases List.mem_cons.1 h with h | h
  · exact h ▸ RA.out
  · exact (List.mem_singleton.1 h) ▸ RB.out
 go_wp2_with fail
 refine (check_c (some ⟨W.heap.size,0,none⟩) 2 [⟨al,n,mr,ed⟩,⟨al',n',mr',ed'⟩] kind _ CK.out (by simp) CR.out HK.out).mono ?_
 rintro e wk ⟨rfl,hb⟩
 have W2 := Lib.hid ((W0.out.alloc _).next hb)
 have E3 := Lib.hid ((D3.out.alloc _).below hb)
 have E4 := Lib.hid ((D4.out.alloc _).below hb)
 have E5 := Lib.hid ((D5.out.alloc _).below hb)
 clear hb a0 a1 a2 a3 b0 b1 b2 b3 k0 D3 D4 D5 W0
 have OA : Hid (∀ V,Fro wk.heap.size wk V → Au.At V ⟨al,n,mr,ed⟩ ⟨A1,c1,A2,c2,A3,c3⟩) := fun V h => H1.out.below (W2.out.next h.b).b
 have OB : Hid (∀ V,Fro wk.heap.size wk V → Au.At V ⟨al',n',mr',ed'⟩ ⟨A1',c1',A2',c2',A3',c3'⟩) := fun V h => H2.out.below (W2.out.next h.b).b
 clear CK CR
 go_upto_region 4 with fail
 go_cut [10,11] (fun x y wx => ∃ nx ny ba bb : Nat,x = .pointer (some ⟨nx,0,none⟩) ∧ y = .pointer (some ⟨ny,0,none⟩) ∧ Hid (HasAt nx [.pointer (some ⟨ba,0,none⟩)] wx) ∧ Hid (HasAt ny [.pointer (some ⟨bb,0,none⟩)] wx) ∧ Hid (Mach wx ba ⟨al,n,mr,ed⟩) ∧ Hid (Mach wx bb ⟨al',n',mr',ed'⟩) ∧ Hid (Fro wk.heap.size wk wx))
 case first =>
  have F0 := Lib.hid (Fro.here wk).drew
  refine wp_region_held_drew (S := (fun V => Fro wk.heap.size wk V)) (by kernel_rfl) ?_ (fun hHeld => ?_)
  · exact F0.out
  generalize hwz : wk.drew = wz at *
  clear hwz
  refine tkH 0 rfl (v := ?_) (by kernel_rfl) ?_ hHeld ?_
  rotate_left
  · intro V hSw
    have h := E3.out.below (show Fro wk.heap.size wk V from hSw).b
    have a0 := h.c 0 _ rfl
    have a1 := h.c 1 _ rfl
    have a2 := h.c 2 _ rfl
    have a3 := h.c 3 _ rfl
    clear h
    clear hSw
    first | (go_simp; done) | (go_simp; with_reducible rfl)
  try simp only [sx]
  refine tkH 2 rfl (v := ?_) (by kernel_rfl) ?_ hHeld ?_
  rotate_left
  · intro V hSw
    have h := E4.out.below (show Fro wk.heap.size wk V from hSw).b
    have a0 := h.c 0 _ rfl
    have a1 := h.c 1 _ rfl
    have a2 := h.c 2 _ rfl
    have a3 := h.c 3 _ rfl
    clear h
    clear hSw
    first | (go_simp; done) | (go_simp; with_reducible rfl)
  try simp only [sx]
  refine wpAnyH_ready (rs := [1,4,5]) (by kernel_rfl) (by simp) ?_
  refine AllReadyH.cons rfl (fun K hK => ?_) (AllReadyH.cons rfl (fun K hK => ?_) (AllReadyH.cons rfl (fun K hK => ?_) AllReadyH.nil))
  · skip
    go_simp
    refine (open_c ⟨al,n,mr,ed⟩ ⟨A1,c1,A2,c2,A3,c3⟩ _ (OA.out _ F0.out)).mono ?_
    rintro e w1 ⟨ba,ma,ka,rfl,hge,hm,hb⟩
    have F_1 := Lib.hid (F0.out.next hb)
    have Ma := Lib.hid hm.out
    clear hge hm hb
    refine hK.out _ _ ?_ (fun hHeld => ?_)
    · exact F_1.out
    clear hK K
    try simp only [sx]
    refine wpAnyH_ready (rs := [3,4,5]) (by kernel_rfl) (by simp) ?_
    refine AllReadyH.cons rfl (fun K hK => ?_) (AllReadyH.cons rfl (fun K hK => ?_) (AllReadyH.cons rfl (fun K hK => ?_) AllReadyH.nil))
    · skip
      go_simp
      refine (open_c ⟨al',n',mr',ed'⟩ ⟨A1',c1',A2',c2',A3',c3'⟩ _ (OB.out _ F_1.out)).mono ?_
      rintro e w2 ⟨bb,mb,kb,rfl,hge,hm,hb⟩
      have F_2 := Lib.hid (F_1.out.next hb)
      have Ma_2 := Lib.hid (Ma.out.below hb)
      have Mb := Lib.hid hm.out
      clear hge hm hb
      refine hK.out _ _ ?_ (fun hHeld => ?_)
      · exact F_2.out
      clear hK K
      try simp only [sx]
      refine wpAnyH_ready (rs := [4,5]) (by kernel_rfl) (by simp) ?_
      refine AllReadyH.cons rfl (fun K hK => ?_) (AllReadyH.cons rfl (fun K hK => ?_) AllReadyH.nil)
      · skip
        go_simp
        obtain ⟨nx,hnx⟩ : ∃ n,n = w2.heap.size := ⟨_,rfl⟩
        obtain ⟨w3,hw3⟩ : ∃ v,v = w2.alloc (.cells #[.pointer none] 71) := ⟨_,rfl⟩
        rw [← hw3,← hnx]
        have Exa : Hid (nx ≠ ba ∧ nx ≠ ma ∧ nx ≠ ka) := by rw [hnx]; obtain ⟨h1,h2,h3⟩ := Ma_2.out.lts; exact ⟨Nat.ne_of_gt h1,Nat.ne_of_gt h2,Nat.ne_of_gt h3⟩
        have Exb : Hid (nx ≠ bb ∧ nx ≠ mb ∧ nx ≠ kb) := by rw [hnx]; obtain ⟨h1,h2,h3⟩ := Mb.out.lts; exact ⟨Nat.ne_of_gt h1,Nat.ne_of_gt h2,Nat.ne_of_gt h3⟩
        have Px_3 : Hid (BlkAt w3 nx 71 [.pointer none]) := by rw [hw3,hnx]; exact BlkAt.new _ _ [_]
        have Zx : Hid (wk.heap.size ≤ nx) := by rw [hnx]; exact F_2.out.z
        have F_3 := Lib.hid (F_2.out.alloc (.cells #[.pointer none] 71))
        rw [← hw3] at F_3
        have Ma_3 := Lib.hid (Ma_2.out.alloc (.cells #[.pointer none] 71))
        rw [← hw3] at Ma_3
        have Mb_3 := Lib.hid (Mb.out.alloc (.cells #[.pointer none] 71))
        rw [← hw3] at Mb_3
        clear hw3 hnx
        refine hK.out _ _ ?_ (fun hHeld => ?_)
        · exact F_3.out
        clear hK K
        try simp only [sx]
        refine rdH 5 rfl fun K hK => ?_
        go_simp
        obtain ⟨ny,hny⟩ : ∃ n,n = w3.heap.size := ⟨_,rfl⟩
        obtain ⟨w4,hw4⟩ : ∃ v,v = w3.alloc (.cells #[.pointer none] 71) := ⟨_,rfl⟩
        rw [← hw4,← hny]
        have Eya : Hid (ny ≠ ba ∧ ny ≠ ma ∧ ny ≠ ka) := by rw [hny]; obtain ⟨h1,h2,h3⟩ := Ma_3.out.lts; exact ⟨Nat.ne_of_gt h1,Nat.ne_of_gt h2,Nat.ne_of_gt h3⟩
        have Eyb : Hid (ny ≠ bb ∧ ny ≠ mb ∧ ny ≠ kb) := by rw [hny]; obtain ⟨h1,h2,h3⟩ := Mb_3.out.lts; exact ⟨Nat.ne_of_gt h1,Nat.ne_of_gt h2,Nat.ne_of_gt h3⟩
        have Dyx : Hid (ny ≠ nx) := by rw [hny]; exact Nat.ne_of_gt Px_3.out.lt
        have Py_4 : Hid (BlkAt w4 ny 71 [.pointer none]) := by rw [hw4,hny]; exact BlkAt.new _ _ [_]
        have Zy : Hid (wk.heap.size ≤ ny) := by rw [hny]; exact F_3.out.z
        have F_4 := Lib.hid (F_3.out.alloc (.cells #[.pointer none] 71))
        rw [← hw4] at F_4
        have Ma_4 := Lib.hid (Ma_3.out.alloc (.cells #[.pointer none] 71))
        rw [← hw4] at Ma_4
        have Mb_4 := Lib.hid (Mb_3.out.alloc (.cells #[.pointer none] 71))
        rw [← hw4] at Mb_4
        have Px_4 := Lib.hid (Px_3.out.alloc (.cells #[.pointer none] 71))
        rw [← hw4] at Px_4
        clear hw4 hny
        refine hK.out _ _ ?_ (fun hHeld => ?_)
        · exact F_4.out
        clear hK K
        try simp only [sx]
        refine rdH 6 rfl fun K hK => ?_
        have sc := Px_4.out.cell 0
        have sf := Px_4.out.free 0
        go_simp
        obtain ⟨w5,hw5⟩ : ∃ v,v = w4.setCell ⟨nx,0,none⟩ (.pointer (some ⟨ba,0,none⟩)) := ⟨_,rfl⟩
        rw [← hw5]
        have F_5 := Lib.hid (F_4.out.setCell (g := nx) (i := 0) Zx.out (.pointer (some ⟨ba,0,none⟩)))
        rw [← hw5] at F_5
        have Ma_5 := Lib.hid (Ma_4.out.far (n := nx) (i := 0) Exa.out.1 Exa.out.2.1 Exa.out.2.2 (.pointer (some ⟨ba,0,none⟩)))
        rw [← hw5] at Ma_5
        have Mb_5 := Lib.hid (Mb_4.out.far (n := nx) (i := 0) Exb.out.1 Exb.out.2.1 Exb.out.2.2 (.pointer (some ⟨ba,0,none⟩)))
        rw [← hw5] at Mb_5
        have Px_5 := Lib.hid (Px_4.out.set_ 0 (.pointer (some ⟨ba,0,none⟩)))
        rw [← hw5] at Px_5
        have Py_5 := Lib.hid (Py_4.out.far (p := ⟨nx,0,none⟩) (fun e => ((fun e => Dyx.out e.symm)) e.symm) (.pointer (some ⟨ba,0,none⟩)))
        rw [← hw5] at Py_5
        clear sc sf hw5
        refine hK.out _ _ ?_ (fun hHeld => ?_)
        · exact F_5.out
        clear hK K
        try simp only [sx]
        refine rdH 7 rfl fun K hK => ?_
        have sc := Py_5.out.cell 0
        have sf := Py_5.out.free 0
        go_simp
        obtain ⟨w6,hw6⟩ : ∃ v,v = w5.setCell ⟨ny,0,none⟩ (.pointer (some ⟨bb,0,none⟩)) := ⟨_,rfl⟩
        rw [← hw6]
        have F_6 := Lib.hid (F_5.out.setCell (g := ny) (i := 0) Zy.out (.pointer (some ⟨bb,0,none⟩)))
        rw [← hw6] at F_6
        have Ma_6 := Lib.hid (Ma_5.out.far (n := ny) (i := 0) Eya.out.1 Eya.out.2.1 Eya.out.2.2 (.pointer (some ⟨bb,0,none⟩)))
        rw [← hw6] at Ma_6
        have Mb_6 := Lib.hid (Mb_5.out.far (n := ny) (i := 0) Eyb.out.1 Eyb.out.2.1 Eyb.out.2.2 (.pointer (some ⟨bb,0,none⟩)))
        rw [← hw6] at Mb_6
        have Px_6 := Lib.hid (Px_5.out.far (p := ⟨ny,0,none⟩) (fun e => (Dyx.out) e.symm) (.pointer (some ⟨bb,0,none⟩)))
        rw [← hw6] at Px_6
        have Py_6 := Lib.hid (Py_5.out.set_ 0 (.pointer (some ⟨bb,0,none⟩)))
        rw [← hw6] at Py_6
        clear sc sf hw6
        refine hK.out _ _ ?_ (fun hHeld => ?_)
        · exact F_6.out
        clear hK K
        try simp only [sx]
        refine wpAnyH_done (by kernel_rfl) ?_ _
        go_wp2_with fail
        go_meet
        exact ⟨_,_,ba,bb,rfl,rfl,HasAt.of_blk Px_6.out,HasAt.of_blk Py_6.out,Ma_6.out.mach,Mb_6.out.mach,F_6.out⟩
      · skip
        go_simp
        obtain ⟨ny,hny⟩ : ∃ n,n = w2.heap.size := ⟨_,rfl⟩
        obtain ⟨w7,hw7⟩ : ∃ v,v = w2.alloc (.cells #[.pointer none] 71) := ⟨_,rfl⟩
        rw [← hw7,← hny]
        have Eya : Hid (ny ≠ ba ∧ ny ≠ ma ∧ ny ≠ ka) := by rw [hny]; obtain ⟨h1,h2,h3⟩ := Ma_2.out.lts; exact ⟨Nat.ne_of_gt h1,Nat.ne_of_gt h2,Nat.ne_of_gt h3⟩
        have Eyb : Hid (ny ≠ bb ∧ ny ≠ mb ∧ ny ≠ kb) := by rw [hny]; obtain ⟨h1,h2,h3⟩ := Mb.out.lts; exact ⟨Nat.ne_of_gt h1,Nat.ne_of_gt h2,Nat.ne_of_gt h3⟩
        have Py_7 : Hid (BlkAt w7 ny 71 [.pointer none]) := by rw [hw7,hny]; exact BlkAt.new _ _ [_]
        have Zy : Hid (wk.heap.size ≤ ny) := by rw [hny]; exact F_2.out.z
        have F_7 := Lib.hid (F_2.out.alloc (.cells #[.pointer none] 71))
        rw [← hw7] at F_7
        have Ma_7 := Lib.hid (Ma_2.out.alloc (.cells #[.pointer none] 71))
        rw [← hw7] at Ma_7
        have Mb_7 := Lib.hid (Mb.out.alloc (.cells #[.pointer none] 71))
        rw [← hw7] at Mb_7
        clear hw7 hny
        refine hK.out _ _ ?_ (fun hHeld => ?_)
        · exact F_7.out
        clear hK K
        try simp only [sx]
        refine rdH 4 rfl fun K hK => ?_
        go_simp
        obtain ⟨nx,hnx⟩ : ∃ n,n = w7.heap.size := ⟨_,rfl⟩
        obtain ⟨w8,hw8⟩ : ∃ v,v = w7.alloc (.cells #[.pointer none] 71) := ⟨_,rfl⟩
        rw [← hw8,← hnx]
        have Exa : Hid (nx ≠ ba ∧ nx ≠ ma ∧ nx ≠ ka) := by rw [hnx]; obtain ⟨h1,h2,h3⟩ := Ma_7.out.lts; exact ⟨Nat.ne_of_gt h1,Nat.ne_of_gt h2,Nat.ne_of_gt h3⟩
        have Exb : Hid (nx ≠ bb ∧ nx ≠ mb ∧ nx ≠ kb) := by rw [hnx]; obtain ⟨h1,h2,h3⟩ := Mb_7.out.lts; exact ⟨Nat.ne_of_gt h1,Nat.ne_of_gt h2,Nat.ne_of_gt h3⟩
        have Dxy : Hid (nx ≠ ny) := by rw [hnx]; exact Nat.ne_of_gt Py_7.out.lt
        have Px_8 : Hid (BlkAt w8 nx 71 [.pointer none]) := by rw [hw8,hnx]; exact BlkAt.new _ _ [_]
        have Zx : Hid (wk.heap.size ≤ nx) := by rw [hnx]; exact F_7.out.z
        have F_8 := Lib.hid (F_7.out.alloc (.cells #[.pointer none] 71))
        rw [← hw8] at F_8
        have Ma_8 := Lib.hid (Ma_7.out.alloc (.cells #[.pointer none] 71))
        rw [← hw8] at Ma_8
        have Mb_8 := Lib.hid (Mb_7.out.alloc (.cells #[.pointer none] 71))
        rw [← hw8] at Mb_8
        have Py_8 := Lib.hid (Py_7.out.alloc (.cells #[.pointer none] 71))
        rw [← hw8] at Py_8
        clear hw8 hnx
        refine hK.out _ _ ?_ (fun hHeld => ?_)
        · exact F_8.out
        clear hK K
        try simp only [sx]
        refine rdH 6 rfl fun K hK => ?_
        have sc := Px_8.out.cell 0
        have sf := Px_8.out.free 0
        go_simp
        obtain ⟨w9,hw9⟩ : ∃ v,v = w8.setCell ⟨nx,0,none⟩ (.pointer (some ⟨ba,0,none⟩)) := ⟨_,rfl⟩
        rw [← hw9]
        have F_9 := Lib.hid (F_8.out.setCell (g := nx) (i := 0) Zx.out (.pointer (some ⟨ba,0,none⟩)))
        rw [← hw9] at F_9
        have Ma_9 := Lib.hid (Ma_8.out.far (n := nx) (i := 0) Exa.out.1 Exa.out.2.1 Exa.out.2.2 (.pointer (some ⟨ba,0,none⟩)))
        rw [← hw9] at Ma_9
        have Mb_9 := Lib.hid (Mb_8.out.far (n := nx) (i := 0) Exb.out.1 Exb.out.2.1 Exb.out.2.2 (.pointer (some ⟨ba,0,none⟩)))
        rw [← hw9] at Mb_9
        have Py_9 := Lib.hid (Py_8.out.far (p := ⟨nx,0,none⟩) (fun e => (Dxy.out) e.symm) (.pointer (some ⟨ba,0,none⟩)))
        rw [← hw9] at Py_9
        have Px_9 := Lib.hid (Px_8.out.set_ 0 (.pointer (some ⟨ba,0,none⟩)))
        rw [← hw9] at Px_9
        clear sc sf hw9
        refine hK.out _ _ ?_ (fun hHeld => ?_)
        · exact F_9.out
        clear hK K
        try simp only [sx]
        refine rdH 7 rfl fun K hK => ?_
        have sc := Py_9.out.cell 0
        have sf := Py_9.out.free 0
        go_simp
        obtain ⟨w10,hw10⟩ : ∃ v,v = w9.setCell ⟨ny,0,none⟩ (.pointer (some ⟨bb,0,none⟩)) := ⟨_,rfl⟩
        rw [← hw10]
        have F_10 := Lib.hid (F_9.out.setCell (g := ny) (i := 0) Zy.out (.pointer (some ⟨bb,0,none⟩)))
        rw [← hw10] at F_10
        have Ma_10 := Lib.hid (Ma_9.out.far (n := ny) (i := 0) Eya.out.1 Eya.out.2.1 Eya.out.2.2 (.pointer (some ⟨bb,0,none⟩)))
        rw [← hw10] at Ma_10
        have Mb_10 := Lib.hid (Mb_9.out.far (n := ny) (i := 0) Eyb.out.1 Eyb.out.2.1 Eyb.out.2.2 (.pointer (some ⟨bb,0,none⟩)))
        rw [← hw10] at Mb_10
        have Py_10 := Lib.hid (Py_9.out.set_ 0 (.pointer (some ⟨bb,0,none⟩)))
        rw [← hw10] at Py_10
        have Px_10 := Lib.hid (Px_9.out.far (p := ⟨ny,0,none⟩) (fun e => ((fun e => Dxy.out e.symm)) e.symm) (.pointer (some ⟨bb,0,none⟩)))
        rw [← hw10] at Px_10
        clear sc sf hw10
        refine hK.out _ _ ?_ (fun hHeld => ?_)
        · exact F_10.out
        clear hK K
        try simp only [sx]
        refine wpAnyH_done (by kernel_rfl) ?_ _
        go_wp2_with fail
        go_meet
        exact ⟨_,_,ba,bb,rfl,rfl,HasAt.of_blk Px_10.out,HasAt.of_blk Py_10.out,Ma_10.out.mach,Mb_10.out.mach,F_10.out⟩
    · skip
      go_simp
      obtain ⟨nx,hnx⟩ : ∃ n,n = w1.heap.size := ⟨_,rfl⟩
      obtain ⟨w11,hw11⟩ : ∃ v,v = w1.alloc (.cells #[.pointer none] 71) := ⟨_,rfl⟩
      rw [← hw11,← hnx]
      have Exa : Hid (nx ≠ ba ∧ nx ≠ ma ∧ nx ≠ ka) := by rw [hnx]; obtain ⟨h1,h2,h3⟩ := Ma.out.lts; exact ⟨Nat.ne_of_gt h1,Nat.ne_of_gt h2,Nat.ne_of_gt h3⟩
      have Px_11 : Hid (BlkAt w11 nx 71 [.pointer none]) := by rw [hw11,hnx]; exact BlkAt.new _ _ [_]
      have Zx : Hid (wk.heap.size ≤ nx) := by rw [hnx]; exact F_1.out.z
      have F_11 := Lib.hid (F_1.out.alloc (.cells #[.pointer none] 71))
      rw [← hw11] at F_11
      have Ma_11 := Lib.hid (Ma.out.alloc (.cells #[.pointer none] 71))
      rw [← hw11] at Ma_11
      clear hw11 hnx
      refine hK.out _ _ ?_ (fun hHeld => ?_)
      · exact F_11.out
      clear hK K
      try simp only [sx]
      refine wpAnyH_ready (rs := [3,5]) (by kernel_rfl) (by simp) ?_
      refine AllReadyH.cons rfl (fun K hK => ?_) (AllReadyH.cons rfl (fun K hK => ?_) AllReadyH.nil)
      · skip
        go_simp
        refine (open_c ⟨al',n',mr',ed'⟩ ⟨A1',c1',A2',c2',A3',c3'⟩ _ (OB.out _ F_11.out)).mono ?_
        rintro e w12 ⟨bb,mb,kb,rfl,hge,hm,hb⟩
        have Exb : Hid (nx ≠ bb ∧ nx ≠ mb ∧ nx ≠ kb) := by have h1 := Px_11.out.lt; obtain ⟨h2,h3,h4⟩ := hge; exact ⟨Nat.ne_of_lt (Nat.lt_of_lt_of_le h1 h2),Nat.ne_of_lt (Nat.lt_of_lt_of_le h1 h3),Nat.ne_of_lt (Nat.lt_of_lt_of_le h1 h4)⟩
        have F_12 := Lib.hid (F_11.out.next hb)
        have Ma_12 := Lib.hid (Ma_11.out.below hb)
        have Px_12 := Lib.hid (Px_11.out.below hb Px_11.out.lt)
        have Mb := Lib.hid hm.out
        clear hge hm hb
        refine hK.out _ _ ?_ (fun hHeld => ?_)
        · exact F_12.out
        clear hK K
        try simp only [sx]
        refine rdH 5 rfl fun K hK => ?_
        go_simp
        obtain ⟨ny,hny⟩ : ∃ n,n = w12.heap.size := ⟨_,rfl⟩
        obtain ⟨w13,hw13⟩ : ∃ v,v = w12.alloc (.cells #[.pointer none] 71) := ⟨_,rfl⟩
        rw [← hw13,← hny]
        have Eya : Hid (ny ≠ ba ∧ ny ≠ ma ∧ ny ≠ ka) := by rw [hny]; obtain ⟨h1,h2,h3⟩ := Ma_12.out.lts; exact ⟨Nat.ne_of_gt h1,Nat.ne_of_gt h2,Nat.ne_of_gt h3⟩
        have Eyb : Hid (ny ≠ bb ∧ ny ≠ mb ∧ ny ≠ kb) := by rw [hny]; obtain ⟨h1,h2,h3⟩ := Mb.out.lts; exact ⟨Nat.ne_of_gt h1,Nat.ne_of_gt h2,Nat.ne_of_gt h3⟩
        have Dyx : Hid (ny ≠ nx) := by rw [hny]; exact Nat.ne_of_gt Px_12.out.lt
        have Py_13 : Hid (BlkAt w13 ny 71 [.pointer none]) := by rw [hw13,hny]; exact BlkAt.new _ _ [_]
        have Zy : Hid (wk.heap.size ≤ ny) := by rw [hny]; exact F_12.out.z
        have F_13 := Lib.hid (F_12.out.alloc (.cells #[.pointer none] 71))
        rw [← hw13] at F_13
        have Ma_13 := Lib.hid (Ma_12.out.alloc (.cells #[.pointer none] 71))
        rw [← hw13] at Ma_13
        have Px_13 := Lib.hid (Px_12.out.alloc (.cells #[.pointer none] 71))
        rw [← hw13] at Px_13
        have Mb_13 := Lib.hid (Mb.out.alloc (.cells #[.pointer none] 71))
        rw [← hw13] at Mb_13
        clear hw13 hny
        refine hK.out _ _ ?_ (fun hHeld => ?_)
        · exact F_13.out
        clear hK K
        try simp only [sx]
        refine rdH 6 rfl fun K hK => ?_
        have sc := Px_13.out.cell 0
        have sf := Px_13.out.free 0
        go_simp
        obtain ⟨w14,hw14⟩ : ∃ v,v = w13.setCell ⟨nx,0,none⟩ (.pointer (some ⟨ba,0,none⟩)) := ⟨_,rfl⟩
        rw [← hw14]
        have F_14 := Lib.hid (F_13.out.setCell (g := nx) (i := 0) Zx.out (.pointer (some ⟨ba,0,none⟩)))
        rw [← hw14] at F_14
        have Ma_14 := Lib.hid (Ma_13.out.far (n := nx) (i := 0) Exa.out.1 Exa.out.2.1 Exa.out.2.2 (.pointer (some ⟨ba,0,none⟩)))
        rw [← hw14] at Ma_14
        have Px_14 := Lib.hid (Px_13.out.set_ 0 (.pointer (some ⟨ba,0,none⟩)))
        rw [← hw14] at Px_14
        have Mb_14 := Lib.hid (Mb_13.out.far (n := nx) (i := 0) Exb.out.1 Exb.out.2.1 Exb.out.2.2 (.pointer (some ⟨ba,0,none⟩)))
        rw [← hw14] at Mb_14
        have Py_14 := Lib.hid (Py_13.out.far (p := ⟨nx,0,none⟩) (fun e => ((fun e => Dyx.out e.symm)) e.symm) (.pointer (some ⟨ba,0,none⟩)))
        rw [← hw14] at Py_14
        clear sc sf hw14
        refine hK.out _ _ ?_ (fun hHeld => ?_)
        · exact F_14.out
        clear hK K
        try simp only [sx]
        refine rdH 7 rfl fun K hK => ?_
        have sc := Py_14.out.cell 0
        have sf := Py_14.out.free 0
        go_simp
        obtain ⟨w15,hw15⟩ : ∃ v,v = w14.setCell ⟨ny,0,none⟩ (.pointer (some ⟨bb,0,none⟩)) := ⟨_,rfl⟩
        rw [← hw15]
        have F_15 := Lib.hid (F_14.out.setCell (g := ny) (i := 0) Zy.out (.pointer (some ⟨bb,0,none⟩)))
        rw [← hw15] at F_15
        have Ma_15 := Lib.hid (Ma_14.out.far (n := ny) (i := 0) Eya.out.1 Eya.out.2.1 Eya.out.2.2 (.pointer (some ⟨bb,0,none⟩)))
        rw [← hw15] at Ma_15
        have Px_15 := Lib.hid (Px_14.out.far (p := ⟨ny,0,none⟩) (fun e => (Dyx.out) e.symm) (.pointer (some ⟨bb,0,none⟩)))
        rw [← hw15] at Px_15
        have Mb_15 := Lib.hid (Mb_14.out.far (n := ny) (i := 0) Eyb.out.1 Eyb.out.2.1 Eyb.out.2.2 (.pointer (some ⟨bb,0,none⟩)))
        rw [← hw15] at Mb_15
        have Py_15 := Lib.hid (Py_14.out.set_ 0 (.pointer (some ⟨bb,0,none⟩)))
        rw [← hw15] at Py_15
        clear sc sf hw15
        refine hK.out _ _ ?_ (fun hHeld => ?_)
        · exact F_15.out
        clear hK K
        try simp only [sx]
        refine wpAnyH_done (by kernel_rfl) ?_ _
        go_wp2_with fail
        go_meet
        exact ⟨_,_,ba,bb,rfl,rfl,HasAt.of_blk Px_15.out,HasAt.of_blk Py_15.out,Ma_15.out.mach,Mb_15.out.mach,F_15.out⟩
      · skip
        go_simp
        obtain ⟨ny,hny⟩ : ∃ n,n = w11.heap.size := ⟨_,rfl⟩
        obtain ⟨w16,hw16⟩ : ∃ v,v = w11.alloc (.cells #[.pointer none] 71) := ⟨_,rfl⟩
        rw [← hw16,← hny]
        have Eya : Hid (ny ≠ ba ∧ ny ≠ ma ∧ ny ≠ ka) := by rw [hny]; obtain ⟨h1,h2,h3⟩ := Ma_11.out.lts; exact ⟨Nat.ne_of_gt h1,Nat.ne_of_gt h2,Nat.ne_of_gt h3⟩
        have Dyx : Hid (ny ≠ nx) := by rw [hny]; exact Nat.ne_of_gt Px_11.out.lt
        have Py_16 : Hid (BlkAt w16 ny 71 [.pointer none]) := by rw [hw16,hny]; exact BlkAt.new _ _ [_]
        have Zy : Hid (wk.heap.size ≤ ny) := by rw [hny]; exact F_11.out.z
        have F_16 := Lib.hid (F_11.out.alloc (.cells #[.pointer none] 71))
        rw [← hw16] at F_16
        have Ma_16 := Lib.hid (Ma_11.out.alloc (.cells #[.pointer none] 71))
        rw [← hw16] at Ma_16
        have Px_16 := Lib.hid (Px_11.out.alloc (.cells #[.pointer none] 71))
        rw [← hw16] at Px_16
        clear hw16 hny
        refine hK.out _ _ ?_ (fun hHeld => ?_)
        · exact F_16.out
        clear hK K
        try simp only [sx]
        refine rdH 3 rfl fun K hK => ?_
        go_simp
        refine (open_c ⟨al',n',mr',ed'⟩ ⟨A1',c1',A2',c2',A3',c3'⟩ _ (OB.out _ F_16.out)).mono ?_
        rintro e w17 ⟨bb,mb,kb,rfl,hge,hm,hb⟩
        have Exb : Hid (nx ≠ bb ∧ nx ≠ mb ∧ nx ≠ kb) := by have h1 := Px_16.out.lt; obtain ⟨h2,h3,h4⟩ := hge; exact ⟨Nat.ne_of_lt (Nat.lt_of_lt_of_le h1 h2),Nat.ne_of_lt (Nat.lt_of_lt_of_le h1 h3),Nat.ne_of_lt (Nat.lt_of_lt_of_le h1 h4)⟩
        have Eyb : Hid (ny ≠ bb ∧ ny ≠ mb ∧ ny ≠ kb) := by have h1 := Py_16.out.lt; obtain ⟨h2,h3,h4⟩ := hge; exact ⟨Nat.ne_of_lt (Nat.lt_of_lt_of_le h1 h2),Nat.ne_of_lt (Nat.lt_of_lt_of_le h1 h3),Nat.ne_of_lt (Nat.lt_of_lt_of_le h1 h4)⟩
        have F_17 := Lib.hid (F_16.out.next hb)
        have Ma_17 := Lib.hid (Ma_16.out.below hb)
        have Px_17 := Lib.hid (Px_16.out.below hb Px_16.out.lt)
        have Py_17 := Lib.hid (Py_16.out.below hb Py_16.out.lt)
        have Mb := Lib.hid hm.out
        clear hge hm hb
        refine hK.out _ _ ?_ (fun hHeld => ?_)
        · exact F_17.out
        clear hK K
        try simp only [sx]
        refine rdH 6 rfl fun K hK => ?_
        have sc := Px_17.out.cell 0
        have sf := Px_17.out.free 0
        go_simp
        obtain ⟨w18,hw18⟩ : ∃ v,v = w17.setCell ⟨nx,0,none⟩ (.pointer (some ⟨ba,0,none⟩)) := ⟨_,rfl⟩
        rw [← hw18]
        have F_18 := Lib.hid (F_17.out.setCell (g := nx) (i := 0) Zx.out (.pointer (some ⟨ba,0,none⟩)))
        rw [← hw18] at F_18
        have Ma_18 := Lib.hid (Ma_17.out.far (n := nx) (i := 0) Exa.out.1 Exa.out.2.1 Exa.out.2.2 (.pointer (some ⟨ba,0,none⟩)))
        rw [← hw18] at Ma_18
        have Px_18 := Lib.hid (Px_17.out.set_ 0 (.pointer (some ⟨ba,0,none⟩)))
        rw [← hw18] at Px_18
        have Py_18 := Lib.hid (Py_17.out.far (p := ⟨nx,0,none⟩) (fun e => ((fun e => Dyx.out e.symm)) e.symm) (.pointer (some ⟨ba,0,none⟩)))
        rw [← hw18] at Py_18
        have Mb_18 := Lib.hid (Mb.out.far (n := nx) (i := 0) Exb.out.1 Exb.out.2.1 Exb.out.2.2 (.pointer (some ⟨ba,0,none⟩)))
        rw [← hw18] at Mb_18
        clear sc sf hw18
        refine hK.out _ _ ?_ (fun hHeld => ?_)
        · exact F_18.out
        clear hK K
        try simp only [sx]
        refine rdH 7 rfl fun K hK => ?_
        have sc := Py_18.out.cell 0
        have sf := Py_18.out.free 0
        go_simp
        obtain ⟨w19,hw19⟩ : ∃ v,v = w18.setCell ⟨ny,0,none⟩ (.pointer (some ⟨bb,0,none⟩)) := ⟨_,rfl⟩
        rw [← hw19]
        have F_19 := Lib.hid (F_18.out.setCell (g := ny) (i := 0) Zy.out (.pointer (some ⟨bb,0,none⟩)))
        rw [← hw19] at F_19
        have Ma_19 := Lib.hid (Ma_18.out.far (n := ny) (i := 0) Eya.out.1 Eya.out.2.1 Eya.out.2.2 (.pointer (some ⟨bb,0,none⟩)))
        rw [← hw19] at Ma_19
        have Px_19 := Lib.hid (Px_18.out.far (p := ⟨ny,0,none⟩) (fun e => (Dyx.out) e.symm) (.pointer (some ⟨bb,0,none⟩)))
        rw [← hw19] at Px_19
        have Py_19 := Lib.hid (Py_18.out.set_ 0 (.pointer (some ⟨bb,0,none⟩)))
        rw [← hw19] at Py_19
        have Mb_19 := Lib.hid (Mb_18.out.far (n := ny) (i := 0) Eyb.out.1 Eyb.out.2.1 Eyb.out.2.2 (.pointer (some ⟨bb,0,none⟩)))
        rw [← hw19] at Mb_19
        clear sc sf hw19
        refine hK.out _ _ ?_ (fun hHeld => ?_)
        · exact F_19.out
        clear hK K
        try simp only [sx]
        refine wpAnyH_done (by kernel_rfl) ?_ _
        go_wp2_with fail
        go_meet
        exact ⟨_,_,ba,bb,rfl,rfl,HasAt.of_blk Px_19.out,HasAt.of_blk Py_19.out,Ma_19.out.mach,Mb_19.out.mach,F_19.out⟩
    · skip
      go_simp
      obtain ⟨ny,hny⟩ : ∃ n,n = w1.heap.size := ⟨_,rfl⟩
      obtain ⟨w20,hw20⟩ : ∃ v,v = w1.alloc (.cells #[.pointer none] 71) := ⟨_,rfl⟩
      rw [← hw20,← hny]
      have Eya : Hid (ny ≠ ba ∧ ny ≠ ma ∧ ny ≠ ka) := by rw [hny]; obtain ⟨h1,h2,h3⟩ := Ma.out.lts; exact ⟨Nat.ne_of_gt h1,Nat.ne_of_gt h2,Nat.ne_of_gt h3⟩
      have Py_20 : Hid (BlkAt w20 ny 71 [.pointer none]) := by rw [hw20,hny]; exact BlkAt.new _ _ [_]
      have Zy : Hid (wk.heap.size ≤ ny) := by rw [hny]; exact F_1.out.z
      have F_20 := Lib.hid (F_1.out.alloc (.cells #[.pointer none] 71))
      rw [← hw20] at F_20
      have Ma_20 := Lib.hid (Ma.out.alloc (.cells #[.pointer none] 71))
      rw [← hw20] at Ma_20
      clear hw20 hny
      refine hK.out _ _ ?_ (fun hHeld => ?_)
      · exact F_20.out
      clear hK K
      try simp only [sx]
      refine wpAnyH_ready (rs := [3,4]) (by kernel_rfl) (by simp) ?_
      refine AllReadyH.cons rfl (fun K hK => ?_) (AllReadyH.cons rfl (fun K hK => ?_) AllReadyH.nil)
      · skip
        go_simp
        refine (open_c ⟨al',n',mr',ed'⟩ ⟨A1',c1',A2',c2',A3',c3'⟩ _ (OB.out _ F_20.out)).mono ?_
        rintro e w21 ⟨bb,mb,kb,rfl,hge,hm,hb⟩
        have Eyb : Hid (ny ≠ bb ∧ ny ≠ mb ∧ ny ≠ kb) := by have h1 := Py_20.out.lt; obtain ⟨h2,h3,h4⟩ := hge; exact ⟨Nat.ne_of_lt (Nat.lt_of_lt_of_le h1 h2),Nat.ne_of_lt (Nat.lt_of_lt_of_le h1 h3),Nat.ne_of_lt (Nat.lt_of_lt_of_le h1 h4)⟩
        have F_21 := Lib.hid (F_20.out.next hb)
        have Ma_21 := Lib.hid (Ma_20.out.below hb)
        have Py_21 := Lib.hid (Py_20.out.below hb Py_20.out.lt)
        have Mb := Lib.hid hm.out
        clear hge hm hb
        refine hK.out _ _ ?_ (fun hHeld => ?_)
        · exact F_21.out
        clear hK K
        try simp only [sx]
        refine rdH 4 rfl fun K hK => ?_
        go_simp
        obtain ⟨nx,hnx⟩ : ∃ n,n = w21.heap.size := ⟨_,rfl⟩
        obtain ⟨w22,hw22⟩ : ∃ v,v = w21.alloc (.cells #[.pointer none] 71) := ⟨_,rfl⟩
        rw [← hw22,← hnx]
        have Exa : Hid (nx ≠ ba ∧ nx ≠ ma ∧ nx ≠ ka) := by rw [hnx]; obtain ⟨h1,h2,h3⟩ := Ma_21.out.lts; exact ⟨Nat.ne_of_gt h1,Nat.ne_of_gt h2,Nat.ne_of_gt h3⟩
        have Exb : Hid (nx ≠ bb ∧ nx ≠ mb ∧ nx ≠ kb) := by rw [hnx]; obtain ⟨h1,h2,h3⟩ := Mb.out.lts; exact ⟨Nat.ne_of_gt h1,Nat.ne_of_gt h2,Nat.ne_of_gt h3⟩
        have Dxy : Hid (nx ≠ ny) := by rw [hnx]; exact Nat.ne_of_gt Py_21.out.lt
        have Px_22 : Hid (BlkAt w22 nx 71 [.pointer none]) := by rw [hw22,hnx]; exact BlkAt.new _ _ [_]
        have Zx : Hid (wk.heap.size ≤ nx) := by rw [hnx]; exact F_21.out.z
        have F_22 := Lib.hid (F_21.out.alloc (.cells #[.pointer none] 71))
        rw [← hw22] at F_22
        have Ma_22 := Lib.hid (Ma_21.out.alloc (.cells #[.pointer none] 71))
        rw [← hw22] at Ma_22
        have Py_22 := Lib.hid (Py_21.out.alloc (.cells #[.pointer none] 71))
        rw [← hw22] at Py_22
        have Mb_22 := Lib.hid (Mb.out.alloc (.cells #[.pointer none] 71))
        rw [← hw22] at Mb_22
        clear hw22 hnx
        refine hK.out _ _ ?_ (fun hHeld => ?_)
        · exact F_22.out
        clear hK K
        try simp only [sx]
        refine rdH 6 rfl fun K hK => ?_
        have sc := Px_22.out.cell 0
        have sf := Px_22.out.free 0
        go_simp
        obtain ⟨w23,hw23⟩ : ∃ v,v = w22.setCell ⟨nx,0,none⟩ (.pointer (some ⟨ba,0,none⟩)) := ⟨_,rfl⟩
        rw [← hw23]
        have F_23 := Lib.hid (F_22.out.setCell (g := nx) (i := 0) Zx.out (.pointer (some ⟨ba,0,none⟩)))
        rw [← hw23] at F_23
        have Ma_23 := Lib.hid (Ma_22.out.far (n := nx) (i := 0) Exa.out.1 Exa.out.2.1 Exa.out.2.2 (.pointer (some ⟨ba,0,none⟩)))
        rw [← hw23] at Ma_23
        have Py_23 := Lib.hid (Py_22.out.far (p := ⟨nx,0,none⟩) (fun e => (Dxy.out) e.symm) (.pointer (some ⟨ba,0,none⟩)))
        rw [← hw23] at Py_23
        have Mb_23 := Lib.hid (Mb_22.out.far (n := nx) (i := 0) Exb.out.1 Exb.out.2.1 Exb.out.2.2 (.pointer (some ⟨ba,0,none⟩)))
        rw [← hw23] at Mb_23
        have Px_23 := Lib.hid (Px_22.out.set_ 0 (.pointer (some ⟨ba,0,none⟩)))
        rw [← hw23] at Px_23
        clear sc sf hw23
        refine hK.out _ _ ?_ (fun hHeld => ?_)
        · exact F_23.out
        clear hK K
        try simp only [sx]
        refine rdH 7 rfl fun K hK => ?_
        have sc := Py_23.out.cell 0
        have sf := Py_23.out.free 0
        go_simp
        obtain ⟨w24,hw24⟩ : ∃ v,v = w23.setCell ⟨ny,0,none⟩ (.pointer (some ⟨bb,0,none⟩)) := ⟨_,rfl⟩
        rw [← hw24]
        have F_24 := Lib.hid (F_23.out.setCell (g := ny) (i := 0) Zy.out (.pointer (some ⟨bb,0,none⟩)))
        rw [← hw24] at F_24
        have Ma_24 := Lib.hid (Ma_23.out.far (n := ny) (i := 0) Eya.out.1 Eya.out.2.1 Eya.out.2.2 (.pointer (some ⟨bb,0,none⟩)))
        rw [← hw24] at Ma_24
        have Py_24 := Lib.hid (Py_23.out.set_ 0 (.pointer (some ⟨bb,0,none⟩)))
        rw [← hw24] at Py_24
        have Mb_24 := Lib.hid (Mb_23.out.far (n := ny) (i := 0) Eyb.out.1 Eyb.out.2.1 Eyb.out.2.2 (.pointer (some ⟨bb,0,none⟩)))
        rw [← hw24] at Mb_24
        have Px_24 := Lib.hid (Px_23.out.far (p := ⟨ny,0,none⟩) (fun e => ((fun e => Dxy.out e.symm)) e.symm) (.pointer (some ⟨bb,0,none⟩)))
        rw [← hw24] at Px_24
        clear sc sf hw24
        refine hK.out _ _ ?_ (fun hHeld => ?_)
        · exact F_24.out
        clear hK K
        try simp only [sx]
        refine wpAnyH_done (by kernel_rfl) ?_ _
        go_wp2_with fail
        go_meet
        exact ⟨_,_,ba,bb,rfl,rfl,HasAt.of_blk Px_24.out,HasAt.of_blk Py_24.out,Ma_24.out.mach,Mb_24.out.mach,F_24.out⟩
      · skip
        go_simp
        obtain ⟨nx,hnx⟩ : ∃ n,n = w20.heap.size := ⟨_,rfl⟩
        obtain ⟨w25,hw25⟩ : ∃ v,v = w20.alloc (.cells #[.pointer none] 71) := ⟨_,rfl⟩
        rw [← hw25,← hnx]
        have Exa : Hid (nx ≠ ba ∧ nx ≠ ma ∧ nx ≠ ka) := by rw [hnx]; obtain ⟨h1,h2,h3⟩ := Ma_20.out.lts; exact ⟨Nat.ne_of_gt h1,Nat.ne_of_gt h2,Nat.ne_of_gt h3⟩
        have Dxy : Hid (nx ≠ ny) := by rw [hnx]; exact Nat.ne_of_gt Py_20.out.lt
        have Px_25 : Hid (BlkAt w25 nx 71 [.pointer none]) := by rw [hw25,hnx]; exact BlkAt.new _ _ [_]
        have Zx : Hid (wk.heap.size ≤ nx) := by rw [hnx]; exact F_20.out.z
        have F_25 := Lib.hid (F_20.out.alloc (.cells #[.pointer none] 71))
        rw [← hw25] at F_25
        have Ma_25 := Lib.hid (Ma_20.out.alloc (.cells #[.pointer none] 71))
        rw [← hw25] at Ma_25
        have Py_25 := Lib.hid (Py_20.out.alloc (.cells #[.pointer none] 71))
        rw [← hw25] at Py_25
        clear hw25 hnx
        refine hK.out _ _ ?_ (fun hHeld => ?_)
        · exact F_25.out
        clear hK K
        try simp only [sx]
        refine rdH 3 rfl fun K hK => ?_
        go_simp
        refine (open_c ⟨al',n',mr',ed'⟩ ⟨A1',c1',A2',c2',A3',c3'⟩ _ (OB.out _ F_25.out)).mono ?_
        rintro e w26 ⟨bb,mb,kb,rfl,hge,hm,hb⟩
        have Exb : Hid (nx ≠ bb ∧ nx ≠ mb ∧ nx ≠ kb) := by have h1 := Px_25.out.lt; obtain ⟨h2,h3,h4⟩ := hge; exact ⟨Nat.ne_of_lt (Nat.lt_of_lt_of_le h1 h2),Nat.ne_of_lt (Nat.lt_of_lt_of_le h1 h3),Nat.ne_of_lt (Nat.lt_of_lt_of_le h1 h4)⟩
        have Eyb : Hid (ny ≠ bb ∧ ny ≠ mb ∧ ny ≠ kb) := by have h1 := Py_25.out.lt; obtain ⟨h2,h3,h4⟩ := hge; exact ⟨Nat.ne_of_lt (Nat.lt_of_lt_of_le h1 h2),Nat.ne_of_lt (Nat.lt_of_lt_of_le h1 h3),Nat.ne_of_lt (Nat.lt_of_lt_of_le h1 h4)⟩
        have F_26 := Lib.hid (F_25.out.next hb)
        have Ma_26 := Lib.hid (Ma_25.out.below hb)
        have Py_26 := Lib.hid (Py_25.out.below hb Py_25.out.lt)
        have Px_26 := Lib.hid (Px_25.out.below hb Px_25.out.lt)
        have Mb := Lib.hid hm.out
        clear hge hm hb
        refine hK.out _ _ ?_ (fun hHeld => ?_)
        · exact F_26.out
        clear hK K
        try simp only [sx]
        refine rdH 6 rfl fun K hK => ?_
        have sc := Px_26.out.cell 0
        have sf := Px_26.out.free 0
        go_simp
        obtain ⟨w27,hw27⟩ : ∃ v,v = w26.setCell ⟨nx,0,none⟩ (.pointer (some ⟨ba,0,none⟩)) := ⟨_,rfl⟩
        rw [← hw27]
        have F_27 := Lib.hid (F_26.out.setCell (g := nx) (i := 0) Zx.out (.pointer (some ⟨ba,0,none⟩)))
        rw [← hw27] at F_27
        have Ma_27 := Lib.hid (Ma_26.out.far (n := nx) (i := 0) Exa.out.1 Exa.out.2.1 Exa.out.2.2 (.pointer (some ⟨ba,0,none⟩)))
        rw [← hw27] at Ma_27
        have Py_27 := Lib.hid (Py_26.out.far (p := ⟨nx,0,none⟩) (fun e => (Dxy.out) e.symm) (.pointer (some ⟨ba,0,none⟩)))
        rw [← hw27] at Py_27
        have Px_27 := Lib.hid (Px_26.out.set_ 0 (.pointer (some ⟨ba,0,none⟩)))
        rw [← hw27] at Px_27
        have Mb_27 := Lib.hid (Mb.out.far (n := nx) (i := 0) Exb.out.1 Exb.out.2.1 Exb.out.2.2 (.pointer (some ⟨ba,0,none⟩)))
        rw [← hw27] at Mb_27
        clear sc sf hw27
        refine hK.out _ _ ?_ (fun hHeld => ?_)
        · exact F_27.out
        clear hK K
        try simp only [sx]
        refine rdH 7 rfl fun K hK => ?_
        have sc := Py_27.out.cell 0
        have sf := Py_27.out.free 0
        go_simp
        obtain ⟨w28,hw28⟩ : ∃ v,v = w27.setCell ⟨ny,0,none⟩ (.pointer (some ⟨bb,0,none⟩)) := ⟨_,rfl⟩
        rw [← hw28]
        have F_28 := Lib.hid (F_27.out.setCell (g := ny) (i := 0) Zy.out (.pointer (some ⟨bb,0,none⟩)))
        rw [← hw28] at F_28
        have Ma_28 := Lib.hid (Ma_27.out.far (n := ny) (i := 0) Eya.out.1 Eya.out.2.1 Eya.out.2.2 (.pointer (some ⟨bb,0,none⟩)))
        rw [← hw28] at Ma_28
        have Py_28 := Lib.hid (Py_27.out.set_ 0 (.pointer (some ⟨bb,0,none⟩)))
        rw [← hw28] at Py_28
        have Px_28 := Lib.hid (Px_27.out.far (p := ⟨ny,0,none⟩) (fun e => ((fun e => Dxy.out e.symm)) e.symm) (.pointer (some ⟨bb,0,none⟩)))
        rw [← hw28] at Px_28
        have Mb_28 := Lib.hid (Mb_27.out.far (n := ny) (i := 0) Eyb.out.1 Eyb.out.2.1 Eyb.out.2.2 (.pointer (some ⟨bb,0,none⟩)))
        rw [← hw28] at Mb_28
        clear sc sf hw28
        refine hK.out _ _ ?_ (fun hHeld => ?_)
        · exact F_28.out
        clear hK K
        try simp only [sx]
        refine wpAnyH_done (by kernel_rfl) ?_ _
        go_wp2_with fail
        go_meet
        exact ⟨_,_,ba,bb,rfl,rfl,HasAt.of_blk Px_28.out,HasAt.of_blk Py_28.out,Ma_28.out.mach,Mb_28.out.mach,F_28.out⟩
  · skip
    go_simp
    obtain ⟨nx,hnx⟩ : ∃ n,n = wz.heap.size := ⟨_,rfl⟩
    obtain ⟨w29,hw29⟩ : ∃ v,v = wz.alloc (.cells #[.pointer none] 71) := ⟨_,rfl⟩
    rw [← hw29,← hnx]
    have Px_29 : Hid (BlkAt w29 nx 71 [.pointer none]) := by rw [hw29,hnx]; exact BlkAt.new _ _ [_]
    have Zx : Hid (wk.heap.size ≤ nx) := by rw [hnx]; exact F0.out.z
    have F_29 := Lib.hid (F0.out.alloc (.cells #[.pointer none] 71))
    rw [← hw29] at F_29
    clear hw29 hnx
    refine hK.out _ _ ?_ (fun hHeld => ?_)
    · exact F_29.out
    clear hK K
    try simp only [sx]
    refine wpAnyH_ready (rs := [1,5]) (by kernel_rfl) (by simp) ?_
    refine AllReadyH.cons rfl (fun K hK => ?_) (AllReadyH.cons rfl (fun K hK => ?_) AllReadyH.nil)
    · skip
      go_simp
      refine (open_c ⟨al,n,mr,ed⟩ ⟨A1,c1,A2,c2,A3,c3⟩ _ (OA.out _ F_29.out)).mono ?_
      rintro e w30 ⟨ba,ma,ka,rfl,hge,hm,hb⟩
      have Exa : Hid (nx ≠ ba ∧ nx ≠ ma ∧ nx ≠ ka) := by have h1 := Px_29.out.lt; obtain ⟨h2,h3,h4⟩ := hge; exact ⟨Nat.ne_of_lt (Nat.lt_of_lt_of_le h1 h2),Nat.ne_of_lt (Nat.lt_of_lt_of_le h1 h3),Nat.ne_of_lt (Nat.lt_of_lt_of_le h1 h4)⟩
      have F_30 := Lib.hid (F_29.out.next hb)
      have Px_30 := Lib.hid (Px_29.out.below hb Px_29.out.lt)
      have Ma := Lib.hid hm.out
      clear hge hm hb
      refine hK.out _ _ ?_ (fun hHeld => ?_)
      · exact F_30.out
      clear hK K
      try simp only [sx]
      refine wpAnyH_ready (rs := [3,5]) (by kernel_rfl) (by simp) ?_
      refine AllReadyH.cons rfl (fun K hK => ?_) (AllReadyH.cons rfl (fun K hK => ?_) AllReadyH.nil)
      · skip
        go_simp
        refine (open_c ⟨al',n',mr',ed'⟩ ⟨A1',c1',A2',c2',A3',c3'⟩ _ (OB.out _ F_30.out)).mono ?_
        rintro e w31 ⟨bb,mb,kb,rfl,hge,hm,hb⟩
        have Exb : Hid (nx ≠ bb ∧ nx ≠ mb ∧ nx ≠ kb) := by have h1 := Px_30.out.lt; obtain ⟨h2,h3,h4⟩ := hge; exact ⟨Nat.ne_of_lt (Nat.lt_of_lt_of_le h1 h2),Nat.ne_of_lt (Nat.lt_of_lt_of_le h1 h3),Nat.ne_of_lt (Nat.lt_of_lt_of_le h1 h4)⟩
        have F_31 := Lib.hid (F_30.out.next hb)
        have Px_31 := Lib.hid (Px_30.out.below hb Px_30.out.lt)
        have Ma_31 := Lib.hid (Ma.out.below hb)
        have Mb := Lib.hid hm.out
        clear hge hm hb
        refine hK.out _ _ ?_ (fun hHeld => ?_)
        · exact F_31.out
        clear hK K
        try simp only [sx]
        refine rdH 5 rfl fun K hK => ?_
        go_simp
        obtain ⟨ny,hny⟩ : ∃ n,n = w31.heap.size := ⟨_,rfl⟩
        obtain ⟨w32,hw32⟩ : ∃ v,v = w31.alloc (.cells #[.pointer none] 71) := ⟨_,rfl⟩
        rw [← hw32,← hny]
        have Eya : Hid (ny ≠ ba ∧ ny ≠ ma ∧ ny ≠ ka) := by rw [hny]; obtain ⟨h1,h2,h3⟩ := Ma_31.out.lts; exact ⟨Nat.ne_of_gt h1,Nat.ne_of_gt h2,Nat.ne_of_gt h3⟩
        have Eyb : Hid (ny ≠ bb ∧ ny ≠ mb ∧ ny ≠ kb) := by rw [hny]; obtain ⟨h1,h2,h3⟩ := Mb.out.lts; exact ⟨Nat.ne_of_gt h1,Nat.ne_of_gt h2,Nat.ne_of_gt h3⟩
        have Dyx : Hid (ny ≠ nx) := by rw [hny]; exact Nat.ne_of_gt Px_31.out.lt
        have Py_32 : Hid (BlkAt w32 ny 71 [.pointer none]) := by rw [hw32,hny]; exact BlkAt.new _ _ [_]
        have Zy : Hid (wk.heap.size ≤ ny) := by rw [hny]; exact F_31.out.z
        have F_32 := Lib.hid (F_31.out.alloc (.cells #[.pointer none] 71))
        rw [← hw32] at F_32
        have Px_32 := Lib.hid (Px_31.out.alloc (.cells #[.pointer none] 71))
        rw [← hw32] at Px_32
        have Ma_32 := Lib.hid (Ma_31.out.alloc (.cells #[.pointer none] 71))
        rw [← hw32] at Ma_32
        have Mb_32 := Lib.hid (Mb.out.alloc (.cells #[.pointer none] 71))
        rw [← hw32] at Mb_32
        clear hw32 hny
        refine hK.out _ _ ?_ (fun hHeld => ?_)
        · exact F_32.out
        clear hK K
        try simp only [sx]
        refine rdH 6 rfl fun K hK => ?_
        have sc := Px_32.out.cell 0
        have sf := Px_32.out.free 0
        go_simp
        obtain ⟨w33,hw33⟩ : ∃ v,v = w32.setCell ⟨nx,0,none⟩ (.pointer (some ⟨ba,0,none⟩)) := ⟨_,rfl⟩
        rw [← hw33]
        have F_33 := Lib.hid (F_32.out.setCell (g := nx) (i := 0) Zx.out (.pointer (some ⟨ba,0,none⟩)))
        rw [← hw33] at F_33
        have Px_33 := Lib.hid (Px_32.out.set_ 0 (.pointer (some ⟨ba,0,none⟩)))
        rw [← hw33] at Px_33
        have Ma_33 := Lib.hid (Ma_32.out.far (n := nx) (i := 0) Exa.out.1 Exa.out.2.1 Exa.out.2.2 (.pointer (some ⟨ba,0,none⟩)))
        rw [← hw33] at Ma_33
        have Mb_33 := Lib.hid (Mb_32.out.far (n := nx) (i := 0) Exb.out.1 Exb.out.2.1 Exb.out.2.2 (.pointer (some ⟨ba,0,none⟩)))
        rw [← hw33] at Mb_33
        have Py_33 := Lib.hid (Py_32.out.far (p := ⟨nx,0,none⟩) (fun e => ((fun e => Dyx.out e.symm)) e.symm) (.pointer (some ⟨ba,0,none⟩)))
        rw [← hw33] at Py_33
        clear sc sf hw33
        refine hK.out _ _ ?_ (fun hHeld => ?_)
        · exact F_33.out
        clear hK K
        try simp only [sx]
        refine rdH 7 rfl fun K hK => ?_
        have sc := Py_33.out.cell 0
        have sf := Py_33.out.free 0
        go_simp
        obtain ⟨w34,hw34⟩ : ∃ v,v = w33.setCell ⟨ny,0,none⟩ (.pointer (some ⟨bb,0,none⟩)) := ⟨_,rfl⟩
        rw [← hw34]
        have F_34 := Lib.hid (F_33.out.setCell (g := ny) (i := 0) Zy.out (.pointer (some ⟨bb,0,none⟩)))
        rw [← hw34] at F_34
        have Px_34 := Lib.hid (Px_33.out.far (p := ⟨ny,0,none⟩) (fun e => (Dyx.out) e.symm) (.pointer (some ⟨bb,0,none⟩)))
        rw [← hw34] at Px_34
        have Ma_34 := Lib.hid (Ma_33.out.far (n := ny) (i := 0) Eya.out.1 Eya.out.2.1 Eya.out.2.2 (.pointer (some ⟨bb,0,none⟩)))
        rw [← hw34] at Ma_34
        have Mb_34 := Lib.hid (Mb_33.out.far (n := ny) (i := 0) Eyb.out.1 Eyb.out.2.1 Eyb.out.2.2 (.pointer (some ⟨bb,0,none⟩)))
        rw [← hw34] at Mb_34
        have Py_34 := Lib.hid (Py_33.out.set_ 0 (.pointer (some ⟨bb,0,none⟩)))
        rw [← hw34] at Py_34
        clear sc sf hw34
        refine hK.out _ _ ?_ (fun hHeld => ?_)
        · exact F_34.out
        clear hK K
        try simp only [sx]
        refine wpAnyH_done (by kernel_rfl) ?_ _
        go_wp2_with fail
        go_meet
        exact ⟨_,_,ba,bb,rfl,rfl,HasAt.of_blk Px_34.out,HasAt.of_blk Py_34.out,Ma_34.out.mach,Mb_34.out.mach,F_34.out⟩
      · skip
        go_simp
        obtain ⟨ny,hny⟩ : ∃ n,n = w30.heap.size := ⟨_,rfl⟩
        obtain ⟨w35,hw35⟩ : ∃ v,v = w30.alloc (.cells #[.pointer none] 71) := ⟨_,rfl⟩
        rw [← hw35,← hny]
        have Eya : Hid (ny ≠ ba ∧ ny ≠ ma ∧ ny ≠ ka) := by rw [hny]; obtain ⟨h1,h2,h3⟩ := Ma.out.lts; exact ⟨Nat.ne_of_gt h1,Nat.ne_of_gt h2,Nat.ne_of_gt h3⟩
        have Dyx : Hid (ny ≠ nx) := by rw [hny]; exact Nat.ne_of_gt Px_30.out.lt
        have Py_35 : Hid (BlkAt w35 ny 71 [.pointer none]) := by rw [hw35,hny]; exact BlkAt.new _ _ [_]
        have Zy : Hid (wk.heap.size ≤ ny) := by rw [hny]; exact F_30.out.z
        have F_35 := Lib.hid (F_30.out.alloc (.cells #[.pointer none] 71))
        rw [← hw35] at F_35
        have Px_35 := Lib.hid (Px_30.out.alloc (.cells #[.pointer none] 71))
        rw [← hw35] at Px_35
        have Ma_35 := Lib.hid (Ma.out.alloc (.cells #[.pointer none] 71))
        rw [← hw35] at Ma_35
        clear hw35 hny
        refine hK.out _ _ ?_ (fun hHeld => ?_)
        · exact F_35.out
        clear hK K
        try simp only [sx]
        refine rdH 3 rfl fun K hK => ?_
        go_simp
        refine (open_c ⟨al',n',mr',ed'⟩ ⟨A1',c1',A2',c2',A3',c3'⟩ _ (OB.out _ F_35.out)).mono ?_
        rintro e w36 ⟨bb,mb,kb,rfl,hge,hm,hb⟩
        have Exb : Hid (nx ≠ bb ∧ nx ≠ mb ∧ nx ≠ kb) := by have h1 := Px_35.out.lt; obtain ⟨h2,h3,h4⟩ := hge; exact ⟨Nat.ne_of_lt (Nat.lt_of_lt_of_le h1 h2),Nat.ne_of_lt (Nat.lt_of_lt_of_le h1 h3),Nat.ne_of_lt (Nat.lt_of_lt_of_le h1 h4)⟩
        have Eyb : Hid (ny ≠ bb ∧ ny ≠ mb ∧ ny ≠ kb) := by have h1 := Py_35.out.lt; obtain ⟨h2,h3,h4⟩ := hge; exact ⟨Nat.ne_of_lt (Nat.lt_of_lt_of_le h1 h2),Nat.ne_of_lt (Nat.lt_of_lt_of_le h1 h3),Nat.ne_of_lt (Nat.lt_of_lt_of_le h1 h4)⟩
        have F_36 := Lib.hid (F_35.out.next hb)
        have Px_36 := Lib.hid (Px_35.out.below hb Px_35.out.lt)
        have Ma_36 := Lib.hid (Ma_35.out.below hb)
        have Py_36 := Lib.hid (Py_35.out.below hb Py_35.out.lt)
        have Mb := Lib.hid hm.out
        clear hge hm hb
        refine hK.out _ _ ?_ (fun hHeld => ?_)
        · exact F_36.out
        clear hK K
        try simp only [sx]
        refine rdH 6 rfl fun K hK => ?_
        have sc := Px_36.out.cell 0
        have sf := Px_36.out.free 0
        go_simp
        obtain ⟨w37,hw37⟩ : ∃ v,v = w36.setCell ⟨nx,0,none⟩ (.pointer (some ⟨ba,0,none⟩)) := ⟨_,rfl⟩
        rw [← hw37]
        have F_37 := Lib.hid (F_36.out.setCell (g := nx) (i := 0) Zx.out (.pointer (some ⟨ba,0,none⟩)))
        rw [← hw37] at F_37
        have Px_37 := Lib.hid (Px_36.out.set_ 0 (.pointer (some ⟨ba,0,none⟩)))
        rw [← hw37] at Px_37
        have Ma_37 := Lib.hid (Ma_36.out.far (n := nx) (i := 0) Exa.out.1 Exa.out.2.1 Exa.out.2.2 (.pointer (some ⟨ba,0,none⟩)))
        rw [← hw37] at Ma_37
        have Py_37 := Lib.hid (Py_36.out.far (p := ⟨nx,0,none⟩) (fun e => ((fun e => Dyx.out e.symm)) e.symm) (.pointer (some ⟨ba,0,none⟩)))
        rw [← hw37] at Py_37
        have Mb_37 := Lib.hid (Mb.out.far (n := nx) (i := 0) Exb.out.1 Exb.out.2.1 Exb.out.2.2 (.pointer (some ⟨ba,0,none⟩)))
        rw [← hw37] at Mb_37
        clear sc sf hw37
        refine hK.out _ _ ?_ (fun hHeld => ?_)
        · exact F_37.out
        clear hK K
        try simp only [sx]
        refine rdH 7 rfl fun K hK => ?_
        have sc := Py_37.out.cell 0
        have sf := Py_37.out.free 0
        go_simp
        obtain ⟨w38,hw38⟩ : ∃ v,v = w37.setCell ⟨ny,0,none⟩ (.pointer (some ⟨bb,0,none⟩)) := ⟨_,rfl⟩
        rw [← hw38]
        have F_38 := Lib.hid (F_37.out.setCell (g := ny) (i := 0) Zy.out (.pointer (some ⟨bb,0,none⟩)))
        rw [← hw38] at F_38
        have Px_38 := Lib.hid (Px_37.out.far (p := ⟨ny,0,none⟩) (fun e => (Dyx.out) e.symm) (.pointer (some ⟨bb,0,none⟩)))
        rw [← hw38] at Px_38
        have Ma_38 := Lib.hid (Ma_37.out.far (n := ny) (i := 0) Eya.out.1 Eya.out.2.1 Eya.out.2.2 (.pointer (some ⟨bb,0,none⟩)))
        rw [← hw38] at Ma_38
        have Py_38 := Lib.hid (Py_37.out.set_ 0 (.pointer (some ⟨bb,0,none⟩)))
        rw [← hw38] at Py_38
        have Mb_38 := Lib.hid (Mb_37.out.far (n := ny) (i := 0) Eyb.out.1 Eyb.out.2.1 Eyb.out.2.2 (.pointer (some ⟨bb,0,none⟩)))
        rw [← hw38] at Mb_38
        clear sc sf hw38
        refine hK.out _ _ ?_ (fun hHeld => ?_)
        · exact F_38.out
        clear hK K
        try simp only [sx]
        refine wpAnyH_done (by kernel_rfl) ?_ _
        go_wp2_with fail
        go_meet
        exact ⟨_,_,ba,bb,rfl,rfl,HasAt.of_blk Px_38.out,HasAt.of_blk Py_38.out,Ma_38.out.mach,Mb_38.out.mach,F_38.out⟩
    · skip
      go_simp
      obtain ⟨ny,hny⟩ : ∃ n,n = w29.heap.size := ⟨_,rfl⟩
      obtain ⟨w39,hw39⟩ : ∃ v,v = w29.alloc (.cells #[.pointer none] 71) := ⟨_,rfl⟩
      rw [← hw39,← hny]
      have Dyx : Hid (ny ≠ nx) := by rw [hny]; exact Nat.ne_of_gt Px_29.out.lt
      have Py_39 : Hid (BlkAt w39 ny 71 [.pointer none]) := by rw [hw39,hny]; exact BlkAt.new _ _ [_]
      have Zy : Hid (wk.heap.size ≤ ny) := by rw [hny]; exact F_29.out.z
      have F_39 := Lib.hid (F_29.out.alloc (.cells #[.pointer none] 71))
      rw [← hw39] at F_39
      have Px_39 := Lib.hid (Px_29.out.alloc (.cells #[.pointer none] 71))
      rw [← hw39] at Px_39
      clear hw39 hny
      refine hK.out _ _ ?_ (fun hHeld => ?_)
      · exact F_39.out
      clear hK K
      try simp only [sx]
      refine rdH 1 rfl fun K hK => ?_
      go_simp
      refine (open_c ⟨al,n,mr,ed⟩ ⟨A1,c1,A2,c2,A3,c3⟩ _ (OA.out _ F_39.out)).mono ?_
      rintro e w40 ⟨ba,ma,ka,rfl,hge,hm,hb⟩
      have Exa : Hid (nx ≠ ba ∧ nx ≠ ma ∧ nx ≠ ka) := by have h1 := Px_39.out.lt; obtain ⟨h2,h3,h4⟩ := hge; exact ⟨Nat.ne_of_lt (Nat.lt_of_lt_of_le h1 h2),Nat.ne_of_lt (Nat.lt_of_lt_of_le h1 h3),Nat.ne_of_lt (Nat.lt_of_lt_of_le h1 h4)⟩
      have Eya : Hid (ny ≠ ba ∧ ny ≠ ma ∧ ny ≠ ka) := by have h1 := Py_39.out.lt; obtain ⟨h2,h3,h4⟩ := hge; exact ⟨Nat.ne_of_lt (Nat.lt_of_lt_of_le h1 h2),Nat.ne_of_lt (Nat.lt_of_lt_of_le h1 h3),Nat.ne_of_lt (Nat.lt_of_lt_of_le h1 h4)⟩
      have F_40 := Lib.hid (F_39.out.next hb)
      have Px_40 := Lib.hid (Px_39.out.below hb Px_39.out.lt)
      have Py_40 := Lib.hid (Py_39.out.below hb Py_39.out.lt)
      have Ma := Lib.hid hm.out
      clear hge hm hb
      refine hK.out _ _ ?_ (fun hHeld => ?_)
      · exact F_40.out
      clear hK K
      try simp only [sx]
      refine rdH 3 rfl fun K hK => ?_
      go_simp
      refine (open_c ⟨al',n',mr',ed'⟩ ⟨A1',c1',A2',c2',A3',c3'⟩ _ (OB.out _ F_40.out)).mono ?_
      rintro e w41 ⟨bb,mb,kb,rfl,hge,hm,hb⟩
      have Exb : Hid (nx ≠ bb ∧ nx ≠ mb ∧ nx ≠ kb) := by have h1 := Px_40.out.lt; obtain ⟨h2,h3,h4⟩ := hge; exact ⟨Nat.ne_of_lt (Nat.lt_of_lt_of_le h1 h2),Nat.ne_of_lt (Nat.lt_of_lt_of_le h1 h3),Nat.ne_of_lt (Nat.lt_of_lt_of_le h1 h4)⟩
      have Eyb : Hid (ny ≠ bb ∧ ny ≠ mb ∧ ny ≠ kb) := by have h1 := Py_40.out.lt; obtain ⟨h2,h3,h4⟩ := hge; exact ⟨Nat.ne_of_lt (Nat.lt_of_lt_of_le h1 h2),Nat.ne_of_lt (Nat.lt_of_lt_of_le h1 h3),Nat.ne_of_lt (Nat.lt_of_lt_of_le h1 h4)⟩
      have F_41 := Lib.hid (F_40.out.next hb)
      have Px_41 := Lib.hid (Px_40.out.below hb Px_40.out.lt)
      have Py_41 := Lib.hid (Py_40.out.below hb Py_40.out.lt)
      have Ma_41 := Lib.hid (Ma.out.below hb)
      have Mb := Lib.hid hm.out
      clear hge hm hb
      refine hK.out _ _ ?_ (fun hHeld => ?_)
      · exact F_41.out
      clear hK K
      try simp only [sx]
      refine rdH 6 rfl fun K hK => ?_
      have sc := Px_41.out.cell 0
      have sf := Px_41.out.free 0
      go_simp
      obtain ⟨w42,hw42⟩ : ∃ v,v = w41.setCell ⟨nx,0,none⟩ (.pointer (some ⟨ba,0,none⟩)) := ⟨_,rfl⟩
      rw [← hw42]
      have F_42 := Lib.hid (F_41.out.setCell (g := nx) (i := 0) Zx.out (.pointer (some ⟨ba,0,none⟩)))
      rw [← hw42] at F_42
      have Px_42 := Lib.hid (Px_41.out.set_ 0 (.pointer (some ⟨ba,0,none⟩)))
      rw [← hw42] at Px_42
      have Py_42 := Lib.hid (Py_41.out.far (p := ⟨nx,0,none⟩) (fun e => ((fun e => Dyx.out e.symm)) e.symm) (.pointer (some ⟨ba,0,none⟩)))
      rw [← hw42] at Py_42
      have Ma_42 := Lib.hid (Ma_41.out.far (n := nx) (i := 0) Exa.out.1 Exa.out.2.1 Exa.out.2.2 (.pointer (some ⟨ba,0,none⟩)))
      rw [← hw42] at Ma_42
      have Mb_42 := Lib.hid (Mb.out.far (n := nx) (i := 0) Exb.out.1 Exb.out.2.1 Exb.out.2.2 (.pointer (some ⟨ba,0,none⟩)))
      rw [← hw42] at Mb_42
      clear sc sf hw42
      refine hK.out _ _ ?_ (fun hHeld => ?_)
      · exact F_42.out
      clear hK K
      try simp only [sx]
      refine rdH 7 rfl fun K hK => ?_
      have sc := Py_42.out.cell 0
      have sf := Py_42.out.free 0
      go_simp
      obtain ⟨w43,hw43⟩ : ∃ v,v = w42.setCell ⟨ny,0,none⟩ (.pointer (some ⟨bb,0,none⟩)) := ⟨_,rfl⟩
      rw [← hw43]
      have F_43 := Lib.hid (F_42.out.setCell (g := ny) (i := 0) Zy.out (.pointer (some ⟨bb,0,none⟩)))
      rw [← hw43] at F_43
      have Px_43 := Lib.hid (Px_42.out.far (p := ⟨ny,0,none⟩) (fun e => (Dyx.out) e.symm) (.pointer (some ⟨bb,0,none⟩)))
      rw [← hw43] at Px_43
      have Py_43 := Lib.hid (Py_42.out.set_ 0 (.pointer (some ⟨bb,0,none⟩)))
      rw [← hw43] at Py_43
      have Ma_43 := Lib.hid (Ma_42.out.far (n := ny) (i := 0) Eya.out.1 Eya.out.2.1 Eya.out.2.2 (.pointer (some ⟨bb,0,none⟩)))
      rw [← hw43] at Ma_43
      have Mb_43 := Lib.hid (Mb_42.out.far (n := ny) (i := 0) Eyb.out.1 Eyb.out.2.1 Eyb.out.2.2 (.pointer (some ⟨bb,0,none⟩)))
      rw [← hw43] at Mb_43
      clear sc sf hw43
      refine hK.out _ _ ?_ (fun hHeld => ?_)
      · exact F_43.out
      clear hK K
      try simp only [sx]
      refine wpAnyH_done (by kernel_rfl) ?_ _
      go_wp2_with fail
      go_meet
      exact ⟨_,_,ba,bb,rfl,rfl,HasAt.of_blk Px_43.out,HasAt.of_blk Py_43.out,Ma_43.out.mach,Mb_43.out.mach,F_43.out⟩
  · skip
    go_simp
    obtain ⟨ny,hny⟩ : ∃ n,n = wz.heap.size := ⟨_,rfl⟩
    obtain ⟨w44,hw44⟩ : ∃ v,v = wz.alloc (.cells #[.pointer none] 71) := ⟨_,rfl⟩
    rw [← hw44,← hny]
    have Py_44 : Hid (BlkAt w44 ny 71 [.pointer none]) := by rw [hw44,hny]; exact BlkAt.new _ _ [_]
    have Zy : Hid (wk.heap.size ≤ ny) := by rw [hny]; exact F0.out.z
    have F_44 := Lib.hid (F0.out.alloc (.cells #[.pointer none] 71))
    rw [← hw44] at F_44
    clear hw44 hny
    refine hK.out _ _ ?_ (fun hHeld => ?_)
    · exact F_44.out
    clear hK K
    try simp only [sx]
    refine wpAnyH_ready (rs := [1,4]) (by kernel_rfl) (by simp) ?_
    refine AllReadyH.cons rfl (fun K hK => ?_) (AllReadyH.cons rfl (fun K hK => ?_) AllReadyH.nil)
    · skip
      go_simp
      refine (open_c ⟨al,n,mr,ed⟩ ⟨A1,c1,A2,c2,A3,c3⟩ _ (OA.out _ F_44.out)).mono ?_
      rintro e w45 ⟨ba,ma,ka,rfl,hge,hm,hb⟩
      have Eya : Hid (ny ≠ ba ∧ ny ≠ ma ∧ ny ≠ ka) := by have h1 := Py_44.out.lt; obtain ⟨h2,h3,h4⟩ := hge; exact ⟨Nat.ne_of_lt (Nat.lt_of_lt_of_le h1 h2),Nat.ne_of_lt (Nat.lt_of_lt_of_le h1 h3),Nat.ne_of_lt (Nat.lt_of_lt_of_le h1 h4)⟩
      have F_45 := Lib.hid (F_44.out.next hb)
      have Py_45 := Lib.hid (Py_44.out.below hb Py_44.out.lt)
      have Ma := Lib.hid hm.out
      clear hge hm hb
      refine hK.out _ _ ?_ (fun hHeld => ?_)
      · exact F_45.out
      clear hK K
      try simp only [sx]
      refine wpAnyH_ready (rs := [3,4]) (by kernel_rfl) (by simp) ?_
      refine AllReadyH.cons rfl (fun K hK => ?_) (AllReadyH.cons rfl (fun K hK => ?_) AllReadyH.nil)
      · skip
        go_simp
        refine (open_c ⟨al',n',mr',ed'⟩ ⟨A1',c1',A2',c2',A3',c3'⟩ _ (OB.out _ F_45.out)).mono ?_
        rintro e w46 ⟨bb,mb,kb,rfl,hge,hm,hb⟩
        have Eyb : Hid (ny ≠ bb ∧ ny ≠ mb ∧ ny ≠ kb) := by have h1 := Py_45.out.lt; obtain ⟨h2,h3,h4⟩ := hge; exact ⟨Nat.ne_of_lt (Nat.lt_of_lt_of_le h1 h2),Nat.ne_of_lt (Nat.lt_of_lt_of_le h1 h3),Nat.ne_of_lt (Nat.lt_of_lt_of_le h1 h4)⟩
        have F_46 := Lib.hid (F_45.out.next hb)
        have Py_46 := Lib.hid (Py_45.out.below hb Py_45.out.lt)
        have Ma_46 := Lib.hid (Ma.out.below hb)
        have Mb := Lib.hid hm.out
        clear hge hm hb
        refine hK.out _ _ ?_ (fun hHeld => ?_)
        · exact F_46.out
        clear hK K
        try simp only [sx]
        refine rdH 4 rfl fun K hK => ?_
        go_simp
        obtain ⟨nx,hnx⟩ : ∃ n,n = w46.heap.size := ⟨_,rfl⟩
        obtain ⟨w47,hw47⟩ : ∃ v,v = w46.alloc (.cells #[.pointer none] 71) := ⟨_,rfl⟩
        rw [← hw47,← hnx]
        have Exa : Hid (nx ≠ ba ∧ nx ≠ ma ∧ nx ≠ ka) := by rw [hnx]; obtain ⟨h1,h2,h3⟩ := Ma_46.out.lts; exact ⟨Nat.ne_of_gt h1,Nat.ne_of_gt h2,Nat.ne_of_gt h3⟩
        have Exb : Hid (nx ≠ bb ∧ nx ≠ mb ∧ nx ≠ kb) := by rw [hnx]; obtain ⟨h1,h2,h3⟩ := Mb.out.lts; exact ⟨Nat.ne_of_gt h1,Nat.ne_of_gt h2,Nat.ne_of_gt h3⟩
        have Dxy : Hid (nx ≠ ny) := by rw [hnx]; exact Nat.ne_of_gt Py_46.out.lt
        have Px_47 : Hid (BlkAt w47 nx 71 [.pointer none]) := by rw [hw47,hnx]; exact BlkAt.new _ _ [_]
        have Zx : Hid (wk.heap.size ≤ nx) := by rw [hnx]; exact F_46.out.z
        have F_47 := Lib.hid (F_46.out.alloc (.cells #[.pointer none] 71))
        rw [← hw47] at F_47
        have Py_47 := Lib.hid (Py_46.out.alloc (.cells #[.pointer none] 71))
        rw [← hw47] at Py_47
        have Ma_47 := Lib.hid (Ma_46.out.alloc (.cells #[.pointer none] 71))
        rw [← hw47] at Ma_47
        have Mb_47 := Lib.hid (Mb.out.alloc (.cells #[.pointer none] 71))
        rw [← hw47] at Mb_47
        clear hw47 hnx
        refine hK.out _ _ ?_ (fun hHeld => ?_)
        · exact F_47.out
        clear hK K
        try simp only [sx]
        refine rdH 6 rfl fun K hK => ?_
        have sc := Px_47.out.cell 0
        have sf := Px_47.out.free 0
        go_simp
        obtain ⟨w48,hw48⟩ : ∃ v,v = w47.setCell ⟨nx,0,none⟩ (.pointer (some ⟨ba,0,none⟩)) := ⟨_,rfl⟩
        rw [← hw48]
        have F_48 := Lib.hid (F_47.out.setCell (g := nx) (i := 0) Zx.out (.pointer (some ⟨ba,0,none⟩)))
        rw [← hw48] at F_48
        have Py_48 := Lib.hid (Py_47.out.far (p := ⟨nx,0,none⟩) (fun e => (Dxy.out) e.symm) (.pointer (some ⟨ba,0,none⟩)))
        rw [← hw48] at Py_48
        have Ma_48 := Lib.hid (Ma_47.out.far (n := nx) (i := 0) Exa.out.1 Exa.out.2.1 Exa.out.2.2 (.pointer (some ⟨ba,0,none⟩)))
        rw [← hw48] at Ma_48
        have Mb_48 := Lib.hid (Mb_47.out.far (n := nx) (i := 0) Exb.out.1 Exb.out.2.1 Exb.out.2.2 (.pointer (some ⟨ba,0,none⟩)))
        rw [← hw48] at Mb_48
        have Px_48 := Lib.hid (Px_47.out.set_ 0 (.pointer (some ⟨ba,0,none⟩)))
        rw [← hw48] at Px_48
        clear sc sf hw48
        refine hK.out _ _ ?_ (fun hHeld => ?_)
        · exact F_48.out
        clear hK K
        try simp only [sx]
        refine rdH 7 rfl fun K hK => ?_
        have sc := Py_48.out.cell 0
        have sf := Py_48.out.free 0
        go_simp
        obtain ⟨w49,hw49⟩ : ∃ v,v = w48.setCell ⟨ny,0,none⟩ (.pointer (some ⟨bb,0,none⟩)) := ⟨_,rfl⟩
        rw [← hw49]
        have F_49 := Lib.hid (F_48.out.setCell (g := ny) (i := 0) Zy.out (.pointer (some ⟨bb,0,none⟩)))
        rw [← hw49] at F_49
        have Py_49 := Lib.hid (Py_48.out.set_ 0 (.pointer (some ⟨bb,0,none⟩)))
        rw [← hw49] at Py_49
        have Ma_49 := Lib.hid (Ma_48.out.far (n := ny) (i := 0) Eya.out.1 Eya.out.2.1 Eya.out.2.2 (.pointer (some ⟨bb,0,none⟩)))
        rw [← hw49] at Ma_49
        have Mb_49 := Lib.hid (Mb_48.out.far (n := ny) (i := 0) Eyb.out.1 Eyb.out.2.1 Eyb.out.2.2 (.pointer (some ⟨bb,0,none⟩)))
        rw [← hw49] at Mb_49
        have Px_49 := Lib.hid (Px_48.out.far (p := ⟨ny,0,none⟩) (fun e => ((fun e => Dxy.out e.symm)) e.symm) (.pointer (some ⟨bb,0,none⟩)))
        rw [← hw49] at Px_49
        clear sc sf hw49
        refine hK.out _ _ ?_ (fun hHeld => ?_)
        · exact F_49.out
        clear hK K
        try simp only [sx]
        refine wpAnyH_done (by kernel_rfl) ?_ _
        go_wp2_with fail
        go_meet
        exact ⟨_,_,ba,bb,rfl,rfl,HasAt.of_blk Px_49.out,HasAt.of_blk Py_49.out,Ma_49.out.mach,Mb_49.out.mach,F_49.out⟩
      · skip
        go_simp
        obtain ⟨nx,hnx⟩ : ∃ n,n = w45.heap.size := ⟨_,rfl⟩
        obtain ⟨w50,hw50⟩ : ∃ v,v = w45.alloc (.cells #[.pointer none] 71) := ⟨_,rfl⟩
        rw [← hw50,← hnx]
        have Exa : Hid (nx ≠ ba ∧ nx ≠ ma ∧ nx ≠ ka) := by rw [hnx]; obtain ⟨h1,h2,h3⟩ := Ma.out.lts; exact ⟨Nat.ne_of_gt h1,Nat.ne_of_gt h2,Nat.ne_of_gt h3⟩
        have Dxy : Hid (nx ≠ ny) := by rw [hnx]; exact Nat.ne_of_gt Py_45.out.lt
        have Px_50 : Hid (BlkAt w50 nx 71 [.pointer none]) := by rw [hw50,hnx]; exact BlkAt.new _ _ [_]
        have Zx : Hid (wk.heap.size ≤ nx) := by rw [hnx]; exact F_45.out.z
        have F_50 := Lib.hid (F_45.out.alloc (.cells #[.pointer none] 71))
        rw [← hw50] at F_50
        have Py_50 := Lib.hid (Py_45.out.alloc (.cells #[.pointer none] 71))
        rw [← hw50] at Py_50
        have Ma_50 := Lib.hid (Ma.out.alloc (.cells #[.pointer none] 71))
        rw [← hw50] at Ma_50
        clear hw50 hnx
        refine hK.out _ _ ?_ (fun hHeld => ?_)
        · exact F_50.out
        clear hK K
        try simp only [sx]
        refine rdH 3 rfl fun K hK => ?_
        go_simp
        refine (open_c ⟨al',n',mr',ed'⟩ ⟨A1',c1',A2',c2',A3',c3'⟩ _ (OB.out _ F_50.out)).mono ?_
        rintro e w51 ⟨bb,mb,kb,rfl,hge,hm,hb⟩
        have Exb : Hid (nx ≠ bb ∧ nx ≠ mb ∧ nx ≠ kb) := by have h1 := Px_50.out.lt; obtain ⟨h2,h3,h4⟩ := hge; exact ⟨Nat.ne_of_lt (Nat.lt_of_lt_of_le h1 h2),Nat.ne_of_lt (Nat.lt_of_lt_of_le h1 h3),Nat.ne_of_lt (Nat.lt_of_lt_of_le h1 h4)⟩
        have Eyb : Hid (ny ≠ bb ∧ ny ≠ mb ∧ ny ≠ kb) := by have h1 := Py_50.out.lt; obtain ⟨h2,h3,h4⟩ := hge; exact ⟨Nat.ne_of_lt (Nat.lt_of_lt_of_le h1 h2),Nat.ne_of_lt (Nat.lt_of_lt_of_le h1 h3),Nat.ne_of_lt (Nat.lt_of_lt_of_le h1 h4)⟩
        have F_51 := Lib.hid (F_50.out.next hb)
        have Py_51 := Lib.hid (Py_50.out.below hb Py_50.out.lt)
        have Ma_51 := Lib.hid (Ma_50.out.below hb)
        have Px_51 := Lib.hid (Px_50.out.below hb Px_50.out.lt)
        have Mb := Lib.hid hm.out
        clear hge hm hb
        refine hK.out _ _ ?_ (fun hHeld => ?_)
        · exact F_51.out
        clear hK K
        try simp only [sx]
        refine rdH 6 rfl fun K hK => ?_
        have sc := Px_51.out.cell 0
        have sf := Px_51.out.free 0
        go_simp
        obtain ⟨w52,hw52⟩ : ∃ v,v = w51.setCell ⟨nx,0,none⟩ (.pointer (some ⟨ba,0,none⟩)) := ⟨_,rfl⟩
        rw [← hw52]
        have F_52 := Lib.hid (F_51.out.setCell (g := nx) (i := 0) Zx.out (.pointer (some ⟨ba,0,none⟩)))
        rw [← hw52] at F_52
        have Py_52 := Lib.hid (Py_51.out.far (p := ⟨nx,0,none⟩) (fun e => (Dxy.out) e.symm) (.pointer (some ⟨ba,0,none⟩)))
        rw [← hw52] at Py_52
        have Ma_52 := Lib.hid (Ma_51.out.far (n := nx) (i := 0) Exa.out.1 Exa.out.2.1 Exa.out.2.2 (.pointer (some ⟨ba,0,none⟩)))
        rw [← hw52] at Ma_52
        have Px_52 := Lib.hid (Px_51.out.set_ 0 (.pointer (some ⟨ba,0,none⟩)))
        rw [← hw52] at Px_52
        have Mb_52 := Lib.hid (Mb.out.far (n := nx) (i := 0) Exb.out.1 Exb.out.2.1 Exb.out.2.2 (.pointer (some ⟨ba,0,none⟩)))
        rw [← hw52] at Mb_52
        clear sc sf hw52
        refine hK.out _ _ ?_ (fun hHeld => ?_)
        · exact F_52.out
        clear hK K
        try simp only [sx]
        refine rdH 7 rfl fun K hK => ?_
        have sc := Py_52.out.cell 0
        have sf := Py_52.out.free 0
        go_simp
        obtain ⟨w53,hw53⟩ : ∃ v,v = w52.setCell ⟨ny,0,none⟩ (.pointer (some ⟨bb,0,none⟩)) := ⟨_,rfl⟩
        rw [← hw53]
        have F_53 := Lib.hid (F_52.out.setCell (g := ny) (i := 0) Zy.out (.pointer (some ⟨bb,0,none⟩)))
        rw [← hw53] at F_53
        have Py_53 := Lib.hid (Py_52.out.set_ 0 (.pointer (some ⟨bb,0,none⟩)))
        rw [← hw53] at Py_53
        have Ma_53 := Lib.hid (Ma_52.out.far (n := ny) (i := 0) Eya.out.1 Eya.out.2.1 Eya.out.2.2 (.pointer (some ⟨bb,0,none⟩)))
        rw [← hw53] at Ma_53
        have Px_53 := Lib.hid (Px_52.out.far (p := ⟨ny,0,none⟩) (fun e => ((fun e => Dxy.out e.symm)) e.symm) (.pointer (some ⟨bb,0,none⟩)))
        rw [← hw53] at Px_53
        have Mb_53 := Lib.hid (Mb_52.out.far (n := ny) (i := 0) Eyb.out.1 Eyb.out.2.1 Eyb.out.2.2 (.pointer (some ⟨bb,0,none⟩)))
        rw [← hw53] at Mb_53
        clear sc sf hw53
        refine hK.out _ _ ?_ (fun hHeld => ?_)
        · exact F_53.out
        clear hK K
        try simp only [sx]
        refine wpAnyH_done (by kernel_rfl) ?_ _
        go_wp2_with fail
        go_meet
        exact ⟨_,_,ba,bb,rfl,rfl,HasAt.of_blk Px_53.out,HasAt.of_blk Py_53.out,Ma_53.out.mach,Mb_53.out.mach,F_53.out⟩
    · skip
      go_simp
      obtain ⟨nx,hnx⟩ : ∃ n,n = w44.heap.size := ⟨_,rfl⟩
      obtain ⟨w54,hw54⟩ : ∃ v,v = w44.alloc (.cells #[.pointer none] 71) := ⟨_,rfl⟩
      rw [← hw54,← hnx]
      have Dxy : Hid (nx ≠ ny) := by rw [hnx]; exact Nat.ne_of_gt Py_44.out.lt
      have Px_54 : Hid (BlkAt w54 nx 71 [.pointer none]) := by rw [hw54,hnx]; exact BlkAt.new _ _ [_]
      have Zx : Hid (wk.heap.size ≤ nx) := by rw [hnx]; exact F_44.out.z
      have F_54 := Lib.hid (F_44.out.alloc (.cells #[.pointer none] 71))
      rw [← hw54] at F_54
      have Py_54 := Lib.hid (Py_44.out.alloc (.cells #[.pointer none] 71))
      rw [← hw54] at Py_54
      clear hw54 hnx
      refine hK.out _ _ ?_ (fun hHeld => ?_)
      · exact F_54.out
      clear hK K
      try simp only [sx]
      refine rdH 1 rfl fun K hK => ?_
      go_simp
      refine (open_c ⟨al,n,mr,ed⟩ ⟨A1,c1,A2,c2,A3,c3⟩ _ (OA.out _ F_54.out)).mono ?_
      rintro e w55 ⟨ba,ma,ka,rfl,hge,hm,hb⟩
      have Exa : Hid (nx ≠ ba ∧ nx ≠ ma ∧ nx ≠ ka) := by have h1 := Px_54.out.lt; obtain ⟨h2,h3,h4⟩ := hge; exact ⟨Nat.ne_of_lt (Nat.lt_of_lt_of_le h1 h2),Nat.ne_of_lt (Nat.lt_of_lt_of_le h1 h3),Nat.ne_of_lt (Nat.lt_of_lt_of_le h1 h4)⟩
      have Eya : Hid (ny ≠ ba ∧ ny ≠ ma ∧ ny ≠ ka) := by have h1 := Py_54.out.lt; obtain ⟨h2,h3,h4⟩ := hge; exact ⟨Nat.ne_of_lt (Nat.lt_of_lt_of_le h1 h2),Nat.ne_of_lt (Nat.lt_of_lt_of_le h1 h3),Nat.ne_of_lt (Nat.lt_of_lt_of_le h1 h4)⟩
      have F_55 := Lib.hid (F_54.out.next hb)
      have Py_55 := Lib.hid (Py_54.out.below hb Py_54.out.lt)
      have Px_55 := Lib.hid (Px_54.out.below hb Px_54.out.lt)
      have Ma := Lib.hid hm.out
      clear hge hm hb
      refine hK.out _ _ ?_ (fun hHeld => ?_)
      · exact F_55.out
      clear hK K
      try simp only [sx]
      refine rdH 3 rfl fun K hK => ?_
      go_simp
      refine (open_c ⟨al',n',mr',ed'⟩ ⟨A1',c1',A2',c2',A3',c3'⟩ _ (OB.out _ F_55.out)).mono ?_
      rintro e w56 ⟨bb,mb,kb,rfl,hge,hm,hb⟩
      have Exb : Hid (nx ≠ bb ∧ nx ≠ mb ∧ nx ≠ kb) := by have h1 := Px_55.out.lt; obtain ⟨h2,h3,h4⟩ := hge; exact ⟨Nat.ne_of_lt (Nat.lt_of_lt_of_le h1 h2),Nat.ne_of_lt (Nat.lt_of_lt_of_le h1 h3),Nat.ne_of_lt (Nat.lt_of_lt_of_le h1 h4)⟩
      have Eyb : Hid (ny ≠ bb ∧ ny ≠ mb ∧ ny ≠ kb) := by have h1 := Py_55.out.lt; obtain ⟨h2,h3,h4⟩ := hge; exact ⟨Nat.ne_of_lt (Nat.lt_of_lt_of_le h1 h2),Nat.ne_of_lt (Nat.lt_of_lt_of_le h1 h3),Nat.ne_of_lt (Nat.lt_of_lt_of_le h1 h4)⟩
      have F_56 := Lib.hid (F_55.out.next hb)
      have Py_56 := Lib.hid (Py_55.out.below hb Py_55.out.lt)
      have Px_56 := Lib.hid (Px_55.out.below hb Px_55.out.lt)
      have Ma_56 := Lib.hid (Ma.out.below hb)
      have Mb := Lib.hid hm.out
      clear hge hm hb
      refine hK.out _ _ ?_ (fun hHeld => ?_)
      · exact F_56.out
      clear hK K
      try simp only [sx]
      refine rdH 6 rfl fun K hK => ?_
      have sc := Px_56.out.cell 0
      have sf := Px_56.out.free 0
      go_simp
      obtain ⟨w57,hw57⟩ : ∃ v,v = w56.setCell ⟨nx,0,none⟩ (.pointer (some ⟨ba,0,none⟩)) := ⟨_,rfl⟩
      rw [← hw57]
      have F_57 := Lib.hid (F_56.out.setCell (g := nx) (i := 0) Zx.out (.pointer (some ⟨ba,0,none⟩)))
      rw [← hw57] at F_57
      have Py_57 := Lib.hid (Py_56.out.far (p := ⟨nx,0,none⟩) (fun e => (Dxy.out) e.symm) (.pointer (some ⟨ba,0,none⟩)))
      rw [← hw57] at Py_57
      have Px_57 := Lib.hid (Px_56.out.set_ 0 (.pointer (some ⟨ba,0,none⟩)))
      rw [← hw57] at Px_57
      have Ma_57 := Lib.hid (Ma_56.out.far (n := nx) (i := 0) Exa.out.1 Exa.out.2.1 Exa.out.2.2 (.pointer (some ⟨ba,0,none⟩)))
      rw [← hw57] at Ma_57
      have Mb_57 := Lib.hid (Mb.out.far (n := nx) (i := 0) Exb.out.1 Exb.out.2.1 Exb.out.2.2 (.pointer (some ⟨ba,0,none⟩)))
      rw [← hw57] at Mb_57
      clear sc sf hw57
      refine hK.out _ _ ?_ (fun hHeld => ?_)
      · exact F_57.out
      clear hK K
      try simp only [sx]
      refine rdH 7 rfl fun K hK => ?_
      have sc := Py_57.out.cell 0
      have sf := Py_57.out.free 0
      go_simp
      obtain ⟨w58,hw58⟩ : ∃ v,v = w57.setCell ⟨ny,0,none⟩ (.pointer (some ⟨bb,0,none⟩)) := ⟨_,rfl⟩
      rw [← hw58]
      have F_58 := Lib.hid (F_57.out.setCell (g := ny) (i := 0) Zy.out (.pointer (some ⟨bb,0,none⟩)))
      rw [← hw58] at F_58
      have Py_58 := Lib.hid (Py_57.out.set_ 0 (.pointer (some ⟨bb,0,none⟩)))
      rw [← hw58] at Py_58
      have Px_58 := Lib.hid (Px_57.out.far (p := ⟨ny,0,none⟩) (fun e => ((fun e => Dxy.out e.symm)) e.symm) (.pointer (some ⟨bb,0,none⟩)))
      rw [← hw58] at Px_58
      have Ma_58 := Lib.hid (Ma_57.out.far (n := ny) (i := 0) Eya.out.1 Eya.out.2.1 Eya.out.2.2 (.pointer (some ⟨bb,0,none⟩)))
      rw [← hw58] at Ma_58
      have Mb_58 := Lib.hid (Mb_57.out.far (n := ny) (i := 0) Eyb.out.1 Eyb.out.2.1 Eyb.out.2.2 (.pointer (some ⟨bb,0,none⟩)))
      rw [← hw58] at Mb_58
      clear sc sf hw58
      refine hK.out _ _ ?_ (fun hHeld => ?_)
      · exact F_58.out
      clear hK K
      try simp only [sx]
      refine wpAnyH_done (by kernel_rfl) ?_ _
      go_wp2_with fail
      go_meet
      exact ⟨_,_,ba,bb,rfl,rfl,HasAt.of_blk Px_58.out,HasAt.of_blk Py_58.out,Ma_58.out.mach,Mb_58.out.mach,F_58.out⟩
 case rest =>
  obtain ⟨nx,ny,ba,bb,rfl,rfl,PX,PY,MA,MB,FC⟩ := hcut
  have WC := Lib.hid (W2.out.next FC.out.b)
  have C3 := Lib.hid (E3.out.below FC.out.b)
  have C5 := Lib.hid (E5.out.below FC.out.b)
  have HSE : Hid (IntsAt wc A1 al) := (OA.out wc FC.out).al
  have HSP : Hid (∀ (V : World) (x y : Int),Below wc.heap.size wc V → Calls Tryd.prog 41 (#[.agg #[.int .i64 x,.int .i64 y]] ++ #[.pointer (some ⟨nx,0,none⟩),.pointer (some ⟨w.heap.size + 1 + 1,0,none⟩),.pointer (some ⟨ny,0,none⟩)]) V (Ret (.bool (incP ⟨al,n,mr,ed⟩ ⟨al',n',mr',ed'⟩ kind (x,y))) V)) := fun V x y hb =>
   inc1_c nx (w.heap.size + 1 + 1) ny ba bb _ _ kind x y V ((PX.out.below hb).c 0 _ rfl) ((C5.out.below hb).c 0 _ rfl) ((PY.out.below hb).c 0 _ rfl) (PX.out.below hb).z (C5.out.below hb).z (PY.out.below hb).z (MA.out.below hb) (MB.out.below hb)
  have SC := Lib.hid (search_c A1 c1 al ba bb ⟨al,n,mr,ed⟩ ⟨al',n',mr',ed'⟩ 41 #[.pointer (some ⟨nx,0,none⟩),.pointer (some ⟨w.heap.size + 1 + 1,0,none⟩),.pointer (some ⟨ny,0,none⟩)] (fun args w => by rfl) (incP ⟨al,n,mr,ed⟩ ⟨al',n',mr',ed'⟩ kind) wc HSE.out (Nat.le_trans LAL.out (by decide)) HINC.out RA.out RB.out HN.out MA.out MB.out HSP.out HD.out)
  have x0 := PX.out.c 0 _ rfl
  have y0 := PY.out.c 0 _ rfl
  have a0 := C3.out.c 0 _ rfl
  clear E3 E4 E5 OA OB HSE HSP C3 C5 PX PY MA MB
  go_wp2_with fail
  refine SC.out.mono ?_
  rintro e w5 ⟨A,c,l,f,rfl,hl,hb,hs⟩
  go_wp2_with fail
  refine bodyPost_ret (v := .tuple #[.slice A l.length c,.bool (!f),.int .i64 0]) (by simp [results,Tryd.results15,go_sem]) rfl ?_
  refine ⟨A,c,l,!f,rfl,hl,(WC.out.next hb).b,?_⟩
  rcases hs.out with ⟨h0,h⟩ | ⟨h0,h1,h2⟩
  · exact .inl ⟨by rw [h0]; rfl,h⟩
  · exact .inr ⟨by rw [h0]; rfl,h1,h2⟩
end Go.Proofs.YtkifgffhoenaoaaDoor
