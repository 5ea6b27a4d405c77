/-
  The canonical automaton.
-/
import Derived.Test.YtkbmenpggiojeaaMk
import Derived.Deep.RegionLaw
import Derived.Deep.DeepCutAuto
namespace Go.Proofs.Ytkbmenpggiojeaa
open Go.RowKit
set_option linter.unusedSimpArgs false
set_option linter.unusedVariables false

/-- An automaton that is being made, in block b. -/
structure OutSt (b : Nat) (nn : Int) (v1 v2 v3 : Value) (ms : List Int) (es : List Ed) (w : World) : Prop where
  blk : BlkAt w b 39 [v1, .int .i64 nn, v2, v3]
  o2 : OwnI (b + 1) ms v2 w
  o3 : Own Ed.cells 3 73 (b + 1) es v3 w
  d : ∀ g, v2.ownBlock = some g → v3.ownBlock ≠ some g
section
variable {b : Nat} {nn : Int} {v1 v2 v3 : Value} {ms : List Int} {es : List Ed} {w w1 : World}
theorem OutSt.below (h : OutSt b nn v1 v2 v3 ms es w) (hb : Below w.heap.size w w1) : OutSt b nn v1 v2 v3 ms es w1 :=
  ⟨h.blk.below hb h.blk.lt, h.o2.below hb (Nat.le_refl _), h.o3.below hb (Nat.le_refl _), h.d⟩
theorem OutSt.z (h : OutSt b nn v1 v2 v3 ms es w) (o : Obj) : b + 1 ≤ (w.alloc o).heap.size := by have := h.blk.lt; simp only [World.size_alloc]; omega
theorem OutSt.mark (h : OutSt b nn v1 v2 v3 ms es w) {v2' : Value} {ms' : List Int} (ho : OwnI (b + 1) ms' v2' w1) (hg : w.grownBy w1 v2.ownBlock) (hat : v2'.ownBlock = v2.ownBlock ∨ v2'.ownBlock = some w.heap.size) :
    OutSt b nn v1 v2' v3 ms' es (w1.setCell ⟨b, 2, none⟩ v2') := by
  have hd : ∀ g, v2'.ownBlock = some g → v3.ownBlock ≠ some g := fun g hg' h3 => by
    rcases hat with e | e
    · exact h.d g (e ▸ hg') h3
    · rw [e] at hg'; cases hg'; exact Nat.lt_irrefl _ (h.o3.lt _ h3).2
  refine ⟨?_, ownsRow_setCell_below ho (Nat.lt_succ_self _) _, ownsRow_setCell_below (h.o3.kept hg ?_) (Nat.lt_succ_self _) _, hd⟩
  · exact (h.blk.grown hg (fun e => by have := (h.o2.lt _ e.symm).1; omega)).set_ 2 v2'
  · cases h3 : v3.ownBlock with
    | none => exact .inl rfl
    | some g => exact .inr (fun e => h.d g e.symm h3)
theorem OutSt.edge (h : OutSt b nn v1 v2 v3 ms es w) {v3' : Value} {es' : List Ed} (ho : Own Ed.cells 3 73 (b + 1) es' v3' w1) (hg : w.grownBy w1 v3.ownBlock) (hat : v3'.ownBlock = v3.ownBlock ∨ v3'.ownBlock = some w.heap.size) :
    OutSt b nn v1 v2 v3' ms es' (w1.setCell ⟨b, 3, none⟩ v3') := by
  have hd : ∀ g, v2.ownBlock = some g → v3'.ownBlock ≠ some g := fun g hg' h3 => by
    rcases hat with e | e
    · exact h.d g hg' (e ▸ h3)
    · rw [e] at h3; cases h3; exact Nat.lt_irrefl _ (h.o2.lt _ hg').2
  refine ⟨?_, ownsRow_setCell_below (h.o2.kept hg ?_) (Nat.lt_succ_self _) _, ownsRow_setCell_below ho (Nat.lt_succ_self _) _, hd⟩
  · exact (h.blk.grown hg (fun e => by have := (h.o3.lt _ e.symm).1; omega)).set_ 3 v3'
  · cases h2 : v2.ownBlock with
    | none => exact .inl rfl
    | some g => exact .inr (fun e => h.d g h2 e.symm)
end
/-- Where the lists of an automaton that is being made lie, and the rest of memory. -/
theorem OutSt.fro2 {b : Nat} {nn : Int} {v1 v2 v3 : Value} {ms : List Int} {es : List Ed} {w0 w w1 : World} (h : OutSt b nn v1 v2 v3 ms es w) (hb : Fro b w0 w) (hg : w.grownBy w1 v2.ownBlock) (u : Value) (i : Nat) : Fro b w0 (w1.setCell ⟨b, i, none⟩ u) :=
  (hb.grown hg fun j hj => by have := (h.o2.lt j hj).1; omega).setCell (Nat.le_refl _) u
theorem OutSt.fro3 {b : Nat} {nn : Int} {v1 v2 v3 : Value} {ms : List Int} {es : List Ed} {w0 w w1 : World} (h : OutSt b nn v1 v2 v3 ms es w) (hb : Fro b w0 w) (hg : w.grownBy w1 v3.ownBlock) (u : Value) (i : Nat) : Fro b w0 (w1.setCell ⟨b, i, none⟩ u) :=
  (hb.grown hg fun j hj => by have := (h.o3.lt j hj).1; omega).setCell (Nat.le_refl _) u

theorem Own.pushed {α : Type} {enc : α → List Value} {k T B : Nat} {l : List α} {v : Value} {w : World} {y : α} (h : w.ownsRow B T k v (l.length + 1) (l.flatMap enc ++ enc y)) : Own enc k T B (l ++ [y]) v w := by
  unfold Own; rw [List.flatMap_append, List.length_append]; simpa using h
set_option maxRecDepth 100000 in
set_option maxHeartbeats 4000000 in
theorem Canonical_c (au : Au) (p : AuP) (w : World) (hp : Au.At w au p) (hr : Raw au) (hA : p.A1 = none → au.al = [] ∧ p.c1 = 0) (hm : au.mr.length ≤ 1048576) :
    Calls Try.prog 75 #[au.val p] w (GivesAu (canonV au) w) := by
  have HP := Lib.hid hp
  have HR := Lib.hid hr
  have HA := Lib.hid hA
  have lal := hp.lal
  have n0 := hr.n0
  have n1 := hr.n1
  have hal := nodup_len 32 au.al (by
    have := hr.al.incr.pw
    exact this.imp (fun h e => by omega)) (fun x hx => by
    obtain ⟨t, ht, he⟩ := List.mem_iff_getElem.1 hx
    have := hr.al t _ ht (List.getElem?_eq_getElem ht)
    rw [he] at this; exact ⟨this.1, this.2.1⟩)
  clear hp hr hA
  have W0 : Hid (Fro w.heap.size w ((w.alloc (.cells (auCells au p).toArray 39)).alloc (.cells #[.slice none 0 0, .int .i64 0, .slice none 0 0, .slice none 0 0] 39))) := ((Fro.here w).alloc _).alloc _
  have C0 : Hid (HasAt w.heap.size (auCells au p) ((w.alloc (.cells (auCells au p).toArray 39)).alloc (.cells #[.slice none 0 0, .int .i64 0, .slice none 0 0, .slice none 0 0] 39))) := (HasAt.new w _ _ rfl).alloc _
  have R0 : Hid (BlkAt ((w.alloc (.cells (auCells au p).toArray 39)).alloc (.cells #[.slice none 0 0, .int .i64 0, .slice none 0 0, .slice none 0 0] 39)) (w.heap.size + 1) 39 [.slice none 0 0, .int .i64 0, .slice none 0 0, .slice none 0 0]) := by
    have := BlkAt.new (w.alloc (.cells (auCells au p).toArray 39)) 39 [.slice none 0 0, .int .i64 0, .slice none 0 0, .slice none 0 0]
    simpa [Hid] using this
  obtain ⟨al, n, mr, ed⟩ := au
  obtain ⟨A1, c1, A2, c2, A3, c3⟩ := p
  dsimp only [Au.val, auCells] at *
  have q0 := C0.out.c 0 _ rfl
  have q1 := C0.out.c 1 _ rfl
  have q2 := C0.out.c 2 _ rfl
  have q3 := C0.out.c 3 _ rfl
  go_enter Try.func75, Try.ntmps75
  go_wp2_with fail
  have HZ0 : Hid (w.heap.size + 2 ≤ ((w.alloc (.cells #[.slice A1 al.length c1, .int .i64 n, .slice A2 mr.length c2, .slice A3 ed.length c3] 39)).alloc (.cells #[.slice none 0 0, .int .i64 0, .slice none 0 0, .slice none 0 0] 39)).heap.size) := by unfold Hid; simp
  generalize hW : ((w.alloc (.cells #[.slice A1 al.length c1, .int .i64 n, .slice A2 mr.length c2, .slice A3 ed.length c3] 39)).alloc (.cells #[.slice none 0 0, .int .i64 0, .slice none 0 0, .slice none 0 0] 39)) = W at *
  clear hW
  refine (Found_c ⟨al, n, mr, ed⟩ ⟨A1, c1, A2, c2, A3, c3⟩ W (HP.out.below W0.out.b) HR.out).mono ?_
  rintro e w1 ⟨vF, rfl, HF, hb⟩
  have W1 := Lib.hid (W0.out.next hb)
  have HZ1 := Lib.hid (Nat.le_trans HZ0.out hb.size)
  have C1 := Lib.hid (C0.out.below hb)
  have R1 : Hid (BlkAt w1 (w.heap.size + 1) 39 [.slice none 0 0, .int .i64 0, .slice none 0 0, .slice none 0 0]) := R0.out.below hb R0.out.lt
  obtain ⟨AF, cF, rfl⟩ := HF.out.form
  have hfl := (foundV_ok HR.out.ld n0).st.len n0
  dsimp only at hfl
  generalize hfd : foundV ⟨al, n, mr, ed⟩ = fd at *
  have HFD := Lib.hid hfd
  clear hb W0 C0 R0 q0 q1 q2 q3 hfd
  have q0 := C1.out.c 0 _ rfl
  go_wp2_with fail
  refine (Empty_c A1 c1 al w1 ((HP.out.below W1.out.b).al) (by omega) HA.out).mono ?_
  rintro e w2 ⟨AE, cE, rfl, HE, hb⟩
  have W2 := Lib.hid (W1.out.next hb)
  have C2 := Lib.hid (C1.out.below hb)
  have R2 : Hid (BlkAt w2 (w.heap.size + 1) 39 [.slice none 0 0, .int .i64 0, .slice none 0 0, .slice none 0 0]) := R1.out.below hb R1.out.lt
  have HF2 : Hid (OwnI W.heap.size fd (.slice AF fd.length cF) w2) := Own.below HF.out hb (Nat.le_refl _)
  clear hb W1 C1 R1 q0 HF
  go_wp2_with fail
  have ST : Hid (OutSt w2.heap.size fd.length (.slice AE al.length cE) (.slice none 0 0) (.slice none 0 0) [] [] (w2.alloc (.cells #[.slice AE al.length cE, .int .i64 fd.length, .slice none 0 0, .slice none 0 0] 39))) := ⟨BlkAt.new w2 _ [_, _, _, _], Own.nil _, Own.nil _, fun _ h => by cases h⟩
  have BB : Hid (Fro w2.heap.size w2 (w2.alloc (.cells #[.slice AE al.length cE, .int .i64 fd.length, .slice none 0 0, .slice none 0 0] 39))) := (Fro.here w2).alloc _
  generalize hW3 : w2.alloc (.cells #[.slice AE al.length cE, .int .i64 fd.length, .slice none 0 0, .slice none 0 0] 39) = W3 at *
  clear hW3
  have PB : Hid (∀ V, Fro w2.heap.size w2 V → Au.At V ⟨al, n, mr, ed⟩ ⟨A1, c1, A2, c2, A3, c3⟩) := fun V hb => HP.out.below (W2.out.next hb.b).b
  have FB : Hid (∀ V, Fro w2.heap.size w2 V → IntsAt V AF fd) := fun V hb => HF2.out.ints.below IntE.stays hb.b
  have CB : Hid (∀ V, Fro w2.heap.size w2 V → HasAt w.heap.size [.slice A1 al.length c1, .int .i64 n, .slice A2 mr.length c2, .slice A3 ed.length c3] V) := fun V hb => C2.out.below hb.b
  go_loopw [5] (fun j wr => ∃ (i : Nat) (v2 v3 : Value), j = .int .i64 i ∧ i ≤ fd.length ∧ Hid (OutSt w2.heap.size fd.length (.slice AE al.length cE) v2 v3 (marksV mr fd i) (rowsV ed fd al i) wr) ∧ Hid (Fro w2.heap.size w2 wr)) (fun j _ => fd.length - (intOf j).toNat)
  case atStart => exact ⟨0, _, _, rfl, by omega, ST.out, BB.out⟩
  case round =>
    obtain ⟨i, v2, v3, rfl, hi, HS, BR⟩ := hrel
    by_cases hlt : i < fd.length
    · have q2 := (CB.out wr BR.out).c 2 _ rfl
      obtain ⟨b, off, rfl, hbl, hcs⟩ := IntsAt.found (FB.out wr BR.out) (List.getElem?_eq_getElem hlt)
      have HSI := Lib.hid (show fd.getD i 0 = fd[i] by rw [List.getD_eq_getElem?_getD, List.getElem?_eq_getElem hlt]; rfl)
      have HGI := Lib.hid (List.getElem?_eq_getElem hlt)
      generalize hs : fd[i] = s at *
      clear hs
      have HMS := Lib.hid (marksV_succ mr fd i)
      have hml := marksV_len mr fd i
      go_wp2_with fail
      go_still_tail 6, (by kernel_rfl)
      change wpList _ _ _ _ _ wr.drew
      go_wp2_with fail
      have BD := Lib.hid BR.out.drew
      have HSD : Hid (OutSt w2.heap.size fd.length (.slice AE al.length cE) v2 v3 (marksV mr fd i) (rowsV ed fd al i) wr.drew) := HS.out.below (Below.refl _ _).drew
      refine (rhas_c A2 c2 mr s wr.drew ((PB.out _ BD.out).mr) (by omega)).mono ?_
      intro e w3 hs2
      obtain ⟨r, rfl, hr, rfl⟩ := hs2
      have HRR := Lib.hid hr
      clear hr
      generalize hwd : wr.drew = wd at *
      clear hwd BR q2 hcs HS
      go_upto_if 28 with fail
      go_cut [] (fun wx => Hid (Fro w2.heap.size w2 wx) ∧ ∃ v2' : Value, Hid (OutSt w2.heap.size fd.length (.slice AE al.length cE) v2' v3 (marksV mr fd (i + 1)) (rowsV ed fd al i) wx))
      case first =>
        cases r with
        | false =>
          have HM2 : Hid (¬ s ∈ mr) := fun h => by have := HRR.out.2 h; cases this
          clear HRR
          go_wp2_with fail
          go_meet
          exact ⟨BD.out, v2, by rw [HMS.out, HSI.out, if_neg HM2.out]; exact HSD.out⟩
        | true =>
          have HM2 := Lib.hid (HRR.out.1 rfl)
          clear HRR
          have b2 := HSD.out.blk.cell 2
          have f2 := HSD.out.blk.free 2
          go_wp2_with (at_builtin; refine wpList_push rfl _ _ 36 rfl (HSD.out.o2.alloc _) Try.underlying36 _ 8 intInfo rfl (by decide) rfl (i : Int) wd.heap.size rfl rfl (one_cell _ _ _ _ rfl) (encI_one _) (by omega) (by decide) (HSD.out.z _) ?_)
          intro A' c' w5 ho hg hat
          have HSA : Hid (OutSt w2.heap.size fd.length (.slice AE al.length cE) v2 v3 (marksV mr fd i) (rowsV ed fd al i) (wd.alloc (.cells #[.int .i64 i] 3))) := HSD.out.below (Below.new _ _)
          have HO := Lib.hid ho
          have HG : Hid ((wd.alloc (.cells #[.int .i64 i] 3)).grownBy w5 v2.ownBlock) := hg
          have HAT : Hid ((Value.slice A' ((marksV mr fd i).length + 1) c').ownBlock = v2.ownBlock ∨ (Value.slice A' ((marksV mr fd i).length + 1) c').ownBlock = some (wd.alloc (.cells #[.int .i64 i] 3)).heap.size) := by simp only [Hid, World.size_alloc]; exact hat
          have q2 : w5.cell? ⟨w2.heap.size, 2, none⟩ = some v2 := (HSA.out.blk.grown HG.out (fun e => by have := (HSA.out.o2.lt _ e.symm).1; omega)).cell 2
          have q2f : w5.frozen? ⟨w2.heap.size, 2, none⟩ = false := (HSA.out.blk.grown HG.out (fun e => by have := (HSA.out.o2.lt _ e.symm).1; omega)).free 2
          clear ho hg hat b2 f2
          go_wp2_with fail
          go_meet
          exact ⟨HSA.out.fro2 (BD.out.alloc _) HG.out _ 2, _, by rw [HMS.out, HSI.out, if_pos HM2.out]; exact HSA.out.mark HO.out HG.out HAT.out⟩
      case rest =>
        obtain ⟨BC, v2', HSC⟩ := hcut
        clear HSD BD HRR
        go_wp2_with fail
        go_loopw [6] (fun j wr => ∃ (k : Nat) (v3' : Value), j = .int .i64 k ∧ k ≤ al.length ∧ Hid (OutSt w2.heap.size fd.length (.slice AE al.length cE) v2' v3' (marksV mr fd (i + 1)) (rowsV ed fd al i ++ rowV ed fd i (al.take k)) wr) ∧ Hid (Fro w2.heap.size w2 wr)) (fun j _ => al.length - (intOf j).toNat)
        case atStart => exact ⟨0, _, rfl, by omega, by simpa [rowV, Hid] using HSC.out, BC.out⟩
        case round =>
          obtain ⟨k, v3', rfl, hk, HS3, BR3⟩ := hrel
          have C3 := Lib.hid (CB.out wr BR3.out)
          have q0 := C3.out.c 0 _ rfl
          have q1 := C3.out.c 1 _ rfl
          have q2 := C3.out.c 2 _ rfl
          have q3 := C3.out.c 3 _ rfl
          by_cases hkl : k < al.length
          · obtain ⟨b', off', hAF, _, hcs⟩ := IntsAt.found (FB.out wr BR3.out) HGI.out
            cases hAF
            obtain ⟨b2, off2, e, hA1, hb2, he, hce⟩ := IntsAt.at ((PB.out wr BR3.out).al) hkl
            dsimp only at hA1
            subst hA1
            have HT := Lib.hid (show al.take (k + 1) = al.take k ++ [e] by rw [List.take_add_one, he]; rfl)
            have HRW := Lib.hid (rowV_snoc ed fd i (al.take k) e)
            have HIN : Hid (e ∈ al) := List.mem_of_getElem? he
            have hr1 := rowsV_len ed fd al i
            have hr2 := rowV_len ed fd i (al.take k)
            have hr3 : (al.take k).length ≤ k := List.length_take_le _ _
            have hr4 : i * al.length ≤ 4096 * 32 := Nat.mul_le_mul (by omega) hal
            have HK := Lib.hid he
            clear he
            have BD := Lib.hid BR3.out.drew
            have HSD : Hid (OutSt w2.heap.size fd.length (.slice AE al.length cE) v2' v3' (marksV mr fd (i + 1)) (rowsV ed fd al i ++ rowV ed fd i (al.take k)) wr.drew) := HS3.out.below (Below.refl _ _).drew
            go_wp2_with fail
            go_still_tail 10, (by kernel_rfl)
            change wpList _ _ _ _ _ wr.drew
            go_wp2_with fail
            refine (rstep_c ⟨al, n, mr, ed⟩ ⟨some ⟨b2, off2, none⟩, c1, A2, c2, A3, c3⟩ s e wr.drew (PB.out _ BD.out).ed HP.out.led).mono ?_
            rintro e1 w5 ⟨rfl, hb3⟩
            have B5 := Lib.hid (BD.out.next hb3)
            have HS5 := Lib.hid (HSD.out.below hb3)
            clear hb3 q0 q1 q2 q3 hcs hce C3
            dsimp only
            have HTV := Lib.hid (show nextV ed (fd.getD i 0) e = nextV ed s e by rw [HSI.out])
            generalize ht : nextV ed s e = t at *
            clear ht HSD BD HS3 BR3
            by_cases h0 : 0 ≤ t
            · have C3 := Lib.hid (CB.out w5 B5.out)
              have q0 := C3.out.c 0 _ rfl
              have b3 := HS5.out.blk.cell 3
              have f3 := HS5.out.blk.free 3
              obtain ⟨b'', off'', hA1, _, hce⟩ := IntsAt.found ((PB.out w5 B5.out).al) HK.out
              cases hA1
              have FD := Lib.hid (FB.out _ B5.out.drew)
              have hz5 := HS5.out.blk.lt
              have hne : ¬ w2.heap.size = w5.heap.size := by omega
              have hne2 : ¬ w5.heap.size = w2.heap.size := by omega
              have HSE : Hid (OutSt w2.heap.size fd.length (.slice AE al.length cE) v2' v3' (marksV mr fd (i + 1)) (rowsV ed fd al i ++ rowV ed fd i (al.take k)) ((w5.alloc (.cells #[.int .i64 i, .int .i64 e, .int .i64 (idxV fd t)] 73)).drew)) := HS5.out.below (Below.new _ _).drew
              have HLN : Hid ((rowsV ed fd al i ++ rowV ed fd i (al.take k)).length ≤ 140000) := by unfold Hid; rw [List.length_append]; omega
              have hln := HLN.out
              generalize hes : rowsV ed fd al i ++ rowV ed fd i (al.take k) = es at *
              have HES := Lib.hid hes
              clear hes
              have HO3 := Lib.hid HSE.out.o3
              go_wp2_with fail
              go_region_law (first
                | (refine step_append_at rfl (.tmp 56) (.tmp 67) 37 rfl (w2.heap.size + 1) 73 _ 3 24 Try.underlying37 edInfo rfl (by decide) v3' _ _ rfl HO3.out ⟨w5.heap.size, 0, none⟩ 1 1 (Ed.cells ⟨(i : Int), e, idxV fd t⟩) rfl rfl ?_ ?_ ?_ ?_ ?_ ?_
                   (exact new_cells (by simp))
                   (intro u hu; simp [Ed.cells] at hu; rcases hu with rfl | rfl | rfl <;> rfl)
                   (simp only [maxLen]; omega)
                   (omega)
                   (simp; omega)
                   intro A' c' w7 ho hg hb'
                   have HO7 := Lib.hid (Own.pushed ho)
                   have HG7 := Lib.hid hg
                   have HB7 := Lib.hid hb'
                   have q7 : w7.cell? ⟨w2.heap.size, 3, none⟩ = some v3' := (HSE.out.blk.grown HG7.out (fun e => by have := (HSE.out.o3.lt _ e.symm).1; omega)).cell 3
                   have q7f : w7.frozen? ⟨w2.heap.size, 3, none⟩ = false := (HSE.out.blk.grown HG7.out (fun e => by have := (HSE.out.o3.lt _ e.symm).1; omega)).free 3
                   clear ho hg hb')
                | (go_simp; go_at_call 105; refine (index_c (some ⟨b, off, none⟩) cF fd t _ FD.out (by omega)).mono ?_; rintro e1 w6 ⟨rfl, rfl⟩))
              all_goals
                go_wp2
                go_roundw
                case rel => exact ⟨k + 1, _, by go_num, by omega, by rw [HT.out, HRW.out, HTV.out, if_pos h0, ← List.append_assoc, HES.out]; exact HSE.out.edge HO7.out HG7.out HB7.out, HSE.out.fro3 (B5.out.alloc _).drew HG7.out _ 3⟩
                case measure => simp [intOf]; omega
            · go_wp2
              go_roundw
              case rel => exact ⟨k + 1, v3', by go_num, by omega, by rw [HT.out, HRW.out, HTV.out, if_neg h0]; exact HS5.out, B5.out⟩
              case measure => simp [intOf]; omega
          · obtain rfl : k = al.length := by omega
            have HTL := Lib.hid (List.take_length (l := al))
            have HRS := Lib.hid (rowsV_succ ed fd al i)
            go_wp2
            go_roundw
            case rel => exact ⟨i + 1, v2', v3', by go_num, by omega, by rw [HRS.out]; have := HS3.out; simp only [HTL.out] at this; exact this, BR3.out⟩
            case measure => simp [intOf]; omega
    · obtain rfl : i = fd.length := by omega
      obtain ⟨M2, m2, rfl⟩ := HS.out.o2.form
      obtain ⟨M3, m3, rfl⟩ := HS.out.o3.form
      have RW : Hid (BlkAt wr (w.heap.size + 1) 39 [.slice none 0 0, .int .i64 0, .slice none 0 0, .slice none 0 0]) := R2.out.below BR.out.b R2.out.lt
      have r0 := RW.out.cell 0
      have r1 := RW.out.cell 1
      have r2 := RW.out.cell 2
      have r3 := RW.out.cell 3
      have g0 := RW.out.free 0
      have g1 := RW.out.free 1
      have g2 := RW.out.free 2
      have g3 := RW.out.free 3
      have s0 := HS.out.blk.cell 0
      have s1 := HS.out.blk.cell 1
      have s2 := HS.out.blk.cell 2
      have s3 := HS.out.blk.cell 3
      have HC : Hid (canonV ⟨al, n, mr, ed⟩ = ⟨al, fd.length, marksV mr fd fd.length, rowsV ed fd al fd.length⟩) := by simp [Hid, canonV, HFD.out]
      have hml := marksV_len mr fd fd.length
      have hr1 := rowsV_len ed fd al fd.length
      have hr4 : fd.length * al.length ≤ 4096 * 32 := Nat.mul_le_mul (by omega) hal
      have hne : ¬ w.heap.size + 1 = w2.heap.size := by have := R2.out.lt; omega
      go_wp2
      refine bodyPost_ret (v := .agg #[.slice AE al.length cE, .int .i64 fd.length, .slice M2 (marksV mr fd fd.length).length m2, .slice M3 (rowsV ed fd al fd.length).length m3]) (by simp [results, Try.results75, go_sem, *]) rfl ?_
      rw [HC.out]
      have st : ∀ {α : Type} {enc : α → List Value} {kk TT B : Nat} {l : List α} {v : Value} (V : World) (j : Nat) (u : Value), w.heap.size + 2 ≤ B → Own enc kk TT B l v V → Own enc kk TT B l v (V.setCell ⟨w.heap.size + 1, j, none⟩ u) := fun V j u hB h => ownsRow_setCell_below h (show w.heap.size + 1 < _ by omega) u
      have a1 : OwnI w1.heap.size al (.slice AE al.length cE) wr := Own.below HE.out BR.out.b (Nat.le_refl _)
      have z2 : w.heap.size + 2 ≤ w2.heap.size + 1 := by have := R2.out.lt; omega
      refine ⟨⟨AE, cE, M2, m2, M3, m3⟩, rfl, Lib.hid (AuOwn.mk ?_ ?_ ?_ (fun g h1 h2 => ?_) (fun g h1 h2 => ?_) HS.out.d ⟨by simp only; omega, by simp only; omega, by simp only; omega⟩), ?_⟩
      · exact (st _ _ _ HZ1.out (st _ _ _ HZ1.out (st _ _ _ HZ1.out (st _ _ _ HZ1.out a1)))).base (by have := HZ1.out; omega)
      · exact (st _ _ _ z2 (st _ _ _ z2 (st _ _ _ z2 (st _ _ _ z2 HS.out.o2)))).base (by omega)
      · exact (st _ _ _ z2 (st _ _ _ z2 (st _ _ _ z2 (st _ _ _ z2 HS.out.o3)))).base (by omega)
      · have := (HE.out.lt g h1).2; have := (HS.out.o2.lt g h2).1; omega
      · have := (HE.out.lt g h1).2; have := (HS.out.o3.lt g h2).1; omega
      · have bb : Fro w.heap.size w wr := W2.out.next BR.out.b
        exact ((((bb.setCell (by omega) _).setCell (by omega) _).setCell (by omega) _).setCell (by omega) _).b
end Go.Proofs.Ytkbmenpggiojeaa
