/-
  The states that are found.
-/
import Derived.Test.YtkbmenpggiojeaaMj
import Derived.StillTailTactics
namespace Go.Proofs.Ytkbmenpggiojeaa
open Go.RowKit
set_option linter.unusedSimpArgs false
set_option linter.unusedVariables false

theorem pre_get {α : Type} {l m : List α} (h : l <+: m) {i : Nat} {x : α} (hx : l[i]? = some x) : m[i]? = some x := by
  obtain ⟨hi, rfl⟩ := List.getElem?_eq_some_iff.1 hx
  rw [List.getElem?_eq_getElem (Nat.lt_of_lt_of_le hi h.length_le), ← List.IsPrefix.getElem h hi]
theorem foundL_succ (au : Au) {i : Nat} {out : List Int} {s : Int} (hi : i ≤ au.n.toNat) (hs : out[i]? = some s) : foundL au (au.n.toNat + 1 - i) i out = foundL au (au.n.toNat + 1 - (i + 1)) (i + 1) (scanV au.ed s au.al out) := by
  have : au.n.toNat + 1 - i = (au.n.toNat + 1 - (i + 1)) + 1 := by omega
  rw [this, foundL, hs]
theorem IntsAt.found {w : World} {A : Option Addr} {l : List Int} (h : IntsAt w A l) {k : Nat} {x : Int} (hx : l[k]? = some x) : ∃ b off, A = some ⟨b, off, none⟩ ∧ b < w.heap.size ∧ w.cell? ⟨b, off + k, none⟩ = some (.int .i64 x) := by
  obtain ⟨b, off, y, hA, hb, hy, hc⟩ := IntsAt.at h (List.getElem?_eq_some_iff.1 hx).1
  rw [hx] at hy; cases hy
  exact ⟨b, off, hA, hb, hc⟩

set_option maxRecDepth 100000 in
set_option maxHeartbeats 2000000 in
theorem Found_c (au : Au) (p : AuP) (w : World) (hp : Au.At w au p) (hr : Raw au) :
    Calls Try.prog 102 #[au.val p] w (GivesI (foundV au) w) := by
  have HP := Lib.hid hp
  have HR := Lib.hid hr
  have lal := hp.lal
  have n0 := hr.n0
  have n1 := hr.n1
  clear hp hr
  have W0 : Hid (Fro (w.heap.size + 1) (w.alloc (.cells (auCells au p).toArray 39)) (w.alloc (.cells (auCells au p).toArray 39))) := Fro.refl (by simp)
  have B0 : Hid (Below w.heap.size w (w.alloc (.cells (auCells au p).toArray 39))) := Below.new _ _
  have C0 : Hid (HasAt w.heap.size (auCells au p) (w.alloc (.cells (auCells au p).toArray 39))) := HasAt.new w _ _ rfl
  obtain ⟨al, n, mr, ed⟩ := au
  obtain ⟨A1, c1, A2, c2, A3, c3⟩ := p
  dsimp only [Au.val, auCells] at *
  have SB : Hid (∀ V, Fro (w.heap.size + 1) (w.alloc (.cells #[.slice A1 al.length c1, .int .i64 n, .slice A2 mr.length c2, .slice A3 ed.length c3] 39)) V → Below w.heap.size w V) := fun V hb => B0.out.trans (hb.b.mono (by omega))
  by_cases hn : 0 < n
  · go_enter Try.func102, Try.ntmps102
    go_wp2_with (at_builtin; refine wpList_push (B := w.heap.size + 1) rfl _ _ 36 rfl (Own.nil (enc := encI) (k := 1) (T := 3) _) Try.underlying36 _ 8 intInfo rfl (by decide) rfl (0 : Int) (w.heap.size + 1) rfl rfl (one_cell _ _ _ _ (by simp)) (encI_one _) (by simp) (by decide) (W0.out.alloc _).z ?_)
    intro A' c' w1 ho hg _
    have HO := Lib.hid ho
    have BW := Lib.hid ((W0.out.alloc _).push (Own.nil (enc := encI) (k := 1) (T := 3) _) hg)
    clear ho hg
    go_wp2_with fail
    generalize hW : w.alloc (.cells #[.slice A1 al.length c1, .int .i64 n, .slice A2 mr.length c2, .slice A3 ed.length c3] 39) = W at *
    clear hW
    go_loopw [3, 4] (fun v j wr => ∃ (i : Nat) (out : List Int), j = .int .i64 i ∧ i ≤ out.length ∧ Hid (OwnI (w.heap.size + 1) out v wr) ∧ Hid (Sts n out) ∧ Hid (foundL ⟨al, n, mr, ed⟩ (n.toNat + 1 - i) i out = foundV ⟨al, n, mr, ed⟩) ∧ Hid (Fro (w.heap.size + 1) W wr)) (fun _ j _ => n.toNat - (intOf j).toNat)
    case atStart => exact ⟨0, [0], rfl, by simp, HO.out, ⟨by simp, fun x hx => by simp at hx; omega⟩, by simp [Hid, foundV, hn], BW.out⟩
    case round =>
      obtain ⟨i, out, rfl, hio, HV, HS, HF, BR⟩ := hrel
      obtain ⟨A, c, rfl⟩ := HV.out.form
      have hol := HS.out.len n0
      by_cases hlt : i < out.length
      · have hs := List.getElem?_eq_getElem hlt
        generalize hse : out[i] = s at *
        have HSE := Lib.hid hs
        clear hs hse
        have q0 := (C0.out.fro BR.out (by omega)).c 0 _ rfl
        go_wp2_with fail
        go_loopw [3, 5] (fun v j wr => ∃ k : Nat, k ≤ al.length ∧ j = .int .i64 k ∧ Hid (OwnI (w.heap.size + 1) (scanV ed s (al.take k) out) v wr) ∧ Hid (Fro (w.heap.size + 1) W wr)) (fun _ j _ => al.length - (intOf j).toNat)
        case atStart => exact ⟨0, by omega, rfl, HV.out, BR.out⟩
        case round =>
          obtain ⟨k, hk, rfl, HV2, BR2⟩ := hrel
          obtain ⟨A', c', rfl⟩ := HV2.out.form
          clear q0
          have C2 := Lib.hid (C0.out.fro BR2.out (by omega))
          have q0 := C2.out.c 0 _ rfl
          have q1 := C2.out.c 1 _ rfl
          have q2 := C2.out.c 2 _ rfl
          have q3 := C2.out.c 3 _ rfl
          have hz := C2.out.z
          by_cases hkl : k < al.length
          · have HS2 : Hid (Sts n (scanV ed s (al.take k) out)) := Sts.scan HR.out.ld n0 s _ HS.out
            have hol2 := HS2.out.len n0
            have HSO := Lib.hid (pre_get (scanV_pre ed s (al.take k) out) HSE.out)
            generalize hout2 : scanV ed s (al.take k) out = out2 at *
            have HOUT2 := Lib.hid hout2
            clear hout2
            obtain ⟨b, off, rfl, hb, hcs⟩ := IntsAt.found HV2.out.ints HSO.out
            have hil := (List.getElem?_eq_some_iff.1 HSO.out).1
            obtain ⟨b2, off2, e, hA1, hb2, he, hce⟩ := IntsAt.at ((HP.out.below (SB.out wr BR2.out)).al) hkl
            dsimp only at hA1
            subst hA1
            have HT := Lib.hid (show al.take (k + 1) = al.take k ++ [e] by rw [List.take_add_one, he]; rfl)
            have HN := Lib.hid (scanV_snoc ed s (al.take k) e out)
            have HNX := Lib.hid ((HR.out.ld.next s e n0))
            have HM := Lib.hid he
            have BD : Hid (Below w.heap.size w wr.drew) := SB.out _ BR2.out.drew
            clear he
            go_wp2_with fail
            go_still_tail 10, (by kernel_rfl)
            change wpList _ _ _ _ _ wr.drew
            go_wp2_with fail
            refine (rstep_c ⟨al, n, mr, ed⟩ ⟨some ⟨b2, off2, none⟩, c1, A2, c2, A3, c3⟩ s e wr.drew (HP.out.below BD.out).ed HP.out.led).mono ?_
            rintro e1 w3 ⟨rfl, hb3⟩
            have BR3 := Lib.hid (BR2.out.drew.next hb3)
            have HV3 : Hid (OwnI (w.heap.size + 1) out2 (.slice (some ⟨b, off, none⟩) out2.length c') w3) := Own.below (Own.drew HV2.out) hb3 (Nat.le_refl _)
            clear hb3 q0 q1 q2 q3 hcs hce hz
            have q0 := (C0.out.fro BR3.out (by omega)).c 0 _ rfl
            dsimp only at HN ⊢
            generalize ht : nextV ed s e = t at *
            clear ht
            by_cases h0 : 0 ≤ t
            · go_wp2_with fail
              refine (rhas_c (some ⟨b, off, none⟩) c' out2 t w3 HV3.out.ints (by omega)).mono ?_
              intro e1 w4 hs; rcases hs.yes1 with ⟨rfl, S, rfl⟩ | ⟨rfl, S, rfl⟩
              · clear hs
                go_wp2
                go_roundw
                case rel => exact ⟨k + 1, by omega, by go_num, by rw [HT.out, HN.out, HOUT2.out, addV, if_neg (fun h => h.2 S.out)]; exact HV3.out, BR3.out⟩
                case measure => simp [intOf]; omega
              · clear hs
                go_wp2_with (at_builtin; refine wpList_push rfl _ _ 36 rfl (HV3.out.alloc _) Try.underlying36 _ 8 intInfo rfl (by decide) rfl t w3.heap.size rfl rfl (one_cell _ _ _ _ rfl) (encI_one _) (by omega) (by decide) (BR3.out.alloc _).z ?_)
                intro A'' c'' w5 ho hg _
                have HN5 := Lib.hid ho
                have HG := Lib.hid ((BR3.out.alloc _).push (HV3.out.alloc _) hg)
                clear ho hg
                go_wp2
                go_roundw
                case rel => exact ⟨k + 1, by omega, by go_num, by rw [HT.out, HN.out, HOUT2.out, addV, if_pos ⟨h0, S.out⟩]; exact HN5.out, HG.out⟩
                case measure => simp [intOf]; omega
            · go_wp2
              go_roundw
              case rel => exact ⟨k + 1, by omega, by go_num, by rw [HT.out, HN.out, HOUT2.out, addV, if_neg (fun h => h0 h.1)]; exact HV3.out, BR3.out⟩
              case measure => simp [intOf]; omega
          · obtain rfl : k = al.length := by omega
            have HTL := Lib.hid (List.take_length (l := al))
            have HFS := Lib.hid (foundL_succ ⟨al, n, mr, ed⟩ (i := i) (by simp only; omega) HSE.out)
            have HS2 : Hid (Sts n (scanV ed s al out)) := Sts.scan HR.out.ld n0 s _ HS.out
            have hpl := (scanV_pre ed s al out).length_le
            go_wp2
            go_roundw
            case rel => exact ⟨i + 1, scanV ed s al out, by go_num, by omega, by have := HV2.out; simp only [HTL.out] at this ⊢; exact this, HS2.out, by show _ = _; rw [← HF.out]; exact HFS.out.symm, BR2.out⟩
            case measure => simp [intOf]; omega
      · have HF2 := Lib.hid (foundL_stop ⟨al, n, mr, ed⟩ (n.toNat + 1 - i) i out (by omega))
        go_wp2
        go_ret
        exact ⟨_, rfl, by rw [← HF.out, HF2.out]; exact HV.out.base (by omega), SB.out _ BR.out⟩
  · have hfv : Hid (foundV ⟨al, n, mr, ed⟩ = []) := by simp [Hid, foundV, hn]
    go_enter Try.func102, Try.ntmps102
    go_wp2_with fail
    go_loop [3, 4] (fun v j => v = .slice none 0 0 ∧ j = .int .i64 0) (fun _ _ => 0)
    case atStart => exact ⟨rfl, rfl⟩
    case round =>
      obtain ⟨rfl, rfl⟩ := hrel
      go_wp2
      go_ret
      exact ⟨_, rfl, by rw [hfv.out]; exact Own.nil _, B0.out⟩
end Go.Proofs.Ytkbmenpggiojeaa
