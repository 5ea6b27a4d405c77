/-
  word.Project and what it calls; word.Equal; occurs.
-/
import Derived.Test.YtkbmenpggiojeaaMo
import Derived.Test.YtkbmenpggiojeaaMd
import Derived.Test.YtkbmenpggiojeaaLe
import Derived.OwnWalk
namespace Go.Proofs.Ytkbmenpggiojeaa
open Go.RowKit
set_option linter.unusedSimpArgs false
set_option linter.unusedVariables false

theorem contains_c (A : Option Addr) (c : Nat) (l : List Int) (x : Int) (w : World) (h : IntsAt w A l) (hl : l.length < 4611686018427387904) (hs : incr l) :
    Calls Try.prog 82 #[.slice A l.length c, .int .i64 x] w (Says (x ∈ l) w) := by
  have HC := Lib.hid (search_c A c l x w h hl hs)
  clear h hs
  go_enter Try.func82, Try.ntmps82
  go_wp2_with (go_at_call 90; refine HC.out.mono ?_; rintro e w' ⟨p, r, rfl, hr, rfl⟩; have HR := Lib.hid hr; clear hr)
  go_ret
  exact ⟨r, rfl, HR.out, rfl⟩

theorem wequal_c (A1 A2 : Option Addr) (c1 c2 : Nat) (l1 l2 : List Int) (w : World) (h1 : IntsAt w A1 l1) (h2 : IntsAt w A2 l2) (n1 : l1.length ≤ 140737488355328) (n2 : l2.length ≤ 140737488355328) :
    Calls Try.prog 48 #[.slice A1 l1.length c1, .slice A2 l2.length c2] w (Tells (l1 = l2) w) := by
  have HC := Lib.hid (equalI_c A1 A2 c1 c2 l1 l2 w h1 h2 n1 n2)
  clear h1 h2
  go_enter Try.func48, Try.ntmps48
  go_wp2_with fail
  refine HC.out.mono ?_
  rintro e w' ⟨r, rfl, hr, hb⟩
  have HR := Lib.hid hr
  have HB := Lib.hid hb
  clear hr hb
  go_wp2
  go_ret
  exact ⟨r, rfl, HR.out, HB.out⟩

/-- The elements of l that o has. -/
def projV (o l : List Int) : List Int := l.filter (fun x => decide (x ∈ o))
theorem projV_snoc (o l : List Int) (x : Int) : projV o (l ++ [x]) = if x ∈ o then projV o l ++ [x] else projV o l := by
  simp only [projV, List.filter_append, List.filter_cons, List.filter_nil]
  split <;> simp_all
theorem projV_len (o l : List Int) : (projV o l).length ≤ l.length := List.length_filter_le ..

set_option maxRecDepth 100000 in
set_option maxHeartbeats 1000000 in
theorem project_c (A AO : Option Addr) (c cO : Nat) (l o : List Int) (w : World) (h : IntsAt w A l) (hO : IntsAt w AO o) (hl : l.length ≤ 1048576) (lo : o.length < 4611686018427387904) (hs : incr o) :
    Calls Try.prog 49 #[.slice A l.length c, .slice AO o.length cO] w (GivesI (projV o l) w) := by
  have HA := Lib.hid h
  have HO := Lib.hid hO
  have HS := Lib.hid hs
  clear h hO hs
  go_enter Try.func49, Try.ntmps49
  go_wp2_with fail
  go_loopw [5, 7, 10] (fun v _ i wr => ∃ k : Nat, k ≤ l.length ∧ i = .int .i64 k ∧ Hid (OwnI w.heap.size (projV o (l.take k)) v wr) ∧ Hid (Fro w.heap.size w wr)) (fun _ _ i _ => l.length - (intOf i).toNat)
  case atStart => exact ⟨0, by omega, rfl, Own.nil _, Fro.here w⟩
  case round =>
    obtain ⟨k, hk, rfl, HV, BW⟩ := hrel
    by_cases hlt : k < l.length
    · obtain ⟨b, off, x, rfl, _, hx, hcx⟩ := IntsAt.at (HA.out.below IntE.stays BW.out.b) hlt
      have HT := Lib.hid (show l.take (k + 1) = l.take k ++ [x] by rw [List.take_add_one, hx]; rfl)
      have hpl := projV_len o (l.take k)
      have hpl2 : (l.take k).length ≤ k := List.length_take_le _ _
      clear hx
      go_wp2_with fail
      refine (contains_c AO cO o x wr (HO.out.below IntE.stays BW.out.b) lo HS.out).mono ?_
      intro e w1 hs; rcases hs.no1 with ⟨rfl, S, rfl⟩ | ⟨rfl, S, rfl⟩
      · have HP := Lib.hid (projV_snoc o (l.take k) x)
        go_wp2
        go_roundw
        case rel => exact ⟨k + 1, by omega, by go_num, by rw [HT.out, HP.out, if_neg S.out]; exact HV.out, BW.out⟩
        case measure => simp [intOf]; omega
      · have HP := Lib.hid (projV_snoc o (l.take k) x)
        go_wp2_with (at_builtin; refine wpList_push rfl _ _ 36 rfl (HV.out.alloc _) Try.underlying36 _ 8 intInfo rfl (by decide) rfl x wr.heap.size rfl rfl (one_cell _ _ _ _ rfl) (encI_one x) (by omega) (by decide) (BW.out.alloc _).z ?_)
        intro A' c' w1 ho hg _
        have HN := Lib.hid ho
        have HG := Lib.hid ((BW.out.alloc _).push (HV.out.alloc _) hg)
        clear ho hg
        go_wp2
        go_roundw
        case rel => exact ⟨k + 1, by omega, by go_num, by rw [HT.out, HP.out, if_pos S.out]; exact HN.out, HG.out⟩
        case measure => simp [intOf]; omega
    · obtain rfl : k = l.length := by omega
      have HT := Lib.hid (List.take_length (l := l))
      go_wp2
      go_ret
      exact ⟨_, rfl, by have := HV.out; rw [HT.out] at this; exact this, BW.out.b⟩

set_option maxHeartbeats 400000 in
theorem occurs_c (AE : Option Addr) (cE : Nat) (evs : List Ev) (class_ : Int) (A : Option Addr) (c : Nat) (l : List Int) (w : World)
    (hE : EvsAt w AE evs) (lev : evs.length ≤ 140737488355328) (hA : IntsAt w A l) (ll : l.length ≤ 140737488355328) (hl : InEvs evs l) :
    Calls Try.prog 47 #[.slice AE evs.length cE, .slice A l.length c, .int .i64 class_] w (Says (faultyP evs class_ l) w) := by
  have HA := Lib.hid hA
  have HE := Lib.hid hE
  have HL := Lib.hid hl
  clear hA hE hl
  go_enter Try.func47, Try.ntmps47
  go_wp2
  go_loop [7] (fun i => ∃ k : Nat, k ≤ l.length ∧ i = .int .i64 k ∧ Hid (∀ j y, j < k → l[j]? = some y → (evAt evs y).fault ≠ class_)) (fun i => l.length - (intOf i).toNat)
  case atStart => exact ⟨0, by omega, rfl, fun i x h => absurd h (by omega)⟩
  case round =>
    obtain ⟨k, hk, rfl, H⟩ := hrel
    by_cases hlt : k < l.length
    · obtain ⟨b, off, y, rfl, _, hy, hcy⟩ := IntsAt.at HA.out hlt
      obtain ⟨h0, h1⟩ := HL.out y (List.mem_of_getElem? hy)
      obtain ⟨t, rfl⟩ := Int.eq_ofNat_of_zero_le h0
      have htl : t < evs.length := by omega
      obtain ⟨bE, oE, hAE, _, _, e4⟩ := EvsAt.get HE.out (List.getElem?_eq_getElem htl)
      subst hAE
      have HZ := Lib.hid (evAt_get (List.getElem?_eq_getElem htl))
      have HY := Lib.hid hy
      clear hy
      generalize hf : evs[t].fault = f at *
      have HF := Lib.hid hf
      clear hf
      by_cases hyx : f = class_
      · have hyx' : (f == class_) = true := by simpa using hyx
        have HYX := Lib.hid hyx
        clear hyx
        go_wp2
        go_ret
        exact Says.yes ⟨_, List.mem_of_getElem? HY.out, by rw [HZ.out, HF.out]; exact HYX.out⟩ rfl
      · have hyx' : (f == class_) = false := by simpa using hyx
        have HYX := Lib.hid hyx
        clear hyx
        go_wp2
        go_round
        case rel => exact ⟨k + 1, by omega, by go_num, fun j z hj hz => by
          by_cases e : j = k
          · subst e; rw [HY.out] at hz; cases hz; rw [HZ.out, HF.out]; exact HYX.out
          · exact H.out j z (by omega) hz⟩
        case measure => simp [intOf]; omega
    · obtain rfl : k = l.length := by omega
      go_wp2
      go_ret
      exact Says.no (fun ⟨x, hx, he⟩ => by
        obtain ⟨t, ht, hx⟩ := List.mem_iff_getElem.1 hx
        exact H.out t x ht (by rw [List.getElem?_eq_getElem ht, hx]) he) rfl
end Go.Proofs.Ytkbmenpggiojeaa
