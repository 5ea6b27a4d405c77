/-
  The law's own small functions: has, next, run, occurs, word.Equal.
-/
import Derived.Test.YtkbmenpggiojeaaKd
import Derived.Test.YtkbmenpggiojeaaKp
import Derived.StillTailTactics
namespace Go.Proofs.Ytkbmenpggiojeaa
open Go.RowKit
set_option linter.unusedSimpArgs false
set_option linter.unusedVariables false

/-- A value is returned, and what there was stays. -/
def Ret (v : Value) (w : World) (e : Ending) (w' : World) : Prop := e = .returned v ∧ Below w.heap.size w w'

theorem notIn_all {l : List Int} {x : Int} (h : ∀ j y, j < l.length → l[j]? = some y → y ≠ x) : ¬ x ∈ l := fun hm => by
  obtain ⟨t, ht, hx⟩ := List.mem_iff_getElem.1 hm
  exact h t x ht (by rw [List.getElem?_eq_getElem ht, hx]) rfl
theorem lhas_c (A : Option Addr) (c : Nat) (l : List Int) (x : Int) (w : World) (h : IntsAt w A l) (hl : l.length ≤ 140737488355328) :
    Calls Try.prog 26 #[.slice A l.length c, .int .i64 x] w (Says (x ∈ l) w) := by
  go_enter Try.func26, Try.ntmps26
  go_wp2
  go_loop [5] (fun i => ∃ k : Nat, k ≤ l.length ∧ i = .int .i64 k ∧ Hid (∀ j y, j < k → l[j]? = some y → y ≠ x)) (fun i => l.length - (intOf i).toNat)
  case atStart => exact ⟨0, by omega, rfl, fun i x h => absurd h (by omega)⟩
  case round =>
    obtain ⟨k, hk, rfl, H⟩ := hrel
    by_cases hlt : k < l.length
    · obtain ⟨b, off, y, rfl, _, hy, hcy⟩ := IntsAt.at h hlt
      by_cases hyx : y = x
      · have HM := Lib.hid (List.mem_of_getElem? hy)
        have hyx' : (y == x) = true := by simpa using hyx
        have HYX := Lib.hid hyx
        clear hy hyx
        go_wp2
        go_ret
        exact Says.yes (HYX.out ▸ HM.out) rfl
      · have hyx' : (y == x) = false := by simpa using hyx
        have HYX := Lib.hid hyx
        have HY := Lib.hid hy
        clear hyx hy
        go_wp2
        go_round
        case rel => exact ⟨k + 1, by omega, by go_num, fun j z hj hz => by
          by_cases e : j = k
          · subst e; rw [HY.out] at hz; cases hz; exact HYX.out
          · exact H.out j z (by omega) hz⟩
        case measure => simp [intOf]; omega
    · obtain rfl : k = l.length := by omega
      go_wp2
      go_ret
      exact Says.no (notIn_all H.out) rfl

/-- Where the first edge of a state by an event leads, or -1. -/
def nextV (l : List Ed) (s e : Int) : Int := ((l.find? fun x => decide (x.src = s) && decide (x.ev = e)).map (·.dst)).getD (-1)
theorem nextV_hit {l : List Ed} {s e : Int} {k : Nat} {x : Ed} (h : ∀ j y, j < k → l[j]? = some y → ¬ (y.src = s ∧ y.ev = e)) (hx : l[k]? = some x) (h1 : x.src = s) (h2 : x.ev = e) : nextV l s e = x.dst := by
  have : l.find? (fun x => decide (x.src = s) && decide (x.ev = e)) = some x := by
    rw [List.find?_eq_some_iff_getElem]
    obtain ⟨hk, hg⟩ := List.getElem?_eq_some_iff.1 hx
    refine ⟨by simp [h1, h2], k, hk, hg, fun j hj => ?_⟩
    have := h j l[j] hj (List.getElem?_eq_getElem _)
    simpa [Classical.or_iff_not_imp_left] using this
  simp [nextV, this]
theorem nextV_miss {l : List Ed} {s e : Int} (h : ∀ j y, j < l.length → l[j]? = some y → ¬ (y.src = s ∧ y.ev = e)) : nextV l s e = -1 := by
  have : l.find? (fun x => decide (x.src = s) && decide (x.ev = e)) = none := by
    rw [List.find?_eq_none]
    intro x hx
    obtain ⟨t, ht, hx⟩ := List.mem_iff_getElem.1 hx
    have := h t x ht (by rw [List.getElem?_eq_getElem ht, hx])
    simpa using this
  simp [nextV, this]

set_option maxHeartbeats 400000 in
theorem next_c (a : Au) (p : AuP) (s ev : Int) (w : World) (h3 : EdsAt w p.A3 a.ed) (l3 : a.ed.length ≤ 140737488355328) :
    Calls Try.prog 28 #[a.val p, .int .i64 s, .int .i64 ev] w (Ret (.int .i64 (nextV a.ed s ev)) w) := by
  obtain ⟨al, n, mr, ed⟩ := a
  obtain ⟨A1, c1, A2, c2, A3, c3⟩ := p
  dsimp only [Au.val] at *
  have B0 := Lib.hid (Below.new w (.cells #[.slice A1 al.length c1, .int .i64 n, .slice A2 mr.length c2, .slice A3 ed.length c3] 39))
  have HE := Lib.hid (h3.below EdE.stays B0.out)
  have q3 : (w.alloc (.cells #[.slice A1 al.length c1, .int .i64 n, .slice A2 mr.length c2, .slice A3 ed.length c3] 39)).cell? ⟨w.heap.size, 3, none⟩ = some (.slice A3 ed.length c3) := new_cell w _ [_, _, _, _] _ 3 rfl
  clear h3
  go_enter Try.func28, Try.ntmps28
  go_wp2_with fail
  generalize hW : w.alloc (.cells #[.slice A1 al.length c1, .int .i64 n, .slice A2 mr.length c2, .slice A3 ed.length c3] 39) = W at *
  clear hW
  go_loop [7] (fun i => ∃ k : Nat, k ≤ ed.length ∧ i = .int .i64 k ∧ Hid (∀ j y, j < k → ed[j]? = some y → ¬ (y.src = s ∧ y.ev = ev))) (fun i => ed.length - (intOf i).toNat)
  case atStart => exact ⟨0, by omega, rfl, fun i x h => absurd h (by omega)⟩
  case round =>
    obtain ⟨k, hk, rfl, H⟩ := hrel
    by_cases hlt : k < ed.length
    · obtain ⟨b, off, x, rfl, _, hx, hc0, hc1, hc2⟩ := EdsAt.at HE.out hlt
      obtain ⟨src, e', dst⟩ := x
      dsimp only at hc0 hc1 hc2
      have HX := Lib.hid hx
      clear hx
      by_cases h1 : src = s
      · have h1' : (src == s) = true := by simpa using h1
        have H1 := Lib.hid h1
        clear h1
        by_cases h2 : e' = ev
        · have h2' : (e' == ev) = true := by simpa using h2
          have H2 := Lib.hid h2
          clear h2
          go_wp2
          go_ret
          exact ⟨ret_int (nextV_hit H.out HX.out H1.out H2.out).symm, B0.out⟩
        · have h2' : (e' == ev) = false := by simpa using h2
          have H2 := Lib.hid h2
          clear h2
          go_wp2
          go_round
          case rel => exact ⟨k + 1, by omega, by go_num, fun j z hj hz => by
            by_cases e : j = k
            · subst e; rw [HX.out] at hz; cases hz; exact fun h => H2.out h.2
            · exact H.out j z (by omega) hz⟩
          case measure => simp [intOf]; omega
      · have h1' : (src == s) = false := by simpa using h1
        have H1 := Lib.hid h1
        clear h1
        go_wp2
        go_round
        case rel => exact ⟨k + 1, by omega, by go_num, fun j z hj hz => by
          by_cases e : j = k
          · subst e; rw [HX.out] at hz; cases hz; exact fun h => H1.out h.1
          · exact H.out j z (by omega) hz⟩
        case measure => simp [intOf]; omega
    · obtain rfl : k = ed.length := by omega
      go_wp2
      go_ret
      exact ⟨ret_int (nextV_miss H.out).symm, B0.out⟩

/-- The state to which a word leads by first edges, or -1 (once less than 0, it stays as it is). -/
def runV (l : List Ed) : Int → List Int → Int
  | s, [] => s
  | s, e :: r => if 0 ≤ s then runV l (nextV l s e) r else s
theorem runV_neg (l : List Ed) {s : Int} (h : s < 0) (r : List Int) : runV l s r = s := by
  cases r with
  | nil => rfl
  | cons e r => simp [runV, show ¬ 0 ≤ s by omega]
theorem runV_snoc (l : List Ed) (r : List Int) : ∀ (s e : Int), runV l s (r ++ [e]) = if 0 ≤ runV l s r then nextV l (runV l s r) e else runV l s r := by
  induction r with
  | nil => intro s e; simp [runV]; rfl
  | cons a r ih =>
    intro s e
    by_cases h : 0 ≤ s
    · simp only [List.cons_append, runV, h, if_true]; exact ih _ _
    · simp [runV, h]
theorem runV_stuck (l : List Ed) {s : Int} {r q : List Int} (h : runV l s r < 0) : runV l s (r ++ q) = runV l s r := by
  induction r generalizing s with
  | nil => exact runV_neg l h q
  | cons a r ih =>
    by_cases h0 : 0 ≤ s
    · simp only [List.cons_append, runV, h0, if_true] at h ⊢; exact ih h
    · simp [runV, h0]

set_option maxRecDepth 100000 in
set_option maxHeartbeats 1000000 in
theorem run_c (a : Au) (p : AuP) (s : Int) (A : Option Addr) (c : Nat) (l : List Int) (w : World) (h3 : EdsAt w p.A3 a.ed) (l3 : a.ed.length ≤ 140737488355328) (hA : IntsAt w A l) (hl : l.length ≤ 140737488355328) :
    Calls Try.prog 46 #[a.val p, .int .i64 s, .slice A l.length c] w (Ret (.int .i64 (runV a.ed s l)) w) := by
  have B0 := Lib.hid (Below.new w (.cells #[.slice p.A1 a.al.length p.c1, .int .i64 a.n, .slice p.A2 a.mr.length p.c2, .slice p.A3 a.ed.length p.c3] 39))
  have B00 := Lib.hid (Below.refl (w.heap.size + 1) (w.alloc (.cells #[.slice p.A1 a.al.length p.c1, .int .i64 a.n, .slice p.A2 a.mr.length p.c2, .slice p.A3 a.ed.length p.c3] 39)))
  have hsz : w.heap.size + 1 = (w.alloc (.cells #[.slice p.A1 a.al.length p.c1, .int .i64 a.n, .slice p.A2 a.mr.length p.c2, .slice p.A3 a.ed.length p.c3] 39)).heap.size := by simp
  have HN := Lib.hid (fun (s e : Int) (W : World) (hb : Below w.heap.size w W) => next_c a p s e W (h3.below EdE.stays hb) l3)
  have HA := Lib.hid hA
  have HC := Lib.hid (fun i => new_cell w 39 [.slice p.A1 a.al.length p.c1, .int .i64 a.n, .slice p.A2 a.mr.length p.c2, .slice p.A3 a.ed.length p.c3] w.heap.size i rfl)
  have HS := Lib.hid hsz
  clear h3 hA hsz
  obtain ⟨al, n, mr, ed⟩ := a
  obtain ⟨A1, c1, A2, c2, A3, c3⟩ := p
  dsimp only [Au.val] at *
  go_enter Try.func46, Try.ntmps46
  go_wp2_with fail
  generalize hW : w.alloc (.cells #[.slice A1 al.length c1, .int .i64 n, .slice A2 mr.length c2, .slice A3 ed.length c3] 39) = W at *
  clear hW
  go_loopw [1, 7] (fun x i wr => ∃ k : Nat, k ≤ l.length ∧ i = .int .i64 k ∧ x = .int .i64 (runV ed s (l.take k)) ∧ Hid (Below (w.heap.size + 1) W wr) ) (fun _ i _ => l.length - (intOf i).toNat)
  case atStart => exact ⟨0, by omega, rfl, rfl, B00.out⟩
  case round =>
    obtain ⟨k, hk, rfl, rfl, BW⟩ := hrel
    have q0 : wr.cell? ⟨w.heap.size, 0, none⟩ = some (.slice A1 al.length c1) := (BW.out.cell (p := ⟨w.heap.size, 0, none⟩) (by simp)).trans (HC.out 0)
    have q1 : wr.cell? ⟨w.heap.size, 1, none⟩ = some (.int .i64 n) := (BW.out.cell (p := ⟨w.heap.size, 1, none⟩) (by simp)).trans (HC.out 1)
    have q2 : wr.cell? ⟨w.heap.size, 2, none⟩ = some (.slice A2 mr.length c2) := (BW.out.cell (p := ⟨w.heap.size, 2, none⟩) (by simp)).trans (HC.out 2)
    have q3 : wr.cell? ⟨w.heap.size, 3, none⟩ = some (.slice A3 ed.length c3) := (BW.out.cell (p := ⟨w.heap.size, 3, none⟩) (by simp)).trans (HC.out 3)
    have BW0 : Hid (Below w.heap.size w wr) := B0.out.trans (BW.out.mono (by omega))
    have hz : w.heap.size < wr.heap.size := by have := BW.out.size; have := HS.out; omega
    by_cases hlt : k < l.length
    · obtain ⟨b, off, x, rfl, _, hx, hcx⟩ := IntsAt.at (HA.out.below IntE.stays BW0.out) hlt
      have HT := Lib.hid (show l.take (k + 1) = l.take k ++ [x] by rw [List.take_add_one, hx]; rfl)
      clear hx
      generalize hX : runV ed s (l.take k) = X at *
      have HX := Lib.hid hX
      clear hX
      by_cases hx0 : 0 ≤ X
      · have BD := Lib.hid (BW0.out.drew)
        go_wp2_with fail
        go_still_tail 6, (by kernel_rfl)
        change wpList _ _ _ _ _ wr.drew
        go_wp2_with fail
        refine (HN.out X x wr.drew BD.out).mono ?_
        rintro e w2 ⟨rfl, hb⟩
        have BN := Lib.hid (BW.out.drew.trans (hb.mono (B' := w.heap.size + 1) (by simp; omega)))
        have HX2 := Lib.hid (runV_snoc ed (l.take k) s x)
        clear hb
        go_wp2
        go_roundw
        case rel => exact ⟨k + 1, by omega, by go_num, by rw [HT.out, HX2.out, HX.out, if_pos (by omega)], BN.out⟩
        case measure => simp [intOf]; omega
      · go_wp2
        go_ret
        exact ⟨ret_int (by
          have := runV_stuck ed (s := s) (r := l.take k) (q := l.drop k) (by rw [HX.out]; omega)
          rw [List.take_append_drop, HX.out] at this
          exact this.symm), BW0.out⟩
    · obtain rfl : k = l.length := by omega
      have HT := Lib.hid (List.take_length (l := l))
      go_wp2
      any_goals go_ret
      all_goals exact ⟨ret_int (by rw [HT.out]), BW0.out⟩
end Go.Proofs.Ytkbmenpggiojeaa
