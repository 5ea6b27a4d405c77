/-
  Cycles of states, in plain words: which words they mark, that they are minimal, and that no automaton of fewer states will do.
  overseerlaw09.cycle and LanguageLimits.
  overseerlaw09.LanguageLimits: the walk.
-/
import Derived.Test.YtkifgffhoenaoaaDoorBase22
import Derived.IntWalk
namespace Go.Proofs.YtkifgffhoenaoaaDoor
set_option linter.unusedSimpArgs false
set_option linter.unusedVariables false

/-- A cycle of states. -/
def cycE (n i : Nat) : Ed := ⟨(i : Int), 0, (((i + 1) % n : Nat) : Int)⟩
def cycV (n : Nat) : Au := ⟨[0], n, [0], (List.range n).map (cycE n)⟩
def CycL (n : Nat) (w : List Int) : Prop := (∀ x, x ∈ w → x = 0) ∧ n ∣ w.length
theorem cyc_len (n : Nat) : (cycV n).ed.length = n := by simp [cycV]
theorem cyc_get {n i : Nat} (h : i < n) : (cycV n).ed[i]? = some ⟨(i : Int), 0, (((i + 1) % n : Nat) : Int)⟩ := by simp [cycV, cycE, h]
theorem cyc_right {n : Nat} (h0 : 0 < n) (h1 : n ≤ 4096) : (cycV n).Right := by
  refine ⟨one_right, Int.natCast_nonneg _, by show (n : Int) ≤ 4096; omega, ?_, fun i hi x hx => ?_⟩
  · intro i x hi hx
    have : i = 0 := by simp [cycV] at hi; omega
    subst this
    simp [cycV] at hx
    subst hx
    exact ⟨Int.le_refl _, by show (0 : Int) < (n : Int); omega, fun y h => absurd h (by omega)⟩
  · rw [cyc_len] at hi
    rw [cyc_get hi] at hx
    cases hx
    have := Nat.mod_lt (i + 1) h0
    refine ⟨Int.natCast_nonneg _, by show (i : Int) < (n : Int); omega, Int.natCast_nonneg _, by show (((i + 1) % n : Nat) : Int) < (n : Int); omega, by simp [cycV], fun y hi0 hy => .inl ?_⟩
    rw [cyc_get (by omega)] at hy
    cases hy
    show ((i - 1 : Nat) : Int) < (i : Int)
    omega
theorem cyc_run {n : Nat} (h0 : 0 < n) (h1 : n ≤ 4096) : ∀ (w : List Int) (i : Nat), i < n → (∀ x, x ∈ w → x = 0) → runV (cycV n).ed (i : Int) w = (((i + w.length) % n : Nat) : Int)
  | [], i, hi, _ => by simp [runV, Nat.mod_eq_of_lt hi]
  | e :: r, i, hi, hw => by
    obtain rfl : e = 0 := hw e (by simp)
    have hn : nextV (cycV n).ed (i : Int) 0 = (((i + 1) % n : Nat) : Int) := (edge_next (cyc_right h0 h1) (List.mem_of_getElem? (cyc_get hi))).1
    rw [runV, if_pos (Int.natCast_nonneg _), hn, cyc_run h0 h1 r _ (Nat.mod_lt _ h0) (fun x hx => hw x (by simp [hx])), Nat.mod_add_mod, List.length_cons]
    congr 2
    omega
theorem cyc_rn {n : Nat} (h0 : 0 < n) (h1 : n ≤ 4096) {w : List Int} (hw : ∀ x, x ∈ w → x = 0) : rn (cycV n) w = ((w.length % n : Nat) : Int) := by
  have : (cycV n).st = ((0 : Nat) : Int) := by simp [Au.st, cycV]; omega
  rw [rn, this, cyc_run h0 h1 w 0 h0 hw, Nat.zero_add]
theorem cyc_lang {n : Nat} (h0 : 0 < n) (h1 : n ≤ 4096) (w : List Int) : rn (cycV n) w ∈ (cycV n).mr ↔ CycL n w := by
  have hmr : (cycV n).mr = [0] := rfl
  rw [hmr, List.mem_singleton]
  constructor
  · intro h
    have hw : ∀ x, x ∈ w → x = 0 := fun x hx => by simpa [cycV] using rn_events (cyc_right h0 h1) w (by omega) x hx
    rw [cyc_rn h0 h1 hw] at h
    exact ⟨hw, Nat.dvd_of_mod_eq_zero (by omega)⟩
  · rintro ⟨hw, hd⟩
    rw [cyc_rn h0 h1 hw, Nat.mod_eq_zero_of_dvd hd]
    rfl
theorem cyc_min {n : Nat} (h0 : 0 < n) (h1 : n ≤ 4096) : IsMin (cycV n) (CycL n) := by
  have hr := cyc_right h0 h1
  have hn : (cycV n).n = (n : Int) := rfl
  have hmr : (cycV n).mr = [0] := rfl
  have to0 : ∀ (i k : Nat), i < n → (runV (cycV n).ed (i : Int) (List.replicate k 0) ∈ (cycV n).mr ↔ n ∣ i + k) := fun i k hi => by
    rw [cyc_run h0 h1 _ _ hi (fun x hx => (List.mem_replicate.1 hx).2), hmr, List.mem_singleton, List.length_replicate]
    constructor
    · intro h; exact Nat.dvd_of_mod_eq_zero (by omega)
    · intro h; rw [Nat.mod_eq_zero_of_dvd h]; rfl
  refine ⟨hr, Num.ws hr (fun k h1 h2 => ?_), fun i i0 i1 => ?_, fun i j i0 i1 j0 j1 h => ?_, cyc_lang h0 h1⟩
  · rw [hn] at h2
    refine ⟨k - 1, _, cyc_get (by omega), ?_, ?_, fun q y hq hy => ?_⟩
    · show (((k - 1 + 1) % n : Nat) : Int) = (k : Int)
      rw [Nat.sub_add_cancel h1, Nat.mod_eq_of_lt (by omega)]
    · show ((k - 1 : Nat) : Int) < (k : Int)
      omega
    · rw [cyc_get (by omega)] at hy
      cases hy
      show (((q + 1) % n : Nat) : Int) < (k : Int)
      rw [Nat.mod_eq_of_lt (by omega)]
      omega
  · rw [hn] at i1
    obtain ⟨i, rfl⟩ := Int.eq_ofNat_of_zero_le i0
    have hi : i < n := by omega
    exact ⟨List.replicate (n - i) 0, (to0 i (n - i) hi).2 (by rw [Nat.add_sub_cancel' (by omega)]; exact Nat.dvd_refl _)⟩
  · rw [hn] at i1 j1
    obtain ⟨i, rfl⟩ := Int.eq_ofNat_of_zero_le i0
    obtain ⟨j, rfl⟩ := Int.eq_ofNat_of_zero_le j0
    have hi : i < n := by omega
    have hj : j < n := by omega
    have key : ∀ a b : Nat, a < n → b < n → (n ∣ b + (n - a)) → b = a := fun a b ha hb hd => by
      obtain ⟨c, hc⟩ := hd
      have : c = 1 := by
        rcases c with _ | _ | c
        · omega
        · rfl
        · have : n * 2 ≤ n * (c + 1 + 1) := Nat.mul_le_mul_left n (by omega)
          omega
      subst this
      omega
    have h2 := (to0 j (n - i) hj).1 ((h (List.replicate (n - i) 0)).1 ((to0 i (n - i) hi).2 (by rw [Nat.add_sub_cancel' (by omega)]; exact Nat.dvd_refl _)))
    rw [key i j hi hj h2]
/-- No automaton of fewer states has this language. -/
theorem cyc_least {m : Au} {n : Nat} (h0 : 0 < n) (h : IsMin m (CycL n)) : n ≤ m.n.toNat := by
  have z0 : ∀ k x, x ∈ List.replicate k (0 : Int) → x = 0 := fun k x hx => (List.mem_replicate.1 hx).2
  have hl : ∀ k, k < n → 0 ≤ rn m (List.replicate k 0) := fun k hk => (h.liv _).2 ⟨List.replicate (n - k) 0, fun x hx => by
    rcases List.mem_append.1 hx with g | g
    · exact z0 _ x g
    · exact z0 _ x g, by simp; rw [Nat.add_sub_cancel' (by omega)]; exact Nat.dvd_refl _⟩
  have rg : ∀ k, k < n → 0 ≤ rn m (List.replicate k 0) ∧ rn m (List.replicate k 0) < m.n := fun k hk => by
    have := hl k hk
    rcases h.rt.rn_cases (List.replicate k 0) with g | g <;> omega
  have ne : ∀ i j, i < j → j < n → rn m (List.replicate i 0) ≠ rn m (List.replicate j 0) := fun i j hij hj he => by
    have ha := ((h.alik (hl i (by omega)) (hl j hj)).1 he (List.replicate (n - j) 0)).2 ⟨fun x hx => by
      rcases List.mem_append.1 hx with g | g
      · exact z0 _ x g
      · exact z0 _ x g, by simp; rw [Nat.add_sub_cancel' (by omega)]; exact Nat.dvd_refl _⟩
    obtain ⟨c, hc⟩ := ha.2
    simp at hc
    rcases c with _ | c
    · omega
    · have : n * 1 ≤ n * (c + 1) := Nat.mul_le_mul_left n (by omega)
      omega
  have := sub_len ((List.range n).map fun k => (rn m (List.replicate k 0)).toNat) (List.range m.n.toNat) (by
    rw [List.nodup_iff_pairwise_ne, List.pairwise_map]
    refine List.Pairwise.imp_of_mem ?_ List.pairwise_lt_range
    intro x y hx hy hxy he
    have hx' := List.mem_range.1 hx
    have hy' := List.mem_range.1 hy
    have := ne x y hxy hy'
    have r1 := rg x hx'
    have r2 := rg y hy'
    omega) (fun q hq => by
    obtain ⟨k, hk, rfl⟩ := List.mem_map.1 hq
    have := rg k (List.mem_range.1 hk)
    rw [List.mem_range]
    omega)
  simpa using this
theorem cyc_two {k : Nat} (h0 : 0 < k) (h1 : k + 1 ≤ 4096) (w : List Int) : CoL (cycV k) (cycV (k + 1)) (fun x y => x && y) w ↔ CycL (k * (k + 1)) w := by
  have hu : ∀ x, x ∈ unionV (cycV k).al (cycV (k + 1)).al ↔ x = 0 := fun x => by
    rw [mem_unionV _ _ _ (Nat.le_refl _)]; simp [cycV]
  unfold CoL
  simp only [hu, Bool.and_eq_true, decide_eq_true_eq, cyc_lang h0 (show k ≤ 4096 by omega), cyc_lang (show 0 < k + 1 by omega) h1]
  constructor
  · rintro ⟨hw, ⟨_, a⟩, ⟨_, b⟩⟩
    exact ⟨hw, Nat.Coprime.mul_dvd_of_dvd_of_dvd (Nat.dvd_one.1 ((Nat.dvd_add_right (Nat.gcd_dvd_left k (k + 1))).1 (Nat.gcd_dvd_right k (k + 1)))) a b⟩
  · rintro ⟨hw, hd⟩
    exact ⟨hw, ⟨hw, Nat.dvd_trans (Nat.dvd_mul_right _ _) hd⟩, ⟨hw, Nat.dvd_trans (Nat.dvd_mul_left _ _) hd⟩⟩
/-- What Intersect gives of two cycles. -/
theorem cyc_both {k : Nat} {m : Au} {r : Int} (h0 : 0 < k) (h1 : k ≤ 20 ∨ 64 ≤ k) (h2 : k ≤ 70) (h : CoR (cycV k) (cycV (k + 1)) (fun x y => x && y) m r) :
    (k ≤ 20 ∧ r = 0 ∧ m = cycV (k * (k + 1))) ∨ (64 ≤ k ∧ r = 3 ∧ m = ⟨[], 0, [], []⟩) := by
  have hra := cyc_right h0 (show k ≤ 4096 by omega)
  have hrb := cyc_right (show 0 < k + 1 by omega) (show k + 1 ≤ 4096 by omega)
  rcases h1 with h1 | h1
  · have hle : k * (k + 1) ≤ 20 * 21 := Nat.mul_le_mul h1 (by omega)
    have hpos : 0 < k * (k + 1) := Nat.mul_pos h0 (by omega)
    obtain ⟨e, hm, hal⟩ := h.ok hra hrb (by
      show ((k : Int).toNat + 1) * ((k + 1 : Nat) : Int).toNat.succ ≤ 4096
      have : (k + 1) * (k + 1 + 1) ≤ 21 * 22 := Nat.mul_le_mul (by omega) (by omega)
      simp only [Int.toNat_natCast, Nat.succ_eq_add_one]
      omega)
    refine .inl ⟨h1, e, (hm.congr (cyc_two h0 (by omega))).uniq (cyc_min hpos (by omega)) ?_⟩
    rw [hal]
    exact union_same one_right.incr
  · refine .inr ⟨h1, ?_⟩
    rcases h with ⟨_, hm, _⟩ | ⟨h3, h4, _⟩
    · have hm' := hm.congr (cyc_two h0 (by omega))
      have h5 := cyc_least (Nat.mul_pos h0 (by omega)) hm'
      have h6 := hm'.rt.n1
      have : 64 * 65 ≤ k * (k + 1) := Nat.mul_le_mul h1 (by omega)
      omega
    · exact ⟨h3, h4⟩
end Go.Proofs.YtkifgffhoenaoaaDoor

namespace Go.Proofs.YtkifgffhoenaoaaDoor
open Go.RowKit
set_option linter.unusedSimpArgs false
set_option linter.unusedVariables false
set_option maxRecDepth 100000

structure CySt (b n : Nat) (v1 v2 v3 : Value) (es : List Ed) (w : World) : Prop where
  blk : BlkAt w b 35 [v1, .int .i64 (n : Int), v2, v3]
  o3 : Own Ed.cells 3 87 (b + 1) es v3 w
theorem CySt.below {b n : Nat} {v1 v2 v3 : Value} {es : List Ed} {w w1 : World} (h : CySt b n v1 v2 v3 es w) (hb : Below w.heap.size w w1) : CySt b n v1 v2 v3 es w1 := ⟨h.blk.below hb h.blk.lt, h.o3.below hb (Nat.le_refl _)⟩
/-- The first edges of a cycle. -/
def cyE (n k : Nat) : List Ed := (List.range k).map (cycE n)
theorem cyE_len (n k : Nat) : (cyE n k).length = k := by simp [cyE]
theorem cyE_succ (n k : Nat) : cyE n (k + 1) = cyE n k ++ [cycE n k] := by simp [cyE, List.range_succ]
/-- The blocks at the start. -/
def cyW (w : World) (n : Nat) : World := (((w.alloc (.cells #[.slice none 0 0, .int .i64 0, .slice none 0 0, .slice none 0 0] 35)).alloc (.cells #[.int .i64 0] 3)).alloc (.cells #[.int .i64 0] 3)).alloc (.cells #[.slice (some ⟨w.heap.size + 1, 0, none⟩) 1 1, .int .i64 (n : Int), .slice (some ⟨w.heap.size + 1 + 1, 0, none⟩) 1 1, .slice none 0 0] 35)
structure CyW (w : World) (n : Nat) (W : World) : Prop where
  b0 : BlkAt W w.heap.size 35 [.slice none 0 0, .int .i64 0, .slice none 0 0, .slice none 0 0]
  m0 : BlkAt W (w.heap.size + 1) 3 [.int .i64 0]
  m1 : BlkAt W (w.heap.size + 1 + 1) 3 [.int .i64 0]
  s0 : BlkAt W (w.heap.size + 1 + 1 + 1) 35 [.slice (some ⟨w.heap.size + 1, 0, none⟩) 1 1, .int .i64 (n : Int), .slice (some ⟨w.heap.size + 1 + 1, 0, none⟩) 1 1, .slice none 0 0]
  r0 : Fro w.heap.size w W
theorem cyW_ok (w : World) (n : Nat) : CyW w n (cyW w n) := by
  refine ⟨((((BlkAt.new w _ [_, _, _, _]).alloc _).alloc _).alloc _), ?_, ?_, ?_, ((((Fro.here w).alloc _).alloc _).alloc _).alloc _⟩
  · exact ((BlkAt.newAt (cs := [.int .i64 0]) (by simp) rfl).alloc _).alloc _
  · exact (BlkAt.newAt (cs := [.int .i64 0]) (by simp) rfl).alloc _
  · exact BlkAt.newAt (cs := [_, _, _, _]) (by simp) rfl
set_option maxHeartbeats 2000000 in
theorem cycle_c (n : Nat) (w : World) (h0 : 0 < n) (h1 : n ≤ 4096) :
    Calls Tryd.prog 28 #[.int .i64 (n : Int)] w (GivesR (cycV n) w) := by
  go_enter Tryd.func28, Tryd.ntmps28
  have K0 : Hid (CyW w n (cyW w n)) := cyW_ok w n
  go_wp2_with fail
  generalize hW : (((w.alloc (.cells #[.slice none 0 0, .int .i64 0, .slice none 0 0, .slice none 0 0] 35)).alloc (.cells #[.int .i64 0] 3)).alloc (.cells #[.int .i64 0] 3)).alloc (.cells #[.slice (some ⟨w.heap.size + 1, 0, none⟩) 1 1, .int .i64 (n : Int), .slice (some ⟨w.heap.size + 1 + 1, 0, none⟩) 1 1, .slice none 0 0] 35) = W
  rw [show cyW w n = W from hW] at K0
  clear hW
  have F0 : Hid (Fro (w.heap.size + 1 + 1 + 1) W W) := ⟨Below.refl _ _, Nat.le_of_lt K0.out.s0.lt⟩
  have X0 : Hid (CySt (w.heap.size + 1 + 1 + 1) n (.slice (some ⟨w.heap.size + 1, 0, none⟩) 1 1) (.slice (some ⟨w.heap.size + 1 + 1, 0, none⟩) 1 1) (.slice none 0 0) [] W) := ⟨K0.out.s0, Own.nil _⟩
  go_loopw [4] (fun i wr => ∃ (k : Nat) (v3 : Value), i = .int .i64 k ∧ k ≤ n ∧ Hid (CySt (w.heap.size + 1 + 1 + 1) n (.slice (some ⟨w.heap.size + 1, 0, none⟩) 1 1) (.slice (some ⟨w.heap.size + 1 + 1, 0, none⟩) 1 1) v3 (cyE n k) wr) ∧ Hid (Fro (w.heap.size + 1 + 1 + 1) W wr)) (fun i _ => n - (intOf i).toNat)
  case atStart => exact ⟨0, _, rfl, by omega, X0.out, F0.out⟩
  case round =>
    clear X0
    obtain ⟨k, v3, rfl, hk, HS, BR⟩ := hrel
    have FR := Lib.hid (K0.out.r0.b.trans (BR.out.b.mono (show w.heap.size ≤ w.heap.size + 1 + 1 + 1 by omega)))
    by_cases hlt : k < n
    · obtain ⟨d, hd⟩ : ∃ d : Nat, d = (k + 1) % n := ⟨_, rfl⟩
      have hdn : d < n := hd ▸ Nat.mod_lt _ h0
      have HD := Lib.hid hd
      have e0 : IntKind.i64.wrap ((k : Int) + 1) = (k : Int) + 1 := IntWalk.i64_in _ (by omega)
      have e1 : ((k : Int) + 1).tmod (n : Int) = (d : Int) := by rw [Int.tmod_eq_emod_of_nonneg (by omega), hd, Int.natCast_emod]; rfl
      have e2 : IntKind.i64.wrap (d : Int) = (d : Int) := IntWalk.i64_in _ (by omega)
      have e3 : ¬ (n : Int) = 0 := by omega
      have e4 : ¬ n = 0 := by omega
      clear hd
      have b3 := HS.out.blk.cell 3
      have f3 := HS.out.blk.free 3
      have hz5 := HS.out.blk.lt
      have hne : ¬ w.heap.size + 1 + 1 + 1 = wr.heap.size := by omega
      have hne2 : ¬ wr.heap.size = w.heap.size + 1 + 1 + 1 := by omega
      have HSE : Hid (CySt (w.heap.size + 1 + 1 + 1) n (.slice (some ⟨w.heap.size + 1, 0, none⟩) 1 1) (.slice (some ⟨w.heap.size + 1 + 1, 0, none⟩) 1 1) v3 (cyE n k) ((wr.alloc (.cells #[.int .i64 (k : Int), .int .i64 0, .int .i64 (d : Int)] 87)).drew)) := HS.out.below (Below.new _ _).drew
      have HO3 := Lib.hid HSE.out.o3
      have hln := cyE_len n k
      go_wp2_with fail
      go_region_law (
        (refine step_append_at rfl (.tmp 15) (.tmp 22) 33 rfl (w.heap.size + 1 + 1 + 1 + 1) 87 _ 3 24 Tryd.underlying33 edInfo rfl (by decide) v3 _ _ rfl HO3.out ⟨wr.heap.size, 0, none⟩ 1 1 (Ed.cells ⟨(k : Int), 0, (d : Int)⟩) rfl rfl ?_ ?_ ?_ ?_ ?_ ?_
         (exact new_cells (by simp))
         (intro u hu; simp [Ed.cells] at hu; rcases hu with rfl | rfl | rfl <;> rfl)
         (simp only [maxLen]; omega)
         (omega)
         (simp; omega)
         intro A' c' w7 ho hg hb'
         have HO7 := Lib.hid (Own.pushed ho)
         have HG7 := Lib.hid hg
         have q7 : w7.cell? ⟨w.heap.size + 1 + 1 + 1, 3, none⟩ = some v3 := (HSE.out.blk.grown HG7.out (fun e => by have := (HSE.out.o3.lt _ e.symm).1; omega)).cell 3
         have q7f : w7.frozen? ⟨w.heap.size + 1 + 1 + 1, 3, none⟩ = false := (HSE.out.blk.grown HG7.out (fun e => by have := (HSE.out.o3.lt _ e.symm).1; omega)).free 3
         clear ho hg hb'))
      all_goals
        go_wp2
        go_roundw
        case rel =>
          refine ⟨k + 1, .slice A' (k + 1) c', by go_num, by omega, ?_, (((BR.out.alloc _).drew).grown HG7.out (fun j hj => by have := (HSE.out.o3.lt j hj).1; omega)).setCell (Nat.le_refl _) _⟩
          refine ⟨(HSE.out.blk.grown HG7.out (fun e => by have := (HSE.out.o3.lt _ e.symm).1; omega)).set_ 3 _, ?_⟩
          rw [cyE_succ, show cycE n k = ⟨(k : Int), 0, (d : Int)⟩ by rw [HD.out]; rfl]
          have h7 := HO7.out
          rw [hln] at h7
          exact ownsRow_setCell_below h7 (Nat.lt_succ_self _) _
        case measure => simp [intOf]; omega
    · obtain rfl : k = n := by omega
      have r0 := HS.out.blk.cell 0
      have r1 := HS.out.blk.cell 1
      have r2 := HS.out.blk.cell 2
      have r3 := HS.out.blk.cell 3
      have B2 : Hid (BlkAt wr w.heap.size 35 [.slice none 0 0, .int .i64 0, .slice none 0 0, .slice none 0 0]) := K0.out.b0.below BR.out.b (by omega)
      have M2 : Hid (BlkAt wr (w.heap.size + 1) 3 [.int .i64 0]) := K0.out.m0.below BR.out.b (by omega)
      have M3 : Hid (BlkAt wr (w.heap.size + 1 + 1) 3 [.int .i64 0]) := K0.out.m1.below BR.out.b (by omega)
      have g0 := B2.out.free 0
      have g1 := B2.out.free 1
      have g2 := B2.out.free 2
      have g3 := B2.out.free 3
      have p0 := B2.out.cell 0
      have p1 := B2.out.cell 1
      have p2 := B2.out.cell 2
      have p3 := B2.out.cell 3
      have E3 : Hid (Own Ed.cells 3 87 (w.heap.size + 1 + 1 + 1 + 1) (cycV k).ed v3 wr) := HS.out.o3
      obtain ⟨A3, c3, rfl⟩ := E3.out.form
      go_wp2_with fail
      refine bodyPost_ret (v := .agg #[.slice (some ⟨w.heap.size + 1, 0, none⟩) 1 1, .int .i64 (k : Int), .slice (some ⟨w.heap.size + 1 + 1, 0, none⟩) 1 1, .slice A3 (cycV k).ed.length c3]) (by simp [results, Tryd.results28, go_sem, *]) rfl ?_
      have HF : Hid (Fro w.heap.size w ((((wr.setCell ⟨w.heap.size, 0, none⟩ (.slice (some ⟨w.heap.size + 1, 0, none⟩) 1 1)).setCell ⟨w.heap.size, 1, none⟩ (.int .i64 (k : Int))).setCell ⟨w.heap.size, 2, none⟩ (.slice (some ⟨w.heap.size + 1 + 1, 0, none⟩) 1 1)).setCell ⟨w.heap.size, 3, none⟩ (.slice A3 (cycV k).ed.length c3))) := (((((Fro.refl (Nat.le_refl _)).next FR.out).setCell (Nat.le_refl _) _).setCell (Nat.le_refl _) _).setCell (Nat.le_refl _) _).setCell (Nat.le_refl _) _
      refine ⟨⟨some ⟨w.heap.size + 1, 0, none⟩, 1, some ⟨w.heap.size + 1 + 1, 0, none⟩, 1, A3, c3⟩, rfl, ⟨?_, ?_, ?_, ?_, ?_, ?_⟩, ⟨Nat.le_refl 1, Nat.le_refl 1, E3.out.cap⟩, HF.out.b⟩
      · exact IntsAt.blk (T := 3) [0] ((((M2.out.far (p := ⟨w.heap.size, 0, none⟩) (by simp) _).far (p := ⟨w.heap.size, 1, none⟩) (by simp) _).far (p := ⟨w.heap.size, 2, none⟩) (by simp) _).far (p := ⟨w.heap.size, 3, none⟩) (by simp) _)
      · exact IntsAt.blk (T := 3) [0] ((((M3.out.far (p := ⟨w.heap.size, 0, none⟩) (by simp; omega) _).far (p := ⟨w.heap.size, 1, none⟩) (by simp; omega) _).far (p := ⟨w.heap.size, 2, none⟩) (by simp; omega) _).far (p := ⟨w.heap.size, 3, none⟩) (by simp; omega) _)
      · have hz : w.heap.size < w.heap.size + 1 + 1 + 1 + 1 := by omega
        refine Own.reads (T := 87) (B := w.heap.size + 1 + 1 + 1 + 1) (c := c3) (fun _ => rfl) ?_
        exact ownsRow_setCell_below (ownsRow_setCell_below (ownsRow_setCell_below (ownsRow_setCell_below E3.out hz _) hz _) hz _) hz _
      · show 1 ≤ _
        decide
      · show 1 ≤ _
        decide
      · rw [cyc_len]; omega
end Go.Proofs.YtkifgffhoenaoaaDoor

namespace Go.Proofs.YtkifgffhoenaoaaDoor
open Go.RowKit
set_option linter.unusedSimpArgs false
set_option linter.unusedVariables false
set_option maxRecDepth 100000
set_option maxHeartbeats 8000000 in
theorem limits_c (x : Int) (w : World) (h0 : 0 ≤ x) (h1 : x < 256) (ht : TabW w) :
    Calls Tryd.prog 7 #[.int .u8 x] w (Ret (.bool true) w) := by
  have HTAB := Lib.hid ht
  clear ht
  obtain ⟨d, hd, hd70⟩ : ∃ d : Nat, x % 70 = (d : Int) ∧ d < 70 := ⟨(x % 70).toNat, by omega, by omega⟩
  have e0 : x.tmod 70 = (d : Int) := by rw [Int.tmod_eq_emod_of_nonneg h0]; exact hd
  have e1 : IntKind.u8.wrap (d : Int) = (d : Int) := IntWalk.u8_in _ (by omega)
  have e2 : IntKind.i64.wrap (d : Int) = (d : Int) := IntWalk.i64_in _ (by omega)
  obtain ⟨k, hk, hk0, hk70⟩ : ∃ k : Nat, 1 + (d : Int) = (k : Int) ∧ 0 < k ∧ k ≤ 70 := ⟨1 + d, by omega, by omega, by omega⟩
  have e3 : IntKind.i64.wrap (1 + (d : Int)) = (k : Int) := by rw [IntWalk.i64_in _ (by omega), hk]
  clear hd hk
  go_enter Tryd.func7, Tryd.ntmps7
  go_wp2_with fail
  refine (known_c w HTAB.out).mono ?_
  rintro e w1 ⟨rfl, hb1⟩
  have B1 := Lib.hid hb1
  clear hb1
  have hcase : (decide ((20 : Int) < (k : Int)) = false ∧ k ≤ 20) ∨ (decide ((20 : Int) < (k : Int)) = true ∧ decide ((k : Int) < 64) = true) ∨ (decide ((20 : Int) < (k : Int)) = true ∧ decide ((k : Int) < 64) = false ∧ 64 ≤ k) := by
    simp only [decide_eq_true_eq, decide_eq_false_iff_not]
    omega
  rcases hcase with ⟨t1, hk20⟩ | ⟨t1, t2⟩ | ⟨t1, t2, hk64⟩
  all_goals
    go_upto_region 6 with fail
  · have hkc : k ≤ 20 ∨ 64 ≤ k := .inl hk20
    clear t1 hk20
    obtain ⟨k1, hk1⟩ : ∃ k1 : Nat, k1 = k + 1 := ⟨_, rfl⟩
    have i1 : IntKind.i64.wrap ((k : Int) + 1) = (k1 : Int) := by rw [hk1, IntWalk.i64_in _ (by omega)]; rfl
    have hk10 : 0 < k1 := by omega
    have hk11 : k1 ≤ 71 := by omega
    obtain ⟨N, hN⟩ : ∃ N : Nat, N = k * k1 := ⟨_, rfl⟩
    have hN1 : N ≤ 70 * 71 := hN ▸ Nat.mul_le_mul hk70 hk11
    have i2 : IntKind.i64.wrap ((k : Int) * (k1 : Int)) = (N : Int) := by
      have : (k : Int) * (k1 : Int) = (N : Int) := by rw [hN]; exact (Int.natCast_mul _ _).symm
      rw [this, IntWalk.i64_in _ (by omega)]
    have HN := Lib.hid hN
    have HK1 := Lib.hid hk1
    clear hN hk1
    go_wp2_with fail
    refine (cycle_c k w1 hk0 (by omega)).mono ?_
    rintro e w2 ⟨p, rfl, HA, HCA, hb2⟩
    have B2 : Hid (Below w.heap.size w w2) := B1.out.trans (hb2.mono B1.out.size)
    clear hb2
    obtain ⟨A1, c1, A2, c2, A3, c3⟩ := p
    go_wp2_with fail
    refine (cycle_c k1 w2 hk10 (by omega)).mono ?_
    rintro e w3 ⟨q, rfl, HB, HCB, hb3⟩
    have B3 : Hid (Below w.heap.size w w3) := B2.out.trans (hb3.mono B2.out.size)
    have HA3 := Lib.hid (HA.out.below hb3)
    have TB3 : Hid (TabW w3) := HTAB.out.below B3.out
    clear hb3 HA B2 B1
    obtain ⟨D1, d1, D2, d2, D3, d3⟩ := q
    go_wp2_with fail
    refine (intersect_c (cycV k) (cycV k1) ⟨A1, c1, A2, c2, A3, c3⟩ ⟨D1, d1, D2, d2, D3, d3⟩ w3 TB3.out (cyc_right hk0 (by omega)) (cyc_right hk10 (by omega)) HCA.out HCB.out HA3.out HB.out).mono ?_
    rintro e w4 ⟨m, p', r, rfl, TT, LN, RR⟩
    have RR' := RR.out
    rw [HK1.out] at RR'
    have hres := cyc_both hk0 hkc hk70 RR'
    rw [← HK1.out, ← HN.out] at hres
    clear RR RR' HA3 HB HCA HCB TB3
    obtain ⟨X1, x1, X2, x2, X3, x3⟩ := p'
    rcases hres with ⟨hk20, rfl, rfl⟩ | ⟨hk64, rfl, rfl⟩
    · have S4 : Hid (Sep w3.heap.size w3 [eInts [0] (.slice X1 1 x1), eInts [0] (.slice X2 1 x2), eEds (cycV N).ed (.slice X3 (cycV N).ed.length x3)] w4) := TT.out
      clear TT LN
      have hN2 : N ≤ 4096 := by
        have h9 : k * k1 ≤ 20 * 21 := Nat.mul_le_mul hk20 (by have := HK1.out; omega)
        rw [← HN.out] at h9
        omega
      have hN3 : ¬ (4096 : Int) < (N : Int) := by omega
      dsimp only [Au.val, cycV, List.length_cons, List.length_nil, Nat.zero_add, Nat.reduceAdd] at S4 ⊢
      generalize hE : (List.range N).map (cycE N) = E at S4 ⊢
      clear hE
      obtain ⟨tb, htb⟩ : ∃ g, g = w4.heap.size := ⟨_, rfl⟩
      go_upto_region 7 with fail
      rw [← htb]
      refine wp_world (fun V => Sep w3.heap.size w3 [eBlk tb 35 [.slice X1 1 x1, .int .i64 (N : Int), .slice X2 1 x2, .slice X3 E.length x3], eInts [0] (.slice X1 1 x1), eInts [0] (.slice X2 1 x2), eEds E (.slice X3 E.length x3)] V) (S4.out.alloc' _ [_, _, _, _] rfl htb) fun W5 S' => ?_
      have S5 := Lib.hid S'
      clear S' S4 htb
      have q1 := BlkAt.cell (S5.out.get 0 rfl) 1
      have q2 := BlkAt.cell (S5.out.get 0 rfl) 2
      simp only [List.getElem?_cons_succ, List.getElem?_cons_zero] at q1 q2
      go_wp2_with fail
      refine (same_c X2 (some ⟨W5.heap.size, 0, none⟩) x2 1 [0] [0] _ ((S5.out.ints 2 rfl).below IntE.stays (Below.new W5 _)) (ints_new W5 [0]) (by decide) (by decide)).mono ?_
      intro e w6 hs
      obtain ⟨rfl, hb⟩ := hs.yes2 rfl
      have B6 : Hid (Below w.heap.size w w6) := B3.out.trans (((S5.out.next (Below.new W5 _)).next hb).below.mono B3.out.size)
      go_wp2_with fail
      go_ret
      exact ⟨rfl, B6.out⟩
    · have S4 : Hid (Sep w3.heap.size w3 [eInts [] (.slice X1 0 x1), eInts [] (.slice X2 0 x2), eEds [] (.slice X3 0 x3)] w4) := TT.out
      clear TT LN
      have hN3 : (4096 : Int) < (N : Int) := by
        have h9 : 64 * 65 ≤ k * k1 := Nat.mul_le_mul hk64 (by have := HK1.out; omega)
        rw [← HN.out] at h9
        omega
      dsimp only [Au.val, List.length_nil]
      obtain ⟨tb, htb⟩ : ∃ g, g = w4.heap.size := ⟨_, rfl⟩
      go_upto_region 7 with fail
      rw [← htb]
      refine wp_world (fun V => Sep w3.heap.size w3 [eBlk tb 35 [.slice X1 0 x1, .int .i64 0, .slice X2 0 x2, .slice X3 0 x3], eInts [] (.slice X1 0 x1), eInts [] (.slice X2 0 x2), eEds [] (.slice X3 0 x3)] V) (S4.out.alloc' _ [_, _, _, _] rfl htb) fun W5 S' => ?_
      have S5 := Lib.hid S'
      clear S' S4 htb
      have q1 := BlkAt.cell (S5.out.get 0 rfl) 1
      simp only [List.getElem?_cons_succ, List.getElem?_cons_zero] at q1
      have B6 : Hid (Below w.heap.size w W5) := B3.out.trans (S5.out.below.mono B3.out.size)
      go_wp2_with fail
      go_ret
      exact ⟨rfl, B6.out⟩
  · obtain ⟨k, hk, hk0, hkc, hk70⟩ : ∃ k : Nat, (20 : Int) = (k : Int) ∧ 0 < k ∧ (k ≤ 20 ∨ 64 ≤ k) ∧ k ≤ 70 := ⟨20, rfl, by decide, by decide, by decide⟩
    rw [hk]
    clear hk t1 t2
    obtain ⟨k1, hk1⟩ : ∃ k1 : Nat, k1 = k + 1 := ⟨_, rfl⟩
    have i1 : IntKind.i64.wrap ((k : Int) + 1) = (k1 : Int) := by rw [hk1, IntWalk.i64_in _ (by omega)]; rfl
    have hk10 : 0 < k1 := by omega
    have hk11 : k1 ≤ 71 := by omega
    obtain ⟨N, hN⟩ : ∃ N : Nat, N = k * k1 := ⟨_, rfl⟩
    have hN1 : N ≤ 70 * 71 := hN ▸ Nat.mul_le_mul hk70 hk11
    have i2 : IntKind.i64.wrap ((k : Int) * (k1 : Int)) = (N : Int) := by
      have : (k : Int) * (k1 : Int) = (N : Int) := by rw [hN]; exact (Int.natCast_mul _ _).symm
      rw [this, IntWalk.i64_in _ (by omega)]
    have HN := Lib.hid hN
    have HK1 := Lib.hid hk1
    clear hN hk1
    go_wp2_with fail
    refine (cycle_c k w1 hk0 (by omega)).mono ?_
    rintro e w2 ⟨p, rfl, HA, HCA, hb2⟩
    have B2 : Hid (Below w.heap.size w w2) := B1.out.trans (hb2.mono B1.out.size)
    clear hb2
    obtain ⟨A1, c1, A2, c2, A3, c3⟩ := p
    go_wp2_with fail
    refine (cycle_c k1 w2 hk10 (by omega)).mono ?_
    rintro e w3 ⟨q, rfl, HB, HCB, hb3⟩
    have B3 : Hid (Below w.heap.size w w3) := B2.out.trans (hb3.mono B2.out.size)
    have HA3 := Lib.hid (HA.out.below hb3)
    have TB3 : Hid (TabW w3) := HTAB.out.below B3.out
    clear hb3 HA B2 B1
    obtain ⟨D1, d1, D2, d2, D3, d3⟩ := q
    go_wp2_with fail
    refine (intersect_c (cycV k) (cycV k1) ⟨A1, c1, A2, c2, A3, c3⟩ ⟨D1, d1, D2, d2, D3, d3⟩ w3 TB3.out (cyc_right hk0 (by omega)) (cyc_right hk10 (by omega)) HCA.out HCB.out HA3.out HB.out).mono ?_
    rintro e w4 ⟨m, p', r, rfl, TT, LN, RR⟩
    have RR' := RR.out
    rw [HK1.out] at RR'
    have hres := cyc_both hk0 hkc hk70 RR'
    rw [← HK1.out, ← HN.out] at hres
    clear RR RR' HA3 HB HCA HCB TB3
    obtain ⟨X1, x1, X2, x2, X3, x3⟩ := p'
    rcases hres with ⟨hk20, rfl, rfl⟩ | ⟨hk64, rfl, rfl⟩
    · have S4 : Hid (Sep w3.heap.size w3 [eInts [0] (.slice X1 1 x1), eInts [0] (.slice X2 1 x2), eEds (cycV N).ed (.slice X3 (cycV N).ed.length x3)] w4) := TT.out
      clear TT LN
      have hN2 : N ≤ 4096 := by
        have h9 : k * k1 ≤ 20 * 21 := Nat.mul_le_mul hk20 (by have := HK1.out; omega)
        rw [← HN.out] at h9
        omega
      have hN3 : ¬ (4096 : Int) < (N : Int) := by omega
      dsimp only [Au.val, cycV, List.length_cons, List.length_nil, Nat.zero_add, Nat.reduceAdd] at S4 ⊢
      generalize hE : (List.range N).map (cycE N) = E at S4 ⊢
      clear hE
      obtain ⟨tb, htb⟩ : ∃ g, g = w4.heap.size := ⟨_, rfl⟩
      go_upto_region 7 with fail
      rw [← htb]
      refine wp_world (fun V => Sep w3.heap.size w3 [eBlk tb 35 [.slice X1 1 x1, .int .i64 (N : Int), .slice X2 1 x2, .slice X3 E.length x3], eInts [0] (.slice X1 1 x1), eInts [0] (.slice X2 1 x2), eEds E (.slice X3 E.length x3)] V) (S4.out.alloc' _ [_, _, _, _] rfl htb) fun W5 S' => ?_
      have S5 := Lib.hid S'
      clear S' S4 htb
      have q1 := BlkAt.cell (S5.out.get 0 rfl) 1
      have q2 := BlkAt.cell (S5.out.get 0 rfl) 2
      simp only [List.getElem?_cons_succ, List.getElem?_cons_zero] at q1 q2
      go_wp2_with fail
      refine (same_c X2 (some ⟨W5.heap.size, 0, none⟩) x2 1 [0] [0] _ ((S5.out.ints 2 rfl).below IntE.stays (Below.new W5 _)) (ints_new W5 [0]) (by decide) (by decide)).mono ?_
      intro e w6 hs
      obtain ⟨rfl, hb⟩ := hs.yes2 rfl
      have B6 : Hid (Below w.heap.size w w6) := B3.out.trans (((S5.out.next (Below.new W5 _)).next hb).below.mono B3.out.size)
      go_wp2_with fail
      go_ret
      exact ⟨rfl, B6.out⟩
    · have S4 : Hid (Sep w3.heap.size w3 [eInts [] (.slice X1 0 x1), eInts [] (.slice X2 0 x2), eEds [] (.slice X3 0 x3)] w4) := TT.out
      clear TT LN
      have hN3 : (4096 : Int) < (N : Int) := by
        have h9 : 64 * 65 ≤ k * k1 := Nat.mul_le_mul hk64 (by have := HK1.out; omega)
        rw [← HN.out] at h9
        omega
      dsimp only [Au.val, List.length_nil]
      obtain ⟨tb, htb⟩ : ∃ g, g = w4.heap.size := ⟨_, rfl⟩
      go_upto_region 7 with fail
      rw [← htb]
      refine wp_world (fun V => Sep w3.heap.size w3 [eBlk tb 35 [.slice X1 0 x1, .int .i64 0, .slice X2 0 x2, .slice X3 0 x3], eInts [] (.slice X1 0 x1), eInts [] (.slice X2 0 x2), eEds [] (.slice X3 0 x3)] V) (S4.out.alloc' _ [_, _, _, _] rfl htb) fun W5 S' => ?_
      have S5 := Lib.hid S'
      clear S' S4 htb
      have q1 := BlkAt.cell (S5.out.get 0 rfl) 1
      simp only [List.getElem?_cons_succ, List.getElem?_cons_zero] at q1
      have B6 : Hid (Below w.heap.size w W5) := B3.out.trans (S5.out.below.mono B3.out.size)
      go_wp2_with fail
      go_ret
      exact ⟨rfl, B6.out⟩
  · have hkc : k ≤ 20 ∨ 64 ≤ k := .inr hk64
    clear t1 t2 hk64
    obtain ⟨k1, hk1⟩ : ∃ k1 : Nat, k1 = k + 1 := ⟨_, rfl⟩
    have i1 : IntKind.i64.wrap ((k : Int) + 1) = (k1 : Int) := by rw [hk1, IntWalk.i64_in _ (by omega)]; rfl
    have hk10 : 0 < k1 := by omega
    have hk11 : k1 ≤ 71 := by omega
    obtain ⟨N, hN⟩ : ∃ N : Nat, N = k * k1 := ⟨_, rfl⟩
    have hN1 : N ≤ 70 * 71 := hN ▸ Nat.mul_le_mul hk70 hk11
    have i2 : IntKind.i64.wrap ((k : Int) * (k1 : Int)) = (N : Int) := by
      have : (k : Int) * (k1 : Int) = (N : Int) := by rw [hN]; exact (Int.natCast_mul _ _).symm
      rw [this, IntWalk.i64_in _ (by omega)]
    have HN := Lib.hid hN
    have HK1 := Lib.hid hk1
    clear hN hk1
    go_wp2_with fail
    refine (cycle_c k w1 hk0 (by omega)).mono ?_
    rintro e w2 ⟨p, rfl, HA, HCA, hb2⟩
    have B2 : Hid (Below w.heap.size w w2) := B1.out.trans (hb2.mono B1.out.size)
    clear hb2
    obtain ⟨A1, c1, A2, c2, A3, c3⟩ := p
    go_wp2_with fail
    refine (cycle_c k1 w2 hk10 (by omega)).mono ?_
    rintro e w3 ⟨q, rfl, HB, HCB, hb3⟩
    have B3 : Hid (Below w.heap.size w w3) := B2.out.trans (hb3.mono B2.out.size)
    have HA3 := Lib.hid (HA.out.below hb3)
    have TB3 : Hid (TabW w3) := HTAB.out.below B3.out
    clear hb3 HA B2 B1
    obtain ⟨D1, d1, D2, d2, D3, d3⟩ := q
    go_wp2_with fail
    refine (intersect_c (cycV k) (cycV k1) ⟨A1, c1, A2, c2, A3, c3⟩ ⟨D1, d1, D2, d2, D3, d3⟩ w3 TB3.out (cyc_right hk0 (by omega)) (cyc_right hk10 (by omega)) HCA.out HCB.out HA3.out HB.out).mono ?_
    rintro e w4 ⟨m, p', r, rfl, TT, LN, RR⟩
    have RR' := RR.out
    rw [HK1.out] at RR'
    have hres := cyc_both hk0 hkc hk70 RR'
    rw [← HK1.out, ← HN.out] at hres
    clear RR RR' HA3 HB HCA HCB TB3
    obtain ⟨X1, x1, X2, x2, X3, x3⟩ := p'
    rcases hres with ⟨hk20, rfl, rfl⟩ | ⟨hk64, rfl, rfl⟩
    · have S4 : Hid (Sep w3.heap.size w3 [eInts [0] (.slice X1 1 x1), eInts [0] (.slice X2 1 x2), eEds (cycV N).ed (.slice X3 (cycV N).ed.length x3)] w4) := TT.out
      clear TT LN
      have hN2 : N ≤ 4096 := by
        have h9 : k * k1 ≤ 20 * 21 := Nat.mul_le_mul hk20 (by have := HK1.out; omega)
        rw [← HN.out] at h9
        omega
      have hN3 : ¬ (4096 : Int) < (N : Int) := by omega
      dsimp only [Au.val, cycV, List.length_cons, List.length_nil, Nat.zero_add, Nat.reduceAdd] at S4 ⊢
      generalize hE : (List.range N).map (cycE N) = E at S4 ⊢
      clear hE
      obtain ⟨tb, htb⟩ : ∃ g, g = w4.heap.size := ⟨_, rfl⟩
      go_upto_region 7 with fail
      rw [← htb]
      refine wp_world (fun V => Sep w3.heap.size w3 [eBlk tb 35 [.slice X1 1 x1, .int .i64 (N : Int), .slice X2 1 x2, .slice X3 E.length x3], eInts [0] (.slice X1 1 x1), eInts [0] (.slice X2 1 x2), eEds E (.slice X3 E.length x3)] V) (S4.out.alloc' _ [_, _, _, _] rfl htb) fun W5 S' => ?_
      have S5 := Lib.hid S'
      clear S' S4 htb
      have q1 := BlkAt.cell (S5.out.get 0 rfl) 1
      have q2 := BlkAt.cell (S5.out.get 0 rfl) 2
      simp only [List.getElem?_cons_succ, List.getElem?_cons_zero] at q1 q2
      go_wp2_with fail
      refine (same_c X2 (some ⟨W5.heap.size, 0, none⟩) x2 1 [0] [0] _ ((S5.out.ints 2 rfl).below IntE.stays (Below.new W5 _)) (ints_new W5 [0]) (by decide) (by decide)).mono ?_
      intro e w6 hs
      obtain ⟨rfl, hb⟩ := hs.yes2 rfl
      have B6 : Hid (Below w.heap.size w w6) := B3.out.trans (((S5.out.next (Below.new W5 _)).next hb).below.mono B3.out.size)
      go_wp2_with fail
      go_ret
      exact ⟨rfl, B6.out⟩
    · have S4 : Hid (Sep w3.heap.size w3 [eInts [] (.slice X1 0 x1), eInts [] (.slice X2 0 x2), eEds [] (.slice X3 0 x3)] w4) := TT.out
      clear TT LN
      have hN3 : (4096 : Int) < (N : Int) := by
        have h9 : 64 * 65 ≤ k * k1 := Nat.mul_le_mul hk64 (by have := HK1.out; omega)
        rw [← HN.out] at h9
        omega
      dsimp only [Au.val, List.length_nil]
      obtain ⟨tb, htb⟩ : ∃ g, g = w4.heap.size := ⟨_, rfl⟩
      go_upto_region 7 with fail
      rw [← htb]
      refine wp_world (fun V => Sep w3.heap.size w3 [eBlk tb 35 [.slice X1 0 x1, .int .i64 0, .slice X2 0 x2, .slice X3 0 x3], eInts [] (.slice X1 0 x1), eInts [] (.slice X2 0 x2), eEds [] (.slice X3 0 x3)] V) (S4.out.alloc' _ [_, _, _, _] rfl htb) fun W5 S' => ?_
      have S5 := Lib.hid S'
      clear S' S4 htb
      have q1 := BlkAt.cell (S5.out.get 0 rfl) 1
      simp only [List.getElem?_cons_succ, List.getElem?_cons_zero] at q1
      have B6 : Hid (Below w.heap.size w W5) := B3.out.trans (S5.out.below.mono B3.out.size)
      go_wp2_with fail
      go_ret
      exact ⟨rfl, B6.out⟩
end Go.Proofs.YtkifgffhoenaoaaDoor

