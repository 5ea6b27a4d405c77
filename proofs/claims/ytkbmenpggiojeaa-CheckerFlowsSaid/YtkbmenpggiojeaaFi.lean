/-
  CheckerFlows: for every input the law returns true, and each argument reads afterwards as it read before. No condition on the inputs.
-/
import Derived.Test.YtkbmenpggiojeaaRb
import Derived.Test.YtkbmenpggiojeaaFh
namespace Go.Proofs.Ytkbmenpggiojeaa
open Go.ChangeShapes Go.WideShapes Go.ChangeAt Go.RowKit
set_option linter.unusedSimpArgs false
set_option linter.unusedVariables false
set_option maxRecDepth 100000
section
variable {H : Type} {enc : TypeId × Value → H} {P : Program} {w : World} {base : Nat} {spare : Nat → Bool} {held : Bool}
theorem U8s.app {a b : List Value} {n m : Nat} (h : U8s a n) (k : U8s b m) : U8s (a ++ b) (n + m) :=
  ⟨by rw [List.length_append, h.l, k.l], fun i hi => by
    by_cases e : i < n
    · rw [List.getElem?_append_left (by rw [h.l]; exact e)]; exact h.g i e
    · rw [List.getElem?_append_right (by rw [h.l]; omega), h.l]; exact k.g (i - n) (by omega)⟩
theorem u8_of {t : TypeId} (he : P.underlying t = some (.int .u8)) {fuel : Nat} {cs : List Value} {x : DataW H × List MemPlace} (h : DataW.trod enc P w base spare held fuel t cs = some x) : U8s cs 1 := by
  obtain ⟨n, rfl, _, hw⟩ := DataW.trod_int he h
  have hb : 0 ≤ n ∧ n < 256 := by simp [Lit.wf, IntKind.min, IntKind.max, IntKind.signed, IntKind.bits] at hw; omega
  exact ⟨rfl, fun i hi => ⟨n, by cases (show i = 0 by omega); rfl, hb⟩⟩
/-- Elements one behind another. -/
theorem U8s.of_cut {cs : List Value} {k n : Nat} (hl : cs.length = n * k) (h : ∀ i, i < n → U8s ((cs.drop (i * k)).take k) k) (hk : 0 < k) : U8s cs (n * k) := by
  refine ⟨hl, fun i hi => ?_⟩
  have h1 : i / k < n := Nat.div_lt_of_lt_mul (by rw [Nat.mul_comm]; exact hi)
  have h2 : i % k < k := Nat.mod_lt _ hk
  obtain ⟨x, hx, hr⟩ := (h (i / k) h1).g (i % k) h2
  rw [List.getElem?_take, if_pos h2, List.getElem?_drop] at hx
  refine ⟨x, ?_, hr⟩
  have : i / k * k + i % k = i := by rw [Nat.mul_comm]; exact Nat.div_add_mod i k
  rw [this] at hx
  exact hx
theorem u8arr_of {t e : TypeId} {n k : Nat} (ht : P.underlying t = some (.array n e)) (hc : P.cellsOf t = n * k) (hce : P.cellsOf e = k) (hk : 0 < k) (hel : ∀ (fuel : Nat) (cs : List Value) (x : DataW H × List MemPlace), DataW.trod enc P w base spare held fuel e cs = some x → U8s cs k) {fuel : Nat} {cs : List Value} {x : DataW H × List MemPlace}
    (h : DataW.trod enc P w base spare held fuel t cs = some x) : U8s cs (n * k) := by
  obtain ⟨xs, m, _, _, hl, hlen, hf⟩ := DataW.trod_array ht h
  refine U8s.of_cut (by rw [hl, hc]) (fun i hi => ?_) hk
  have h1 := hf i hi
  rw [hce, List.getElem?_eq_getElem (by omega)] at h1
  exact hel _ _ _ h1
theorem shape_of {fuel : Nat} {cs : List Value} {x : DataW H × List MemPlace} (h : DataW.trod enc Try.prog w base spare held fuel 54 cs = some x) : U8s cs 37 := by
  obtain ⟨css, rfl, hl, hf⟩ := st_of (fs := [_, _, _, _, _]) Try.underlying54 (by kernel_rfl) h
  have a5 : ∀ (fuel : Nat) (cs : List Value) (x : DataW H × List MemPlace), DataW.trod enc Try.prog w base spare held fuel 23 cs = some x → U8s cs 5 := fun _ _ _ h =>
    u8arr_of (n := 5) (k := 1) Try.underlying23 (by kernel_rfl) (by kernel_rfl) (by decide) (fun _ _ _ h => u8_of Try.underlying5 h) h
  match css, hl with
  | [c0, c1, c2, c3, c4], _ =>
    obtain ⟨_, y0, n0, e0, _, t0⟩ := hf 0 _ rfl
    obtain ⟨_, y1, n1, e1, _, t1⟩ := hf 1 _ rfl
    obtain ⟨_, y2, n2, e2, _, t2⟩ := hf 2 _ rfl
    obtain ⟨_, y3, n3, e3, _, t3⟩ := hf 3 _ rfl
    obtain ⟨_, y4, n4, e4, _, t4⟩ := hf 4 _ rfl
    cases e0; cases e1; cases e2; cases e3; cases e4
    have u0 := u8_of Try.underlying5 t0
    have u1 := u8_of Try.underlying5 t1
    have u2 := a5 _ _ _ t2
    have u3 := a5 _ _ _ t3
    have u4 := u8arr_of (n := 5) (k := 5) Try.underlying24 (by kernel_rfl) (by kernel_rfl) (by decide) a5 t4
    have := u0.app (u1.app (u2.app (u3.app u4)))
    simpa using this
end
theorem flows_lifted (os : Os) (started : os.Started) (H : Type) (enc : TypeId × Value → H) :
    ReturnsInHanded {} Try.checked os 6 .any (Rows.checkerFlowsSpec.pre6 enc Try.prog Try.f6 Rows.checkerFlowsRow.domain false) (Rows.checkerFlowsSpec.post enc Try.prog Try.f6 false true false false) := by
  refine returnsInHanded_of_change (C := Try.checked) own_ started (by kernel_rfl) Try.func6
    (ChangeSpec.witness6 (enc := enc) (C := Try.checked) false ⟨#[], #[.agg #[.int .u8 0, .int .u8 0, .int .u8 0, .int .u8 0, .int .u8 0, .int .u8 0, .int .u8 0, .int .u8 0, .int .u8 0, .int .u8 0, .int .u8 0, .int .u8 0, .int .u8 0, .int .u8 0, .int .u8 0, .int .u8 0, .int .u8 0, .int .u8 0, .int .u8 0, .int .u8 0, .int .u8 0, .int .u8 0, .int .u8 0, .int .u8 0, .int .u8 0, .int .u8 0, .int .u8 0, .int .u8 0, .int .u8 0, .int .u8 0, .int .u8 0, .int .u8 0, .int .u8 0, .int .u8 0, .int .u8 0, .int .u8 0, .int .u8 0], .slice none 0 0, .slice none 0 0], []⟩ 8 (by kernel_rfl) (by kernel_rfl) (by kernel_rfl) (by kernel_rfl)) ?_
  intro W base args ds gs before hval0 hW hcnd _
  have hval : ∀ (j : Nat) t v, Try.f6.params[j]? = some t → args[j]? = some v → Value.okWide Try.prog W .any base t v := hval0
  have hW' := hW
  obtain ⟨p, q, hA0, hV, rfl, hfz, hnd⟩ := hW
  have hA : DataW.TrodAll enc Try.prog W 0 (fun _ => true) true Try.f6.params.toList args.toList ds p := hA0
  rw [Try.params6] at hA hval
  obtain ⟨v0, vs0, d0, ds0, p0, q0, hargs, rfl, rfl, h0, r0⟩ := trodAll_cons hA
  obtain ⟨v1, vs1, d1, ds1, p1, q1, rfl, rfl, rfl, h1, r1⟩ := trodAll_cons r0
  obtain ⟨v2, vs2, d2, ds2, p2, q2, rfl, rfl, rfl, h2, r2⟩ := trodAll_cons r1
  obtain ⟨rfl, rfl, rfl⟩ := trodAll_nil r2
  obtain rfl : args = #[v0, v1, v2] := by cases args; simp_all
  obtain ⟨rfl, rfl⟩ := trodVars_none hV
  have lt0 : ∀ x ∈ p0, x.block < W.heap.size := by obtain ⟨m, hm⟩ := h0; exact DataW.trod_lt m _ _ _ hm
  have lt1 : ∀ x ∈ p1, x.block < W.heap.size := by obtain ⟨m, hm⟩ := h1; exact DataW.trod_lt m _ _ _ hm
  have lt2 : ∀ x ∈ p2, x.block < W.heap.size := by obtain ⟨m, hm⟩ := h2; exact DataW.trod_lt m _ _ _ hm
  have k0 := h0
  have k1 := h1
  have k2 := h2
  have o0 := hval 0 54 v0 rfl rfl
  have o1 := hval 1 36 v1 rfl rfl
  have o2 := hval 2 36 v2 rfl rfl
  obtain ⟨cs0, n0, rfl, t0⟩ := cells_of Try.underlying54 o0 h0
  have hc := shape_of t0
  obtain ⟨AW, cW, ws, rfl, iW, mW, kW⟩ := ints_in o1 h1
  obtain ⟨AC, cC, co, rfl, iC, mC, kC⟩ := ints_in o2 h2
  clear hA0 hval0
  refine (flows_c cs0 AW AC cW cC ws co W hc iW iC (Nat.le_trans mW kW) (Nat.le_trans mC kC)).mono fun e W' ⟨he, bel⟩ => ?_
  subst he
  exact ⟨_, rfl, _, _, _, [], _, [], hW', trodAll_mk1 (shut_bool Try.underlying4 _), (trodAll_cons_mk (Below.trod laidOut_ (by kernel_rfl) (of_decide_eq_true (by kernel_rfl)) k0 bel lt0) (trodAll_cons_mk (Below.trod laidOut_ (by kernel_rfl) (of_decide_eq_true (by kernel_rfl)) k1 bel lt1) (trodAll_cons_mk (Below.trod laidOut_ (by kernel_rfl) (of_decide_eq_true (by kernel_rfl)) k2 bel lt2) trodAll_mk0))), rfl, bel.frame _, fun h => by cases h⟩

theorem flows_over : Rows.checkerFlowsRow.holds Try.pinned (OpenSpec.ofChange Rows.checkerFlowsSpec) :=
  OpenClaim.holds_of_wide 6 Try.f6 rfl rfl rfl rfl rfl rfl rfl ⟨rfl, rfl, rfl, rfl, rfl⟩ rfl rfl rfl rfl rfl (by kernel_rfl) Try.func6 (by kernel_rfl)
    (of_decide_eq_true (by kernel_rfl)) (by unfold Func.isWrapper; first | (rw [if_pos (by decide +kernel)]; kernel_rfl) | (rw [if_neg (by decide +kernel)]; exact ⟨rfl, rfl⟩))
    (fun os started H enc _ => flows_lifted os started H enc)

theorem flows_proved : Rows.CheckerFlowsSaid := flows_over
end Go.Proofs.Ytkbmenpggiojeaa
