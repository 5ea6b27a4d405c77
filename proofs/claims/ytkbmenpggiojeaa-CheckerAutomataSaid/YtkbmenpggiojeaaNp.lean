/-
  CheckerAutomata: for every input the law returns true, and each argument reads afterwards as it read before. No condition on the inputs.
-/
import Derived.Test.YtkbmenpggiojeaaRb
import Derived.Test.YtkbmenpggiojeaaNn
namespace Go.Proofs.Ytkbmenpggiojeaa
open Go.ChangeShapes Go.WideShapes Go.ChangeAt Go.RowKit
set_option linter.unusedSimpArgs false
set_option linter.unusedVariables false
set_option maxRecDepth 100000
section
variable {H : Type} {enc : TypeId × Value → H} {w : World} {base : Nat} {spare : Nat → Bool} {held : Bool}
theorem two_in {v : Value} {d : DataW H} {p : List MemPlace} {r : Reach} {b0 : Nat} (hv : Value.okWide Try.prog w r b0 66 v) (h : DataW.Trod enc Try.prog w base spare held 66 v d p) :
    ∃ (A : Option Addr) (c : Nat) (l : List Int) (B : Option Addr) (c' : Nat) (l' : List Int), v = .agg #[.slice A l.length c, .slice B l'.length c'] ∧ IntsAt w A l ∧ l.length ≤ c ∧ c ≤ maxLen ∧ IntsAt w B l' ∧ l'.length ≤ c' ∧ c' ≤ maxLen := by
  obtain ⟨cs, fuel, rfl, hq⟩ := acells_of Try.underlying66 hv h
  obtain ⟨xs, m, _, _, hl, hlen, hf⟩ := DataW.trod_array Try.underlying66 hq
  have hc : Try.prog.cellsOf 36 = 1 := by kernel_rfl
  have hc2 : Try.prog.cellsOf 66 = 2 := by kernel_rfl
  rw [hc2] at hl
  match cs, hl with
  | [c0, c1], _ =>
    have h0 := hf 0 (by decide)
    have h1 := hf 1 (by decide)
    rw [hc, List.getElem?_eq_getElem (by omega)] at h0 h1
    obtain ⟨A, c, l, e, i0, m0, k0⟩ := ints_of_ (show DataW.trod enc Try.prog w base spare held m 36 [c0] = _ from h0)
    obtain ⟨B, c', l', e', i1, m1, k1⟩ := ints_of_ (show DataW.trod enc Try.prog w base spare held m 36 [c1] = _ from h1)
    cases e; cases e'
    exact ⟨A, c, l, B, c', l', rfl, i0, m0, k0, i1, m1, k1⟩
end
theorem automata_lifted (os : Os) (started : os.Started) (H : Type) (enc : TypeId × Value → H) :
    ReturnsInHanded {} Try.checked os 7 .any (Rows.checkerAutomataSpec.pre6 enc Try.prog Try.f7 Rows.checkerAutomataRow.domain false) (Rows.checkerAutomataSpec.post enc Try.prog Try.f7 false true false false) := by
  refine returnsInHanded_of_change (C := Try.checked) own_ started (by kernel_rfl) Try.func7
    (ChangeSpec.witness6 (enc := enc) (C := Try.checked) false ⟨#[], #[.agg #[.slice none 0 0, .int .i64 0, .slice none 0 0, .slice none 0 0], .slice none 0 0, .agg #[.slice none 0 0, .slice none 0 0]], []⟩ 8 (by kernel_rfl) (by kernel_rfl) (by kernel_rfl) (by kernel_rfl)) ?_
  intro W base args ds gs before hval0 hW hcnd _
  have hval : ∀ (j : Nat) t v, Try.f7.params[j]? = some t → args[j]? = some v → Value.okWide Try.prog W .any base t v := hval0
  have hW' := hW
  obtain ⟨p, q, hA0, hV, rfl, hfz, hnd⟩ := hW
  have hA : DataW.TrodAll enc Try.prog W 0 (fun _ => true) true Try.f7.params.toList args.toList ds p := hA0
  rw [Try.params7] at hA hval
  obtain ⟨v0, vs0, d0, ds0, p0, q0, hargs, rfl, rfl, h0, r0⟩ := trodAll_cons hA
  obtain ⟨v1, vs1, d1, ds1, p1, q1, rfl, rfl, rfl, h1, r1⟩ := trodAll_cons r0
  obtain ⟨v2, vs2, d2, ds2, p2, q2, rfl, rfl, rfl, h2, r2⟩ := trodAll_cons r1
  obtain ⟨rfl, rfl, rfl⟩ := trodAll_nil r2
  obtain rfl : args = #[v0, v1, v2] := by cases args; simp_all
  obtain ⟨rfl, rfl⟩ := trodVars_none hV
  have lt0 : ∀ x ∈ p0, x.block < W.heap.size := by obtain ⟨m, hm⟩ := h0; exact DataW.trod_lt m _ _ _ hm
  have lt1 : ∀ x ∈ p1, x.block < W.heap.size := by obtain ⟨m, hm⟩ := h1; exact DataW.trod_lt m _ _ _ hm
  have lt2 : ∀ x ∈ p2, x.block < W.heap.size := by obtain ⟨m, hm⟩ := h2; exact DataW.trod_lt m _ _ _ hm
  have k0 := h0
  have k1 := h1
  have k2 := h2
  have o0 := hval 0 39 v0 rfl rfl
  have o1 := hval 1 36 v1 rfl rfl
  have o2 := hval 2 66 v2 rfl rfl
  obtain ⟨cs0, n0, rfl, t0⟩ := cells_of Try.underlying39 o0 h0
  obtain ⟨⟨al, n, mr, ed⟩, ⟨A1, c1, A2, c2, A3, c3⟩, rfl, AI⟩ := au_of t0
  obtain ⟨AD, cD, dist, rfl, iD, mD, kD⟩ := ints_in o1 h1
  obtain ⟨AW, cW, wd, AS, cS, dead, rfl, iW, mW, kW, iS, mS, kS⟩ := two_in o2 h2
  clear hA0 hval0
  refine (automata_c al mr n ed ⟨A1, _, A2, _, A3, _⟩ AD AW AS cD cW cS dist wd dead W AI.h1 AI.h2 AI.h3 iD iW iS (Nat.le_trans AI.l1 AI.m1) (Nat.le_trans AI.l2 AI.m2) (Nat.le_trans AI.l3 AI.m3) (Nat.le_trans mD kD) (Nat.le_trans mW kW) (Nat.le_trans mS kS)).mono fun e W' ⟨he, bel⟩ => ?_
  subst he
  exact ⟨_, rfl, _, _, _, [], _, [], hW', trodAll_mk1 (shut_bool Try.underlying4 _), (trodAll_cons_mk (Below.trod laidOut_ (by kernel_rfl) (of_decide_eq_true (by kernel_rfl)) k0 bel lt0) (trodAll_cons_mk (Below.trod laidOut_ (by kernel_rfl) (of_decide_eq_true (by kernel_rfl)) k1 bel lt1) (trodAll_cons_mk (Below.trod laidOut_ (by kernel_rfl) (of_decide_eq_true (by kernel_rfl)) k2 bel lt2) trodAll_mk0))), rfl, bel.frame _, fun h => by cases h⟩

theorem automata_over : Rows.checkerAutomataRow.holds Try.pinned (OpenSpec.ofChange Rows.checkerAutomataSpec) :=
  OpenClaim.holds_of_wide 7 Try.f7 rfl rfl rfl rfl rfl rfl rfl ⟨rfl, rfl, rfl, rfl, rfl⟩ rfl rfl rfl rfl rfl (by kernel_rfl) Try.func7 (by kernel_rfl)
    (of_decide_eq_true (by kernel_rfl)) (by unfold Func.isWrapper; first | (rw [if_pos (by decide +kernel)]; kernel_rfl) | (rw [if_neg (by decide +kernel)]; exact ⟨rfl, rfl⟩))
    (fun os started H enc _ => automata_lifted os started H enc)

theorem automata_proved : Rows.CheckerAutomataSaid := automata_over
end Go.Proofs.Ytkbmenpggiojeaa
