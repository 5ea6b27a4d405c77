/-
  CheckerLassos: for every input the law returns true, and each argument reads afterwards as it read before. No condition on the inputs.
-/
import Derived.Test.YtkbmenpggiojeaaNb
import Derived.Test.YtkbmenpggiojeaaMq
namespace Go.Proofs.Ytkbmenpggiojeaa
open Go.ChangeShapes Go.WideShapes Go.ChangeAt Go.RowKit
open Go.Joins (open_agg4 slice_form)
set_option linter.unusedSimpArgs false
set_option linter.unusedVariables false
set_option maxRecDepth 100000

theorem own : ownKnob Try.prog.godebug = none := by kernel_rfl
theorem laidOut : laidOutB Try.prog = true := by kernel_rfl
section
variable {H : Type} {enc : TypeId × Value → H} {w : World} {base : Nat} {spare : Nat → Bool} {held : Bool}

theorem gr_of {fuel : Nat} {cs : List Value} {x : DataW H × List MemPlace} (h : DataW.trod enc Try.prog w base spare held fuel 26 cs = some x) : ∃ g : Gr, g.Ok ∧ cs = g.cells := by
  obtain ⟨xs, n, _, _, hl, hlen, hf⟩ := DataW.trod_struct Try.underlying26 h
  have hC : Try.prog.cellsOf 26 = 27 := by kernel_rfl
  have c1 : Try.prog.cellsOf 5 = 1 := by kernel_rfl
  have c25 : Try.prog.cellsOf 24 = 25 := by kernel_rfl
  rw [hC] at hl
  have e3 : xs.length = 3 := hlen
  have h0 : DataW.trod enc Try.prog w base spare held n 5 ((cs.drop 0).take (Try.prog.cellsOf 5)) = some xs[0] := by
    have := hf 0 _ rfl; rw [List.getElem?_eq_getElem (by omega)] at this; exact this
  rw [c1] at h0
  have h1 : DataW.trod enc Try.prog w base spare held n 5 ((cs.drop 1).take (Try.prog.cellsOf 5)) = some xs[1] := by
    have := hf 1 _ rfl; rw [List.getElem?_eq_getElem (by omega)] at this; exact this
  rw [c1] at h1
  have h2 : DataW.trod enc Try.prog w base spare held n 24 ((cs.drop 2).take (Try.prog.cellsOf 24)) = some xs[2] := by
    have := hf 2 _ rfl; rw [List.getElem?_eq_getElem (by omega)] at this; exact this
  rw [c25] at h2
  obtain ⟨s, hs, _, ws⟩ := DataW.trod_int Try.underlying5 h0
  obtain ⟨m, hm, _, wm⟩ := DataW.trod_int Try.underlying5 h1
  obtain ⟨r0, r1, r2, r3, r4, o0, o1, o2, o3, o4, hr⟩ := b25_of Try.underlying24 Try.underlying23 Try.underlying5 (by kernel_rfl) (by kernel_rfl) (by kernel_rfl) h2
  refine ⟨⟨s, m, r0, r1, r2, r3, r4⟩, ⟨u8_bounds ws, u8_bounds wm, o0, o1, o2, o3, o4⟩, ?_⟩
  have a0 : cs.drop 0 = (cs.drop 0).take 1 ++ cs.drop 1 := by have := List.take_append_drop 1 (cs.drop 0); rw [List.drop_drop] at this; exact this.symm
  have a1 : cs.drop 1 = (cs.drop 1).take 1 ++ cs.drop 2 := by have := List.take_append_drop 1 (cs.drop 1); rw [List.drop_drop] at this; exact this.symm
  have a2 : (cs.drop 2).take 25 = cs.drop 2 := List.take_of_length_le (by simp [hl])
  rw [hr] at a2
  rw [← a2, hm] at a1
  rw [a1, hs] at a0
  rw [← List.drop_zero (l := cs), a0]
  rfl
theorem plant_of {v : Value} {d : DataW H} {p : List MemPlace} {r : Reach} {b0 : Nat} (hv : Value.okWide Try.prog w r b0 29 v) (h : DataW.Trod enc Try.prog w base spare held 29 v d p) :
    ∃ (s : Int) (g : Gr) (f : B5), v = .agg (plCells s g f).toArray ∧ (0 ≤ s ∧ s < 256) ∧ g.Ok ∧ f.Ok := by
  obtain ⟨⟨cs⟩, rfl, hsz⟩ := okWide_struct Try.underlying29 hv
  obtain ⟨fuel, hf0⟩ := h
  have hf0' : DataW.trod enc Try.prog w base spare held fuel 29 cs = some (d, p) := by simpa [Value.cells] using hf0
  obtain ⟨xs, n, _, _, hl, hlen, hf⟩ := DataW.trod_struct Try.underlying29 hf0'
  have hC : Try.prog.cellsOf 29 = 33 := by kernel_rfl
  have c1 : Try.prog.cellsOf 22 = 1 := by kernel_rfl
  have c27 : Try.prog.cellsOf 26 = 27 := by kernel_rfl
  have c5 : Try.prog.cellsOf 27 = 5 := by kernel_rfl
  rw [hC] at hl
  have e3 : xs.length = 3 := hlen
  have h0 : DataW.trod enc Try.prog w base spare held n 22 ((cs.drop 0).take (Try.prog.cellsOf 22)) = some xs[0] := by
    have := hf 0 _ rfl; rw [List.getElem?_eq_getElem (by omega)] at this; exact this
  rw [c1] at h0
  have h1 : DataW.trod enc Try.prog w base spare held n 26 ((cs.drop 1).take (Try.prog.cellsOf 26)) = some xs[1] := by
    have := hf 1 _ rfl; rw [List.getElem?_eq_getElem (by omega)] at this; exact this
  rw [c27] at h1
  have h2 : DataW.trod enc Try.prog w base spare held n 27 ((cs.drop 28).take (Try.prog.cellsOf 27)) = some xs[2] := by
    have := hf 2 _ rfl; rw [List.getElem?_eq_getElem (by omega)] at this; exact this
  rw [c5] at h2
  obtain ⟨s, hs, _, ws⟩ := DataW.trod_int Try.underlying22 h0
  obtain ⟨g, og, hg⟩ := gr_of h1
  obtain ⟨f, of, hff⟩ := b5_of Try.underlying27 Try.underlying5 (by kernel_rfl) (by kernel_rfl) h2
  refine ⟨s, g, f, ?_, u8_bounds ws, og, of⟩
  have a0 : cs.drop 0 = (cs.drop 0).take 1 ++ cs.drop 1 := by have := List.take_append_drop 1 (cs.drop 0); rw [List.drop_drop] at this; exact this.symm
  have a1 : cs.drop 1 = (cs.drop 1).take 27 ++ cs.drop 28 := by have := List.take_append_drop 27 (cs.drop 1); rw [List.drop_drop] at this; exact this.symm
  have a2 : (cs.drop 28).take 5 = cs.drop 28 := List.take_of_length_le (by simp [hl])
  rw [hff] at a2
  rw [← a2, hg] at a1
  rw [a1, hs] at a0
  have : cs = plCells s g f := by
    rw [← List.drop_zero (l := cs), a0]
    rfl
  rw [this]
theorem lasso_of {v : Value} {d : DataW H} {p : List MemPlace} {r : Reach} {b0 : Nat} (hv : Value.okWide Try.prog w r b0 49 v) (h : DataW.Trod enc Try.prog w base spare held 49 v d p) :
    ∃ (l : Ls) (q : LsP), v = l.val q ∧ IntsAt w q.A1 l.fa ∧ IntsAt w q.A2 l.fc ∧ IntsAt w q.A3 l.no ∧ IntsAt w q.A4 l.nc ∧ l.fa.length ≤ maxLen ∧ l.fc.length ≤ maxLen ∧ l.no.length ≤ maxLen ∧ l.nc.length ≤ maxLen := by
  obtain ⟨c0, c1, c2, c3, y0, y1, y2, y3, n, rfl, _, _, h0, h1, h2, h3⟩ := open_agg4 Try.underlying49 (by kernel_rfl) (by kernel_rfl) hv h
  obtain ⟨A1, d1, l1, e1, i1, m1⟩ := ints_of Try.underlying36 Try.underlying3 (by kernel_rfl) h0
  obtain ⟨A2, d2, l2, e2, i2, m2⟩ := ints_of Try.underlying36 Try.underlying3 (by kernel_rfl) h1
  obtain ⟨A3, d3, l3, e3, i3, m3⟩ := ints_of Try.underlying36 Try.underlying3 (by kernel_rfl) h2
  obtain ⟨A4, d4, l4, e4, i4, m4⟩ := ints_of Try.underlying36 Try.underlying3 (by kernel_rfl) h3
  cases e1; cases e2; cases e3; cases e4
  exact ⟨⟨l1, l2, l3, l4⟩, ⟨A1, d1, A2, d2, A3, d3, A4, d4⟩, rfl, i1, i2, i3, i4, m1, m2, m3, m4⟩
end

theorem lassos_lifted (os : Os) (started : os.Started) (H : Type) (enc : TypeId × Value → H) :
    ReturnsInHanded {} Try.checked os 5 .any (Rows.checkerLassosSpec.pre6 enc Try.prog Try.f5 Rows.checkerLassosRow.domain false) (Rows.checkerLassosSpec.post enc Try.prog Try.f5 false true false false) := by
  refine returnsInHanded_of_change (C := Try.checked) own started (by kernel_rfl) Try.func5
    (ChangeSpec.witness6 (enc := enc) (C := Try.checked) false ⟨#[], #[.agg #[.int .u8 0, .int .u8 0, .int .u8 0, .int .u8 0, .int .u8 0, .int .u8 0, .int .u8 0, .int .u8 0, .int .u8 0, .int .u8 0, .int .u8 0, .int .u8 0, .int .u8 0, .int .u8 0, .int .u8 0, .int .u8 0, .int .u8 0, .int .u8 0, .int .u8 0, .int .u8 0, .int .u8 0, .int .u8 0, .int .u8 0, .int .u8 0, .int .u8 0, .int .u8 0, .int .u8 0, .int .u8 0, .int .u8 0, .int .u8 0, .int .u8 0, .int .u8 0, .int .u8 0], .agg #[.slice none 0 0, .slice none 0 0, .slice none 0 0, .slice none 0 0], .int .i64 0], []⟩ 8 (by kernel_rfl) (by kernel_rfl) (by kernel_rfl) (by kernel_rfl)) ?_
  intro W base args ds gs before hval0 hW hcnd _
  have hval : ∀ (j : Nat) t v, Try.f5.params[j]? = some t → args[j]? = some v → Value.okWide Try.prog W .any base t v := hval0
  have hW' := hW
  obtain ⟨p, q, hA0, hV, rfl, hfz, hnd⟩ := hW
  have hA : DataW.TrodAll enc Try.prog W 0 (fun _ => true) true Try.f5.params.toList args.toList ds p := hA0
  rw [Try.params5] at hA hval
  obtain ⟨v0, vs0, d0, ds0, p0, q0, hargs, rfl, rfl, h0, r0⟩ := trodAll_cons hA
  obtain ⟨v1, vs1, d1, ds1, p1, q1, rfl, rfl, rfl, h1, r1⟩ := trodAll_cons r0
  obtain ⟨v2, vs2, d2, ds2, p2, q2, rfl, rfl, rfl, h2, r2⟩ := trodAll_cons r1
  obtain ⟨rfl, rfl, rfl⟩ := trodAll_nil r2
  obtain rfl : args = #[v0, v1, v2] := by cases args; simp_all
  obtain ⟨rfl, rfl⟩ := trodVars_none hV
  have lt0 : ∀ x ∈ p0, x.block < W.heap.size := by obtain ⟨m, hm⟩ := h0; exact DataW.trod_lt m _ _ _ hm
  have lt1 : ∀ x ∈ p1, x.block < W.heap.size := by obtain ⟨m, hm⟩ := h1; exact DataW.trod_lt m _ _ _ hm
  have lt2 : ∀ x ∈ p2, x.block < W.heap.size := by obtain ⟨m, hm⟩ := h2; exact DataW.trod_lt m _ _ _ hm
  obtain ⟨s, g, f, rfl, hs, hg, hf⟩ := plant_of (hval 0 29 v0 rfl rfl) h0
  obtain ⟨l, lq, rfl, i1, i2, i3, i4, m1, m2, m3, m4⟩ := lasso_of (hval 1 49 v1 rfl rfl) h1
  have k2 := h2
  obtain ⟨cl, rfl, _, _, w1⟩ := open_int Try.underlying3 (hval 2 3 v2 rfl rfl) h2
  clear hA0 hval0
  refine (lassos_c s g f l lq cl W hs hg hf i1 i2 i3 i4 m1 m2 m3 m4).mono fun e W' ⟨he, bel⟩ => ?_
  subst he
  exact ⟨_, rfl, _, _, _, [], _, [], hW', trodAll_mk1 (shut_bool Try.underlying4 _), (trodAll_cons_mk (Below.trod laidOut (by kernel_rfl) (of_decide_eq_true (by kernel_rfl)) h0 bel lt0) (trodAll_cons_mk (Below.trod laidOut (by kernel_rfl) (of_decide_eq_true (by kernel_rfl)) h1 bel lt1) (trodAll_cons_mk (Below.trod laidOut (by kernel_rfl) (of_decide_eq_true (by kernel_rfl)) k2 bel lt2) trodAll_mk0))), rfl, bel.frame _, fun h => by cases h⟩

theorem lassos_over : Rows.checkerLassosRow.holds Try.pinned (OpenSpec.ofChange Rows.checkerLassosSpec) :=
  OpenClaim.holds_of_wide 5 Try.f5 rfl rfl rfl rfl rfl rfl rfl ⟨rfl, rfl, rfl, rfl, rfl⟩ rfl rfl rfl rfl rfl (by kernel_rfl) Try.func5 (by kernel_rfl)
    (of_decide_eq_true (by kernel_rfl)) (by unfold Func.isWrapper; first | (rw [if_pos (by decide +kernel)]; kernel_rfl) | (rw [if_neg (by decide +kernel)]; exact ⟨rfl, rfl⟩))
    (fun os started H enc _ => lassos_lifted os started H enc)

theorem lassos_proved : Rows.CheckerLassosSaid := lassos_over
end Go.Proofs.Ytkbmenpggiojeaa
