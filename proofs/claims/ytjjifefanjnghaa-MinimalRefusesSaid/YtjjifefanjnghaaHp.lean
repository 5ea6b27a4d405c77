/-
  MinimalRefuses: for every input the law returns true, and each argument reads afterwards as it read before. No condition on the inputs.
-/
import Derived.Test.YtjjifefanjnghaaHpx01
set_option linter.unusedSimpArgs false
set_option linter.unusedVariables false
namespace Go.Proofs.Ytjjifefanjnghaa
open Go.RowKit
set_option maxRecDepth 100000
open Go.ChangeShapes Go.WideShapes Go.ChangeAt Go.RowKit
theorem refuses_lifted (os : Os) (started : os.Started) (H : Type) (enc : TypeId × Value → H) :
 ReturnsInHanded {} Try.checked os 3 .any (Rows.minimalRefusesSpec.pre6 enc Try.prog Try.f3 Rows.minimalRefusesRow.domain false) (Rows.minimalRefusesSpec.post enc Try.prog Try.f3 false true false false) := by
 refine returnsInHanded_of_change (C := Try.checked) own_ started (by kernel_rfl) Try.func3
  (ChangeSpec.witness6 (enc := enc) (C := Try.checked) false ⟨#[],#[.agg #[.slice none 0 0,.int .i64 0,.slice none 0 0,.slice none 0 0],.agg #[.slice none 0 0,.int .i64 0,.slice none 0 0,.slice none 0 0],.agg #[.int .i64 0,.int .i64 0]],[]⟩ 8 (by kernel_rfl) (by kernel_rfl) (by kernel_rfl) (by kernel_rfl)) ?_
 intro W base args ds gs before hval0 hW hcnd _
 have hval : ∀ (j : Nat) t v,Try.f3.params[j]? = some t → args[j]? = some v → Value.okWide Try.prog W .any base t v := hval0
 have hW' := hW
 obtain ⟨p,q,hA0,hV,rfl,hfz,hnd⟩ := hW
 have hA : DataW.TrodAll enc Try.prog W 0 (fun _ => true) true Try.f3.params.toList args.toList ds p := hA0
 rw [Try.params3] at hA hval
 obtain ⟨v0,vs0,d0,ds0,p0,q0,hargs,rfl,rfl,h0,r0⟩ := trodAll_cons hA
 obtain ⟨v1,vs1,d1,ds1,p1,q1,rfl,rfl,rfl,h1,r1⟩ := trodAll_cons r0
 obtain ⟨v2,vs2,d2,ds2,p2,q2,rfl,rfl,rfl,h2,r2⟩ := trodAll_cons r1
 obtain ⟨rfl,rfl,rfl⟩ := trodAll_nil r2
 obtain rfl : args = #[v0,v1,v2] := by cases args; simp_all
 obtain ⟨rfl,rfl⟩ := trodVars_none hV
 have lt0 : ∀ x ∈ p0,x.block < W.heap.size := by obtain ⟨m,hm⟩ := h0; exact DataW.trod_lt m _ _ _ hm
 have lt1 : ∀ x ∈ p1,x.block < W.heap.size := by obtain ⟨m,hm⟩ := h1; exact DataW.trod_lt m _ _ _ hm
 have lt2 : ∀ x ∈ p2,x.block < W.heap.size := by obtain ⟨m,hm⟩ := h2; exact DataW.trod_lt m _ _ _ hm
 have k0 := h0
 have k1 := h1
 have k2 := h2
 have o0 := hval 0 25 v0 rfl rfl
 have o1 := hval 1 25 v1 rfl rfl
 have o2 := hval 2 26 v2 rfl rfl
 obtain ⟨cs0,n0,rfl,t0⟩ := cells_of Try.underlying25 o0 h0
 obtain ⟨⟨al,n,mr,ed⟩,⟨A1,c1,A2,c2,A3,c3⟩,rfl,AI⟩ := au_of t0
 obtain ⟨cs1,n1,rfl,t1⟩ := cells_of Try.underlying25 o1 h1
 obtain ⟨⟨bl,m,nr,fd⟩,⟨B1,d1,B2,d2,B3,d3⟩,rfl,BI⟩ := au_of t1
 obtain ⟨s1,s2,rfl⟩ := pair_in o2 h2
 clear hA0 hval0
 refine (refuses8_c ⟨al,n,mr,ed⟩ ⟨bl,m,nr,fd⟩ ⟨A1,c1,A2,c2,A3,c3⟩ ⟨B1,d1,B2,d2,B3,d3⟩ s1 s2 W ⟨AI.l1,AI.l2,AI.l3⟩ ⟨BI.l1,BI.l2,BI.l3⟩ (fun f => ⟨AI.h1,AI.h2,AI.h3,Nat.le_trans f.1 (by decide),Nat.le_trans f.2.1 (by decide),Nat.le_trans f.2.2.1 (by decide)⟩) (fun f => ⟨BI.h1,BI.h2,BI.h3,Nat.le_trans f.1 (by decide),Nat.le_trans f.2.1 (by decide),Nat.le_trans f.2.2.1 (by decide)⟩)).mono fun e W' ⟨he,bel⟩ => ?_
 subst he
 exact ⟨_,rfl,_,_,_,[],_,[],hW',trodAll_mk1 (shut_bool Try.underlying4 _),(trodAll_cons_mk (Below.trod laidOut_ (by kernel_rfl) (of_decide_eq_true (by kernel_rfl)) k0 bel lt0) (trodAll_cons_mk (Below.trod laidOut_ (by kernel_rfl) (of_decide_eq_true (by kernel_rfl)) k1 bel lt1) (trodAll_cons_mk (Below.trod laidOut_ (by kernel_rfl) (of_decide_eq_true (by kernel_rfl)) k2 bel lt2) trodAll_mk0))),rfl,bel.frame _,fun h => by cases h⟩

theorem refuses_over : Rows.minimalRefusesRow.holds Try.pinned (OpenSpec.ofChange Rows.minimalRefusesSpec) :=
 OpenClaim.holds_of_wide 3 Try.f3 rfl rfl rfl rfl rfl rfl rfl ⟨rfl,rfl,rfl,rfl,rfl⟩ rfl rfl rfl rfl rfl (by kernel_rfl) Try.func3 (by kernel_rfl)
  (of_decide_eq_true (by kernel_rfl)) (by unfold Func.isWrapper; first | (rw [if_pos (by decide +kernel)]; kernel_rfl) | (rw [if_neg (by decide +kernel)]; exact ⟨rfl,rfl⟩))
  (fun os started H enc _ => refuses_lifted os started H enc)

theorem refuses_proved : Rows.MinimalRefusesSaid := refuses_over
end Go.Proofs.Ytjjifefanjnghaa
