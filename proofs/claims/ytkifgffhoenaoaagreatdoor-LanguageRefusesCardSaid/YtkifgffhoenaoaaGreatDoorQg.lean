/-
  LanguageRefuses: for every input the law returns true, and each argument reads afterwards as it read before. No condition on the inputs. The tied card.
-/
import Derived.Test.YtkifgffhoenaoaaGreatDoorQgx02
set_option linter.unusedSimpArgs false
set_option linter.unusedVariables false
namespace Go.Proofs.YtkifgffhoenaoaaGreatDoor
open Go.RowKit
set_option maxRecDepth 100000
open Go.ChangeShapes Go.WideShapes Go.ChangeAt Go.RowKit
theorem refuses_lifted (os : Os) (started : os.Started) (H : Type) (enc : TypeId × Value → H) :
 ReturnsInHanded {} Tryz.checked os 5 .any (fun w args => (Rows.languageRefusesSpec.pre enc Tryz.prog Tryz.f5 [] false w args ∧ laidMetH Tryz.prog Rows.languageRefusesRow.laid w) ∧ sizedMet enc Tryz.prog Tryz.f5 (OpenSpec.ofChange Rows.languageRefusesSpec) false w args) (Rows.languageRefusesSpec.post enc Tryz.prog Tryz.f5 false true false false) := by
 refine returnsInHanded_of_change_and (C := Tryz.checked) (X := fun w _ => laidMetH Tryz.prog Rows.languageRefusesRow.laid w) (fun _ _ _ hh h => h.of_heap hh) own_ started (by kernel_rfl) Tryz.func5
  (ChangeSpec.witness_shaped (enc := enc) (C := Tryz.checked) (os := os) (X := fun w _ => laidMetH Tryz.prog Rows.languageRefusesRow.laid w) false (World.laidAll Tryz.prog os Rows.languageRefusesRow.laid) #[.agg #[.slice none 0 0,.int .i64 0,.slice none 0 0,.slice none 0 0],.agg #[.slice none 0 0,.int .i64 0,.slice none 0 0,.slice none 0 0],.int .i64 0] 8 (World.laidAll_os _ _ _)
    (World.shaped_of_ZipB (by kernel_rfl) (by kernel_rfl)) (by kernel_rfl) (by kernel_rfl) (by kernel_rfl) (laid_met os _)) ?_
 intro W base args ds gs before hval0 hW hcnd _ hL _
 have hval : ∀ (j : Nat) t v,Tryz.f5.params[j]? = some t → args[j]? = some v → Value.okWide Tryz.prog W .any base t v := hval0
 have hW' := hW
 obtain ⟨p,q,hA0,hV,rfl,hfz,hnd⟩ := hW
 have hA : DataW.TrodAll enc Tryz.prog W 0 (fun _ => true) true Tryz.f5.params.toList args.toList ds p := hA0
 rw [Tryz.params5] at hA hval
 obtain ⟨v0,vs0,d0,ds0,p0,q0,hargs,rfl,rfl,h0,r0⟩ := trodAll_cons hA
 obtain ⟨v1,vs1,d1,ds1,p1,q1,rfl,rfl,rfl,h1,r1⟩ := trodAll_cons r0
 obtain ⟨v2,vs2,d2,ds2,p2,q2,rfl,rfl,rfl,h2,r2⟩ := trodAll_cons r1
 obtain ⟨rfl,rfl,rfl⟩ := trodAll_nil r2
 obtain rfl : args = #[v0,v1,v2] := by cases args; simp_all
 obtain ⟨rfl,rfl⟩ := trodVars_none hV
 have lt0 : ∀ x ∈ p0,x.block < W.heap.size := by obtain ⟨m,hm⟩ := h0; exact DataW.trod_lt m _ _ _ hm
 have lt1 : ∀ x ∈ p1,x.block < W.heap.size := by obtain ⟨m,hm⟩ := h1; exact DataW.trod_lt m _ _ _ hm
 have lt2 : ∀ x ∈ p2,x.block < W.heap.size := by obtain ⟨m,hm⟩ := h2; exact DataW.trod_lt m _ _ _ hm
 have k0 := h0
 have k1 := h1
 have k2 := h2
 have o0 := hval 0 31 v0 rfl rfl
 have o1 := hval 1 31 v1 rfl rfl
 have o2 := hval 2 3 v2 rfl rfl
 have HT : TabW W := tab_of_laid hL
 obtain ⟨cs0,n0,rfl,t0⟩ := cells_of Tryz.underlying31 o0 h0
 obtain ⟨⟨al,n,mr,ed⟩,⟨A1,c1,A2,c2,A3,c3⟩,rfl,I0⟩ := au_of t0
 obtain ⟨cs1,n1,rfl,t1⟩ := cells_of Tryz.underlying31 o1 h1
 obtain ⟨⟨bl,m,ms,es⟩,⟨B1,d1,B2,d2,B3,d3⟩,rfl,I1⟩ := au_of t1
 obtain ⟨kind,rfl,rfl,rfl,_⟩ := open_int Tryz.underlying3 o2 h2
 clear hA0 hval0
 refine (lawRefuses_c al mr bl ms n m ed es A1 A2 A3 B1 B2 B3 c1 c2 c3 d1 d2 d3 kind W I0.h1 I0.h2 I0.h3 I1.h1 I1.h2 I1.h3 (Nat.le_trans I0.l1 I0.m1) (Nat.le_trans I0.l2 I0.m2) (Nat.le_trans I0.l3 I0.m3) (Nat.le_trans I1.l1 I1.m1) (Nat.le_trans I1.l2 I1.m2) (Nat.le_trans I1.l3 I1.m3) HT).mono fun e W' ⟨he,bel⟩ => ?_
 subst he
 exact ⟨_,rfl,_,_,_,[],_,[],hW',trodAll_mk1 (shut_bool Tryz.underlying4 _),(trodAll_cons_mk (Below.trod laidOut_ (by kernel_rfl) (of_decide_eq_true (by kernel_rfl)) k0 bel lt0) (trodAll_cons_mk (Below.trod laidOut_ (by kernel_rfl) (of_decide_eq_true (by kernel_rfl)) k1 bel lt1) (trodAll_cons_mk (Below.trod laidOut_ (by kernel_rfl) (of_decide_eq_true (by kernel_rfl)) k2 bel lt2) trodAll_mk0))),rfl,bel.frame _,fun h => by cases h⟩

theorem refuses_over : Rows.LanguageRefusesSaid :=
 OpenClaim.holds_of_wide 5 Tryz.f5 rfl rfl rfl rfl rfl rfl rfl ⟨rfl,rfl,rfl,rfl,rfl⟩ rfl rfl rfl rfl rfl (by kernel_rfl) Tryz.func5 (by kernel_rfl)
  (of_decide_eq_true (by kernel_rfl)) (by unfold Func.isWrapper; first | (rw [if_pos (by decide +kernel)]; kernel_rfl) | (rw [if_neg (by decide +kernel)]; exact ⟨rfl,rfl⟩))
  (fun os started H enc _ => refuses_lifted os started H enc)

theorem refuses_card : Rows.LanguageRefusesCardSaid :=
 Claim7.holds_tied_plain_at .later [] [.data, .data, .data] true (true, "9d653896950fe90c22090020123736e5517437b3e449dafbac02120fe723e773") false
  refuses_over (fun _ h => by cases h) (by kernel_rfl) (fun _ h => by cases h) languageRefuses_row_tie rfl ⟨rfl,rfl⟩ (by kernel_rfl) rfl
  (fun f fn hf hfn => by
    obtain rfl : f = 5 := Option.some.inj ((show Tryz.prog.funcNamed Rows.languageRefusesRow.func = some 5 by kernel_rfl).symm.trans hf) |>.symm
    obtain rfl : fn = Tryz.f5 := (Option.some.inj (Tryz.func5.symm.trans hfn)).symm
    exact ⟨by kernel_rfl,fun j t ht => by
     rw [Tryz.params5] at ht
     have hm : t ∈ [31,31,3] := by simpa using Array.mem_of_getElem? ht
     have hall : ([31,31,3].all fun u => !Tryz.prog.wantsStandIn u) = true := by kernel_rfl
     exact (show Tryz.prog.wantsStandIn t = false by simpa using List.all_eq_true.1 hall t hm)⟩)
  (by kernel_rfl)
end Go.Proofs.YtkifgffhoenaoaaGreatDoor
