/-
  The laid variables of the rows: what they give the walks, and a start that meets them.
-/
import Derived.Test.YtkifgffhoenaoaaDoorRows
import Derived.Test.YtkifgffhoenaoaaDoorTie
import Derived.Test.YtkifgffhoenaoaaDoorCards
import Derived.Test.YtkifgffhoenaoaaDoorBase18
import Derived.WalkKit
import Derived.ProofKit
import Derived.OpenShut
import Derived.ChangeOld
import Derived.Handy
import Derived.Lay
import Derived.SevenTiedAt
namespace Go.Proofs.YtkifgffhoenaoaaDoor
open Go.ChangeShapes Go.WideShapes Go.ChangeAt Go.RowKit
set_option linter.unusedSimpArgs false
set_option linter.unusedVariables false
set_option maxRecDepth 100000

theorem own_ : ownKnob Tryd.prog.godebug = none := by kernel_rfl
theorem laidOut_ : laidOutB Tryd.prog = true := by kernel_rfl
theorem nmTab_laid : ((Rows.languageManyRow.laid[2]?).map (·.1)) = some nmTab := by kernel_rfl
theorem nmTab_type : (Tryd.prog.globals[0]?).map (·.type) = some 153 := by kernel_rfl
theorem tab_of_laid {W : World} (h : laidMetH Tryd.prog Rows.languageManyRow.laid W) : TabW W := by
  rw [MakeChecks.laidMetH_plain _ _ _ (by kernel_rfl)] at h
  obtain ⟨ps, ⟨g0, t0, cs0, f0, p0, q0, hg0, ht0, hv0, hd0, ⟨g1, t1, cs1, f1, p1, q1, hg1, ht1, hv1, hd1, ⟨g2, t2, cs2, f2, p2, q2, hg2, ht2, hv2, hd2, _, _⟩, _⟩, _⟩, _, _⟩ := h
  have hn := Option.some.inj nmTab_laid
  simp only [] at hn
  have hg := nmTab_named
  unfold TabW Lib.TabIs
  rw [← hn] at hg ⊢
  obtain rfl := Option.some.inj (hg.symm.trans hg2)
  obtain rfl := Option.some.inj (nmTab_type.symm.trans ht2)
  have hc := Lib.cells_of_tab (zs := Lib.pow10Tab) (k := .u64) Tryd.underlying153 Tryd.underlying132 (by kernel_rfl) (by kernel_rfl) hd2
  rw [hv2, ← hc]
theorem laid_met (os : Os) (args : Array Value) : laidMetH Tryd.prog Rows.languageManyRow.laid ((World.laidAll Tryd.prog os Rows.languageManyRow.laid).forCall (fun _ _ => 0) ⟨#[], args, []⟩).memory := by
  rw [MakeChecks.laidMetH_plain _ _ _ (by kernel_rfl)]
  exact laidMet_laidAll _ (by kernel_rfl) (by kernel_rfl)
end Go.Proofs.YtkifgffhoenaoaaDoor

