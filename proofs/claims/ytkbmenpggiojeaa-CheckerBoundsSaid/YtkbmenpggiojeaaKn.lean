/-
  The keys of two and of three numbers.
-/
import Derived.Test.YtkbmenpggiojeaaKm
namespace Go.Proofs.Ytkbmenpggiojeaa
open Go.RowKit
set_option linter.unusedSimpArgs false
set_option linter.unusedVariables false

theorem int_eq (p q : Int) (n : Nat) (w : World) : (Op.equalIn (n + 1) 3 (.int .i64 p) (.int .i64 q)).run Try.prog w = .ok (p == q) w := by
  simp [Op.equalIn, run_underlying Try.underlying3]
theorem range2 : List.range' 0 2 = [0, 1] := rfl
theorem range3 : List.range' 0 3 = [0, 1, 2] := rfl
theorem key2_eq (x y : Int × Int) (w : World) : (Op.equal 143 (key2 x) (key2 y)).run Try.prog w = .ok (decide (x = y)) w := by
  obtain ⟨a, b⟩ := x
  obtain ⟨c, d⟩ := y
  simp only [Op.equal, Op.maxDepth, key2]
  rw [Op.equalIn]
  by_cases h1 : a = c <;> by_cases h2 : b = d <;> simp [run_underlying Try.underlying143, Result.andThen, go_sem, range2, Try.isAgg3, int_eq, h1, h2]
theorem key3_eq (x y : Int × Int × Int) (w : World) : (Op.equal 100 (key3 x) (key3 y)).run Try.prog w = .ok (decide (x = y)) w := by
  obtain ⟨a, b, e⟩ := x
  obtain ⟨c, d, f⟩ := y
  simp only [Op.equal, Op.maxDepth, key3]
  rw [Op.equalIn]
  by_cases h1 : a = c <;> by_cases h2 : b = d <;> by_cases h3 : e = f <;> simp [run_underlying Try.underlying100, Result.andThen, go_sem, range3, Try.isAgg3, int_eq, h1, h2, h3]
theorem key2_chk (em : Bool) (x : Int × Int) (w : World) : (Instr.checkKey em 10000 143 (key2 x)).run Try.prog w = .ok () w := by
  obtain ⟨a, b⟩ := x
  cases em <;> kernel_rfl
theorem key2_stay (x : Int × Int) (w : World) : (Instr.keyThatStays (key2 x) (key2 x)).run Try.prog w = .ok (key2 x) w := by
  obtain ⟨a, b⟩ := x
  simp [Instr.keyThatStays, key2, Instr.sameBits]
theorem key3_chk (em : Bool) (x : Int × Int × Int) (w : World) : (Instr.checkKey em 10000 100 (key3 x)).run Try.prog w = .ok () w := by
  obtain ⟨a, b, c⟩ := x
  cases em <;> kernel_rfl
theorem key3_stay (x : Int × Int × Int) (w : World) : (Instr.keyThatStays (key3 x) (key3 x)).run Try.prog w = .ok (key3 x) w := by
  obtain ⟨a, b, c⟩ := x
  simp [Instr.keyThatStays, key3, Instr.sameBits]
theorem ok2 : KeyOk Try.prog 143 (.array 2 3) key2 := ⟨Try.underlying143, key2_eq, key2_chk, key2_stay, fun _ _ => rfl, fun x y h => by
  obtain ⟨a, b⟩ := x
  obtain ⟨c, d⟩ := y
  simpa [key2] using h⟩
theorem ok3 : KeyOk Try.prog 100 (.array 3 3) key3 := ⟨Try.underlying100, key3_eq, key3_chk, key3_stay, fun _ _ => rfl, fun x y h => by
  obtain ⟨a, b, e⟩ := x
  obtain ⟨c, d, f⟩ := y
  simpa [key3] using h⟩
theorem zeroInt (w : World) : (zeroValue 3).run Try.prog w = .ok (.int .i64 0) w := by kernel_rfl
end Go.Proofs.Ytkbmenpggiojeaa
