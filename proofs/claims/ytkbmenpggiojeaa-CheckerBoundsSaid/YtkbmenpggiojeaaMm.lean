/-
  Sets of events; events with flags.
-/
import Derived.Test.YtkbmenpggiojeaaMi
import Derived.Test.YtkbmenpggiojeaaMf
import Derived.BigRegion
import Derived.Deep.DeepCutAuto
import Derived.Laws.IdiomStrings
import Derived.RegionTactic
namespace Go.Proofs.Ytkbmenpggiojeaa
open Go.RowKit
set_option linter.unusedSimpArgs false
set_option linter.unusedVariables false

/-- A list that increases, with numbers below 5. -/
structure Lt5 (l : List Int) (k : Nat) : Prop where
  inc : incr l
  rg : ∀ x, x ∈ l → 0 ≤ x ∧ x < (k : Int)
  len : l.length ≤ k
def GivesSet (w : World) (e : Ending) (w' : World) : Prop := ∃ l v, e = .returned v ∧ Lt5 l 5 ∧ Hid (OwnI w.heap.size l v w') ∧ Below w.heap.size w w'
theorem Lt5.skip {l : List Int} {k : Nat} (h : Lt5 l k) : Lt5 l (k + 1) := ⟨h.inc, fun x hx => by have := h.rg x hx; omega, by have := h.len; omega⟩
theorem Lt5.more {l : List Int} {k : Nat} (h : Lt5 l k) : Lt5 (l ++ [(k : Int)]) (k + 1) :=
  ⟨incr_snoc h.inc fun y hy => (h.rg y hy).2, fun x hx => by
    simp only [List.mem_append, List.mem_singleton] at hx
    rcases hx with hx | rfl
    · have := h.rg x hx; omega
    · omega, by have := h.len; simp; omega⟩

set_option maxRecDepth 100000 in
set_option maxHeartbeats 1000000 in
theorem setEvents_c (s : Int) (w : World) (h0 : 0 ≤ s) (h1 : s < 256) :
    Calls Try.prog 35 #[.int .u8 s] w (GivesSet w) := by
  go_enter Try.func35, Try.ntmps35
  go_wp2_with fail
  go_loopw [3, 4] (fun v i wr => ∃ (k : Nat) (l : List Int), k ≤ 5 ∧ i = .int .i64 k ∧ Hid (Lt5 l k) ∧ Hid (OwnI w.heap.size l v wr) ∧ Hid (Fro w.heap.size w wr)) (fun _ i _ => 5 - (intOf i).toNat)
  case atStart => exact ⟨0, [], by omega, rfl, ⟨fun i j x y _ hx => by simp at hx, by simp, by simp⟩, Own.nil _, Fro.here w⟩
  case round =>
    obtain ⟨k, l, hk, rfl, HL, HV, BW⟩ := hrel
    by_cases hlt : k < 5
    · have hll := HL.out.len
      go_wp2_with (at_builtin; refine wpList_push rfl _ _ 36 rfl (HV.out.alloc _) Try.underlying36 _ 8 intInfo rfl (by decide) rfl (k : Int) wr.heap.size rfl rfl (one_cell _ _ _ _ rfl) (encI_one _) (by omega) (by decide) (BW.out.alloc _).z ?_)
      · intro A' c' w1 ho hg _
        have HN := Lib.hid ho
        have HG := Lib.hid ((BW.out.alloc _).push (HV.out.alloc _) hg)
        clear ho hg
        go_wp2
        go_roundw
        case rel => exact ⟨k + 1, l ++ [(k : Int)], by omega, by go_num, HL.out.more, HN.out, HG.out⟩
        case measure => simp [intOf]; omega
      · exact ⟨⟨k + 1, l, by omega, by go_num, HL.out.skip, HV.out, BW.out⟩, by simp [intOf]; omega⟩
    · obtain rfl : k = 5 := by omega
      go_wp2
      go_ret
      exact ⟨l, _, rfl, HL.out, HV.out, BW.out.b⟩
def u8 (x : Int) : Value := .int .u8 x
/-- Five bytes. -/
structure B5 where
  x0 : Int
  x1 : Int
  x2 : Int
  x3 : Int
  x4 : Int
abbrev B5.cells (f : B5) : List Value := [.int .u8 f.x0, .int .u8 f.x1, .int .u8 f.x2, .int .u8 f.x3, .int .u8 f.x4]
structure B5.Ok (f : B5) : Prop where
  h : ∀ x, x ∈ [f.x0, f.x1, f.x2, f.x3, f.x4] → 0 ≤ x ∧ x < 256
theorem B5.get {f : B5} (h : f.Ok) {k : Nat} (hk : k < 5) : ∃ x, f.cells[k]? = some (.int .u8 x) ∧ 0 ≤ x ∧ x < 256 := by
  have h0 := h.h f.x0 (by simp)
  have h1 := h.h f.x1 (by simp)
  have h2 := h.h f.x2 (by simp)
  have h3 := h.h f.x3 (by simp)
  have h4 := h.h f.x4 (by simp)
  match k, hk with
  | 0, _ => exact ⟨_, rfl, h0⟩
  | 1, _ => exact ⟨_, rfl, h1⟩
  | 2, _ => exact ⟨_, rfl, h2⟩
  | 3, _ => exact ⟨_, rfl, h3⟩
  | 4, _ => exact ⟨_, rfl, h4⟩
theorem Own.far {α : Type} {enc : α → List Value} {k T B : Nat} {l : List α} {v : Value} {w : World} (h : Own enc k T B l v w) {b i : Nat} (hb : v.ownBlock ≠ some b) (u : Value) : Own enc k T B l v (w.setCell ⟨b, i, none⟩ u) := by
  refine ⟨h.1, ?_⟩
  rcases h.2 with h | ⟨g, cap, cur, rfl, r2, r3, r4⟩
  · exact .inl h
  · exact .inr ⟨g, cap, cur, rfl, r2, (Below.heap_setCell w ⟨b, i, none⟩ u g (fun e => hb (by simp [Value.ownBlock, e]))).trans r3, r4⟩
/-- A fault is not observable. -/
def FltOk (l : List Ev) : Prop := ∀ x, x ∈ l → x.obs = true → x.fault = 0
theorem FltOk.push {l : List Ev} (h : FltOk l) {x : Ev} (hx : x.obs = true → x.fault = 0) : FltOk (l ++ [x]) := fun y hy => by
  rcases List.mem_append.1 hy with hy | hy
  · exact h y hy
  · simp at hy; subst hy; exact hx
def GivesEvs (w : World) (e : Ending) (w' : World) : Prop := ∃ (l : List Ev) (A : Option Addr) (c : Nat), e = .returned (.slice A 5 c) ∧ (l.length = 5 ∧ FltOk l) ∧ Hid (Own Ev.cells 5 116 w.heap.size l (.slice A l.length c) w') ∧ Below w.heap.size w w'

theorem evInfo : (Try.prog.info? 116).map (fun i => (i.zero, i.size, i.bytes)) = some (some (.agg #[.string .empty, .bool false, .bool false, .bool false, .int .i64 0]), 5, 32) := by kernel_rfl
theorem evOne (x : Ev) : ∀ u ∈ Ev.cells x, u.oneCell' = true := fun u hu => by simp [Ev.cells] at hu; rcases hu with rfl | rfl | rfl | rfl | rfl <;> rfl
set_option maxRecDepth 100000 in
set_option maxHeartbeats 2000000 in
theorem flagEvents_c (f : B5) (hf : f.Ok) (w : World) :
    Calls Try.prog 33 #[.agg f.cells.toArray] w (GivesEvs w) := by
  have C0 : Hid (HasAt w.heap.size f.cells (w.alloc (.cells f.cells.toArray 27))) := HasAt.new w _ _ rfl
  have W0 : Hid (Fro (w.heap.size + 1) (w.alloc (.cells f.cells.toArray 27)) (w.alloc (.cells f.cells.toArray 27))) := Fro.refl (by simp)
  have B0 : Hid (Below w.heap.size w (w.alloc (.cells f.cells.toArray 27))) := Below.new _ _
  have HF := Lib.hid hf
  clear hf
  dsimp only [B5.cells] at *
  go_enter Try.func33, Try.ntmps33
  go_wp2_with fail
  generalize hW : w.alloc (.cells #[.int .u8 f.x0, .int .u8 f.x1, .int .u8 f.x2, .int .u8 f.x3, .int .u8 f.x4] 27) = W at *
  clear hW
  go_loopw [3, 4] (fun v i wr => ∃ (k : Nat) (l : List Ev), k ≤ 5 ∧ i = .int .i64 k ∧ l.length = k ∧ Hid (Own Ev.cells 5 116 (w.heap.size + 1) l v wr) ∧ Hid (Fro (w.heap.size + 1) W wr) ∧ Hid (FltOk l)) (fun _ i _ => 5 - (intOf i).toNat)
  case atStart => exact ⟨0, [], by omega, rfl, rfl, Own.nil _, W0.out, fun x hx => by simp at hx⟩
  case round =>
    obtain ⟨k, l, hk, rfl, hlk, HV, BW, FO⟩ := hrel
    have HLK := Lib.hid hlk
    clear hlk
    by_cases hlt : k < 5
    · have hll : l.length ≤ 5 := by have := HLK.out; omega
      obtain ⟨x, hx, hx0, hx1⟩ := B5.get HF.out hlt
      have hc := (C0.out.fro BW.out (Nat.lt_succ_self _)).c k _ hx
      have hz := (C0.out.fro BW.out (Nat.lt_succ_self _)).z
      have HX := Lib.hid hx
      clear hx
      obtain ⟨nm, hcv⟩ : ∃ nm, (convert 139 9 (.slice (some ⟨wr.heap.size, 0, none⟩) 1 1)).run Try.prog (wr.alloc (.cells #[.int .u8 (97 + (k : Int))] 5)) = .ok (.string nm) (wr.alloc (.cells #[.int .u8 (97 + (k : Int))] 5)) :=
        ⟨_, run_convert_bytes_back _ 139 9 5 ⟨wr.heap.size, 0, none⟩ 1 [UInt8.ofNat (97 + k)] Try.underlying139 Try.underlying5 Try.underlying9 (fun j hj => by
          simp at hj; subst hj
          have e1 : (UInt8.ofNat (97 + k)).toNat = 97 + k := by simp; omega
          have e2 : (97 + (k : Int)) % 256 = 97 + k := by omega
          simp [Addr.add, e1, e2])⟩
      have W5 : Hid (Fro (w.heap.size + 1) W ((wr.alloc (.cells #[.int .u8 (97 + (k : Int))] 5)).alloc (.cells #[.string nm, .bool false, .bool false, .bool false, .int .i64 0] 116))) := (BW.out.alloc _).alloc _
      have V5 : Hid (Own Ev.cells 5 116 (w.heap.size + 1) l u3 ((wr.alloc (.cells #[.int .u8 (97 + (k : Int))] 5)).alloc (.cells #[.string nm, .bool false, .bool false, .bool false, .int .i64 0] 116))) := (HV.out.alloc _).alloc _
      have K5 : Hid (BlkAt ((wr.alloc (.cells #[.int .u8 (97 + (k : Int))] 5)).alloc (.cells #[.string nm, .bool false, .bool false, .bool false, .int .i64 0] 116)) (wr.heap.size + 1) 116 [.string nm, .bool false, .bool false, .bool false, .int .i64 0]) := by
        have := BlkAt.new (wr.alloc (.cells #[.int .u8 (97 + (k : Int))] 5)) 116 [.string nm, .bool false, .bool false, .bool false, .int .i64 0]
        simpa [Hid] using this
      by_cases hx48 : 48 ≤ x ∧ x < 52
      · obtain ⟨hx2, hx3⟩ := hx48
        go_wp2_with (at_builtin; refine wpList_push rfl _ _ 35 rfl (((HV.out.alloc _).alloc _).alloc _) Try.underlying35 _ 32 evInfo rfl (by decide) rfl (⟨nm, false, false, false, x - 47⟩ : Ev) (wr.heap.size + 1 + 1) rfl rfl (one_cell _ _ _ _ (by simp)) (evOne _) (by omega) (by decide) (((BW.out.alloc _).alloc _).alloc _).z ?_)
        intro A' c' w1 ho hg _
        have HN := Lib.hid ho
        have HG := Lib.hid ((((BW.out.alloc _).alloc _).alloc _).push (((HV.out.alloc _).alloc _).alloc _) hg)
        clear ho hg
        go_wp2
        go_roundw
        case rel => exact ⟨k + 1, l ++ [(⟨nm, false, false, false, x - 47⟩ : Ev)], by omega, by go_num, by simp [HLK.out], HN.out, HG.out, FO.out.push (fun h => by cases h)⟩
        case measure => simp [intOf]; omega
      · have hd : (decide (48 ≤ x) && decide (x < 52)) = false := by
          rw [Bool.and_eq_false_iff]; simp; omega
        have hbo : Hid (u3.ownBlock ≠ some (wr.heap.size + 1)) := fun e => by have := (HV.out.lt _ e).2; omega
        go_upto_region 8 with fail
        all_goals
          generalize hV : (wr.alloc (.cells #[.int .u8 (97 + (k : Int))] 5)).alloc (.cells #[.string nm, .bool false, .bool false, .bool false, .int .i64 0] 116) = V at *
          clear hV hcv
          have hc5 := (C0.out.fro W5.out (Nat.lt_succ_self _)).c k _ HX.out
          have k0 := K5.out.cell 0
          have k1 := K5.out.cell 1
          have k2 := K5.out.cell 2
          have k3 := K5.out.cell 3
          have k4 := K5.out.cell 4
          have g1 := K5.out.free 1
          have g2 := K5.out.free 2
          have g3 := K5.out.free 3
          go_region
        all_goals
          generalize (bits BinOp.and IntKind.u8 x 1 == 1) = o1
          generalize (bits BinOp.and IntKind.u8 x 2 == 2) = o2
          generalize (bits BinOp.and IntKind.u8 x 4 == 4) = o3
          have K6 : Hid (BlkAt (((V.setCell ⟨wr.heap.size + 1, 1, none⟩ (.bool o1)).setCell ⟨wr.heap.size + 1, 2, none⟩ (.bool o2)).setCell ⟨wr.heap.size + 1, 3, none⟩ (.bool o3)).drew (wr.heap.size + 1) 116 [.string nm, .bool o1, .bool o2, .bool o3, .int .i64 0]) := ((K5.out.set_ 1 _).set_ 2 _).set_ 3 _
          have V6 : Hid (Own Ev.cells 5 116 (w.heap.size + 1) l u3 (((V.setCell ⟨wr.heap.size + 1, 1, none⟩ (.bool o1)).setCell ⟨wr.heap.size + 1, 2, none⟩ (.bool o2)).setCell ⟨wr.heap.size + 1, 3, none⟩ (.bool o3)).drew) := (((V5.out.far hbo.out _).far hbo.out _).far hbo.out _).drew
          have hbz : w.heap.size + 1 ≤ wr.heap.size + 1 := by have := BW.out.z; omega
          have W6 : Hid (Fro (w.heap.size + 1) W (((V.setCell ⟨wr.heap.size + 1, 1, none⟩ (.bool o1)).setCell ⟨wr.heap.size + 1, 2, none⟩ (.bool o2)).setCell ⟨wr.heap.size + 1, 3, none⟩ (.bool o3)).drew) := (((W5.out.setCell hbz _).setCell hbz _).setCell hbz _).drew
          generalize hV : (((V.setCell ⟨wr.heap.size + 1, 1, none⟩ (.bool o1)).setCell ⟨wr.heap.size + 1, 2, none⟩ (.bool o2)).setCell ⟨wr.heap.size + 1, 3, none⟩ (.bool o3)).drew = V' at *
          clear hV hc5 k0 k1 k2 k3 k4 g1 g2 g3
          have k0 := K6.out.cell 0
          have k1 := K6.out.cell 1
          have k2 := K6.out.cell 2
          have k3 := K6.out.cell 3
          have k4 := K6.out.cell 4
          go_wp2_with (at_builtin; refine wpList_push rfl _ _ 35 rfl (V6.out.alloc _) Try.underlying35 _ 32 evInfo rfl (by decide) rfl (⟨nm, o1, o2, o3, 0⟩ : Ev) V'.heap.size rfl rfl (one_cell _ _ _ _ rfl) (evOne _) (by omega) (by decide) (W6.out.alloc _).z ?_)
          intro A' c' w1 ho hg _
          have HN := Lib.hid ho
          have HG := Lib.hid ((W6.out.alloc _).push (V6.out.alloc _) hg)
          clear ho hg
          go_wp2
          go_roundw
          case rel => exact ⟨k + 1, l ++ [(⟨nm, o1, o2, o3, 0⟩ : Ev)], by omega, by go_num, by simp [HLK.out], HN.out, HG.out, FO.out.push (fun _ => rfl)⟩
          case measure => simp [intOf]; omega
    · obtain rfl : k = 5 := by omega
      obtain ⟨A, c, rfl⟩ := HV.out.form
      go_wp2
      go_ret
      refine ⟨l, A, c, congrArg (fun n => Ending.returned (Value.slice A n c)) HLK.out, ⟨HLK.out, FO.out⟩, HV.out.base (by omega), ?_⟩
      exact B0.out.trans (BW.out.b.mono (by omega))
end Go.Proofs.Ytkbmenpggiojeaa
