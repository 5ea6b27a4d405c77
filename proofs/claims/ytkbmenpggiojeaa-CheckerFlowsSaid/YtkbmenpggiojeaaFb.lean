/-
  The checker's look at nets and at numbers of a flow.
-/
import Derived.Test.YtkbmenpggiojeaaFa
namespace Go.Proofs.Ytkbmenpggiojeaa
open Go.RowKit
set_option linter.unusedSimpArgs false
set_option linter.unusedVariables false
set_option maxRecDepth 100000

def TrIs (W : World) (x : Tr) (A1 A2 : Option Addr) : Prop := ArcsAt W A1 x.ins ∧ ArcsAt W A2 x.outs ∧ x.ins.length ≤ 140737488355328 ∧ x.outs.length ≤ 140737488355328
theorem TrIs.below {W W' : World} {x : Tr} {A1 A2 : Option Addr} (h : TrIs W x A1 A2) (hb : Below W.heap.size W W') : TrIs W' x A1 A2 := ⟨h.1.below (PlR.ok _).stays hb, h.2.1.below (PlR.ok _).stays hb, h.2.2⟩
def PredOnT (P : Program) (g : Nat) (lb : Array Value) (p : Tr → Prop) (l : List Tr) (w : World) : Prop :=
  ∀ (W : World) (x : Tr) (A1 A2 : Option Addr) (c1 c2 : Nat), x ∈ l → Below w.heap.size w W → TrIs W x A1 A2 → Calls P g (#[.agg #[.int .i64 x.ev, .slice A1 x.ins.length c1, .slice A2 x.outs.length c2]] ++ lb) W (Tells (p x) W)

set_option maxHeartbeats 400000 in
theorem indexT_c (g : Nat) (lb : Array Value) (eg : ∀ args w, (callFunc g args).run Try.prog w = .ok (.enter g args) w) (p : Tr → Prop) (A : Option Addr) (c : Nat) (l : List Tr) (w : World)
    (hA : TrsAt w A l) (hl : l.length ≤ 140737488355328) (hp : PredOnT Try.prog g lb p l w) :
    Calls Try.prog 88 #[.slice A l.length c, .func (.func g) #[] lb] w (Indexes p l w) := by
  have HA := Lib.hid hA; clear hA
  have HP := Lib.hid hp; clear hp
  go_enter Try.func88, Try.ntmps88
  go_wp2
  go_loopw [8] (fun i wr => ∃ k : Nat, k ≤ l.length ∧ i = .int .i64 k ∧ Hid (Below w.heap.size w wr) ∧ Hid (∀ j y, j < k → l[j]? = some y → ¬ p y)) (fun i _ => l.length - (intOf i).toNat)
  case atStart => exact ⟨0, by omega, rfl, Below.refl _ _, fun j y h => absurd h (by omega)⟩
  case round =>
    obtain ⟨k, hk, rfl, BW, HN⟩ := hrel
    by_cases hlt : k < l.length
    · obtain ⟨x, hx⟩ : ∃ x, l[k]? = some x := ⟨_, List.getElem?_eq_getElem hlt⟩
      obtain ⟨b, off, A1, c1, A2, c2, hA, hb, e0, e1, e2, a1, a2, l1, l2⟩ := TrsAt.get (HA.out.below TrR.ok.stays BW.out) hx
      subst hA
      have hc := Lib.hid (HP.out wr x A1 A2 c1 c2 (List.mem_of_getElem? hx) BW.out ⟨a1, a2, l1, l2⟩)
      have HX := Lib.hid hx
      clear hx a1 a2 l1 l2
      go_wp2_with fail
      refine hc.out.mono ?_
      intro e w1 hs
      rcases hs.yes1 with ⟨rfl, S, hb1⟩ | ⟨rfl, S, hb1⟩
      · go_wp2
        go_ret
        exact ⟨k, rfl, .inr ⟨k, _, rfl, HX.out, S.out, HN.out⟩, BW.out.trans (hb1.mono BW.out.size)⟩
      · go_wp2
        go_roundw
        case rel => exact ⟨k + 1, by omega, by go_num, BW.out.trans (hb1.mono BW.out.size), fun j y hj hy => by
          by_cases h : j = k
          · subst h; rw [HX.out] at hy; cases hy; exact S.out
          · exact HN.out j y (by omega) hy⟩
        case measure => simp [intOf]; omega
    · obtain rfl : k = l.length := by omega
      go_wp2
      go_ret
      refine ⟨-1, rfl, .inl ⟨rfl, fun x hx => ?_⟩, BW.out⟩
      obtain ⟨j, hj, rfl⟩ := List.mem_iff_getElem.1 hx
      exact HN.out j _ hj (List.getElem?_eq_getElem hj)

set_option maxHeartbeats 400000 in
theorem containsT_c (g : Nat) (lb : Array Value) (eg : ∀ args w, (callFunc g args).run Try.prog w = .ok (.enter g args) w) (p : Tr → Prop) (A : Option Addr) (c : Nat) (l : List Tr) (w : World)
    (hA : TrsAt w A l) (hl : l.length ≤ 140737488355328) (hp : PredOnT Try.prog g lb p l w) :
    Calls Try.prog 53 #[.slice A l.length c, .func (.func g) #[] lb] w (Tells (∃ x, x ∈ l ∧ p x) w) := by
  have HC := Lib.hid (indexT_c g lb eg p A c l w hA hl hp)
  clear hA hp
  go_enter Try.func53, Try.ntmps53
  go_wp2_with (go_at_call 88; refine HC.out.mono ?_; rintro e w' ⟨r, rfl, hr, hb⟩; have HR := Lib.hid hr; clear hr)
  go_ret
  exact ⟨_, rfl, by rw [decide_eq_true_eq]; exact Indexes.some_iff HR.out, hb⟩

/-- Out of the range 0 .. 65536. -/
def outP (x : Int) : Prop := x < 0 ∨ 65536 < x
set_option maxHeartbeats 400000 in
theorem net1_c (x : Int) (w : World) : Calls Try.prog 83 #[.int .i64 x] w (Tells (outP x) w) := by
  by_cases h : x < 0
  · have h' : decide (x < 0) = true := by simpa using h
    have HX := Lib.hid h
    clear h
    go_enter Try.func83, Try.ntmps83
    go_wp2
    go_ret
    exact Tells.yes (.inl HX.out) (Below.refl _ _)
  · have h' : decide (x < 0) = false := by simpa using h
    go_enter Try.func83, Try.ntmps83
    go_wp2
    go_ret
    exact ⟨_, rfl, by unfold outP; simp; omega, Below.refl _ _⟩
set_option maxHeartbeats 400000 in
theorem weights1_c (x : Int) (w : World) : Calls Try.prog 86 #[.int .i64 x] w (Tells (outP x) w) := by
  by_cases h : x < 0
  · have h' : decide (x < 0) = true := by simpa using h
    have HX := Lib.hid h
    clear h
    go_enter Try.func86, Try.ntmps86
    go_wp2
    go_ret
    exact Tells.yes (.inl HX.out) (Below.refl _ _)
  · have h' : decide (x < 0) = false := by simpa using h
    go_enter Try.func86, Try.ntmps86
    go_wp2
    go_ret
    exact ⟨_, rfl, by unfold outP; simp; omega, Below.refl _ _⟩
theorem weights2_c (x : Int) (w : World) : Calls Try.prog 87 #[.int .i64 x] w (Tells (0 < x) w) := by
  go_enter Try.func87, Try.ntmps87
  go_wp2
  go_ret
  exact ⟨_, rfl, by simp, Below.refl _ _⟩

/-- A transition that is not right. -/
def trBad (n : Nat) (t : Tr) : Prop := t.ev < 0 ∨ 32 ≤ t.ev ∨ ¬ arcsOk t.ins n ∨ ¬ arcsOk t.outs n
set_option maxHeartbeats 1000000 in
theorem net2_c (b1 : Nat) (A : Option Addr) (c n : Nat) (x : Tr) (A1 A2 : Option Addr) (c1 c2 : Nat) (w : World) (hc : w.cell? ⟨b1, 0, none⟩ = some (.slice A n c)) (hz : b1 < w.heap.size) (hn : n ≤ 10) (hx : TrIs w x A1 A2) :
    Calls Try.prog 84 #[.agg #[.int .i64 x.ev, .slice A1 x.ins.length c1, .slice A2 x.outs.length c2], .pointer (some ⟨b1, 0, none⟩)] w (Tells (trBad n x) w) := by
  obtain ⟨ev, ins, outs⟩ := x
  dsimp only at *
  have HX := Lib.hid hx
  have BN : Hid (Fro w.heap.size w (w.alloc (.cells #[.int .i64 ev, .slice A1 ins.length c1, .slice A2 outs.length c2] 63))) := (Fro.here w).alloc _
  have CN : Hid (HasAt w.heap.size [.int .i64 ev, .slice A1 ins.length c1, .slice A2 outs.length c2] (w.alloc (.cells #[.int .i64 ev, .slice A1 ins.length c1, .slice A2 outs.length c2] 63))) := HasAt.new w _ _ rfl
  clear hx
  go_enter Try.func84, Try.ntmps84
  by_cases h0 : ev < 0
  · have h0' : decide (ev < 0) = true := by simpa using h0
    have H0 := Lib.hid h0
    clear h0
    go_wp2
    go_ret
    exact Tells.yes (.inl H0.out) BN.out.b
  have h0' : decide (ev < 0) = false := by simpa using h0
  by_cases h1 : 32 ≤ ev
  · have h1' : decide (32 ≤ ev) = true := by simpa using h1
    have H1 := Lib.hid h1
    clear h1
    go_wp2
    go_ret
    exact Tells.yes (.inr (.inl H1.out)) BN.out.b
  have h1' : decide (32 ≤ ev) = false := by simpa using h1
  have H0 := Lib.hid h0
  have H1 := Lib.hid h1
  clear h0 h1
  go_wp2_with fail
  refine (arcs_c A1 c1 ins n _ (HX.out.below BN.out.b).1 HX.out.2.2.1).mono ?_
  intro e w1 hs
  rcases hs.no1 with ⟨rfl, S, hb⟩ | ⟨rfl, S, hb⟩
  · have B1 := Lib.hid (BN.out.next hb)
    clear hs hb
    go_wp2
    go_ret
    exact Tells.yes (.inr (.inr (.inl S.out))) B1.out.b
  have B1 := Lib.hid (BN.out.next hb)
  have D1 := Lib.hid (CN.out.below hb)
  have hc1 := old_cell B1.out.b hc hz
  have hz1 : b1 < w1.heap.size := Nat.lt_of_lt_of_le hz B1.out.z
  clear hs hb BN CN
  have q2 := D1.out.c 2 _ rfl
  go_wp2_with fail
  refine (arcs_c A2 c2 outs n _ (HX.out.below B1.out.b).2.1 HX.out.2.2.2).mono ?_
  rintro e w2 ⟨r, rfl, hr, hb⟩
  have B2 := Lib.hid (B1.out.next hb)
  have HR := Lib.hid hr
  clear hr hb
  cases r
  · go_wp2
    go_ret
    exact Tells.yes (.inr (.inr (.inr (fun h => by have := HR.out.2 h; simp at this)))) B2.out.b
  · go_wp2
    go_ret
    exact Tells.no (fun h => by
      rcases h with h | h | h | h
      · have := H0.out; simp only at h; omega
      · have := H1.out; simp only at h; omega
      · exact h S.out
      · exact h (HR.out.1 (by simp))) B2.out.b

structure NetOk (init : List Int) (trs : List Tr) : Prop where
  l1 : init.length ≤ 10
  l2 : trs.length ≤ 10
  i : ∀ x, x ∈ init → 0 ≤ x ∧ x ≤ 65536
  t : ∀ t, t ∈ trs → 0 ≤ t.ev ∧ t.ev < 32 ∧ arcsOk t.ins init.length ∧ arcsOk t.outs init.length
structure NetAt (w : World) (init : List Int) (trs : List Tr) (A1 A2 : Option Addr) : Prop where
  i : IntsAt w A1 init
  t : TrsAt w A2 trs
  l1 : init.length ≤ 140737488355328
  l2 : trs.length ≤ 140737488355328
theorem NetAt.below {w w' : World} {init : List Int} {trs : List Tr} {A1 A2 : Option Addr} (h : NetAt w init trs A1 A2) (hb : Below w.heap.size w w') : NetAt w' init trs A1 A2 := ⟨h.i.below IntE.stays hb, h.t.below TrR.ok.stays hb, h.l1, h.l2⟩

set_option maxHeartbeats 1000000 in
theorem net_c (init : List Int) (trs : List Tr) (A1 A2 : Option Addr) (c1 c2 : Nat) (w : World) (h : NetAt w init trs A1 A2) :
    Calls Try.prog 50 #[.agg #[.slice A1 init.length c1, .slice A2 trs.length c2]] w (Tells (NetOk init trs) w) := by
  have HX := Lib.hid h
  have l1 := h.l1
  have l2 := h.l2
  have BN : Hid (Fro w.heap.size w (w.alloc (.cells #[.slice A1 init.length c1, .slice A2 trs.length c2] 57))) := (Fro.here w).alloc _
  have CN : Hid (HasAt w.heap.size [.slice A1 init.length c1, .slice A2 trs.length c2] (w.alloc (.cells #[.slice A1 init.length c1, .slice A2 trs.length c2] 57))) := HasAt.new w _ _ rfl
  clear h
  go_enter Try.func50, Try.ntmps50
  by_cases h0 : 10 < init.length
  · have h0' : decide ((10 : Int) < (init.length : Int)) = true := by simp; omega
    go_wp2
    go_ret
    exact Tells.no (fun h => by have := h.l1; omega) BN.out.b
  have h0' : decide ((10 : Int) < (init.length : Int)) = false := by simp; omega
  by_cases h1 : 10 < trs.length
  · have h1' : decide ((10 : Int) < (trs.length : Int)) = true := by simp; omega
    go_wp2
    go_ret
    exact Tells.no (fun h => by have := h.l2; omega) BN.out.b
  have h1' : decide ((10 : Int) < (trs.length : Int)) = false := by simp; omega
  go_wp2_with fail
  refine (containsI_c 83 #[] (enters_of Try.func83 (by kernel_rfl) rfl) outP A1 c1 init _ (HX.out.below BN.out.b).i l1 (fun W x _ _ => by simpa using net1_c x W)).mono ?_
  intro e w1 hs
  rcases hs.yes1 with ⟨rfl, S, hb⟩ | ⟨rfl, S, hb⟩
  · have B1 := Lib.hid (BN.out.next hb)
    clear hs hb
    go_wp2
    go_ret
    exact Tells.no (fun h => by
      obtain ⟨x, hx, ho⟩ := S.out
      have := h.i x hx
      rcases ho with ho | ho <;> omega) B1.out.b
  have B1 := Lib.hid (BN.out.next hb)
  have D1 := Lib.hid (CN.out.below hb)
  clear hs hb BN CN
  have q0 := D1.out.c 0 _ rfl
  have q1 := D1.out.c 1 _ rfl
  have PR : Hid (PredOnT Try.prog 84 #[.pointer (some ⟨w.heap.size, 0, none⟩)] (trBad init.length) trs w1) := fun V x A A' c c' _ hb hx =>
    net2_c w.heap.size A1 c1 init.length x A A' c c' V ((D1.out.below hb).c 0 _ rfl) (D1.out.below hb).z (by omega) hx
  go_wp2_with fail
  refine (containsT_c 84 _ (enters_of Try.func84 (by kernel_rfl) rfl) _ A2 c2 trs w1 (HX.out.below B1.out.b).t l2 PR.out).mono ?_
  rintro e w2 ⟨r, rfl, hr, hb⟩
  have B2 := Lib.hid (B1.out.next hb)
  have HR := Lib.hid hr
  clear hr hb
  have OKI : Hid (∀ x, x ∈ init → 0 ≤ x ∧ x ≤ 65536) := fun x hx => by
    by_cases h : outP x
    · exact absurd ⟨x, hx, h⟩ S.out
    · unfold outP at h; omega
  cases r
  · go_wp2
    go_ret
    exact Tells.yes ⟨by omega, by omega, OKI.out, fun t ht => by
      by_cases h : trBad init.length t
      · exact absurd (HR.out.2 ⟨t, ht, h⟩) (by simp)
      · unfold trBad at h
        refine ⟨by omega, by omega, ?_, ?_⟩
        · by_cases g : arcsOk t.ins init.length
          · exact g
          · exact absurd (.inr (.inr (.inl g))) h
        · by_cases g : arcsOk t.outs init.length
          · exact g
          · exact absurd (.inr (.inr (.inr g))) h⟩ B2.out.b
  · go_wp2
    go_ret
    exact Tells.no (fun h => by
      obtain ⟨t, ht, hb⟩ := HR.out.1 (by simp)
      obtain ⟨a, b, c, d⟩ := h.t t ht
      rcases hb with hb | hb | hb | hb
      · omega
      · omega
      · exact hb c
      · exact hb d) B2.out.b

structure WtOk (l : List Int) (n : Nat) : Prop where
  len : l.length = n
  r : ∀ x, x ∈ l → 0 ≤ x ∧ x ≤ 65536
  s : ∃ x, x ∈ l ∧ 0 < x
set_option maxHeartbeats 1000000 in
theorem weights_c (A : Option Addr) (c : Nat) (l : List Int) (n : Nat) (w : World) (h : IntsAt w A l) (hl : l.length ≤ 140737488355328) :
    Calls Try.prog 51 #[.slice A l.length c, .int .i64 n] w (Tells (WtOk l n) w) := by
  have HX := Lib.hid h
  clear h
  go_enter Try.func51, Try.ntmps51
  by_cases h0 : l.length = n
  rotate_left
  · have h0' : ((l.length : Int) == (n : Int)) = false := by simp; omega
    go_wp2
    go_ret
    exact Tells.no (fun h => h0 h.len) (Below.refl _ _)
  have h0' : ((l.length : Int) == (n : Int)) = true := by simp; omega
  have H0 := Lib.hid h0
  clear h0
  go_wp2_with fail
  refine (containsI_c 86 #[] (enters_of Try.func86 (by kernel_rfl) rfl) outP A c l _ HX.out hl (fun W x _ _ => by simpa using weights1_c x W)).mono ?_
  intro e w1 hs
  rcases hs.yes1 with ⟨rfl, S, hb⟩ | ⟨rfl, S, hb⟩
  · have B1 := Lib.hid hb
    clear hs hb
    go_wp2
    go_ret
    exact Tells.no (fun h => by
      obtain ⟨x, hx, ho⟩ := S.out
      have := h.r x hx
      rcases ho with ho | ho <;> omega) B1.out
  have B1 := Lib.hid hb
  clear hs hb
  go_wp2_with fail
  refine (containsI_c 87 #[] (enters_of Try.func87 (by kernel_rfl) rfl) (fun x => 0 < x) A c l _ (HX.out.below IntE.stays B1.out) hl (fun W x _ _ => by simpa using weights2_c x W)).mono ?_
  rintro e w2 ⟨r, rfl, hr, hb⟩
  have B2 := Lib.hid (B1.out.trans (hb.mono B1.out.size))
  have HR := Lib.hid hr
  clear hr hb
  go_wp2
  go_ret
  exact ⟨r, rfl, by rw [HR.out]; exact ⟨fun h => ⟨H0.out, fun x hx => by
    by_cases h : outP x
    · exact absurd ⟨x, hx, h⟩ S.out
    · unfold outP at h; omega, h⟩, fun h => h.s⟩, B2.out⟩
end Go.Proofs.Ytkbmenpggiojeaa
