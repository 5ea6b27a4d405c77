/-
  The chapter's examples: known.
-/
import Derived.Test.YtkbmenpggiojeaaMb
import Derived.Test.YtkbmenpggiojeaaMf
import Derived.Deep.RegionHeld3
namespace Go.Proofs.Ytkbmenpggiojeaa
open Go.RowKit
set_option linter.unusedSimpArgs false
set_option linter.unusedVariables false

/-- The blocks that known makes first. -/
abbrev knownW (w : World) : World := (((((((w.alloc (.cells #[.int .i64 0] 3)).alloc (.cells #[.int .i64 1] 3)).alloc (.cells #[.int .i64 0, .int .i64 0, .int .i64 1] 73)).alloc (.cells #[.int .i64 1] 3)).alloc (.cells #[.int .i64 0] 3)).alloc
  (.cells #[.slice (some ⟨w.heap.size, 0, none⟩) 1 1, .int .i64 2, .slice (some ⟨w.heap.size + 1, 0, none⟩) 1 1, .slice (some ⟨w.heap.size + 1 + 1, 0, none⟩) 1 1, .slice (some ⟨w.heap.size + 1 + 1 + 1, 0, none⟩) 1 1, .slice (some ⟨w.heap.size + 1 + 1 + 1 + 1, 0, none⟩) 1 1] 78)).alloc
  (.cells #[.int .i64 0, .int .i64 2, .int .i64 2, .int .i64 0, .int .i64 1, .int .i64 1, .int .i64 1, .int .i64 (-1)] 83)).alloc
  (.cells #[.slice none 0 0, .slice none 0 0, .slice (some ⟨w.heap.size + 1 + 1 + 1 + 1 + 1 + 1, 0, none⟩) 2 2] 81)

theorem old_all {w w' : World} (hb : Below w.heap.size w w') {b : Nat} (hlt : b < w.heap.size) {l : List Value} (h : ∀ i u, l[i]? = some u → w.cell? ⟨b, i, none⟩ = some u) : ∀ i u, l[i]? = some u → w'.cell? ⟨b, i, none⟩ = some u := fun i u hi => old_cell hb (h i u hi) hlt

def pK (n : Nat) : PrP := ⟨⟨some ⟨n, 0, none⟩, 1, some ⟨n + 1, 0, none⟩, 1, some ⟨n + 1 + 1, 0, none⟩, 1⟩, some ⟨n + 1 + 1 + 1, 0, none⟩, 1, some ⟨n + 1 + 1 + 1 + 1, 0, none⟩, 1⟩
def cK (n r : Nat) : CeP := ⟨none, 0, none, 0, some ⟨n + 1 + 1 + 1 + 1 + 1 + 1, 0, none⟩, r⟩
/-- What the examples' first blocks hold. -/
structure KnownMem (n : Nat) (w : World) : Prop where
  pr : PrAt w auK [1] [0] (pK n)
  ce : CeAt w [] [] rmK (cK n 2)
  cp : ∀ i u, [Value.slice (some ⟨n, 0, none⟩) 1 1, .int .i64 2, .slice (some ⟨n + 1, 0, none⟩) 1 1, .slice (some ⟨n + 1 + 1, 0, none⟩) 1 1, .slice (some ⟨n + 1 + 1 + 1, 0, none⟩) 1 1, .slice (some ⟨n + 1 + 1 + 1 + 1, 0, none⟩) 1 1][i]? = some u → w.cell? ⟨n + 1 + 1 + 1 + 1 + 1, i, none⟩ = some u
  cc : ∀ i u, [Value.slice none 0 0, .slice none 0 0, .slice (some ⟨n + 1 + 1 + 1 + 1 + 1 + 1, 0, none⟩) 2 2][i]? = some u → w.cell? ⟨n + 1 + 1 + 1 + 1 + 1 + 1 + 1, i, none⟩ = some u
  sz : n + 1 + 1 + 1 + 1 + 1 + 1 + 1 < w.heap.size
theorem KnownMem.below {n : Nat} {w w' : World} (h : KnownMem n w) (hb : Below w.heap.size w w') : KnownMem n w' :=
  ⟨h.pr.below hb, h.ce.below hb, old_all hb (by have := h.sz; omega) h.cp, old_all hb h.sz h.cc, Nat.lt_of_lt_of_le h.sz hb.size⟩
theorem blk_cells {w : World} {g : Nat} {T : TypeId} {cs : List Value} (h : BlkAt w g T cs) : ∀ i u, cs[i]? = some u → w.cell? ⟨g, i, none⟩ = some u := fun i u hi => by rw [h.cell, hi]
theorem knownMem (w : World) : KnownMem w.heap.size (knownW w) := by
  refine ⟨⟨⟨IntsAt.blk (T := 3) [0] ?_, IntsAt.blk (T := 3) [1] ?_, SlAt.blk (enc := Ed.cells) (T := 73) (fun _ => rfl) auK.ed ?_, by simp [auK], by simp [auK], by simp [auK]⟩, IntsAt.blk (T := 3) [1] ?_, IntsAt.blk (T := 3) [0] ?_, by simp, by simp⟩,
    ⟨SlAt.nil, SlAt.nil, SlAt.blk (enc := Rm.cells) (T := 83) (fun _ => rfl) rmK ?_, by simp, by simp, by simp [rmK]⟩, blk_cells (T := 78) ?_, blk_cells (T := 81) ?_, by simp⟩
  · exact ((((((((BlkAt.newAt (by simp) rfl).alloc _).alloc _).alloc _).alloc _).alloc _).alloc _).alloc _)
  · exact (((((((BlkAt.newAt (by simp) rfl).alloc _).alloc _).alloc _).alloc _).alloc _).alloc _)
  · exact ((((((BlkAt.newAt (by simp) rfl).alloc _).alloc _).alloc _).alloc _).alloc _)
  · exact (((((BlkAt.newAt (by simp) rfl).alloc _).alloc _).alloc _).alloc _)
  · exact ((((BlkAt.newAt (by simp) rfl).alloc _).alloc _).alloc _)
  · exact ((BlkAt.newAt (by simp) rfl).alloc _)
  · exact (((BlkAt.newAt (by simp) rfl).alloc _).alloc _)
  · exact (BlkAt.newAt (by simp) rfl)

theorem knownBelow (w : World) : Below w.heap.size w (knownW w) :=
  (((((((Below.new w _).alloc (by simp) _).alloc (by simp; omega) _).alloc (by simp; omega) _).alloc (by simp; omega) _).alloc (by simp; omega) _).alloc (by simp; omega) _).alloc (by simp; omega) _


/-- What known holds when the events and both plants are made. -/
structure Known2 (n b4 : Nat) (AE : Option Addr) (p : AuP) (w : World) : Prop where
  km : KnownMem n w
  fe : EvsAt w AE evF
  fa : Au.At w (auF false) p
  c4 : HasAt b4 (auCells (auF false) p) w
theorem Known2.below {n b4 : Nat} {AE : Option Addr} {p : AuP} {w w' : World} (h : Known2 n b4 AE p w) (hb : Below w.heap.size w w') : Known2 n b4 AE p w' :=
  ⟨h.km.below hb, h.fe.below EvE.stays hb, h.fa.below hb, h.c4.below hb⟩
def lsP (m : Nat) : LsP := ⟨some ⟨m + 1, 0, none⟩, 1, some ⟨m + 1 + 1, 0, none⟩, 1, none, 0, some ⟨m + 1 + 1 + 1, 0, none⟩, 1⟩
structure Known3 (n b4 m : Nat) (AE : Option Addr) (p q : AuP) (w : World) : Prop where
  k2 : Known2 n b4 AE p w
  fa : Au.At w (auF true) q
  c6 : HasAt m (auCells (auF true) q) w
  ls : Ls.At w lsF (lsP m)
  c7 : HasAt (m + 1 + 1 + 1 + 1) (lsCells lsF (lsP m)) w
  pa : PasAt w (some ⟨m + 1 + 1 + 1 + 1 + 1, 0, none⟩) paF
theorem Known3.below {n b4 m : Nat} {AE : Option Addr} {p q : AuP} {w w' : World} (h : Known3 n b4 m AE p q w) (hb : Below w.heap.size w w') : Known3 n b4 m AE p q w' :=
  ⟨h.k2.below hb, h.fa.below hb, h.c6.below hb, h.ls.below hb, h.c7.below hb, h.pa.below PaE.stays hb⟩
abbrev knownW3 (w : World) (q : AuP) : World := ((((((w.alloc (.cells (auCells (auF true) q).toArray 39)).alloc (.cells #[.int .i64 0] 3)).alloc (.cells #[.int .i64 1] 3)).alloc (.cells #[.int .i64 1] 3)).alloc
  (.cells (lsCells lsF (lsP w.heap.size)).toArray 49)).alloc (.cells #[.int .i64 0, .int .i64 0, .int .i64 (-1), .int .i64 1, .int .i64 0, .int .i64 0] 46))
theorem known3 {n b4 : Nat} {AE : Option Addr} {p q : AuP} {w : World} (h : Known2 n b4 AE p w) (hq : Au.At w (auF true) q) : Known3 n b4 w.heap.size AE p q (knownW3 w q) := by
  have B : Below w.heap.size w (knownW3 w q) := ((((((Below.new w _).alloc (by simp) _).alloc (by simp; omega) _).alloc (by simp; omega) _).alloc (by simp; omega) _).alloc (by simp; omega) _)
  refine ⟨h.below B, hq.below B, ?_, ⟨IntsAt.blk (T := 3) [0] ?_, IntsAt.blk (T := 3) [1] ?_, SlAt.nil, IntsAt.blk (T := 3) [1] ?_, by simp [lsF], by simp [lsF], by simp [lsF], by simp [lsF]⟩, ?_, SlAt.blk (enc := Pa.cells) (T := 46) (fun _ => rfl) paF ?_⟩
  · exact ((((((HasAt.new w _ _ rfl).alloc _).alloc _).alloc _).alloc _).alloc _)
  · exact (((((BlkAt.newAt (by simp) rfl).alloc _).alloc _).alloc _).alloc _)
  · exact ((((BlkAt.newAt (by simp) rfl).alloc _).alloc _).alloc _)
  · exact (((BlkAt.newAt (by simp) rfl).alloc _).alloc _)
  · exact ((HasAt.new _ _ _ (by simp)).alloc _)
  · exact (BlkAt.newAt (by simp) rfl)
/-- From n on there is new memory alone. -/
structure From (n : Nat) (w W : World) : Prop where
  b : Below n w W
  z : n ≤ W.heap.size
theorem From.next {n : Nat} {w W W' : World} (h : From n w W) (hb : Below W.heap.size W W') : From n w W' := ⟨h.b.trans (hb.mono h.z), Nat.le_trans h.z hb.size⟩
def Yes (b : Bool) (w : World) (e : Ending) (w' : World) : Prop := e = .returned (.bool b) ∧ Below w.heap.size w w'

set_option maxRecDepth 100000 in
set_option maxHeartbeats 4000000 in
theorem known_c (w : World) : Calls Try.prog 9 #[] w (fun e w' => e = .returned (.bool true) ∧ Below w.heap.size w w') := by
  go_enter Try.func9, Try.ntmps9
  go_wp2_with fail
  change Calls _ _ _ (knownW w) _
  have BW : Hid (From w.heap.size w (knownW w)) := ⟨knownBelow w, (knownBelow w).size⟩
  have KM := Lib.hid (knownMem w)
  generalize hW : knownW w = W8 at *
  generalize hn : w.heap.size = n at *
  clear hW
  refine (faultF_c _).mono ?_
  rintro e w1 ⟨AE, cE, p, rfl, hE, hA, hb⟩
  have BW1 := Lib.hid (BW.out.next hb)
  have KM1 := Lib.hid (KM.out.below hb)
  have FE1 := Lib.hid hE.out
  have FA1 := Lib.hid hA.out
  clear BW KM hE hA hb
  go_wp2_with fail
  change Calls _ _ _ (w1.alloc (.cells (auCells (auF false) p).toArray 39)) _
  have K2 : Hid (Known2 n w1.heap.size AE p (w1.alloc (.cells (auCells (auF false) p).toArray 39))) := ⟨KM1.out.below (Below.new _ _), FE1.out.below EvE.stays (Below.new _ _), FA1.out.below (Below.new _ _), HasAt.new w1 _ _ rfl⟩
  have BW2 := Lib.hid (BW1.out.next (Below.new w1 (.cells (auCells (auF false) p).toArray 39)))
  generalize hW : w1.alloc (.cells (auCells (auF false) p).toArray 39) = W2 at *
  generalize hb4 : w1.heap.size = b4 at *
  clear hW KM1 FE1 FA1 hb4 BW1
  refine (faultT_c _).mono ?_
  rintro e w3 ⟨AT, cT, q, rfl, hE, hA, hb⟩
  have K2' := Lib.hid (K2.out.below hb)
  have BW3 := Lib.hid (BW2.out.next hb)
  have FA3 := Lib.hid hA.out
  clear hE hA hb K2 BW2
  go_wp2_with fail
  change Code.wp _ _ _ _ (knownW3 w3 q)
  have K3 := Lib.hid (known3 K2'.out FA3.out)
  have BW4 : Hid (From n w (knownW3 w3 q)) := BW3.out.next ((((((Below.new w3 _).alloc (by simp) _).alloc (by simp; omega) _).alloc (by simp; omega) _).alloc (by simp; omega) _).alloc (by simp; omega) _)
  generalize hW : knownW3 w3 q = W at *
  generalize hm : w3.heap.size = m at *
  have HN := Lib.hid hn
  clear hW hm K2' FA3 BW3 hn
  have H1 : Hid (∀ V, Below W.heap.size W V → Calls Try.prog 30 #[.agg #[.slice (some ⟨n, 0, none⟩) 1 1, .int .i64 2, .slice (some ⟨n + 1, 0, none⟩) 1 1, .slice (some ⟨n + 1 + 1, 0, none⟩) 1 1, .slice (some ⟨n + 1 + 1 + 1, 0, none⟩) 1 1, .slice (some ⟨n + 1 + 1 + 1 + 1, 0, none⟩) 1 1], .agg #[.slice none 0 0, .slice none 0 0, .slice (some ⟨n + 1 + 1 + 1 + 1 + 1 + 1, 0, none⟩) 2 2]] V (Yes true V)) := fun V hb =>
    (Kept_c auK [1] [0] (pK n) [] [] rmK (cK n 2) V ((K3.out.below hb).k2.km.pr) ((K3.out.below hb).k2.km.ce) (by simp [auK])).mono fun _ _ h => h.yes2 keptK
  have HC1 : Hid (∀ V, Below W.heap.size W V → CeAt V [] [] [⟨0, 2, 2, 0⟩] ⟨none, 0, none, 0, some ⟨n + 1 + 1 + 1 + 1 + 1 + 1, 0, none⟩, 2⟩) := fun V hb =>
    ⟨SlAt.nil, SlAt.nil, fun _ => by
      obtain ⟨b, off, hA, hlt, hc⟩ := (K3.out.below hb).k2.km.ce.hr (by simp [rmK])
      refine ⟨b, off, hA, hlt, fun i x hx => hc i x ?_⟩
      cases i with
      | zero => simpa [rmK] using hx
      | succ i => simp at hx, by simp, by simp, by simp⟩
  have H2 : Hid (∀ V, Below W.heap.size W V → Calls Try.prog 30 #[.agg #[.slice (some ⟨n, 0, none⟩) 1 1, .int .i64 2, .slice (some ⟨n + 1, 0, none⟩) 1 1, .slice (some ⟨n + 1 + 1, 0, none⟩) 1 1, .slice (some ⟨n + 1 + 1 + 1, 0, none⟩) 1 1, .slice (some ⟨n + 1 + 1 + 1 + 1, 0, none⟩) 1 1], .agg #[.slice none 0 0, .slice none 0 0, .slice (some ⟨n + 1 + 1 + 1 + 1 + 1 + 1, 0, none⟩) 1 2]] V (Yes false V)) := fun V hb =>
    (Kept_c auK [1] [0] (pK n) [] [] [⟨0, 2, 2, 0⟩] ⟨none, 0, none, 0, some ⟨n + 1 + 1 + 1 + 1 + 1 + 1, 0, none⟩, 2⟩ V ((K3.out.below hb).k2.km.pr) (HC1.out V hb) (by simp [auK])).mono fun _ _ h => h.no2 keptK1
  have H3 : Hid (∀ (V : World), Below W.heap.size W V → Calls Try.prog 11 #[.slice AE 2 cE, .agg (auCells (auF false) p).toArray, .int .i64 1, .int .i64 1, .slice (some ⟨m + 1 + 1 + 1 + 1 + 1, 0, none⟩) 2 2] V (Yes true V)) := fun V hb =>
    (Bound_c AE cE evF (auF false) p 1 1 (some ⟨m + 1 + 1 + 1 + 1 + 1, 0, none⟩) 2 paF V (K3.out.below hb).k2.fe (K3.out.below hb).k2.fa (K3.out.below hb).pa (by simp [evF]) (by simp [paF]) (by simp [auF])).mono fun _ _ h => h.yes2 boundF
  have H4 : Hid (∀ (V : World), Below W.heap.size W V → Calls Try.prog 11 #[.slice AE 2 cE, .agg (auCells (auF false) p).toArray, .int .i64 1, .int .i64 0, .slice (some ⟨m + 1 + 1 + 1 + 1 + 1, 0, none⟩) 2 2] V (Yes false V)) := fun V hb =>
    (Bound_c AE cE evF (auF false) p 1 0 (some ⟨m + 1 + 1 + 1 + 1 + 1, 0, none⟩) 2 paF V (K3.out.below hb).k2.fe (K3.out.below hb).k2.fa (K3.out.below hb).pa (by simp [evF]) (by simp [paF]) (by simp [auF])).mono fun _ _ h => h.no2 boundF0
  have H5 : Hid (∀ (V : World), Below W.heap.size W V → Calls Try.prog 14 #[.slice AE 2 cE, .agg (auCells (auF true) q).toArray, .int .i64 1, .agg (lsCells lsF (lsP m)).toArray] V (Yes true V)) := fun V hb =>
    (Lasso_c AE cE evF (auF true) q 1 lsF (lsP m) V (K3.out.below hb).k2.fe (K3.out.below hb).fa (K3.out.below hb).ls (by simp [evF])).mono fun _ _ h => h.yes2 lassoF
  have H6 : Hid (∀ (V : World), Below W.heap.size W V → Calls Try.prog 14 #[.slice AE 2 cE, .agg (auCells (auF false) p).toArray, .int .i64 1, .agg (lsCells lsF (lsP m)).toArray] V (Yes false V)) := fun V hb =>
    (Lasso_c AE cE evF (auF false) p 1 lsF (lsP m) V (K3.out.below hb).k2.fe (K3.out.below hb).k2.fa (K3.out.below hb).ls (by simp [evF])).mono fun _ _ h => h.no2 lassoF0
  have SC : Hid (∀ V, Below W.heap.size W V → V.cell? ⟨n + 1 + 1 + 1 + 1 + 1, 0, none⟩ = some (.slice (some ⟨n, 0, none⟩) 1 1) ∧ V.cell? ⟨n + 1 + 1 + 1 + 1 + 1, 1, none⟩ = some (.int .i64 2) ∧ V.cell? ⟨n + 1 + 1 + 1 + 1 + 1, 2, none⟩ = some (.slice (some ⟨n + 1, 0, none⟩) 1 1) ∧ V.cell? ⟨n + 1 + 1 + 1 + 1 + 1, 3, none⟩ = some (.slice (some ⟨n + 1 + 1, 0, none⟩) 1 1) ∧ V.cell? ⟨n + 1 + 1 + 1 + 1 + 1, 4, none⟩ = some (.slice (some ⟨n + 1 + 1 + 1, 0, none⟩) 1 1) ∧ V.cell? ⟨n + 1 + 1 + 1 + 1 + 1, 5, none⟩ = some (.slice (some ⟨n + 1 + 1 + 1 + 1, 0, none⟩) 1 1) ∧ V.cell? ⟨n + 1 + 1 + 1 + 1 + 1 + 1 + 1, 0, none⟩ = some (.slice none 0 0) ∧ V.cell? ⟨n + 1 + 1 + 1 + 1 + 1 + 1 + 1, 1, none⟩ = some (.slice none 0 0) ∧ V.cell? ⟨n + 1 + 1 + 1 + 1 + 1 + 1 + 1, 2, none⟩ = some (.slice (some ⟨n + 1 + 1 + 1 + 1 + 1 + 1, 0, none⟩) 2 2) ∧ V.cell? ⟨b4, 0, none⟩ = some (.slice p.A1 (auF false).al.length p.c1) ∧ V.cell? ⟨b4, 1, none⟩ = some (.int .i64 (auF false).n) ∧ V.cell? ⟨b4, 2, none⟩ = some (.slice p.A2 (auF false).mr.length p.c2) ∧ V.cell? ⟨b4, 3, none⟩ = some (.slice p.A3 (auF false).ed.length p.c3) ∧ V.cell? ⟨m, 0, none⟩ = some (.slice q.A1 (auF true).al.length q.c1) ∧ V.cell? ⟨m, 1, none⟩ = some (.int .i64 (auF true).n) ∧ V.cell? ⟨m, 2, none⟩ = some (.slice q.A2 (auF true).mr.length q.c2) ∧ V.cell? ⟨m, 3, none⟩ = some (.slice q.A3 (auF true).ed.length q.c3) ∧ V.cell? ⟨m + 1 + 1 + 1 + 1, 0, none⟩ = some (.slice (lsP m).A1 lsF.fa.length (lsP m).c1) ∧ V.cell? ⟨m + 1 + 1 + 1 + 1, 1, none⟩ = some (.slice (lsP m).A2 lsF.fc.length (lsP m).c2) ∧ V.cell? ⟨m + 1 + 1 + 1 + 1, 2, none⟩ = some (.slice (lsP m).A3 lsF.no.length (lsP m).c3) ∧ V.cell? ⟨m + 1 + 1 + 1 + 1, 3, none⟩ = some (.slice (lsP m).A4 lsF.nc.length (lsP m).c4)) := fun V hb => ⟨(K3.out.below hb).k2.km.cp 0 _ rfl, (K3.out.below hb).k2.km.cp 1 _ rfl, (K3.out.below hb).k2.km.cp 2 _ rfl, (K3.out.below hb).k2.km.cp 3 _ rfl, (K3.out.below hb).k2.km.cp 4 _ rfl, (K3.out.below hb).k2.km.cp 5 _ rfl, (K3.out.below hb).k2.km.cc 0 _ rfl, (K3.out.below hb).k2.km.cc 1 _ rfl, (K3.out.below hb).k2.km.cc 2 _ rfl, (K3.out.below hb).k2.c4.c 0 _ rfl, (K3.out.below hb).k2.c4.c 1 _ rfl, (K3.out.below hb).k2.c4.c 2 _ rfl, (K3.out.below hb).k2.c4.c 3 _ rfl, (K3.out.below hb).c6.c 0 _ rfl, (K3.out.below hb).c6.c 1 _ rfl, (K3.out.below hb).c6.c 2 _ rfl, (K3.out.below hb).c6.c 3 _ rfl, (K3.out.below hb).c7.c 0 _ rfl, (K3.out.below hb).c7.c 1 _ rfl, (K3.out.below hb).c7.c 2 _ rfl, (K3.out.below hb).c7.c 3 _ rfl⟩
  have sc := SC.out W (Below.refl _ W)
  have W0 := Lib.hid (Below.refl W.heap.size W).drew
  go_region_held3 (fun V => V.cell? ⟨n + 1 + 1 + 1 + 1 + 1, 0, none⟩ = some (.slice (some ⟨n, 0, none⟩) 1 1) ∧ V.cell? ⟨n + 1 + 1 + 1 + 1 + 1, 1, none⟩ = some (.int .i64 2) ∧ V.cell? ⟨n + 1 + 1 + 1 + 1 + 1, 2, none⟩ = some (.slice (some ⟨n + 1, 0, none⟩) 1 1) ∧ V.cell? ⟨n + 1 + 1 + 1 + 1 + 1, 3, none⟩ = some (.slice (some ⟨n + 1 + 1, 0, none⟩) 1 1) ∧ V.cell? ⟨n + 1 + 1 + 1 + 1 + 1, 4, none⟩ = some (.slice (some ⟨n + 1 + 1 + 1, 0, none⟩) 1 1) ∧ V.cell? ⟨n + 1 + 1 + 1 + 1 + 1, 5, none⟩ = some (.slice (some ⟨n + 1 + 1 + 1 + 1, 0, none⟩) 1 1) ∧ V.cell? ⟨n + 1 + 1 + 1 + 1 + 1 + 1 + 1, 0, none⟩ = some (.slice none 0 0) ∧ V.cell? ⟨n + 1 + 1 + 1 + 1 + 1 + 1 + 1, 1, none⟩ = some (.slice none 0 0) ∧ V.cell? ⟨n + 1 + 1 + 1 + 1 + 1 + 1 + 1, 2, none⟩ = some (.slice (some ⟨n + 1 + 1 + 1 + 1 + 1 + 1, 0, none⟩) 2 2) ∧ V.cell? ⟨b4, 0, none⟩ = some (.slice p.A1 (auF false).al.length p.c1) ∧ V.cell? ⟨b4, 1, none⟩ = some (.int .i64 (auF false).n) ∧ V.cell? ⟨b4, 2, none⟩ = some (.slice p.A2 (auF false).mr.length p.c2) ∧ V.cell? ⟨b4, 3, none⟩ = some (.slice p.A3 (auF false).ed.length p.c3) ∧ V.cell? ⟨m, 0, none⟩ = some (.slice q.A1 (auF true).al.length q.c1) ∧ V.cell? ⟨m, 1, none⟩ = some (.int .i64 (auF true).n) ∧ V.cell? ⟨m, 2, none⟩ = some (.slice q.A2 (auF true).mr.length q.c2) ∧ V.cell? ⟨m, 3, none⟩ = some (.slice q.A3 (auF true).ed.length q.c3) ∧ V.cell? ⟨m + 1 + 1 + 1 + 1, 0, none⟩ = some (.slice (lsP m).A1 lsF.fa.length (lsP m).c1) ∧ V.cell? ⟨m + 1 + 1 + 1 + 1, 1, none⟩ = some (.slice (lsP m).A2 lsF.fc.length (lsP m).c2) ∧ V.cell? ⟨m + 1 + 1 + 1 + 1, 2, none⟩ = some (.slice (lsP m).A3 lsF.no.length (lsP m).c3) ∧ V.cell? ⟨m + 1 + 1 + 1 + 1, 3, none⟩ = some (.slice (lsP m).A4 lsF.nc.length (lsP m).c4)) (first | exact SC.out _ B6.out | exact SC.out _ B5.out | exact SC.out _ B4.out | exact SC.out _ B3.out | exact SC.out _ B2.out | exact SC.out _ B1.out | exact SC.out _ W0.out | exact SC.out _ (Below.refl _ W) | go_keep) (
    first | (go_at_call 30; ((with_reducible refine (H1.out _ W0.out).mono ?_); rintro e w2 ⟨rfl, hb2⟩; have B1 := Lib.hid ((W0.out).trans (hb2.mono (W0.out).size)); clear hb2))
          | (go_at_call 30; ((with_reducible refine (H2.out _ B1.out).mono ?_); rintro e w2 ⟨rfl, hb2⟩; have B2 := Lib.hid ((B1.out).trans (hb2.mono (B1.out).size)); clear hb2))
          | (go_at_call 11; ((with_reducible refine (H3.out _ B2.out).mono ?_); rintro e w2 ⟨rfl, hb2⟩; have B3 := Lib.hid ((B2.out).trans (hb2.mono (B2.out).size)); clear hb2))
          | (go_at_call 11; ((with_reducible refine (H4.out _ B3.out).mono ?_); rintro e w2 ⟨rfl, hb2⟩; have B4 := Lib.hid ((B3.out).trans (hb2.mono (B3.out).size)); clear hb2))
          | (go_at_call 14; ((with_reducible refine (H5.out _ B4.out).mono ?_); rintro e w2 ⟨rfl, hb2⟩; have B5 := Lib.hid ((B4.out).trans (hb2.mono (B4.out).size)); clear hb2))
          | (go_at_call 14; ((with_reducible refine (H6.out _ B5.out).mono ?_); rintro e w2 ⟨rfl, hb2⟩; have B6 := Lib.hid ((B5.out).trans (hb2.mono (B5.out).size)); clear hb2)))
  go_wp2
  go_ret
  exact ⟨rfl, by rw [HN.out]; exact (BW4.out.next B6.out).b⟩
end Go.Proofs.Ytkbmenpggiojeaa
