/-
  What the row leans on.
-/
import Derived.Test.YtjjifefanjnghaaBas01
import Derived.WalkKit
import Derived.ProofKit
import Derived.OpenShut
import Derived.ShutString
import Derived.ChangeOld
import Derived.Below
import Derived.Lib.SmallJoins
import Derived.Deep.MidRow
import Derived.Test.YtjjifefanjnghaaRows
import Derived.Test.YtjjifefanjnghaaBas04
import Derived.Test.YtjjifefanjnghaaBas03
import Derived.Test.YtjjifefanjnghaaBas08
import Derived.Test.YtjjifefanjnghaaBas05
import Derived.Test.YtjjifefanjnghaaBas09
import Derived.IntWalk
import Derived.Test.YtjjifefanjnghaaBas02
set_option linter.unusedSimpArgs false
set_option linter.unusedVariables false
namespace Go.Proofs.Ytjjifefanjnghaa
open Go.RowKit
set_option maxRecDepth 100000
section
abbrev SepW (w : World) (es : List Ent) (V : World) : Prop := Hid (Sep w.heap.size w es V)
open Go.ChangeShapes Go.WideShapes Go.ChangeAt Go.RowKit

section
variable {H : Type} {enc : TypeId × Value → H} {P : Program} {w : World} {base : Nat} {spare : Nat → Bool} {held : Bool}

def consec (P : Program) : List Field → Nat → Nat → Bool
 | [],n,m => n == m
 | f :: r,n,m => f.offset == n && consec P r (n + P.cellsOf f.type) m
end
end
section
open Go.ChangeShapes Go.WideShapes Go.ChangeAt Go.RowKit

theorem own_ : ownKnob Try.prog.godebug = none := by kernel_rfl
theorem laidOut_ : laidOutB Try.prog = true := by kernel_rfl
section
variable {H : Type} {enc : TypeId × Value → H} {w : World} {base : Nat} {spare : Nat → Bool} {held : Bool}
structure AuIn (w : World) (a : Au) (p : AuP) : Prop where
 h1 : IntsAt w p.A1 a.al
 h2 : IntsAt w p.A2 a.mr
 h3 : EdsAt w p.A3 a.ed
 l1 : a.al.length ≤ p.c1
 l2 : a.mr.length ≤ p.c2
 l3 : a.ed.length ≤ p.c3
 m1 : p.c1 ≤ maxLen
 m2 : p.c2 ≤ maxLen
 m3 : p.c3 ≤ maxLen
end
end
section

def stpP (a : Au) (pm : Ed → Bool) (v e : Int) : Int := ((a.ed.find? fun x => decide (x.src = v) && decide (x.ev = e)).bind fun x => if pm x = true then some x.dst else none).getD (-1)
def ev32 : List Int := (List.range 32).map fun k : Nat => (k : Int)
theorem ev32_len : ev32.length = 32 := by simp [ev32]
theorem ev32_get {k : Nat} (h : k < 32) : ev32[k]? = some (k : Int) := by simp [ev32,h]
theorem ev32_incr : incr ev32 := fun i j x y hij hx hy => by
 have h1 := (List.getElem?_eq_some_iff.1 hx).1;have h2 := (List.getElem?_eq_some_iff.1 hy).1;rw [ev32_len] at h1 h2;rw [ev32_get h1] at hx; rw [ev32_get h2] at hy;cases hx; cases hy; omega
theorem stpP_edge {a : Au} (hr : a.Right) (pm : Ed → Bool) {x : Ed} (hx : x ∈ a.ed) : stpP a pm x.src x.ev = if pm x = true then x.dst else -1 := by
 unfold stpP
 cases hf : a.ed.find? fun y => decide (y.src = x.src) && decide (y.ev = x.ev) with
 | none =>
   have := List.find?_eq_none.1 hf x hx;simp at this
 | some y =>
   have h1 := List.mem_of_find?_eq_some hf;have h2 := List.find?_some hf;simp only [Bool.and_eq_true,decide_eq_true_eq] at h2;obtain rfl := hr.uniq h1 hx h2.1 h2.2;by_cases g : pm y = true <;> simp [g]
theorem stpP_none {a : Au} (pm : Ed → Bool) {v e : Int} (h : ∀ x,x ∈ a.ed → x.src = v → x.ev ≠ e) : stpP a pm v e = -1 := by
 unfold stpP
 rw [List.find?_eq_none.2 (fun x hx => by
  simp only [Bool.and_eq_true,decide_eq_true_eq,not_and];exact h x hx)]
 rfl
theorem stpP_dead {a : Au} (hr : a.Right) (pm : Ed → Bool) (s e : Int) (h : s = -1) : stpP a pm s e = -1 := stpP_none pm fun x hx hs => by
 have := edge_next hr hx;omega
structure Ps where
 s : Int
 b : Int
 e : Int
def Ps.cells (v : Ps) : List Value := [.int .i64 v.s,.int .i64 v.b,.int .i64 v.e]
theorem psOne (x : Ps) : ∀ u ∈ Ps.cells x,u.oneCell' = true := fun u hu => by simp [Ps.cells] at hu; rcases hu with rfl | rfl | rfl <;> rfl
def PsE : Reading Ps := fun _ x vs => vs = Ps.cells x
theorem PsE.get {w : World} {A : Option Addr} {l : List Ps} (h : SlAt PsE 3 w A l) {k : Nat} {v : Ps} (hx : l[k]? = some v) : ∃ b off,A = some ⟨b,off,none⟩ ∧ b < w.heap.size ∧
 w.cell? ⟨b,off + k * 3,none⟩ = some (.int .i64 v.s) ∧ w.cell? ⟨b,off + k * 3 + 1,none⟩ = some (.int .i64 v.b) ∧ w.cell? ⟨b,off + k * 3 + 2,none⟩ = some (.int .i64 v.e) := by
 obtain ⟨b,off,y,vs,hA,hlt,hy,_,hE,hc⟩ := SlAt.at h (List.getElem?_eq_some_iff.1 hx).1;obtain rfl : vs = Ps.cells y := hE;rw [hx] at hy; cases hy;exact ⟨b,off,hA,hlt,by simpa using hc 0 _ rfl,hc 1 _ rfl,hc 2 _ rfl⟩
structure PInv (a : Au) (pm : Ed → Bool) (s0 : Int) (wt : Int → Bool) (i k t : Nat) (fs : List Ps) (ws : List (List Int)) : Prop where
 bfs : Bfs (stpP a pm) s0 (fun v => v = -1) ev32 i k (fs.map Ps.s) ws
 lk : Link (fs.map fun v => (v.b,v.e)) ws
 nd : (fs.map Ps.s).Nodup
 rg : ∀ v,v ∈ fs → 0 ≤ v.s ∧ v.s < a.n
 no : ∀ (j : Nat) v,j < t → (fs.map Ps.s)[j]? = some v → wt v = false
section
variable {a : Au} {pm : Ed → Bool} {s0 : Int} {wt : Int → Bool} {i k t : Nat} {fs : List Ps} {ws : List (List Int)}
theorem PInv.start (pm : Ed → Bool) (wt : Int → Bool) (h0 : 0 ≤ s0) (h1 : s0 < a.n) : PInv a pm s0 wt 0 0 0 [⟨s0,-1,-1⟩] [[]] :=
 ⟨Bfs.start,⟨rfl,fun j q hq => by
  have := (List.getElem?_eq_some_iff.1 hq).1;obtain rfl : j = 0 := by simp at this; omega
  simp at hq; subst hq
  exact ⟨fun _ => rfl,fun h => absurd h (by omega)⟩⟩,by simp,fun v hv => by
  simp at hv; subst hv; exact ⟨h0,h1⟩,fun j v h => absurd h (by omega)⟩
theorem PInv.len (h : PInv a pm s0 wt i k t fs ws) : fs.length ≤ a.n.toNat := by
 have := nodup_lenN a.n.toNat ((fs.map Ps.s).map Int.toNat) (by
  rw [List.nodup_iff_pairwise_ne,List.pairwise_map];refine List.Pairwise.imp_of_mem ?_ (List.nodup_iff_pairwise_ne.1 h.nd);intro p q hp hq hne hc;obtain ⟨v,hv,rfl⟩ := List.mem_map.1 hp;obtain ⟨u,hu,rfl⟩ := List.mem_map.1 hq;have := h.rg v hv;have := h.rg u hu;omega) (fun x hx => by
  obtain ⟨q,hq,rfl⟩ := List.mem_map.1 hx;obtain ⟨v,hv,rfl⟩ := List.mem_map.1 hq;have := h.rg v hv;omega)
 simpa using this
theorem PInv.skip (h : PInv a pm s0 wt i k t fs ws) {v : Ps} (hv : fs[i]? = some v) (hk : k < 32) (hs : stpP a pm v.s k = -1 ∨ stpP a pm v.s k ∈ fs.map Ps.s) : PInv a pm s0 wt i (k + 1) t fs ws :=
 ⟨h.bfs.skip ev32_incr (v := v.s) (by rw [List.getElem?_map,hv]; rfl) (ev32_get hk) (by
  rcases hs with g | g
  · exact .inl g
  · obtain ⟨j,hj,e⟩ := List.mem_iff_getElem.1 g;exact .inr ⟨j,by rw [List.getElem?_eq_getElem hj,e]⟩),h.lk,h.nd,h.rg,h.no⟩
theorem PInv.skips (h : PInv a pm s0 wt i k t fs ws) {v : Ps} (hv : fs[i]? = some v) : ∀ k' : Nat,k ≤ k' → k' ≤ 32 → (∀ e : Nat,k ≤ e → e < k' → stpP a pm v.s e = -1) → PInv a pm s0 wt i k' t fs ws := by
 intro k';induction k' with
 | zero =>
   intro h1 _ _;have e : k = 0 := by omega
   rw [e] at h; exact h
 | succ k' ih =>
   intro h1 h2 h3;by_cases g : k ≤ k'
   · exact (ih g (by omega) fun e g1 g2 => h3 e g1 (by omega)).skip hv (by omega) (.inl (h3 k' g (by omega)))
   · obtain rfl : k = k' + 1 := by omega
     exact h
theorem PInv.push (h : PInv a pm s0 wt i k t fs ws) (ht : t ≤ fs.length) {v : Ps} (hv : fs[i]? = some v) (hk : k < 32) {d : Int} (hs : stpP a pm v.s k = d) (hd : 0 ≤ d ∧ d < a.n) (hm : ¬ d ∈ fs.map Ps.s) :
 ∃ ws',PInv a pm s0 wt i (k + 1) t (fs ++ [⟨d,i,k⟩]) ws' := by
 have hv' : (fs.map Ps.s)[i]? = some v.s := by rw [List.getElem?_map,hv]; rfl
 obtain ⟨wi,hwi⟩ := h.bfs.word hv';refine ⟨ws ++ [wi ++ [(k : Int)]],?_,?_,?_,fun u hu => ?_,fun j u hj hu => ?_⟩
 · rw [List.map_append];have := h.bfs.push ev32_incr hv' (ev32_get hk) hwi;rw [hs] at this;exact this
 · rw [List.map_append];exact h.lk.push (k : Int) hwi
 · rw [List.map_append];exact List.nodup_append.2 ⟨h.nd,by simp,fun p hp q hq => by
    simp at hq
    rintro rfl;exact hm (by rw [← hq]; exact hp)⟩
 · rcases List.mem_append.1 hu with g | g
   · exact h.rg u g
   · simp at g; subst g; exact hd
 · rw [List.map_append,List.getElem?_append_left (by simp; omega)] at hu;exact h.no j u hj hu
theorem PInv.next (h : PInv a pm s0 wt i 32 t fs ws) : PInv a pm s0 wt (i + 1) 0 t fs ws := ⟨by have h1 := h.bfs; rw [← ev32_len] at h1; exact h1.next,h.lk,h.nd,h.rg,h.no⟩
theorem PInv.test (h : PInv a pm s0 wt i k i fs ws) {v : Ps} (hv : fs[i]? = some v) (hp : wt v.s = false) : PInv a pm s0 wt i k (i + 1) fs ws :=
 ⟨h.bfs,h.lk,h.nd,h.rg,fun j u hj hu => by
  by_cases e : j = i
  · subst e;rw [List.getElem?_map,hv] at hu;cases hu; exact hp
  · exact h.no j u (by omega) hu⟩
def PEd (a : Au) (pm : Ed → Bool) (s0 : Int) (wt : Int → Bool) (i t : Nat) (s : Nat) (fs : List Ps) (ws : List (List Int)) : Prop :=
 ∃ k,k ≤ 32 ∧ PInv a pm s0 wt i k (i + 1) fs ws ∧ (∀ (q : Nat) x,t ≤ q → (outOf a.ed s)[q]? = some x → (k : Int) ≤ x.ev) ∧ ∀ (q : Nat) x,q < t → (outOf a.ed s)[q]? = some x → x.ev < k
theorem PEd.start (hr : a.Right) {s : Nat} (h : PInv a pm s0 wt i 0 (i + 1) fs ws) : PEd a pm s0 wt i 0 s fs ws :=
 ⟨0,by omega,h,fun q x _ hx => (hr.ev (mem_outOf.1 (List.mem_of_getElem? hx)).1).1,fun q x hq => absurd hq (by omega)⟩
theorem PEd.at (hr : a.Right) {s : Nat} (h : PEd a pm s0 wt i t s fs ws) {v : Ps} (hv : fs[i]? = some v) (hs : v.s = s) {x : Ed} (hx : (outOf a.ed s)[t]? = some x) : PInv a pm s0 wt i x.ev.toNat (i + 1) fs ws ∧ x.ev.toNat < 32 ∧ (x.ev.toNat : Int) = x.ev := by
 obtain ⟨k,hk,h1,h2,h3⟩ := h;have he := hr.ev (mem_outOf.1 (List.mem_of_getElem? hx)).1;have hkx := h2 t x (Nat.le_refl _) hx;have hR := outOf_rises hr s;refine ⟨h1.skips hv _ (by omega) (by omega) fun e g1 g2 => ?_,by omega,by omega⟩;refine stpP_none pm fun y hy hys hye => ?_;have hm : y ∈ outOf a.ed s := mem_outOf.2 ⟨hy,hys.trans hs⟩;obtain ⟨q,hq,rfl⟩ := List.mem_iff_getElem.1 hm;have hqg : (outOf a.ed s)[q]? = some (outOf a.ed s)[q] := List.getElem?_eq_getElem hq;rcases Nat.lt_trichotomy q t with g | g | g
 · have := h3 q _ g hqg; omega
 · subst g; rw [hx] at hqg; have := Option.some.inj hqg; rw [← this] at hye; omega
 · have := hR t q _ _ g hx hqg; omega
theorem PEd.step (hr : a.Right) {s : Nat} {x : Ed} (hx : (outOf a.ed s)[t]? = some x) (h : PInv a pm s0 wt i (x.ev.toNat + 1) (i + 1) fs ws) : PEd a pm s0 wt i (t + 1) s fs ws := by
 have he := hr.ev (mem_outOf.1 (List.mem_of_getElem? hx)).1;have hR := outOf_rises hr s;refine ⟨x.ev.toNat + 1,by omega,h,fun q y hq hy => ?_,fun q y hq hy => ?_⟩
 · have := hR t q _ _ (by omega) hx hy; omega
 · by_cases e : q = t
   · subst e; rw [hx] at hy; cases hy; omega
   · have := hR q t _ _ (by omega) hy hx; omega
theorem PEd.old (hr : a.Right) {s : Nat} (h : PEd a pm s0 wt i t s fs ws) {v : Ps} (hv : fs[i]? = some v) (hs : v.s = s) {x : Ed} (hx : (outOf a.ed s)[t]? = some x) (hno : x.dst ∈ fs.map Ps.s ∨ pm x = false) : PEd a pm s0 wt i (t + 1) s fs ws := by
 obtain ⟨h1,h2,h3⟩ := h.at hr hv hs hx;obtain ⟨m1,m2⟩ := mem_outOf.1 (List.mem_of_getElem? hx);have he := stpP_edge hr pm m1;refine PEd.step hr hx (h1.skip hv h2 ?_);rw [h3,hs,← m2,he];rcases hno with g | g
 · by_cases e : pm x = true
   · rw [if_pos e]; exact .inr g
   · rw [if_neg e]; exact .inl rfl
 · rw [if_neg (by simp [g])]; exact .inl rfl
theorem PEd.new (hr : a.Right) {s : Nat} (h : PEd a pm s0 wt i t s fs ws) {v : Ps} (hv : fs[i]? = some v) (hs : v.s = s) {x : Ed} (hx : (outOf a.ed s)[t]? = some x) (hm : ¬ x.dst ∈ fs.map Ps.s) (hp : pm x = true) : ∃ ws',PEd a pm s0 wt i (t + 1) s (fs ++ [⟨x.dst,i,x.ev⟩]) ws' := by
 obtain ⟨h1,h2,h3⟩ := h.at hr hv hs hx;obtain ⟨m1,m2⟩ := mem_outOf.1 (List.mem_of_getElem? hx);have he := stpP_edge hr pm m1;rw [if_pos hp] at he;have hd := edge_next hr m1;obtain ⟨ws',h4⟩ := h1.push (by have := (List.getElem?_eq_some_iff.1 hv).1; omega) hv h2 (d := x.dst) (by rw [h3,hs,← m2,he]) ⟨hd.2.2.2.1,hd.2.2.2.2⟩ hm;rw [h3] at h4;exact ⟨ws',PEd.step hr hx h4⟩
theorem PEd.fin (hr : a.Right) {s : Nat} (h : PEd a pm s0 wt i (outOf a.ed s).length s fs ws) {v : Ps} (hv : fs[i]? = some v) (hs : v.s = s) : PInv a pm s0 wt (i + 1) 0 (i + 1) fs ws := by
 obtain ⟨k,hk,h1,h2,h3⟩ := h;refine PInv.next (h1.skips hv 32 hk (Nat.le_refl _) fun e g1 g2 => ?_);refine stpP_none pm fun y hy hys hye => ?_;have hm : y ∈ outOf a.ed s := mem_outOf.2 ⟨hy,hys.trans hs⟩;obtain ⟨q,hq,rfl⟩ := List.mem_iff_getElem.1 hm;have := h3 q _ hq (List.getElem?_eq_getElem hq);omega
end
def PthW (a : Au) (pm : Ed → Bool) (s0 : Int) (wt : Int → Bool) (f : Bool) (l : List Int) : Prop :=
 f = true ∧ LeastW (LeadsTo (stpP a pm) s0 ev32 (fun v => 0 ≤ v ∧ wt v = true)) l ∨ f = false ∧ l = [] ∧ ∀ u,¬ LeadsTo (stpP a pm) s0 ev32 (fun v => 0 ≤ v ∧ wt v = true) u
theorem PInv.least {a : Au} {pm : Ed → Bool} {s0 : Int} {wt : Int → Bool} {i k : Nat} {fs : List Ps} {ws : List (List Int)} (hr : a.Right) (h : PInv a pm s0 wt i k i fs ws) {v : Ps} {w : List Int} (hv : fs[i]? = some v) (hw : ws[i]? = some w) (hp : wt v.s = true) : LeastW (LeadsTo (stpP a pm) s0 ev32 (fun v => 0 ≤ v ∧ wt v = true)) w :=
 h.bfs.least (fun s e hs => stpP_dead hr pm s e hs) (fun s hs hq => by omega) (fun j u hj hu hq => by rw [h.no j u hj hu] at hq; cases hq.2) (by rw [List.getElem?_map,hv]; rfl) hw ⟨(h.rg v (List.mem_of_getElem? hv)).1,hp⟩
theorem PInv.none_ {a : Au} {pm : Ed → Bool} {s0 : Int} {wt : Int → Bool} {k : Nat} {fs : List Ps} {ws : List (List Int)} (hr : a.Right) (h : PInv a pm s0 wt fs.length k fs.length fs ws) (u : List Int) : ¬ LeadsTo (stpP a pm) s0 ev32 (fun v => 0 ≤ v ∧ wt v = true) u :=
 h.bfs.none_ (fun s e hs => stpP_dead hr pm s e hs) (fun s hs hq => by omega) (by simp) (fun j u hu hq => by
  have hj := (List.getElem?_eq_some_iff.1 hu).1;rw [h.no j u (by simpa using hj) hu] at hq; cases hq.2) u
end
def mkI (n : Nat) (f : Nat → Int) : List Value := (List.range n).map fun s => .int .i64 (f s)
theorem mkI_get {n : Nat} {f : Nat → Int} {s : Nat} (h : s < n) : (mkI n f)[s]? = some (.int .i64 (f s)) := by simp [mkI,h]
theorem mkI_rep (n : Nat) (x : Int) : List.replicate n (Value.int .i64 x) = mkI n fun _ => x := by
 apply List.ext_getElem?
 intro i;by_cases h : i < n
 · rw [mkI_get h,List.getElem?_replicate,if_pos h]
 · simp [mkI,h]
theorem mkI_set {n : Nat} {f : Nat → Int} (s : Nat) (x : Int) : (mkI n f).set s (.int .i64 x) = mkI n fun t => if t = s then x else f t := by
 apply List.ext_getElem?
 intro i;rw [List.getElem?_set];by_cases h : i < n
 · rw [mkI_get (f := fun t => if t = s then x else f t) h];by_cases e : s = i
   · subst e;rw [if_pos rfl,if_pos (by simpa [mkI] using h),if_pos rfl]
   · rw [if_neg e,mkI_get h,if_neg (fun g => e g.symm)]
 · have h1 : ∀ q : Nat → Int,(mkI n q)[i]? = none := fun q => by simp [mkI]; omega
   rw [h1,h1];split
   · rw [if_neg (by simp [mkI]; omega)]
   · rfl
theorem mkI_congr {n : Nat} {f g : Nat → Int} (h : ∀ s,s < n → f s = g s) : mkI n f = mkI n g := by
 unfold mkI
 refine List.map_congr_left fun s hs => ?_;rw [h s (by simpa using hs)]

def rowsE (n : Nat) (ls : Nat → List Int) (vs : Nat → Value) : List Ent := (List.range n).map fun s => eInts (ls s) (vs s)
def upd {α : Type} (f : Nat → α) (s : Nat) (x : α) : Nat → α := fun t => if t = s then x else f t
theorem upd_same {α : Type} (f : Nat → α) (s : Nat) (x : α) : upd f s x s = x := if_pos rfl
theorem upd_other {α : Type} {f : Nat → α} {s t : Nat} {x : α} (h : t ≠ s) : upd f s x t = f t := if_neg h
theorem rowsE_get {A : List Ent} {n : Nat} {ls : Nat → List Int} {vs : Nat → Value} {s : Nat} (h : s < n) : (A ++ rowsE n ls vs)[A.length + s]? = some (eInts (ls s) (vs s)) := by
 rw [List.getElem?_append_right (by omega),Nat.add_sub_cancel_left];simp [rowsE,h]
theorem rowsE_set {A : List Ent} {n : Nat} {ls : Nat → List Int} {vs : Nat → Value} {s : Nat} (h : s < n) (l : List Int) (v : Value) :
 (A ++ rowsE n ls vs).set (A.length + s) (eInts l v) = A ++ rowsE n (upd ls s l) (upd vs s v) := by
 rw [List.set_append_right _ _ (by omega),Nat.add_sub_cancel_left];congr 1
 apply List.ext_getElem?
 intro i;rw [List.getElem?_set];unfold rowsE
 by_cases e : s = i
 · subst e;rw [if_pos rfl,if_pos (by simpa using h)];simp [h,upd]
 · rw [if_neg e];have e' : i ≠ s := fun g => e g.symm;by_cases hi : i < n
   · simp [hi,upd,e']
   · simp [hi]
theorem rowsV_set {n : Nat} {vs : Nat → Value} {s : Nat} (h : s < n) (v : Value) : ((List.range n).map vs).set s v = (List.range n).map (upd vs s v) := by
 apply List.ext_getElem?
 intro i;rw [List.getElem?_set];by_cases e : s = i
 · subst e;rw [if_pos rfl,if_pos (by simpa using h)];simp [h,upd]
 · rw [if_neg e];have e' : i ≠ s := fun g => e g.symm;by_cases hi : i < n
   · simp [hi,upd,e']
   · simp [hi]
theorem rowsV_get {n : Nat} {vs : Nat → Value} {s : Nat} (h : s < n) : ((List.range n).map vs)[s]? = some (vs s) := by simp [h]
theorem rowsV_rep (n : Nat) (v : Value) : List.replicate n v = (List.range n).map fun _ => v := by
 apply List.ext_getElem?
 intro i;by_cases h : i < n
 · rw [rowsV_get h,List.getElem?_replicate,if_pos h]
 · simp [h]
theorem Sep.rows {n : Nat} {w0 w : World} {es : List Ent} (S : Sep n w0 es w) (k : Nat) : Sep n w0 (es ++ rowsE k (fun _ => []) (fun _ => .slice none 0 0)) w := by
 have hf : ∀ e,e ∈ rowsE k (fun _ => []) (fun _ => .slice none 0 0) → e = eInts [] (.slice none 0 0) := fun e he => by
  obtain ⟨s,_,rfl⟩ := List.mem_map.1 he; rfl
 refine ⟨S.fro,fun e he => ?_,fun e he g hg => ?_,List.pairwise_append.2 ⟨S.ap,?_,fun a ha b hb g h1 h2 => ?_⟩⟩
 · rcases List.mem_append.1 he with h | h
   · exact S.ok e h
   · rw [hf e h]; exact Own.nil w
 · rcases List.mem_append.1 he with h | h
   · exact S.ge e h g hg
   · rw [hf e h] at hg; simp [eOwn,Value.ownBlock] at hg
 · refine List.Pairwise.imp_of_mem (R := fun _ _ => True) (fun {a b} ha hb _ g h1 => ?_) (List.pairwise_of_forall (by simp));rw [hf a ha] at h1; simp [eOwn,Value.ownBlock] at h1
 · rw [hf b hb] at h2; simp [eOwn,Value.ownBlock] at h2
theorem Sep.left {n : Nat} {w0 w : World} {es es' : List Ent} (S : Sep n w0 (es ++ es') w) : Sep n w0 es w := S.app.1
def grCells (a : Au) (p : AuP) (g : Nat) : List Value := [.slice p.A1 a.al.length p.c1,.int .i64 a.n,.slice p.A2 a.mr.length p.c2,.slice p.A3 a.ed.length p.c3,.slice (some ⟨g,0,none⟩) (a.n.toNat + 1) (a.n.toNat + 1)]
def GivesGr (a : Au) (p : AuP) (w : World) (e : Ending) (w' : World) : Prop := ∃ g,e = .returned (.agg (grCells a p g).toArray) ∧ (SepW w [eBlk g 3 (mkI (a.n.toNat + 1) fun j => (fstV a.ed j : Int))] w')
set_option maxHeartbeats 4000000 in
theorem newGraph_c (a : Au) (p : AuP) (w : World) (hr : a.Right) (hA : Au.At w a p) :
 Calls Try.prog 54 #[a.val p] w (GivesGr a p w) := by
 have h0 := hr.n0;have hn := hr.n1;have HS : Hid (∀ (i : Nat) x,a.ed[i]? = some x → 0 ≤ x.src ∧ x.src < a.n) := fun i x hx => ⟨(hr.edge hx).1,(hr.edge hx).2.1⟩;have HE := Lib.hid hA.ed;have hle := hA.led;obtain ⟨al,n,mr,ed⟩ := a;obtain ⟨A1,c1,A2,c2,A3,c3⟩ := p;obtain ⟨N,rfl⟩ := Int.eq_ofNat_of_zero_le h0;dsimp only [Au.val] at HS hn HE hle ⊢;have HS0 : Hid (∀ x,x ∈ ed → 0 ≤ x.src) := fun x hx => by
  obtain ⟨i,hi,hix⟩ := List.mem_iff_getElem.1 hx;exact (HS.out i x (by rw [List.getElem?_eq_getElem hi,hix])).1
 skip;have hmk := make_run (P := Try.prog) 22 3 (.int .i64 0) 8 Try.underlying22 intInfo rfl (N + 1) (by omega) (by omega);have hwr : IntKind.i64.wrap ((N : Int) + 1) = (N : Int) + 1 := IntWalk.i64_in _ (by omega);push_cast at hmk
 clear hr hA h0;go_enter Try.func54,Try.ntmps54
 go_upto_region 1 with fail
 refine wp_world (fun W => Sep w.heap.size w [eBlk (w.heap.size + 1) 85 [.slice none 0 0,.int .i64 0,.slice none 0 0,.slice none 0 0,.slice none 0 0],eBlk w.heap.size 25 [.slice A1 al.length c1,.int .i64 ↑N,.slice A2 mr.length c2,.slice A3 ed.length c3]] W) ?_ fun W S => ?_
 · exact ((Sep.here w).alloc' _ [_,_,_,_] rfl rfl).alloc' _ [_,_,_,_,_] rfl (by simp)
 have S0 := Lib.hid S;clear S;go_cut [3] (fun v wx => ∃ nb gb,v = .pointer (some ⟨nb,0,none⟩) ∧ (SepW w [eBlk nb 85 [.slice A1 al.length c1,.int .i64 ↑N,.slice A2 mr.length c2,.slice A3 ed.length c3,.slice (some ⟨gb,0,none⟩) (N + 1) (N + 1)],eBlk gb 3 (mkI (N + 1) fun _ => 0),eBlk (w.heap.size + 1) 85 [.slice none 0 0,.int .i64 0,.slice none 0 0,.slice none 0 0,.slice none 0 0],eBlk w.heap.size 25 [.slice A1 al.length c1,.int .i64 ↑N,.slice A2 mr.length c2,.slice A3 ed.length c3]] wx))
 case first =>
  have S1 := Lib.hid S0.out.drew;refine wp_region_held_drew (S := (fun V => Sep w.heap.size w [eBlk w.heap.size 25 [.slice A1 al.length c1,.int .i64 ↑N,.slice A2 mr.length c2,.slice A3 ed.length c3]] V)) (by kernel_rfl) ?_ (fun hH => ?_)
  · exact S1.out.pick [1] (by decide)
  generalize hwz : W.drew = w1 at *;clear hwz;refine tkH 0 rfl (v := ?_) (by kernel_rfl) ?_ hH ?_;rotate_left
  · intro V hs_;have b0 := ckC hs_ 0 rfl 0 rfl;have b1 := ckC hs_ 0 rfl 1 rfl;have b2 := ckC hs_ 0 rfl 2 rfl;have b3 := ckC hs_ 0 rfl 3 rfl;clear hs_;first | (go_simp; done) | (go_simp; with_reducible rfl)
  (try simp only [sx]);refine tkP 1 rfl (v := ?_) hH ?_;(try simp only [sx]);refine tkH 2 rfl (v := ?_) (by kernel_rfl) ?_ hH ?_;rotate_left
  · intro V hs_;have b0 := ckC hs_ 0 rfl 0 rfl;have b1 := ckC hs_ 0 rfl 1 rfl;have b2 := ckC hs_ 0 rfl 2 rfl;have b3 := ckC hs_ 0 rfl 3 rfl;clear hs_;first | (go_simp; done) | (go_simp; with_reducible rfl)
  (try simp only [sx]);refine tkP 3 rfl (v := ?_) hH ?_;(try simp only [sx]);refine wpAnyH_ready (rs := [4,6]) (by kernel_rfl) (by simp) ?_;refine AllReadyH.cons rfl (fun K hK => ?_) (AllReadyH.cons rfl (fun K hK => ?_) AllReadyH.nil)
  · skip;go_simp;obtain ⟨gb,hgb⟩ : ∃ n,n = w1.heap.size := ⟨_,rfl⟩;obtain ⟨w2,hw2⟩ : ∃ v,v = w1.alloc (.cells (List.replicate (N + 1) (Value.int .i64 0)).toArray 3) := ⟨_,rfl⟩;have hw2' := hw2;simp only [List.toArray_replicate] at hw2';first | rw [← hw2,← hgb] | rw [← hw2',← hgb]
    have S2 : (SepW w [eBlk gb 3 (mkI (N + 1) fun _ => 0),eBlk (w.heap.size + 1) 85 [.slice none 0 0,.int .i64 0,.slice none 0 0,.slice none 0 0,.slice none 0 0],eBlk w.heap.size 25 [.slice A1 al.length c1,.int .i64 ↑N,.slice A2 mr.length c2,.slice A3 ed.length c3]] w2) := by rw [hw2,hgb,← mkI_rep]; exact S1.out.alloc _ _
    clear hw2 hw2' hgb;refine hK.out _ _ (S2.out.pick [2] (by decide)) fun hH => ?_;clear hK K;(try simp only [sx]);refine tkP 5 rfl (v := ?_) hH ?_;(try simp only [sx]);refine rdH 6 rfl fun K hK => ?_;go_simp;obtain ⟨nnb,hnnb⟩ : ∃ n,n = w2.heap.size := ⟨_,rfl⟩;obtain ⟨w3,hw3⟩ : ∃ v,v = w2.alloc (.cells #[.slice none 0 0,.int .i64 0,.slice none 0 0,.slice none 0 0,.slice none 0 0] 85) := ⟨_,rfl⟩;rw [← hw3,← hnnb];have S3 := ckA S2.out hw3 hnnb;skip;clear hw3 hnnb;refine hK.out _ _ (S3.out.pick [3] (by decide)) fun hH => ?_;clear hK K;(try simp only [sx]);refine rdH 7 rfl fun K hK => ?_;have sc0 := ckC S3.out 0 rfl 0 rfl;have sf0 := BlkAt.free (S3.out.get 0 rfl) 0;have sc1 := ckC S3.out 0 rfl 1 rfl;have sf1 := BlkAt.free (S3.out.get 0 rfl) 1;have sc2 := ckC S3.out 0 rfl 2 rfl;have sf2 := BlkAt.free (S3.out.get 0 rfl) 2;have sc3 := ckC S3.out 0 rfl 3 rfl;have sf3 := BlkAt.free (S3.out.get 0 rfl) 3;have sc4 := ckC S3.out 0 rfl 4 rfl;have sf4 := BlkAt.free (S3.out.get 0 rfl) 4;go_simp;obtain ⟨w4,hw4⟩ : ∃ v,v = (((((w3.setCell ⟨nnb,0,none⟩ (.slice A1 al.length c1)).setCell ⟨nnb,1,none⟩ (.int .i64 ↑N)).setCell ⟨nnb,2,none⟩ (.slice A2 mr.length c2)).setCell ⟨nnb,3,none⟩ (.slice A3 ed.length c3)).setCell ⟨nnb,4,none⟩ (.slice (some ⟨gb,0,none⟩) (N + 1) (N + 1))) := ⟨_,rfl⟩;rw [← hw4]
    have S4 : (SepW w [eBlk nnb 85 [.slice A1 al.length c1,.int .i64 ↑N,.slice A2 mr.length c2,.slice A3 ed.length c3,.slice (some ⟨gb,0,none⟩) (N + 1) (N + 1)],eBlk gb 3 (mkI (N + 1) fun _ => 0),eBlk (w.heap.size + 1) 85 [.slice none 0 0,.int .i64 0,.slice none 0 0,.slice none 0 0,.slice none 0 0],eBlk w.heap.size 25 [.slice A1 al.length c1,.int .i64 ↑N,.slice A2 mr.length c2,.slice A3 ed.length c3]] w4) := by rw [hw4]; exact (((((S3.out.set 0 rfl 0 (.slice A1 al.length c1)).set 0 rfl 1 (.int .i64 ↑N)).set 0 rfl 2 (.slice A2 mr.length c2)).set 0 rfl 3 (.slice A3 ed.length c3)).set 0 rfl 4 (.slice (some ⟨gb,0,none⟩) (N + 1) (N + 1)))
    clear hw4 sc0 sc1 sc2 sc3 sc4 sf0 sf1 sf2 sf3 sf4;refine hK.out _ _ (S4.out.pick [3] (by decide)) fun hH => ?_;clear hK K;(try simp only [sx]);refine wpAnyH_done (by kernel_rfl) ?_ _;go_wp2_with fail
    go_meet
    exact ⟨nnb,gb,rfl,S4.out.pick [0,1,2,3] (by decide)⟩
  · skip;go_simp;obtain ⟨nnb,hnnb⟩ : ∃ n,n = w1.heap.size := ⟨_,rfl⟩;obtain ⟨w5,hw5⟩ : ∃ v,v = w1.alloc (.cells #[.slice none 0 0,.int .i64 0,.slice none 0 0,.slice none 0 0,.slice none 0 0] 85) := ⟨_,rfl⟩;rw [← hw5,← hnnb];have S5 := ckA S1.out hw5 hnnb;skip;clear hw5 hnnb;refine hK.out _ _ (S5.out.pick [2] (by decide)) fun hH => ?_;clear hK K;(try simp only [sx]);refine rdH 4 rfl fun K hK => ?_;go_simp;obtain ⟨gb,hgb⟩ : ∃ n,n = w5.heap.size := ⟨_,rfl⟩;obtain ⟨w6,hw6⟩ : ∃ v,v = w5.alloc (.cells (List.replicate (N + 1) (Value.int .i64 0)).toArray 3) := ⟨_,rfl⟩;have hw6' := hw6;simp only [List.toArray_replicate] at hw6';first | rw [← hw6,← hgb] | rw [← hw6',← hgb]
    have S6 : (SepW w [eBlk gb 3 (mkI (N + 1) fun _ => 0),eBlk nnb 85 [.slice none 0 0,.int .i64 0,.slice none 0 0,.slice none 0 0,.slice none 0 0],eBlk (w.heap.size + 1) 85 [.slice none 0 0,.int .i64 0,.slice none 0 0,.slice none 0 0,.slice none 0 0],eBlk w.heap.size 25 [.slice A1 al.length c1,.int .i64 ↑N,.slice A2 mr.length c2,.slice A3 ed.length c3]] w6) := by rw [hw6,hgb,← mkI_rep]; exact S5.out.alloc _ _
    clear hw6 hw6' hgb;refine hK.out _ _ (S6.out.pick [3] (by decide)) fun hH => ?_;clear hK K;(try simp only [sx]);refine tkP 5 rfl (v := ?_) hH ?_;(try simp only [sx]);refine rdH 7 rfl fun K hK => ?_;have sc0 := ckC S6.out 1 rfl 0 rfl;have sf0 := BlkAt.free (S6.out.get 1 rfl) 0;have sc1 := ckC S6.out 1 rfl 1 rfl;have sf1 := BlkAt.free (S6.out.get 1 rfl) 1;have sc2 := ckC S6.out 1 rfl 2 rfl;have sf2 := BlkAt.free (S6.out.get 1 rfl) 2;have sc3 := ckC S6.out 1 rfl 3 rfl;have sf3 := BlkAt.free (S6.out.get 1 rfl) 3;have sc4 := ckC S6.out 1 rfl 4 rfl;have sf4 := BlkAt.free (S6.out.get 1 rfl) 4;go_simp;obtain ⟨w7,hw7⟩ : ∃ v,v = (((((w6.setCell ⟨nnb,0,none⟩ (.slice A1 al.length c1)).setCell ⟨nnb,1,none⟩ (.int .i64 ↑N)).setCell ⟨nnb,2,none⟩ (.slice A2 mr.length c2)).setCell ⟨nnb,3,none⟩ (.slice A3 ed.length c3)).setCell ⟨nnb,4,none⟩ (.slice (some ⟨gb,0,none⟩) (N + 1) (N + 1))) := ⟨_,rfl⟩;rw [← hw7]
    have S7 : (SepW w [eBlk gb 3 (mkI (N + 1) fun _ => 0),eBlk nnb 85 [.slice A1 al.length c1,.int .i64 ↑N,.slice A2 mr.length c2,.slice A3 ed.length c3,.slice (some ⟨gb,0,none⟩) (N + 1) (N + 1)],eBlk (w.heap.size + 1) 85 [.slice none 0 0,.int .i64 0,.slice none 0 0,.slice none 0 0,.slice none 0 0],eBlk w.heap.size 25 [.slice A1 al.length c1,.int .i64 ↑N,.slice A2 mr.length c2,.slice A3 ed.length c3]] w7) := by rw [hw7]; exact (((((S6.out.set 1 rfl 0 (.slice A1 al.length c1)).set 1 rfl 1 (.int .i64 ↑N)).set 1 rfl 2 (.slice A2 mr.length c2)).set 1 rfl 3 (.slice A3 ed.length c3)).set 1 rfl 4 (.slice (some ⟨gb,0,none⟩) (N + 1) (N + 1)))
    clear hw7 sc0 sc1 sc2 sc3 sc4 sf0 sf1 sf2 sf3 sf4;refine hK.out _ _ (S7.out.pick [3] (by decide)) fun hH => ?_;clear hK K;(try simp only [sx]);refine wpAnyH_done (by kernel_rfl) ?_ _;go_wp2_with fail
    go_meet
    exact ⟨nnb,gb,rfl,S7.out.pick [1,0,2,3] (by decide)⟩
 case rest =>
  clear S0 hmk hwr;obtain ⟨nb,gb,rfl,S⟩ := hcut;have b3 := ckC S.out 3 rfl 3 rfl;go_wp2_with fail
  go_loopw [16] (fun i wr => ∃ k : Nat,i = .int .i64 k ∧ k ≤ ed.length ∧ (SepW w [eBlk nb 85 [.slice A1 al.length c1,.int .i64 ↑N,.slice A2 mr.length c2,.slice A3 ed.length c3,.slice (some ⟨gb,0,none⟩) (N + 1) (N + 1)],eBlk gb 3 (mkI (N + 1) fun j => (cntS (ed.take k) j : Int)),eBlk (w.heap.size + 1) 85 [.slice none 0 0,.int .i64 0,.slice none 0 0,.slice none 0 0,.slice none 0 0],eBlk w.heap.size 25 [.slice A1 al.length c1,.int .i64 ↑N,.slice A2 mr.length c2,.slice A3 ed.length c3]] wr)) (fun i _ => ed.length - (intOf i).toNat)
  case atStart => exact ⟨0,rfl,Nat.zero_le _,S.out⟩
  case round =>
   clear S b3;obtain ⟨k,rfl,hk,S⟩ := hrel;by_cases hlt : k < ed.length
   · obtain ⟨b,off,x,hAe,hb,hx,y0,y1,y2⟩ := EdsAt.at (HE.out.below EdE.stays S.out.below) hlt;subst hAe;obtain ⟨s,hs⟩ := Int.eq_ofNat_of_zero_le (HS.out k x hx).1;have hsN : s < N := by have := (HS.out k x hx).2; omega
     obtain ⟨ye,hye⟩ : ∃ z,z = x.ev := ⟨_,rfl⟩;obtain ⟨yd,hyd⟩ : ∃ z,z = x.dst := ⟨_,rfl⟩;have HX : Hid (mkI (N + 1) (fun t => if t = s + 1 then (cntS (ed.take k) (s + 1) : Int) + 1 else (cntS (ed.take k) t : Int)) = mkI (N + 1) fun t => (cntS (ed.take (k + 1)) t : Int)) := mkI_congr fun t _ => by
      rw [List.take_add_one,hx,Option.toList_some,cntS_snoc,hs];by_cases e : t = s + 1
      · subst e; rw [if_pos rfl,if_pos (by omega)]; omega
      · rw [if_neg e,if_neg (by omega)]
     rw [hs] at y0;rw [← hye] at y1;rw [← hyd] at y2;clear hx hs hye hyd hb;go_upto_region 5 with fail
     refine wp_world (fun W => ∃ bx,bx = wr.heap.size ∧ Sep w.heap.size w (eBlk bx 70 [.int .i64 ↑s,.int .i64 ye,.int .i64 yd] :: [eBlk nb 85 [.slice A1 al.length c1,.int .i64 ↑N,.slice A2 mr.length c2,.slice (some ⟨b,off,none⟩) ed.length c3,.slice (some ⟨gb,0,none⟩) (N + 1) (N + 1)],eBlk gb 3 (mkI (N + 1) fun j => (cntS (ed.take k) j : Int)),eBlk (w.heap.size + 1) 85 [.slice none 0 0,.int .i64 0,.slice none 0 0,.slice none 0 0,.slice none 0 0],eBlk w.heap.size 25 [.slice A1 al.length c1,.int .i64 ↑N,.slice A2 mr.length c2,.slice (some ⟨b,off,none⟩) ed.length c3]]) W) ⟨_,rfl,S.out.alloc' _ [_,_,_] rfl rfl⟩ fun W S' => ?_;obtain ⟨bx,hbx,S'⟩ := S';rw [← hbx];have S3 := Lib.hid S';clear S' hbx S y0 y1 y2;have bx0 := ckC S3.out 0 rfl 0 rfl;have g4 := ckC S3.out 1 rfl 4 rfl;have cc := (BlkAt.cell (S3.out.get 2 rfl) (s + 1)).trans (mkI_get (show s + 1 < N + 1 by omega));have cf := BlkAt.free (S3.out.get 2 rfl) (s + 1);have hc := cntS_le (ed.take k) (s + 1);rw [List.length_take] at hc
     have S4 : (SepW w [eBlk nb 85 [.slice A1 al.length c1,.int .i64 ↑N,.slice A2 mr.length c2,.slice (some ⟨b,off,none⟩) ed.length c3,.slice (some ⟨gb,0,none⟩) (N + 1) (N + 1)],eBlk gb 3 (mkI (N + 1) fun j => (cntS (ed.take (k + 1)) j : Int)),eBlk (w.heap.size + 1) 85 [.slice none 0 0,.int .i64 0,.slice none 0 0,.slice none 0 0,.slice none 0 0],eBlk w.heap.size 25 [.slice A1 al.length c1,.int .i64 ↑N,.slice A2 mr.length c2,.slice (some ⟨b,off,none⟩) ed.length c3]] (W.setCell ⟨gb,s + 1,none⟩ (.int .i64 ((cntS (ed.take k) (s + 1) : Int) + 1)))) := by
      have h := S3.out.set 2 rfl (s + 1) (.int .i64 ((cntS (ed.take k) (s + 1) : Int) + 1));rw [mkI_set,HX.out] at h;exact h.drop1
     obtain ⟨q,hq⟩ : ∃ q : Nat,q = cntS (ed.take k) (s + 1) := ⟨_,rfl⟩;rw [← hq] at cc hc S4;have hw1 : IntKind.i64.wrap ((q : Int) + 1) = (q : Int) + 1 := IntWalk.i64_in _ (by omega);have hw2 : IntKind.i64.wrap ((s : Int) + 1) = (s : Int) + 1 := IntWalk.i64_in _ (by omega);have hw3 : ((s : Int) + 1).toNat = s + 1 := by omega
     clear hq S3;go_wp2_with fail
     go_roundw
     case rel => exact ⟨k + 1,by go_num,by omega,S4.out⟩
     case measure => simp [intOf]; omega
   · obtain rfl : k = ed.length := by omega
     have b1 := ckC S.out 3 rfl 1 rfl;have S2 : (SepW w [eBlk nb 85 [.slice A1 al.length c1,.int .i64 ↑N,.slice A2 mr.length c2,.slice A3 ed.length c3,.slice (some ⟨gb,0,none⟩) (N + 1) (N + 1)],eBlk gb 3 (mkI (N + 1) fun j => if j ≤ 0 then (fstV ed j : Int) else (cntS ed j : Int)),eBlk (w.heap.size + 1) 85 [.slice none 0 0,.int .i64 0,.slice none 0 0,.slice none 0 0,.slice none 0 0],eBlk w.heap.size 25 [.slice A1 al.length c1,.int .i64 ↑N,.slice A2 mr.length c2,.slice A3 ed.length c3]] wr) := by
      have h := S.out;have e : mkI (N + 1) (fun j => (cntS (ed.take ed.length) j : Int)) = mkI (N + 1) fun j => if j ≤ 0 then (fstV ed j : Int) else (cntS ed j : Int) := mkI_congr fun t _ => by
       rw [List.take_length];by_cases e : t ≤ 0
       · obtain rfl : t = 0 := by omega
         rw [if_pos e,fstV_zero HS0.out,cntS_zero HS0.out]
       · rw [if_neg e]
      rw [e] at h;exact h
     clear S;go_wp2_with fail
     go_loopw [32] (fun i wr => ∃ s : Nat,i = .int .i64 s ∧ s ≤ N ∧ (SepW w [eBlk nb 85 [.slice A1 al.length c1,.int .i64 ↑N,.slice A2 mr.length c2,.slice A3 ed.length c3,.slice (some ⟨gb,0,none⟩) (N + 1) (N + 1)],eBlk gb 3 (mkI (N + 1) fun j => if j ≤ s then (fstV ed j : Int) else (cntS ed j : Int)),eBlk (w.heap.size + 1) 85 [.slice none 0 0,.int .i64 0,.slice none 0 0,.slice none 0 0,.slice none 0 0],eBlk w.heap.size 25 [.slice A1 al.length c1,.int .i64 ↑N,.slice A2 mr.length c2,.slice A3 ed.length c3]] wr)) (fun i _ => N - (intOf i).toNat)
     case atStart => exact ⟨0,rfl,Nat.zero_le _,S2.out⟩
     case round =>
      clear S2 b1;obtain ⟨s,rfl,hs,S⟩ := hrel;by_cases hlt : s < N
      · have E2 : Hid (mkI (N + 1) (fun t => if t = s + 1 then (fstV ed (s + 1) : Int) else if t ≤ s then (fstV ed t : Int) else (cntS ed t : Int)) = mkI (N + 1) fun j => if j ≤ s + 1 then (fstV ed j : Int) else (cntS ed j : Int)) := mkI_congr fun t _ => by
         by_cases e : t = s + 1
         · subst e; rw [if_pos rfl,if_pos (Nat.le_refl _)]
         · rw [if_neg e];by_cases e2 : t ≤ s
           · rw [if_pos e2,if_pos (by omega)]
           · rw [if_neg e2,if_neg (by omega)]
        have i1 : (if s + 1 ≤ s then (fstV ed (s + 1) : Int) else (cntS ed (s + 1) : Int)) = (cntS ed (s + 1) : Int) := if_neg (by omega);have i2 : (if s ≤ s then (fstV ed s : Int) else (cntS ed s : Int)) = (fstV ed s : Int) := if_pos (Nat.le_refl _);have hsum : (cntS ed (s + 1) : Int) + (fstV ed s : Int) = (fstV ed (s + 1) : Int) := by rw [fstV_succ]; omega
        have hb1 := fstV_le ed (s + 1);have hw1 : IntKind.i64.wrap (fstV ed (s + 1) : Int) = (fstV ed (s + 1) : Int) := IntWalk.i64_in _ (by omega);have hw2 : IntKind.i64.wrap ((s : Int) + 1) = (s : Int) + 1 := IntWalk.i64_in _ (by omega);have hw3 : ((s : Int) + 1).toNat = s + 1 := by omega
        have hp1 : (0 : Int) ≤ (s : Int) + 1 := by omega
        have hp2 : (s : Int) + 1 < (N : Int) + 1 := by omega
        have hp3 : (s : Int) < (N : Int) + 1 := by omega
        have g4 := ckC S.out 0 rfl 4 rfl;have r0 := (BlkAt.cell (S.out.get 1 rfl) s).trans (mkI_get (show s < N + 1 by omega));have r1 := (BlkAt.cell (S.out.get 1 rfl) (s + 1)).trans (mkI_get (show s + 1 < N + 1 by omega));have cf := BlkAt.free (S.out.get 1 rfl) (s + 1);rw [i1] at r1;rw [i2] at r0;have S5 := S.out.drew.set 1 rfl (s + 1) (.int .i64 (fstV ed (s + 1) : Int));rw [mkI_set] at S5;have S6 : (SepW w [eBlk nb 85 [.slice A1 al.length c1,.int .i64 ↑N,.slice A2 mr.length c2,.slice A3 ed.length c3,.slice (some ⟨gb,0,none⟩) (N + 1) (N + 1)],eBlk gb 3 (mkI (N + 1) fun j => if j ≤ s + 1 then (fstV ed j : Int) else (cntS ed j : Int)),eBlk (w.heap.size + 1) 85 [.slice none 0 0,.int .i64 0,.slice none 0 0,.slice none 0 0,.slice none 0 0],eBlk w.heap.size 25 [.slice A1 al.length c1,.int .i64 ↑N,.slice A2 mr.length c2,.slice A3 ed.length c3]] (wr.drew.setCell ⟨gb,s + 1,none⟩ (.int .i64 (fstV ed (s + 1) : Int)))) := by rw [E2.out] at S5; exact S5
        clear S5 S i1 i2;go_upto_region 10 with fail
        go_region
        go_wp2_with fail
        go_roundw
        case rel => exact ⟨s + 1,by go_num,by omega,S6.out⟩
        case measure => simp [intOf]; omega
      · obtain rfl : s = N := by omega
        have E3 : mkI (s + 1) (fun j => if j ≤ s then (fstV ed j : Int) else (cntS ed j : Int)) = mkI (s + 1) fun j => (fstV ed j : Int) := mkI_congr fun t ht => if_pos (by omega);rw [E3] at S;have HEND := Lib.hid hn;clear E3;have r0 := ckC S.out 2 rfl 0 rfl;have q0 := ckC S.out 0 rfl 0 rfl;have f0 := BlkAt.free (S.out.get 2 rfl) 0;have r1 := ckC S.out 2 rfl 1 rfl;have q1 := ckC S.out 0 rfl 1 rfl;have f1 := BlkAt.free (S.out.get 2 rfl) 1;have r2 := ckC S.out 2 rfl 2 rfl;have q2 := ckC S.out 0 rfl 2 rfl;have f2 := BlkAt.free (S.out.get 2 rfl) 2;have r3 := ckC S.out 2 rfl 3 rfl;have q3 := ckC S.out 0 rfl 3 rfl;have f3 := BlkAt.free (S.out.get 2 rfl) 3;have r4 := ckC S.out 2 rfl 4 rfl;have q4 := ckC S.out 0 rfl 4 rfl;have f4 := BlkAt.free (S.out.get 2 rfl) 4;have S4 := Lib.hid (((((S.out.set 2 rfl 0 (.slice A1 al.length c1)).set 2 rfl 1 (.int .i64 ↑s)).set 2 rfl 2 (.slice A2 mr.length c2)).set 2 rfl 3 (.slice A3 ed.length c3)).set 2 rfl 4 (.slice (some ⟨gb,0,none⟩) (s + 1) (s + 1)));clear S;go_wp2_with fail
        refine bodyPost_ret (v := .agg #[.slice A1 al.length c1,.int .i64 ↑s,.slice A2 mr.length c2,.slice A3 ed.length c3,.slice (some ⟨gb,0,none⟩) (s + 1) (s + 1)]) (by simp [results,Try.results54,go_sem, *]) rfl ?_;exact ⟨gb,rfl,S4.out.pick [1] (by decide)⟩
section
abbrev eQ (l : List Int) (v : Value) : Ent := eOwnO encI 1 3 l v
section
variable {n : Nat} {w0 w : World} {es : List Ent}
theorem wpList_pushQ {P : Program} {α : Type} {enc : α → List Value} {k T : Nat} {l : List α} {v : Value} {ops : Array Oper} {rest : List Oper} {o : Oper} {a : Act} {Q : Exit → Act → World → Prop} (hkk : ∀ x,(enc x).length = k) (hgd : o.guard = none) (s x : Operand) (t : TypeId)
 (ho : o.op = .call { callee := .builtin .append,args := #[s,x],argTypes := #[t,t] }) (S : Sep n w0 es w) (i : Nat) (hei : es[i]? = some (eOwnO enc k T l v))
 (ht : P.underlying t = some (.slice T)) (z : Value) (bytes : Nat) (hi : (P.info? T).map (fun i => (i.zero,i.size,i.bytes)) = some (some z,k,bytes))
 (hzs : z.cells.size = k) (hk : 0 < k) (hs : a.eval s = v) (y : α) (g : Nat) (hx : a.eval x = .slice (some ⟨g,0,none⟩) 1 1) (hc : ∀ j u,(enc y)[j]? = some u → w.cell? ⟨g,j,none⟩ = some u) (h1 : ∀ u ∈ enc y,u.oneCell' = true)
 (hl : l.length ≤ 1048576) (hby : bytes ≤ 4096)
 (h : ∀ A' c' w',Sep n w0 (es.set i (eOwnO enc k T (l ++ [y]) (.slice A' (l.length + 1) c'))) w' → wpList P ops Q rest (a.put o.dst (.slice A' (l.length + 1) c')) w') :
 wpList P ops Q (o :: rest) a w :=
 wpList_pushO hgd s x t ho hkk (S.get i hei) ht z bytes hi hzs hk hs y g hx hc h1 hl hby (Nat.zero_le _) fun A' c' w' ho' hg hat => h A' c' w' (S.chg i hei _ (Off.grown hg) ho' (fun g hg => by
  simp only [eOwnO,Option.mem_toList] at hg ⊢;rcases hat with h | ⟨j,h,hj⟩
  · exact .inl (by rw [← h]; exact hg)
  · rw [h] at hg; cases hg; exact .inr hj))
theorem OwnO.cap {α : Type} {enc : α → List Value} {k T B : Nat} {l : List α} {A : Option Addr} {c : Nat} {w : World} (h : OwnO enc k T B l (.slice A l.length c) w) : l.length ≤ c := by
 rcases h with ⟨h1,h2⟩ | ⟨g',off',cap',cs,e,hB,hb,hn,hm,hs,hc⟩
 · rw [h2]; exact Nat.zero_le _
 · cases e; exact hn
theorem Sep.formQ {α : Type} {enc : α → List Value} {k T : Nat} (S : Sep n w0 es w) (i : Nat) {l : List α} {v : Value} (hi : es[i]? = some (eOwnO enc k T l v)) : ∃ A c,v = .slice A l.length c ∧ l.length ≤ c := by
 obtain ⟨A,c,rfl⟩ := OwnO.form (S.get i hi);exact ⟨A,c,rfl,OwnO.cap (S.get i hi)⟩
theorem Sep.intsQ (S : Sep n w0 es w) (i : Nat) {l : List Int} {A : Option Addr} {c : Nat} (hi : es[i]? = some (eQ l (.slice A l.length c))) : IntsAt w A l := OwnO.reads (fun _ => rfl) (S.get i hi)
theorem Sep.asQ {α : Type} {enc : α → List Value} {k T : Nat} {l : List α} {v : Value} (S : Sep n w0 es w) (i : Nat) (hi : es[i]? = some (eOwn enc k T l v)) : Sep n w0 (es.set i (eOwnO enc k T l v)) w :=
 S.as i hi _ (fun h => OwnO.of h) (fun g hg => hg)
def negC (N : Nat) (d : Nat → Int) : Nat := ((List.range N).filter fun s => decide (d s < 0)).length
def wNeg (w : World) (g N : Nat) : Nat := ((List.range N).filter fun s => match w.cell? ⟨g,s,none⟩ with
 | some (.int _ x) => decide (x < 0)
 | _ => false).length
theorem wNeg_eq {w : World} {g T N : Nat} {d : Nat → Int} (h : BlkAt w g T (mkI N d)) : wNeg w g N = negC N d := by
 unfold wNeg negC
 refine congrArg List.length (List.filter_congr fun s hs => ?_);rw [(h.cell s).trans (mkI_get (by simpa using hs))]
theorem negC_put {d : Nat → Int} {p : Nat} {x : Int} (hd : d p < 0) (hx : 0 ≤ x) : ∀ (N : Nat),negC N (fun s => if s = p then x else d s) + (if p < N then 1 else 0) = negC N d := by
 intro N;induction N with
 | zero => simp [negC]
 | succ N ih =>
   simp only [negC] at ih ⊢;rw [List.range_succ,List.filter_append,List.filter_append,List.length_append,List.length_append];by_cases e : N = p
   · subst e;rw [if_neg (Nat.lt_irrefl N)] at ih;rw [if_pos (Nat.lt_succ_self N)];have h1 : ¬ x < 0 := by omega
     have e1 : ([N].filter fun s => decide ((if s = N then x else d s) < 0)) = [] := by simp [h1]
     have e2 : ([N].filter fun s => decide (d s < 0)) = [N] := by simp [hd]
     rw [e1,e2];have := ih;simp only [List.length_nil,List.length_cons];omega
   · have h2 : ([N].filter fun s => decide ((if s = p then x else d s) < 0)).length = ([N].filter fun s => decide (d s < 0)).length := by
      simp only [List.filter_cons,List.filter_nil,if_neg e]
     rw [h2];by_cases g : p < N
     · rw [if_pos g] at ih; rw [if_pos (by omega)]; omega
     · rw [if_neg g] at ih; rw [if_neg (by omega)]; omega
theorem Sep.tailQ {α : Type} {enc : α → List Value} {k T : Nat} {l : List α} {x : α} {g off nn cap : Nat} (hk : ∀ x,(enc x).length = k) (S : Sep n w0 es w) (i : Nat) (hi : es[i]? = some (eOwnO enc k T (x :: l) (.slice (some ⟨g,off,none⟩) nn cap))) :
 ∃ A,(if cap = 1 then some (⟨g,off,none⟩ : Addr) else some ⟨g,off + k,none⟩) = some A ∧ Sep n w0 (es.set i (eOwnO enc k T l (.slice (some A) l.length (cap - 1)))) w := by
 obtain ⟨A,h1,h2⟩ := OwnO.tail hk (S.get i hi);refine ⟨A,h1,S.as i hi _ (fun _ => h2) (fun b hb => ?_)⟩;have hA : A.block = g := by
  split at h1
  · cases h1; rfl
  · cases h1; rfl
 simpa [eOwnO,Value.ownBlock,hA] using hb
end
end
end Go.Proofs.Ytjjifefanjnghaa
