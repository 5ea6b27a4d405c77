/-
  Plain: what the search for a least word within permitted edges has done.
  Words for memory: blocks of ints told by a function; rows of lists.
  reach.newGraph.
  Queues among things that lie apart.
  reach: the states from which others are reached.
  Plain: how many words of a length lead to a state.
  reach: sets of states, flags; the states from which marked ones are reached.
  A range over a function, with memory told by Sep: the loop's own two blocks are things among the others.
  reach: the edges of a state, one after another.
  Ranges over a function within a loop: the marks among the deferred calls; a round's region walked as everywhere.
  Words for memory: maps whose entries bear their stamps in order; entries that are laid first and filled later.
  Plain: a search backwards, breadth first, finds least numbers of events.
  reach.graph.backward with the least numbers of events.
  reach.graph.path: the least word by permitted edges.
  reach.Path and reach.Distances of right automata and right sets.
  reach.list, reach.closure, reach.Interior.
  minimal: Distinguish and Equivalent of any automata: results and errors.
  overseerlaw08: same, equal, few, example.
  Plain: two states that some word tells apart are told apart by a word that is shorter than the number of states.
  Plain: the automaton of the examples of the chapter on minimal automata.
  overseerlaw08: the examples of the chapter.
  Plain: the automaton of the examples of the chapter on reach.
  overseerlaw04: the examples of the chapter.
  overseerlaw08.Known; overseerlaw04.Make: which automaton it makes.
  Plain: described automata are right.
-/
import Derived.Test.YtccfcaejlohahaaBas03
import Derived.Test.YtccfcaejlohahaaBas05
import Derived.Test.YtccfcaejlohahaaBas04
import Derived.IntWalk
import Derived.Test.YtccfcaejlohahaaBas02
import Derived.RangeFuncWrites
import Derived.RangeFuncCalls
import Derived.RangeFuncLeaves
import Derived.RegionTactic
import Derived.OrdersIn
import Derived.Deep.RegionHeld
import Derived.OwnWalkIn
import Derived.TacticsInMore
import Derived.LoopNIn
import Derived.LoopIn
import Derived.BigRegionIn
import Derived.Sort.CutIn
import Derived.Sort.QuietIn
import Derived.WideKeyEntry
set_option linter.unusedSimpArgs false
set_option linter.unusedVariables false
namespace Go.Proofs.Ytccfcaejlohahaa
open Go.RowKit
set_option maxRecDepth 100000
section

def stpP (a : Au) (pm : Ed → Bool) (v e : Int) : Int := ((a.ed.find? fun x => decide (x.src = v) && decide (x.ev = e)).bind fun x => if pm x = true then some x.dst else none).getD (-1)
def ev32 : List Int := (List.range 32).map fun k : Nat => (k : Int)
theorem ev32_len : ev32.length = 32 := by simp [ev32]
theorem ev32_get {k : Nat} (h : k < 32) : ev32[k]? = some (k : Int) := by simp [ev32,h]
theorem ev32_incr : incr ev32 := fun i j x y hij hx hy => by
 have h1 := (List.getElem?_eq_some_iff.1 hx).1
 have h2 := (List.getElem?_eq_some_iff.1 hy).1
 rw [ev32_len] at h1 h2
 rw [ev32_get h1] at hx; rw [ev32_get h2] at hy
 cases hx; cases hy; omega
theorem stpP_edge {a : Au} (hr : a.Right) (pm : Ed → Bool) {x : Ed} (hx : x ∈ a.ed) : stpP a pm x.src x.ev = if pm x = true then x.dst else -1 := by
 unfold stpP
 cases hf : a.ed.find? fun y => decide (y.src = x.src) && decide (y.ev = x.ev) with
 | none =>
   have := List.find?_eq_none.1 hf x hx
   simp at this
 | some y =>
   have h1 := List.mem_of_find?_eq_some hf
   have h2 := List.find?_some hf
   simp only [Bool.and_eq_true,decide_eq_true_eq] at h2
   obtain rfl := hr.uniq h1 hx h2.1 h2.2
   by_cases g : pm y = true <;> simp [g]
theorem stpP_none {a : Au} (pm : Ed → Bool) {v e : Int} (h : ∀ x,x ∈ a.ed → x.src = v → x.ev ≠ e) : stpP a pm v e = -1 := by
 unfold stpP
 rw [List.find?_eq_none.2 (fun x hx => by
  simp only [Bool.and_eq_true,decide_eq_true_eq,not_and]
  exact h x hx)]
 rfl
theorem stpP_dead {a : Au} (hr : a.Right) (pm : Ed → Bool) (s e : Int) (h : s = -1) : stpP a pm s e = -1 := stpP_none pm fun x hx hs => by
 have := edge_next hr hx
 omega
structure Ps where
 s : Int
 b : Int
 e : Int
def Ps.cells (v : Ps) : List Value := [.int .i64 v.s,.int .i64 v.b,.int .i64 v.e]
def PsE : Reading Ps := fun _ x vs => vs = Ps.cells x
theorem PsE.get {w : World} {A : Option Addr} {l : List Ps} (h : SlAt PsE 3 w A l) {k : Nat} {v : Ps} (hx : l[k]? = some v) : ∃ b off,A = some ⟨b,off,none⟩ ∧ b < w.heap.size ∧
 w.cell? ⟨b,off + k * 3,none⟩ = some (.int .i64 v.s) ∧ w.cell? ⟨b,off + k * 3 + 1,none⟩ = some (.int .i64 v.b) ∧ w.cell? ⟨b,off + k * 3 + 2,none⟩ = some (.int .i64 v.e) := by
 obtain ⟨b,off,y,vs,hA,hlt,hy,_,hE,hc⟩ := SlAt.at h (List.getElem?_eq_some_iff.1 hx).1
 obtain rfl : vs = Ps.cells y := hE
 rw [hx] at hy; cases hy
 exact ⟨b,off,hA,hlt,by simpa using hc 0 _ rfl,hc 1 _ rfl,hc 2 _ rfl⟩
structure PInv (a : Au) (pm : Ed → Bool) (s0 : Int) (wt : Int → Bool) (i k t : Nat) (fs : List Ps) (ws : List (List Int)) : Prop where
 bfs : Bfs (stpP a pm) s0 (fun v => v = -1) ev32 i k (fs.map Ps.s) ws
 lk : Link (fs.map fun v => (v.b,v.e)) ws
 nd : (fs.map Ps.s).Nodup
 rg : ∀ v,v ∈ fs → 0 ≤ v.s ∧ v.s < a.n
 no : ∀ (j : Nat) v,j < t → (fs.map Ps.s)[j]? = some v → wt v = false
section
variable {a : Au} {pm : Ed → Bool} {s0 : Int} {wt : Int → Bool} {i k t : Nat} {fs : List Ps} {ws : List (List Int)}
theorem PInv.start (pm : Ed → Bool) (wt : Int → Bool) (h0 : 0 ≤ s0) (h1 : s0 < a.n) : PInv a pm s0 wt 0 0 0 [⟨s0,-1,-1⟩] [[]] :=
 ⟨Bfs.start,⟨rfl,fun j q hq => by
  have := (List.getElem?_eq_some_iff.1 hq).1
  obtain rfl : j = 0 := by simp at this; omega
  simp at hq; subst hq
  exact ⟨fun _ => rfl,fun h => absurd h (by omega)⟩⟩,by simp,fun v hv => by
  simp at hv; subst hv; exact ⟨h0,h1⟩,fun j v h => absurd h (by omega)⟩
theorem PInv.len (h : PInv a pm s0 wt i k t fs ws) : fs.length ≤ a.n.toNat := by
 have := nodup_lenN a.n.toNat ((fs.map Ps.s).map Int.toNat) (by
  rw [List.nodup_iff_pairwise_ne,List.pairwise_map]
  refine List.Pairwise.imp_of_mem ?_ (List.nodup_iff_pairwise_ne.1 h.nd)
  intro p q hp hq hne hc
  obtain ⟨v,hv,rfl⟩ := List.mem_map.1 hp
  obtain ⟨u,hu,rfl⟩ := List.mem_map.1 hq
  have := h.rg v hv
  have := h.rg u hu
  omega) (fun x hx => by
  obtain ⟨q,hq,rfl⟩ := List.mem_map.1 hx
  obtain ⟨v,hv,rfl⟩ := List.mem_map.1 hq
  have := h.rg v hv
  omega)
 simpa using this
theorem PInv.skip (h : PInv a pm s0 wt i k t fs ws) {v : Ps} (hv : fs[i]? = some v) (hk : k < 32) (hs : stpP a pm v.s k = -1 ∨ stpP a pm v.s k ∈ fs.map Ps.s) : PInv a pm s0 wt i (k + 1) t fs ws :=
 ⟨h.bfs.skip ev32_incr (v := v.s) (by rw [List.getElem?_map,hv]; rfl) (ev32_get hk) (by
  rcases hs with g | g
  · exact .inl g
  · obtain ⟨j,hj,e⟩ := List.mem_iff_getElem.1 g
    exact .inr ⟨j,by rw [List.getElem?_eq_getElem hj,e]⟩),h.lk,h.nd,h.rg,h.no⟩
theorem PInv.skips (h : PInv a pm s0 wt i k t fs ws) {v : Ps} (hv : fs[i]? = some v) : ∀ k' : Nat,k ≤ k' → k' ≤ 32 → (∀ e : Nat,k ≤ e → e < k' → stpP a pm v.s e = -1) → PInv a pm s0 wt i k' t fs ws := by
 intro k'
 induction k' with
 | zero =>
   intro h1 _ _
   have e : k = 0 := by omega
   rw [e] at h; exact h
 | succ k' ih =>
   intro h1 h2 h3
   by_cases g : k ≤ k'
   · exact (ih g (by omega) fun e g1 g2 => h3 e g1 (by omega)).skip hv (by omega) (.inl (h3 k' g (by omega)))
   · obtain rfl : k = k' + 1 := by omega
     exact h
theorem PInv.push (h : PInv a pm s0 wt i k t fs ws) (ht : t ≤ fs.length) {v : Ps} (hv : fs[i]? = some v) (hk : k < 32) {d : Int} (hs : stpP a pm v.s k = d) (hd : 0 ≤ d ∧ d < a.n) (hm : ¬ d ∈ fs.map Ps.s) :
 ∃ ws',PInv a pm s0 wt i (k + 1) t (fs ++ [⟨d,i,k⟩]) ws' := by
 have hv' : (fs.map Ps.s)[i]? = some v.s := by rw [List.getElem?_map,hv]; rfl
 obtain ⟨wi,hwi⟩ := h.bfs.word hv'
 refine ⟨ws ++ [wi ++ [(k : Int)]],?_,?_,?_,fun u hu => ?_,fun j u hj hu => ?_⟩
 · rw [List.map_append]
   have := h.bfs.push ev32_incr hv' (ev32_get hk) hwi
   rw [hs] at this
   exact this
 · rw [List.map_append]
   exact h.lk.push (k : Int) hwi
 · rw [List.map_append]
   exact List.nodup_append.2 ⟨h.nd,by simp,fun p hp q hq => by
    simp at hq
    rintro rfl
    exact hm (by rw [← hq]; exact hp)⟩
 · rcases List.mem_append.1 hu with g | g
   · exact h.rg u g
   · simp at g; subst g; exact hd
 · rw [List.map_append,List.getElem?_append_left (by simp; omega)] at hu
   exact h.no j u hj hu
theorem PInv.next (h : PInv a pm s0 wt i 32 t fs ws) : PInv a pm s0 wt (i + 1) 0 t fs ws := ⟨by have h1 := h.bfs; rw [← ev32_len] at h1; exact h1.next,h.lk,h.nd,h.rg,h.no⟩
def PEd (a : Au) (pm : Ed → Bool) (s0 : Int) (wt : Int → Bool) (i t : Nat) (s : Nat) (fs : List Ps) (ws : List (List Int)) : Prop :=
 ∃ k,k ≤ 32 ∧ PInv a pm s0 wt i k (i + 1) fs ws ∧ (∀ (q : Nat) x,t ≤ q → (outOf a.ed s)[q]? = some x → (k : Int) ≤ x.ev) ∧ ∀ (q : Nat) x,q < t → (outOf a.ed s)[q]? = some x → x.ev < k
theorem PEd.start (hr : a.Right) {s : Nat} (h : PInv a pm s0 wt i 0 (i + 1) fs ws) : PEd a pm s0 wt i 0 s fs ws :=
 ⟨0,by omega,h,fun q x _ hx => (hr.ev (mem_outOf.1 (List.mem_of_getElem? hx)).1).1,fun q x hq => absurd hq (by omega)⟩
theorem PEd.at (hr : a.Right) {s : Nat} (h : PEd a pm s0 wt i t s fs ws) {v : Ps} (hv : fs[i]? = some v) (hs : v.s = s) {x : Ed} (hx : (outOf a.ed s)[t]? = some x) : PInv a pm s0 wt i x.ev.toNat (i + 1) fs ws ∧ x.ev.toNat < 32 ∧ (x.ev.toNat : Int) = x.ev := by
 obtain ⟨k,hk,h1,h2,h3⟩ := h
 have he := hr.ev (mem_outOf.1 (List.mem_of_getElem? hx)).1
 have hkx := h2 t x (Nat.le_refl _) hx
 have hR := outOf_rises hr s
 refine ⟨h1.skips hv _ (by omega) (by omega) fun e g1 g2 => ?_,by omega,by omega⟩
 refine stpP_none pm fun y hy hys hye => ?_
 have hm : y ∈ outOf a.ed s := mem_outOf.2 ⟨hy,hys.trans hs⟩
 obtain ⟨q,hq,rfl⟩ := List.mem_iff_getElem.1 hm
 have hqg : (outOf a.ed s)[q]? = some (outOf a.ed s)[q] := List.getElem?_eq_getElem hq
 rcases Nat.lt_trichotomy q t with g | g | g
 · have := h3 q _ g hqg; omega
 · subst g; rw [hx] at hqg; have := Option.some.inj hqg; rw [← this] at hye; omega
 · have := hR t q _ _ g hx hqg; omega
theorem PEd.step (hr : a.Right) {s : Nat} {x : Ed} (hx : (outOf a.ed s)[t]? = some x) (h : PInv a pm s0 wt i (x.ev.toNat + 1) (i + 1) fs ws) : PEd a pm s0 wt i (t + 1) s fs ws := by
 have he := hr.ev (mem_outOf.1 (List.mem_of_getElem? hx)).1
 have hR := outOf_rises hr s
 refine ⟨x.ev.toNat + 1,by omega,h,fun q y hq hy => ?_,fun q y hq hy => ?_⟩
 · have := hR t q _ _ (by omega) hx hy; omega
 · by_cases e : q = t
   · subst e; rw [hx] at hy; cases hy; omega
   · have := hR q t _ _ (by omega) hy hx; omega
theorem PEd.old (hr : a.Right) {s : Nat} (h : PEd a pm s0 wt i t s fs ws) {v : Ps} (hv : fs[i]? = some v) (hs : v.s = s) {x : Ed} (hx : (outOf a.ed s)[t]? = some x) (hno : x.dst ∈ fs.map Ps.s ∨ pm x = false) : PEd a pm s0 wt i (t + 1) s fs ws := by
 obtain ⟨h1,h2,h3⟩ := h.at hr hv hs hx
 obtain ⟨m1,m2⟩ := mem_outOf.1 (List.mem_of_getElem? hx)
 have he := stpP_edge hr pm m1
 refine PEd.step hr hx (h1.skip hv h2 ?_)
 rw [h3,hs,← m2,he]
 rcases hno with g | g
 · by_cases e : pm x = true
   · rw [if_pos e]; exact .inr g
   · rw [if_neg e]; exact .inl rfl
 · rw [if_neg (by simp [g])]; exact .inl rfl
theorem PEd.new (hr : a.Right) {s : Nat} (h : PEd a pm s0 wt i t s fs ws) {v : Ps} (hv : fs[i]? = some v) (hs : v.s = s) {x : Ed} (hx : (outOf a.ed s)[t]? = some x) (hm : ¬ x.dst ∈ fs.map Ps.s) (hp : pm x = true) : ∃ ws',PEd a pm s0 wt i (t + 1) s (fs ++ [⟨x.dst,i,x.ev⟩]) ws' := by
 obtain ⟨h1,h2,h3⟩ := h.at hr hv hs hx
 obtain ⟨m1,m2⟩ := mem_outOf.1 (List.mem_of_getElem? hx)
 have he := stpP_edge hr pm m1
 rw [if_pos hp] at he
 have hd := edge_next hr m1
 obtain ⟨ws',h4⟩ := h1.push (by have := (List.getElem?_eq_some_iff.1 hv).1; omega) hv h2 (d := x.dst) (by rw [h3,hs,← m2,he]) ⟨hd.2.2.2.1,hd.2.2.2.2⟩ hm
 rw [h3] at h4
 exact ⟨ws',PEd.step hr hx h4⟩
theorem PEd.fin (hr : a.Right) {s : Nat} (h : PEd a pm s0 wt i (outOf a.ed s).length s fs ws) {v : Ps} (hv : fs[i]? = some v) (hs : v.s = s) : PInv a pm s0 wt (i + 1) 0 (i + 1) fs ws := by
 obtain ⟨k,hk,h1,h2,h3⟩ := h
 refine PInv.next (h1.skips hv 32 hk (Nat.le_refl _) fun e g1 g2 => ?_)
 refine stpP_none pm fun y hy hys hye => ?_
 have hm : y ∈ outOf a.ed s := mem_outOf.2 ⟨hy,hys.trans hs⟩
 obtain ⟨q,hq,rfl⟩ := List.mem_iff_getElem.1 hm
 have := h3 q _ hq (List.getElem?_eq_getElem hq)
 omega
end
def PthW (a : Au) (pm : Ed → Bool) (s0 : Int) (wt : Int → Bool) (f : Bool) (l : List Int) : Prop :=
 f = true ∧ LeastW (LeadsTo (stpP a pm) s0 ev32 (fun v => 0 ≤ v ∧ wt v = true)) l ∨ f = false ∧ l = [] ∧ ∀ u,¬ LeadsTo (stpP a pm) s0 ev32 (fun v => 0 ≤ v ∧ wt v = true) u
theorem PInv.least {a : Au} {pm : Ed → Bool} {s0 : Int} {wt : Int → Bool} {i k : Nat} {fs : List Ps} {ws : List (List Int)} (hr : a.Right) (h : PInv a pm s0 wt i k i fs ws) {v : Ps} {w : List Int} (hv : fs[i]? = some v) (hw : ws[i]? = some w) (hp : wt v.s = true) : LeastW (LeadsTo (stpP a pm) s0 ev32 (fun v => 0 ≤ v ∧ wt v = true)) w :=
 h.bfs.least (fun s e hs => stpP_dead hr pm s e hs) (fun s hs hq => by omega) (fun j u hj hu hq => by rw [h.no j u hj hu] at hq; cases hq.2) (by rw [List.getElem?_map,hv]; rfl) hw ⟨(h.rg v (List.mem_of_getElem? hv)).1,hp⟩
theorem PInv.none_ {a : Au} {pm : Ed → Bool} {s0 : Int} {wt : Int → Bool} {k : Nat} {fs : List Ps} {ws : List (List Int)} (hr : a.Right) (h : PInv a pm s0 wt fs.length k fs.length fs ws) (u : List Int) : ¬ LeadsTo (stpP a pm) s0 ev32 (fun v => 0 ≤ v ∧ wt v = true) u :=
 h.bfs.none_ (fun s e hs => stpP_dead hr pm s e hs) (fun s hs hq => by omega) (by simp) (fun j u hu hq => by
  have hj := (List.getElem?_eq_some_iff.1 hu).1
  rw [h.no j u (by simpa using hj) hu] at hq; cases hq.2) u
end
def mkI (n : Nat) (f : Nat → Int) : List Value := (List.range n).map fun s => .int .i64 (f s)
theorem mkI_get {n : Nat} {f : Nat → Int} {s : Nat} (h : s < n) : (mkI n f)[s]? = some (.int .i64 (f s)) := by simp [mkI,h]
theorem mkI_rep (n : Nat) (x : Int) : List.replicate n (Value.int .i64 x) = mkI n fun _ => x := by
 apply List.ext_getElem?
 intro i
 by_cases h : i < n
 · rw [mkI_get h,List.getElem?_replicate,if_pos h]
 · simp [mkI,h]
theorem mkI_set {n : Nat} {f : Nat → Int} (s : Nat) (x : Int) : (mkI n f).set s (.int .i64 x) = mkI n fun t => if t = s then x else f t := by
 apply List.ext_getElem?
 intro i
 rw [List.getElem?_set]
 by_cases h : i < n
 · rw [mkI_get (f := fun t => if t = s then x else f t) h]
   by_cases e : s = i
   · subst e
     rw [if_pos rfl,if_pos (by simpa [mkI] using h),if_pos rfl]
   · rw [if_neg e,mkI_get h,if_neg (fun g => e g.symm)]
 · have h1 : ∀ q : Nat → Int,(mkI n q)[i]? = none := fun q => by simp [mkI]; omega
   rw [h1,h1]
   split
   · rw [if_neg (by simp [mkI]; omega)]
   · rfl
theorem mkI_congr {n : Nat} {f g : Nat → Int} (h : ∀ s,s < n → f s = g s) : mkI n f = mkI n g := by
 unfold mkI
 refine List.map_congr_left fun s hs => ?_
 rw [h s (by simpa using hs)]

def rowsE (n : Nat) (ls : Nat → List Int) (vs : Nat → Value) : List Ent := (List.range n).map fun s => eInts (ls s) (vs s)
def upd {α : Type} (f : Nat → α) (s : Nat) (x : α) : Nat → α := fun t => if t = s then x else f t
theorem Sep.rows {n : Nat} {w0 w : World} {es : List Ent} (S : Sep n w0 es w) (k : Nat) : Sep n w0 (es ++ rowsE k (fun _ => []) (fun _ => .slice none 0 0)) w := by
 have hf : ∀ e,e ∈ rowsE k (fun _ => []) (fun _ => .slice none 0 0) → e = eInts [] (.slice none 0 0) := fun e he => by
  obtain ⟨s,_,rfl⟩ := List.mem_map.1 he; rfl
 refine ⟨S.fro,fun e he => ?_,fun e he g hg => ?_,List.pairwise_append.2 ⟨S.ap,?_,fun a ha b hb g h1 h2 => ?_⟩⟩
 · rcases List.mem_append.1 he with h | h
   · exact S.ok e h
   · rw [hf e h]; exact Own.nil w
 · rcases List.mem_append.1 he with h | h
   · exact S.ge e h g hg
   · rw [hf e h] at hg; simp [eOwn,Value.ownBlock] at hg
 · refine List.Pairwise.imp_of_mem (R := fun _ _ => True) (fun {a b} ha hb _ g h1 => ?_) (List.pairwise_of_forall (by simp))
   rw [hf a ha] at h1; simp [eOwn,Value.ownBlock] at h1
 · rw [hf b hb] at h2; simp [eOwn,Value.ownBlock] at h2
theorem Sep.left {n : Nat} {w0 w : World} {es es' : List Ent} (S : Sep n w0 (es ++ es') w) : Sep n w0 es w := S.app.1
def grCells (a : Au) (p : AuP) (g : Nat) : List Value := [.slice p.A1 a.al.length p.c1,.int .i64 a.n,.slice p.A2 a.mr.length p.c2,.slice p.A3 a.ed.length p.c3,.slice (some ⟨g,0,none⟩) (a.n.toNat + 1) (a.n.toNat + 1)]
def GivesGr (a : Au) (p : AuP) (w : World) (e : Ending) (w' : World) : Prop := ∃ g,e = .returned (.agg (grCells a p g).toArray) ∧ Hid (Sep w.heap.size w [eBlk g 3 (mkI (a.n.toNat + 1) fun j => (fstV a.ed j : Int))] w')
section
abbrev eQ (l : List Int) (v : Value) : Ent := eOwnO encI 1 3 l v
section
variable {n : Nat} {w0 w : World} {es : List Ent}
theorem OwnO.cap {α : Type} {enc : α → List Value} {k T B : Nat} {l : List α} {A : Option Addr} {c : Nat} {w : World} (h : OwnO enc k T B l (.slice A l.length c) w) : l.length ≤ c := by
 rcases h with ⟨h1,h2⟩ | ⟨g',off',cap',cs,e,hB,hb,hn,hm,hs,hc⟩
 · rw [h2]; exact Nat.zero_le _
 · cases e; exact hn
def negC (N : Nat) (d : Nat → Int) : Nat := ((List.range N).filter fun s => decide (d s < 0)).length
def wNeg (w : World) (g N : Nat) : Nat := ((List.range N).filter fun s => match w.cell? ⟨g,s,none⟩ with
 | some (.int _ x) => decide (x < 0)
 | _ => false).length
end
end
def lenOf : Value → Nat
 | .slice _ n _ => n
 | _ => 0
def GivesBw (a : Au) (tg : List Int) (w : World) (e : Ending) (w' : World) : Prop := ∃ g d,e = .returned (.slice (some ⟨g,0,none⟩) a.n.toNat a.n.toNat) ∧ Hid (Sep w.heap.size w [eBlk g 3 (mkI a.n.toNat d)] w') ∧ Hid (∀ s : Nat,s < a.n.toNat → (0 ≤ d s ↔ ∃ u,runV a.ed s u ∈ tg))
def wordsV (al : List Int) : Nat → List (List Int)
 | 0 => [[]]
 | n + 1 => (wordsV al n).flatMap fun w => al.map fun e => w ++ [e]
def sumTo (f : Int → Nat) (t : Int) (l : List Ed) : Nat := (l.map fun x => if x.dst = t then f x.src else 0).sum
def ledV (a : Au) (n : Nat) (s : Int) : Nat := (wordsV a.al n).countP fun w => decide (rn a w = s)
def cntL (a : Au) (P : Int → Bool) (n : Nat) : Nat := (wordsV a.al n).countP fun w => P (rn a w)
def sumB (f : Nat → Nat) (P : Nat → Bool) (N : Nat) : Nat := ((List.range N).map fun s => if P s then f s else 0).sum
def coV (d : Nat → Int) (k : Nat) : List Int := ((List.range k).filter fun s => decide (0 ≤ d s)).map fun s : Nat => (s : Int)
def GivesKp (a : Au) (w : World) (e : Ending) (w' : World) : Prop := ∃ (d : Nat → Int) (A : Option Addr) (c : Nat),e = .returned (.tuple #[.slice A (coV d a.n.toNat).length c,.int .i64 0]) ∧ Hid (Sep w.heap.size w [eInts (coV d a.n.toNat) (.slice A (coV d a.n.toNat).length c)] w') ∧ Hid (∀ s : Nat,s < a.n.toNat → (0 ≤ d s ↔ ∃ u,runV a.ed s u ∈ a.mr))
def eObj (g : Nat) (o : Obj) : Ent where
 foot := [g]
 ok w := w.heap[g]? = some o
 lt w h k hk := by simp at hk; subst hk; exact (Array.getElem?_eq_some_iff.1 h).1
 turn w w' h hg := (hg g (by simp)).trans h
theorem Off.put (w : World) (g : Nat) (o : Obj) : Off [g] w (w.putObj g o) :=
 ⟨rfl,rfl,rfl,by simp,fun k _ hk => World.putObj_heap_other (fun e => hk (by simp [e]))⟩
theorem Sep.put {n : Nat} {w0 w : World} {es : List Ent} (S : Sep n w0 es w) (i : Nat) {g : Nat} {o : Obj} (hi : es[i]? = some (eObj g o)) (o' : Obj) : Sep n w0 (es.set i (eObj g o')) (w.putObj g o') :=
 S.chg i hi _ (Off.put w g o') (World.putObj_heap_same ((eObj g o).lt w (S.get i hi) g (by simp [eObj]))) (fun g hg => .inl hg)
def sepPost {α : Type} (n0 : Nat) (w0 : World) (T : α → List Ent) (eL eD : Ent) (R : Nat → List Ent → Prop) (Rx : Code → List Ent → Prop) (k : Nat) (x : α) : Exit → Act → World → Prop
 | .normal,_,W => ∃ es,R (k + 1) es ∧ Sep n0 w0 (T x ++ eL :: eD :: es) W
 | .ret,_,W => ∃ es,Rx .ret es ∧ Sep n0 w0 (T x ++ eL :: eD :: es) W
 | .exit id,_,W => ∃ es,Rx (.exit id) es ∧ Sep n0 w0 (T x ++ eL :: eD :: es) W
 | .goto t,_,W => ∃ es,Rx (.goto t) es ∧ Sep n0 w0 (T x ++ eL :: eD :: es) W
 | .panic _,_,_ => False
 | .outgrown,_,_ => False
def IterS {α : Type} (P : Program) (m : Nat) (gf : Nat) (lb : Array Value) (encs : α → Array Value) (T : α → List Ent) (X : Nat → α → Prop) (Dn Bd : Nat → Prop) (need : List Ent) (n0 : Nat) (w0 w : World) : Prop :=
 ∀ (l : Nat) (R : Nat → List Ent → Prop) (Rx : List Ent → Prop) (es : List Ent) (W : World),Below w.heap.size w W → Sep n0 w0 es W → R 0 es → (∀ k es,R k es → Bd k ∧ ∀ e,e ∈ need → e ∈ es) →
  (∀ (k : Nat) (x : α) (es1 : List Ent) (W1 : World),X k x → R k es1 → Sep n0 w0 (T x ++ es1) W1 → YieldAt Fence.wide (m - 1) P l (encs x) W1 fun e W' =>
    (e = .returned (.bool true) ∧ ∃ es',R (k + 1) es' ∧ Sep n0 w0 (T x ++ es') W') ∨ (e = .returned (.bool false) ∧ ∃ es',Rx es' ∧ Sep n0 w0 (T x ++ es') W')) →
  CallsIn Fence.wide m P gf (#[.func (.yield l) #[] #[]] ++ lb) W fun e W' => (∃ v,e = .returned v) ∧ ((∃ k es',Dn k ∧ R k es' ∧ Sep n0 w0 es' W') ∨ (∃ es',Rx es' ∧ Sep n0 w0 es' W'))

def noDefer (ops : Array Oper) : Bool := ops.toList.all fun o => match o.op with
 | .defer _ => false
 | _ => true
section

attribute [local go_sem] Oper.semAt_some
end
def mkD (D : Nat) : Deferred := { target := .collected D,args := #[] }
abbrev eMk (D : Nat) : Ent := eObj D (.deferred (some []))
def mksD (Ds : List Nat) : List Deferred := Ds.map mkD
def mksE (Ds : List Nat) : List Ent := Ds.map eMk
theorem Sep.perm {n : Nat} {w0 w : World} {es es' : List Ent} (S : Sep n w0 es w) (h : es.Perm es') : Sep n w0 es' w :=
 ⟨S.fro,fun e he => S.ok e (h.mem_iff.2 he),fun e he => S.ge e (h.mem_iff.2 he),(h.pairwise_iff (fun {a b} hab g h1 h2 => hab g h2 h1)).1 S.ap⟩
def bodyPostR (P : Program) (fn : Func) (R : Ending → World → Prop) : Exit → Act → World → Prop
 | .normal,a,w | .ret,a,w => LeavesInM Fence.wide 1 P fn a.tmps R a.defers .returning w
 | _,_,_ => False
def boxN (w : World) : Value → Nat
 | .pointer (some p) => match w.cell? p with
   | some (.int _ x) => x.toNat
   | _ => 0
 | _ => 0
section
section
variable {κ β : Type} [DecidableEq κ]
def MapS (key : κ → Value) (ve : β → Value) (w : World) (b : Nat) (f : κ → Option β) : Prop :=
 ∃ (l : List (κ × β × Nat)) (clock : Nat),w.heap[b]? = some (.map (l.map (entryG key ve)).toArray clock) ∧ (∀ x,f x = valG l x) ∧ ∀ e,e ∈ l → e.2.2 < clock
theorem MapS.g {key : κ → Value} {ve : β → Value} {w : World} {b : Nat} {f : κ → Option β} (h : MapS key ve w b f) : MapG key ve w b f := by
 obtain ⟨l,c,h1,h2,_⟩ := h
 exact ⟨l,c,h1,h2⟩
def MapW (key : κ → Value) (ve : β → Value) (w : World) (b : Nat) (f : κ → Option β) (y : κ) (z : β) (c : Nat) : Prop :=
 ∃ l : List (κ × β × Nat),w.heap[b]? = some (.map ((l ++ [(y,z,c)]).map (entryG key ve)).toArray (c + 1)) ∧ (∀ x,f x = valG l x) ∧ f y = none ∧ ∀ e,e ∈ l → e.2.2 < c
def eMapS (key : κ → Value) (ve : β → Value) (b : Nat) (f : κ → Option β) : Ent where
 foot := [b]
 ok w := MapS key ve w b f
 lt w h k hk := by simp at hk; subst hk; exact h.g.lt
 turn w w' h hg := by
  obtain ⟨l,c,h1,h2⟩ := h
  exact ⟨l,c,(hg b (by simp)).trans h1,h2⟩
def eMapW (key : κ → Value) (ve : β → Value) (b : Nat) (f : κ → Option β) (y : κ) (z : β) (c : Nat) : Ent where
 foot := [b]
 ok w := MapW key ve w b f y z c
 lt w h k hk := by
  simp at hk; subst hk
  obtain ⟨l,h1,_⟩ := h
  exact (Array.getElem?_eq_some_iff.1 h1).1
 turn w w' h hg := by
  obtain ⟨l,h1,h2⟩ := h
  exact ⟨l,(hg b (by simp)).trans h1,h2⟩
theorem valG_fresh {l : List (κ × β × Nat)} {y : κ} (h : valG l y = none) : l.findIdx? (fun e => decide (e.1 = y)) = none := by
 cases hj : l.findIdx? (fun e => decide (e.1 = y)) with
 | none => rfl
 | some j =>
   obtain ⟨e,_,_,h2,_⟩ := valG_some hj
   rw [h] at h2; cases h2
theorem MapS.store {P : Program} {M T E : TypeId} {D : TypeDesc} {key : κ → Value} {ve : β → Value} (K : KeyG P T D key) (hM : P.underlying M = some (.map T E)) {w : World} {b : Nat} {f : κ → Option β} (h : MapS key ve w b f) (y : κ) (hy : f y = none) (v : β) :
 ∃ w',(Instr.mapUpdate M (.map (some b)) (key y) (ve v)).run P w = .ok () w' ∧ MapS key ve w' b (fun u => if u = y then some v else f u) ∧ w.grownBy w' (some b) := by
 obtain ⟨l,c,hb,hf,hs⟩ := h
 have hk := findKeyG_run (ve := ve) K y w l
 have hj := valG_fresh ((hf y).symm.trans hy)
 rw [hj] at hk
 simp only [Option.bind_none] at hk
 refine ⟨ChangeMaps.setBlock w b (.map ((l ++ [(y,v,c)]).map (entryG key ve)).toArray (c + 1)),?_,⟨l ++ [(y,v,c)],c + 1,ChangeMaps.heap_setBlock_same hb _,fun u => by rw [findG_push hj]; simp only [hf],fun e he => ?_⟩,
  ⟨rfl,rfl,rfl,by simp [ChangeMaps.setBlock],fun i _ hi => ChangeMaps.heap_setBlock_other hb _ (fun e => hi (by rw [e]))⟩⟩
 · simp [Instr.mapUpdate,run_underlying hM,MapKept.run_getObj_map hb,K.chk,hk,MapKept.run_setObj_map _ hb,Result.andThen,ChangeMaps.setBlock,entryG]
 · rcases List.mem_append.1 he with g | g
   · have := hs e g; omega
   · rw [List.mem_singleton.1 g]; exact Nat.lt_succ_self c
theorem MapW.fill {P : Program} {M : TypeId} {key : κ → Value} {ve : β → Value} {w : World} {b : Nat} {f : κ → Option β} {y : κ} {z : β} {c : Nat} (h : MapW key ve w b f y z c) (v : β) :
 ∃ w',(Instr.entryStore M (.map (some b)) (.int .i64 (c : Int)) (ve v)).run P w = .ok () w' ∧ MapS key ve w' b (fun u => if u = y then some v else f u) ∧ w.grownBy w' (some b) := by
 obtain ⟨l,hb,hf,hy,hs⟩ := h
 have hj := valG_fresh ((hf y).symm.trans hy)
 have hidx : ((l ++ [(y,z,c)]).map (entryG key ve)).toArray.findIdx? (fun e => ((e.born : Nat) : Int) == ((c : Nat) : Int)) = some l.length := by
  rw [WideElems.findIdx_arr,List.toList_toArray,List.findIdx?_eq_some_iff_getElem]
  refine ⟨by simp,by simp [entryG],fun j hj => ?_⟩
  have hjl : j < l.length := hj
  have : ((l ++ [(y,z,c)]).map (entryG key ve))[j]'(by simp; omega) = entryG key ve l[j] := by
   rw [List.getElem_map,List.getElem_append_left hjl]
  rw [this]
  have h2 := hs l[j] (List.getElem_mem hjl)
  simp only [entryG,beq_iff_eq]
  omega
 refine ⟨ChangeMaps.setBlock w b (.map ((l ++ [(y,v,c)]).map (entryG key ve)).toArray (c + 1)),?_,⟨l ++ [(y,v,c)],c + 1,ChangeMaps.heap_setBlock_same hb _,fun u => by rw [findG_push hj]; simp only [hf],fun e he => ?_⟩,
  ⟨rfl,rfl,rfl,by simp [ChangeMaps.setBlock],fun i _ hi => ChangeMaps.heap_setBlock_other hb _ (fun e => hi (by rw [e]))⟩⟩
 · have hmod : ((l ++ [(y,z,c)]).map (entryG key ve)).toArray.modify l.length (fun e => { e with val := ve v }) = ((l ++ [(y,v,c)]).map (entryG key ve)).toArray := by
    apply Array.ext'
    rw [Array.toList_modify]
    simp only [List.map_append,List.map_cons,List.map_nil]
    have := WideElems.modify_last (fun e : MapEntry => { e with val := ve v }) (entryG key ve (y,z,c)) (l.map (entryG key ve))
    rw [List.length_map] at this
    exact this
   simp only [List.map_append,List.map_cons,List.map_nil] at hidx hmod hb
   simp [Instr.entryStore,MapKept.run_getObj_map hb,asInt,asIntOf,hidx,hmod,MapKept.run_setObj_map _ hb,Result.andThen,ChangeMaps.setBlock]
 · rcases List.mem_append.1 he with g | g
   · have := hs e g; omega
   · rw [List.mem_singleton.1 g]; exact Nat.lt_succ_self c

variable {n : Nat} {w0 w : World} {es : List Ent} {P : Program} {ops : Array Oper} {o : Oper} {a : Act} {K' : Act → World → Prop} {Q : Exit → Act → World → Prop} {F : Prop}
end
end
section

structure BwdD (a : Au) (N : Nat) (tq fs : List Int) (d : Nat → Int) (h k : Nat) : Prop where
 b : Bwd a N tq fs d h k
 up : ∀ (i j : Nat) u v,i ≤ j → fs[i]? = some u → fs[j]? = some v → d u.toNat ≤ d v.toNat
 one : ∀ v w,v ∈ fs → fs[h]? = some w → d v.toNat ≤ d w.toNat + 1
 dz : ∀ v,v ∈ fs → (d v.toNat = 0 ↔ v ∈ tq)
 pr : ∀ v,v ∈ fs → d v.toNat ≠ 0 → ∃ e,nextV a.ed v e ∈ fs ∧ d v.toNat = d (nextV a.ed v e).toNat + 1
 ed : ∀ (j q : Nat) v p,fs[j]? = some v → (predsOf a.ed v.toNat)[q]? = some p → (j < h ∨ j = h ∧ q < k) → d p.toNat ≤ d v.toNat + 1
 lo : ∀ s : Nat,-1 ≤ d s
section
variable {a : Au} {N h k : Nat} {tq fs : List Int} {d : Nat → Int}
theorem BwdD.next (B : BwdD a N tq fs d h k) {v : Int} (hv : fs[h]? = some v) (hk : (predsOf a.ed v.toNat).length ≤ k) : BwdD a N tq fs d (h + 1) 0 :=
 ⟨B.b.next hv hk,B.up,fun u w hu hw => by
  have h1 := B.one u v hu hv
  have h2 := B.up h (h + 1) v w (by omega) hv hw
  omega,B.dz,B.pr,fun j q u p hu hp hc => by
  by_cases g : j < h
  · exact B.ed j q u p hu hp (.inl g)
  · obtain rfl : j = h := by omega
    rw [hv] at hu; cases hu
    have := (List.getElem?_eq_some_iff.1 hp).1
    exact B.ed j q v p hv hp (.inr ⟨rfl,by omega⟩),B.lo⟩
theorem BwdD.old (B : BwdD a N tq fs d h k) {v p : Int} (hv : fs[h]? = some v) (hp : (predsOf a.ed v.toNat)[k]? = some p) (hm : p ∈ fs) : BwdD a N tq fs d h (k + 1) :=
 ⟨B.b.old hv hp hm,B.up,B.one,B.dz,B.pr,fun j q u p' hu hp' hc => by
  by_cases g : j < h ∨ j = h ∧ q < k
  · exact B.ed j q u p' hu hp' g
  · obtain ⟨rfl,rfl⟩ : j = h ∧ q = k := by omega
    rw [hv] at hu; cases hu
    rw [hp] at hp'; cases hp'
    exact B.one p v hm hv,B.lo⟩
theorem BwdD.new (hr : a.Right) (hN : a.n = N) (B : BwdD a N tq fs d h k) {v p : Int} (hv : fs[h]? = some v) (hp : (predsOf a.ed v.toNat)[k]? = some p) (hm : ¬ p ∈ fs) :
 BwdD a N tq (fs ++ [p]) (fun s => if s = p.toNat then d v.toNat + 1 else d s) h (k + 1) := by
 have hvm := List.mem_of_getElem? hv
 have hvr := B.b.rg v hvm
 obtain ⟨x,hx,x1,x2⟩ := mem_predsOf.1 (List.mem_of_getElem? hp)
 have hn := edge_next hr hx
 have hp0 : 0 ≤ p ∧ p < N := by rw [← x2]; omega
 have hd0 : 0 ≤ d v.toNat := (B.b.mem v.toNat (by omega)).2 (by rw [Int.toNat_of_nonneg hvr.1]; exact hvm)
 have old : ∀ u,u ∈ fs → (if u.toNat = p.toNat then d v.toNat + 1 else d u.toNat) = d u.toNat := fun u hu => by
  have h2 := B.b.rg u hu
  have : u ≠ p := fun e => hm (by rw [← e]; exact hu)
  rw [if_neg (by omega)]
 have new : (if p.toNat = p.toNat then d v.toNat + 1 else d p.toNat) = d v.toNat + 1 := if_pos rfl
 have hv' : (fs ++ [p])[h]? = some v := get_keep hv _
 refine ⟨B.b.new hr hN hv hp hm,fun i j u u' hij hu hu' => ?_,fun u w hu hw => ?_,fun u hu => ?_,fun u hu h0 => ?_,fun j q u p' hu hp' hc => ?_,fun s => by
  show -1 ≤ (if s = p.toNat then d v.toNat + 1 else d s)
  have := B.lo s
  split <;> omega⟩
 · rcases getElem?_snoc hu' with g' | ⟨g',rfl⟩
   · have hj := (List.getElem?_eq_some_iff.1 g').1
     have g : fs[i]? = some u := by rwa [List.getElem?_append_left (by omega)] at hu
     show (if u.toNat = p.toNat then d v.toNat + 1 else d u.toNat) ≤ (if u'.toNat = p.toNat then d v.toNat + 1 else d u'.toNat)
     rw [old u (List.mem_of_getElem? g),old u' (List.mem_of_getElem? g')]
     exact B.up i j u u' hij g g'
   · show (if u.toNat = u'.toNat then d v.toNat + 1 else d u.toNat) ≤ (if u'.toNat = u'.toNat then d v.toNat + 1 else d u'.toNat)
     rw [new]
     rcases getElem?_snoc hu with g | ⟨_,rfl⟩
     · rw [old u (List.mem_of_getElem? g)]
       exact B.one u v (List.mem_of_getElem? g) hv
     · rw [new]; exact Int.le_refl _
 · rw [hv'] at hw; cases hw
   show (if u.toNat = p.toNat then d v.toNat + 1 else d u.toNat) ≤ (if v.toNat = p.toNat then d v.toNat + 1 else d v.toNat) + 1
   rw [old v hvm]
   rcases List.mem_append.1 hu with g | g
   · rw [old u g]; exact B.one u v g hv
   · rw [List.mem_singleton.1 g,new]; exact Int.le_refl _
 · show (if u.toNat = p.toNat then d v.toNat + 1 else d u.toNat) = 0 ↔ u ∈ tq
   rcases List.mem_append.1 hu with g | g
   · rw [old u g]; exact B.dz u g
   · rw [List.mem_singleton.1 g,new]
     exact ⟨fun e => by omega,fun e => absurd (B.b.tgt p e) hm⟩
 · have h0' : (if u.toNat = p.toNat then d v.toNat + 1 else d u.toNat) ≠ 0 := h0
   show ∃ e,nextV a.ed u e ∈ fs ++ [p] ∧ (if u.toNat = p.toNat then d v.toNat + 1 else d u.toNat) = (if (nextV a.ed u e).toNat = p.toNat then d v.toNat + 1 else d (nextV a.ed u e).toNat) + 1
   rcases List.mem_append.1 hu with g | g
   · rw [old u g] at h0' ⊢
     obtain ⟨e,e1,e2⟩ := B.pr u g h0'
     exact ⟨e,List.mem_append_left _ e1,by rw [old _ e1]; exact e2⟩
   · rw [List.mem_singleton.1 g,new]
     have e3 : nextV a.ed p x.ev = v := by rw [← x2,hn.1,x1,Int.toNat_of_nonneg hvr.1]
     exact ⟨x.ev,by rw [e3]; exact List.mem_append_left _ hvm,by rw [e3,old v hvm]⟩
 · show (if p'.toNat = p.toNat then d v.toNat + 1 else d p'.toNat) ≤ (if u.toNat = p.toNat then d v.toNat + 1 else d u.toNat) + 1
   rcases getElem?_snoc hu with g | ⟨g,rfl⟩
   · rw [old u (List.mem_of_getElem? g)]
     by_cases c : j < h ∨ j = h ∧ q < k
     · rw [old p' (B.b.cl j q u p' g hp' c)]
       exact B.ed j q u p' g hp' c
     · obtain ⟨rfl,rfl⟩ : j = h ∧ q = k := by omega
       rw [hv] at g; cases g
       rw [hp] at hp'; cases hp'
       rw [new]; exact Int.le_refl _
   · have := (List.getElem?_eq_some_iff.1 hv).1
     omega
theorem BwdD.start (hnd : tq.Nodup) (hrg : ∀ v,v ∈ tq → 0 ≤ v ∧ v < N) : BwdD a N tq tq (fun s => if (s : Int) ∈ tq then 0 else -1) 0 0 := by
 have z : ∀ v,v ∈ tq → (if ((v.toNat : Nat) : Int) ∈ tq then (0 : Int) else -1) = 0 := fun v hv => by
  have := hrg v hv
  rw [Int.toNat_of_nonneg this.1,if_pos hv]
 exact ⟨Bwd.start hnd hrg,fun i j u v _ hu hv => by
  show (if ((u.toNat : Nat) : Int) ∈ tq then (0 : Int) else -1) ≤ (if ((v.toNat : Nat) : Int) ∈ tq then (0 : Int) else -1)
  rw [z u (List.mem_of_getElem? hu),z v (List.mem_of_getElem? hv)]; exact Int.le_refl _,fun v w hv hw => by
  show (if ((v.toNat : Nat) : Int) ∈ tq then (0 : Int) else -1) ≤ (if ((w.toNat : Nat) : Int) ∈ tq then (0 : Int) else -1) + 1
  rw [z v hv,z w (List.mem_of_getElem? hw)]; decide,fun v hv => ⟨fun _ => hv,fun _ => z v hv⟩,fun v hv h => absurd (z v hv) h,fun j q v p _ _ h => by omega,fun s => by show -1 ≤ (if (s : Int) ∈ tq then (0 : Int) else -1); split <;> omega⟩
def DistOk (a : Au) (N : Nat) (tq : List Int) (d : Nat → Int) : Prop := ∀ s : Nat,s < N → (0 ≤ d s ↔ ∃ w,runV a.ed s w ∈ tq) ∧ (0 ≤ d s → ∃ w : List Int,(w.length : Int) = d s ∧ runV a.ed s w ∈ tq) ∧ (∀ w : List Int,runV a.ed s w ∈ tq → d s ≤ w.length) ∧ -1 ≤ d s
theorem BwdD.fin (hr : a.Right) (hN : a.n = N) (hto : ∀ v,v ∈ tq → 0 ≤ v) (B : BwdD a N tq fs d fs.length k) : DistOk a N tq d := by
 have hcl : ∀ v e,0 ≤ v → nextV a.ed v e ∈ fs → v ∈ fs ∧ d v.toNat ≤ d (nextV a.ed v e).toNat + 1 := by
  intro v e hv hu
  have g0 := (B.b.rg _ hu).1
  rcases hr.next_cases v e with g | ⟨_,_,x,hx,x1,x2,x3⟩
  · omega
  · obtain ⟨j,hj,hju⟩ := List.mem_iff_getElem.1 hu
    have hpm : v ∈ predsOf a.ed (nextV a.ed v e).toNat := mem_predsOf.2 ⟨x,hx,by rw [x3,Int.toNat_of_nonneg g0],x1⟩
    obtain ⟨q,hq,hqv⟩ := List.mem_iff_getElem.1 hpm
    exact ⟨B.b.cl j q _ v (by rw [List.getElem?_eq_getElem hj,hju]) (by rw [List.getElem?_eq_getElem hq,hqv]) (.inl hj),B.ed j q _ v (by rw [List.getElem?_eq_getElem hj,hju]) (by rw [List.getElem?_eq_getElem hq,hqv]) (.inl hj)⟩
 have key : ∀ (w : List Int) (v : Int),0 ≤ v → runV a.ed v w ∈ tq → v ∈ fs ∧ d v.toNat ≤ w.length := by
  intro w
  induction w with
  | nil =>
    intro v _ h
    have hm := B.b.tgt v h
    exact ⟨hm,by rw [(B.dz v hm).2 h]; exact Int.le_refl _⟩
  | cons e r ih =>
    intro v hv h
    simp only [runV,hv,if_true] at h
    rcases hr.next_cases v e with g | ⟨g0,_⟩
    · rw [g,runV_neg _ (by omega)] at h
      have := hto _ h; omega
    · obtain ⟨h1,h2⟩ := ih _ g0 h
      obtain ⟨h3,h4⟩ := hcl v e hv h1
      exact ⟨h3,by simp only [List.length_cons]; omega⟩
 have ex : ∀ (n : Nat) (v : Int),v ∈ fs → d v.toNat = n → ∃ w : List Int,w.length = n ∧ runV a.ed v w ∈ tq := by
  intro n
  induction n with
  | zero => intro v hv h0; exact ⟨[],rfl,(B.dz v hv).1 h0⟩
  | succ n ih =>
    intro v hv h0
    obtain ⟨e,h1,h2⟩ := B.pr v hv (by omega)
    obtain ⟨w,hw1,hw2⟩ := ih _ h1 (by omega)
    have hv0 := (B.b.rg v hv).1
    exact ⟨e :: w,by simp [hw1],by simp only [runV,hv0,if_true]; exact hw2⟩
 intro s hs
 refine ⟨B.b.fin hr hN hto hs,fun h0 => ?_,fun w hw => ?_,B.lo s⟩
 · have hm := (B.b.mem s hs).1 h0
   obtain ⟨n,hn⟩ := Int.eq_ofNat_of_zero_le h0
   obtain ⟨w,h1,h2⟩ := ex n s hm (by rw [Int.toNat_natCast]; exact hn)
   exact ⟨w,by rw [h1,hn],h2⟩
 · have := (key w s (Int.natCast_nonneg _) hw).2
   rwa [Int.toNat_natCast] at this
end
end
def GivesBD (a : Au) (tg : List Int) (w : World) (e : Ending) (w' : World) : Prop := ∃ g d,e = .returned (.slice (some ⟨g,0,none⟩) a.n.toNat a.n.toNat) ∧ Hid (Sep w.heap.size w [eBlk g 3 (mkI a.n.toNat d)] w') ∧ Hid (DistOk a a.n.toNat tg d)
section
attribute [local go_sem] Oper.semAt_some

def inS (fs : List Ps) (t : Int) : Bool := decide (t ∈ fs.map Ps.s)
def eKeep (w : World) (lo g0 : Nat) : Ent where
 foot := (List.range w.heap.size).filter fun k => decide (lo ≤ k ∧ k ≠ g0)
 ok V := ∀ k,k < w.heap.size → lo ≤ k → k ≠ g0 → V.heap[k]? = w.heap[k]?
 lt V h k hk := by
  simp only [List.mem_filter,List.mem_range,decide_eq_true_eq] at hk
  have := h k hk.1 hk.2.1 hk.2.2
  rw [Array.getElem?_eq_getElem hk.1] at this
  exact (Array.getElem?_eq_some_iff.1 this).1
 turn V V' h hg := fun k h1 h2 h3 => (hg k (by simp only [List.mem_filter,List.mem_range,decide_eq_true_eq]; exact ⟨h1,h2,h3⟩)).trans (h k h1 h2 h3)
theorem Sep.keep {w0 w : World} {n g0 T : Nat} {cs : List Value} (S : Sep n w0 [eBlk g0 T cs] w) : Sep n w0 [eBlk g0 T cs,eKeep w n g0] w := by
 refine ⟨S.fro,fun e he => ?_,fun e he g hg => ?_,?_⟩
 · simp only [List.mem_cons,List.not_mem_nil,or_false] at he
   rcases he with rfl | rfl
   · exact S.get 0 rfl
   · exact fun k _ _ _ => rfl
 · simp only [List.mem_cons,List.not_mem_nil,or_false] at he
   rcases he with rfl | rfl
   · exact S.ge _ (by simp) g hg
   · simp only [eKeep,List.mem_filter,List.mem_range,decide_eq_true_eq] at hg
     exact hg.2.1
 · simp only [List.pairwise_cons,List.mem_cons,List.not_mem_nil,or_false,forall_eq,List.Pairwise.nil,and_true,false_imp_iff,imp_true_iff,implies_true]
   intro g hg hk
   simp only [eBlk,List.mem_cons,List.not_mem_nil,or_false] at hg
   simp only [eKeep,List.mem_filter,List.mem_range,decide_eq_true_eq] at hk
   exact hk.2.2 hg
theorem Sep.kept {w0 w V : World} {n g0 T i j : Nat} {cs : List Value} {es : List Ent} (S0 : Sep n w0 [eBlk g0 T cs] w) (S : Sep n w0 es V) (hi : es[i]? = some (eBlk g0 T cs)) (hj : es[j]? = some (eKeep w n g0)) : Below w.heap.size w V := by
 have hk := S.get j hj
 have b0 := S0.fro.b
 have b1 := S.fro.b
 have blk : ∀ k,k < w.heap.size → V.heap[k]? = w.heap[k]? := fun k hkw => by
  by_cases h1 : k < n
  · rw [b1.block k h1,b0.block k h1]
  · by_cases h2 : k = g0
    · rw [h2]
      have e1 : V.heap[g0]? = _ := S.get i hi
      have e2 : w.heap[g0]? = _ := S0.get 0 rfl
      rw [e1,e2]
    · exact hk k hkw (by omega) h2
 refine ⟨b1.os.trans b0.os.symm,b1.tape.trans b0.tape.symm,b1.output.trans b0.output.symm,?_,blk⟩
 rcases Nat.eq_zero_or_pos w.heap.size with e | e
 · omega
 · have := blk (w.heap.size - 1) (by omega)
   have h2 : w.heap[w.heap.size - 1]? = some _ := Array.getElem?_eq_getElem (by omega)
   rw [h2] at this
   have := (Array.getElem?_eq_some_iff.1 this).1
   omega
def GivesPth (a : Au) (pm : Ed → Bool) (s0 : Int) (wt : Int → Bool) (w : World) (e : Ending) (w' : World) : Prop := ∃ (A : Option Addr) (c : Nat) (l : List Int) (f : Bool),e = .returned (.tuple #[.slice A l.length c,.bool f]) ∧ Hid (IntsAt w' A l) ∧ Below w.heap.size w w' ∧ Hid (PthW a pm s0 wt f l) ∧ l.length ≤ 4096
end
theorem setOk.rg {l : List Int} {n : Int} (h : setOk l n l.length) : ∀ x,x ∈ l → 0 ≤ x ∧ x < n := fun x hx => by
 obtain ⟨i,hi,rfl⟩ := List.mem_iff_getElem.1 hx
 have := h i _ hi (List.getElem?_eq_getElem hi)
 exact ⟨this.1,this.2.1⟩
theorem setOk.nodup {l : List Int} {n : Int} (h : setOk l n l.length) : l.Nodup := by
 rw [List.nodup_iff_pairwise_ne,List.pairwise_iff_getElem]
 intro i j hi hj hij he
 have := h.incr i j _ _ hij (List.getElem?_eq_getElem hi) (List.getElem?_eq_getElem hj)
 omega
def GivesPath (a : Au) (s0 : Int) (tg wi : List Int) (w : World) (e : Ending) (w' : World) : Prop := ∃ (A : Option Addr) (c : Nat) (l : List Int) (f : Bool),e = .returned (.tuple #[.slice A l.length c,.bool f,.int .i64 0]) ∧ Hid (IntsAt w' A l) ∧ Below w.heap.size w w' ∧
 Hid ((s0 ∈ wi → PthW a (fun x => decide (x.dst ∈ wi)) s0 (fun s => decide (s ∈ tg)) f l) ∧ (¬ s0 ∈ wi → f = false ∧ l = []))
def GivesDs (a : Au) (tg : List Int) (w : World) (e : Ending) (w' : World) : Prop := ∃ g d,e = .returned (.tuple #[.slice (some ⟨g,0,none⟩) a.n.toNat a.n.toNat,.int .i64 0]) ∧ Hid (Sep w.heap.size w [eBlk g 3 (mkI a.n.toNat d)] w') ∧ Hid (DistOk a a.n.toNat tg d)
section
attribute [local go_sem] Oper.semAt_some

def mkV (X : Nat → Bool) (k : Nat) : List Int := ((List.range k).filter X).map fun s : Nat => (s : Int)
theorem mkV_yes {X : Nat → Bool} {k : Nat} (h : X k = true) : mkV X (k + 1) = mkV X k ++ [(k : Int)] := by simp [mkV,List.range_succ,List.filter_append,h]
theorem mkV_no {X : Nat → Bool} {k : Nat} (h : X k = false) : mkV X (k + 1) = mkV X k := by simp [mkV,List.range_succ,List.filter_append,h]
theorem mkV_len (X : Nat → Bool) (k : Nat) : (mkV X k).length ≤ k := by
 have := List.length_filter_le X (List.range k)
 simpa [mkV] using this
theorem mkB_clear {n : Nat} {X : Nat → Bool} (s : Nat) : (mkB n X).set s (.bool false) = mkB n fun t => !decide (t = s) && X t := by
 apply List.ext_getElem?
 intro j
 by_cases hj : j < n
 · rw [mkB_get hj,List.getElem?_set]
   by_cases e : s = j
   · subst e
     rw [if_pos rfl,if_pos (by simpa [mkB] using hj)]
     simp
   · rw [if_neg e,mkB_get hj]
     have : ¬ j = s := fun h => e h.symm
     simp [this]
 · rw [List.getElem?_eq_none (by simp [mkB]; omega),List.getElem?_eq_none (by simp [mkB]; omega)]
def cntT (X : Nat → Bool) (N : Nat) : Nat := ((List.range N).filter X).length
def isT : Option Value → Bool
 | some (.bool true) => true
 | _ => false
def wT (w : World) (g N : Nat) : Nat := cntT (fun s => isT (w.cell? ⟨g,s,none⟩)) N
def boolN : Value → Nat
 | .bool true => 1
 | _ => 0
def IntOk (a : Au) (st ev : List Int) (X : Nat → Bool) : Prop := (∀ s : Nat,X s = true → (s : Int) ∈ st) ∧ (∀ x,x ∈ a.ed → X x.src.toNat = true → x.ev ∈ ev → X x.dst.toNat = true) ∧
 ∀ Y : Nat → Bool,(∀ s : Nat,Y s = true → (s : Int) ∈ st) → (∀ x,x ∈ a.ed → Y x.src.toNat = true → x.ev ∈ ev → Y x.dst.toNat = true) → ∀ s : Nat,Y s = true → X s = true
def IntUp (a : Au) (st ev : List Int) (X : Nat → Bool) : Prop := (∀ s : Nat,X s = true → (s : Int) ∈ st) ∧
 ∀ Y : Nat → Bool,(∀ s : Nat,Y s = true → (s : Int) ∈ st) → (∀ x,x ∈ a.ed → Y x.src.toNat = true → x.ev ∈ ev → Y x.dst.toNat = true) → ∀ s : Nat,Y s = true → X s = true
theorem IntUp.clear {a : Au} {st ev : List Int} {X : Nat → Bool} (h : IntUp a st ev X) {x : Ed} (hx : x ∈ a.ed) (h1 : X x.dst.toNat = false) (h2 : x.ev ∈ ev) : IntUp a st ev (fun t => !decide (t = x.src.toNat) && X t) := by
 refine ⟨fun s hs => ?_,fun Y hY hc s hs => ?_⟩
 · simp only [Bool.and_eq_true] at hs
   exact h.1 s hs.2
 · have := h.2 Y hY hc s hs
   simp only [Bool.and_eq_true,Bool.not_eq_true',decide_eq_false_iff_not]
   refine ⟨fun e => ?_,this⟩
   subst e
   have := h.2 Y hY hc _ (hc x hx hs h2)
   rw [h1] at this; cases this
def GivesInt (a : Au) (st ev : List Int) (w : World) (e : Ending) (w' : World) : Prop := ∃ (A : Option Addr) (c : Nat) (X : Nat → Bool),e = .returned (.tuple #[.slice A (mkV X a.n.toNat).length c,.int .i64 0]) ∧ Hid (IntsAt w' A (mkV X a.n.toNat)) ∧ Below w.heap.size w w' ∧ Hid (IntOk a st ev X)
end
def DistW (a b : Au) (x y : Int) (f : Bool) (l : List Int) : Prop := f = true ∧ LeastW (LeadsTo (stp2 a b) (x,y) (unionS a.al b.al) (fun q => pdV a b q = true)) l ∨ f = false ∧ l = [] ∧ ∀ u,¬ LeadsTo (stp2 a b) (x,y) (unionS a.al b.al) (fun q => pdV a b q = true) u
def InSt (a : Au) (x y : Int) : Prop := (0 ≤ x ∧ x < a.n) ∧ (0 ≤ y ∧ y < a.n)
def GivesDX (a : Au) (x y : Int) (w : World) (e : Ending) (w' : World) : Prop := ∃ (A : Option Addr) (c : Nat) (l : List Int) (f : Bool) (r : Int),e = .returned (.tuple #[.slice A l.length c,.bool f,.int .i64 r]) ∧ Hid (IntsAt w' A l) ∧ Below w.heap.size w w' ∧
 Hid ((r ≠ 0 ∧ l = [] ∧ f = false ∧ (ChkErr a r ∨ a.Right ∧ r = 2 ∧ ¬ InSt a x y)) ∨ (r = 0 ∧ a.Right ∧ InSt a x y ∧ DistW a a x y f l))
def GivesQX (a b : Au) (w : World) (e : Ending) (w' : World) : Prop := ∃ (A : Option Addr) (c : Nat) (l : List Int) (f : Bool) (r : Int),e = .returned (.tuple #[.bool f,.slice A l.length c,.int .i64 r]) ∧ Hid (IntsAt w' A l) ∧ Below w.heap.size w w' ∧
 Hid ((r ≠ 0 ∧ l = [] ∧ f = false ∧ (ChkErr a r ∨ a.Right ∧ ChkErr b r)) ∨ (r = 0 ∧ a.Right ∧ b.Right ∧ (((a.n = 0 ∨ b.n = 0) ∧ l = [] ∧ f = decide (a.n = b.n)) ∨ (0 < a.n ∧ 0 < b.n ∧ ∃ g,f = !g ∧ DistW a b 0 0 g l))))
def FewV (a : Au) : Prop := a.al.length ≤ 6 ∧ a.mr.length ≤ 8 ∧ a.ed.length ≤ 12 ∧ (a.n ≤ 8 ∨ 4096 < a.n)
section

def EqK (a : Au) (k : Nat) (i j : Int) : Prop := ∀ w : List Int,w.length ≤ k → (0 ≤ runV a.ed i w ↔ 0 ≤ runV a.ed j w) ∧ (runV a.ed i w ∈ a.mr ↔ runV a.ed j w ∈ a.mr)
section
variable {a : Au} {k : Nat}
theorem EqK.refl (k : Nat) (i : Int) : EqK a k i i := fun _ _ => ⟨Iff.rfl,Iff.rfl⟩
theorem EqK.symm {i j : Int} (h : EqK a k i j) : EqK a k j i := fun w hw => ⟨(h w hw).1.symm,(h w hw).2.symm⟩
theorem EqK.trans {i j l : Int} (h : EqK a k i j) (g : EqK a k j l) : EqK a k i l := fun w hw => ⟨(h w hw).1.trans (g w hw).1,(h w hw).2.trans (g w hw).2⟩
theorem EqK.less {i j : Int} {m : Nat} (h : EqK a k i j) (hm : m ≤ k) : EqK a m i j := fun w hw => h w (by omega)
theorem runV_cons {l : List Ed} {s e : Int} (h : 0 ≤ s) (r : List Int) : runV l s (e :: r) = runV l (nextV l s e) r := by simp [runV,h]
theorem EqK.next {i j : Int} (h : EqK a (k + 1) i j) (hi : 0 ≤ i) (hj : 0 ≤ j) (e : Int) : EqK a k (nextV a.ed i e) (nextV a.ed j e) := fun w hw => by
 have := h (e :: w) (by simp; omega)
 rw [runV_cons hi,runV_cons hj] at this
 exact this
open Classical in
noncomputable def reps (a : Au) (n k : Nat) : List Nat := (List.range n).filter fun s => decide (∀ t : Nat,t < s → ¬ EqK a k t s)
end
end
theorem Canon.uniq {c d : List Int} {m k : Nat} (hc : Canon c m) (hd : Canon d k) (hl : c.length = d.length) (h : ∀ i j : Nat,i < c.length → j < c.length → (c[i]? = c[j]? ↔ d[i]? = d[j]?)) : c = d := by
 have key : ∀ i : Nat,i < c.length → c[i]? = d[i]? := by
  intro i
  induction i using Nat.strongRecOn with
  | ind i ih =>
    intro hi
    have hid : i < d.length := by omega
    by_cases hj : ∃ j,j < i ∧ c[j]? = c[i]?
    · obtain ⟨j,hji,hje⟩ := hj
      rw [← hje,ih j hji (by omega)]
      exact (h j i (by omega) hi).1 hje
    · have hx : c[i]? = some c[i] := List.getElem?_eq_getElem hi
      have hy : d[i]? = some d[i] := List.getElem?_eq_getElem hid
      have r1 := hc.rg i _ hx
      have r2 := hd.rg i _ hy
      rw [hx,hy]
      rcases Int.lt_trichotomy c[i] d[i] with g | g | g
      · obtain ⟨t,ht,htd⟩ := hd.cn i _ hy c[i].toNat (by omega)
        refine absurd ⟨t,ht,?_⟩ hj
        rw [ih t ht (by omega),htd,hx]
        congr 1; omega
      · rw [g]
      · obtain ⟨t,ht,htd⟩ := hc.cn i _ hx d[i].toNat (by omega)
        refine absurd ⟨t,ht,?_⟩ hj
        refine (h t i (by omega) hi).2 ?_
        rw [← ih t ht (by omega),htd,hy]
        congr 1; omega
 apply List.ext_getElem?
 intro i
 by_cases hi : i < c.length
 · exact key i hi
 · rw [List.getElem?_eq_none (by omega),List.getElem?_eq_none (by omega)]
def exA : Au := ⟨[0,1],4,[3],[⟨0,0,1⟩,⟨0,1,2⟩,⟨1,0,3⟩,⟨2,0,3⟩]⟩
theorem Eqv.refl (a : Au) (i : Int) : Eqv a i i := fun _ => ⟨Iff.rfl,Iff.rfl⟩
def exC : List Int := [0,1,1,2]
def GivesEx (w : World) (e : Ending) (w' : World) : Prop := ∃ X1 x1 X2 x2 X3 x3,e = .returned (.agg #[.slice X1 2 x1,.int .i64 4,.slice X2 1 x2,.slice X3 4 x3]) ∧ Hid (Sep w.heap.size w [eInts [0,1] (.slice X1 2 x1),eInts [3] (.slice X2 1 x2),eEds exA.ed (.slice X3 4 x3)] w')
def exB : Au := ⟨[0,1],4,[1],[⟨0,0,1⟩,⟨0,1,2⟩,⟨1,0,1⟩,⟨2,0,3⟩,⟨3,1,2⟩]⟩
def pmB : Ed → Bool := fun x => decide (x.dst ∈ [(0 : Int),1,2,3])
theorem setOk_dec {l : List Int} {n : Int} (h1 : ∀ x,x ∈ l → 0 ≤ x ∧ x < n) (h2 : l.Pairwise (· < ·)) : setOk l n l.length := fun i x hi hx => by
 have hm := h1 x (List.mem_of_getElem? hx)
 refine ⟨hm.1,hm.2,fun y h0 hy => ?_⟩
 obtain ⟨a1,a2⟩ := List.getElem?_eq_some_iff.1 hx
 obtain ⟨b1,b2⟩ := List.getElem?_eq_some_iff.1 hy
 have := List.pairwise_iff_getElem.1 h2 (i - 1) i b1 a1 (by omega)
 rw [a2,b2] at this
 exact this
def GivesEx4 (w : World) (e : Ending) (w' : World) : Prop := ∃ X1 x1 X2 x2 X3 x3,e = .returned (.agg #[.slice X1 2 x1,.int .i64 4,.slice X2 1 x2,.slice X3 5 x3]) ∧ Hid (Sep w.heap.size w [eInts [0,1] (.slice X1 2 x1),eInts [1] (.slice X2 1 x2),eEds exB.ed (.slice X3 5 x3)] w')
section
attribute [local go_sem] Oper.semAt_some

structure Sm4 where
 s : Int
 m : Int
 g : List Int
def Sm4.cells (d : Sm4) : List Value := .int .u8 d.s :: .int .u8 d.m :: d.g.map (.int .u8)
structure Sm4.Ok (d : Sm4) : Prop where
 s0 : 0 ≤ d.s
 s1 : d.s < 256
 m0 : 0 ≤ d.m
 m1 : d.m < 256
 l : d.g.length = 24
 rg : ∀ x,x ∈ d.g → 0 ≤ x ∧ x < 256
def bit4 (m : Int) (i : Nat) : Bool := (bits BinOp.and IntKind.u8 (m / 2 ^ i) 1 == 1)
def Sm4.t (d : Sm4) (i j : Nat) : Int := d.g.getD (i * 4 + j) 0 % 7 - 1
def Sm4.has (d : Sm4) (N i j : Nat) : Bool := decide (0 ≤ d.t i j) && decide (d.t i j < (N : Int))
def Sm4.row (d : Sm4) (N i k : Nat) : List Ed := ((List.range k).filter (d.has N i)).map fun j : Nat => ⟨(i : Int),(j : Int),d.t i j⟩
def Sm4.eds (d : Sm4) (N k : Nat) : List Ed := (List.range k).flatMap fun i => d.row N i 4
def Sm4.ms (d : Sm4) (k : Nat) : List Int := mkV (bit4 d.m) k
def Sm4.n (d : Sm4) : Nat := (1 + d.s % 6).toNat
def Sm4.au (d : Sm4) : Au := ⟨[0,1,2,3],(d.n : Int),d.ms d.n,d.eds d.n d.n⟩
def GivesM4 (d : Sm4) (w : World) (e : Ending) (w' : World) : Prop := ∃ p,e = .returned (d.au.val p) ∧ Hid (Sep w.heap.size w (eAu d.au p) w')
end
def edLt4 (x y : Ed) : Prop := x.src < y.src ∨ x.src = y.src ∧ x.ev < y.ev
theorem mkV_ok (X : Nat → Bool) (k : Nat) : setOk (mkV X k) k (mkV X k).length := by
 refine setOk_dec (fun x hx => ?_) ?_
 · unfold mkV at hx
   simp only [List.mem_map,List.mem_filter,List.mem_range] at hx
   obtain ⟨s,⟨h1,_⟩,rfl⟩ := hx
   omega
 · unfold mkV
   rw [List.pairwise_map]
   exact (List.Pairwise.filter _ List.pairwise_lt_range).imp fun h => by omega
end Go.Proofs.Ytccfcaejlohahaa
