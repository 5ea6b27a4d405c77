/-
  search: the least word that leads two machines to a pair that is wanted.
  Words for memory: things that lie apart, all in memory of the call's own; one step turns one of them.
  Words for memory: a map of the call's own whose number of entries is known; strings as keys.
  Plain: what the search for a word that tells two states apart has done.
  slices.Sort and slices.Compact of a list of the call's own: the library's contracts, laid at this program (the first declarations are what the kit's command lays, printed by lay.py).
  minimal.marks, reach.flags: a flag for each state.
  Plain: an automaton that is built breadth first out of a system: its states are numbered as they are found, one for each key.
  Plain: what the functions of layer 4 compute, step by step.
  Plain: classes of states that are refined till nothing parts them; what the minimal automaton is.
  Plain: what merge and Restrict build out of an automaton.
  minimal.appendInt, refine.
-/
import Derived.Test.YtccfcaejlohahaaBas02
import Derived.Deep.RegionLaw
import Derived.Deep.RegionHeld3
import Derived.Test.YtccfcaejlohahaaBas01
import Derived.Shelf.SortM.Plain
import Derived.Shelf.SortM.SortNone
import Derived.Shelf.SlicesG.CompactI
import Derived.Sort.OwnSortedInts
set_option linter.unusedSimpArgs false
set_option linter.unusedVariables false
namespace Go.Proofs.Ytccfcaejlohahaa
open Go.RowKit
set_option maxRecDepth 100000
section

theorem nodup_lenN : ∀ (n : Nat) (l : List Nat),l.Nodup → (∀ x,x ∈ l → x < n) → l.length ≤ n
 | 0,l,_,h => by
   cases l with
   | nil => simp
   | cons a r => have := h a (by simp); omega
 | n + 1,l,hn,h => by
   have h1 := nodup_lenN n (l.filter (fun x => decide (x ≠ n))) (hn.filter _) (fun x hx => by
    simp only [List.mem_filter,decide_eq_true_eq] at hx
    have := h x hx.1
    omega)
   have h2 : l.length ≤ (l.filter (fun x => decide (x ≠ n))).length + 1 := by
    clear h1 h
    induction l with
    | nil => simp
    | cons a r ih =>
      rw [List.nodup_cons] at hn
      by_cases e : a = n
      · subst e
        have : r.filter (fun x => decide (x ≠ a)) = r := List.filter_eq_self.2 (fun x hx => by
         simp only [decide_eq_true_eq]
         rintro rfl
         exact hn.1 hx)
        rw [List.filter_cons,this]
        simp
      · rw [List.filter_cons]
        have := ih hn.2
        rw [if_pos (by simpa using e),List.length_cons,List.length_cons]
        omega
   omega

theorem MapG.kept {κ β : Type} [DecidableEq κ] {key : κ → Value} {ve : β → Value} {w w' : World} {b : Nat} {v : Value} {f : κ → Option β} (h : MapG key ve w b f) (hg : w.grownBy w' v.ownBlock) (hne : v.ownBlock ≠ some b) : MapG key ve w' b f := by
 have hlt := h.lt
 obtain ⟨l,c,h1,h2⟩ := h
 exact ⟨l,c,(hg.block b hlt (fun e => hne e.symm)).trans h1,h2⟩

structure Vs where
 x : Int
 y : Int
 b : Int
 e : Int
def Vs.cells (v : Vs) : List Value := [.int .i64 v.x,.int .i64 v.y,.int .i64 v.b,.int .i64 v.e]
def Vs.pr (v : Vs) : Int × Int := (v.x,v.y)
def VsE : Reading Vs := fun _ x vs => vs = Vs.cells x
theorem VsE.get {w : World} {A : Option Addr} {l : List Vs} (h : SlAt VsE 4 w A l) {k : Nat} {v : Vs} (hx : l[k]? = some v) : ∃ b off,A = some ⟨b,off,none⟩ ∧ b < w.heap.size ∧
 w.cell? ⟨b,off + k * 4,none⟩ = some (.int .i64 v.x) ∧ w.cell? ⟨b,off + k * 4 + 1,none⟩ = some (.int .i64 v.y) ∧ w.cell? ⟨b,off + k * 4 + 2,none⟩ = some (.int .i64 v.b) ∧ w.cell? ⟨b,off + k * 4 + 3,none⟩ = some (.int .i64 v.e) := by
 obtain ⟨b,off,y,vs,hA,hlt,hy,_,hE,hc⟩ := SlAt.at h (List.getElem?_eq_some_iff.1 hx).1
 obtain rfl : vs = Vs.cells y := hE
 rw [hx] at hy; cases hy
 exact ⟨b,off,hA,hlt,by simpa using hc 0 _ rfl,hc 1 _ rfl,hc 2 _ rfl,hc 3 _ rfl⟩

def NotIn (v : Value) (b : Nat) : Prop := v.ownBlock ≠ some b
def stp2 (a b : Au) (s : Int × Int) (e : Int) : Int × Int := (toV (stepOf a.ed) s.1 e,toV (stepOf b.ed) s.2 e)
def dead2 (s : Int × Int) : Prop := s = (-1,-1)
theorem Au.Right.to_cases {a : Au} (h : a.Right) (s e : Int) : toV (stepOf a.ed) s e = -1 ∨ 0 ≤ toV (stepOf a.ed) s e ∧ toV (stepOf a.ed) s e < a.n := by
 rw [← h.next]
 rcases h.next_cases s e with k | k
 · exact .inl k
 · exact .inr ⟨k.1,k.2.1⟩
def memF (l : List (Int × Int)) (q : Int × Int) : Option Bool := if q ∈ l then some true else none
structure SInv (a b : Au) (evs : List Int) (P : Int × Int → Bool) (i k t : Nat) (vis : List Vs) (ws : List (List Int)) : Prop where
 bfs : Bfs (stp2 a b) (a.st,b.st) dead2 evs i k (vis.map Vs.pr) ws
 lk : Link (vis.map fun v => (v.b,v.e)) ws
 nd : (vis.map Vs.pr).Nodup
 rg : ∀ v,v ∈ vis → -1 ≤ v.x ∧ v.x ≤ a.n ∧ -1 ≤ v.y ∧ v.y ≤ b.n
 no : ∀ (j : Nat) v,j < t → (vis.map Vs.pr)[j]? = some v → P v = false
section
variable {a b : Au} {evs : List Int} {P : Int × Int → Bool} {i k t : Nat} {vis : List Vs} {ws : List (List Int)}
theorem st_rg (h : a.Right) : -1 ≤ a.st ∧ a.st ≤ a.n := by
 have := h.n0
 unfold Au.st
 split <;> omega
theorem SInv.start (ha : a.Right) (hb : b.Right) (evs : List Int) (P : Int × Int → Bool) : SInv a b evs P 0 0 0 [⟨a.st,b.st,-1,0⟩] [[]] :=
 ⟨Bfs.start,⟨rfl,fun j q hq => by
  have := (List.getElem?_eq_some_iff.1 hq).1
  obtain rfl : j = 0 := by simp at this; omega
  simp at hq; subst hq
  exact ⟨fun _ => rfl,fun h => absurd h (by omega)⟩⟩,by simp,fun v hv => by
  simp at hv; subst hv
  have := st_rg ha; have := st_rg hb
  simp only; omega,fun j v h => absurd h (by omega)⟩
theorem SInv.len (h : SInv a b evs P i k t vis ws) (ha : a.Right) (hb : b.Right) : vis.length ≤ (a.n.toNat + 2) * (b.n.toNat + 2) := by
 have h1 := nodup_lenN ((a.n.toNat + 2) * (b.n.toNat + 2)) ((vis.map Vs.pr).map fun q => (q.1 + 1).toNat * (b.n.toNat + 2) + (q.2 + 1).toNat) ?_ ?_
 · simpa using h1
 · rw [List.nodup_iff_pairwise_ne,List.pairwise_map]
   refine List.Pairwise.imp_of_mem ?_ (List.nodup_iff_pairwise_ne.1 h.nd)
   intro p q hp hq hne hc
   obtain ⟨v,hv,rfl⟩ := List.mem_map.1 hp
   obtain ⟨u,hu,rfl⟩ := List.mem_map.1 hq
   have r1 := h.rg v hv
   have r2 := h.rg u hu
   have n1 := hb.n0
   simp only [Vs.pr] at hc hne
   have e2 : (v.y + 1).toNat < b.n.toNat + 2 := by omega
   have e3 : (u.y + 1).toNat < b.n.toNat + 2 := by omega
   have e4 : (v.x + 1).toNat = (u.x + 1).toNat := by
    have m1 := Nat.div_eq_of_lt e2
    have m2 := Nat.div_eq_of_lt e3
    have := congrArg (· / (b.n.toNat + 2)) hc
    rw [Nat.mul_comm,Nat.mul_add_div (by omega),m1,Nat.mul_comm,Nat.mul_add_div (by omega),m2] at this
    omega
   rw [e4] at hc
   exact hne (by rw [Prod.mk.injEq]; omega)
 · intro x hx
   obtain ⟨q,hq,rfl⟩ := List.mem_map.1 hx
   obtain ⟨v,hv,rfl⟩ := List.mem_map.1 hq
   have r1 := h.rg v hv
   have n0 := ha.n0
   have n1 := hb.n0
   simp only [Vs.pr]
   have e1 : (v.x + 1).toNat + 1 ≤ a.n.toNat + 2 := by omega
   have e2 : (v.y + 1).toNat < b.n.toNat + 2 := by omega
   have := Nat.mul_le_mul_right (b.n.toNat + 2) e1
   rw [Nat.succ_mul] at this
   omega
theorem SInv.skip (hinc : incr evs) (h : SInv a b evs P i k t vis ws) {v : Vs} {e : Int} (hv : vis[i]? = some v) (he : evs[k]? = some e) (hs : stp2 a b v.pr e ∈ (-1,-1) :: vis.map Vs.pr) : SInv a b evs P i (k + 1) t vis ws :=
 ⟨h.bfs.skip hinc (v := v.pr) (by rw [List.getElem?_map,hv]; rfl) he (by
  rcases List.mem_cons.1 hs with g | g
  · exact .inl g
  · obtain ⟨j,hj,e⟩ := List.mem_iff_getElem.1 g
    exact .inr ⟨j,by rw [List.getElem?_eq_getElem hj,e]⟩),h.lk,h.nd,h.rg,h.no⟩
theorem SInv.push (ha : a.Right) (hb : b.Right) (hinc : incr evs) (h : SInv a b evs P i k t vis ws) (ht : t ≤ vis.length) {v : Vs} {e : Int} (hv : vis[i]? = some v) (he : evs[k]? = some e) (hs : ¬ stp2 a b v.pr e ∈ (-1,-1) :: vis.map Vs.pr) :
 ∃ ws',SInv a b evs P i (k + 1) t (vis ++ [⟨(stp2 a b v.pr e).1,(stp2 a b v.pr e).2,i,e⟩]) ws' := by
 have hv' : (vis.map Vs.pr)[i]? = some v.pr := by rw [List.getElem?_map,hv]; rfl
 obtain ⟨wi,hwi⟩ := h.bfs.word hv'
 refine ⟨ws ++ [wi ++ [e]],?_,?_,?_,fun u hu => ?_,fun j u hj hu => ?_⟩
 · rw [List.map_append]
   exact h.bfs.push hinc hv' he hwi
 · rw [List.map_append]
   exact h.lk.push e hwi
 · rw [List.map_append]
   refine List.nodup_append.2 ⟨h.nd,by simp,fun p hp q hq => ?_⟩
   simp at hq
   rintro rfl
   refine hs (List.mem_cons_of_mem _ ?_)
   rw [hq] at hp
   exact hp
 · rcases List.mem_append.1 hu with g | g
   · exact h.rg u g
   · simp at g; subst g
     have := ha.to_cases v.x e
     have := hb.to_cases v.y e
     have := ha.n0
     have := hb.n0
     simp only [stp2,Vs.pr]
     omega
 · rw [List.map_append,List.getElem?_append_left (by simp; omega)] at hu
   exact h.no j u hj hu
theorem SInv.next (h : SInv a b evs P i evs.length t vis ws) : SInv a b evs P (i + 1) 0 t vis ws := ⟨h.bfs.next,h.lk,h.nd,h.rg,h.no⟩
end

def GivesW (a b : Au) (evs : List Int) (P : Int × Int → Bool) (w : World) (e : Ending) (w' : World) : Prop := ∃ (A : Option Addr) (c : Nat) (l : List Int) (f : Bool),e = .returned (.tuple #[.slice A l.length c,.bool f]) ∧ Hid (IntsAt w' A l) ∧ Below w.heap.size w w' ∧
 Hid (f = true ∧ LeastW (LeadsTo (stp2 a b) (a.st,b.st) evs (fun q => P q = true)) l ∨ f = false ∧ l = [] ∧ ∀ u,¬ LeadsTo (stp2 a b) (a.st,b.st) evs (fun q => P q = true) u)
end
section

structure Ent where
 foot : List Nat
 ok : World → Prop
 lt : ∀ w,ok w → ∀ g,g ∈ foot → g < w.heap.size
 turn : ∀ w w',ok w → (∀ g,g ∈ foot → w'.heap[g]? = w.heap[g]?) → ok w'
def eBlk (g : Nat) (T : TypeId) (cs : List Value) : Ent where
 foot := [g]
 ok w := BlkAt w g T cs
 lt w h k hk := by simp at hk; subst hk; exact h.lt
 turn w w' h hg := (hg g (by simp)).trans h
def eOwn {α : Type} (enc : α → List Value) (k T : Nat) (l : List α) (v : Value) : Ent where
 foot := v.ownBlock.toList
 ok w := Own enc k T 0 l v w
 lt w h g hg := (h.lt g (by simpa using hg)).2
 turn w w' h hg := by
  refine ⟨h.1,?_⟩
  rcases h.2 with h | ⟨g,cap,cur,r1,r2,r3,r4⟩
  · exact .inl h
  · exact .inr ⟨g,cap,cur,r1,r2,(hg g (by rw [r1]; simp [Value.ownBlock])).trans r3,r4⟩
def eOwnO {α : Type} (enc : α → List Value) (k T : Nat) (l : List α) (v : Value) : Ent where
 foot := v.ownBlock.toList
 ok w := OwnO enc k T 0 l v w
 lt w h g hg := (h.lt g (by simpa using hg)).2
 turn w w' h hg := h.turn fun j hj _ => hg j (by simpa using hj)
def eMap {κ β : Type} [DecidableEq κ] (key : κ → Value) (ve : β → Value) (b : Nat) (f : κ → Option β) : Ent where
 foot := [b]
 ok w := MapG key ve w b f
 lt w h k hk := by simp at hk; subst hk; exact h.lt
 turn w w' h hg := by
  obtain ⟨l,c,h1,h2⟩ := h
  exact ⟨l,c,(hg b (by simp)).trans h1,h2⟩
abbrev eInts (l : List Int) (v : Value) : Ent := eOwn encI 1 3 l v
abbrev eEds (l : List Ed) (v : Value) : Ent := eOwn Ed.cells 3 68 l v

structure Off (f : List Nat) (w w' : World) : Prop where
 os : w'.os = w.os
 tape : w'.tape = w.tape
 output : w'.output = w.output
 size : w.heap.size ≤ w'.heap.size
 block : ∀ k,k < w.heap.size → ¬ k ∈ f → w'.heap[k]? = w.heap[k]?
theorem Off.grown {w w' : World} {row : Option Nat} (h : w.grownBy w' row) : Off row.toList w w' :=
 ⟨h.os,h.tape,h.output,h.size,fun k hk hn => h.block k hk (fun e => hn (by simp [← e]))⟩
theorem Off.below {w w' : World} (h : Below w.heap.size w w') (f : List Nat) : Off f w w' := ⟨h.os,h.tape,h.output,h.size,fun k hk _ => h.block k hk⟩
theorem Off.trans {f : List Nat} {a b c : World} (h : Off f a b) (k : Off f b c) : Off f a c :=
 ⟨k.os.trans h.os,k.tape.trans h.tape,k.output.trans h.output,Nat.le_trans h.size k.size,fun i hi hn => (k.block i (Nat.lt_of_lt_of_le hi h.size) hn).trans (h.block i hi hn)⟩
theorem Off.set (w : World) (g i : Nat) (u : Value) : Off [g] w (w.setCell ⟨g,i,none⟩ u) :=
 ⟨rfl,rfl,rfl,by simp,fun k _ hk => heap_setCell_other w ⟨g,i,none⟩ k u (fun e => hk (by simp [e]))⟩

structure Sep (n : Nat) (w0 : World) (es : List Ent) (w : World) : Prop where
 fro : Fro n w0 w
 ok : ∀ e,e ∈ es → e.ok w
 ge : ∀ e,e ∈ es → ∀ g,g ∈ e.foot → n ≤ g
 ap : es.Pairwise fun a b => ∀ g,g ∈ a.foot → ¬ g ∈ b.foot

section
variable {n : Nat} {w0 w w' : World} {es es' : List Ent} {e e' : Ent} {i : Nat}
theorem Sep.get (S : Sep n w0 es w) (i : Nat) (hi : es[i]? = some e) : e.ok w := S.ok e (List.mem_of_getElem? hi)
theorem Sep.here (w : World) : Sep w.heap.size w [] w := ⟨Fro.here w,by simp,by simp,by simp⟩
theorem Sep.start {n : Nat} {w : World} (h : n ≤ w.heap.size) : Sep n w [] w := ⟨Fro.refl h,by simp,by simp,by simp⟩
theorem Sep.apart (S : Sep n w0 es w) {i j : Nat} (hi : es[i]? = some e) (hj : es[j]? = some e') (hij : i ≠ j) : ∀ g,g ∈ e.foot → ¬ g ∈ e'.foot := by
 obtain ⟨hi1,hi2⟩ := List.getElem?_eq_some_iff.1 hi
 obtain ⟨hj1,hj2⟩ := List.getElem?_eq_some_iff.1 hj
 have := List.pairwise_iff_getElem.1 S.ap
 rcases Nat.lt_or_gt_of_ne hij with h | h
 · have := this i j hi1 hj1 h
   rw [hi2,hj2] at this
   exact this
 · have := this j i hj1 hi1 h
   rw [hi2,hj2] at this
   exact fun g h1 h2 => this g h2 h1
theorem Sep.chg (S : Sep n w0 es w) (i : Nat) (hi : es[i]? = some e) (e' : Ent) (hg : Off e.foot w w') (hok : e'.ok w') (hf : ∀ g,g ∈ e'.foot → g ∈ e.foot ∨ w.heap.size ≤ g) : Sep n w0 (es.set i e') w' := by
 have hilt := (List.getElem?_eq_some_iff.1 hi).1
 have he := List.mem_of_getElem? hi
 have old : ∀ x,x ∈ es → ∀ g,g ∈ x.foot → g < w.heap.size := fun x hx => x.lt w (S.ok x hx)
 refine ⟨⟨S.fro.b.trans ⟨hg.os,hg.tape,hg.output,hg.size,fun k hk => hg.block k (Nat.lt_of_lt_of_le hk S.fro.z) (fun h => by have := S.ge e he k h; omega)⟩,Nat.le_trans S.fro.z hg.size⟩,fun x hx => ?_,fun x hx => ?_,?_⟩
 · obtain ⟨j,hj,hjx⟩ := List.mem_iff_getElem.1 hx
   rw [List.getElem_set] at hjx
   split at hjx
   · subst hjx; exact hok
   · rename_i hne
     have hj' : j < es.length := by simpa using hj
     have hjx' : es[j]? = some x := by rw [List.getElem?_eq_getElem hj',hjx]
     have hxm := List.mem_of_getElem? hjx'
     exact x.turn w w' (S.ok x hxm) fun g hgx => hg.block g (old x hxm g hgx) (S.apart hjx' hi (fun h => hne h.symm) g hgx)
 · rcases List.mem_or_eq_of_mem_set hx with h | rfl
   · exact S.ge x h
   · intro g hg'
     rcases hf g hg' with h | h
     · exact S.ge e he g h
     · exact Nat.le_trans S.fro.z h
 · rw [List.pairwise_iff_getElem]
   intro a b ha hb hab g h1 h2
   rw [List.length_set] at ha hb
   have key : ∀ (j : Nat) (hj : j < es.length),j ≠ i → g ∈ es[j].foot → ¬ g ∈ e'.foot := fun j hj hji h3 h4 => by
    have hj' : es[j]? = some es[j] := List.getElem?_eq_getElem hj
    rcases hf g h4 with h5 | h5
    · exact S.apart hj' hi hji g h3 h5
    · have := old _ (List.mem_of_getElem? hj') g h3; omega
   rw [List.getElem_set] at h1 h2
   split at h1
   · rename_i e1
     rw [if_neg (by omega)] at h2
     exact key b hb (by omega) h2 h1
   · split at h2
     · exact key a ha (by omega) h1 h2
     · exact List.pairwise_iff_getElem.1 S.ap a b ha hb hab g h1 h2
theorem Sep.news (S : Sep n w0 es w) (N : Sep w.heap.size w es' w') : Sep n w0 (es' ++ es) w' := by
 have old : ∀ x,x ∈ es → ∀ g,g ∈ x.foot → g < w.heap.size := fun x hx => x.lt w (S.ok x hx)
 refine ⟨S.fro.next N.fro.b,fun x hx => ?_,fun x hx => ?_,List.pairwise_append.2 ⟨N.ap,S.ap,fun a ha b hb g h1 h2 => ?_⟩⟩
 · rcases List.mem_append.1 hx with h | h
   · exact N.ok x h
   · exact x.turn w w' (S.ok x h) fun g hg => N.fro.b.block g (old x h g hg)
 · rcases List.mem_append.1 hx with h | h
   · exact fun g hg => Nat.le_trans S.fro.z (N.ge x h g hg)
   · exact S.ge x h
 · have h3 := N.ge a ha g h1
   have h4 := old b hb g h2
   omega
theorem Sep.new1 (S : Sep n w0 es w) (hb : Below w.heap.size w w') (e : Ent) (he : e.ok w') (hf : ∀ g,g ∈ e.foot → w.heap.size ≤ g) : Sep n w0 (e :: es) w' :=
 S.news (es' := [e]) ⟨⟨hb,hb.size⟩,by simpa using he,by simpa using hf,by simp⟩
theorem Sep.next (S : Sep n w0 es w) (hb : Below w.heap.size w w') : Sep n w0 es w' := S.news (es' := []) ⟨⟨hb,hb.size⟩,by simp,by simp,by simp⟩
theorem Sep.drew (S : Sep n w0 es w) : Sep n w0 es w.drew := S.next (Below.refl _ _).drew
theorem Sep.draws (S : Sep n w0 es w) (q : Nat) : Sep n w0 es (w.drewN q) := S.next ((Below.refl _ _).draws q)
theorem Sep.alloc (S : Sep n w0 es w) (T : TypeId) (cs : List Value) : Sep n w0 (eBlk w.heap.size T cs :: es) (w.alloc (.cells cs.toArray T)) :=
 S.new1 (Below.new w _) (eBlk w.heap.size T cs) (BlkAt.new w T cs) (by simp [eBlk])
theorem Sep.alloc' (S : Sep n w0 es w) (T : TypeId) (cs : List Value) {o : Obj} (ho : o = .cells cs.toArray T) {g : Nat} (hg : g = w.heap.size) : Sep n w0 (eBlk g T cs :: es) (w.alloc o) := by
 subst ho; subst hg; exact S.alloc T cs
theorem Sep.allocMap {κ β : Type} [DecidableEq κ] (S : Sep n w0 es w) (key : κ → Value) (ve : β → Value) {g : Nat} (hg : g = w.heap.size) : Sep n w0 (eMap key ve g (fun _ => none) :: es) (w.alloc (.map #[] 0)) := by
 subst hg
 exact S.new1 (Below.new w _) (eMap key ve w.heap.size (fun _ => none)) (MapG.made key ve w) (by simp [eMap])
theorem Sep.set (S : Sep n w0 es w) (i : Nat) {g T : Nat} {cs : List Value} (hi : es[i]? = some (eBlk g T cs)) (o : Nat) (u : Value) : Sep n w0 (es.set i (eBlk g T (cs.set o u))) (w.setCell ⟨g,o,none⟩ u) :=
 S.chg i hi _ (Off.set w g o u) (BlkAt.set_ (S.get i hi) o u) (fun g hg => .inl hg)
theorem Sep.pick (S : Sep n w0 es w) (is : List Nat) (hn : is.Nodup) : Sep n w0 (is.filterMap (es[·]?)) w := by
 have hm : ∀ x,x ∈ is.filterMap (es[·]?) → x ∈ es := fun x hx => by
  obtain ⟨j,_,hj⟩ := List.mem_filterMap.1 hx
  exact List.mem_of_getElem? hj
 refine ⟨S.fro,fun x hx => S.ok x (hm x hx),fun x hx => S.ge x (hm x hx),?_⟩
 rw [List.pairwise_filterMap]
 exact (List.nodup_iff_pairwise_ne.1 hn).imp fun {a b} hab x hx y hy => S.apart hx hy hab
theorem Sep.app (S : Sep n w0 (es ++ es') w) : Sep n w0 es w ∧ Sep n w0 es' w :=
 ⟨⟨S.fro,fun x hx => S.ok x (List.mem_append_left _ hx),fun x hx => S.ge x (List.mem_append_left _ hx),(List.pairwise_append.1 S.ap).1⟩,
  ⟨S.fro,fun x hx => S.ok x (List.mem_append_right _ hx),fun x hx => S.ge x (List.mem_append_right _ hx),(List.pairwise_append.1 S.ap).2.1⟩⟩
theorem Sep.nil (S : Sep n w0 es w) : Sep n w0 [] w := ⟨S.fro,by simp,by simp,by simp⟩
theorem Sep.as (S : Sep n w0 es w) (i : Nat) (hi : es[i]? = some e) (e' : Ent) (hok : e.ok w → e'.ok w) (hf : ∀ g,g ∈ e'.foot → g ∈ e.foot) : Sep n w0 (es.set i e') w :=
 S.chg i hi e' ⟨rfl,rfl,rfl,Nat.le_refl _,fun _ _ _ => rfl⟩ (hok (S.get i hi)) fun g hg => .inl (hf g hg)
theorem Sep.below (S : Sep n w0 es w) : Below n w0 w := S.fro.b
theorem Sep.ne {g k : Nat} (S : Sep n w0 es w) (i : Nat) (hi : es[i]? = some e) (hg : g ∈ e.foot) (hk : k < n) : g ≠ k := by
 have := S.ge e (List.mem_of_getElem? hi) g hg; omega
theorem Sep.nilOwn {α : Type} (S : Sep n w0 es w) (enc : α → List Value) (k T : Nat) : Sep n w0 (eOwn enc k T [] (.slice none 0 0) :: es) w :=
 S.new1 (Below.refl _ _) (eOwn enc k T [] (.slice none 0 0)) (Own.nil w) (by simp [eOwn,Value.ownBlock])
theorem Sep.own {α : Type} (S : Sep n w0 es w) (i : Nat) {g T : Nat} {cs : List Value} (hi : es[i]? = some (eBlk g T cs)) (enc : α → List Value) (k : Nat) (l : List α) (hl : l.flatMap enc = cs) (hk : ∀ x,(enc x).length = k) (h63 : l.length ≤ maxLen) :
 Sep n w0 (es.set i (eOwn enc k T l (.slice (some ⟨g,0,none⟩) l.length l.length))) w := by
 refine S.as i hi _ (fun h => ?_) (by simp [eOwn,eBlk,Value.ownBlock])
 have hlen := flat_len hk l
 exact ⟨hlen,.inr ⟨g,l.length,cs.toArray,rfl,Nat.zero_le _,h,Nat.le_refl _,h63,by rw [← hl]; simpa using hlen,by rw [← hl,← hlen]; exact List.take_of_length_le (by simp)⟩⟩

theorem wpList_pushS {P : Program} {α : Type} {enc : α → List Value} {k T : Nat} {l : List α} {v : Value} {ops : Array Oper} {rest : List Oper} {o : Oper} {a : Act} {Q : Exit → Act → World → Prop} (hgd : o.guard = none) (s x : Operand) (t : TypeId)
 (ho : o.op = .call { callee := .builtin .append,args := #[s,x],argTypes := #[t,t] }) (S : Sep n w0 es w) (i : Nat) (hei : es[i]? = some (eOwn enc k T l v)) 
 (ht : P.underlying t = some (.slice T)) (z : Value) (bytes : Nat) (hi : (P.info? T).map (fun i => (i.zero,i.size,i.bytes)) = some (some z,k,bytes))
 (hzs : z.cells.size = k) (hk : 0 < k) (hs : a.eval s = v) (y : α) (g : Nat) (hx : a.eval x = .slice (some ⟨g,0,none⟩) 1 1) (hy : (enc y).length = k) (hc : ∀ j u,(enc y)[j]? = some u → w.cell? ⟨g,j,none⟩ = some u) (h1 : ∀ u ∈ enc y,u.oneCell' = true)
 (hl : l.length ≤ 1048576) (hby : bytes ≤ 4096)
 (h : ∀ A' c' w',Sep n w0 (es.set i (eOwn enc k T (l ++ [y]) (.slice A' (l.length + 1) c'))) w' → Off v.ownBlock.toList w w' → wpList P ops Q rest (a.put o.dst (.slice A' (l.length + 1) c')) w') :
 wpList P ops Q (o :: rest) a w :=
 wpList_push hgd s x t ho (S.get i hei) ht z bytes hi hzs hk hs y g hx hy hc h1 hl hby (Nat.zero_le _) fun A' c' w' ho' hg hat => h A' c' w' (S.chg i hei _ (Off.grown hg) ho' (fun g hg => by
  simp only [eOwn,Option.mem_toList] at hg ⊢
  rcases hat with h | h
  · exact .inl (by rw [← h]; exact hg)
  · rw [h] at hg; cases hg; exact .inr (Nat.le_refl _))) (Off.grown hg)
theorem wpList_pushNS {P : Program} {α : Type} {enc : α → List Value} {k T : Nat} {l : List α} {v : Value} {ops : Array Oper} {rest : List Oper} {o : Oper} {a : Act} {Q : Exit → Act → World → Prop} (hgd : o.guard = none) (s x : Operand) (t : TypeId)
 (ho : o.op = .call { callee := .builtin .append,args := #[s,x],argTypes := #[t,t] }) (S : Sep n w0 es w) (i : Nat) (hei : es[i]? = some (eOwn enc k T l v))
 (ht : P.underlying t = some (.slice T)) (z : Value) (bytes : Nat) (hi : (P.info? T).map (fun i => (i.zero,i.size,i.bytes)) = some (some z,k,bytes))
 (hzs : z.cells.size = k) (hk : 0 < k) (hs : a.eval s = v) (ys : List α) (g c : Nat) (hx : a.eval x = .slice (some ⟨g,0,none⟩) ys.length c) (hy : ∀ y,(enc y).length = k) (hc : ∀ j u,(ys.flatMap enc)[j]? = some u → w.cell? ⟨g,j,none⟩ = some u) (h1 : ∀ y,∀ u ∈ enc y,u.oneCell' = true)
 (hl : l.length + ys.length ≤ 1048577) (hby : bytes ≤ 4096)
 (h : ∀ A' c' w',Sep n w0 (es.set i (eOwn enc k T (l ++ ys) (.slice A' (l.length + ys.length) c'))) w' → Off v.ownBlock.toList w w' → wpList P ops Q rest (a.put o.dst (.slice A' (l.length + ys.length) c')) w') :
 wpList P ops Q (o :: rest) a w := by
 obtain ⟨i0,hi0,hz,hsize,hb⟩ := info_parts hi
 refine wpList_append_own_at w hgd s x t ho 0 T i0 z k bytes ht hi0 hz hsize hb hzs hk v l.length (l.flatMap enc) hs (S.get i hei) ⟨g,0,none⟩ ys.length c (ys.flatMap enc) hx (flat_len hy ys) (fun j u hj => ?_) (fun u hu => ?_) (by simp only [maxLen]; omega) (by have := Nat.mul_le_mul hl hby; omega) (Nat.zero_le _) ?_
 · have := hc j u hj
   unfold Addr.add
   split
   · rename_i h0; subst h0; exact this
   · simpa using this
 · obtain ⟨y,_,hy'⟩ := List.mem_flatMap.1 hu
   exact h1 y u hy'
 · intro v' w' ho' hg _ hat
   obtain ⟨A',c',rfl⟩ := own_form ho'
   refine h A' c' w' (S.chg i hei _ (Off.grown hg) ?_ (fun g hg => ?_)) (Off.grown hg)
   · show Own enc k T 0 (l ++ ys) _ w'
     unfold Own; rw [List.flatMap_append,List.length_append]; exact ho'
   · simp only [eOwn,Option.mem_toList] at hg ⊢
     rcases hat with h | h
     · exact .inl (by rw [← h]; exact hg)
     · rw [h] at hg; cases hg; exact .inr (Nat.le_refl _)
theorem wpList_mapUpdateS {κ β : Type} [DecidableEq κ] {P : Program} {ops : Array Oper} {rest : List Oper} {o : Oper} {a : Act} {Q : Exit → Act → World → Prop}
 (hg : o.guard = none) (m x v : Operand) (M T E : TypeId) (hop : o.op = Op.mapUpdate M m x v) {D : TypeDesc} {key : κ → Value} {ve : β → Value} {b : Nat} {f : κ → Option β} (S : Sep n w0 es w) (i : Nat) (hei : es[i]? = some (eMap key ve b f)) (K : KeyG P T D key) (hM : P.underlying M = some (.map T E))
 (y : κ) (z : β) (hm : a.eval m = .map (some b)) (hx : a.eval x = key y) (hv : a.eval v = ve z)
 (hK : ∀ w',Sep n w0 (es.set i (eMap key ve b (fun u => if u = y then some z else f u))) w' → Off [b] w w' → wpList P ops Q rest (a.put o.dst undef) w') :
 wpList P ops Q (o :: rest) a w :=
 wpList_mapUpdate_g w hg m x v M T E hop D key ve K hM b f y z hm (S.get i hei) hx hv fun w' h hgr => hK w' (S.chg i hei _ (Off.grown hgr) h (fun g hg => .inl hg)) (Off.grown hgr)
theorem step_mapUpdateS {κ β : Type} [DecidableEq κ] {P : Program} {ops : Array Oper} {o : Oper} {a : Act} {K' : Act → World → Prop} {Q : Exit → Act → World → Prop} {F : Prop}
 (hg : o.guard = none) (m x v : Operand) (M T E : TypeId) (hop : o.op = Op.mapUpdate M m x v) {D : TypeDesc} {key : κ → Value} {ve : β → Value} {b : Nat} {f : κ → Option β} (S : Sep n w0 es w) (i : Nat) (hei : es[i]? = some (eMap key ve b f)) (K : KeyG P T D key) (hM : P.underlying M = some (.map T E))
 (y : κ) (z : β) (hm : a.eval m = .map (some b)) (hx : a.eval x = key y) (hv : a.eval v = ve z)
 (hK : ∀ w',Sep n w0 (es.set i (eMap key ve b (fun u => if u = y then some z else f u))) w' → Off [b] w w' → K' (a.put o.dst undef) w') :
 if Region.wanted o (yielded ops a.tmps) = true then Oper.wp P o a w K' Q else F :=
 step_mapUpdate_g hg m x v M T E hop D key ve K hM b f y z hm (S.get i hei) hx hv fun w' h hgr => hK w' (S.chg i hei _ (Off.grown hgr) h (fun g hg => .inl hg)) (Off.grown hgr)
end
theorem Sep.ints {n : Nat} {w0 w : World} {es : List Ent} (S : Sep n w0 es w) (i : Nat) {l : List Int} {A : Option Addr} {c : Nat} (hi : es[i]? = some (eInts l (.slice A l.length c))) : IntsAt w A l := OwnI.ints (S.get i hi)
theorem Sep.form {α : Type} {enc : α → List Value} {k T n : Nat} {w0 w : World} {es : List Ent} (S : Sep n w0 es w) (i : Nat) {l : List α} {v : Value} (hi : es[i]? = some (eOwn enc k T l v)) : ∃ A c,v = .slice A l.length c := Own.form (S.get i hi)
section
variable {n : Nat} {w0 w : World} {a b c e : Ent} {es : List Ent}
theorem Sep.first (S : Sep n w0 (e :: es) w) : Sep n w0 [e] w := (Sep.app (es := [e]) S).1
theorem Sep.drop1 (S : Sep n w0 (e :: es) w) : Sep n w0 es w := (Sep.app (es := [e]) S).2
end
theorem wp_world {P : Program} {c : Code} {Q : Exit → Act → World → Prop} {a : Act} {w : World} (R : World → Prop) (h : R w) (k : ∀ W,R W → c.wp P Q a W) : c.wp P Q a w := k w h
theorem qkC {n : Nat} {w0 V : World} {es : List Ent} (S : Sep n w0 es V) (i : Nat) {g : Nat} {T : TypeId} {cs : List Value} (hi : es[i]? = some (eBlk g T cs)) (q : Nat) {v : Value} (hv : cs[q]? = some v) : V.cell? ⟨g, q, none⟩ = some v := (BlkAt.cell (S.get i hi) q).trans hv
theorem qkS {g o : Nat} {u : Value} {n : Nat} {w0 w w' : World} {es es' : List Ent} (S : Sep n w0 es w) (hw : w' = w.setCell ⟨g, o, none⟩ u) (i : Nat) {T : TypeId} {cs : List Value} (hi : es[i]? = some (eBlk g T cs)) (he : es.set i (eBlk g T (cs.set o u)) = es' := by (simp only [List.set_cons_succ, List.set_cons_zero]; rfl)) : Hid (Sep n w0 es' w') := by
  subst hw; subst he; exact S.set i hi o u
theorem qkA {n : Nat} {w0 w w' : World} {es : List Ent} (S : Sep n w0 es w) {T : TypeId} {cs : List Value} (hw : w' = w.alloc (.cells cs.toArray T)) {g : Nat} (hg : g = w.heap.size) : Hid (Sep n w0 (eBlk g T cs :: es) w') := by
  subst hw; subst hg; exact S.alloc T cs
theorem qkR {n : Nat} {w0 w : World} {es es' : List Ent} (S : Sep n w0 es w) (he : es = es' := by (simp only [List.set_cons_succ, List.set_cons_zero]; rfl)) : Hid (Sep n w0 es' w) := by
  subst he; exact S
end
section

section
variable {κ β : Type} [DecidableEq κ]
def MapC (key : κ → Value) (ve : β → Value) (w : World) (b : Nat) (f : κ → Option β) (c : Nat) : Prop :=
 ∃ (l : List (κ × β × Nat)) (clock : Nat),w.heap[b]? = some (.map (l.map (entryG key ve)).toArray clock) ∧ (∀ x,f x = valG l x) ∧ l.length = c
variable {key : κ → Value} {ve : β → Value} {w : World} {b c : Nat} {f : κ → Option β}
theorem MapC.g (h : MapC key ve w b f c) : MapG key ve w b f := by
 obtain ⟨l,k,h1,h2,_⟩ := h
 exact ⟨l,k,h1,h2⟩
theorem MapC.made (key : κ → Value) (ve : β → Value) (w : World) : MapC key ve (w.alloc (.map #[] 0)) w.heap.size (fun _ => none) 0 := ⟨[],0,(MapKept.heap_alloc w _).1,fun _ => rfl,rfl⟩
theorem MapC.congr {g : κ → Option β} (h : MapC key ve w b f c) (hg : ∀ x,g x = f x) : MapC key ve w b g c := by
 obtain ⟨l,k,h1,h2,h3⟩ := h
 exact ⟨l,k,h1,fun x => (hg x).trans (h2 x),h3⟩
def eMapC (key : κ → Value) (ve : β → Value) (b : Nat) (f : κ → Option β) (c : Nat) : Ent where
 foot := [b]
 ok w := MapC key ve w b f c
 lt w h k hk := by simp at hk; subst hk; exact h.g.lt
 turn w w' h hg := by
  obtain ⟨l,c,h1,h2⟩ := h
  exact ⟨l,c,(hg b (by simp)).trans h1,h2⟩
theorem MapC.len {P : Program} {M T E : TypeId} (hM : P.underlying M = some (.map T E)) (h : MapC key ve w b f c) (ty : TypeId) : (Builtin.len_ #[M] ty #[.map (some b)]).run P w = .ok (.int .i64 c) w := by
 obtain ⟨l,k,h1,_,h3⟩ := h
 have := run_len_map (P := P) (w := w) M ty b _ k (by simp [Program.mapKeyOf,Program.mapElemOf,hM]) h1
 rw [this]
 simp [goInt,h3]
theorem MapC.store {P : Program} {M T E : TypeId} {D : TypeDesc} (K : KeyG P T D key) (hM : P.underlying M = some (.map T E)) (h : MapC key ve w b f c) (x : κ) (v : β) :
 ∃ w',(Instr.mapUpdate M (.map (some b)) (key x) (ve v)).run P w = .ok () w' ∧ MapC key ve w' b (fun y => if y = x then some v else f y) (if (f x).isSome then c else c + 1) ∧ w.grownBy w' (some b) := by
 obtain ⟨l,clk,hb,hf,hlen⟩ := h
 have hk := findKeyG_run (ve := ve) K x w l
 cases hj : l.findIdx? (fun e => decide (e.1 = x)) with
 | none =>
   rw [hj] at hk
   simp only [Option.bind_none] at hk
   have hfx : f x = none := (hf x).trans (valG_none hj)
   refine ⟨ChangeMaps.setBlock w b (.map ((l ++ [(x,v,clk)]).map (entryG key ve)).toArray (clk + 1)),?_,⟨l ++ [(x,v,clk)],clk + 1,ChangeMaps.heap_setBlock_same hb _,fun y => by rw [findG_push hj]; simp only [hf],by rw [hfx]; simp [hlen]⟩,
    ⟨rfl,rfl,rfl,by simp [ChangeMaps.setBlock],fun i _ hi => ChangeMaps.heap_setBlock_other hb _ (fun e => hi (by rw [e]))⟩⟩
   simp [Instr.mapUpdate,run_underlying hM,MapKept.run_getObj_map hb,K.chk,hk,MapKept.run_setObj_map _ hb,Result.andThen,ChangeMaps.setBlock,entryG]
 | some j =>
   obtain ⟨e,he,h1,h2,h3⟩ := valG_some hj
   have hfx : f x = some e.2.1 := (hf x).trans h2
   rw [hj] at hk
   simp only [Option.bind_some,he,Option.map_some] at hk
   refine ⟨ChangeMaps.setBlock w b (.map ((l.set j (e.1,v,e.2.2)).map (entryG key ve)).toArray clk),?_,⟨l.set j (e.1,v,e.2.2),clk,ChangeMaps.heap_setBlock_same hb _,fun y => by rw [findG_modify hj he]; simp only [hf],by rw [hfx]; simp [hlen]⟩,
    ⟨rfl,rfl,rfl,by simp [ChangeMaps.setBlock],fun i _ hi => ChangeMaps.heap_setBlock_other hb _ (fun e => hi (by rw [e]))⟩⟩
   have hm : (l.map (entryG key ve)).modify j (fun e' => { key := key x,val := ve v,born := e'.born }) = (l.set j (x,v,e.2.2)).map (entryG key ve) := by
    apply List.ext_getElem?
    intro i
    rw [List.getElem?_modify]
    simp only [List.getElem?_map,List.getElem?_set]
    by_cases hij : j = i
    · subst hij
      rw [he]
      simp [h3,entryG]
    · simp [hij]
   simp [Instr.mapUpdate,run_underlying hM,MapKept.run_getObj_map hb,K.chk,hk,he,entryG,h1,K.stay,MapKept.run_setObj_map _ hb,Result.andThen,ChangeMaps.setBlock]
   exact congrArg (fun q => w.heap.setIfInBounds b (Obj.map (List.toArray q) clk)) (by rw [hm,List.map_set]; rfl)
variable {n : Nat} {w0 w' : World} {es : List Ent}
end

def keyS (s : ByteArray) : Value := .string s
end
section

structure DInv (a b : Au) (s0 : Int × Int) (evs : List Int) (P : Int × Int → Bool) (i k t : Nat) (vis : List Vs) (ws : List (List Int)) : Prop where
 bfs : Bfs (stp2 a b) s0 dead2 evs i k (vis.map Vs.pr) ws
 lk : Link (vis.map fun v => (v.b,v.e)) ws
 nd : (vis.map Vs.pr).Nodup
 rg : ∀ v,v ∈ vis → -1 ≤ v.x ∧ v.x < a.n ∧ -1 ≤ v.y ∧ v.y < b.n
 al : ∀ v,v ∈ vis → v.pr ≠ (-1,-1)
 no : ∀ (j : Nat) v,j < t → (vis.map Vs.pr)[j]? = some v → P v = false
section
variable {a b : Au} {s0 : Int × Int} {evs : List Int} {P : Int × Int → Bool} {i k t : Nat} {vis : List Vs} {ws : List (List Int)}
theorem DInv.start (evs : List Int) (P : Int × Int → Bool) (x y : Int) (hx : -1 ≤ x ∧ x < a.n) (hy : -1 ≤ y ∧ y < b.n) (hd : (x,y) ≠ (-1,-1)) : DInv a b (x,y) evs P 0 0 0 [⟨x,y,-1,-1⟩] [[]] :=
 ⟨Bfs.start,⟨rfl,fun j q hq => by
  have := (List.getElem?_eq_some_iff.1 hq).1
  obtain rfl : j = 0 := by simp at this; omega
  simp at hq; subst hq
  exact ⟨fun _ => rfl,fun h => absurd h (by omega)⟩⟩,by simp,fun v hv => by
  simp at hv; subst hv
  simp only; omega,fun v hv => by
  simp at hv; subst hv; exact hd,fun j v h => absurd h (by omega)⟩
theorem DInv.len (h : DInv a b s0 evs P i k t vis ws) (ha : a.Right) (hb : b.Right) : vis.length ≤ (a.n.toNat + 2) * (b.n.toNat + 2) := by
 have h1 := nodup_lenN ((a.n.toNat + 2) * (b.n.toNat + 2)) ((vis.map Vs.pr).map fun q => (q.1 + 1).toNat * (b.n.toNat + 2) + (q.2 + 1).toNat) ?_ ?_
 · simpa using h1
 · rw [List.nodup_iff_pairwise_ne,List.pairwise_map]
   refine List.Pairwise.imp_of_mem ?_ (List.nodup_iff_pairwise_ne.1 h.nd)
   intro p q hp hq hne hc
   obtain ⟨v,hv,rfl⟩ := List.mem_map.1 hp
   obtain ⟨u,hu,rfl⟩ := List.mem_map.1 hq
   have r1 := h.rg v hv
   have r2 := h.rg u hu
   have n1 := hb.n0
   simp only [Vs.pr] at hc hne
   have e2 : (v.y + 1).toNat < b.n.toNat + 2 := by omega
   have e3 : (u.y + 1).toNat < b.n.toNat + 2 := by omega
   have e4 : (v.x + 1).toNat = (u.x + 1).toNat := by
    have m1 := Nat.div_eq_of_lt e2
    have m2 := Nat.div_eq_of_lt e3
    have := congrArg (· / (b.n.toNat + 2)) hc
    rw [Nat.mul_comm,Nat.mul_add_div (by omega),m1,Nat.mul_comm,Nat.mul_add_div (by omega),m2] at this
    omega
   rw [e4] at hc
   exact hne (by rw [Prod.mk.injEq]; omega)
 · intro x hx
   obtain ⟨q,hq,rfl⟩ := List.mem_map.1 hx
   obtain ⟨v,hv,rfl⟩ := List.mem_map.1 hq
   have r1 := h.rg v hv
   have n0 := ha.n0
   have n1 := hb.n0
   simp only [Vs.pr]
   have e1 : (v.x + 1).toNat + 1 ≤ a.n.toNat + 2 := by omega
   have e2 : (v.y + 1).toNat < b.n.toNat + 2 := by omega
   have := Nat.mul_le_mul_right (b.n.toNat + 2) e1
   rw [Nat.succ_mul] at this
   omega
theorem DInv.skip (hinc : incr evs) (h : DInv a b s0 evs P i k t vis ws) {v : Vs} {e : Int} (hv : vis[i]? = some v) (he : evs[k]? = some e) (hs : stp2 a b v.pr e ∈ (-1,-1) :: vis.map Vs.pr) : DInv a b s0 evs P i (k + 1) t vis ws :=
 ⟨h.bfs.skip hinc (v := v.pr) (by rw [List.getElem?_map,hv]; rfl) he (by
  rcases List.mem_cons.1 hs with g | g
  · exact .inl g
  · obtain ⟨j,hj,e⟩ := List.mem_iff_getElem.1 g
    exact .inr ⟨j,by rw [List.getElem?_eq_getElem hj,e]⟩),h.lk,h.nd,h.rg,h.al,h.no⟩
theorem DInv.push (ha : a.Right) (hb : b.Right) (hinc : incr evs) (h : DInv a b s0 evs P i k t vis ws) (ht : t ≤ vis.length) {v : Vs} {e : Int} (hv : vis[i]? = some v) (he : evs[k]? = some e) (hs : ¬ stp2 a b v.pr e ∈ (-1,-1) :: vis.map Vs.pr) :
 ∃ ws',DInv a b s0 evs P i (k + 1) t (vis ++ [⟨(stp2 a b v.pr e).1,(stp2 a b v.pr e).2,i,e⟩]) ws' := by
 have hv' : (vis.map Vs.pr)[i]? = some v.pr := by rw [List.getElem?_map,hv]; rfl
 obtain ⟨wi,hwi⟩ := h.bfs.word hv'
 refine ⟨ws ++ [wi ++ [e]],?_,?_,?_,fun u hu => ?_,fun u hu => ?_,fun j u hj hu => ?_⟩
 · rw [List.map_append]
   exact h.bfs.push hinc hv' he hwi
 · rw [List.map_append]
   exact h.lk.push e hwi
 · rw [List.map_append]
   refine List.nodup_append.2 ⟨h.nd,by simp,fun p hp q hq => ?_⟩
   simp at hq
   rintro rfl
   refine hs (List.mem_cons_of_mem _ ?_)
   rw [hq] at hp
   exact hp
 · rcases List.mem_append.1 hu with g | g
   · exact h.rg u g
   · simp at g; subst g
     have := ha.to_cases v.x e
     have := hb.to_cases v.y e
     have := ha.n0
     have := hb.n0
     simp only [stp2,Vs.pr]
     omega
 · rcases List.mem_append.1 hu with g | g
   · exact h.al u g
   · simp at g; subst g
     intro hc
     exact hs (by rw [← hc]; simp [Vs.pr])
 · rw [List.map_append,List.getElem?_append_left (by simp; omega)] at hu
   exact h.no j u hj hu
theorem DInv.next (h : DInv a b s0 evs P i evs.length t vis ws) : DInv a b s0 evs P (i + 1) 0 t vis ws := ⟨h.bfs.next,h.lk,h.nd,h.rg,h.al,h.no⟩
end
end
open Go.RowKit Go.Shelf
def sortV (l : List Int) : List Int := l.mergeSort fun x y => decide (x ≤ y)
def GivesSt (l : List Int) (v : Value) (w : World) (e : Ending) (w' : World) : Prop := e = .returned (.tuple #[]) ∧ OwnI 0 (sortV l) v w' ∧ Off v.ownBlock.toList w w'
theorem OwnI.pre {B : Nat} {l r : List Int} {g c : Nat} {w : World} (h : OwnI B (l ++ r) (.slice (some ⟨g,0,none⟩) (l ++ r).length c) w) : OwnI B l (.slice (some ⟨g,0,none⟩) l.length c) w := by
 refine ⟨by rw [flat_encI]; simp,.inr ?_⟩
 rcases h.2 with ⟨h1,h2⟩ | ⟨g',cap,cur,h1,hb,h3,h4,h5,h6,h7⟩
 · cases h1
 · cases h1
   refine ⟨g,c,cur,rfl,hb,h3,by simp at h4; omega,h5,h6,?_⟩
   rw [flat_encI,Nat.mul_one] at h7 ⊢
   have := congrArg (List.take l.length) h7
   rw [List.take_take] at this
   rw [List.length_append,List.map_append,show min l.length (l.length + r.length) = l.length by omega,List.take_append_of_le_length (by simp)] at this
   rw [this]
   simp [List.take_of_length_le]
def cmpV (l : List Int) : List Int := Lib.compact l
def GivesCm (A : Option Addr) (c : Nat) (l : List Int) (w : World) (e : Ending) (w' : World) : Prop := e = .returned (.slice A (cmpV l).length c) ∧ OwnI 0 (cmpV l) (.slice A (cmpV l).length c) w' ∧ Off (Value.slice A l.length c).ownBlock.toList w w'
def unionS (a b : List Int) : List Int := cmpV (sortV (a ++ b))
theorem boolInfo : (Try.prog.info? 4).map (fun i => (i.zero,i.size,i.bytes)) = some (some (.bool false),1,1) := by kernel_rfl
def mkB (n : Nat) (p : Nat → Bool) : List Value := (List.range n).map fun s => .bool (p s)
theorem mkB_get {n : Nat} {p : Nat → Bool} {s : Nat} (h : s < n) : (mkB n p)[s]? = some (.bool (p s)) := by simp [mkB,h]
theorem mkB_rep (n : Nat) : List.replicate n (Value.bool false) = mkB n fun _ => false := by
 apply List.ext_getElem?
 intro i
 by_cases h : i < n
 · rw [mkB_get h,List.getElem?_replicate,if_pos h]
 · simp [mkB,h]
theorem mkB_set {n : Nat} {p : Nat → Bool} (s : Nat) : (mkB n p).set s (.bool true) = mkB n fun t => decide (t = s) || p t := by
 apply List.ext_getElem?
 intro i
 rw [List.getElem?_set]
 by_cases h : i < n
 · rw [mkB_get (p := fun t => decide (t = s) || p t) h]
   by_cases e : s = i
   · subst e
     rw [if_pos rfl,if_pos (by simpa [mkB] using h),decide_eq_true rfl,Bool.true_or]
   · rw [if_neg e,mkB_get h]
     simp [Ne.symm e]
 · have h1 : ∀ q : Nat → Bool,(mkB n q)[i]? = none := fun q => by simp [mkB]; omega
   rw [h1,h1]
   split
   · rw [if_neg (by simp [mkB]; omega)]
   · rfl
theorem mkB_congr {n : Nat} {p q : Nat → Bool} (h : ∀ s,s < n → p s = q s) : mkB n p = mkB n q := by
 unfold mkB
 refine List.map_congr_left fun s hs => ?_
 rw [h s (by simpa using hs)]
def GivesB (n : Nat) (p : Nat → Bool) (w : World) (e : Ending) (w' : World) : Prop := ∃ g,e = .returned (.slice (some ⟨g,0,none⟩) n n) ∧ Hid (Sep w.heap.size w [eBlk g 4 (mkB n p)] w')
section

section
variable {σ κ : Type} {key : σ → κ} {out : σ → List (Int × σ)} {s0 : σ}

structure Bld (key : σ → κ) (out : σ → List (Int × σ)) (s0 : σ) (i k : Nat) (fs : List σ) (ed : List Ed) : Prop where
 z : fs[0]? = some s0
 nd : ∀ (j j' : Nat) v v',fs[j]? = some v → fs[j']? = some v' → key v = key v' → j = j'
 so : ∀ x,x ∈ ed → ∃ (j d : Nat) (v t u : σ),x.src = (j : Int) ∧ x.dst = (d : Int) ∧ fs[j]? = some v ∧ (x.ev,t) ∈ out v ∧ fs[d]? = some u ∧ key u = key t
 co : ∀ (j q : Nat) v e t,fs[j]? = some v → (out v)[q]? = some (e,t) → (j < i ∨ j = i ∧ q < k) → ∃ (d : Nat) (u : σ),(⟨(j : Int),e,(d : Int)⟩ : Ed) ∈ ed ∧ fs[d]? = some u ∧ key u = key t
 up : Rises edLt ed
 be : ∀ x,x ∈ ed → x.src < (i : Int) ∨ x.src = (i : Int) ∧ ∃ v,fs[i]? = some v ∧ ∃ (q : Nat) (t : σ),q < k ∧ (out v)[q]? = some (x.ev,t)
 fe : ∀ t : Nat,0 < t → t < fs.length → ∃ p x,FirstE ed t p x

theorem Bld.start : Bld key out s0 0 0 [s0] [] :=
 ⟨rfl,fun j j' v v' h h' _ => by
  have := (List.getElem?_eq_some_iff.1 h).1
  have := (List.getElem?_eq_some_iff.1 h').1
  simp at *; omega,by simp,fun j q v e t _ _ h => by omega,fun i j u v _ hu => by simp at hu,by simp,fun t h1 h2 => by simp at h2; omega⟩
theorem Bld.next {i : Nat} {fs : List σ} {ed : List Ed} {v : σ} (h : Bld key out s0 i (out v).length fs ed) (hv : fs[i]? = some v) : Bld key out s0 (i + 1) 0 fs ed :=
 ⟨h.z,h.nd,h.so,fun j q v' e t hv' hq hc => by
  by_cases g : j < i
  · exact h.co j q v' e t hv' hq (.inl g)
  · obtain rfl : j = i := by omega
    rw [hv] at hv'; cases hv'
    exact h.co j q v e t hv hq (.inr ⟨rfl,(List.getElem?_eq_some_iff.1 hq).1⟩),h.up,fun x hx => by
  rcases h.be x hx with g | ⟨g,_⟩
  · exact .inl (by omega)
  · exact .inl (by omega),h.fe⟩
def Ups (l : List (Int × σ)) : Prop := ∀ (p q : Nat) x y,p < q → l[p]? = some x → l[q]? = some y → x.1 < y.1
theorem FirstE.snoc {ed : List Ed} {k p : Nat} {x : Ed} (h : FirstE ed k p x) (y : Ed) : FirstE (ed ++ [y]) k p x :=
 ⟨get_keep h.at_ y,h.dst,h.src,fun q z hq hz => by
  rw [List.getElem?_append_left (by have := (List.getElem?_eq_some_iff.1 h.at_).1; omega)] at hz
  exact h.le q z hq hz⟩
theorem Bld.less {i k : Nat} {fs : List σ} {ed : List Ed} (h : Bld key out s0 i k fs ed) {v : σ} (hv : fs[i]? = some v) (hu : Ups (out v)) {e : Int} {t : σ} (he : (out v)[k]? = some (e,t)) (d : Int) : ∀ x,x ∈ ed → edLt x ⟨i,e,d⟩ := by
 intro x hx
 rcases h.be x hx with g | ⟨g,v',hv',q,t',hq,hqt⟩
 · exact .inl g
 · rw [hv] at hv'; cases hv'
   exact .inr ⟨g,hu q k _ _ hq hqt he⟩
theorem Bld.old {i k : Nat} {fs : List σ} {ed : List Ed} (h : Bld key out s0 i k fs ed) {v : σ} (hv : fs[i]? = some v) (hu : Ups (out v)) {e : Int} {t u : σ} {d : Nat} (he : (out v)[k]? = some (e,t)) (hd : fs[d]? = some u) (hk : key u = key t) :
 Bld key out s0 i (k + 1) fs (ed ++ [⟨i,e,d⟩]) := by
 refine ⟨h.z,h.nd,fun x hx => ?_,fun j q v' e' t' hv' hq hc => ?_,h.up.push (h.less hv hu he d),fun x hx => ?_,fun m h1 h2 => ?_⟩
 · rcases List.mem_append.1 hx with g | g
   · exact h.so x g
   · simp at g; subst g
     exact ⟨i,d,v,t,u,rfl,rfl,hv,List.mem_of_getElem? he,hd,hk⟩
 · by_cases hold : j < i ∨ j = i ∧ q < k
   · obtain ⟨d',u',h1,h2,h3⟩ := h.co j q v' e' t' hv' hq hold
     exact ⟨d',u',List.mem_append_left _ h1,h2,h3⟩
   · obtain ⟨rfl,rfl⟩ : j = i ∧ q = k := by omega
     rw [hv] at hv'; cases hv'
     rw [he] at hq; cases hq
     exact ⟨d,u,by simp,hd,hk⟩
 · rcases List.mem_append.1 hx with g | g
   · rcases h.be x g with k1 | ⟨k1,v',h2,q,t',h3,h4⟩
     · exact .inl k1
     · exact .inr ⟨k1,v',h2,q,t',by omega,h4⟩
   · simp at g; subst g
     exact .inr ⟨rfl,v,hv,k,t,by omega,he⟩
 · obtain ⟨p,x,hf⟩ := h.fe m h1 h2
   exact ⟨p,x,hf.snoc _⟩
theorem Bld.dlt {i k : Nat} {fs : List σ} {ed : List Ed} (h : Bld key out s0 i k fs ed) : ∀ x,x ∈ ed → 0 ≤ x.src ∧ x.src < fs.length ∧ 0 ≤ x.dst ∧ x.dst < fs.length := by
 intro x hx
 obtain ⟨j,d,v,t,u,h1,h2,h3,_,h5,_⟩ := h.so x hx
 have := (List.getElem?_eq_some_iff.1 h3).1
 have := (List.getElem?_eq_some_iff.1 h5).1
 omega
theorem Bld.new {i k : Nat} {fs : List σ} {ed : List Ed} (h : Bld key out s0 i k fs ed) {v : σ} (hv : fs[i]? = some v) (hu : Ups (out v)) {e : Int} {t : σ} (he : (out v)[k]? = some (e,t)) (hn : ∀ u,u ∈ fs → key u ≠ key t) :
 Bld key out s0 i (k + 1) (fs ++ [t]) (ed ++ [⟨i,e,fs.length⟩]) := by
 have hil := (List.getElem?_eq_some_iff.1 hv).1
 have back : ∀ {j : Nat} {x : σ},(fs ++ [t])[j]? = some x → j ≤ i → fs[j]? = some x := fun {j x} hx hj => by rwa [List.getElem?_append_left (by omega)] at hx
 refine ⟨get_keep h.z _,fun j j' x x' hx hx' hk => ?_,fun x hx => ?_,fun j q v' e' t' hv' hq hc => ?_,h.up.push (h.less hv hu he _),fun x hx => ?_,fun m h1 h2 => ?_⟩
 · rcases getElem?_snoc hx with g | ⟨g,rfl⟩ <;> rcases getElem?_snoc hx' with g' | ⟨g',rfl⟩
   · exact h.nd j j' x x' g g' hk
   · exact absurd hk (hn x (List.mem_of_getElem? g))
   · exact absurd hk.symm (hn x' (List.mem_of_getElem? g'))
   · omega
 · rcases List.mem_append.1 hx with g | g
   · obtain ⟨j,d,a,b,c,h1,h2,h3,h4,h5,h6⟩ := h.so x g
     exact ⟨j,d,a,b,c,h1,h2,get_keep h3 _,h4,get_keep h5 _,h6⟩
   · simp at g; subst g
     exact ⟨i,fs.length,v,t,t,rfl,rfl,get_keep hv _,List.mem_of_getElem? he,by simp,rfl⟩
 · have hv2 := back hv' (by omega)
   by_cases hold : j < i ∨ j = i ∧ q < k
   · obtain ⟨d',u',h1,h2,h3⟩ := h.co j q v' e' t' hv2 hq hold
     exact ⟨d',u',List.mem_append_left _ h1,get_keep h2 _,h3⟩
   · obtain ⟨rfl,rfl⟩ : j = i ∧ q = k := by omega
     rw [hv] at hv2; cases hv2
     rw [he] at hq; cases hq
     exact ⟨fs.length,t,by simp,by simp,rfl⟩
 · rcases List.mem_append.1 hx with g | g
   · rcases h.be x g with k1 | ⟨k1,v',h2,q,t',h3,h4⟩
     · exact .inl k1
     · exact .inr ⟨k1,v',get_keep h2 _,q,t',by omega,h4⟩
   · simp at g; subst g
     exact .inr ⟨rfl,v,get_keep hv _,k,t,by omega,he⟩
 · simp only [List.length_append,List.length_cons,List.length_nil] at h2
   by_cases e' : m < fs.length
   · obtain ⟨p,x,hf⟩ := h.fe m h1 e'
     exact ⟨p,x,hf.snoc _⟩
   · obtain rfl : m = fs.length := by omega
     refine ⟨ed.length,⟨i,e,fs.length⟩,by simp,rfl,by simp only; omega,fun q y hq hy => ?_⟩
     rw [List.getElem?_append_left hq] at hy
     exact (h.dlt y (List.mem_of_getElem? hy)).2.2.2

def stepS (out : σ → List (Int × σ)) (v : σ) (e : Int) : Option σ := ((out v).find? fun x => decide (x.1 = e)).map (·.2)
def runS (out : σ → List (Int × σ)) : σ → List Int → Option σ
 | v,[] => some v
 | v,e :: r => match stepS out v e with
   | some u => runS out u r
   | none => none
theorem stepS_some {v u : σ} {e : Int} (h : stepS out v e = some u) : (e,u) ∈ out v := by
 unfold stepS at h
 obtain ⟨x,hx,rfl⟩ := Option.map_eq_some_iff.1 h
 have h1 := List.mem_of_find?_eq_some hx
 have h2 := List.find?_some hx
 simp at h2
 rw [← h2]; exact h1
theorem stepS_none {v : σ} {e : Int} (h : stepS out v e = none) : ∀ u,¬ (e,u) ∈ out v := by
 unfold stepS at h
 simp only [Option.map_eq_none_iff,List.find?_eq_none,decide_eq_true_eq] at h
 exact fun u hu => h _ hu rfl
theorem Ups.uniq {l : List (Int × σ)} (h : Ups l) {e : Int} {t u : σ} (ht : (e,t) ∈ l) (hu : (e,u) ∈ l) : t = u := by
 obtain ⟨p,hp,hpt⟩ := List.mem_iff_getElem.1 ht
 obtain ⟨q,hq,hqu⟩ := List.mem_iff_getElem.1 hu
 have h1 : l[p]? = some (e,t) := by rw [List.getElem?_eq_getElem hp,hpt]
 have h2 : l[q]? = some (e,u) := by rw [List.getElem?_eq_getElem hq,hqu]
 rcases Nat.lt_trichotomy p q with g | g | g
 · have := h p q _ _ g h1 h2; simp at this
 · subst g; rw [h1] at h2; cases h2; rfl
 · have := h q p _ _ g h2 h1; simp at this
theorem stepS_mem {v u : σ} {e : Int} (hu : Ups (out v)) (h : (e,u) ∈ out v) : stepS out v e = some u := by
 cases hs : stepS out v e with
 | none => exact absurd h (stepS_none hs u)
 | some t => rw [hu.uniq (stepS_some hs) h]
theorem runS_snoc (out : σ → List (Int × σ)) : ∀ (w : List Int) (v : σ) (e : Int),runS out v (w ++ [e]) = (runS out v w).bind fun u => stepS out u e
 | [],v,e => by
   simp only [List.nil_append,runS,Option.bind_some]
   cases stepS out v e <;> rfl
 | x :: r,v,e => by
   simp only [List.cons_append,runS]
   cases stepS out v x with
   | none => rfl
   | some u => exact runS_snoc out r u e

structure Cong (P : σ → Prop) (key : σ → κ) (out : σ → List (Int × σ)) : Prop where
 go : ∀ v,P v → ∀ e t,(e,t) ∈ out v → P t
 eq : ∀ v v',P v → P v' → key v = key v' → ∀ e t,(e,t) ∈ out v → ∃ t',(e,t') ∈ out v' ∧ key t' = key t
 up : ∀ v,P v → Ups (out v)
structure Built (key : σ → κ) (out : σ → List (Int × σ)) (s0 : σ) (a : Au) (fs : List σ) : Prop where
 n : a.n = fs.length
 z : fs[0]? = some s0
 nd : ∀ (j j' : Nat) v v',fs[j]? = some v → fs[j']? = some v' → key v = key v' → j = j'
 rt : a.Right
 num : Num a.ed a.n
 step : ∀ (j : Nat) v,fs[j]? = some v → ∀ e,(nextV a.ed j e = -1 ∧ stepS out v e = none) ∨ ∃ (d : Nat) (u t : σ),nextV a.ed j e = d ∧ fs[d]? = some u ∧ stepS out v e = some t ∧ key u = key t
theorem Bld.built {i k : Nat} {fs : List σ} {ed : List Ed} (h : Bld key out s0 i k fs ed) (hi : fs.length ≤ i) (al mr : List Int) (hal : setOk al 32 al.length) (hn : fs.length ≤ 4096) (hmr : setOk mr fs.length mr.length) (hev : ∀ v,v ∈ fs → ∀ x,x ∈ out v → x.1 ∈ al) (hup : ∀ v,v ∈ fs → Ups (out v)) :
 Built key out s0 ⟨al,fs.length,mr,ed⟩ fs := by
 have hr : (⟨al,fs.length,mr,ed⟩ : Au).Right := by
  refine ⟨hal,Int.natCast_nonneg _,by show ((fs.length : Nat) : Int) ≤ 4096; omega,hmr,fun p hp x hx => ?_⟩
  have hm := List.mem_of_getElem? hx
  have hd := h.dlt x hm
  obtain ⟨j,d,v,t,u,h1,h2,h3,h4,_⟩ := h.so x hm
  refine ⟨hd.1,hd.2.1,hd.2.2.1,hd.2.2.2,hev v (List.mem_of_getElem? h3) _ h4,fun y hy hyx => ?_⟩
  exact h.up (p - 1) p y x (by omega) hyx hx
 refine ⟨rfl,h.z,h.nd,hr,fun t h1 h2 => h.fe t h1 (by simp only at h2; omega),fun j v hv e => ?_⟩
 have hj := (List.getElem?_eq_some_iff.1 hv).1
 have hU := hup v (List.mem_of_getElem? hv)
 rcases hr.next_cases j e with g | ⟨g0,g1,x,hx,x1,x2,x3⟩
 · refine .inl ⟨g,?_⟩
   cases hs : stepS out v e with
   | none => rfl
   | some t =>
     obtain ⟨q,hq,hqt⟩ := List.mem_iff_getElem.1 (stepS_some hs)
     obtain ⟨d,u,h1,h2,h3⟩ := h.co j q v e t hv (by rw [List.getElem?_eq_getElem hq,hqt]) (.inl (by omega))
     obtain ⟨p,hp,hpx⟩ := List.mem_iff_getElem.1 h1
     have := hr.nextE (p := p) (x := ⟨j,e,d⟩) (by rw [List.getElem?_eq_getElem hp,hpx])
     simp only at this g
     omega
 · obtain ⟨j',d,v',t,u,h1,h2,h3,h4,h5,h6⟩ := h.so x hx
   obtain rfl : j' = j := by omega
   rw [hv] at h3; cases h3
   rw [x2] at h4
   exact .inr ⟨d,u,t,by rw [← x3,h2],h5,stepS_mem hU h4,h6⟩
theorem Built.run {a : Au} {fs : List σ} {P : σ → Prop} (h : Built key out s0 a fs) (hc : Cong P key out) (h0 : P s0) (hfs : ∀ v,v ∈ fs → P v) (w : List Int) : (rn a w = -1 ∧ runS out s0 w = none) ∨ ∃ (d : Nat) (u t : σ),rn a w = d ∧ fs[d]? = some u ∧ runS out s0 w = some t ∧ key u = key t ∧ P t := by
 have hz := (List.getElem?_eq_some_iff.1 h.z).1
 have hst : a.st = 0 := by unfold Au.st; rw [if_neg (by rw [h.n]; omega)]
 refine snoc_ind (P := fun w => (rn a w = -1 ∧ runS out s0 w = none) ∨ ∃ (d : Nat) (u t : σ),rn a w = d ∧ fs[d]? = some u ∧ runS out s0 w = some t ∧ key u = key t ∧ P t) ?_ ?_ w
 · exact .inr ⟨0,s0,s0,hst,h.z,rfl,rfl,h0⟩
 · rintro u e (⟨g1,g2⟩ | ⟨d,v,t,g1,g2,g3,g4,g5⟩)
   · refine .inl ⟨?_,by rw [runS_snoc,g2]; rfl⟩
     rw [rn_app,g1,runV_neg _ (by omega)]
   · have pv := hfs v (List.mem_of_getElem? g2)
     rw [rn_snoc a u e (by omega),g1,runS_snoc,g3]
     simp only [Option.bind_some]
     rcases h.step d v g2 e with ⟨k1,k2⟩ | ⟨d',u',t',k1,k2,k3,k4⟩
     · refine .inl ⟨k1,?_⟩
       cases hs : stepS out t e with
       | none => rfl
       | some x =>
         obtain ⟨x',hx',_⟩ := hc.eq t v g5 pv g4.symm e x (stepS_some hs)
         exact absurd hx' (stepS_none k2 x')
     · obtain ⟨x,hx,hxk⟩ := hc.eq v t pv g5 g4 e t' (stepS_some k3)
       exact .inr ⟨d',u',x,k1,k2,stepS_mem (hc.up t g5) hx,k4.trans hxk.symm,hc.go t g5 e x hx⟩
end
end
def firstV (ed : List Ed) (s : Nat) : Nat := (ed.filter fun x => decide (x.src < (s : Int))).length
def predsV (ed : List Ed) (s : Int) : List Int := (ed.filter fun x => decide (x.dst = s)).map (·.src)

theorem getD_lt {α : Type} {l : List α} {i : Nat} (d : α) (h : i < l.length) : l.getD i d = l[i] := by rw [List.getD_eq_getElem?_getD,List.getElem?_eq_getElem h]; rfl
def negs (l : List Int) : Nat := (l.filter fun x => decide (x < 0)).length
def bkIn (d : Int) : List Int → List Int → List Int → List Int × List Int
 | [],out,q => (out,q)
 | p :: ps,out,q => if out.getD p.toNat 0 < 0 then bkIn d ps (out.set p.toNat (d + 1)) (q ++ [p]) else bkIn d ps out q
def bkGo (ed : List Ed) : Nat → List Int → List Int → List Int
 | 0,out,_ => out
 | f + 1,out,[] => out
 | f + 1,out,s :: q => bkGo ed f (bkIn (out.getD s.toNat 0) (predsV ed s) out q).1 (bkIn (out.getD s.toNat 0) (predsV ed s) out q).2
def bkMu (out q : List Int) : Nat := negs out + q.length
def bkStart (n : Nat) (tgs : List Int) : List Int := tgs.foldl (fun out s => out.set s.toNat 0) (List.replicate n (-1))
def backV (ed : List Ed) (n : Nat) (tgs : List Int) : List Int := bkGo ed (bkMu (bkStart n tgs) tgs) (bkStart n tgs) tgs

structure Stp where
 st : Int
 fr : Int
 ev : Int
deriving DecidableEq
def Stp.cells (x : Stp) : List Value := [.int .i64 x.st,.int .i64 x.fr,.int .i64 x.ev]
def ptIn (per : Ed → Bool) (i : Int) : List Ed → List Bool → List Stp → List Bool × List Stp
 | [],seen,st => (seen,st)
 | x :: xs,seen,st => if seen.getD x.dst.toNat true = false ∧ per x = true then ptIn per i xs (seen.set x.dst.toNat true) (st ++ [⟨x.dst,i,x.ev⟩]) else ptIn per i xs seen st
def wayV (st : List Stp) : Nat → Int → List Int → List Int
 | 0,_,acc => acc
 | f + 1,k,acc => match st[k.toNat]? with
   | some x => if 0 ≤ x.fr then wayV st f x.fr (x.ev :: acc) else acc
   | none => acc
def ptGo (want : Int → Bool) (per : Ed → Bool) (ed : List Ed) : Nat → Nat → List Bool → List Stp → Option (List Int)
 | 0,_,_,_ => none
 | f + 1,i,seen,st => match st[i]? with
   | none => none
   | some s => if want s.st = true then some (wayV st (i + 1) i []) else ptGo want per ed f (i + 1) (ptIn per i (ed.filter fun x => decide (x.src = s.st)) seen st).1 (ptIn per i (ed.filter fun x => decide (x.src = s.st)) seen st).2
def ptMu (seen : List Bool) (st : List Stp) (i : Nat) : Nat := (seen.filter fun b => !b).length + (st.length - i)
def pathV (want : Int → Bool) (per : Ed → Bool) (ed : List Ed) (n : Nat) (from_ : Int) : Option (List Int) := ptGo want per ed (n + 1) 0 ((List.replicate n false).set from_.toNat true) [⟨from_,-1,-1⟩]
section

section
variable {κ : Type} [DecidableEq κ]
def seenK : List κ → List κ → List κ
 | s,[] => s
 | s,k :: r => if k ∈ s then seenK s r else seenK (s ++ [k]) r
def idxK (l : List κ) (k : κ) : Nat := l.findIdx fun y => decide (y = k)
theorem idxK_lt {l : List κ} {k : κ} (h : k ∈ l) : idxK l k < l.length := List.findIdx_lt_length_of_exists ⟨k,h,by simp⟩
theorem idxK_get {l : List κ} {k : κ} (h : k ∈ l) : l[idxK l k]? = some k := by
 have h1 := idxK_lt h
 rw [List.getElem?_eq_getElem h1]
 have := List.findIdx_getElem (xs := l) (p := fun y => decide (y = k)) (w := h1)
 simp at this
 exact congrArg some this
def numK (l : List κ) : List Int := l.map fun k => ((idxK (seenK [] l) k : Nat) : Int)
def cntK (l : List κ) : Nat := (seenK [] l).length
end

structure Canon (c : List Int) (m : Nat) : Prop where
 rg : ∀ (s : Nat) x,c[s]? = some x → 0 ≤ x ∧ x < m
 on : ∀ y : Nat,y < m → ∃ s : Nat,c[s]? = some (y : Int)
 cn : ∀ (s : Nat) x,c[s]? = some x → ∀ y : Nat,(y : Int) < x → ∃ t : Nat,t < s ∧ c[t]? = some (y : Int)
theorem sub_len : ∀ (l l' : List Nat),l.Nodup → (∀ x,x ∈ l → x ∈ l') → l.length ≤ l'.length
 | [],_,_,_ => by simp
 | a :: l,l',hn,h => by
   rw [List.nodup_cons] at hn
   have ha := h a (by simp)
   have := sub_len l (l'.erase a) hn.2 fun x hx => (List.mem_erase_of_ne (by rintro rfl; exact hn.1 hx)).2 (h x (by simp [hx]))
   rw [List.length_erase_of_mem ha] at this
   have := List.length_pos_of_mem ha
   simp only [List.length_cons]
   omega
theorem pigeon (f : Nat → Nat) (m m' : Nat) (h : ∀ x,x < m → ∃ y,y < m' ∧ f y = x) : m ≤ m' ∧ (m = m' → ∀ y y',y < m' → y' < m' → f y = f y' → y = y') := by
 constructor
 · have := sub_len (List.range m) ((List.range m').map f) List.nodup_range fun x hx => by
    obtain ⟨y,h1,h2⟩ := h x (by simpa using hx)
    exact List.mem_map.2 ⟨y,by simpa using h1,h2⟩
   simpa using this
 · rintro rfl y y' hy hy' he
   by_cases e : y = y'
   · exact e
   · have := sub_len (List.range m) (((List.range m).erase y').map f) List.nodup_range fun x hx => by
      obtain ⟨z,h1,h2⟩ := h x (by simpa using hx)
      by_cases ez : z = y'
      · subst ez
        exact List.mem_map.2 ⟨y,(List.mem_erase_of_ne e).2 (by simpa using hy),by rw [he,h2]⟩
      · exact List.mem_map.2 ⟨z,(List.mem_erase_of_ne ez).2 (by simpa using h1),h2⟩
     rw [List.length_map,List.length_erase_of_mem (by simpa using hy')] at this
     simp at this
     omega

def Eqv (a : Au) (i j : Int) : Prop := ∀ w,(0 ≤ runV a.ed i w ↔ 0 ≤ runV a.ed j w) ∧ (runV a.ed i w ∈ a.mr ↔ runV a.ed j w ∈ a.mr)
theorem Eqv.next {a : Au} {i j : Int} (h : Eqv a i j) (hi : 0 ≤ i) (hj : 0 ≤ j) (e : Int) : Eqv a (nextV a.ed i e) (nextV a.ed j e) := fun w => by
 have := h (e :: w)
 simpa only [runV,hi,hj,if_true] using this
def clsV (c : List Int) (s : Int) : Int := c.getD s.toNat 0
def sigV (a : Au) (c : List Int) (s : Nat) : Int × List (Int × Int) := (c.getD s 0,(outOf a.ed s).map fun x => (x.ev,clsV c x.dst))
structure Moore (a : Au) (c : List Int) (m : Nat) : Prop where
 len : c.length = a.n.toNat
 can : Canon c m
 mkd : ∀ i j : Nat,i < c.length → c[i]? = c[j]? → ((i : Int) ∈ a.mr ↔ (j : Int) ∈ a.mr)
 eq : ∀ i j : Nat,i < c.length → j < c.length → Eqv a i j → c[i]? = c[j]?
section
variable {a : Au} {c c' : List Int} {m m' : Nat}
theorem getD_some {l : List Int} {i : Nat} {x : Int} (h : l[i]? = some x) (d : Int) : l.getD i d = x := by rw [List.getD_eq_getElem?_getD,h]; rfl
theorem outOf_rises (hr : a.Right) (s : Nat) : Rises (fun x y : Ed => x.ev < y.ev) (outOf a.ed s) := by
 have h1 : (a.ed).Pairwise edLt := List.pairwise_iff_getElem.2 fun i j hi hj hij => hr.lex i j _ _ hij (List.getElem?_eq_getElem hi) (List.getElem?_eq_getElem hj)
 have h2 : (outOf a.ed s).Pairwise edLt := h1.filter _
 intro i j x y hij hx hy
 obtain ⟨hi,hix⟩ := List.getElem?_eq_some_iff.1 hx
 obtain ⟨hj,hjy⟩ := List.getElem?_eq_some_iff.1 hy
 have h3 := List.pairwise_iff_getElem.1 h2 i j hi hj hij
 rw [hix,hjy] at h3
 have e1 := List.mem_of_getElem? hx
 have e2 := List.mem_of_getElem? hy
 simp only [outOf,List.mem_filter,decide_eq_true_eq] at e1 e2
 rcases h3 with g | g
 · omega
 · exact g.2
theorem mem_outOf {l : List Ed} {s : Nat} {x : Ed} : x ∈ outOf l s ↔ x ∈ l ∧ x.src = (s : Int) := by simp [outOf]
theorem edge_next (hr : a.Right) {x : Ed} (hx : x ∈ a.ed) : nextV a.ed x.src x.ev = x.dst ∧ 0 ≤ x.src ∧ x.src < a.n ∧ 0 ≤ x.dst ∧ x.dst < a.n := by
 obtain ⟨p,hp,hpx⟩ := List.mem_iff_getElem.1 hx
 have h := List.getElem?_eq_getElem hp
 rw [hpx] at h
 have := hr.edge h
 exact ⟨hr.nextE h,this.1,this.2.1,this.2.2.1,this.2.2.2.1⟩
theorem sig_sub (hr : a.Right) (h : Moore a c m) {i j : Nat} (hi : i < c.length) (hj : j < c.length) (he : Eqv a i j) : ∀ p : Int × Int,p ∈ (outOf a.ed i).map (fun x => (x.ev,clsV c x.dst)) → p ∈ (outOf a.ed j).map (fun x => (x.ev,clsV c x.dst)) := by
 intro p hp
 obtain ⟨x,hx,rfl⟩ := List.mem_map.1 hp
 obtain ⟨hx1,hx2⟩ := mem_outOf.1 hx
 obtain ⟨k1,k2,k3,k4,k5⟩ := edge_next hr hx1
 have h0 := he.next (by omega) (by omega) x.ev
 rw [← hx2,k1] at h0
 rcases hr.next_cases j x.ev with g | ⟨g0,g1,y,hy,y1,y2,y3⟩
 · have := (h0 []).1.1 k4
   simp only [runV] at this
   omega
 · refine List.mem_map.2 ⟨y,mem_outOf.2 ⟨hy,y1⟩,?_⟩
   rw [← y3] at h0
   have hn := h.len
   have := h.eq x.dst.toNat y.dst.toNat (by omega) (by omega) (by
    rw [Int.toNat_of_nonneg k4,Int.toNat_of_nonneg (by omega)]; exact h0)
   rw [y2]
   unfold clsV
   rw [List.getD_eq_getElem?_getD,List.getD_eq_getElem?_getD,this]
theorem Eqv.symm {a : Au} {i j : Int} (h : Eqv a i j) : Eqv a j i := fun w => ⟨(h w).1.symm,(h w).2.symm⟩
theorem sig_rises (hr : a.Right) (c : List Int) (s : Nat) : Rises (fun x y : Int × Int => x.1 < y.1) ((outOf a.ed s).map fun x => (x.ev,clsV c x.dst)) := by
 intro i j x y hij hx hy
 rw [List.getElem?_map,Option.map_eq_some_iff] at hx hy
 obtain ⟨u,hu,rfl⟩ := hx
 obtain ⟨v,hv,rfl⟩ := hy
 exact outOf_rises hr s i j u v hij hu hv
theorem sig_eqv (hr : a.Right) (h : Moore a c m) {i j : Nat} (hi : i < c.length) (hj : j < c.length) (he : Eqv a i j) : sigV a c i = sigV a c j := by
 unfold sigV
 have h1 := h.eq i j hi hj he
 rw [List.getD_eq_getElem?_getD,h1,← List.getD_eq_getElem?_getD]
 congr 1
 refine Rises.ext (R := fun x y : Int × Int => x.1 < y.1) (fun x => by omega) (fun x y => by omega) (sig_rises hr c i) (sig_rises hr c j) fun p => ⟨sig_sub hr h hi hj he p,sig_sub hr h hj hi he.symm p⟩
theorem Moore.first (h : c.length = a.n.toNat) (hc : Canon c m) (hk : ∀ i j : Nat,i < c.length → j < c.length → (c[i]? = c[j]? ↔ ((i : Int) ∈ a.mr ↔ (j : Int) ∈ a.mr))) : Moore a c m := by
 refine ⟨h,hc,fun i j hi hij => ?_,fun i j hi hj he => (hk i j hi hj).2 ((he []).2)⟩
 have hj : j < c.length := by
  rw [List.getElem?_eq_getElem hi] at hij
  exact (List.getElem?_eq_some_iff.1 hij.symm).1
 exact (hk i j hi hj).1 hij
theorem Moore.step (hr : a.Right) (h : Moore a c m) (hl : c'.length = a.n.toNat) (hc : Canon c' m') (hk : ∀ i j : Nat,i < c'.length → j < c'.length → (c'[i]? = c'[j]? ↔ sigV a c i = sigV a c j)) : Moore a c' m' := by
 have hlc : c'.length = c.length := by rw [hl,h.len]
 refine ⟨hl,hc,fun i j hi hij => ?_,fun i j hi hj he => (hk i j hi hj).2 (sig_eqv hr h (by omega) (by omega) he)⟩
 have hj : j < c'.length := by
  rw [List.getElem?_eq_getElem hi] at hij
  exact (List.getElem?_eq_some_iff.1 hij.symm).1
 have h2 := congrArg Prod.fst ((hk i j hi hj).1 hij)
 refine h.mkd i j (by omega) ?_
 simp only [sigV] at h2
 rw [getD_lt _ (by omega),getD_lt _ (by omega)] at h2
 rw [List.getElem?_eq_getElem (by omega),List.getElem?_eq_getElem (by omega),h2]
theorem Moore.count (h : Moore a c m) (hl : c'.length = a.n.toNat) (hc : Canon c' m') (hk : ∀ i j : Nat,i < c'.length → j < c'.length → (c'[i]? = c'[j]? ↔ sigV a c i = sigV a c j)) :
 m ≤ m' ∧ (m = m' → ∀ i j : Nat,i < c.length → j < c.length → c[i]? = c[j]? → c'[i]? = c'[j]?) := by
 have hlc : c'.length = c.length := by rw [hl,h.len]
 have ref : ∀ i j : Nat,i < c'.length → j < c'.length → c'[i]? = c'[j]? → c[i]? = c[j]? := fun i j hi hj he => by
  have h2 := congrArg Prod.fst ((hk i j hi hj).1 he)
  simp only [sigV] at h2
  rw [getD_lt _ (by omega),getD_lt _ (by omega)] at h2
  rw [List.getElem?_eq_getElem (by omega),List.getElem?_eq_getElem (by omega),h2]
 obtain ⟨f,hf⟩ : ∃ f : Nat → Nat,∀ (s : Nat) (y : Nat),c'[s]? = some (y : Int) → c[s]? = some ((f y : Nat) : Int) := by
  refine ⟨fun y => (c.getD (c'.findIdx fun z => decide (z = (y : Int))) 0).toNat,fun s y hs => ?_⟩
  have hm := List.mem_of_getElem? hs
  have h1 : idxK c' (y : Int) < c'.length := idxK_lt hm
  have h2 : c'[idxK c' (y : Int)]? = some (y : Int) := idxK_get hm
  have hsl := (List.getElem?_eq_some_iff.1 hs).1
  have h3 := ref s (idxK c' (y : Int)) hsl h1 (by rw [hs,h2])
  have h4 : c[s]? = some c[s] := List.getElem?_eq_getElem (by omega)
  have h5 := (h.can.rg s _ h4).1
  rw [h3] at h4
  show c[s]? = some (((c.getD (idxK c' (y : Int)) 0).toNat : Nat) : Int)
  rw [h3,getD_some h4,Int.toNat_of_nonneg h5,h4]
 have hp := pigeon f m m' (fun x hx => by
  obtain ⟨s,hs⟩ := h.can.on x hx
  have hsl := (List.getElem?_eq_some_iff.1 hs).1
  obtain ⟨y,hy⟩ : ∃ y,c'[s]? = some y := ⟨_,List.getElem?_eq_getElem (by omega)⟩
  have hr := hc.rg s y hy
  refine ⟨y.toNat,by omega,?_⟩
  have := hf s y.toNat (by rw [hy,Int.toNat_of_nonneg hr.1])
  rw [hs] at this
  have := Option.some.inj this
  omega)
 refine ⟨hp.1,fun e i j hi hj hij => ?_⟩
 obtain ⟨y,hy⟩ : ∃ y,c'[i]? = some y := ⟨_,List.getElem?_eq_getElem (by omega)⟩
 obtain ⟨z,hz⟩ : ∃ z,c'[j]? = some z := ⟨_,List.getElem?_eq_getElem (by omega)⟩
 have ry := hc.rg i y hy
 have rz := hc.rg j z hz
 have e1 := hf i y.toNat (by rw [hy,Int.toNat_of_nonneg ry.1])
 have e2 := hf j z.toNat (by rw [hz,Int.toNat_of_nonneg rz.1])
 rw [hij,e2] at e1
 have e3 : ((f z.toNat : Nat) : Int) = (f y.toNat : Nat) := Option.some.inj e1
 have := hp.2 e y.toNat z.toNat (by omega) (by omega) (by omega)
 rw [hy,hz]
 congr 1
 omega
theorem Moore.fin (hr : a.Right) (h : Moore a c m) (hl : c'.length = a.n.toNat) (hc : Canon c' m) (hk : ∀ i j : Nat,i < c'.length → j < c'.length → (c'[i]? = c'[j]? ↔ sigV a c i = sigV a c j)) :
 ∀ i j : Nat,i < c'.length → j < c'.length → (c'[i]? = c'[j]? ↔ Eqv a i j) := by
 have M' := h.step hr hl hc hk
 have back := (h.count hl hc hk).2 rfl
 have hlc : c'.length = c.length := by rw [hl,h.len]
 intro i j hi hj
 refine ⟨fun hij w => ?_,fun he => M'.eq i j hi hj he⟩
 have key : ∀ (w : List Int) (i j : Nat),i < c'.length → j < c'.length → c'[i]? = c'[j]? → (0 ≤ runV a.ed i w ↔ 0 ≤ runV a.ed j w) ∧ (runV a.ed i w ∈ a.mr ↔ runV a.ed j w ∈ a.mr) := by
  intro w
  induction w with
  | nil => intro i j hi hj hij; exact ⟨by simp only [runV]; omega,M'.mkd i j hi hij⟩
  | cons e w ih =>
    intro i j hi hj hij
    have i0 : (0 : Int) ≤ (i : Int) := by omega
    have j0 : (0 : Int) ≤ (j : Int) := by omega
    simp only [runV,i0,j0,if_true]
    have hs := congrArg Prod.snd ((hk i j hi hj).1 hij)
    simp only [sigV] at hs
    have one : ∀ (i j : Nat),(outOf a.ed i).map (fun x => (x.ev,clsV c x.dst)) = (outOf a.ed j).map (fun x => (x.ev,clsV c x.dst)) → ∀ x,x ∈ a.ed → x.src = (i : Int) → x.ev = e → ∃ y,y ∈ a.ed ∧ y.src = (j : Int) ∧ y.ev = e ∧ clsV c y.dst = clsV c x.dst := fun i j hs x hx h1 h2 => by
     have : (x.ev,clsV c x.dst) ∈ (outOf a.ed j).map (fun x => (x.ev,clsV c x.dst)) := by rw [← hs]; exact List.mem_map.2 ⟨x,mem_outOf.2 ⟨hx,h1⟩,rfl⟩
     obtain ⟨y,hy,hyx⟩ := List.mem_map.1 this
     obtain ⟨y1,y2⟩ := mem_outOf.1 hy
     rw [Prod.mk.injEq] at hyx
     exact ⟨y,y1,y2,by rw [hyx.1,h2],hyx.2⟩
    have neg : ∀ x : Int,x = -1 → ∀ w,¬ 0 ≤ runV a.ed x w ∧ ¬ runV a.ed x w ∈ a.mr := fun x hx w => by
     rw [runV_neg _ (by omega)]
     exact ⟨by omega,fun hm => by have := (hr.mem hm).1; omega⟩
    rcases hr.next_cases i e with g | ⟨g0,g1,x,hx,x1,x2,x3⟩ <;> rcases hr.next_cases j e with g' | ⟨g0',g1',y,hy,y1,y2,y3⟩
    · exact ⟨⟨fun q => absurd q (neg _ g w).1,fun q => absurd q (neg _ g' w).1⟩,⟨fun q => absurd q (neg _ g w).2,fun q => absurd q (neg _ g' w).2⟩⟩
    · obtain ⟨x,hx,h1,h2,_⟩ := one j i hs.symm y hy y1 y2
      have := edge_next hr hx
      rw [h1,h2] at this; omega
    · obtain ⟨y,hy,h1,h2,_⟩ := one i j hs x hx x1 x2
      have := edge_next hr hy
      rw [h1,h2] at this; omega
    · obtain ⟨z,hz,z1,z2,z3⟩ := one i j hs x hx x1 x2
      obtain rfl : z = y := hr.uniq hz hy (by omega) (by omega)
      have hn := h.len
      have b1 := edge_next hr hx
      have b2 := edge_next hr hz
      rw [← x3,← y3]
      have p1 : x.dst.toNat < c.length := by omega
      have p2 : z.dst.toNat < c.length := by omega
      have := back x.dst.toNat z.dst.toNat p1 p2 (by
       unfold clsV at z3
       rw [getD_lt _ p1,getD_lt _ p2] at z3
       rw [List.getElem?_eq_getElem p1,List.getElem?_eq_getElem p2,z3])
      have q := ih x.dst.toNat z.dst.toNat (by omega) (by omega) this
      rw [Int.toNat_of_nonneg (by omega),Int.toNat_of_nonneg (by omega)] at q
      exact q
 exact key w i j hi hj hij
end

structure Mini (a m : Au) : Prop where
 al : m.al = a.al
 rt : m.Right
 num : Num m.ed m.n
 gen : ∀ w,0 ≤ rn m w ↔ 0 ≤ rn a w
 mkd : ∀ w,rn m w ∈ m.mr ↔ rn a w ∈ a.mr
 ds : ∀ i j : Int,0 ≤ i → i < m.n → 0 ≤ j → j < m.n → Eqv m i j → i = j
structure Trimd (a t : Au) : Prop where
 al : t.al = a.al
 rt : t.Right
 num : Num t.ed t.n
 co : ∀ i : Int,0 ≤ i → i < t.n → ∃ w,runV t.ed i w ∈ t.mr
 lang : ∀ w,rn t w ∈ t.mr ↔ rn a w ∈ a.mr
end
section

section
variable {a : Au}
def outK (a : Au) (keep : Int → Bool) (v : Int) : List (Int × Int) := ((outOf a.ed v.toNat).filter fun x => keep x.dst).map fun x => (x.ev,x.dst)
def runK (a : Au) (keep : Int → Bool) : Int → List Int → Option Int
 | v,[] => some v
 | v,e :: r => if 0 ≤ nextV a.ed v e ∧ keep (nextV a.ed v e) = true then runK a keep (nextV a.ed v e) r else none
theorem Trimd.empty (hr : a.Right) (h : a.n = 0 ∨ 0 < a.n ∧ ∀ w,¬ runV a.ed 0 w ∈ a.mr) : Trimd a ⟨a.al,0,[],[]⟩ := by
 have hrt : (⟨a.al,0,[],[]⟩ : Au).Right := ⟨hr.al,Int.le_refl _,by show (0 : Int) ≤ 4096; decide,fun i x hi => by simp at hi,fun i hi => by simp at hi⟩
 refine ⟨rfl,hrt,fun k h1 h2 => by simp only at h2; omega,fun i h1 h2 => by simp only at h2; omega,fun w => ⟨fun hm => by simp at hm,fun hm => ?_⟩⟩
 rcases h with h | ⟨h,h'⟩
 · have := hr.mem hm; omega
 · exact absurd (by have hst : a.st = 0 := if_neg (by omega); unfold rn at hm; rw [hst] at hm; exact hm) (h' w)
end
end
def encB (x : Int) : List Value := [.int .u8 x]
abbrev eBytes (l : List Int) (v : Value) : Ent := eOwn encB 1 5 l v
def two (x : Int) : List Int := [x / 256,x % 256]
def GivesP (n0 : Nat) (w0 : World) (es : List Ent) (i : Nat) (l : List Int) (e : Ending) (w' : World) : Prop := ∃ A c,e = .returned (.slice A l.length c) ∧ Hid (Sep n0 w0 (es.set i (eBytes l (.slice A l.length c))) w')
def GivesF (n : Nat) (l : List ByteArray) (w : World) (e : Ending) (w' : World) : Prop :=
 ∃ g,e = .returned (.tuple #[.slice (some ⟨g,0,none⟩) n n,.int .i64 (cntK l)]) ∧ Hid (Sep w.heap.size w [eBlk g 3 ((numK l).map (Value.int .i64))] w')
def idxF {κ : Type} [DecidableEq κ] (D : List κ) (y : κ) : Option Int := if y ∈ D then some ((idxK D y : Nat) : Int) else none
def nums (n : Nat) (l : List ByteArray) : List Value := (numK l).map (Value.int .i64) ++ List.replicate (n - l.length) (.int .i64 0)
end Go.Proofs.Ytccfcaejlohahaa
