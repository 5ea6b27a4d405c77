/-
  search: the least word that leads two machines to a pair that is wanted.
  Words for memory: things that lie apart, all in memory of the call's own; one step turns one of them.
  Words for memory: a map of the call's own whose number of entries is known; strings as keys.
  Plain: what the search for a word that tells two states apart has done.
  slices.Sort and slices.Compact of a list of the call's own: the library's contracts, laid at this program (the first declarations are what the kit's command lays, printed by lay.py).
  minimal.marks, reach.flags: a flag for each state.
-/
import Derived.Test.YtjjifefanjnghaaBas02
import Derived.Deep.RegionLaw
import Derived.Deep.RegionHeld3
import Derived.Test.YtjjifefanjnghaaBas01
import Derived.Shelf.SortM.Plain
import Derived.Shelf.SortM.SortNone
import Derived.Shelf.SlicesG.CompactI
import Derived.Sort.OwnSortedInts
set_option linter.unusedSimpArgs false
set_option linter.unusedVariables false
namespace Go.Proofs.Ytjjifefanjnghaa
open Go.RowKit
set_option maxRecDepth 100000
section

theorem nodup_lenN : ∀ (n : Nat) (l : List Nat),l.Nodup → (∀ x,x ∈ l → x < n) → l.length ≤ n
 | 0,l,_,h => by
   cases l with
   | nil => simp
   | cons a r => have := h a (by simp); omega
 | n + 1,l,hn,h => by
   have h1 := nodup_lenN n (l.filter (fun x => decide (x ≠ n))) (hn.filter _) (fun x hx => by
    simp only [List.mem_filter,decide_eq_true_eq] at hx
    have := h x hx.1
    omega)
   have h2 : l.length ≤ (l.filter (fun x => decide (x ≠ n))).length + 1 := by
    clear h1 h
    induction l with
    | nil => simp
    | cons a r ih =>
      rw [List.nodup_cons] at hn
      by_cases e : a = n
      · subst e
        have : r.filter (fun x => decide (x ≠ a)) = r := List.filter_eq_self.2 (fun x hx => by
         simp only [decide_eq_true_eq]
         rintro rfl
         exact hn.1 hx)
        rw [List.filter_cons,this]
        simp
      · rw [List.filter_cons]
        have := ih hn.2
        rw [if_pos (by simpa using e),List.length_cons,List.length_cons]
        omega
   omega

theorem MapG.kept {κ β : Type} [DecidableEq κ] {key : κ → Value} {ve : β → Value} {w w' : World} {b : Nat} {v : Value} {f : κ → Option β} (h : MapG key ve w b f) (hg : w.grownBy w' v.ownBlock) (hne : v.ownBlock ≠ some b) : MapG key ve w' b f := by
 have hlt := h.lt
 obtain ⟨l,c,h1,h2⟩ := h
 exact ⟨l,c,(hg.block b hlt (fun e => hne e.symm)).trans h1,h2⟩

structure Vs where
 x : Int
 y : Int
 b : Int
 e : Int
def Vs.cells (v : Vs) : List Value := [.int .i64 v.x,.int .i64 v.y,.int .i64 v.b,.int .i64 v.e]
def Vs.pr (v : Vs) : Int × Int := (v.x,v.y)
theorem vsOne (x : Vs) : ∀ u ∈ Vs.cells x,u.oneCell' = true := fun u hu => by simp [Vs.cells] at hu; rcases hu with rfl | rfl | rfl | rfl <;> rfl
def VsE : Reading Vs := fun _ x vs => vs = Vs.cells x
theorem VsE.get {w : World} {A : Option Addr} {l : List Vs} (h : SlAt VsE 4 w A l) {k : Nat} {v : Vs} (hx : l[k]? = some v) : ∃ b off,A = some ⟨b,off,none⟩ ∧ b < w.heap.size ∧
 w.cell? ⟨b,off + k * 4,none⟩ = some (.int .i64 v.x) ∧ w.cell? ⟨b,off + k * 4 + 1,none⟩ = some (.int .i64 v.y) ∧ w.cell? ⟨b,off + k * 4 + 2,none⟩ = some (.int .i64 v.b) ∧ w.cell? ⟨b,off + k * 4 + 3,none⟩ = some (.int .i64 v.e) := by
 obtain ⟨b,off,y,vs,hA,hlt,hy,_,hE,hc⟩ := SlAt.at h (List.getElem?_eq_some_iff.1 hx).1
 obtain rfl : vs = Vs.cells y := hE
 rw [hx] at hy; cases hy
 exact ⟨b,off,hA,hlt,by simpa using hc 0 _ rfl,hc 1 _ rfl,hc 2 _ rfl,hc 3 _ rfl⟩

def NotIn (v : Value) (b : Nat) : Prop := v.ownBlock ≠ some b
def stp2 (a b : Au) (s : Int × Int) (e : Int) : Int × Int := (toV (stepOf a.ed) s.1 e,toV (stepOf b.ed) s.2 e)
def dead2 (s : Int × Int) : Prop := s = (-1,-1)
theorem Au.Right.to_cases {a : Au} (h : a.Right) (s e : Int) : toV (stepOf a.ed) s e = -1 ∨ 0 ≤ toV (stepOf a.ed) s e ∧ toV (stepOf a.ed) s e < a.n := by
 rw [← h.next]
 rcases h.next_cases s e with k | k
 · exact .inl k
 · exact .inr ⟨k.1,k.2.1⟩
theorem Au.Right.to_neg {a : Au} (h : a.Right) (e : Int) : toV (stepOf a.ed) (-1) e = -1 := by
 rw [← h.next]
 rcases h.next_cases (-1) e with k | ⟨_,_,x,hx,h1,_⟩
 · exact k
 · obtain ⟨j,hj,rfl⟩ := List.mem_iff_getElem.1 hx
   have := h.ed j hj _ (List.getElem?_eq_getElem hj)
   omega
theorem dead2_step {a b : Au} (ha : a.Right) (hb : b.Right) (s : Int × Int) (e : Int) (h : dead2 s) : dead2 (stp2 a b s e) := by
 unfold dead2 at h
 subst h
 simp only [dead2,stp2,ha.to_neg,hb.to_neg]
def memF (l : List (Int × Int)) (q : Int × Int) : Option Bool := if q ∈ l then some true else none
theorem memF_snoc (l : List (Int × Int)) (x y : Int × Int) : memF (l ++ [x]) y = if y = x then some true else memF l y := by
 by_cases h : y = x
 · simp [memF,h]
 · simp [memF,h]
theorem memF_getD (l : List (Int × Int)) (x : Int × Int) : (memF l x).getD false = decide (x ∈ l) := by
 by_cases h : x ∈ l <;> simp [memF,h]

structure SInv (a b : Au) (evs : List Int) (P : Int × Int → Bool) (i k t : Nat) (vis : List Vs) (ws : List (List Int)) : Prop where
 bfs : Bfs (stp2 a b) (a.st,b.st) dead2 evs i k (vis.map Vs.pr) ws
 lk : Link (vis.map fun v => (v.b,v.e)) ws
 nd : (vis.map Vs.pr).Nodup
 rg : ∀ v,v ∈ vis → -1 ≤ v.x ∧ v.x ≤ a.n ∧ -1 ≤ v.y ∧ v.y ≤ b.n
 no : ∀ (j : Nat) v,j < t → (vis.map Vs.pr)[j]? = some v → P v = false
section
variable {a b : Au} {evs : List Int} {P : Int × Int → Bool} {i k t : Nat} {vis : List Vs} {ws : List (List Int)}
theorem st_rg (h : a.Right) : -1 ≤ a.st ∧ a.st ≤ a.n := by
 have := h.n0
 unfold Au.st
 split <;> omega
theorem SInv.start (ha : a.Right) (hb : b.Right) (evs : List Int) (P : Int × Int → Bool) : SInv a b evs P 0 0 0 [⟨a.st,b.st,-1,0⟩] [[]] :=
 ⟨Bfs.start,⟨rfl,fun j q hq => by
  have := (List.getElem?_eq_some_iff.1 hq).1
  obtain rfl : j = 0 := by simp at this; omega
  simp at hq; subst hq
  exact ⟨fun _ => rfl,fun h => absurd h (by omega)⟩⟩,by simp,fun v hv => by
  simp at hv; subst hv
  have := st_rg ha; have := st_rg hb
  simp only; omega,fun j v h => absurd h (by omega)⟩
theorem SInv.len (h : SInv a b evs P i k t vis ws) (ha : a.Right) (hb : b.Right) : vis.length ≤ (a.n.toNat + 2) * (b.n.toNat + 2) := by
 have h1 := nodup_lenN ((a.n.toNat + 2) * (b.n.toNat + 2)) ((vis.map Vs.pr).map fun q => (q.1 + 1).toNat * (b.n.toNat + 2) + (q.2 + 1).toNat) ?_ ?_
 · simpa using h1
 · rw [List.nodup_iff_pairwise_ne,List.pairwise_map]
   refine List.Pairwise.imp_of_mem ?_ (List.nodup_iff_pairwise_ne.1 h.nd)
   intro p q hp hq hne hc
   obtain ⟨v,hv,rfl⟩ := List.mem_map.1 hp
   obtain ⟨u,hu,rfl⟩ := List.mem_map.1 hq
   have r1 := h.rg v hv
   have r2 := h.rg u hu
   have n1 := hb.n0
   simp only [Vs.pr] at hc hne
   have e2 : (v.y + 1).toNat < b.n.toNat + 2 := by omega
   have e3 : (u.y + 1).toNat < b.n.toNat + 2 := by omega
   have e4 : (v.x + 1).toNat = (u.x + 1).toNat := by
    have m1 := Nat.div_eq_of_lt e2
    have m2 := Nat.div_eq_of_lt e3
    have := congrArg (· / (b.n.toNat + 2)) hc
    rw [Nat.mul_comm,Nat.mul_add_div (by omega),m1,Nat.mul_comm,Nat.mul_add_div (by omega),m2] at this
    omega
   rw [e4] at hc
   exact hne (by rw [Prod.mk.injEq]; omega)
 · intro x hx
   obtain ⟨q,hq,rfl⟩ := List.mem_map.1 hx
   obtain ⟨v,hv,rfl⟩ := List.mem_map.1 hq
   have r1 := h.rg v hv
   have n0 := ha.n0
   have n1 := hb.n0
   simp only [Vs.pr]
   have e1 : (v.x + 1).toNat + 1 ≤ a.n.toNat + 2 := by omega
   have e2 : (v.y + 1).toNat < b.n.toNat + 2 := by omega
   have := Nat.mul_le_mul_right (b.n.toNat + 2) e1
   rw [Nat.succ_mul] at this
   omega
theorem SInv.skip (hinc : incr evs) (h : SInv a b evs P i k t vis ws) {v : Vs} {e : Int} (hv : vis[i]? = some v) (he : evs[k]? = some e) (hs : stp2 a b v.pr e ∈ (-1,-1) :: vis.map Vs.pr) : SInv a b evs P i (k + 1) t vis ws :=
 ⟨h.bfs.skip hinc (v := v.pr) (by rw [List.getElem?_map,hv]; rfl) he (by
  rcases List.mem_cons.1 hs with g | g
  · exact .inl g
  · obtain ⟨j,hj,e⟩ := List.mem_iff_getElem.1 g
    exact .inr ⟨j,by rw [List.getElem?_eq_getElem hj,e]⟩),h.lk,h.nd,h.rg,h.no⟩
theorem SInv.push (ha : a.Right) (hb : b.Right) (hinc : incr evs) (h : SInv a b evs P i k t vis ws) (ht : t ≤ vis.length) {v : Vs} {e : Int} (hv : vis[i]? = some v) (he : evs[k]? = some e) (hs : ¬ stp2 a b v.pr e ∈ (-1,-1) :: vis.map Vs.pr) :
 ∃ ws',SInv a b evs P i (k + 1) t (vis ++ [⟨(stp2 a b v.pr e).1,(stp2 a b v.pr e).2,i,e⟩]) ws' := by
 have hv' : (vis.map Vs.pr)[i]? = some v.pr := by rw [List.getElem?_map,hv]; rfl
 obtain ⟨wi,hwi⟩ := h.bfs.word hv'
 refine ⟨ws ++ [wi ++ [e]],?_,?_,?_,fun u hu => ?_,fun j u hj hu => ?_⟩
 · rw [List.map_append]
   exact h.bfs.push hinc hv' he hwi
 · rw [List.map_append]
   exact h.lk.push e hwi
 · rw [List.map_append]
   refine List.nodup_append.2 ⟨h.nd,by simp,fun p hp q hq => ?_⟩
   simp at hq
   rintro rfl
   refine hs (List.mem_cons_of_mem _ ?_)
   rw [hq] at hp
   exact hp
 · rcases List.mem_append.1 hu with g | g
   · exact h.rg u g
   · simp at g; subst g
     have := ha.to_cases v.x e
     have := hb.to_cases v.y e
     have := ha.n0
     have := hb.n0
     simp only [stp2,Vs.pr]
     omega
 · rw [List.map_append,List.getElem?_append_left (by simp; omega)] at hu
   exact h.no j u hj hu
theorem SInv.next (h : SInv a b evs P i evs.length t vis ws) : SInv a b evs P (i + 1) 0 t vis ws := ⟨h.bfs.next,h.lk,h.nd,h.rg,h.no⟩
theorem SInv.test (h : SInv a b evs P i k i vis ws) {v : Vs} (hv : vis[i]? = some v) (hp : P v.pr = false) : SInv a b evs P i k (i + 1) vis ws :=
 ⟨h.bfs,h.lk,h.nd,h.rg,fun j u hj hu => by
  by_cases e : j = i
  · subst e
    rw [List.getElem?_map,hv] at hu
    cases hu; exact hp
  · exact h.no j u (by omega) hu⟩
end

def GivesW (a b : Au) (evs : List Int) (P : Int × Int → Bool) (w : World) (e : Ending) (w' : World) : Prop := ∃ (A : Option Addr) (c : Nat) (l : List Int) (f : Bool),e = .returned (.tuple #[.slice A l.length c,.bool f]) ∧ Hid (IntsAt w' A l) ∧ Below w.heap.size w w' ∧
 Hid (f = true ∧ LeastW (LeadsTo (stp2 a b) (a.st,b.st) evs (fun q => P q = true)) l ∨ f = false ∧ l = [] ∧ ∀ u,¬ LeadsTo (stp2 a b) (a.st,b.st) evs (fun q => P q = true) u)
end
section

structure Ent where
 foot : List Nat
 ok : World → Prop
 lt : ∀ w,ok w → ∀ g,g ∈ foot → g < w.heap.size
 turn : ∀ w w',ok w → (∀ g,g ∈ foot → w'.heap[g]? = w.heap[g]?) → ok w'
def eBlk (g : Nat) (T : TypeId) (cs : List Value) : Ent where
 foot := [g]
 ok w := BlkAt w g T cs
 lt w h k hk := by simp at hk; subst hk; exact h.lt
 turn w w' h hg := (hg g (by simp)).trans h
def eOwn {α : Type} (enc : α → List Value) (k T : Nat) (l : List α) (v : Value) : Ent where
 foot := v.ownBlock.toList
 ok w := Own enc k T 0 l v w
 lt w h g hg := (h.lt g (by simpa using hg)).2
 turn w w' h hg := by
  refine ⟨h.1,?_⟩
  rcases h.2 with h | ⟨g,cap,cur,r1,r2,r3,r4⟩
  · exact .inl h
  · exact .inr ⟨g,cap,cur,r1,r2,(hg g (by rw [r1]; simp [Value.ownBlock])).trans r3,r4⟩
def eOwnO {α : Type} (enc : α → List Value) (k T : Nat) (l : List α) (v : Value) : Ent where
 foot := v.ownBlock.toList
 ok w := OwnO enc k T 0 l v w
 lt w h g hg := (h.lt g (by simpa using hg)).2
 turn w w' h hg := h.turn fun j hj _ => hg j (by simpa using hj)
def eMap {κ β : Type} [DecidableEq κ] (key : κ → Value) (ve : β → Value) (b : Nat) (f : κ → Option β) : Ent where
 foot := [b]
 ok w := MapG key ve w b f
 lt w h k hk := by simp at hk; subst hk; exact h.lt
 turn w w' h hg := by
  obtain ⟨l,c,h1,h2⟩ := h
  exact ⟨l,c,(hg b (by simp)).trans h1,h2⟩
abbrev eInts (l : List Int) (v : Value) : Ent := eOwn encI 1 3 l v
abbrev eEds (l : List Ed) (v : Value) : Ent := eOwn Ed.cells 3 70 l v

structure Off (f : List Nat) (w w' : World) : Prop where
 os : w'.os = w.os
 tape : w'.tape = w.tape
 output : w'.output = w.output
 size : w.heap.size ≤ w'.heap.size
 block : ∀ k,k < w.heap.size → ¬ k ∈ f → w'.heap[k]? = w.heap[k]?
theorem Off.grown {w w' : World} {row : Option Nat} (h : w.grownBy w' row) : Off row.toList w w' :=
 ⟨h.os,h.tape,h.output,h.size,fun k hk hn => h.block k hk (fun e => hn (by simp [← e]))⟩
theorem Off.below {w w' : World} (h : Below w.heap.size w w') (f : List Nat) : Off f w w' := ⟨h.os,h.tape,h.output,h.size,fun k hk _ => h.block k hk⟩
theorem Off.trans {f : List Nat} {a b c : World} (h : Off f a b) (k : Off f b c) : Off f a c :=
 ⟨k.os.trans h.os,k.tape.trans h.tape,k.output.trans h.output,Nat.le_trans h.size k.size,fun i hi hn => (k.block i (Nat.lt_of_lt_of_le hi h.size) hn).trans (h.block i hi hn)⟩
theorem Off.set (w : World) (g i : Nat) (u : Value) : Off [g] w (w.setCell ⟨g,i,none⟩ u) :=
 ⟨rfl,rfl,rfl,by simp,fun k _ hk => heap_setCell_other w ⟨g,i,none⟩ k u (fun e => hk (by simp [e]))⟩

structure Sep (n : Nat) (w0 : World) (es : List Ent) (w : World) : Prop where
 fro : Fro n w0 w
 ok : ∀ e,e ∈ es → e.ok w
 ge : ∀ e,e ∈ es → ∀ g,g ∈ e.foot → n ≤ g
 ap : es.Pairwise fun a b => ∀ g,g ∈ a.foot → ¬ g ∈ b.foot

section
variable {n : Nat} {w0 w w' : World} {es es' : List Ent} {e e' : Ent} {i : Nat}
theorem Sep.get (S : Sep n w0 es w) (i : Nat) (hi : es[i]? = some e) : e.ok w := S.ok e (List.mem_of_getElem? hi)
theorem Sep.here (w : World) : Sep w.heap.size w [] w := ⟨Fro.here w,by simp,by simp,by simp⟩
theorem Sep.start {n : Nat} {w : World} (h : n ≤ w.heap.size) : Sep n w [] w := ⟨Fro.refl h,by simp,by simp,by simp⟩
theorem Sep.apart (S : Sep n w0 es w) {i j : Nat} (hi : es[i]? = some e) (hj : es[j]? = some e') (hij : i ≠ j) : ∀ g,g ∈ e.foot → ¬ g ∈ e'.foot := by
 obtain ⟨hi1,hi2⟩ := List.getElem?_eq_some_iff.1 hi
 obtain ⟨hj1,hj2⟩ := List.getElem?_eq_some_iff.1 hj
 have := List.pairwise_iff_getElem.1 S.ap
 rcases Nat.lt_or_gt_of_ne hij with h | h
 · have := this i j hi1 hj1 h
   rw [hi2,hj2] at this
   exact this
 · have := this j i hj1 hi1 h
   rw [hi2,hj2] at this
   exact fun g h1 h2 => this g h2 h1
theorem Sep.chg (S : Sep n w0 es w) (i : Nat) (hi : es[i]? = some e) (e' : Ent) (hg : Off e.foot w w') (hok : e'.ok w') (hf : ∀ g,g ∈ e'.foot → g ∈ e.foot ∨ w.heap.size ≤ g) : Sep n w0 (es.set i e') w' := by
 have hilt := (List.getElem?_eq_some_iff.1 hi).1
 have he := List.mem_of_getElem? hi
 have old : ∀ x,x ∈ es → ∀ g,g ∈ x.foot → g < w.heap.size := fun x hx => x.lt w (S.ok x hx)
 refine ⟨⟨S.fro.b.trans ⟨hg.os,hg.tape,hg.output,hg.size,fun k hk => hg.block k (Nat.lt_of_lt_of_le hk S.fro.z) (fun h => by have := S.ge e he k h; omega)⟩,Nat.le_trans S.fro.z hg.size⟩,fun x hx => ?_,fun x hx => ?_,?_⟩
 · obtain ⟨j,hj,hjx⟩ := List.mem_iff_getElem.1 hx
   rw [List.getElem_set] at hjx
   split at hjx
   · subst hjx; exact hok
   · rename_i hne
     have hj' : j < es.length := by simpa using hj
     have hjx' : es[j]? = some x := by rw [List.getElem?_eq_getElem hj',hjx]
     have hxm := List.mem_of_getElem? hjx'
     exact x.turn w w' (S.ok x hxm) fun g hgx => hg.block g (old x hxm g hgx) (S.apart hjx' hi (fun h => hne h.symm) g hgx)
 · rcases List.mem_or_eq_of_mem_set hx with h | rfl
   · exact S.ge x h
   · intro g hg'
     rcases hf g hg' with h | h
     · exact S.ge e he g h
     · exact Nat.le_trans S.fro.z h
 · rw [List.pairwise_iff_getElem]
   intro a b ha hb hab g h1 h2
   rw [List.length_set] at ha hb
   have key : ∀ (j : Nat) (hj : j < es.length),j ≠ i → g ∈ es[j].foot → ¬ g ∈ e'.foot := fun j hj hji h3 h4 => by
    have hj' : es[j]? = some es[j] := List.getElem?_eq_getElem hj
    rcases hf g h4 with h5 | h5
    · exact S.apart hj' hi hji g h3 h5
    · have := old _ (List.mem_of_getElem? hj') g h3; omega
   rw [List.getElem_set] at h1 h2
   split at h1
   · rename_i e1
     rw [if_neg (by omega)] at h2
     exact key b hb (by omega) h2 h1
   · split at h2
     · exact key a ha (by omega) h1 h2
     · exact List.pairwise_iff_getElem.1 S.ap a b ha hb hab g h1 h2
theorem Sep.news (S : Sep n w0 es w) (N : Sep w.heap.size w es' w') : Sep n w0 (es' ++ es) w' := by
 have old : ∀ x,x ∈ es → ∀ g,g ∈ x.foot → g < w.heap.size := fun x hx => x.lt w (S.ok x hx)
 refine ⟨S.fro.next N.fro.b,fun x hx => ?_,fun x hx => ?_,List.pairwise_append.2 ⟨N.ap,S.ap,fun a ha b hb g h1 h2 => ?_⟩⟩
 · rcases List.mem_append.1 hx with h | h
   · exact N.ok x h
   · exact x.turn w w' (S.ok x h) fun g hg => N.fro.b.block g (old x h g hg)
 · rcases List.mem_append.1 hx with h | h
   · exact fun g hg => Nat.le_trans S.fro.z (N.ge x h g hg)
   · exact S.ge x h
 · have h3 := N.ge a ha g h1
   have h4 := old b hb g h2
   omega
theorem Sep.new1 (S : Sep n w0 es w) (hb : Below w.heap.size w w') (e : Ent) (he : e.ok w') (hf : ∀ g,g ∈ e.foot → w.heap.size ≤ g) : Sep n w0 (e :: es) w' :=
 S.news (es' := [e]) ⟨⟨hb,hb.size⟩,by simpa using he,by simpa using hf,by simp⟩
theorem Sep.next (S : Sep n w0 es w) (hb : Below w.heap.size w w') : Sep n w0 es w' := S.news (es' := []) ⟨⟨hb,hb.size⟩,by simp,by simp,by simp⟩
theorem Sep.drew (S : Sep n w0 es w) : Sep n w0 es w.drew := S.next (Below.refl _ _).drew
theorem Sep.draws (S : Sep n w0 es w) (q : Nat) : Sep n w0 es (w.drewN q) := S.next ((Below.refl _ _).draws q)
theorem Sep.alloc (S : Sep n w0 es w) (T : TypeId) (cs : List Value) : Sep n w0 (eBlk w.heap.size T cs :: es) (w.alloc (.cells cs.toArray T)) :=
 S.new1 (Below.new w _) (eBlk w.heap.size T cs) (BlkAt.new w T cs) (by simp [eBlk])
theorem Sep.alloc' (S : Sep n w0 es w) (T : TypeId) (cs : List Value) {o : Obj} (ho : o = .cells cs.toArray T) {g : Nat} (hg : g = w.heap.size) : Sep n w0 (eBlk g T cs :: es) (w.alloc o) := by
 subst ho; subst hg; exact S.alloc T cs
theorem Sep.allocMap {κ β : Type} [DecidableEq κ] (S : Sep n w0 es w) (key : κ → Value) (ve : β → Value) {g : Nat} (hg : g = w.heap.size) : Sep n w0 (eMap key ve g (fun _ => none) :: es) (w.alloc (.map #[] 0)) := by
 subst hg
 exact S.new1 (Below.new w _) (eMap key ve w.heap.size (fun _ => none)) (MapG.made key ve w) (by simp [eMap])
theorem Sep.set (S : Sep n w0 es w) (i : Nat) {g T : Nat} {cs : List Value} (hi : es[i]? = some (eBlk g T cs)) (o : Nat) (u : Value) : Sep n w0 (es.set i (eBlk g T (cs.set o u))) (w.setCell ⟨g,o,none⟩ u) :=
 S.chg i hi _ (Off.set w g o u) (BlkAt.set_ (S.get i hi) o u) (fun g hg => .inl hg)
theorem Sep.pick (S : Sep n w0 es w) (is : List Nat) (hn : is.Nodup) : Sep n w0 (is.filterMap (es[·]?)) w := by
 have hm : ∀ x,x ∈ is.filterMap (es[·]?) → x ∈ es := fun x hx => by
  obtain ⟨j,_,hj⟩ := List.mem_filterMap.1 hx
  exact List.mem_of_getElem? hj
 refine ⟨S.fro,fun x hx => S.ok x (hm x hx),fun x hx => S.ge x (hm x hx),?_⟩
 rw [List.pairwise_filterMap]
 exact (List.nodup_iff_pairwise_ne.1 hn).imp fun {a b} hab x hx y hy => S.apart hx hy hab
theorem Sep.app (S : Sep n w0 (es ++ es') w) : Sep n w0 es w ∧ Sep n w0 es' w :=
 ⟨⟨S.fro,fun x hx => S.ok x (List.mem_append_left _ hx),fun x hx => S.ge x (List.mem_append_left _ hx),(List.pairwise_append.1 S.ap).1⟩,
  ⟨S.fro,fun x hx => S.ok x (List.mem_append_right _ hx),fun x hx => S.ge x (List.mem_append_right _ hx),(List.pairwise_append.1 S.ap).2.1⟩⟩
theorem Sep.nil (S : Sep n w0 es w) : Sep n w0 [] w := ⟨S.fro,by simp,by simp,by simp⟩
theorem Sep.as (S : Sep n w0 es w) (i : Nat) (hi : es[i]? = some e) (e' : Ent) (hok : e.ok w → e'.ok w) (hf : ∀ g,g ∈ e'.foot → g ∈ e.foot) : Sep n w0 (es.set i e') w :=
 S.chg i hi e' ⟨rfl,rfl,rfl,Nat.le_refl _,fun _ _ _ => rfl⟩ (hok (S.get i hi)) fun g hg => .inl (hf g hg)
theorem Sep.below (S : Sep n w0 es w) : Below n w0 w := S.fro.b
theorem Sep.ne {g k : Nat} (S : Sep n w0 es w) (i : Nat) (hi : es[i]? = some e) (hg : g ∈ e.foot) (hk : k < n) : g ≠ k := by
 have := S.ge e (List.mem_of_getElem? hi) g hg; omega
theorem Sep.nilOwn {α : Type} (S : Sep n w0 es w) (enc : α → List Value) (k T : Nat) : Sep n w0 (eOwn enc k T [] (.slice none 0 0) :: es) w :=
 S.new1 (Below.refl _ _) (eOwn enc k T [] (.slice none 0 0)) (Own.nil w) (by simp [eOwn,Value.ownBlock])
theorem Sep.own {α : Type} (S : Sep n w0 es w) (i : Nat) {g T : Nat} {cs : List Value} (hi : es[i]? = some (eBlk g T cs)) (enc : α → List Value) (k : Nat) (l : List α) (hl : l.flatMap enc = cs) (hk : ∀ x,(enc x).length = k) (h63 : l.length ≤ maxLen) :
 Sep n w0 (es.set i (eOwn enc k T l (.slice (some ⟨g,0,none⟩) l.length l.length))) w := by
 refine S.as i hi _ (fun h => ?_) (by simp [eOwn,eBlk,Value.ownBlock])
 have hlen := flat_len hk l
 exact ⟨hlen,.inr ⟨g,l.length,cs.toArray,rfl,Nat.zero_le _,h,Nat.le_refl _,h63,by rw [← hl]; simpa using hlen,by rw [← hl,← hlen]; exact List.take_of_length_le (by simp)⟩⟩

theorem wpList_pushS {P : Program} {α : Type} {enc : α → List Value} {k T : Nat} {l : List α} {v : Value} {ops : Array Oper} {rest : List Oper} {o : Oper} {a : Act} {Q : Exit → Act → World → Prop} (hgd : o.guard = none) (s x : Operand) (t : TypeId)
 (ho : o.op = .call { callee := .builtin .append,args := #[s,x],argTypes := #[t,t] }) (S : Sep n w0 es w) (i : Nat) (hei : es[i]? = some (eOwn enc k T l v)) 
 (ht : P.underlying t = some (.slice T)) (z : Value) (bytes : Nat) (hi : (P.info? T).map (fun i => (i.zero,i.size,i.bytes)) = some (some z,k,bytes))
 (hzs : z.cells.size = k) (hk : 0 < k) (hs : a.eval s = v) (y : α) (g : Nat) (hx : a.eval x = .slice (some ⟨g,0,none⟩) 1 1) (hy : (enc y).length = k) (hc : ∀ j u,(enc y)[j]? = some u → w.cell? ⟨g,j,none⟩ = some u) (h1 : ∀ u ∈ enc y,u.oneCell' = true)
 (hl : l.length ≤ 1048576) (hby : bytes ≤ 4096)
 (h : ∀ A' c' w',Sep n w0 (es.set i (eOwn enc k T (l ++ [y]) (.slice A' (l.length + 1) c'))) w' → Off v.ownBlock.toList w w' → wpList P ops Q rest (a.put o.dst (.slice A' (l.length + 1) c')) w') :
 wpList P ops Q (o :: rest) a w :=
 wpList_push hgd s x t ho (S.get i hei) ht z bytes hi hzs hk hs y g hx hy hc h1 hl hby (Nat.zero_le _) fun A' c' w' ho' hg hat => h A' c' w' (S.chg i hei _ (Off.grown hg) ho' (fun g hg => by
  simp only [eOwn,Option.mem_toList] at hg ⊢
  rcases hat with h | h
  · exact .inl (by rw [← h]; exact hg)
  · rw [h] at hg; cases hg; exact .inr (Nat.le_refl _))) (Off.grown hg)
theorem wpList_pushNS {P : Program} {α : Type} {enc : α → List Value} {k T : Nat} {l : List α} {v : Value} {ops : Array Oper} {rest : List Oper} {o : Oper} {a : Act} {Q : Exit → Act → World → Prop} (hgd : o.guard = none) (s x : Operand) (t : TypeId)
 (ho : o.op = .call { callee := .builtin .append,args := #[s,x],argTypes := #[t,t] }) (S : Sep n w0 es w) (i : Nat) (hei : es[i]? = some (eOwn enc k T l v))
 (ht : P.underlying t = some (.slice T)) (z : Value) (bytes : Nat) (hi : (P.info? T).map (fun i => (i.zero,i.size,i.bytes)) = some (some z,k,bytes))
 (hzs : z.cells.size = k) (hk : 0 < k) (hs : a.eval s = v) (ys : List α) (g c : Nat) (hx : a.eval x = .slice (some ⟨g,0,none⟩) ys.length c) (hy : ∀ y,(enc y).length = k) (hc : ∀ j u,(ys.flatMap enc)[j]? = some u → w.cell? ⟨g,j,none⟩ = some u) (h1 : ∀ y,∀ u ∈ enc y,u.oneCell' = true)
 (hl : l.length + ys.length ≤ 1048577) (hby : bytes ≤ 4096)
 (h : ∀ A' c' w',Sep n w0 (es.set i (eOwn enc k T (l ++ ys) (.slice A' (l.length + ys.length) c'))) w' → Off v.ownBlock.toList w w' → wpList P ops Q rest (a.put o.dst (.slice A' (l.length + ys.length) c')) w') :
 wpList P ops Q (o :: rest) a w := by
 obtain ⟨i0,hi0,hz,hsize,hb⟩ := info_parts hi
 refine wpList_append_own_at w hgd s x t ho 0 T i0 z k bytes ht hi0 hz hsize hb hzs hk v l.length (l.flatMap enc) hs (S.get i hei) ⟨g,0,none⟩ ys.length c (ys.flatMap enc) hx (flat_len hy ys) (fun j u hj => ?_) (fun u hu => ?_) (by simp only [maxLen]; omega) (by have := Nat.mul_le_mul hl hby; omega) (Nat.zero_le _) ?_
 · have := hc j u hj
   unfold Addr.add
   split
   · rename_i h0; subst h0; exact this
   · simpa using this
 · obtain ⟨y,_,hy'⟩ := List.mem_flatMap.1 hu
   exact h1 y u hy'
 · intro v' w' ho' hg _ hat
   obtain ⟨A',c',rfl⟩ := own_form ho'
   refine h A' c' w' (S.chg i hei _ (Off.grown hg) ?_ (fun g hg => ?_)) (Off.grown hg)
   · show Own enc k T 0 (l ++ ys) _ w'
     unfold Own; rw [List.flatMap_append,List.length_append]; exact ho'
   · simp only [eOwn,Option.mem_toList] at hg ⊢
     rcases hat with h | h
     · exact .inl (by rw [← h]; exact hg)
     · rw [h] at hg; cases hg; exact .inr (Nat.le_refl _)
theorem wpList_mapUpdateS {κ β : Type} [DecidableEq κ] {P : Program} {ops : Array Oper} {rest : List Oper} {o : Oper} {a : Act} {Q : Exit → Act → World → Prop}
 (hg : o.guard = none) (m x v : Operand) (M T E : TypeId) (hop : o.op = Op.mapUpdate M m x v) {D : TypeDesc} {key : κ → Value} {ve : β → Value} {b : Nat} {f : κ → Option β} (S : Sep n w0 es w) (i : Nat) (hei : es[i]? = some (eMap key ve b f)) (K : KeyG P T D key) (hM : P.underlying M = some (.map T E))
 (y : κ) (z : β) (hm : a.eval m = .map (some b)) (hx : a.eval x = key y) (hv : a.eval v = ve z)
 (hK : ∀ w',Sep n w0 (es.set i (eMap key ve b (fun u => if u = y then some z else f u))) w' → Off [b] w w' → wpList P ops Q rest (a.put o.dst undef) w') :
 wpList P ops Q (o :: rest) a w :=
 wpList_mapUpdate_g w hg m x v M T E hop D key ve K hM b f y z hm (S.get i hei) hx hv fun w' h hgr => hK w' (S.chg i hei _ (Off.grown hgr) h (fun g hg => .inl hg)) (Off.grown hgr)
theorem step_pushS {P : Program} {α : Type} {enc : α → List Value} {k T : Nat} {l : List α} {v : Value} {ops : Array Oper} {o : Oper} {a : Act} {K : Act → World → Prop} {Q : Exit → Act → World → Prop} {E : Prop} (hgd : o.guard = none) (s x : Operand) (t : TypeId)
 (ho : o.op = .call { callee := .builtin .append,args := #[s,x],argTypes := #[t,t] }) (S : Sep n w0 es w) (i : Nat) (hei : es[i]? = some (eOwn enc k T l v))
 (ht : P.underlying t = some (.slice T)) (z : Value) (bytes : Nat) (hi : (P.info? T).map (fun i => (i.zero,i.size,i.bytes)) = some (some z,k,bytes))
 (hzs : z.cells.size = k) (hk : 0 < k) (hs : a.eval s = v) (y : α) (g : Nat) (hx : a.eval x = .slice (some ⟨g,0,none⟩) 1 1) (hy : (enc y).length = k) (hc : ∀ j u,(enc y)[j]? = some u → w.cell? ⟨g,j,none⟩ = some u) (h1 : ∀ u ∈ enc y,u.oneCell' = true)
 (hl : l.length ≤ 1048576) (hby : bytes ≤ 4096)
 (h : ∀ A' c' w',Sep n w0 (es.set i (eOwn enc k T (l ++ [y]) (.slice A' (l.length + 1) c'))) w' → Off v.ownBlock.toList w w' → K (a.put o.dst (.slice A' (l.length + 1) c')) w') :
 if Region.wanted o (yielded ops a.tmps) = true then Oper.wp P o a w K Q else E := by
 have hcA : ∀ j u,(enc y)[j]? = some u → w.cell? ((⟨g,0,none⟩ : Addr).add j) = some u := fun j u hj => by
  have := hc j u hj
  unfold Addr.add
  split
  · rename_i h0; subst h0; exact this
  · simpa using this
 refine step_append_at hgd s x t ho 0 T z k bytes ht hi hzs hk v l.length (l.flatMap enc) hs (S.get i hei) ⟨g,0,none⟩ 1 1 (enc y) hx (by omega) hcA h1 (by simp only [maxLen]; omega) (by have := Nat.mul_le_mul (show l.length + 1 ≤ 1048577 by omega) hby; omega) (Nat.zero_le _) fun A' c' w' ho' hg hat => h A' c' w' (S.chg i hei _ (Off.grown hg) ?_ (fun g hg => ?_)) (Off.grown hg)
 · show Own enc k T 0 (l ++ [y]) _ w'
   unfold Own; rw [List.flatMap_append,List.length_append]; simpa using ho'
 · simp only [eOwn,Option.mem_toList] at hg ⊢
   rcases hat with h | h
   · exact .inl (by rw [← h]; exact hg)
   · rw [h] at hg; cases hg; exact .inr (Nat.le_refl _)
end
theorem Sep.ints {n : Nat} {w0 w : World} {es : List Ent} (S : Sep n w0 es w) (i : Nat) {l : List Int} {A : Option Addr} {c : Nat} (hi : es[i]? = some (eInts l (.slice A l.length c))) : IntsAt w A l := OwnI.ints (S.get i hi)
theorem Sep.form {α : Type} {enc : α → List Value} {k T n : Nat} {w0 w : World} {es : List Ent} (S : Sep n w0 es w) (i : Nat) {l : List α} {v : Value} (hi : es[i]? = some (eOwn enc k T l v)) : ∃ A c,v = .slice A l.length c := Own.form (S.get i hi)
section
variable {n : Nat} {w0 w : World} {a b c e : Ent} {es : List Ent}
theorem Sep.first (S : Sep n w0 (e :: es) w) : Sep n w0 [e] w := (Sep.app (es := [e]) S).1
theorem Sep.drop1 (S : Sep n w0 (e :: es) w) : Sep n w0 es w := (Sep.app (es := [e]) S).2
theorem Sep.drop2 (S : Sep n w0 (a :: e :: es) w) : Sep n w0 (a :: es) w :=
 ⟨S.fro,fun x hx => S.ok x (by simp at hx ⊢; rcases hx with h | h <;> simp [h]),fun x hx => S.ge x (by simp at hx ⊢; rcases hx with h | h <;> simp [h]),List.Pairwise.sublist (.cons_cons _ (.cons _ (List.Sublist.refl _))) S.ap⟩
theorem Sep.drop3 (S : Sep n w0 (a :: b :: e :: es) w) : Sep n w0 (a :: b :: es) w :=
 ⟨S.fro,fun x hx => S.ok x (by simp at hx ⊢; rcases hx with h | h | h <;> simp [h]),fun x hx => S.ge x (by simp at hx ⊢; rcases hx with h | h | h <;> simp [h]),List.Pairwise.sublist (.cons_cons _ (.cons_cons _ (.cons _ (List.Sublist.refl _)))) S.ap⟩
end
theorem wp_world {P : Program} {c : Code} {Q : Exit → Act → World → Prop} {a : Act} {w : World} (R : World → Prop) (h : R w) (k : ∀ W,R W → c.wp P Q a W) : c.wp P Q a w := k w h
theorem calls_world {P : Program} {f : FuncId} {args : Array Value} {w : World} {Q : Ending → World → Prop} (R : World → Prop) (h : R w) (k : ∀ W,R W → Calls P f args W Q) : Calls P f args w Q := k w h
theorem ckC {n : Nat} {w0 V : World} {es : List Ent} (S : Sep n w0 es V) (i : Nat) {g : Nat} {T : TypeId} {cs : List Value} (hi : es[i]? = some (eBlk g T cs)) (q : Nat) {v : Value} (hv : cs[q]? = some v) : V.cell? ⟨g, q, none⟩ = some v := (BlkAt.cell (S.get i hi) q).trans hv
theorem ckS {g o : Nat} {u : Value} {n : Nat} {w0 w w' : World} {es es' : List Ent} (S : Sep n w0 es w) (hw : w' = w.setCell ⟨g, o, none⟩ u) (i : Nat) {T : TypeId} {cs : List Value} (hi : es[i]? = some (eBlk g T cs)) (he : es.set i (eBlk g T (cs.set o u)) = es' := by (simp only [List.set_cons_succ, List.set_cons_zero]; rfl)) : Hid (Sep n w0 es' w') := by
  subst hw; subst he; exact S.set i hi o u
theorem ckA {n : Nat} {w0 w w' : World} {es : List Ent} (S : Sep n w0 es w) {T : TypeId} {cs : List Value} (hw : w' = w.alloc (.cells cs.toArray T)) {g : Nat} (hg : g = w.heap.size) : Hid (Sep n w0 (eBlk g T cs :: es) w') := by
  subst hw; subst hg; exact S.alloc T cs
theorem ckR {n : Nat} {w0 w : World} {es es' : List Ent} (S : Sep n w0 es w) (he : es = es' := by (simp only [List.set_cons_succ, List.set_cons_zero]; rfl)) : Hid (Sep n w0 es' w) := by
  subst he; exact S
end
section

section
variable {κ β : Type} [DecidableEq κ]
def MapC (key : κ → Value) (ve : β → Value) (w : World) (b : Nat) (f : κ → Option β) (c : Nat) : Prop :=
 ∃ (l : List (κ × β × Nat)) (clock : Nat),w.heap[b]? = some (.map (l.map (entryG key ve)).toArray clock) ∧ (∀ x,f x = valG l x) ∧ l.length = c
variable {key : κ → Value} {ve : β → Value} {w : World} {b c : Nat} {f : κ → Option β}
theorem MapC.g (h : MapC key ve w b f c) : MapG key ve w b f := by
 obtain ⟨l,k,h1,h2,_⟩ := h
 exact ⟨l,k,h1,h2⟩
theorem MapC.made (key : κ → Value) (ve : β → Value) (w : World) : MapC key ve (w.alloc (.map #[] 0)) w.heap.size (fun _ => none) 0 := ⟨[],0,(MapKept.heap_alloc w _).1,fun _ => rfl,rfl⟩
theorem MapC.congr {g : κ → Option β} (h : MapC key ve w b f c) (hg : ∀ x,g x = f x) : MapC key ve w b g c := by
 obtain ⟨l,k,h1,h2,h3⟩ := h
 exact ⟨l,k,h1,fun x => (hg x).trans (h2 x),h3⟩
def eMapC (key : κ → Value) (ve : β → Value) (b : Nat) (f : κ → Option β) (c : Nat) : Ent where
 foot := [b]
 ok w := MapC key ve w b f c
 lt w h k hk := by simp at hk; subst hk; exact h.g.lt
 turn w w' h hg := by
  obtain ⟨l,c,h1,h2⟩ := h
  exact ⟨l,c,(hg b (by simp)).trans h1,h2⟩
theorem MapC.len {P : Program} {M T E : TypeId} (hM : P.underlying M = some (.map T E)) (h : MapC key ve w b f c) (ty : TypeId) : (Builtin.len_ #[M] ty #[.map (some b)]).run P w = .ok (.int .i64 c) w := by
 obtain ⟨l,k,h1,_,h3⟩ := h
 have := run_len_map (P := P) (w := w) M ty b _ k (by simp [Program.mapKeyOf,Program.mapElemOf,hM]) h1
 rw [this]
 simp [goInt,h3]
theorem MapC.store {P : Program} {M T E : TypeId} {D : TypeDesc} (K : KeyG P T D key) (hM : P.underlying M = some (.map T E)) (h : MapC key ve w b f c) (x : κ) (v : β) :
 ∃ w',(Instr.mapUpdate M (.map (some b)) (key x) (ve v)).run P w = .ok () w' ∧ MapC key ve w' b (fun y => if y = x then some v else f y) (if (f x).isSome then c else c + 1) ∧ w.grownBy w' (some b) := by
 obtain ⟨l,clk,hb,hf,hlen⟩ := h
 have hk := findKeyG_run (ve := ve) K x w l
 cases hj : l.findIdx? (fun e => decide (e.1 = x)) with
 | none =>
   rw [hj] at hk
   simp only [Option.bind_none] at hk
   have hfx : f x = none := (hf x).trans (valG_none hj)
   refine ⟨ChangeMaps.setBlock w b (.map ((l ++ [(x,v,clk)]).map (entryG key ve)).toArray (clk + 1)),?_,⟨l ++ [(x,v,clk)],clk + 1,ChangeMaps.heap_setBlock_same hb _,fun y => by rw [findG_push hj]; simp only [hf],by rw [hfx]; simp [hlen]⟩,
    ⟨rfl,rfl,rfl,by simp [ChangeMaps.setBlock],fun i _ hi => ChangeMaps.heap_setBlock_other hb _ (fun e => hi (by rw [e]))⟩⟩
   simp [Instr.mapUpdate,run_underlying hM,MapKept.run_getObj_map hb,K.chk,hk,MapKept.run_setObj_map _ hb,Result.andThen,ChangeMaps.setBlock,entryG]
 | some j =>
   obtain ⟨e,he,h1,h2,h3⟩ := valG_some hj
   have hfx : f x = some e.2.1 := (hf x).trans h2
   rw [hj] at hk
   simp only [Option.bind_some,he,Option.map_some] at hk
   refine ⟨ChangeMaps.setBlock w b (.map ((l.set j (e.1,v,e.2.2)).map (entryG key ve)).toArray clk),?_,⟨l.set j (e.1,v,e.2.2),clk,ChangeMaps.heap_setBlock_same hb _,fun y => by rw [findG_modify hj he]; simp only [hf],by rw [hfx]; simp [hlen]⟩,
    ⟨rfl,rfl,rfl,by simp [ChangeMaps.setBlock],fun i _ hi => ChangeMaps.heap_setBlock_other hb _ (fun e => hi (by rw [e]))⟩⟩
   have hm : (l.map (entryG key ve)).modify j (fun e' => { key := key x,val := ve v,born := e'.born }) = (l.set j (x,v,e.2.2)).map (entryG key ve) := by
    apply List.ext_getElem?
    intro i
    rw [List.getElem?_modify]
    simp only [List.getElem?_map,List.getElem?_set]
    by_cases hij : j = i
    · subst hij
      rw [he]
      simp [h3,entryG]
    · simp [hij]
   simp [Instr.mapUpdate,run_underlying hM,MapKept.run_getObj_map hb,K.chk,hk,he,entryG,h1,K.stay,MapKept.run_setObj_map _ hb,Result.andThen,ChangeMaps.setBlock]
   exact congrArg (fun q => w.heap.setIfInBounds b (Obj.map (List.toArray q) clk)) (by rw [hm,List.map_set]; rfl)
variable {n : Nat} {w0 w' : World} {es : List Ent}
theorem Sep.allocMapC (S : Sep n w0 es w) (key : κ → Value) (ve : β → Value) {g : Nat} (hg : g = w.heap.size) : Sep n w0 (eMapC key ve g (fun _ => none) 0 :: es) (w.alloc (.map #[] 0)) := by
 subst hg
 exact S.new1 (Below.new w _) (eMapC key ve w.heap.size (fun _ => none) 0) (MapC.made key ve w) (by simp [eMapC])
theorem Sep.storeC {P : Program} {M T E : TypeId} {D : TypeDesc} (S : Sep n w0 es w) (i : Nat) (hei : es[i]? = some (eMapC key ve b f c)) (K : KeyG P T D key) (hM : P.underlying M = some (.map T E)) (x : κ) (v : β) :
 ∃ w',(Instr.mapUpdate M (.map (some b)) (key x) (ve v)).run P w = .ok () w' ∧ Sep n w0 (es.set i (eMapC key ve b (fun y => if y = x then some v else f y) (if (f x).isSome then c else c + 1))) w' ∧ Off [b] w w' := by
 obtain ⟨w',h1,h2,h3⟩ := MapC.store K hM (S.get i hei) x v
 exact ⟨w',h1,S.chg i hei _ (Off.grown h3) h2 (fun g hg => .inl hg),Off.grown h3⟩
theorem wpList_mapUpdateC {P : Program} {ops : Array Oper} {rest : List Oper} {o : Oper} {a : Act} {Q : Exit → Act → World → Prop}
 (hg : o.guard = none) (m x v : Operand) (M T E : TypeId) (hop : o.op = Op.mapUpdate M m x v) {D : TypeDesc} (S : Sep n w0 es w) (i : Nat) (hei : es[i]? = some (eMapC key ve b f c)) (K : KeyG P T D key) (hM : P.underlying M = some (.map T E))
 (y : κ) (z : β) (hnew : f y = none) (hm : a.eval m = .map (some b)) (hx : a.eval x = key y) (hv : a.eval v = ve z)
 (hK : ∀ w',Sep n w0 (es.set i (eMapC key ve b (fun u => if u = y then some z else f u) (c + 1))) w' → Off [b] w w' → wpList P ops Q rest (a.put o.dst undef) w') :
 wpList P ops Q (o :: rest) a w := by
 refine wpList_plain hg fun K' hK' => ?_
 obtain ⟨w',hrun,r1,r2⟩ := S.storeC i hei K hM y z
 unfold Oper.wp
 simp [execOp,hop,hm,hx,hv,hrun,Result.andThen]
 exact hK' _ _ (hK w' (by rw [hnew] at r1; exact r1) r2)
end

def keyS (s : ByteArray) : Value := .string s
theorem beqS (x y : ByteArray) : (x == y) = decide (x = y) := by
 by_cases h : x = y
 · rw [decide_eq_true h]; exact (MapKept.bytes_beq x y).2 h
 · rw [decide_eq_false h]
   cases hb : x == y with
   | false => rfl
   | true => exact absurd ((MapKept.bytes_beq x y).1 hb) h
theorem okS : KeyG Try.prog 9 .string keyS := ⟨Try.underlying9,fun x y w => by
 simp only [Op.equal,Op.maxDepth,keyS]
 rw [Op.equalIn]
 simp only [Sem.run_bind,run_underlying Try.underlying9,Result.andThen_ok,Sem.run_pure,beqS],fun em x w => by cases em <;> kernel_rfl,fun x w => by simp [Instr.keyThatStays,keyS,Instr.sameBits,beqS],.inr fun x y => by
 simp [Instr.sameNow,keyS,beqS],fun x y h => by simpa [keyS] using h⟩
theorem makeMap_n (M T E : TypeId) (hM : Try.prog.underlying M = some (.map T E)) (n : Int) (w : World) : (Instr.makeMap M (some (.int .i64 n))).run Try.prog w = .ok (.map (some w.heap.size)) (w.alloc (.map #[] 0)) := by
 simp [Instr.makeMap,run_underlying hM,Result.andThen,asInt]
 first | rfl | done
end
section

abbrev eVs (l : List Vs) (v : Value) : Ent := eOwn Vs.cells 4 102 l v
theorem plInfo : (Try.prog.info? 102).map (fun i => (i.zero,i.size,i.bytes)) = some (some (.agg #[.int .i64 0,.int .i64 0,.int .i64 0,.int .i64 0]),4,32) := by kernel_rfl
structure DInv (a b : Au) (s0 : Int × Int) (evs : List Int) (P : Int × Int → Bool) (i k t : Nat) (vis : List Vs) (ws : List (List Int)) : Prop where
 bfs : Bfs (stp2 a b) s0 dead2 evs i k (vis.map Vs.pr) ws
 lk : Link (vis.map fun v => (v.b,v.e)) ws
 nd : (vis.map Vs.pr).Nodup
 rg : ∀ v,v ∈ vis → -1 ≤ v.x ∧ v.x < a.n ∧ -1 ≤ v.y ∧ v.y < b.n
 al : ∀ v,v ∈ vis → v.pr ≠ (-1,-1)
 no : ∀ (j : Nat) v,j < t → (vis.map Vs.pr)[j]? = some v → P v = false
section
variable {a b : Au} {s0 : Int × Int} {evs : List Int} {P : Int × Int → Bool} {i k t : Nat} {vis : List Vs} {ws : List (List Int)}
theorem DInv.start (evs : List Int) (P : Int × Int → Bool) (x y : Int) (hx : -1 ≤ x ∧ x < a.n) (hy : -1 ≤ y ∧ y < b.n) (hd : (x,y) ≠ (-1,-1)) : DInv a b (x,y) evs P 0 0 0 [⟨x,y,-1,-1⟩] [[]] :=
 ⟨Bfs.start,⟨rfl,fun j q hq => by
  have := (List.getElem?_eq_some_iff.1 hq).1
  obtain rfl : j = 0 := by simp at this; omega
  simp at hq; subst hq
  exact ⟨fun _ => rfl,fun h => absurd h (by omega)⟩⟩,by simp,fun v hv => by
  simp at hv; subst hv
  simp only; omega,fun v hv => by
  simp at hv; subst hv; exact hd,fun j v h => absurd h (by omega)⟩
theorem DInv.len (h : DInv a b s0 evs P i k t vis ws) (ha : a.Right) (hb : b.Right) : vis.length ≤ (a.n.toNat + 2) * (b.n.toNat + 2) := by
 have h1 := nodup_lenN ((a.n.toNat + 2) * (b.n.toNat + 2)) ((vis.map Vs.pr).map fun q => (q.1 + 1).toNat * (b.n.toNat + 2) + (q.2 + 1).toNat) ?_ ?_
 · simpa using h1
 · rw [List.nodup_iff_pairwise_ne,List.pairwise_map]
   refine List.Pairwise.imp_of_mem ?_ (List.nodup_iff_pairwise_ne.1 h.nd)
   intro p q hp hq hne hc
   obtain ⟨v,hv,rfl⟩ := List.mem_map.1 hp
   obtain ⟨u,hu,rfl⟩ := List.mem_map.1 hq
   have r1 := h.rg v hv
   have r2 := h.rg u hu
   have n1 := hb.n0
   simp only [Vs.pr] at hc hne
   have e2 : (v.y + 1).toNat < b.n.toNat + 2 := by omega
   have e3 : (u.y + 1).toNat < b.n.toNat + 2 := by omega
   have e4 : (v.x + 1).toNat = (u.x + 1).toNat := by
    have m1 := Nat.div_eq_of_lt e2
    have m2 := Nat.div_eq_of_lt e3
    have := congrArg (· / (b.n.toNat + 2)) hc
    rw [Nat.mul_comm,Nat.mul_add_div (by omega),m1,Nat.mul_comm,Nat.mul_add_div (by omega),m2] at this
    omega
   rw [e4] at hc
   exact hne (by rw [Prod.mk.injEq]; omega)
 · intro x hx
   obtain ⟨q,hq,rfl⟩ := List.mem_map.1 hx
   obtain ⟨v,hv,rfl⟩ := List.mem_map.1 hq
   have r1 := h.rg v hv
   have n0 := ha.n0
   have n1 := hb.n0
   simp only [Vs.pr]
   have e1 : (v.x + 1).toNat + 1 ≤ a.n.toNat + 2 := by omega
   have e2 : (v.y + 1).toNat < b.n.toNat + 2 := by omega
   have := Nat.mul_le_mul_right (b.n.toNat + 2) e1
   rw [Nat.succ_mul] at this
   omega
theorem DInv.skip (hinc : incr evs) (h : DInv a b s0 evs P i k t vis ws) {v : Vs} {e : Int} (hv : vis[i]? = some v) (he : evs[k]? = some e) (hs : stp2 a b v.pr e ∈ (-1,-1) :: vis.map Vs.pr) : DInv a b s0 evs P i (k + 1) t vis ws :=
 ⟨h.bfs.skip hinc (v := v.pr) (by rw [List.getElem?_map,hv]; rfl) he (by
  rcases List.mem_cons.1 hs with g | g
  · exact .inl g
  · obtain ⟨j,hj,e⟩ := List.mem_iff_getElem.1 g
    exact .inr ⟨j,by rw [List.getElem?_eq_getElem hj,e]⟩),h.lk,h.nd,h.rg,h.al,h.no⟩
theorem DInv.push (ha : a.Right) (hb : b.Right) (hinc : incr evs) (h : DInv a b s0 evs P i k t vis ws) (ht : t ≤ vis.length) {v : Vs} {e : Int} (hv : vis[i]? = some v) (he : evs[k]? = some e) (hs : ¬ stp2 a b v.pr e ∈ (-1,-1) :: vis.map Vs.pr) :
 ∃ ws',DInv a b s0 evs P i (k + 1) t (vis ++ [⟨(stp2 a b v.pr e).1,(stp2 a b v.pr e).2,i,e⟩]) ws' := by
 have hv' : (vis.map Vs.pr)[i]? = some v.pr := by rw [List.getElem?_map,hv]; rfl
 obtain ⟨wi,hwi⟩ := h.bfs.word hv'
 refine ⟨ws ++ [wi ++ [e]],?_,?_,?_,fun u hu => ?_,fun u hu => ?_,fun j u hj hu => ?_⟩
 · rw [List.map_append]
   exact h.bfs.push hinc hv' he hwi
 · rw [List.map_append]
   exact h.lk.push e hwi
 · rw [List.map_append]
   refine List.nodup_append.2 ⟨h.nd,by simp,fun p hp q hq => ?_⟩
   simp at hq
   rintro rfl
   refine hs (List.mem_cons_of_mem _ ?_)
   rw [hq] at hp
   exact hp
 · rcases List.mem_append.1 hu with g | g
   · exact h.rg u g
   · simp at g; subst g
     have := ha.to_cases v.x e
     have := hb.to_cases v.y e
     have := ha.n0
     have := hb.n0
     simp only [stp2,Vs.pr]
     omega
 · rcases List.mem_append.1 hu with g | g
   · exact h.al u g
   · simp at g; subst g
     intro hc
     exact hs (by rw [← hc]; simp [Vs.pr])
 · rw [List.map_append,List.getElem?_append_left (by simp; omega)] at hu
   exact h.no j u hj hu
theorem DInv.next (h : DInv a b s0 evs P i evs.length t vis ws) : DInv a b s0 evs P (i + 1) 0 t vis ws := ⟨h.bfs.next,h.lk,h.nd,h.rg,h.al,h.no⟩
theorem DInv.test (h : DInv a b s0 evs P i k i vis ws) {v : Vs} (hv : vis[i]? = some v) (hp : P v.pr = false) : DInv a b s0 evs P i k (i + 1) vis ws :=
 ⟨h.bfs,h.lk,h.nd,h.rg,h.al,fun j u hj hu => by
  by_cases e : j = i
  · subst e
    rw [List.getElem?_map,hv] at hu
    cases hu; exact hp
  · exact h.no j u (by omega) hu⟩
end

end
open Go.RowKit Go.Shelf
def laysSort_ren : Go.Shelf.Ren := ⟨fun | 5 => 78 | 8 => 95 | 7 => 94 | 19 => 112 | 20 => 113 | 10 => 104 | 11 => 105 | 12 => 106 | 13 => 107 | 14 => 108 | 15 => 109 | 16 => 90 | 17 => 110 | 18 => 111 | 30 => 115 | 31 => 116 | 32 => 117 | 33 => 118 | 34 => 119 | 35 => 103 | 40 => 120 | n => n,fun | 23 => 22 | 25 => 3 | 3 => 3 | 32 => 116 | 22 => 22 | 0 => 0 | 44 => 141 | 46 => 143 | 4 => 4 | 36 => 135 | 35 => 134 | 41 => 98 | 5 => 5 | 9 => 9 | 53 => 147 | 57 => 151 | 63 => 153 | 64 => 154 | n => n,fun | n => n⟩
theorem laysSort : Go.Proofs.SlLaysM.n5 Try.prog laysSort_ren where
 mixed := by kernel_rfl
 f5 := ⟨"slices.Sort[[]int,int]", by decide, Try.func78.trans (congrArg some (by kernel_rfl))⟩
 f7 := ⟨"slices.pdqsortOrdered[int]", by decide, Try.func94.trans (congrArg some (by kernel_rfl))⟩
 f8 := Try.func95.trans (congrArg some (by kernel_rfl))
 f10 := ⟨"slices.insertionSortOrdered[int]", by decide, Try.func104.trans (congrArg some (by kernel_rfl))⟩
 f11 := ⟨"slices.heapSortOrdered[int]", by decide, Try.func105.trans (congrArg some (by kernel_rfl))⟩
 f12 := ⟨"slices.breakPatternsOrdered[int]", by decide, Try.func106.trans (congrArg some (by kernel_rfl))⟩
 f13 := ⟨"slices.choosePivotOrdered[int]", by decide, Try.func107.trans (congrArg some (by kernel_rfl))⟩
 f14 := ⟨"slices.reverseRangeOrdered[int]", by decide, Try.func108.trans (congrArg some (by kernel_rfl))⟩
 f15 := ⟨"slices.partialInsertionSortOrdered[int]", by decide, Try.func109.trans (congrArg some (by kernel_rfl))⟩
 f16 := ⟨"cmp.Less[int]", by decide, Try.func90.trans (congrArg some (by kernel_rfl))⟩
 f17 := ⟨"slices.partitionEqualOrdered[int]", by decide, Try.func110.trans (congrArg some (by kernel_rfl))⟩
 f18 := ⟨"slices.partitionOrdered[int]", by decide, Try.func111.trans (congrArg some (by kernel_rfl))⟩
 f19 := Try.func112.trans (congrArg some (by kernel_rfl))
 f20 := Try.func113.trans (congrArg some (by kernel_rfl))
 f30 := ⟨"slices.siftDownOrdered[int]", by decide, Try.func115.trans (congrArg some (by kernel_rfl))⟩
 f31 := Try.func116.trans (congrArg some (by kernel_rfl))
 f32 := Try.func117.trans (congrArg some (by kernel_rfl))
 f33 := ⟨"slices.medianAdjacentOrdered[int]", by decide, Try.func118.trans (congrArg some (by kernel_rfl))⟩
 f34 := ⟨"slices.medianOrdered[int]", by decide, Try.func119.trans (congrArg some (by kernel_rfl))⟩
 f35 := ⟨"cmp.isNaN[int]", by decide, Try.func103.trans (congrArg some (by kernel_rfl))⟩
 f40 := ⟨"slices.order2Ordered[int]", by decide, Try.func120.trans (congrArg some (by kernel_rfl))⟩
 t0 := Try.underlying0
 a0 := Try.isAgg0
 z0 := Try.sizeOf0
 v0 := Try.zeroValue0
 t3 := Try.underlying3
 a3 := Try.isAgg3
 z3 := Try.sizeOf3
 v3 := Try.zeroValue3
 t4 := Try.underlying4
 a4 := Try.isAgg4
 z4 := Try.sizeOf4
 v4 := Try.zeroValue4
 t5 := Try.underlying5
 a5 := Try.isAgg5
 z5 := Try.sizeOf5
 v5 := Try.zeroValue5
 t9 := Try.underlying9
 a9 := Try.isAgg9
 z9 := Try.sizeOf9
 v9 := Try.zeroValue9
 t22 := Try.underlying22
 a22 := Try.isAgg22
 z22 := Try.sizeOf22
 v22 := Try.zeroValue22
 t23 := Try.underlying22
 a23 := Try.isAgg22
 z23 := Try.sizeOf22
 v23 := Try.zeroValue22
 t25 := Try.underlying3
 a25 := Try.isAgg3
 z25 := Try.sizeOf3
 v25 := Try.zeroValue3
 t32 := Try.underlying116
 a32 := Try.isAgg116
 z32 := Try.sizeOf116
 v32 := Try.zeroValue116
 t35 := Try.underlying134
 a35 := Try.isAgg134
 z35 := Try.sizeOf134
 v35 := Try.zeroValue134
 t36 := Try.underlying135
 a36 := Try.isAgg135
 z36 := Try.sizeOf135
 v36 := Try.zeroValue135
 t41 := Try.underlying98
 a41 := Try.isAgg98
 z41 := Try.sizeOf98
 v41 := Try.zeroValue98
 t44 := Try.underlying141
 a44 := Try.isAgg141
 z44 := Try.sizeOf141
 v44 := Try.zeroValue141
 t46 := Try.underlying143
 a46 := Try.isAgg143
 z46 := Try.sizeOf143
 v46 := Try.zeroValue143
 t53 := Try.underlying147
 a53 := Try.isAgg147
 z53 := Try.sizeOf147
 v53 := Try.zeroValue147
 t57 := Try.underlying151
 a57 := Try.isAgg151
 z57 := Try.sizeOf151
 v57 := Try.zeroValue151
 t63 := Try.underlying153
 a63 := Try.isAgg153
 z63 := Try.sizeOf153
 v63 := Try.zeroValue153
 t64 := Try.underlying154
 a64 := Try.isAgg154
 z64 := Try.sizeOf154
 v64 := Try.zeroValue154

def laysComp_ren : Go.Shelf.Ren := ⟨fun | 43 => 79 | n => n,fun | 22 => 22 | 23 => 3 | 3 => 3 | 4 => 4 | 0 => 0 | n => n,fun | n => n⟩
theorem laysComp : Go.Proofs.SlLaysN.n43 Try.prog laysComp_ren where
 mixed := by kernel_rfl
 f43 := ⟨"slices.Compact[[]int,int]", by decide, Try.func79.trans (congrArg some (by kernel_rfl))⟩
 t0 := Try.underlying0
 a0 := Try.isAgg0
 z0 := Try.sizeOf0
 v0 := Try.zeroValue0
 t3 := Try.underlying3
 a3 := Try.isAgg3
 z3 := Try.sizeOf3
 v3 := Try.zeroValue3
 t4 := Try.underlying4
 a4 := Try.isAgg4
 z4 := Try.sizeOf4
 v4 := Try.zeroValue4
 t22 := Try.underlying22
 a22 := Try.isAgg22
 z22 := Try.sizeOf22
 v22 := Try.zeroValue22
 t23 := Try.underlying3
 a23 := Try.isAgg3
 z23 := Try.sizeOf3
 v23 := Try.zeroValue3
 i23 := by kernel_rfl

def sortV (l : List Int) : List Int := l.mergeSort fun x y => decide (x ≤ y)
theorem sortV_len (l : List Int) : (sortV l).length = l.length := List.length_mergeSort l
theorem mem_sortV {l : List Int} {x : Int} : x ∈ sortV l ↔ x ∈ l := List.mem_mergeSort
def GivesSt (l : List Int) (v : Value) (w : World) (e : Ending) (w' : World) : Prop := e = .returned (.tuple #[]) ∧ OwnI 0 (sortV l) v w' ∧ Off v.ownBlock.toList w w'
theorem sort_c (A : Option Addr) (c : Nat) (l : List Int) (w : World) (h : OwnI 0 l (.slice A l.length c) w) (hl : l.length ≤ 1048577) :
 Calls Try.prog 78 #[.slice A l.length c] w (GivesSt l (.slice A l.length c) w) := by
 rcases h.2 with ⟨h1,h2⟩ | ⟨g,cap,cur,h1,hb,h3,h4,h5,h6,h7⟩
 · obtain rfl := List.eq_nil_of_length_eq_zero h2
   refine (AnyM.slices_Sort_int_none laysSort A c w).mono ?_
   rintro e w' ⟨rfl,rfl⟩
   exact ⟨rfl,by rw [show sortV [] = [] from by simp [sortV]]; exact h,⟨rfl,rfl,rfl,Nat.le_refl _,fun _ _ _ => rfl⟩⟩
 · cases h1
   have hg : g < w.heap.size := (Array.getElem?_eq_some_iff.1 h3).1
   have h7' : cur.toList.take l.length = l.map (Value.int .i64) := by
    rw [Nat.mul_one] at h7
    rw [h7]; exact flat_encI l
   refine (AnyM.slices_Sort_int laysSort g 0 c l w (Go.holds_of_blockI h3 h7') hg (by omega)).mono ?_
   rintro e w' ⟨rfl,n,os,rfl⟩
   refine ⟨rfl,?_,Off.grown (Go.grownBy_sortedI _)⟩
   have := Go.ownsRow_sortedI (ss := l) (ts := sortV l) (n := n) (os := os) (base := 0) (cap := c) (sortV_len l) (Nat.zero_le _) h3 h4 h5 h6
   show World.ownsRow _ _ _ _ _ _ _
   rw [show (sortV l).flatMap encI = (sortV l).map (Value.int .i64) from flat_encI _,sortV_len]
   exact this

theorem OwnI.pre {B : Nat} {l r : List Int} {g c : Nat} {w : World} (h : OwnI B (l ++ r) (.slice (some ⟨g,0,none⟩) (l ++ r).length c) w) : OwnI B l (.slice (some ⟨g,0,none⟩) l.length c) w := by
 refine ⟨by rw [flat_encI]; simp,.inr ?_⟩
 rcases h.2 with ⟨h1,h2⟩ | ⟨g',cap,cur,h1,hb,h3,h4,h5,h6,h7⟩
 · cases h1
 · cases h1
   refine ⟨g,c,cur,rfl,hb,h3,by simp at h4; omega,h5,h6,?_⟩
   rw [flat_encI,Nat.mul_one] at h7 ⊢
   have := congrArg (List.take l.length) h7
   rw [List.take_take] at this
   rw [List.length_append,List.map_append,show min l.length (l.length + r.length) = l.length by omega,List.take_append_of_le_length (by simp)] at this
   rw [this]
   simp [List.take_of_length_le]
def cmpV (l : List Int) : List Int := Lib.compact l
theorem cmpV_le (l : List Int) : (cmpV l).length ≤ l.length := by
 unfold cmpV Lib.compact Lib.compactUpTo
 rw [List.length_map]
 exact Nat.le_trans (List.length_filter_le _ _) (by simp)
def GivesCm (A : Option Addr) (c : Nat) (l : List Int) (w : World) (e : Ending) (w' : World) : Prop := e = .returned (.slice A (cmpV l).length c) ∧ OwnI 0 (cmpV l) (.slice A (cmpV l).length c) w' ∧ Off (Value.slice A l.length c).ownBlock.toList w w'
theorem compact_c (A : Option Addr) (c : Nat) (l : List Int) (w : World) (h : OwnI 0 l (.slice A l.length c) w) (hl : l.length ≤ 1048577) :
 Calls Try.prog 79 #[.slice A l.length c] w (GivesCm A c l w) := by
 rcases h.2 with ⟨h1,h2⟩ | ⟨g,cap,cur,h1,hb,h3,h4,h5,h6,h7⟩
 · obtain rfl := List.eq_nil_of_length_eq_zero h2
   refine (AnyG.slices_Compact_int_empty laysComp A c w).mono ?_
   rintro e w' ⟨rfl,rfl⟩
   exact ⟨rfl,h,⟨rfl,rfl,rfl,Nat.le_refl _,fun _ _ _ => rfl⟩⟩
 · cases h1
   have h7' : cur.toList.take l.length = l.map (Value.int .i64) := by
    rw [Nat.mul_one] at h7
    rw [h7]; exact flat_encI l
   refine (AnyG.slices_Compact_int laysComp g 0 c l w (Go.holds_of_blockI h3 h7') (by omega) h4).mono ?_
   rintro e w' ⟨rfl,n,rfl⟩
   have hle : (Lib.compact l).length ≤ l.length := cmpV_le l
   have hlen : (Lib.compact l ++ List.replicate (l.length - (Lib.compact l).length) 0).length = l.length := by simp; omega
   have h9 := Go.ownsRow_sortedI (ss := l) (ts := Lib.compact l ++ List.replicate (l.length - (Lib.compact l).length) 0) (n := n) (os := #[]) (base := 0) (cap := c) hlen (Nat.zero_le _) h3 h4 h5 h6
   have hgr := Go.grownBy_sortedI (w := w) (g := g) (n := n) (os := #[]) (Lib.compact l ++ List.replicate (l.length - (Lib.compact l).length) 0).toArray
   rw [Sort.grow_empty] at h9 hgr
   refine ⟨rfl,OwnI.pre (r := List.replicate (l.length - (Lib.compact l).length) 0) ?_,Off.grown hgr⟩
   show World.ownsRow _ _ _ _ _ _ _
   unfold cmpV
   rw [flat_encI,hlen]
   exact h9
def unionS (a b : List Int) : List Int := cmpV (sortV (a ++ b))
theorem cmp_upto (l : List Int) (hs : l.Pairwise fun x y => x ≤ y) : ∀ m : Nat,m ≤ l.length → incr (Lib.compactUpTo l.toArray m) ∧ (∀ x,x ∈ Lib.compactUpTo l.toArray m ↔ x ∈ l.take m) := by
 intro m
 induction m with
 | zero => intro _; simp [Lib.compactUpTo,incr]
 | succ m ih =>
   intro hm
   obtain ⟨h1,h2⟩ := ih (by omega)
   rw [Lib.compactUpTo_succ]
   have hlt : m < l.length := by omega
   have hg : l.toArray[m]! = l[m] := by simp [hlt]
   have htk : ∀ x,x ∈ l.take (m + 1) ↔ x ∈ l.take m ∨ x = l[m] := fun x => by
    rw [List.take_succ_eq_append_getElem hlt,List.mem_append,List.mem_singleton]
   have hle : ∀ x,x ∈ l.take m → x ≤ l[m] := fun x hx => by
    obtain ⟨i,hi,rfl⟩ := List.mem_take_iff_getElem.1 hx
    exact List.pairwise_iff_getElem.1 hs i m (by omega) hlt (by omega)
   by_cases hk : Lib.keeps l.toArray m = true
   · rw [if_pos hk,hg]
     have hno : ∀ x,x ∈ l.take m → x < l[m] := fun x hx => by
      have hm0 : 0 < m := by
       refine Nat.pos_of_ne_zero fun h => ?_
       subst h; simp at hx
      simp only [Lib.keeps,decide_eq_true_eq,hg] at hk
      have hp : l.toArray[m - 1]! = l[m - 1] := by simp [show m - 1 < l.length by omega]
      rw [hp] at hk
      obtain ⟨i,hi,rfl⟩ := List.mem_take_iff_getElem.1 hx
      have a1 : l[i] ≤ l[m - 1] := by
       by_cases e : i = m - 1
       · subst e; exact Int.le_refl _
       · exact List.pairwise_iff_getElem.1 hs i (m - 1) (by omega) (by omega) (by omega)
      have a2 : l[m - 1] ≤ l[m] := List.pairwise_iff_getElem.1 hs (m - 1) m (by omega) hlt (by omega)
      omega
     refine ⟨incr_snoc h1 fun y hy => hno y ((h2 y).1 hy),fun x => ?_⟩
     rw [List.mem_append,h2,htk]; simp
   · rw [if_neg hk,List.append_nil]
     refine ⟨h1,fun x => ?_⟩
     rw [h2,htk]
     refine ⟨.inl,fun h => h.elim id fun e => ?_⟩
     simp only [Lib.keeps,decide_eq_true_eq,not_or,Classical.not_not,hg] at hk
     have hp : l.toArray[m - 1]! = l[m - 1] := by simp [show m - 1 < l.length by omega]
     rw [hp] at hk
     rw [e,hk.2]
     exact List.mem_take_iff_getElem.2 ⟨m - 1,by omega,rfl⟩
theorem sortV_pw (l : List Int) : (sortV l).Pairwise fun x y => x ≤ y := by
 have := List.pairwise_mergeSort (le := fun x y : Int => decide (x ≤ y)) (fun a b c h1 h2 => by simp at *; omega) (fun a b => by simp; omega) l
 exact this.imp fun h => by simpa using h
theorem unionS_incr (a b : List Int) : incr (unionS a b) := (cmp_upto _ (sortV_pw _) _ (Nat.le_refl _)).1
theorem mem_unionS {a b : List Int} {x : Int} : x ∈ unionS a b ↔ x ∈ a ∨ x ∈ b := by
 refine ((cmp_upto _ (sortV_pw _) _ (Nat.le_refl _)).2 x).trans ?_
 rw [List.take_length,mem_sortV,List.mem_append]
theorem unionS_len (a b : List Int) : (unionS a b).length ≤ a.length + b.length := by
 have := cmpV_le (sortV (a ++ b))
 rw [sortV_len,List.length_append] at this
 exact this
theorem boolInfo : (Try.prog.info? 4).map (fun i => (i.zero,i.size,i.bytes)) = some (some (.bool false),1,1) := by kernel_rfl
def mkB (n : Nat) (p : Nat → Bool) : List Value := (List.range n).map fun s => .bool (p s)
theorem mkB_get {n : Nat} {p : Nat → Bool} {s : Nat} (h : s < n) : (mkB n p)[s]? = some (.bool (p s)) := by simp [mkB,h]
theorem mkB_rep (n : Nat) : List.replicate n (Value.bool false) = mkB n fun _ => false := by
 apply List.ext_getElem?
 intro i
 by_cases h : i < n
 · rw [mkB_get h,List.getElem?_replicate,if_pos h]
 · simp [mkB,h]
theorem mkB_set {n : Nat} {p : Nat → Bool} (s : Nat) : (mkB n p).set s (.bool true) = mkB n fun t => decide (t = s) || p t := by
 apply List.ext_getElem?
 intro i
 rw [List.getElem?_set]
 by_cases h : i < n
 · rw [mkB_get (p := fun t => decide (t = s) || p t) h]
   by_cases e : s = i
   · subst e
     rw [if_pos rfl,if_pos (by simpa [mkB] using h),decide_eq_true rfl,Bool.true_or]
   · rw [if_neg e,mkB_get h]
     simp [Ne.symm e]
 · have h1 : ∀ q : Nat → Bool,(mkB n q)[i]? = none := fun q => by simp [mkB]; omega
   rw [h1,h1]
   split
   · rw [if_neg (by simp [mkB]; omega)]
   · rfl
theorem mkB_congr {n : Nat} {p q : Nat → Bool} (h : ∀ s,s < n → p s = q s) : mkB n p = mkB n q := by
 unfold mkB
 refine List.map_congr_left fun s hs => ?_
 rw [h s (by simpa using hs)]
def GivesB (n : Nat) (p : Nat → Bool) (w : World) (e : Ending) (w' : World) : Prop := ∃ g,e = .returned (.slice (some ⟨g,0,none⟩) n n) ∧ Hid (Sep w.heap.size w [eBlk g 4 (mkB n p)] w')
theorem take_mem {l : List Int} {k : Nat} {x : Int} (h : l[k]? = some x) (t : Nat) : (decide (t = x.toNat) || decide ((t : Int) ∈ l.take k)) = decide ((t : Int) ∈ l.take (k + 1)) ∨ x < 0 := by
 by_cases hx : x < 0
 · exact .inr hx
 · refine .inl ?_
   rw [List.take_add_one,h]
   rw [← Bool.decide_or,decide_eq_decide,List.mem_append]
   simp only [Option.toList_some,List.mem_singleton]
   rw [show t = x.toNat ↔ (t : Int) = x by omega,or_comm]
set_option maxHeartbeats 1000000 in
theorem marks_c (a : Au) (p : AuP) (w : World) (hr : ∀ x,x ∈ a.mr → 0 ≤ x ∧ x < a.n) (h0 : 0 ≤ a.n) (hn : a.n ≤ 4096) (hA : Au.At w a p) :
 Calls Try.prog 57 #[a.val p] w (GivesB a.n.toNat (fun s => decide ((s : Int) ∈ a.mr)) w) := by
 obtain ⟨al,n,mr,ed⟩ := a
 obtain ⟨N,rfl⟩ := Int.eq_ofNat_of_zero_le h0
 have HR := Lib.hid hr
 have HA := Lib.hid hA.mr
 have hml := hA.lmk
 dsimp only at HR hml hn h0 ⊢
 have hmk := make_run (P := Try.prog) 82 4 (.bool false) 1 Try.underlying82 boolInfo rfl N (by omega) (by omega)
 clear hr hA h0
 rw [Int.toNat_natCast]
 go_enter Try.func57,Try.ntmps57
 go_wp2_with fail
 refine wp_world (fun W => Sep w.heap.size w [eBlk (w.heap.size + 1) 4 (mkB N fun s => decide ((s : Int) ∈ mr.take 0))] W) ?_ fun W S0 => ?_
 · have e : (fun s : Nat => decide ((s : Int) ∈ mr.take 0)) = fun _ => false := by funext s; simp
   rw [e,← mkB_rep]
   exact (((Sep.here w).alloc 25 [_,_,_,_]).alloc' _ _ rfl (by simp)).first
 clear hmk
 go_loopw [12] (fun i wr => ∃ k : Nat,i = .int .i64 k ∧ k ≤ mr.length ∧ Hid (Sep w.heap.size w [eBlk (w.heap.size + 1) 4 (mkB N fun s => decide ((s : Int) ∈ mr.take k))] wr)) (fun i _ => mr.length - (intOf i).toNat)
 case atStart => exact ⟨0,rfl,Nat.zero_le _,S0⟩
 case round =>
  clear S0
  obtain ⟨k,rfl,hk,S⟩ := hrel
  by_cases hlt : k < mr.length
  · obtain ⟨b,off,x,hAe,hb,hx,c0⟩ := IntsAt.at (HA.out.below IntE.stays S.out.below) hlt
    have hxr := HR.out x (List.mem_of_getElem? hx)
    obtain ⟨m,rfl⟩ := Int.eq_ofNat_of_zero_le hxr.1
    have c1 : wr.cell? ⟨w.heap.size + 1,m,none⟩ = some (.bool _) := (BlkAt.cell (S.out.get 0 rfl) m).trans (mkB_get (by omega))
    have f1 : wr.frozen? ⟨w.heap.size + 1,m,none⟩ = false := BlkAt.free (S.out.get 0 rfl) m
    have S2 : Hid (Sep w.heap.size w [eBlk (w.heap.size + 1) 4 (mkB N fun s => decide ((s : Int) ∈ mr.take (k + 1)))] (wr.setCell ⟨w.heap.size + 1,m,none⟩ (.bool true))) := by
     have h := S.out.set 0 rfl m (.bool true)
     rw [mkB_set] at h
     have e : (mkB N fun t => decide (t = m) || decide ((t : Int) ∈ mr.take k)) = mkB N fun s => decide ((s : Int) ∈ mr.take (k + 1)) := mkB_congr fun s _ => by
      rcases take_mem hx s with g | g
      · rw [← g,Int.toNat_natCast]
      · omega
     rw [e] at h
     exact h
    rw [hAe]
    clear hx S
    go_wp2_with fail
    go_roundw
    case rel => exact ⟨k + 1,by go_num,by omega,S2.out⟩
    case measure => simp [intOf]; omega
  · obtain rfl : k = mr.length := by omega
    have S3 : Hid (Sep w.heap.size w [eBlk (w.heap.size + 1) 4 (mkB N fun s => decide ((s : Int) ∈ mr))] wr) := by have h := S.out; rw [List.take_length] at h; exact h
    go_wp2_with fail
    go_ret
    exact ⟨_,rfl,S3.out⟩
end Go.Proofs.Ytjjifefanjnghaa
