/-
  A list of the call's own whose head may have been cut off: a queue.
  Words for memory: things that lie apart, all in memory of the call's own; one step turns one of them.
  automaton.Check.
  minimal.marks, reach.flags: a flag for each state.
  Plain: words in order: shorter ones first, then by their events.
  Plain: the minimal automaton of a language is one alone.
-/
import Derived.Test.YtkifgffhoenaoaaDoorBas01
import Derived.Deep.RegionHeld3
set_option linter.unusedSimpArgs false
set_option linter.unusedVariables false
namespace Go.Proofs.YtkifgffhoenaoaaDoor
open Go.RowKit
set_option maxRecDepth 100000
section

def OwnO {α : Type} (enc : α → List Value) (k T B : Nat) (l : List α) (v : Value) (w : World) : Prop :=
 (v = .slice none 0 0 ∧ l = []) ∨ ∃ (g off cap : Nat) (cs : List Value),v = .slice (some ⟨g,off,none⟩) l.length cap ∧ B ≤ g ∧ BlkAt w g T cs ∧ l.length ≤ cap ∧ cap ≤ maxLen ∧ off + cap * k ≤ cs.length ∧ ∀ j u,(l.flatMap enc)[j]? = some u → cs[off + j]? = some u

theorem setCells_blk {g : Nat} {T : TypeId} : ∀ (vs : List Value) (o : Nat) (w : World) (cs : List Value),BlkAt w g T cs → o + vs.length ≤ cs.length → ∃ cs',BlkAt (w.setCells g o vs) g T cs' ∧ cs'.length = cs.length ∧ (∀ j,j < o → cs'[j]? = cs[j]?) ∧ (∀ j u,vs[j]? = some u → cs'[o + j]? = some u)
 | [],o,w,cs,h,_ => ⟨cs,h,rfl,fun _ _ => rfl,fun j u hj => by simp at hj⟩
 | v :: r,o,w,cs,h,hl => by
   simp only [List.length_cons] at hl
   obtain ⟨cs',h1,h2,h3,h4⟩ := setCells_blk r (o + 1) (w.setCell ⟨g,o,none⟩ v) (cs.set o v) (h.set_ o v) (by simp; omega)
   refine ⟨cs',h1,by simpa using h2,fun j hj => ?_,fun j u hj => ?_⟩
   · rw [h3 j (by omega),List.getElem?_set_ne (by omega)]
   · cases j with
     | zero =>
       simp at hj; subst hj
       rw [Nat.add_zero,h3 o (by omega),List.getElem?_set_self (by omega)]
     | succ j =>
       have := h4 j u (by simpa using hj)
       rw [show o + (j + 1) = o + 1 + j by omega]
       exact this
theorem grownBy_setCells {g : Nat} : ∀ (vs : List Value) (o : Nat) (w : World),w.grownBy (w.setCells g o vs) (some g)
 | [],o,w => ⟨rfl,rfl,rfl,Nat.le_refl _,fun _ _ _ => rfl⟩
 | v :: r,o,w => by
   have h1 : w.grownBy (w.setCell ⟨g,o,none⟩ v) (some g) := ⟨rfl,rfl,rfl,by simp,fun k _ hk => heap_setCell_other w ⟨g,o,none⟩ k v (fun e => hk (by simp [e]))⟩
   have h2 := grownBy_setCells (g := g) r (o + 1) (w.setCell ⟨g,o,none⟩ v)
   exact ⟨h2.os.trans h1.os,h2.tape.trans h1.tape,h2.output.trans h1.output,Nat.le_trans h1.size h2.size,fun k hk hne => (h2.block k (Nat.lt_of_lt_of_le hk h1.size) hne).trans (h1.block k hk hne)⟩

section
variable {α : Type} {enc : α → List Value} {k T B : Nat} {l : List α} {v : Value} {w w' : World}
theorem OwnO.nil (w : World) : OwnO enc k T B [] (.slice none 0 0) w := .inl ⟨rfl,rfl⟩
theorem OwnO.form (h : OwnO enc k T B l v w) : ∃ A c,v = .slice A l.length c := by
 rcases h with ⟨rfl,rfl⟩ | ⟨g,off,cap,cs,rfl,_⟩
 · exact ⟨none,0,rfl⟩
 · exact ⟨_,_,rfl⟩
theorem OwnO.lt (h : OwnO enc k T B l v w) : ∀ j,v.ownBlock = some j → B ≤ j ∧ j < w.heap.size := by
 intro j hj
 rcases h with ⟨rfl,rfl⟩ | ⟨g,off,cap,cs,rfl,hB,hb,_⟩
 · simp [Value.ownBlock] at hj
 · simp only [Value.ownBlock,Option.some.injEq] at hj
   subst hj
   exact ⟨hB,hb.lt⟩
theorem OwnO.turn (h : OwnO enc k T B l v w) (hw : ∀ j,v.ownBlock = some j → j < w.heap.size → w'.heap[j]? = w.heap[j]?) : OwnO enc k T B l v w' := by
 rcases h with h | ⟨g,off,cap,cs,rfl,hB,hb,r⟩
 · exact .inl h
 · exact .inr ⟨g,off,cap,cs,rfl,hB,(hw g rfl hb.lt).trans hb,r⟩
theorem OwnO.alloc (h : OwnO enc k T B l v w) (o : Obj) : OwnO enc k T B l v (w.alloc o) := h.turn fun j _ hj => (Below.new w o).block j hj
theorem OwnO.drew (h : OwnO enc k T B l v w) : OwnO enc k T B l v w.drew := h
theorem OwnO.below {B' : Nat} (h : OwnO enc k T B l v w) (hb : Below B' w w') (hB : w.heap.size ≤ B') : OwnO enc k T B l v w' := h.turn fun j _ hj => hb.block j (by omega)
theorem OwnO.kept {row : Option Nat} (h : OwnO enc k T B l v w) (hg : w.grownBy w' row) (hne : v.ownBlock = none ∨ v.ownBlock ≠ row) : OwnO enc k T B l v w' := h.turn fun j hj hl => hg.block j hl (by
 rcases hne with e | e
 · rw [e] at hj; cases hj
 · rw [← hj]; exact e)
theorem OwnO.far (h : OwnO enc k T B l v w) {b i : Nat} (hb : v.ownBlock ≠ some b) (u : Value) : OwnO enc k T B l v (w.setCell ⟨b,i,none⟩ u) := h.turn fun j hj _ => heap_setCell_other w ⟨b,i,none⟩ j u (fun e => hb (by rw [hj,e]))
theorem OwnO.base {B' : Nat} (h : OwnO enc k T B l v w) (hB : B' ≤ B) : OwnO enc k T B' l v w := by
 rcases h with h | ⟨g,off,cap,cs,r1,r2,r3⟩
 · exact .inl h
 · exact .inr ⟨g,off,cap,cs,r1,Nat.le_trans hB r2,r3⟩
theorem OwnO.of (h : Own enc k T B l v w) : OwnO enc k T B l v w := by
 rcases h.2 with ⟨h1,h2⟩ | ⟨g,cap,cur,r1,r2,r3,r4,r5,r6,r7⟩
 · exact .inl ⟨h1,List.length_eq_zero_iff.1 h2⟩
 · refine .inr ⟨g,0,cap,cur.toList,r1,r2,by simpa [BlkAt] using r3,r4,r5,by simp [r6],fun j u hj => ?_⟩
   rw [← r7] at hj
   rw [Nat.zero_add]
   have hlt := (List.getElem?_eq_some_iff.1 hj).1
   rw [List.getElem?_take] at hj
   split at hj
   · exact hj
   · cases hj
theorem OwnO.reads {A : Option Addr} {c : Nat} (hk : ∀ x,(enc x).length = k) (h : OwnO enc k T B l (.slice A l.length c) w) : SlAt (fun _ x vs => vs = enc x) k w A l := by
 intro hne
 rcases h with ⟨h1,h2⟩ | ⟨g,off,cap,cs,e,hB,hb,hn,hm,hs,hc⟩
 · exact absurd h2 hne
 · cases e
   refine ⟨g,off,rfl,hb.lt,fun i x hx => ⟨enc x,hk x,rfl,fun j u hj => ?_⟩⟩
   have hj' : j < k := by have := (List.getElem?_eq_some_iff.1 hj).1; rw [hk] at this; exact this
   rw [hb.cell,Nat.add_assoc]
   exact hc _ u (by rw [flat_get hk l i j x hx hj']; exact hj)
theorem OwnO.tail {x : α} {g off n cap : Nat} (hk : ∀ x,(enc x).length = k) (h : OwnO enc k T B (x :: l) (.slice (some ⟨g,off,none⟩) n cap) w) : ∃ A,(if cap = 1 then some (⟨g,off,none⟩ : Addr) else some ⟨g,off + k,none⟩) = some A ∧ OwnO enc k T B l (.slice (some A) l.length (cap - 1)) w := by
 rcases h with ⟨h1,h2⟩ | ⟨g',off',cap',cs,e,hB,hb,hn,hm,hs,hc⟩
 · cases h2
 · cases e
   simp only [List.length_cons] at hn
   by_cases h1 : cap = 1
   · subst h1
     obtain rfl : l = [] := List.length_eq_zero_iff.1 (by omega)
     exact ⟨_,by simp,.inr ⟨g,off,0,cs,rfl,hB,hb,by simp,by omega,by omega,fun j u hj => by simp at hj⟩⟩
   · have hmul : (cap - 1) * k + k = cap * k := by rw [← Nat.succ_mul]; congr 1; omega
     refine ⟨_,by simp [h1],.inr ⟨g,off + k,cap - 1,cs,rfl,hB,hb,by omega,by omega,by omega,fun j u hj => ?_⟩⟩
     rw [show off + k + j = off + (k + j) by omega]
     refine hc (k + j) u ?_
     rw [List.flatMap_cons,List.getElem?_append_right (by rw [hk]; omega),hk,Nat.add_sub_cancel_left]
     exact hj

theorem run_pushO {P : Program} (hk : ∀ x,(enc x).length = k) (h : OwnO enc k T B l v w) (t ty : TypeId) (ht : P.underlying t = some (.slice T)) (z : Value) (bytes : Nat) (hi : (P.info? T).map (fun i => (i.zero,i.size,i.bytes)) = some (some z,k,bytes)) (hzs : z.cells.size = k) (h0 : 0 < k)
 (y : α) (g : Nat) (hc : ∀ j u,(enc y)[j]? = some u → w.cell? ⟨g,j,none⟩ = some u) (h1 : ∀ u ∈ enc y,u.oneCell' = true) (hl : l.length ≤ 1048576) (hby : bytes ≤ 4096) (hB : B ≤ w.heap.size) :
 ∃ A' c' w',(Builtin.append_ #[t,t] ty #[v,.slice (some ⟨g,0,none⟩) 1 1]).run P w = .ok (.slice A' (l.length + 1) c') w' ∧ OwnO enc k T B (l ++ [y]) (.slice A' (l.length + 1) c') w' ∧ w.grownBy w' v.ownBlock ∧ ((Value.slice A' (l.length + 1) c').ownBlock = v.ownBlock ∨ ∃ j,(Value.slice A' (l.length + 1) c').ownBlock = some j ∧ w.heap.size ≤ j) := by
 have hcA : ∀ j u,(enc y)[j]? = some u → w.cell? ((⟨g,0,none⟩ : Addr).add j) = some u := fun j u hj => by
  have := hc j u hj
  unfold Addr.add
  split
  · rename_i h0; subst h0; exact this
  · simpa using this
 have hb2 : (l.length + 1) * bytes ≤ 140737488355328 := by have := Nat.mul_le_mul (show l.length + 1 ≤ 1048577 by omega) hby; omega
 obtain ⟨i0,hi0,hz,hsize,hb⟩ := info_parts hi
 have own' : ∀ {v' : Value} {w' : World},w'.ownsRow w.heap.size T k v' (l.length + 1) (l.flatMap enc ++ enc y) → ∃ A' c',v' = .slice A' (l.length + 1) c' ∧ OwnO enc k T B (l ++ [y]) (.slice A' (l.length + 1) c') w' ∧ ∃ j,v'.ownBlock = some j ∧ w.heap.size ≤ j := by
  intro v' w' ho
  obtain ⟨A',c',rfl⟩ := own_form ho
  refine ⟨A',c',rfl,?_,?_⟩
  · have : Own enc k T w.heap.size (l ++ [y]) (.slice A' (l.length + 1) c') w' := by unfold Own; rw [List.flatMap_append,List.length_append]; simpa using ho
    exact (OwnO.of this).base hB
  · rcases ho.2 with ⟨h1,h2⟩ | ⟨g',cap,cur,r1,r2,_⟩
    · omega
    · cases r1; exact ⟨g',rfl,r2⟩
 rcases h with ⟨rfl,rfl⟩ | ⟨g',off,cap,cs,rfl,hBg,hbk,hn,hm,hs,hcs⟩
 · have hown : w.ownsRow B T k (.slice none 0 0) 0 ([] : List Value) := World.ownsRow_nil ..
   obtain ⟨v',w',hr,h2,h3,_,h5⟩ := run_append_own_at (P := P) w B t ty T i0 z k bytes ht hi0 hz hsize hb hzs h0 _ 0 [] hown ⟨g,0,none⟩ 1 1 (enc y) (by rw [hk]; omega) hcA h1 (by simp only [maxLen]; omega) (by simpa using hb2) hB
   obtain ⟨A',c',rfl⟩ := own_form h2
   refine ⟨A',c',w',by simpa using hr,?_,h3,?_⟩
   · have : Own enc k T B ([] ++ [y]) (.slice A' 1 c') w' := by unfold Own; simpa using h2
     simpa using OwnO.of this
   · rcases h5 with h5 | h5
     · exact .inl (by simpa using h5)
     · exact .inr ⟨_,by simpa using h5,Nat.le_refl _⟩
 · by_cases hroom : l.length + 1 ≤ cap
   · have hmul : (l.length + 1) * k ≤ cap * k := Nat.mul_le_mul_right _ hroom
     rw [Nat.succ_mul] at hmul
     have hfl : (l.flatMap enc).length = l.length * k := flat_len hk l
     have hspare : ∀ j,j < (enc y).length → (w.cell? ⟨g',off + l.length * k + j,none⟩).isSome = true := fun j hj => by
      rw [hbk.cell,List.getElem?_eq_getElem (by rw [hk] at hj; omega)]; rfl
     have hr := run_append_room_cells (P := P) w t ty T i0 ht hi0 g' off l.length cap ⟨g,0,none⟩ 1 1 (enc y) (by rw [hk,hsize]; omega) hcA h1 hroom (by rw [hsize]; exact hspare) (fun j _ => hbk.free _)
     rw [hsize] at hr
     obtain ⟨cs',k1,k2,k3,k4⟩ := setCells_blk (enc y) (off + l.length * k) w cs hbk (by rw [hk]; omega)
     refine ⟨_,_,_,hr,.inr ⟨g',off,cap,cs',by simp,hBg,k1,by simpa using hroom,hm,by rw [k2]; exact hs,fun j u hj => ?_⟩,grownBy_setCells ..,.inl rfl⟩
     rw [List.flatMap_append] at hj
     by_cases hjl : j < (l.flatMap enc).length
     · rw [List.getElem?_append_left hjl] at hj
       rw [k3 _ (by omega)]
       exact hcs j u hj
     · rw [List.getElem?_append_right (by omega),hfl] at hj
       have := k4 (j - l.length * k) u (by simpa using hj)
       rw [show off + j = off + l.length * k + (j - l.length * k) by omega]
       exact this
   · obtain ⟨v',w',hr,h2,h3⟩ := run_append_arg_grows (P := P) w t ty T i0 z k bytes ht hi0 hz hsize hb hzs h0 ⟨g',off,none⟩ l.length cap (l.flatMap enc) (flat_len hk l) (fun j u hj => by
      have := hcs j u hj
      rw [Addr.add_lit,hbk.cell]; exact this) ⟨g,0,none⟩ 1 1 (enc y) (by rw [hk]; omega) hcA (by omega) (by simp only [maxLen]; omega) hb2
     obtain ⟨A',c',rfl,h4,j,h5,h6⟩ := own' h2
     exact ⟨A',c',w',hr,h4,⟨h3.os,h3.tape,h3.output,h3.size,fun q hq hne => h3.block q hq (by simp)⟩,.inr ⟨j,h5,h6⟩⟩

theorem wpList_pushO {P : Program} {ops : Array Oper} {rest : List Oper} {o : Oper} {a : Act} {Q : Exit → Act → World → Prop} (hgd : o.guard = none) (s x : Operand) (t : TypeId)
 (ho : o.op = .call { callee := .builtin .append,args := #[s,x],argTypes := #[t,t] }) (hk : ∀ x,(enc x).length = k) (hown : OwnO enc k T B l v w)
 (ht : P.underlying t = some (.slice T)) (z : Value) (bytes : Nat) (hi : (P.info? T).map (fun i => (i.zero,i.size,i.bytes)) = some (some z,k,bytes))
 (hzs : z.cells.size = k) (h0 : 0 < k) (hs : a.eval s = v) (y : α) (g : Nat) (hx : a.eval x = .slice (some ⟨g,0,none⟩) 1 1) (hc : ∀ j u,(enc y)[j]? = some u → w.cell? ⟨g,j,none⟩ = some u) (h1 : ∀ u ∈ enc y,u.oneCell' = true)
 (hl : l.length ≤ 1048576) (hby : bytes ≤ 4096) (hB : B ≤ w.heap.size)
 (h : ∀ A' c' w',OwnO enc k T B (l ++ [y]) (.slice A' (l.length + 1) c') w' → w.grownBy w' v.ownBlock → ((Value.slice A' (l.length + 1) c').ownBlock = v.ownBlock ∨ ∃ j,(Value.slice A' (l.length + 1) c').ownBlock = some j ∧ w.heap.size ≤ j) → wpList P ops Q rest (a.put o.dst (.slice A' (l.length + 1) c')) w') :
 wpList P ops Q (o :: rest) a w := by
 refine wpList_plain hgd fun K hK => ?_
 obtain ⟨A',c',w',hr,h2,h3,h5⟩ := run_pushO (P := P) hk hown t o.type ht z bytes hi hzs h0 y g hc h1 hl hby hB
 unfold Oper.wp
 simp [execOp,ho,resolve,invoke,builtin,hs,hx,hr,Result.andThen]
 exact hK _ _ (h A' c' w' h2 h3 h5)
end
end
section

structure Ent where
 foot : List Nat
 ok : World → Prop
 lt : ∀ w,ok w → ∀ g,g ∈ foot → g < w.heap.size
 turn : ∀ w w',ok w → (∀ g,g ∈ foot → w'.heap[g]? = w.heap[g]?) → ok w'
def eBlk (g : Nat) (T : TypeId) (cs : List Value) : Ent where
 foot := [g]
 ok w := BlkAt w g T cs
 lt w h k hk := by simp at hk; subst hk; exact h.lt
 turn w w' h hg := (hg g (by simp)).trans h
def eOwn {α : Type} (enc : α → List Value) (k T : Nat) (l : List α) (v : Value) : Ent where
 foot := v.ownBlock.toList
 ok w := Own enc k T 0 l v w
 lt w h g hg := (h.lt g (by simpa using hg)).2
 turn w w' h hg := by
  refine ⟨h.1,?_⟩
  rcases h.2 with h | ⟨g,cap,cur,r1,r2,r3,r4⟩
  · exact .inl h
  · exact .inr ⟨g,cap,cur,r1,r2,(hg g (by rw [r1]; simp [Value.ownBlock])).trans r3,r4⟩
def eOwnO {α : Type} (enc : α → List Value) (k T : Nat) (l : List α) (v : Value) : Ent where
 foot := v.ownBlock.toList
 ok w := OwnO enc k T 0 l v w
 lt w h g hg := (h.lt g (by simpa using hg)).2
 turn w w' h hg := h.turn fun j hj _ => hg j (by simpa using hj)
def eMap {κ β : Type} [DecidableEq κ] (key : κ → Value) (ve : β → Value) (b : Nat) (f : κ → Option β) : Ent where
 foot := [b]
 ok w := MapG key ve w b f
 lt w h k hk := by simp at hk; subst hk; exact h.lt
 turn w w' h hg := by
  obtain ⟨l,c,h1,h2⟩ := h
  exact ⟨l,c,(hg b (by simp)).trans h1,h2⟩
abbrev eInts (l : List Int) (v : Value) : Ent := eOwn encI 1 3 l v
abbrev eEds (l : List Ed) (v : Value) : Ent := eOwn Ed.cells 3 87 l v

structure Off (f : List Nat) (w w' : World) : Prop where
 os : w'.os = w.os
 tape : w'.tape = w.tape
 output : w'.output = w.output
 size : w.heap.size ≤ w'.heap.size
 block : ∀ k,k < w.heap.size → ¬ k ∈ f → w'.heap[k]? = w.heap[k]?
theorem Off.grown {w w' : World} {row : Option Nat} (h : w.grownBy w' row) : Off row.toList w w' :=
 ⟨h.os,h.tape,h.output,h.size,fun k hk hn => h.block k hk (fun e => hn (by simp [← e]))⟩
theorem Off.below {w w' : World} (h : Below w.heap.size w w') (f : List Nat) : Off f w w' := ⟨h.os,h.tape,h.output,h.size,fun k hk _ => h.block k hk⟩
theorem Off.trans {f : List Nat} {a b c : World} (h : Off f a b) (k : Off f b c) : Off f a c :=
 ⟨k.os.trans h.os,k.tape.trans h.tape,k.output.trans h.output,Nat.le_trans h.size k.size,fun i hi hn => (k.block i (Nat.lt_of_lt_of_le hi h.size) hn).trans (h.block i hi hn)⟩
theorem Off.set (w : World) (g i : Nat) (u : Value) : Off [g] w (w.setCell ⟨g,i,none⟩ u) :=
 ⟨rfl,rfl,rfl,by simp,fun k _ hk => heap_setCell_other w ⟨g,i,none⟩ k u (fun e => hk (by simp [e]))⟩

structure Sep (n : Nat) (w0 : World) (es : List Ent) (w : World) : Prop where
 fro : Fro n w0 w
 ok : ∀ e,e ∈ es → e.ok w
 ge : ∀ e,e ∈ es → ∀ g,g ∈ e.foot → n ≤ g
 ap : es.Pairwise fun a b => ∀ g,g ∈ a.foot → ¬ g ∈ b.foot

section
variable {n : Nat} {w0 w w' : World} {es es' : List Ent} {e e' : Ent} {i : Nat}
theorem Sep.get (S : Sep n w0 es w) (i : Nat) (hi : es[i]? = some e) : e.ok w := S.ok e (List.mem_of_getElem? hi)
theorem Sep.here (w : World) : Sep w.heap.size w [] w := ⟨Fro.here w,by simp,by simp,by simp⟩
theorem Sep.start {n : Nat} {w : World} (h : n ≤ w.heap.size) : Sep n w [] w := ⟨Fro.refl h,by simp,by simp,by simp⟩
theorem Sep.apart (S : Sep n w0 es w) {i j : Nat} (hi : es[i]? = some e) (hj : es[j]? = some e') (hij : i ≠ j) : ∀ g,g ∈ e.foot → ¬ g ∈ e'.foot := by
 obtain ⟨hi1,hi2⟩ := List.getElem?_eq_some_iff.1 hi
 obtain ⟨hj1,hj2⟩ := List.getElem?_eq_some_iff.1 hj
 have := List.pairwise_iff_getElem.1 S.ap
 rcases Nat.lt_or_gt_of_ne hij with h | h
 · have := this i j hi1 hj1 h
   rw [hi2,hj2] at this
   exact this
 · have := this j i hj1 hi1 h
   rw [hi2,hj2] at this
   exact fun g h1 h2 => this g h2 h1
theorem Sep.chg (S : Sep n w0 es w) (i : Nat) (hi : es[i]? = some e) (e' : Ent) (hg : Off e.foot w w') (hok : e'.ok w') (hf : ∀ g,g ∈ e'.foot → g ∈ e.foot ∨ w.heap.size ≤ g) : Sep n w0 (es.set i e') w' := by
 have hilt := (List.getElem?_eq_some_iff.1 hi).1
 have he := List.mem_of_getElem? hi
 have old : ∀ x,x ∈ es → ∀ g,g ∈ x.foot → g < w.heap.size := fun x hx => x.lt w (S.ok x hx)
 refine ⟨⟨S.fro.b.trans ⟨hg.os,hg.tape,hg.output,hg.size,fun k hk => hg.block k (Nat.lt_of_lt_of_le hk S.fro.z) (fun h => by have := S.ge e he k h; omega)⟩,Nat.le_trans S.fro.z hg.size⟩,fun x hx => ?_,fun x hx => ?_,?_⟩
 · obtain ⟨j,hj,hjx⟩ := List.mem_iff_getElem.1 hx
   rw [List.getElem_set] at hjx
   split at hjx
   · subst hjx; exact hok
   · rename_i hne
     have hj' : j < es.length := by simpa using hj
     have hjx' : es[j]? = some x := by rw [List.getElem?_eq_getElem hj',hjx]
     have hxm := List.mem_of_getElem? hjx'
     exact x.turn w w' (S.ok x hxm) fun g hgx => hg.block g (old x hxm g hgx) (S.apart hjx' hi (fun h => hne h.symm) g hgx)
 · rcases List.mem_or_eq_of_mem_set hx with h | rfl
   · exact S.ge x h
   · intro g hg'
     rcases hf g hg' with h | h
     · exact S.ge e he g h
     · exact Nat.le_trans S.fro.z h
 · rw [List.pairwise_iff_getElem]
   intro a b ha hb hab g h1 h2
   rw [List.length_set] at ha hb
   have key : ∀ (j : Nat) (hj : j < es.length),j ≠ i → g ∈ es[j].foot → ¬ g ∈ e'.foot := fun j hj hji h3 h4 => by
    have hj' : es[j]? = some es[j] := List.getElem?_eq_getElem hj
    rcases hf g h4 with h5 | h5
    · exact S.apart hj' hi hji g h3 h5
    · have := old _ (List.mem_of_getElem? hj') g h3; omega
   rw [List.getElem_set] at h1 h2
   split at h1
   · rename_i e1
     rw [if_neg (by omega)] at h2
     exact key b hb (by omega) h2 h1
   · split at h2
     · exact key a ha (by omega) h1 h2
     · exact List.pairwise_iff_getElem.1 S.ap a b ha hb hab g h1 h2
theorem Sep.news (S : Sep n w0 es w) (N : Sep w.heap.size w es' w') : Sep n w0 (es' ++ es) w' := by
 have old : ∀ x,x ∈ es → ∀ g,g ∈ x.foot → g < w.heap.size := fun x hx => x.lt w (S.ok x hx)
 refine ⟨S.fro.next N.fro.b,fun x hx => ?_,fun x hx => ?_,List.pairwise_append.2 ⟨N.ap,S.ap,fun a ha b hb g h1 h2 => ?_⟩⟩
 · rcases List.mem_append.1 hx with h | h
   · exact N.ok x h
   · exact x.turn w w' (S.ok x h) fun g hg => N.fro.b.block g (old x h g hg)
 · rcases List.mem_append.1 hx with h | h
   · exact fun g hg => Nat.le_trans S.fro.z (N.ge x h g hg)
   · exact S.ge x h
 · have h3 := N.ge a ha g h1
   have h4 := old b hb g h2
   omega
theorem Sep.new1 (S : Sep n w0 es w) (hb : Below w.heap.size w w') (e : Ent) (he : e.ok w') (hf : ∀ g,g ∈ e.foot → w.heap.size ≤ g) : Sep n w0 (e :: es) w' :=
 S.news (es' := [e]) ⟨⟨hb,hb.size⟩,by simpa using he,by simpa using hf,by simp⟩
theorem Sep.next (S : Sep n w0 es w) (hb : Below w.heap.size w w') : Sep n w0 es w' := S.news (es' := []) ⟨⟨hb,hb.size⟩,by simp,by simp,by simp⟩
theorem Sep.drew (S : Sep n w0 es w) : Sep n w0 es w.drew := S.next (Below.refl _ _).drew
theorem Sep.draws (S : Sep n w0 es w) (q : Nat) : Sep n w0 es (w.drewN q) := S.next ((Below.refl _ _).draws q)
theorem Sep.alloc (S : Sep n w0 es w) (T : TypeId) (cs : List Value) : Sep n w0 (eBlk w.heap.size T cs :: es) (w.alloc (.cells cs.toArray T)) :=
 S.new1 (Below.new w _) (eBlk w.heap.size T cs) (BlkAt.new w T cs) (by simp [eBlk])
theorem Sep.alloc' (S : Sep n w0 es w) (T : TypeId) (cs : List Value) {o : Obj} (ho : o = .cells cs.toArray T) {g : Nat} (hg : g = w.heap.size) : Sep n w0 (eBlk g T cs :: es) (w.alloc o) := by
 subst ho; subst hg; exact S.alloc T cs
theorem Sep.allocMap {κ β : Type} [DecidableEq κ] (S : Sep n w0 es w) (key : κ → Value) (ve : β → Value) {g : Nat} (hg : g = w.heap.size) : Sep n w0 (eMap key ve g (fun _ => none) :: es) (w.alloc (.map #[] 0)) := by
 subst hg
 exact S.new1 (Below.new w _) (eMap key ve w.heap.size (fun _ => none)) (MapG.made key ve w) (by simp [eMap])
theorem Sep.set (S : Sep n w0 es w) (i : Nat) {g T : Nat} {cs : List Value} (hi : es[i]? = some (eBlk g T cs)) (o : Nat) (u : Value) : Sep n w0 (es.set i (eBlk g T (cs.set o u))) (w.setCell ⟨g,o,none⟩ u) :=
 S.chg i hi _ (Off.set w g o u) (BlkAt.set_ (S.get i hi) o u) (fun g hg => .inl hg)
theorem Sep.pick (S : Sep n w0 es w) (is : List Nat) (hn : is.Nodup) : Sep n w0 (is.filterMap (es[·]?)) w := by
 have hm : ∀ x,x ∈ is.filterMap (es[·]?) → x ∈ es := fun x hx => by
  obtain ⟨j,_,hj⟩ := List.mem_filterMap.1 hx
  exact List.mem_of_getElem? hj
 refine ⟨S.fro,fun x hx => S.ok x (hm x hx),fun x hx => S.ge x (hm x hx),?_⟩
 rw [List.pairwise_filterMap]
 exact (List.nodup_iff_pairwise_ne.1 hn).imp fun {a b} hab x hx y hy => S.apart hx hy hab
theorem Sep.app (S : Sep n w0 (es ++ es') w) : Sep n w0 es w ∧ Sep n w0 es' w :=
 ⟨⟨S.fro,fun x hx => S.ok x (List.mem_append_left _ hx),fun x hx => S.ge x (List.mem_append_left _ hx),(List.pairwise_append.1 S.ap).1⟩,
  ⟨S.fro,fun x hx => S.ok x (List.mem_append_right _ hx),fun x hx => S.ge x (List.mem_append_right _ hx),(List.pairwise_append.1 S.ap).2.1⟩⟩
theorem Sep.nil (S : Sep n w0 es w) : Sep n w0 [] w := ⟨S.fro,by simp,by simp,by simp⟩
theorem Sep.as (S : Sep n w0 es w) (i : Nat) (hi : es[i]? = some e) (e' : Ent) (hok : e.ok w → e'.ok w) (hf : ∀ g,g ∈ e'.foot → g ∈ e.foot) : Sep n w0 (es.set i e') w :=
 S.chg i hi e' ⟨rfl,rfl,rfl,Nat.le_refl _,fun _ _ _ => rfl⟩ (hok (S.get i hi)) fun g hg => .inl (hf g hg)
theorem Sep.below (S : Sep n w0 es w) : Below n w0 w := S.fro.b
theorem Sep.ne {g k : Nat} (S : Sep n w0 es w) (i : Nat) (hi : es[i]? = some e) (hg : g ∈ e.foot) (hk : k < n) : g ≠ k := by
 have := S.ge e (List.mem_of_getElem? hi) g hg; omega
theorem Sep.nilOwn {α : Type} (S : Sep n w0 es w) (enc : α → List Value) (k T : Nat) : Sep n w0 (eOwn enc k T [] (.slice none 0 0) :: es) w :=
 S.new1 (Below.refl _ _) (eOwn enc k T [] (.slice none 0 0)) (Own.nil w) (by simp [eOwn,Value.ownBlock])
theorem Sep.own {α : Type} (S : Sep n w0 es w) (i : Nat) {g T : Nat} {cs : List Value} (hi : es[i]? = some (eBlk g T cs)) (enc : α → List Value) (k : Nat) (l : List α) (hl : l.flatMap enc = cs) (hk : ∀ x,(enc x).length = k) (h63 : l.length ≤ maxLen) :
 Sep n w0 (es.set i (eOwn enc k T l (.slice (some ⟨g,0,none⟩) l.length l.length))) w := by
 refine S.as i hi _ (fun h => ?_) (by simp [eOwn,eBlk,Value.ownBlock])
 have hlen := flat_len hk l
 exact ⟨hlen,.inr ⟨g,l.length,cs.toArray,rfl,Nat.zero_le _,h,Nat.le_refl _,h63,by rw [← hl]; simpa using hlen,by rw [← hl,← hlen]; exact List.take_of_length_le (by simp)⟩⟩

theorem wpList_pushS {P : Program} {α : Type} {enc : α → List Value} {k T : Nat} {l : List α} {v : Value} {ops : Array Oper} {rest : List Oper} {o : Oper} {a : Act} {Q : Exit → Act → World → Prop} (hgd : o.guard = none) (s x : Operand) (t : TypeId)
 (ho : o.op = .call { callee := .builtin .append,args := #[s,x],argTypes := #[t,t] }) (S : Sep n w0 es w) (i : Nat) (hei : es[i]? = some (eOwn enc k T l v)) 
 (ht : P.underlying t = some (.slice T)) (z : Value) (bytes : Nat) (hi : (P.info? T).map (fun i => (i.zero,i.size,i.bytes)) = some (some z,k,bytes))
 (hzs : z.cells.size = k) (hk : 0 < k) (hs : a.eval s = v) (y : α) (g : Nat) (hx : a.eval x = .slice (some ⟨g,0,none⟩) 1 1) (hy : (enc y).length = k) (hc : ∀ j u,(enc y)[j]? = some u → w.cell? ⟨g,j,none⟩ = some u) (h1 : ∀ u ∈ enc y,u.oneCell' = true)
 (hl : l.length ≤ 1048576) (hby : bytes ≤ 4096)
 (h : ∀ A' c' w',Sep n w0 (es.set i (eOwn enc k T (l ++ [y]) (.slice A' (l.length + 1) c'))) w' → Off v.ownBlock.toList w w' → wpList P ops Q rest (a.put o.dst (.slice A' (l.length + 1) c')) w') :
 wpList P ops Q (o :: rest) a w :=
 wpList_push hgd s x t ho (S.get i hei) ht z bytes hi hzs hk hs y g hx hy hc h1 hl hby (Nat.zero_le _) fun A' c' w' ho' hg hat => h A' c' w' (S.chg i hei _ (Off.grown hg) ho' (fun g hg => by
  simp only [eOwn,Option.mem_toList] at hg ⊢
  rcases hat with h | h
  · exact .inl (by rw [← h]; exact hg)
  · rw [h] at hg; cases hg; exact .inr (Nat.le_refl _))) (Off.grown hg)
theorem wpList_pushNS {P : Program} {α : Type} {enc : α → List Value} {k T : Nat} {l : List α} {v : Value} {ops : Array Oper} {rest : List Oper} {o : Oper} {a : Act} {Q : Exit → Act → World → Prop} (hgd : o.guard = none) (s x : Operand) (t : TypeId)
 (ho : o.op = .call { callee := .builtin .append,args := #[s,x],argTypes := #[t,t] }) (S : Sep n w0 es w) (i : Nat) (hei : es[i]? = some (eOwn enc k T l v))
 (ht : P.underlying t = some (.slice T)) (z : Value) (bytes : Nat) (hi : (P.info? T).map (fun i => (i.zero,i.size,i.bytes)) = some (some z,k,bytes))
 (hzs : z.cells.size = k) (hk : 0 < k) (hs : a.eval s = v) (ys : List α) (g c : Nat) (hx : a.eval x = .slice (some ⟨g,0,none⟩) ys.length c) (hy : ∀ y,(enc y).length = k) (hc : ∀ j u,(ys.flatMap enc)[j]? = some u → w.cell? ⟨g,j,none⟩ = some u) (h1 : ∀ y,∀ u ∈ enc y,u.oneCell' = true)
 (hl : l.length + ys.length ≤ 1048577) (hby : bytes ≤ 4096)
 (h : ∀ A' c' w',Sep n w0 (es.set i (eOwn enc k T (l ++ ys) (.slice A' (l.length + ys.length) c'))) w' → Off v.ownBlock.toList w w' → wpList P ops Q rest (a.put o.dst (.slice A' (l.length + ys.length) c')) w') :
 wpList P ops Q (o :: rest) a w := by
 obtain ⟨i0,hi0,hz,hsize,hb⟩ := info_parts hi
 refine wpList_append_own_at w hgd s x t ho 0 T i0 z k bytes ht hi0 hz hsize hb hzs hk v l.length (l.flatMap enc) hs (S.get i hei) ⟨g,0,none⟩ ys.length c (ys.flatMap enc) hx (flat_len hy ys) (fun j u hj => ?_) (fun u hu => ?_) (by simp only [maxLen]; omega) (by have := Nat.mul_le_mul hl hby; omega) (Nat.zero_le _) ?_
 · have := hc j u hj
   unfold Addr.add
   split
   · rename_i h0; subst h0; exact this
   · simpa using this
 · obtain ⟨y,_,hy'⟩ := List.mem_flatMap.1 hu
   exact h1 y u hy'
 · intro v' w' ho' hg _ hat
   obtain ⟨A',c',rfl⟩ := own_form ho'
   refine h A' c' w' (S.chg i hei _ (Off.grown hg) ?_ (fun g hg => ?_)) (Off.grown hg)
   · show Own enc k T 0 (l ++ ys) _ w'
     unfold Own; rw [List.flatMap_append,List.length_append]; exact ho'
   · simp only [eOwn,Option.mem_toList] at hg ⊢
     rcases hat with h | h
     · exact .inl (by rw [← h]; exact hg)
     · rw [h] at hg; cases hg; exact .inr (Nat.le_refl _)
theorem wpList_mapUpdateS {κ β : Type} [DecidableEq κ] {P : Program} {ops : Array Oper} {rest : List Oper} {o : Oper} {a : Act} {Q : Exit → Act → World → Prop}
 (hg : o.guard = none) (m x v : Operand) (M T E : TypeId) (hop : o.op = Op.mapUpdate M m x v) {D : TypeDesc} {key : κ → Value} {ve : β → Value} {b : Nat} {f : κ → Option β} (S : Sep n w0 es w) (i : Nat) (hei : es[i]? = some (eMap key ve b f)) (K : KeyG P T D key) (hM : P.underlying M = some (.map T E))
 (y : κ) (z : β) (hm : a.eval m = .map (some b)) (hx : a.eval x = key y) (hv : a.eval v = ve z)
 (hK : ∀ w',Sep n w0 (es.set i (eMap key ve b (fun u => if u = y then some z else f u))) w' → Off [b] w w' → wpList P ops Q rest (a.put o.dst undef) w') :
 wpList P ops Q (o :: rest) a w :=
 wpList_mapUpdate_g w hg m x v M T E hop D key ve K hM b f y z hm (S.get i hei) hx hv fun w' h hgr => hK w' (S.chg i hei _ (Off.grown hgr) h (fun g hg => .inl hg)) (Off.grown hgr)
theorem step_pushS {P : Program} {α : Type} {enc : α → List Value} {k T : Nat} {l : List α} {v : Value} {ops : Array Oper} {o : Oper} {a : Act} {K : Act → World → Prop} {Q : Exit → Act → World → Prop} {E : Prop} (hgd : o.guard = none) (s x : Operand) (t : TypeId)
 (ho : o.op = .call { callee := .builtin .append,args := #[s,x],argTypes := #[t,t] }) (S : Sep n w0 es w) (i : Nat) (hei : es[i]? = some (eOwn enc k T l v))
 (ht : P.underlying t = some (.slice T)) (z : Value) (bytes : Nat) (hi : (P.info? T).map (fun i => (i.zero,i.size,i.bytes)) = some (some z,k,bytes))
 (hzs : z.cells.size = k) (hk : 0 < k) (hs : a.eval s = v) (y : α) (g : Nat) (hx : a.eval x = .slice (some ⟨g,0,none⟩) 1 1) (hy : (enc y).length = k) (hc : ∀ j u,(enc y)[j]? = some u → w.cell? ⟨g,j,none⟩ = some u) (h1 : ∀ u ∈ enc y,u.oneCell' = true)
 (hl : l.length ≤ 1048576) (hby : bytes ≤ 4096)
 (h : ∀ A' c' w',Sep n w0 (es.set i (eOwn enc k T (l ++ [y]) (.slice A' (l.length + 1) c'))) w' → Off v.ownBlock.toList w w' → K (a.put o.dst (.slice A' (l.length + 1) c')) w') :
 if Region.wanted o (yielded ops a.tmps) = true then Oper.wp P o a w K Q else E := by
 have hcA : ∀ j u,(enc y)[j]? = some u → w.cell? ((⟨g,0,none⟩ : Addr).add j) = some u := fun j u hj => by
  have := hc j u hj
  unfold Addr.add
  split
  · rename_i h0; subst h0; exact this
  · simpa using this
 refine step_append_at hgd s x t ho 0 T z k bytes ht hi hzs hk v l.length (l.flatMap enc) hs (S.get i hei) ⟨g,0,none⟩ 1 1 (enc y) hx (by omega) hcA h1 (by simp only [maxLen]; omega) (by have := Nat.mul_le_mul (show l.length + 1 ≤ 1048577 by omega) hby; omega) (Nat.zero_le _) fun A' c' w' ho' hg hat => h A' c' w' (S.chg i hei _ (Off.grown hg) ?_ (fun g hg => ?_)) (Off.grown hg)
 · show Own enc k T 0 (l ++ [y]) _ w'
   unfold Own; rw [List.flatMap_append,List.length_append]; simpa using ho'
 · simp only [eOwn,Option.mem_toList] at hg ⊢
   rcases hat with h | h
   · exact .inl (by rw [← h]; exact hg)
   · rw [h] at hg; cases hg; exact .inr (Nat.le_refl _)
end
theorem Sep.ints {n : Nat} {w0 w : World} {es : List Ent} (S : Sep n w0 es w) (i : Nat) {l : List Int} {A : Option Addr} {c : Nat} (hi : es[i]? = some (eInts l (.slice A l.length c))) : IntsAt w A l := OwnI.ints (S.get i hi)
theorem Sep.form {α : Type} {enc : α → List Value} {k T n : Nat} {w0 w : World} {es : List Ent} (S : Sep n w0 es w) (i : Nat) {l : List α} {v : Value} (hi : es[i]? = some (eOwn enc k T l v)) : ∃ A c,v = .slice A l.length c := Own.form (S.get i hi)
section
variable {n : Nat} {w0 w : World} {a b c e : Ent} {es : List Ent}
theorem Sep.first (S : Sep n w0 (e :: es) w) : Sep n w0 [e] w := (Sep.app (es := [e]) S).1
theorem Sep.drop1 (S : Sep n w0 (e :: es) w) : Sep n w0 es w := (Sep.app (es := [e]) S).2
theorem Sep.drop2 (S : Sep n w0 (a :: e :: es) w) : Sep n w0 (a :: es) w :=
 ⟨S.fro,fun x hx => S.ok x (by simp at hx ⊢; rcases hx with h | h <;> simp [h]),fun x hx => S.ge x (by simp at hx ⊢; rcases hx with h | h <;> simp [h]),List.Pairwise.sublist (.cons_cons _ (.cons _ (List.Sublist.refl _))) S.ap⟩
theorem Sep.drop3 (S : Sep n w0 (a :: b :: e :: es) w) : Sep n w0 (a :: b :: es) w :=
 ⟨S.fro,fun x hx => S.ok x (by simp at hx ⊢; rcases hx with h | h | h <;> simp [h]),fun x hx => S.ge x (by simp at hx ⊢; rcases hx with h | h | h <;> simp [h]),List.Pairwise.sublist (.cons_cons _ (.cons_cons _ (.cons _ (List.Sublist.refl _)))) S.ap⟩
end
theorem wp_world {P : Program} {c : Code} {Q : Exit → Act → World → Prop} {a : Act} {w : World} (R : World → Prop) (h : R w) (k : ∀ W,R W → c.wp P Q a W) : c.wp P Q a w := k w h
theorem calls_world {P : Program} {f : FuncId} {args : Array Value} {w : World} {Q : Ending → World → Prop} (R : World → Prop) (h : R w) (k : ∀ W,R W → Calls P f args W Q) : Calls P f args w Q := k w h
theorem ckC {n : Nat} {w0 V : World} {es : List Ent} (S : Sep n w0 es V) (i : Nat) {g : Nat} {T : TypeId} {cs : List Value} (hi : es[i]? = some (eBlk g T cs)) (q : Nat) {v : Value} (hv : cs[q]? = some v) : V.cell? ⟨g, q, none⟩ = some v := (BlkAt.cell (S.get i hi) q).trans hv
theorem ckS {g o : Nat} {u : Value} {n : Nat} {w0 w w' : World} {es es' : List Ent} (S : Sep n w0 es w) (hw : w' = w.setCell ⟨g, o, none⟩ u) (i : Nat) {T : TypeId} {cs : List Value} (hi : es[i]? = some (eBlk g T cs)) (he : es.set i (eBlk g T (cs.set o u)) = es' := by (simp only [List.set_cons_succ, List.set_cons_zero]; rfl)) : Hid (Sep n w0 es' w') := by
  subst hw; subst he; exact S.set i hi o u
theorem ckA {n : Nat} {w0 w w' : World} {es : List Ent} (S : Sep n w0 es w) {T : TypeId} {cs : List Value} (hw : w' = w.alloc (.cells cs.toArray T)) {g : Nat} (hg : g = w.heap.size) : Hid (Sep n w0 (eBlk g T cs :: es) w') := by
  subst hw; subst hg; exact S.alloc T cs
theorem ckR {n : Nat} {w0 w : World} {es es' : List Ent} (S : Sep n w0 es w) (he : es = es' := by (simp only [List.set_cons_succ, List.set_cons_zero]; rfl)) : Hid (Sep n w0 es' w) := by
  subst he; exact S
end
def Errs (Q : Prop) (w : World) (e : Ending) (w' : World) : Prop := ∃ r : Int,e = .returned (.int .i64 r) ∧ (r = 0 ↔ Q) ∧ w = w'
theorem Errs.no {Q : Prop} {w w' : World} {r : Int} (h : ¬ Q) (hr : r ≠ 0) (hw : w = w') : Errs Q w (.returned (.int .i64 r)) w' := ⟨r,rfl,by simp [h,hr],hw⟩
theorem Errs.yes {Q : Prop} {w w' : World} (h : Q) (hw : w = w') : Errs Q w (.returned (.int .i64 0)) w' := ⟨0,rfl,by simp [h],hw⟩
def ErrsB (Q : Prop) (w : World) (e : Ending) (w' : World) : Prop := ∃ r : Int,e = .returned (.int .i64 r) ∧ (r = 0 ↔ Q) ∧ Below w.heap.size w w'
theorem ErrsB.no {Q : Prop} {w w' : World} {r : Int} (h : ¬ Q) (hr : r ≠ 0) (hw : Below w.heap.size w w') : ErrsB Q w (.returned (.int .i64 r)) w' := ⟨r,rfl,by simp [h,hr],hw⟩
theorem ErrsB.yes {Q : Prop} {w w' : World} (h : Q) (hw : Below w.heap.size w w') : ErrsB Q w (.returned (.int .i64 0)) w' := ⟨0,rfl,by simp [h],hw⟩
theorem Errs.two {Q : Prop} {w w' : World} {e : Ending} (h : Errs Q w e w') : (∃ r : Int,e = .returned (.int .i64 r) ∧ (r == 0) = false ∧ Hid (r ≠ 0) ∧ Hid (¬ Q) ∧ w = w') ∨ (e = .returned (.int .i64 0) ∧ Hid Q ∧ w = w') := by
 obtain ⟨r,rfl,hr,rfl⟩ := h
 by_cases h0 : r = 0
 · subst h0; exact .inr ⟨rfl,hr.1 rfl,rfl⟩
 · exact .inl ⟨r,rfl,by simpa using h0,h0,fun h => h0 (hr.2 h),rfl⟩
theorem ErrsB.two {Q : Prop} {w w' : World} {e : Ending} (h : ErrsB Q w e w') : (∃ r : Int,e = .returned (.int .i64 r) ∧ (r == 0) = false ∧ Hid (r ≠ 0) ∧ Hid (¬ Q) ∧ Below w.heap.size w w') ∨ (e = .returned (.int .i64 0) ∧ Hid Q ∧ Below w.heap.size w w') := by
 obtain ⟨r,rfl,hr,hb⟩ := h
 by_cases h0 : r = 0
 · subst h0; exact .inr ⟨rfl,hr.1 rfl,hb⟩
 · exact .inl ⟨r,rfl,by simpa using h0,h0,fun h => h0 (hr.2 h),hb⟩
set_option maxHeartbeats 400000 in
theorem checkSet_c (A : Option Addr) (c : Nat) (l : List Int) (n : Int) (w : World) (h : IntsAt w A l) (hl : l.length ≤ maxLen) :
 Calls Tryd.prog 84 #[.slice A l.length c,.int .i64 n] w (Errs (setOk l n l.length) w) := by
 unfold maxLen at hl
 go_enter Tryd.func84,Tryd.ntmps84
 go_wp2
 go_loop [5,6,9] (fun a b i => ∃ k : Nat,k ≤ l.length ∧ i = .int .i64 k ∧ Hid (setOk l n k)) (fun _ _ i => l.length - (intOf i).toNat)
 case atStart => exact ⟨0,by omega,rfl,fun i x h => absurd h (by omega)⟩
 case round =>
  obtain ⟨k,hk,rfl,hrel⟩ := hrel
  by_cases hlt : k < l.length
  · obtain ⟨b,off,x,rfl,_,hx,hcx⟩ := IntsAt.at h hlt
    by_cases hk0 : k = 0
    · subst hk0
      rw [Nat.add_zero] at hcx
      go_wp2
      any_goals (go_ret; exact Errs.no (setOk.not1 hx hlt (by omega)) (by decide) rfl)
      go_round
      case rel => exact ⟨1,by omega,by go_num,hrel.out.step hx (by omega) (by omega) (fun y h => absurd h (by omega))⟩
      case measure => simp [intOf]; omega
    · obtain ⟨y,hy,hcy⟩ := IntsAt.more h (k := k - 1) (by omega)
      go_wp2
      any_goals (go_ret; first | exact Errs.no (setOk.not1 hx hlt (by omega)) (by decide) rfl | exact Errs.no (setOk.not2 hx hlt (by omega) hy (by omega)) (by decide) rfl)
      go_round
      case rel => exact ⟨k+1,by omega,by go_num,hrel.out.step hx (by omega) (by omega) (fun z h hz => by rw [hy] at hz; cases hz; omega)⟩
      case measure => simp [intOf]; omega
  · obtain rfl : k = l.length := by omega
    go_wp2
    go_ret
    exact Errs.yes hrel.out rfl
def PlaceOf (Q : Prop) (w : World) (e : Ending) (w' : World) : Prop := ∃ r : Int,e = .returned (.int .i64 r) ∧ (0 ≤ r ↔ Q) ∧ w = w'
theorem notMem {l : List Int} {x : Int} (h : ∀ j y,j < l.length → l[j]? = some y → y ≠ x) : ¬ x ∈ l := notIn_all h
theorem indexV_c (A : Option Addr) (c : Nat) (l : List Int) (x : Int) (w : World) (h : IntsAt w A l) (hl : l.length ≤ 140737488355328) :
 Calls Tryd.prog 93 #[.slice A l.length c,.int .i64 x] w (PlaceOf (x ∈ l) w) := by
 go_enter Tryd.func93,Tryd.ntmps93
 go_wp2
 go_loop [5,8] (fun _ i => ∃ k : Nat,k ≤ l.length ∧ i = .int .i64 k ∧ Hid (∀ j y,j < k → l[j]? = some y → y ≠ x)) (fun _ i => l.length - (intOf i).toNat)
 case atStart => exact ⟨0,by omega,rfl,fun i x h => absurd h (by omega)⟩
 case round =>
  obtain ⟨k,hk,rfl,H⟩ := hrel
  by_cases hlt : k < l.length
  · obtain ⟨b,off,y,rfl,_,hy,hcy⟩ := IntsAt.at h hlt
    have HY := Lib.hid hy
    clear hy
    by_cases hyx : x = y
    · have hyx' : (x == y) = true := by simpa using hyx
      have HM := Lib.hid (List.mem_of_getElem? HY.out)
      have HYX := Lib.hid hyx
      clear hyx
      go_wp2
      go_ret
      exact ⟨_,rfl,by simp; rw [HYX.out]; exact HM.out,rfl⟩
    · have hyx' : (x == y) = false := by simpa using hyx
      have HYX := Lib.hid hyx
      clear hyx
      go_wp2
      go_round
      case rel => exact ⟨k + 1,by omega,by go_num,fun j z hj hz => by
       by_cases e : j = k
       · subst e; rw [HY.out] at hz; cases hz; exact fun h => HYX.out h.symm
       · exact H.out j z (by omega) hz⟩
      case measure => simp [intOf]; omega
  · obtain rfl : k = l.length := by omega
    have HN := Lib.hid (notMem H.out)
    go_wp2
    go_ret
    exact ⟨_,rfl,by simp; exact HN.out,rfl⟩
theorem containsV_c (A : Option Addr) (c : Nat) (l : List Int) (x : Int) (w : World) (h : IntsAt w A l) (hl : l.length ≤ 140737488355328) :
 Calls Tryd.prog 89 #[.slice A l.length c,.int .i64 x] w (Says (x ∈ l) w) := by
 have HC := Lib.hid (indexV_c A c l x w h hl)
 clear h
 go_enter Tryd.func89,Tryd.ntmps89
 go_wp2_with fail
 refine HC.out.mono ?_
 rintro e w' ⟨r,rfl,hr,rfl⟩
 have HR := Lib.hid hr
 clear hr
 go_wp2
 go_ret
 exact ⟨_,rfl,by rw [← HR.out]; simp,rfl⟩
theorem edOk.no {a : Au} {i : Nat} {x : Ed} (hx : a.ed[i]? = some x) (hi : i < a.ed.length) (h : edOk a i → False) : ¬ ∀ j,j < a.ed.length → edOk a j := fun g => h (g i hi)
set_option maxHeartbeats 1000000 in
theorem checkEdges_c (a : Au) (p : AuP) (w : World) (h : Au.At w a p) :
 Calls Tryd.prog 85 #[a.val p] w (ErrsB (∀ i,i < a.ed.length → edOk a i) w) := by
 have B0 : Hid (Below w.heap.size w (w.alloc (.cells (auCells a p).toArray 35))) := Below.new _ _
 have W0 : Hid (Fro (w.heap.size + 1) (w.alloc (.cells (auCells a p).toArray 35)) (w.alloc (.cells (auCells a p).toArray 35))) := Fro.refl (by simp)
 have C0 : Hid (HasAt w.heap.size (auCells a p) (w.alloc (.cells (auCells a p).toArray 35))) := HasAt.new w _ _ rfl
 have HP := Lib.hid h
 have lal := h.lal
 have led := h.led
 clear h
 obtain ⟨al,n,mr,ed⟩ := a
 obtain ⟨A1,c1,A2,c2,A3,c3⟩ := p
 dsimp only [Au.val,auCells] at *
 have q3 := C0.out.c 3 _ rfl
 go_enter Tryd.func85,Tryd.ntmps85
 go_wp2_with fail
 generalize hW : w.alloc (.cells #[.slice A1 al.length c1,.int .i64 n,.slice A2 mr.length c2,.slice A3 ed.length c3] 35) = W at *
 clear hW q3
 go_loopw [3,9] (fun _ i wr => ∃ k : Nat,k ≤ ed.length ∧ i = .int .i64 k ∧ Hid (Fro (w.heap.size + 1) W wr) ∧ Hid (∀ i,i < k → edOk ⟨al,n,mr,ed⟩ i)) (fun _ i _ => ed.length - (intOf i).toNat)
 case atStart => exact ⟨0,by omega,rfl,W0.out,fun i h => absurd h (by omega)⟩
 case round =>
  obtain ⟨k,hk,rfl,BW,HE⟩ := hrel
  have C2 := Lib.hid (C0.out.fro BW.out (Nat.lt_succ_self _))
  have q0 := C2.out.c 0 _ rfl
  have q1 := C2.out.c 1 _ rfl
  have q3 := C2.out.c 3 _ rfl
  have hz := C2.out.z
  have BWW : Hid (Below w.heap.size w wr) := B0.out.trans (BW.out.b.mono (by omega))
  by_cases hlt : k < ed.length
  · obtain ⟨b,off,x,hA3,hb,hx,e0,e1,e2⟩ := EdsAt.at ((HP.out.below BWW.out).ed) hlt
    obtain ⟨src,ev,dst⟩ := x
    dsimp only at hA3 e0 e1 e2
    subst hA3
    have HX := Lib.hid hx
    clear hx
    by_cases hs : 0 ≤ src ∧ src < n ∧ 0 ≤ dst ∧ dst < n
    · obtain ⟨s0,s1,d0,d1⟩ := hs
      have BN : Hid (Fro (w.heap.size + 1) W (wr.alloc (.cells #[.int .i64 src,.int .i64 ev,.int .i64 dst] 87))) := BW.out.alloc _
      have BNN : Hid (Below w.heap.size w (wr.alloc (.cells #[.int .i64 src,.int .i64 ev,.int .i64 dst] 87))) := B0.out.trans (BN.out.b.mono (by omega))
      go_wp2_with fail
      refine (containsV_c A1 c1 al ev _ ((HP.out.below BNN.out).al) lal).mono ?_
      intro e w1 hs; rcases hs.no1 with ⟨rfl,SE,rfl⟩ | ⟨rfl,SE,rfl⟩
      · clear hs
        go_wp2
        go_ret
        exact ErrsB.no (fun h => SE.out (h k hlt _ HX.out).2.2.2.2.1) (by decide) BNN.out
      clear hs
      by_cases hk0 : k = 0
      · subst hk0
        go_wp2
        go_roundw
        case rel => exact ⟨1,by omega,by go_num,BN.out,fun i hi => by
         obtain rfl : i = 0 := by omega
         intro z hz
         rw [HX.out] at hz; cases hz
         exact ⟨s0,s1,d0,d1,SE.out,fun y h => absurd h (by omega)⟩⟩
        case measure => simp [intOf]; omega
      · obtain ⟨y,hy,f0,f1,f2⟩ := EdsAt.more ((HP.out.below BWW.out).ed) (k := k - 1) (by simp only; omega)
        obtain ⟨ysrc,yev,ydst⟩ := y
        dsimp only at f0 f1 f2
        have HY := Lib.hid hy
        clear hy
        have hk1 : 0 < k := by omega
        have hk2 : ((k : Int) == 0) = false := by simpa using hk0
        have BN2 : Hid (Fro (w.heap.size + 1) W ((wr.alloc (.cells #[.int .i64 src,.int .i64 ev,.int .i64 dst] 87)).alloc (.cells #[.int .i64 ysrc,.int .i64 yev,.int .i64 ydst] 87))) := BN.out.alloc _
        have BN2N : Hid (Below w.heap.size w ((wr.alloc (.cells #[.int .i64 src,.int .i64 ev,.int .i64 dst] 87)).alloc (.cells #[.int .i64 ysrc,.int .i64 yev,.int .i64 ydst] 87))) := B0.out.trans (BN2.out.b.mono (by omega))
        by_cases hord : ysrc < src ∨ ysrc = src ∧ yev < ev
        · have HO := Lib.hid hord
          have g1 : decide (src < ysrc) = false := by simp; omega
          by_cases g2 : src = ysrc
          · subst g2
            have g3 : decide (ev ≤ yev) = false := by simp; omega
            have HEV : Hid (yev < ev) := by unfold Hid; omega
            clear hord
            go_wp2
            go_roundw
            case rel => exact ⟨k + 1,by omega,by go_num,BN2.out,fun i hi => by
             by_cases e : i = k
             · subst e
               intro z hz
               rw [HX.out] at hz; cases hz
               exact ⟨s0,s1,d0,d1,SE.out,fun y _ h => by rw [HY.out] at h; cases h; exact .inr ⟨rfl,HEV.out⟩⟩
             · exact HE.out i (by omega)⟩
            case measure => simp [intOf]; omega
          · have g2' : (src == ysrc) = false := by simpa using g2
            clear hord g2
            go_wp2
            go_roundw
            case rel => exact ⟨k + 1,by omega,by go_num,BN2.out,fun i hi => by
             by_cases e : i = k
             · subst e
               intro z hz
               rw [HX.out] at hz; cases hz
               exact ⟨s0,s1,d0,d1,SE.out,fun y _ h => by rw [HY.out] at h; cases h; exact HO.out⟩
             · exact HE.out i (by omega)⟩
            case measure => simp [intOf]; omega
        · have HO := Lib.hid hord
          have NO : Hid (¬ ∀ i,i < ed.length → edOk ⟨al,n,mr,ed⟩ i) := fun h => HO.out ((h k hlt _ HX.out).2.2.2.2.2 _ hk1 HY.out)
          by_cases g1 : src < ysrc
          · clear hord
            go_wp2
            go_ret
            exact ErrsB.no NO.out (by decide) BN2N.out
          · have g1' : decide (src < ysrc) = false := by simpa using g1
            obtain rfl : src = ysrc := by omega
            have g3 : decide (ev ≤ yev) = true := by simp; omega
            clear hord
            go_wp2
            go_ret
            exact ErrsB.no NO.out (by decide) BN2N.out
    · go_wp2
      any_goals (go_ret; exact ErrsB.no (fun h => by have := h k hlt _ HX.out; simp only at this; omega) (by decide) (BWW.out.alloc (by omega) _))
  · obtain rfl : k = ed.length := by omega
    go_wp2
    go_ret
    exact ErrsB.yes HE.out BWW.out
set_option maxHeartbeats 1000000 in
theorem Check_c (a : Au) (p : AuP) (w : World) (h : Au.At w a p) :
 Calls Tryd.prog 66 #[a.val p] w (ErrsB a.Right w) := by
 have B0 : Hid (Below w.heap.size w (w.alloc (.cells (auCells a p).toArray 35))) := Below.new _ _
 have C0 : Hid (HasAt w.heap.size (auCells a p) (w.alloc (.cells (auCells a p).toArray 35))) := HasAt.new w _ _ rfl
 have HP := Lib.hid h
 have lal := h.lal
 have lmk := h.lmk
 clear h
 obtain ⟨al,n,mr,ed⟩ := a
 obtain ⟨A1,c1,A2,c2,A3,c3⟩ := p
 dsimp only [Au.val,auCells] at *
 have q0 := C0.out.c 0 _ rfl
 have q1 := C0.out.c 1 _ rfl
 have q2 := C0.out.c 2 _ rfl
 have q3 := C0.out.c 3 _ rfl
 go_enter Tryd.func66,Tryd.ntmps66
 go_wp2_with fail
 generalize hW : w.alloc (.cells #[.slice A1 al.length c1,.int .i64 n,.slice A2 mr.length c2,.slice A3 ed.length c3] 35) = W at *
 clear hW
 refine (checkSet_c A1 c1 al 32 W ((HP.out.below B0.out).al) (by unfold maxLen; omega)).mono ?_
 intro e w1 hs
 rcases hs.two with ⟨r,rfl,hr,HR,S1,rfl⟩ | ⟨rfl,S1,rfl⟩
 · clear hs
   go_wp2
   go_ret
   exact ErrsB.no (fun h => S1.out h.al) HR.out B0.out
 clear hs
 by_cases hn0 : n < 0
 · go_wp2
   go_ret
   exact ErrsB.no (fun h => by have := h.n0; simp only at this; omega) (by decide) B0.out
 by_cases hn1 : 4096 < n
 · go_wp2
   go_ret
   exact ErrsB.no (fun h => by have := h.n1; simp only at this; omega) (by decide) B0.out
 go_wp2_with fail
 refine (checkSet_c A2 c2 mr n W ((HP.out.below B0.out).mr) (by unfold maxLen; omega)).mono ?_
 intro e w1 hs
 rcases hs.two with ⟨r,rfl,hr,HR,S2,rfl⟩ | ⟨rfl,S2,rfl⟩
 · clear hs
   go_wp2
   go_ret
   exact ErrsB.no (fun h => S2.out h.mr) HR.out B0.out
 clear hs
 go_wp2_with fail
 refine (checkEdges_c ⟨al,n,mr,ed⟩ ⟨A1,c1,A2,c2,A3,c3⟩ W (HP.out.below B0.out)).mono ?_
 rintro e w2 ⟨r,rfl,hr,hb⟩
 have HR := Lib.hid hr
 have HB := Lib.hid (B0.out.trans (hb.mono B0.out.size))
 clear hr hb
 go_wp2
 go_ret
 exact ⟨r,rfl,by rw [HR.out]; exact ⟨fun h => ⟨S1.out,by omega,by omega,S2.out,h⟩,fun h => h.ed⟩,HB.out⟩
theorem boolInfo : (Tryd.prog.info? 4).map (fun i => (i.zero,i.size,i.bytes)) = some (some (.bool false),1,1) := by kernel_rfl
def mkB (n : Nat) (p : Nat → Bool) : List Value := (List.range n).map fun s => .bool (p s)
theorem mkB_get {n : Nat} {p : Nat → Bool} {s : Nat} (h : s < n) : (mkB n p)[s]? = some (.bool (p s)) := by simp [mkB,h]
theorem mkB_rep (n : Nat) : List.replicate n (Value.bool false) = mkB n fun _ => false := by
 apply List.ext_getElem?
 intro i
 by_cases h : i < n
 · rw [mkB_get h,List.getElem?_replicate,if_pos h]
 · simp [mkB,h]
theorem mkB_set {n : Nat} {p : Nat → Bool} (s : Nat) : (mkB n p).set s (.bool true) = mkB n fun t => decide (t = s) || p t := by
 apply List.ext_getElem?
 intro i
 rw [List.getElem?_set]
 by_cases h : i < n
 · rw [mkB_get (p := fun t => decide (t = s) || p t) h]
   by_cases e : s = i
   · subst e
     rw [if_pos rfl,if_pos (by simpa [mkB] using h),decide_eq_true rfl,Bool.true_or]
   · rw [if_neg e,mkB_get h]
     simp [Ne.symm e]
 · have h1 : ∀ q : Nat → Bool,(mkB n q)[i]? = none := fun q => by simp [mkB]; omega
   rw [h1,h1]
   split
   · rw [if_neg (by simp [mkB]; omega)]
   · rfl
theorem mkB_congr {n : Nat} {p q : Nat → Bool} (h : ∀ s,s < n → p s = q s) : mkB n p = mkB n q := by
 unfold mkB
 refine List.map_congr_left fun s hs => ?_
 rw [h s (by simpa using hs)]
def GivesB (n : Nat) (p : Nat → Bool) (w : World) (e : Ending) (w' : World) : Prop := ∃ g,e = .returned (.slice (some ⟨g,0,none⟩) n n) ∧ Hid (Sep w.heap.size w [eBlk g 4 (mkB n p)] w')
theorem take_mem {l : List Int} {k : Nat} {x : Int} (h : l[k]? = some x) (t : Nat) : (decide (t = x.toNat) || decide ((t : Int) ∈ l.take k)) = decide ((t : Int) ∈ l.take (k + 1)) ∨ x < 0 := by
 by_cases hx : x < 0
 · exact .inr hx
 · refine .inl ?_
   rw [List.take_add_one,h]
   rw [← Bool.decide_or,decide_eq_decide,List.mem_append]
   simp only [Option.toList_some,List.mem_singleton]
   rw [show t = x.toNat ↔ (t : Int) = x by omega,or_comm]
set_option maxHeartbeats 1000000 in
theorem marks_c (a : Au) (p : AuP) (w : World) (hr : ∀ x,x ∈ a.mr → 0 ≤ x ∧ x < a.n) (h0 : 0 ≤ a.n) (hn : a.n ≤ 4096) (hA : Au.At w a p) :
 Calls Tryd.prog 108 #[a.val p] w (GivesB a.n.toNat (fun s => decide ((s : Int) ∈ a.mr)) w) := by
 obtain ⟨al,n,mr,ed⟩ := a
 obtain ⟨N,rfl⟩ := Int.eq_ofNat_of_zero_le h0
 have HR := Lib.hid hr
 have HA := Lib.hid hA.mr
 have hml := hA.lmk
 dsimp only at HR hml hn h0 ⊢
 have hmk := make_run (P := Tryd.prog) 118 4 (.bool false) 1 Tryd.underlying118 boolInfo rfl N (by omega) (by omega)
 clear hr hA h0
 rw [Int.toNat_natCast]
 go_enter Tryd.func108,Tryd.ntmps108
 go_wp2_with fail
 refine wp_world (fun W => Sep w.heap.size w [eBlk (w.heap.size + 1) 4 (mkB N fun s => decide ((s : Int) ∈ mr.take 0))] W) ?_ fun W S0 => ?_
 · have e : (fun s : Nat => decide ((s : Int) ∈ mr.take 0)) = fun _ => false := by funext s; simp
   rw [e,← mkB_rep]
   exact (((Sep.here w).alloc 35 [_,_,_,_]).alloc' _ _ rfl (by simp)).first
 clear hmk
 go_loopw [12] (fun i wr => ∃ k : Nat,i = .int .i64 k ∧ k ≤ mr.length ∧ Hid (Sep w.heap.size w [eBlk (w.heap.size + 1) 4 (mkB N fun s => decide ((s : Int) ∈ mr.take k))] wr)) (fun i _ => mr.length - (intOf i).toNat)
 case atStart => exact ⟨0,rfl,Nat.zero_le _,S0⟩
 case round =>
  clear S0
  obtain ⟨k,rfl,hk,S⟩ := hrel
  by_cases hlt : k < mr.length
  · obtain ⟨b,off,x,hAe,hb,hx,c0⟩ := IntsAt.at (HA.out.below IntE.stays S.out.below) hlt
    have hxr := HR.out x (List.mem_of_getElem? hx)
    obtain ⟨m,rfl⟩ := Int.eq_ofNat_of_zero_le hxr.1
    have c1 : wr.cell? ⟨w.heap.size + 1,m,none⟩ = some (.bool _) := (BlkAt.cell (S.out.get 0 rfl) m).trans (mkB_get (by omega))
    have f1 : wr.frozen? ⟨w.heap.size + 1,m,none⟩ = false := BlkAt.free (S.out.get 0 rfl) m
    have S2 : Hid (Sep w.heap.size w [eBlk (w.heap.size + 1) 4 (mkB N fun s => decide ((s : Int) ∈ mr.take (k + 1)))] (wr.setCell ⟨w.heap.size + 1,m,none⟩ (.bool true))) := by
     have h := S.out.set 0 rfl m (.bool true)
     rw [mkB_set] at h
     have e : (mkB N fun t => decide (t = m) || decide ((t : Int) ∈ mr.take k)) = mkB N fun s => decide ((s : Int) ∈ mr.take (k + 1)) := mkB_congr fun s _ => by
      rcases take_mem hx s with g | g
      · rw [← g,Int.toNat_natCast]
      · omega
     rw [e] at h
     exact h
    rw [hAe]
    clear hx S
    go_wp2_with fail
    go_roundw
    case rel => exact ⟨k + 1,by go_num,by omega,S2.out⟩
    case measure => simp [intOf]; omega
  · obtain rfl : k = mr.length := by omega
    have S3 : Hid (Sep w.heap.size w [eBlk (w.heap.size + 1) 4 (mkB N fun s => decide ((s : Int) ∈ mr))] wr) := by have h := S.out; rw [List.take_length] at h; exact h
    go_wp2_with fail
    go_ret
    exact ⟨_,rfl,S3.out⟩
def wlt : List Int → List Int → Prop
 | x :: u,y :: v => x < y ∨ x = y ∧ wlt u v
 | _,_ => False
def slt (u v : List Int) : Prop := u.length < v.length ∨ u.length = v.length ∧ wlt u v
def sle (u v : List Int) : Prop := slt u v ∨ u = v

theorem wlt.irrefl : ∀ (u : List Int),¬ wlt u u
 | [] => fun h => h
 | x :: u => fun h => by
   rcases h with h | ⟨_,h⟩
   · omega
   · exact wlt.irrefl u h
theorem wlt.trans : ∀ {u v w : List Int},wlt u v → wlt v w → wlt u w
 | [],_,_,h,_ => h.elim
 | x :: u,[],_,h,_ => h.elim
 | x :: u,y :: v,[],_,h => h.elim
 | x :: u,y :: v,z :: w,h,k => by
   rcases h with h | ⟨h,h'⟩ <;> rcases k with k | ⟨k,k'⟩
   · exact .inl (by omega)
   · exact .inl (by omega)
   · exact .inl (by omega)
   · exact .inr ⟨by omega,wlt.trans h' k'⟩
theorem wlt.app : ∀ {u v : List Int} (x y : List Int),wlt u v → u.length = v.length → wlt (u ++ x) (v ++ y)
 | [],_,_,_,h,_ => h.elim
 | a :: u,[],_,_,h,_ => h.elim
 | a :: u,b :: v,x,y,h,hl => by
   rcases h with h | ⟨h,h'⟩
   · exact .inl h
   · exact .inr ⟨h,wlt.app x y h' (by simpa using hl)⟩
theorem wlt.same : ∀ (u : List Int) {x y : List Int},wlt x y → wlt (u ++ x) (u ++ y)
 | [],_,_,h => h
 | a :: u,_,_,h => .inr ⟨rfl,wlt.same u h⟩

theorem slt.irrefl (u : List Int) : ¬ slt u u := fun h => by
 rcases h with h | ⟨_,h⟩
 · omega
 · exact wlt.irrefl u h
theorem slt.trans {u v w : List Int} (h : slt u v) (k : slt v w) : slt u w := by
 rcases h with h | ⟨h,h'⟩ <;> rcases k with k | ⟨k,k'⟩
 · exact .inl (by omega)
 · exact .inl (by omega)
 · exact .inl (by omega)
 · exact .inr ⟨by omega,h'.trans k'⟩
theorem slt.asymm {u v : List Int} (h : slt u v) : ¬ slt v u := fun k => slt.irrefl u (h.trans k)
theorem sle.refl (u : List Int) : sle u u := .inr rfl
theorem sle.trans {u v w : List Int} (h : sle u v) (k : sle v w) : sle u w := by
 rcases h with h | rfl
 · rcases k with k | rfl
   · exact .inl (h.trans k)
   · exact .inl h
 · exact k
theorem slt.trans_le {u v w : List Int} (h : slt u v) (k : sle v w) : slt u w := by
 rcases k with k | rfl
 · exact h.trans k
 · exact h
theorem sle.not_lt {u v : List Int} (h : sle u v) : ¬ slt v u := fun k => slt.irrefl v (k.trans_le h)
theorem sle.antisymm {u v : List Int} (h : sle u v) (k : sle v u) : u = v := by
 rcases h with h | h
 · exact absurd h k.not_lt
 · exact h
theorem sle_nil (u : List Int) : sle [] u := by
 cases u with
 | nil => exact .inr rfl
 | cons x u => exact .inl (.inl (by simp))
theorem slt.snoc {u v : List Int} (h : slt u v) (x y : Int) : slt (u ++ [x]) (v ++ [y]) := by
 rcases h with h | ⟨h,h'⟩
 · exact .inl (by simp; omega)
 · exact .inr ⟨by simp [h],h'.app _ _ h⟩
theorem slt_snoc_lt (u : List Int) {x y : Int} (h : x < y) : slt (u ++ [x]) (u ++ [y]) := .inr ⟨by simp,wlt.same u (.inl h)⟩
theorem slt_snoc (u : List Int) (x : Int) : slt u (u ++ [x]) := .inl (by simp)
theorem sle.snoc {u v : List Int} (h : sle u v) (x : Int) : sle (u ++ [x]) (v ++ [x]) := by
 rcases h with h | rfl
 · exact .inl (h.snoc x x)
 · exact .inr rfl
theorem sle_snoc2 {u v : List Int} (h : sle u v) {x y : Int} (hxy : u = v → x ≤ y) : sle (u ++ [x]) (v ++ [y]) := by
 rcases h with h | rfl
 · exact .inl (h.snoc x y)
 · rcases Int.lt_or_eq_of_le (hxy rfl) with k | rfl
   · exact .inl (slt_snoc_lt _ k)
   · exact .inr rfl

structure LeastW (P : List Int → Prop) (w : List Int) : Prop where
 is : P w
 le : ∀ v,P v → sle w v
theorem LeastW.uniq {P : List Int → Prop} {u v : List Int} (h : LeastW P u) (k : LeastW P v) : u = v := (h.le v k.is).antisymm (k.le u h.is)
theorem LeastW.congr {P Q : List Int → Prop} {u : List Int} (h : LeastW P u) (k : ∀ w,P w ↔ Q w) : LeastW Q u := ⟨(k u).1 h.is,fun v hv => h.le v ((k v).2 hv)⟩

def Rises {α : Type} (R : α → α → Prop) (l : List α) : Prop := ∀ (i j : Nat) (u v : α),i < j → l[i]? = some u → l[j]? = some v → R u v
theorem Rises.push {α : Type} {R : α → α → Prop} {l : List α} (h : Rises R l) {w : α} (hw : ∀ u,u ∈ l → R u w) : Rises R (l ++ [w]) := by
 intro i j u v hij hu hv
 have hj := (List.getElem?_eq_some_iff.1 hv).1
 simp at hj
 have hil : i < l.length := by omega
 rw [List.getElem?_append_left hil] at hu
 by_cases e : j < l.length
 · rw [List.getElem?_append_left e] at hv
   exact h i j u v hij hu hv
 · obtain rfl : j = l.length := by omega
   simp at hv; subst hv
   exact hw u (List.mem_of_getElem? hu)
theorem Rises.head {α : Type} {R : α → α → Prop} {x : α} {l : List α} (h : Rises R (x :: l)) : ∀ y,y ∈ l → R x y := fun y hy => by
 obtain ⟨j,hj,rfl⟩ := List.mem_iff_getElem.1 hy
 exact h 0 (j + 1) x _ (by omega) rfl (by simp [List.getElem?_eq_getElem hj])
theorem Rises.tail {α : Type} {R : α → α → Prop} {x : α} {l : List α} (h : Rises R (x :: l)) : Rises R l := fun i j u v hij hu hv => h (i + 1) (j + 1) u v (by omega) (by simpa using hu) (by simpa using hv)
theorem Rises.ext {α : Type} {R : α → α → Prop} (ir : ∀ x,¬ R x x) (asy : ∀ x y,R x y → ¬ R y x) : ∀ {l m : List α},Rises R l → Rises R m → (∀ w,w ∈ l ↔ w ∈ m) → l = m
 | [],[],_,_,_ => rfl
 | [],y :: m,_,_,h => by have := (h y).2 (by simp); simp at this
 | x :: l,[],_,_,h => by have := (h x).1 (by simp); simp at this
 | x :: l,y :: m,hl,hm,h => by
   have hxy : x = y := by
    rcases List.mem_cons.1 ((h x).1 (by simp)) with k | k
    · exact k
    · rcases List.mem_cons.1 ((h y).2 (by simp)) with k' | k'
      · exact k'.symm
      · exact absurd (hm.head x k) (asy _ _ (hl.head y k'))
   subst hxy
   congr 1
   refine Rises.ext ir asy hl.tail hm.tail fun w => ⟨fun hw => ?_,fun hw => ?_⟩
   · rcases List.mem_cons.1 ((h w).1 (by simp [hw])) with k | k
     · subst k; exact absurd (hl.head w hw) (ir w)
     · exact k
   · rcases List.mem_cons.1 ((h w).2 (by simp [hw])) with k | k
     · subst k; exact absurd (hm.head w hw) (ir w)
     · exact k
abbrev Asc := Rises slt
section

theorem runV_app (l : List Ed) : ∀ (u v : List Int) (s : Int),runV l s (u ++ v) = runV l (runV l s u) v
 | [],v,s => rfl
 | e :: u,v,s => by
   rw [List.cons_append]
   by_cases h : 0 ≤ s
   · simp only [runV,h,if_true]
     exact runV_app l u v _
   · rw [runV_neg l (by omega),runV_neg l (by omega) (e :: u),runV_neg l (by omega)]
def Au.st (a : Au) : Int := if a.n = 0 then -1 else 0
def rn (a : Au) (w : List Int) : Int := runV a.ed a.st w
theorem rn_app (a : Au) (u v : List Int) : rn a (u ++ v) = runV a.ed (rn a u) v := runV_app ..
theorem rn_nil (a : Au) : rn a [] = a.st := rfl
theorem rn_snoc (a : Au) (u : List Int) (e : Int) (h : 0 ≤ rn a u) : rn a (u ++ [e]) = nextV a.ed (rn a u) e := by
 rw [rn_app]; simp [runV,h]
theorem Au.Right.mem {a : Au} (h : a.Right) {x : Int} (hx : x ∈ a.mr) : 0 ≤ x ∧ x < a.n := by
 obtain ⟨i,hi,rfl⟩ := List.mem_iff_getElem.1 hx
 have := h.mr i _ hi (List.getElem?_eq_getElem hi)
 exact ⟨this.1,this.2.1⟩
theorem Au.Right.run_lt {a : Au} (h : a.Right) : ∀ (w : List Int) (s : Int),0 ≤ s → s < a.n → 0 ≤ runV a.ed s w → runV a.ed s w < a.n
 | [],s,_,hn,_ => hn
 | e :: r,s,hs,hn,h0 => by
   simp only [runV,hs,if_true] at h0 ⊢
   rcases h.next_cases s e with k | k
   · rw [k,runV_neg _ (by omega)] at h0; omega
   · exact h.run_lt r _ k.1 k.2.1 h0
theorem Au.Right.rn_cases {a : Au} (h : a.Right) (w : List Int) : rn a w = -1 ∨ 0 ≤ rn a w ∧ rn a w < a.n := by
 unfold rn Au.st
 by_cases e : a.n = 0
 · rw [if_pos e,runV_neg _ (by omega)]; exact .inl rfl
 · rw [if_neg e]
   rcases h.run_cases w 0 (by omega) with k | k
   · exact .inl k
   · exact .inr ⟨k,h.run_lt w 0 (by omega) (by have := h.n0; omega) k⟩
theorem rn_pre {a : Au} {u v : List Int} (h : 0 ≤ rn a (u ++ v)) : 0 ≤ rn a u := by
 rcases Int.lt_or_le (rn a u) 0 with k | k
 · rw [rn_app,runV_neg _ k] at h; omega
 · exact k

structure IsMin (a : Au) (L : List Int → Prop) : Prop where
 rt : a.Right
 ws : ∃ ws : List (List Int),ws.length = a.n.toNat ∧ Asc ws ∧ ∀ (i : Nat) (w : List Int),ws[i]? = some w → LeastW (fun v => rn a v = (i : Int)) w
 co : ∀ i : Int,0 ≤ i → i < a.n → ∃ w,runV a.ed i w ∈ a.mr
 ds : ∀ i j : Int,0 ≤ i → i < a.n → 0 ≤ j → j < a.n → (∀ w,runV a.ed i w ∈ a.mr ↔ runV a.ed j w ∈ a.mr) → i = j
 lang : ∀ w,rn a w ∈ a.mr ↔ L w

theorem IsMin.congr {a : Au} {L M : List Int → Prop} (h : IsMin a L) (k : ∀ w,L w ↔ M w) : IsMin a M := ⟨h.rt,h.ws,h.co,h.ds,fun w => (h.lang w).trans (k w)⟩
def Liv (L : List Int → Prop) (w : List Int) : Prop := ∃ v,L (w ++ v)
def Alik (L : List Int → Prop) (u v : List Int) : Prop := ∀ x,L (u ++ x) ↔ L (v ++ x)
def Fst (L : List Int → Prop) (w : List Int) : Prop := Liv L w ∧ ∀ v,Liv L v → Alik L v w → sle w v

section
variable {a b : Au} {L : List Int → Prop}
theorem IsMin.liv (h : IsMin a L) (w : List Int) : 0 ≤ rn a w ↔ Liv L w := by
 constructor
 · intro h0
   rcases h.rt.rn_cases w with k | k
   · omega
   · obtain ⟨v,hv⟩ := h.co _ k.1 k.2
     exact ⟨v,(h.lang _).1 (by rw [rn_app]; exact hv)⟩
 · rintro ⟨v,hv⟩
   have := h.rt.mem ((h.lang _).2 hv)
   exact rn_pre this.1
theorem IsMin.alik (h : IsMin a L) {u v : List Int} (hu : 0 ≤ rn a u) (hv : 0 ≤ rn a v) : rn a u = rn a v ↔ Alik L u v := by
 constructor
 · intro e x
   rw [← h.lang,← h.lang,rn_app,rn_app,e]
 · intro e
   rcases h.rt.rn_cases u with k | k
   · omega
   rcases h.rt.rn_cases v with k' | k'
   · omega
   refine h.ds _ _ k.1 k.2 k'.1 k'.2 fun w => ?_
   rw [← rn_app,← rn_app,h.lang,h.lang]
   exact e w
theorem IsMin.fst (h : IsMin a L) {ws : List (List Int)} (hl : ws.length = a.n.toNat) (hw : ∀ (i : Nat) (w : List Int),ws[i]? = some w → LeastW (fun v => rn a v = (i : Int)) w) (w : List Int) : w ∈ ws ↔ Fst L w := by
 constructor
 · intro hm
   obtain ⟨i,hi,rfl⟩ := List.mem_iff_getElem.1 hm
   have k := hw i _ (List.getElem?_eq_getElem hi)
   have h0 : 0 ≤ rn a ws[i] := by rw [k.is]; omega
   refine ⟨(h.liv _).1 h0,fun v hv ha => k.le v ?_⟩
   rw [← k.is]
   exact (h.alik ((h.liv v).2 hv) h0).2 ha
 · rintro ⟨hv,hle⟩
   have h0 := (h.liv w).2 hv
   rcases h.rt.rn_cases w with k | k
   · omega
   obtain ⟨i,hi⟩ := Int.eq_ofNat_of_zero_le k.1
   have hil : i < ws.length := by omega
   have g := hw i _ (List.getElem?_eq_getElem hil)
   have h1 : 0 ≤ rn a ws[i] := by rw [g.is]; omega
   have e1 : sle w ws[i] := hle _ ((h.liv _).1 h1) ((h.alik h1 h0).1 (by rw [g.is,hi]))
   have e2 : sle ws[i] w := g.le w hi
   rw [e1.antisymm e2]
   exact List.getElem_mem _
theorem incr.rises {l : List Int} (h : incr l) : Rises (fun x y : Int => x < y) l := h
def edLt (x y : Ed) : Prop := x.src < y.src ∨ x.src = y.src ∧ x.ev < y.ev
theorem Au.Right.rises (h : a.Right) : Rises edLt a.ed := fun i j x y hij hx hy => h.lex i j x y hij hx hy

theorem IsMin.uniq (h : IsMin a L) (k : IsMin b L) (hal : a.al = b.al) : a = b := by
 obtain ⟨wa,la,asa,ha⟩ := h.ws
 obtain ⟨wb,lb,asb,hb⟩ := k.ws
 obtain rfl : wa = wb := Rises.ext slt.irrefl (fun _ _ h => slt.asymm h) asa asb fun w => (h.fst la ha w).trans (k.fst lb hb w).symm
 have hn : a.n = b.n := by have := h.rt.n0; have := k.rt.n0; omega
 have hrn : ∀ w,rn a w = rn b w := by
  intro w
  rcases h.rt.rn_cases w with g | g
  · rcases k.rt.rn_cases w with g' | g'
    · rw [g,g']
    · have := (h.liv w).2 ((k.liv w).1 g'.1); omega
  · obtain ⟨i,hi⟩ := Int.eq_ofNat_of_zero_le g.1
    have hil : i < wa.length := by omega
    have e1 := ha i _ (List.getElem?_eq_getElem hil)
    have e2 := hb i _ (List.getElem?_eq_getElem hil)
    have h1 : 0 ≤ rn a wa[i] := by rw [e1.is]; omega
    have h2 : 0 ≤ rn b wa[i] := by rw [e2.is]; omega
    have h3 := (k.liv w).2 ((h.liv w).1 g.1)
    have := (k.alik h3 h2).2 ((h.alik g.1 h1).1 (by rw [hi,e1.is]))
    rw [hi,this,e2.is]
 have hget : ∀ s : Int,0 ≤ s → s < a.n → ∃ w,rn a w = s ∧ rn b w = s := by
  intro s h0 h1
  obtain ⟨i,rfl⟩ := Int.eq_ofNat_of_zero_le h0
  have hil : i < wa.length := by omega
  exact ⟨_,(ha i _ (List.getElem?_eq_getElem hil)).is,(hb i _ (List.getElem?_eq_getElem hil)).is⟩
 have hmr : a.mr = b.mr := by
  refine Rises.ext (R := fun x y : Int => x < y) (fun x => by omega) (fun x y => by omega) h.rt.mr.incr k.rt.mr.incr fun x => ⟨fun hx => ?_,fun hx => ?_⟩
  · obtain ⟨w,e1,e2⟩ := hget x (h.rt.mem hx).1 (h.rt.mem hx).2
    rw [← e2]
    exact (k.lang w).2 ((h.lang w).1 (by rw [e1]; exact hx))
  · obtain ⟨w,e1,e2⟩ := hget x (k.rt.mem hx).1 (by rw [hn]; exact (k.rt.mem hx).2)
    rw [← e1]
    exact (h.lang w).2 ((k.lang w).1 (by rw [e2]; exact hx))
 have hnx : ∀ s e : Int,0 ≤ s → s < a.n → nextV a.ed s e = nextV b.ed s e := by
  intro s e h0 h1
  obtain ⟨w,e1,e2⟩ := hget s h0 h1
  have := hrn (w ++ [e])
  rw [rn_snoc a w e (by omega),rn_snoc b w e (by omega),e1,e2] at this
  exact this
 have edg : ∀ {c : Au},c.Right → ∀ {x : Ed},x ∈ c.ed → nextV c.ed x.src x.ev = x.dst ∧ 0 ≤ x.src ∧ x.src < c.n ∧ 0 ≤ x.dst := by
  intro c hc x hx
  obtain ⟨j,hj,hjx⟩ := List.mem_iff_getElem.1 hx
  have := hc.ed j hj x (by rw [List.getElem?_eq_getElem hj,hjx])
  refine ⟨?_,this.1,this.2.1,this.2.2.1⟩
  unfold nextV
  cases hf : c.ed.find? (fun y => decide (y.src = x.src) && decide (y.ev = x.ev)) with
  | none =>
    rw [List.find?_eq_none] at hf
    have := hf x hx
    simp at this
  | some y =>
    have h1 := List.mem_of_find?_eq_some hf
    have h2 := List.find?_some hf
    simp only [Bool.and_eq_true,decide_eq_true_eq] at h2
    rw [hc.uniq h1 hx h2.1 h2.2]
    rfl
 have back : ∀ {c d : Au},c.Right → d.Right → (∀ s e : Int,0 ≤ s → s < c.n → nextV c.ed s e = nextV d.ed s e) → ∀ x,x ∈ c.ed → x ∈ d.ed := by
  intro c d hc hd he x hx
  obtain ⟨h1,h2,h3,h4⟩ := edg hc hx
  rw [he _ _ h2 h3] at h1
  rcases hd.next_cases x.src x.ev with g | ⟨_,_,y,hy,y1,y2,y3⟩
  · omega
  · obtain rfl : y = x := by
     obtain ⟨p,q,r⟩ := x
     obtain ⟨p',q',r'⟩ := y
     simp only at y1 y2 y3 h1
     rw [y1,y2,y3,h1]
    exact hy
 have hed : a.ed = b.ed := by
  refine Rises.ext (R := edLt) (fun x h => by unfold edLt at h; omega) (fun x y h h' => by unfold edLt at h h'; omega) h.rt.rises k.rt.rises fun x => ⟨back h.rt k.rt hnx x,back k.rt h.rt (fun s e h0 h1 => (hnx s e h0 (by rw [hn]; exact h1)).symm) x⟩
 obtain ⟨al,n,mr,ed⟩ := a
 obtain ⟨al',n',mr',ed'⟩ := b
 simp only at hal hn hmr hed
 rw [hal,hn,hmr,hed]
end
end
end Go.Proofs.YtkifgffhoenaoaaDoor
