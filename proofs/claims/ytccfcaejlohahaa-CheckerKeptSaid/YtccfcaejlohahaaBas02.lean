/-
  Words for memory: a map of the call's own as a function: keys of any kind, values of any kind.
  Plain: words in order: shorter ones first, then by their events.
  Plain: the minimal automaton of a language is one alone.
  The machine of an automaton: open, step, in.
  A list of the call's own whose head may have been cut off: a queue.
  open: the machine of an automaton.
  automaton.Check.
  check: right automata and a kind that is one.
  slices.Reverse of numbers.
  Plain: states that are numbered as their edges find them have least words that rise.
  Plain: a search breadth first finds the least words.
-/
import Derived.Test.YtccfcaejlohahaaProg
import Derived.Test.YtccfcaejlohahaaBas01
import Derived.Maps.Own
import Derived.Maps.OwnOps
import Derived.StillTailTactics
import Derived.BigRegion
import Derived.Deep.DeepCutAuto
import Derived.Deep.CutBlock
import Derived.Laws.OwnMore
import Derived.RegionTactic
set_option linter.unusedSimpArgs false
set_option linter.unusedVariables false
namespace Go.Proofs.Ytccfcaejlohahaa
open Go.RowKit
set_option maxRecDepth 100000
section

variable {κ β : Type} [DecidableEq κ]

structure KeyG (P : Program) (T : TypeId) (D : TypeDesc) (key : κ → Value) : Prop where
 und : P.underlying T = some D
 eq : ∀ x y w,(Op.equal T (key x) (key y)).run P w = .ok (decide (x = y)) w
 chk : ∀ em x w,(Instr.checkKey em 10000 T (key x)).run P w = .ok () w
 stay : ∀ x w,(Instr.keyThatStays (key x) (key x)).run P w = .ok (key x) w
 now : (∀ x y,Instr.sameNow D (key x) (key y) = none) ∨ ∀ x y,Instr.sameNow D (key x) (key y) = some (decide (x = y))
 inj : ∀ x y,key x = key y → x = y

def entryG (key : κ → Value) (ve : β → Value) (x : κ × β × Nat) : MapEntry := ⟨key x.1,ve x.2.1,x.2.2⟩
def valG (l : List (κ × β × Nat)) (x : κ) : Option β := (l.find? fun e => decide (e.1 = x)).map (·.2.1)

def MapG (key : κ → Value) (ve : β → Value) (w : World) (b : Nat) (f : κ → Option β) : Prop :=
 ∃ (l : List (κ × β × Nat)) (clock : Nat),w.heap[b]? = some (.map (l.map (entryG key ve)).toArray clock) ∧ ∀ x,f x = valG l x

theorem MapG.made (key : κ → Value) (ve : β → Value) (w : World) : MapG key ve (w.alloc (.map #[] 0)) w.heap.size (fun _ => none) :=
 ⟨[],0,(MapKept.heap_alloc w _).1,fun _ => rfl⟩
theorem MapG.congr {key : κ → Value} {ve : β → Value} {w : World} {b : Nat} {f g : κ → Option β} (h : MapG key ve w b f) (hg : ∀ x,g x = f x) : MapG key ve w b g := by
 obtain ⟨l,c,h1,h2⟩ := h
 exact ⟨l,c,h1,fun x => (hg x).trans (h2 x)⟩
theorem MapG.lt {key : κ → Value} {ve : β → Value} {w : World} {b : Nat} {f : κ → Option β} (h : MapG key ve w b f) : b < w.heap.size := by
 obtain ⟨l,c,hb,_⟩ := h
 exact (Array.getElem?_eq_some_iff.1 hb).1
theorem MapG.below {key : κ → Value} {ve : β → Value} {w w' : World} {b B : Nat} {f : κ → Option β} (h : MapG key ve w b f) (hb : Below B w w') (hlt : b < B) : MapG key ve w' b f := by
 obtain ⟨l,c,h1,h2⟩ := h
 exact ⟨l,c,(hb.block b hlt).trans h1,h2⟩
theorem MapG.alloc {key : κ → Value} {ve : β → Value} {w : World} {b : Nat} {f : κ → Option β} (h : MapG key ve w b f) (o : Obj) : MapG key ve (w.alloc o) b f :=
 h.below (Below.new w o) h.lt

theorem findAskingG_run {P : Program} {T : TypeId} {D : TypeDesc} {key : κ → Value} {ve : β → Value} (K : KeyG P T D key) (x : κ) (w : World) : ∀ (l : List (κ × β × Nat)) (i : Nat),
 (Instr.findAsking T (key x) (l.map (entryG key ve)) i).run P w = .ok ((l.findIdx? (fun e => decide (e.1 = x))).bind fun j => (l[j]?).map fun e => (i + j,ve e.2.1)) w := by
 intro l
 induction l with
 | nil => intro i; simp [Instr.findAsking]
 | cons e l ih =>
   intro i
   simp only [List.map_cons,Instr.findAsking,entryG,List.findIdx?_cons]
   have hq : (Op.equal T (key x) (key e.1)).run P w = .ok (decide (e.1 = x)) w := by rw [K.eq]; congr 1; simp [eq_comm]
   by_cases h : e.1 = x
   · rw [Sem.run_bind,hq]
     simp [Result.andThen,h]
   · simp only [Sem.run_bind,hq,Result.andThen,h,decide_false]
     rw [show (if (false : Bool) = true then (pure (some (i,ve e.2.1)) : Sem _) else Instr.findAsking T (key x) (l.map (entryG key ve)) (i + 1)) = Instr.findAsking T (key x) (l.map (entryG key ve)) (i + 1) from by simp]
     rw [ih]
     cases h2 : l.findIdx? (fun e => decide (e.1 = x)) with
     | none => simp
     | some j => simp [Nat.add_assoc,Nat.add_comm 1 j]

theorem valG_none {l : List (κ × β × Nat)} {x : κ} (h : l.findIdx? (fun e => decide (e.1 = x)) = none) : valG l x = none := by
 have := List.findIdx?_eq_none_iff.1 h
 simp only [valG,Option.map_eq_none_iff]
 exact List.find?_eq_none.2 (fun e he => by simpa using this e he)
theorem valG_some {l : List (κ × β × Nat)} {x : κ} {j : Nat} (h : l.findIdx? (fun e => decide (e.1 = x)) = some j) : ∃ e,l[j]? = some e ∧ e.1 = x ∧ valG l x = some e.2.1 ∧ j < l.length := by
 obtain ⟨hj,h1,h2⟩ := List.findIdx?_eq_some_iff_getElem.1 h
 refine ⟨l[j],List.getElem?_eq_getElem hj,by simpa using h1,?_,hj⟩
 have h3 : l.find? (fun e => decide (e.1 = x)) = some l[j] := by
  rw [List.find?_eq_some_iff_getElem]
  exact ⟨h1,j,hj,rfl,fun k hk => by simpa using h2 k hk⟩
 simp [valG,h3]

theorem findNowG_run {D : TypeDesc} {key : κ → Value} {ve : β → Value} (hn : ∀ x y,Instr.sameNow D (key x) (key y) = some (decide (x = y))) (x : κ) : ∀ (l : List (κ × β × Nat)) (i : Nat),
 Instr.findNow D (key x) (l.map (entryG key ve)) i = some ((l.findIdx? (fun e => decide (e.1 = x))).bind fun j => (l[j]?).map fun e => (i + j,ve e.2.1)) := by
 intro l
 induction l with
 | nil => intro i; simp [Instr.findNow]
 | cons e l ih =>
   intro i
   simp only [List.map_cons,Instr.findNow,entryG,List.findIdx?_cons,hn]
   by_cases h : e.1 = x
   · simp [h]
   · have h' : ¬ x = e.1 := fun k => h k.symm
     simp only [h,h',decide_false]
     have := ih (i + 1)
     rw [this]
     cases h2 : l.findIdx? (fun e => decide (e.1 = x)) with
     | none => simp
     | some j => simp [Nat.add_assoc,Nat.add_comm 1 j]
theorem findKeyG_run {P : Program} {T : TypeId} {D : TypeDesc} {key : κ → Value} {ve : β → Value} (K : KeyG P T D key) (x : κ) (w : World) (l : List (κ × β × Nat)) :
 (Instr.findKey T (key x) (l.map (entryG key ve))).run P w = .ok ((l.findIdx? (fun e => decide (e.1 = x))).bind fun j => (l[j]?).map fun e => (j,ve e.2.1)) w := by
 rcases K.now with hn | hn
 · cases l with
   | nil => simp [Instr.findKey,run_underlying K.und,Instr.findNow]
   | cons e l =>
     have := findAskingG_run (ve := ve) K x w (e :: l) 0
     simp only [Nat.zero_add] at this
     have hn' : Instr.findNow D (key x) ((e :: l).map (entryG key ve)) 0 = none := by simp [Instr.findNow,entryG,hn]
     simp only [Instr.findKey,Sem.run_bind,run_underlying K.und,Result.andThen,hn']
     exact this
 · have := findNowG_run (ve := ve) hn x l 0
   simp only [Nat.zero_add] at this
   simp [Instr.findKey,Sem.run_bind,run_underlying K.und,Result.andThen,this]

theorem MapG.look {P : Program} {M T E : TypeId} {D : TypeDesc} {key : κ → Value} {ve : β → Value} (K : KeyG P T D key) (hM : P.underlying M = some (.map T E)) {z : β} (hz : ∀ w,(zeroValue E).run P w = .ok (ve z) w)
 {w : World} {b : Nat} {f : κ → Option β} (h : MapG key ve w b f) (x : κ) :
 (Instr.lookup M (.map (some b)) (key x) true).run P w = .ok (.tuple #[ve ((f x).getD z),.bool (f x).isSome]) w ∧ (Instr.lookup M (.map (some b)) (key x) false).run P w = .ok (ve ((f x).getD z)) w := by
 obtain ⟨l,c,hb,hf⟩ := h
 have hk := findKeyG_run (ve := ve) K x w l
 cases hj : l.findIdx? (fun e => decide (e.1 = x)) with
 | none =>
   rw [hj] at hk
   simp only [Option.bind_none] at hk
   constructor <;> simp [Instr.lookup,run_underlying hM,MapKept.run_getObj_map hb,K.chk,hk,hz,hf,valG_none hj,Result.andThen]
 | some j =>
   obtain ⟨e,he,h1,h2,h3⟩ := valG_some hj
   rw [hj] at hk
   simp only [Option.bind_some,he,Option.map_some] at hk
   constructor <;> simp [Instr.lookup,run_underlying hM,MapKept.run_getObj_map hb,K.chk,hk,hf,h2,Result.andThen]

theorem findG_modify {l : List (κ × β × Nat)} {x : κ} {j : Nat} {e : κ × β × Nat} (hj : l.findIdx? (fun e => decide (e.1 = x)) = some j) (he : l[j]? = some e) (v : β) (y : κ) :
 valG (l.set j (e.1,v,e.2.2)) y = if y = x then some v else valG l y := by
 induction l generalizing j with
 | nil => simp at hj
 | cons a l ih =>
   rw [List.findIdx?_cons] at hj
   by_cases ha : a.1 = x
   · simp only [ha,decide_true,if_true,Option.some.injEq] at hj
     subst hj
     simp only [List.getElem?_cons_zero,Option.some.injEq] at he
     subst he
     by_cases hy : y = x
     · subst hy; simp [valG,ha]
     · have : ¬ a.1 = y := fun h => hy (by rw [← h,ha])
       simp [valG,this,hy]
   · simp only [ha,decide_false,Bool.false_eq_true,if_false,Option.map_eq_some_iff] at hj
     obtain ⟨j',hj',rfl⟩ := hj
     have := ih hj' (by simpa using he)
     by_cases hy : a.1 = y
     · subst hy; simp [valG,ha]
     · simp only [valG,List.set_cons_succ,List.find?_cons,hy,decide_false] at this ⊢
       exact this
theorem findG_push {l : List (κ × β × Nat)} {x : κ} (hj : l.findIdx? (fun e => decide (e.1 = x)) = none) (v : β) (n : Nat) (y : κ) :
 valG (l ++ [(x,v,n)]) y = if y = x then some v else valG l y := by
 by_cases hy : y = x
 · subst hy
   have := List.findIdx?_eq_none_iff.1 hj
   have h2 : l.find? (fun e => decide (e.1 = y)) = none := List.find?_eq_none.2 (fun e he => by simpa using this e he)
   simp [valG,List.find?_append,h2]
 · have : ¬ x = y := fun h => hy h.symm
   simp [valG,List.find?_append,this,hy]

theorem MapG.store {P : Program} {M T E : TypeId} {D : TypeDesc} {key : κ → Value} {ve : β → Value} (K : KeyG P T D key) (hM : P.underlying M = some (.map T E))
 {w : World} {b : Nat} {f : κ → Option β} (h : MapG key ve w b f) (x : κ) (v : β) :
 ∃ w',(Instr.mapUpdate M (.map (some b)) (key x) (ve v)).run P w = .ok () w' ∧ MapG key ve w' b (fun y => if y = x then some v else f y) ∧ w.grownBy w' (some b) := by
 obtain ⟨l,c,hb,hf⟩ := h
 have hk := findKeyG_run (ve := ve) K x w l
 cases hj : l.findIdx? (fun e => decide (e.1 = x)) with
 | none =>
   rw [hj] at hk
   simp only [Option.bind_none] at hk
   refine ⟨ChangeMaps.setBlock w b (.map ((l ++ [(x,v,c)]).map (entryG key ve)).toArray (c + 1)),?_,⟨l ++ [(x,v,c)],c + 1,ChangeMaps.heap_setBlock_same hb _,fun y => by rw [findG_push hj]; simp only [hf]⟩,
    ⟨rfl,rfl,rfl,by simp [ChangeMaps.setBlock],fun i _ hi => ChangeMaps.heap_setBlock_other hb _ (fun e => hi (by rw [e]))⟩⟩
   simp [Instr.mapUpdate,run_underlying hM,MapKept.run_getObj_map hb,K.chk,hk,MapKept.run_setObj_map _ hb,Result.andThen,ChangeMaps.setBlock,entryG]
 | some j =>
   obtain ⟨e,he,h1,h2,h3⟩ := valG_some hj
   rw [hj] at hk
   simp only [Option.bind_some,he,Option.map_some] at hk
   refine ⟨ChangeMaps.setBlock w b (.map ((l.set j (e.1,v,e.2.2)).map (entryG key ve)).toArray c),?_,⟨l.set j (e.1,v,e.2.2),c,ChangeMaps.heap_setBlock_same hb _,fun y => by rw [findG_modify hj he]; simp only [hf]⟩,
    ⟨rfl,rfl,rfl,by simp [ChangeMaps.setBlock],fun i _ hi => ChangeMaps.heap_setBlock_other hb _ (fun e => hi (by rw [e]))⟩⟩
   have hm : (l.map (entryG key ve)).modify j (fun e' => { key := key x,val := ve v,born := e'.born }) = (l.set j (x,v,e.2.2)).map (entryG key ve) := by
    apply List.ext_getElem?
    intro i
    rw [List.getElem?_modify]
    simp only [List.getElem?_map,List.getElem?_set]
    by_cases hij : j = i
    · subst hij
      rw [he]
      simp [h3,entryG]
    · simp [hij]
   simp [Instr.mapUpdate,run_underlying hM,MapKept.run_getObj_map hb,K.chk,hk,he,entryG,h1,K.stay,MapKept.run_setObj_map _ hb,Result.andThen,ChangeMaps.setBlock]
   exact congrArg (fun q => w.heap.setIfInBounds b (Obj.map (List.toArray q) c)) (by rw [hm,List.map_set]; rfl)

theorem wpList_mapUpdate_g {P : Program} (w : World) {ops : Array Oper} {rest : List Oper} {o : Oper} {a : Act} {Q : Exit → Act → World → Prop}
 (hg : o.guard = none) (m x v : Operand) (M T E : TypeId) (hop : o.op = Op.mapUpdate M m x v) (D : TypeDesc) (key : κ → Value) (ve : β → Value) (K : KeyG P T D key) (hM : P.underlying M = some (.map T E))
 (b : Nat) (f : κ → Option β) (y : κ) (z : β) (hm : a.eval m = .map (some b)) (h : MapG key ve w b f) (hx : a.eval x = key y) (hv : a.eval v = ve z)
 (hK : ∀ w',MapG key ve w' b (fun u => if u = y then some z else f u) → w.grownBy w' (some b) → wpList P ops Q rest (a.put o.dst undef) w') :
 wpList P ops Q (o :: rest) a w := by
 refine wpList_plain hg fun K' hK' => ?_
 obtain ⟨w',hrun,r1,r2⟩ := h.store K hM y z
 unfold Oper.wp
 simp [execOp,hop,hm,hx,hv,hrun,Result.andThen]
 exact hK' _ _ (hK w' r1 r2)

theorem step_mapUpdate_g {P : Program} {w : World} {ops : Array Oper} {o : Oper} {a : Act} {K' : Act → World → Prop} {Q : Exit → Act → World → Prop} {F : Prop}
 (hg : o.guard = none) (m x v : Operand) (M T E : TypeId) (hop : o.op = Op.mapUpdate M m x v) (D : TypeDesc) (key : κ → Value) (ve : β → Value) (K : KeyG P T D key) (hM : P.underlying M = some (.map T E))
 (b : Nat) (f : κ → Option β) (y : κ) (z : β) (hm : a.eval m = .map (some b)) (h : MapG key ve w b f) (hx : a.eval x = key y) (hv : a.eval v = ve z)
 (hK : ∀ w',MapG key ve w' b (fun u => if u = y then some z else f u) → w.grownBy w' (some b) → K' (a.put o.dst undef) w') :
 if Region.wanted o (yielded ops a.tmps) = true then Oper.wp P o a w K' Q else F := by
 have hw : Region.wanted o (yielded ops a.tmps) = true := by simp [Region.wanted,hg]
 rw [if_pos hw]
 obtain ⟨w',hrun,r1,r2⟩ := h.store K hM y z
 unfold Oper.wp
 simp [execOp,hop,hm,hx,hv,hrun,Result.andThen]
 exact hK w' r1 r2
end
def wlt : List Int → List Int → Prop
 | x :: u,y :: v => x < y ∨ x = y ∧ wlt u v
 | _,_ => False
def slt (u v : List Int) : Prop := u.length < v.length ∨ u.length = v.length ∧ wlt u v
def sle (u v : List Int) : Prop := slt u v ∨ u = v

theorem wlt.irrefl : ∀ (u : List Int),¬ wlt u u
 | [] => fun h => h
 | x :: u => fun h => by
   rcases h with h | ⟨_,h⟩
   · omega
   · exact wlt.irrefl u h
theorem wlt.trans : ∀ {u v w : List Int},wlt u v → wlt v w → wlt u w
 | [],_,_,h,_ => h.elim
 | x :: u,[],_,h,_ => h.elim
 | x :: u,y :: v,[],_,h => h.elim
 | x :: u,y :: v,z :: w,h,k => by
   rcases h with h | ⟨h,h'⟩ <;> rcases k with k | ⟨k,k'⟩
   · exact .inl (by omega)
   · exact .inl (by omega)
   · exact .inl (by omega)
   · exact .inr ⟨by omega,wlt.trans h' k'⟩
theorem wlt.app : ∀ {u v : List Int} (x y : List Int),wlt u v → u.length = v.length → wlt (u ++ x) (v ++ y)
 | [],_,_,_,h,_ => h.elim
 | a :: u,[],_,_,h,_ => h.elim
 | a :: u,b :: v,x,y,h,hl => by
   rcases h with h | ⟨h,h'⟩
   · exact .inl h
   · exact .inr ⟨h,wlt.app x y h' (by simpa using hl)⟩
theorem wlt.same : ∀ (u : List Int) {x y : List Int},wlt x y → wlt (u ++ x) (u ++ y)
 | [],_,_,h => h
 | a :: u,_,_,h => .inr ⟨rfl,wlt.same u h⟩

theorem slt.irrefl (u : List Int) : ¬ slt u u := fun h => by
 rcases h with h | ⟨_,h⟩
 · omega
 · exact wlt.irrefl u h
theorem slt.trans {u v w : List Int} (h : slt u v) (k : slt v w) : slt u w := by
 rcases h with h | ⟨h,h'⟩ <;> rcases k with k | ⟨k,k'⟩
 · exact .inl (by omega)
 · exact .inl (by omega)
 · exact .inl (by omega)
 · exact .inr ⟨by omega,h'.trans k'⟩
theorem slt.asymm {u v : List Int} (h : slt u v) : ¬ slt v u := fun k => slt.irrefl u (h.trans k)
theorem sle.refl (u : List Int) : sle u u := .inr rfl
theorem sle.trans {u v w : List Int} (h : sle u v) (k : sle v w) : sle u w := by
 rcases h with h | rfl
 · rcases k with k | rfl
   · exact .inl (h.trans k)
   · exact .inl h
 · exact k
theorem slt.trans_le {u v w : List Int} (h : slt u v) (k : sle v w) : slt u w := by
 rcases k with k | rfl
 · exact h.trans k
 · exact h
theorem sle.not_lt {u v : List Int} (h : sle u v) : ¬ slt v u := fun k => slt.irrefl v (k.trans_le h)
theorem sle.antisymm {u v : List Int} (h : sle u v) (k : sle v u) : u = v := by
 rcases h with h | h
 · exact absurd h k.not_lt
 · exact h
theorem sle_nil (u : List Int) : sle [] u := by
 cases u with
 | nil => exact .inr rfl
 | cons x u => exact .inl (.inl (by simp))
theorem slt.snoc {u v : List Int} (h : slt u v) (x y : Int) : slt (u ++ [x]) (v ++ [y]) := by
 rcases h with h | ⟨h,h'⟩
 · exact .inl (by simp; omega)
 · exact .inr ⟨by simp [h],h'.app _ _ h⟩
theorem slt_snoc_lt (u : List Int) {x y : Int} (h : x < y) : slt (u ++ [x]) (u ++ [y]) := .inr ⟨by simp,wlt.same u (.inl h)⟩
theorem slt_snoc (u : List Int) (x : Int) : slt u (u ++ [x]) := .inl (by simp)
theorem sle.snoc {u v : List Int} (h : sle u v) (x : Int) : sle (u ++ [x]) (v ++ [x]) := by
 rcases h with h | rfl
 · exact .inl (h.snoc x x)
 · exact .inr rfl
theorem sle_snoc2 {u v : List Int} (h : sle u v) {x y : Int} (hxy : u = v → x ≤ y) : sle (u ++ [x]) (v ++ [y]) := by
 rcases h with h | rfl
 · exact .inl (h.snoc x y)
 · rcases Int.lt_or_eq_of_le (hxy rfl) with k | rfl
   · exact .inl (slt_snoc_lt _ k)
   · exact .inr rfl

structure LeastW (P : List Int → Prop) (w : List Int) : Prop where
 is : P w
 le : ∀ v,P v → sle w v
theorem LeastW.uniq {P : List Int → Prop} {u v : List Int} (h : LeastW P u) (k : LeastW P v) : u = v := (h.le v k.is).antisymm (k.le u h.is)
theorem LeastW.congr {P Q : List Int → Prop} {u : List Int} (h : LeastW P u) (k : ∀ w,P w ↔ Q w) : LeastW Q u := ⟨(k u).1 h.is,fun v hv => h.le v ((k v).2 hv)⟩

def Rises {α : Type} (R : α → α → Prop) (l : List α) : Prop := ∀ (i j : Nat) (u v : α),i < j → l[i]? = some u → l[j]? = some v → R u v
theorem Rises.push {α : Type} {R : α → α → Prop} {l : List α} (h : Rises R l) {w : α} (hw : ∀ u,u ∈ l → R u w) : Rises R (l ++ [w]) := by
 intro i j u v hij hu hv
 have hj := (List.getElem?_eq_some_iff.1 hv).1
 simp at hj
 have hil : i < l.length := by omega
 rw [List.getElem?_append_left hil] at hu
 by_cases e : j < l.length
 · rw [List.getElem?_append_left e] at hv
   exact h i j u v hij hu hv
 · obtain rfl : j = l.length := by omega
   simp at hv; subst hv
   exact hw u (List.mem_of_getElem? hu)
theorem Rises.head {α : Type} {R : α → α → Prop} {x : α} {l : List α} (h : Rises R (x :: l)) : ∀ y,y ∈ l → R x y := fun y hy => by
 obtain ⟨j,hj,rfl⟩ := List.mem_iff_getElem.1 hy
 exact h 0 (j + 1) x _ (by omega) rfl (by simp [List.getElem?_eq_getElem hj])
theorem Rises.tail {α : Type} {R : α → α → Prop} {x : α} {l : List α} (h : Rises R (x :: l)) : Rises R l := fun i j u v hij hu hv => h (i + 1) (j + 1) u v (by omega) (by simpa using hu) (by simpa using hv)
theorem Rises.ext {α : Type} {R : α → α → Prop} (ir : ∀ x,¬ R x x) (asy : ∀ x y,R x y → ¬ R y x) : ∀ {l m : List α},Rises R l → Rises R m → (∀ w,w ∈ l ↔ w ∈ m) → l = m
 | [],[],_,_,_ => rfl
 | [],y :: m,_,_,h => by have := (h y).2 (by simp); simp at this
 | x :: l,[],_,_,h => by have := (h x).1 (by simp); simp at this
 | x :: l,y :: m,hl,hm,h => by
   have hxy : x = y := by
    rcases List.mem_cons.1 ((h x).1 (by simp)) with k | k
    · exact k
    · rcases List.mem_cons.1 ((h y).2 (by simp)) with k' | k'
      · exact k'.symm
      · exact absurd (hm.head x k) (asy _ _ (hl.head y k'))
   subst hxy
   congr 1
   refine Rises.ext ir asy hl.tail hm.tail fun w => ⟨fun hw => ?_,fun hw => ?_⟩
   · rcases List.mem_cons.1 ((h w).1 (by simp [hw])) with k | k
     · subst k; exact absurd (hl.head w hw) (ir w)
     · exact k
   · rcases List.mem_cons.1 ((h w).2 (by simp [hw])) with k | k
     · subst k; exact absurd (hm.head w hw) (ir w)
     · exact k
abbrev Asc := Rises slt
section

theorem runV_app (l : List Ed) : ∀ (u v : List Int) (s : Int),runV l s (u ++ v) = runV l (runV l s u) v
 | [],v,s => rfl
 | e :: u,v,s => by
   rw [List.cons_append]
   by_cases h : 0 ≤ s
   · simp only [runV,h,if_true]
     exact runV_app l u v _
   · rw [runV_neg l (by omega),runV_neg l (by omega) (e :: u),runV_neg l (by omega)]
def Au.st (a : Au) : Int := if a.n = 0 then -1 else 0
def rn (a : Au) (w : List Int) : Int := runV a.ed a.st w
theorem rn_app (a : Au) (u v : List Int) : rn a (u ++ v) = runV a.ed (rn a u) v := runV_app ..
theorem rn_nil (a : Au) : rn a [] = a.st := rfl
theorem rn_snoc (a : Au) (u : List Int) (e : Int) (h : 0 ≤ rn a u) : rn a (u ++ [e]) = nextV a.ed (rn a u) e := by
 rw [rn_app]; simp [runV,h]
theorem Au.Right.mem {a : Au} (h : a.Right) {x : Int} (hx : x ∈ a.mr) : 0 ≤ x ∧ x < a.n := by
 obtain ⟨i,hi,rfl⟩ := List.mem_iff_getElem.1 hx
 have := h.mr i _ hi (List.getElem?_eq_getElem hi)
 exact ⟨this.1,this.2.1⟩
theorem Au.Right.run_lt {a : Au} (h : a.Right) : ∀ (w : List Int) (s : Int),0 ≤ s → s < a.n → 0 ≤ runV a.ed s w → runV a.ed s w < a.n
 | [],s,_,hn,_ => hn
 | e :: r,s,hs,hn,h0 => by
   simp only [runV,hs,if_true] at h0 ⊢
   rcases h.next_cases s e with k | k
   · rw [k,runV_neg _ (by omega)] at h0; omega
   · exact h.run_lt r _ k.1 k.2.1 h0
theorem Au.Right.rn_cases {a : Au} (h : a.Right) (w : List Int) : rn a w = -1 ∨ 0 ≤ rn a w ∧ rn a w < a.n := by
 unfold rn Au.st
 by_cases e : a.n = 0
 · rw [if_pos e,runV_neg _ (by omega)]; exact .inl rfl
 · rw [if_neg e]
   rcases h.run_cases w 0 (by omega) with k | k
   · exact .inl k
   · exact .inr ⟨k,h.run_lt w 0 (by omega) (by have := h.n0; omega) k⟩
theorem rn_pre {a : Au} {u v : List Int} (h : 0 ≤ rn a (u ++ v)) : 0 ≤ rn a u := by
 rcases Int.lt_or_le (rn a u) 0 with k | k
 · rw [rn_app,runV_neg _ k] at h; omega
 · exact k

structure IsMin (a : Au) (L : List Int → Prop) : Prop where
 rt : a.Right
 ws : ∃ ws : List (List Int),ws.length = a.n.toNat ∧ Asc ws ∧ ∀ (i : Nat) (w : List Int),ws[i]? = some w → LeastW (fun v => rn a v = (i : Int)) w
 co : ∀ i : Int,0 ≤ i → i < a.n → ∃ w,runV a.ed i w ∈ a.mr
 ds : ∀ i j : Int,0 ≤ i → i < a.n → 0 ≤ j → j < a.n → (∀ w,runV a.ed i w ∈ a.mr ↔ runV a.ed j w ∈ a.mr) → i = j
 lang : ∀ w,rn a w ∈ a.mr ↔ L w

theorem IsMin.congr {a : Au} {L M : List Int → Prop} (h : IsMin a L) (k : ∀ w,L w ↔ M w) : IsMin a M := ⟨h.rt,h.ws,h.co,h.ds,fun w => (h.lang w).trans (k w)⟩
def Liv (L : List Int → Prop) (w : List Int) : Prop := ∃ v,L (w ++ v)
def Alik (L : List Int → Prop) (u v : List Int) : Prop := ∀ x,L (u ++ x) ↔ L (v ++ x)
def Fst (L : List Int → Prop) (w : List Int) : Prop := Liv L w ∧ ∀ v,Liv L v → Alik L v w → sle w v

section
variable {a b : Au} {L : List Int → Prop}
theorem IsMin.liv (h : IsMin a L) (w : List Int) : 0 ≤ rn a w ↔ Liv L w := by
 constructor
 · intro h0
   rcases h.rt.rn_cases w with k | k
   · omega
   · obtain ⟨v,hv⟩ := h.co _ k.1 k.2
     exact ⟨v,(h.lang _).1 (by rw [rn_app]; exact hv)⟩
 · rintro ⟨v,hv⟩
   have := h.rt.mem ((h.lang _).2 hv)
   exact rn_pre this.1
theorem IsMin.alik (h : IsMin a L) {u v : List Int} (hu : 0 ≤ rn a u) (hv : 0 ≤ rn a v) : rn a u = rn a v ↔ Alik L u v := by
 constructor
 · intro e x
   rw [← h.lang,← h.lang,rn_app,rn_app,e]
 · intro e
   rcases h.rt.rn_cases u with k | k
   · omega
   rcases h.rt.rn_cases v with k' | k'
   · omega
   refine h.ds _ _ k.1 k.2 k'.1 k'.2 fun w => ?_
   rw [← rn_app,← rn_app,h.lang,h.lang]
   exact e w
theorem IsMin.fst (h : IsMin a L) {ws : List (List Int)} (hl : ws.length = a.n.toNat) (hw : ∀ (i : Nat) (w : List Int),ws[i]? = some w → LeastW (fun v => rn a v = (i : Int)) w) (w : List Int) : w ∈ ws ↔ Fst L w := by
 constructor
 · intro hm
   obtain ⟨i,hi,rfl⟩ := List.mem_iff_getElem.1 hm
   have k := hw i _ (List.getElem?_eq_getElem hi)
   have h0 : 0 ≤ rn a ws[i] := by rw [k.is]; omega
   refine ⟨(h.liv _).1 h0,fun v hv ha => k.le v ?_⟩
   rw [← k.is]
   exact (h.alik ((h.liv v).2 hv) h0).2 ha
 · rintro ⟨hv,hle⟩
   have h0 := (h.liv w).2 hv
   rcases h.rt.rn_cases w with k | k
   · omega
   obtain ⟨i,hi⟩ := Int.eq_ofNat_of_zero_le k.1
   have hil : i < ws.length := by omega
   have g := hw i _ (List.getElem?_eq_getElem hil)
   have h1 : 0 ≤ rn a ws[i] := by rw [g.is]; omega
   have e1 : sle w ws[i] := hle _ ((h.liv _).1 h1) ((h.alik h1 h0).1 (by rw [g.is,hi]))
   have e2 : sle ws[i] w := g.le w hi
   rw [e1.antisymm e2]
   exact List.getElem_mem _
theorem incr.rises {l : List Int} (h : incr l) : Rises (fun x y : Int => x < y) l := h
def edLt (x y : Ed) : Prop := x.src < y.src ∨ x.src = y.src ∧ x.ev < y.ev
theorem Au.Right.rises (h : a.Right) : Rises edLt a.ed := fun i j x y hij hx hy => h.lex i j x y hij hx hy

theorem IsMin.uniq (h : IsMin a L) (k : IsMin b L) (hal : a.al = b.al) : a = b := by
 obtain ⟨wa,la,asa,ha⟩ := h.ws
 obtain ⟨wb,lb,asb,hb⟩ := k.ws
 obtain rfl : wa = wb := Rises.ext slt.irrefl (fun _ _ h => slt.asymm h) asa asb fun w => (h.fst la ha w).trans (k.fst lb hb w).symm
 have hn : a.n = b.n := by have := h.rt.n0; have := k.rt.n0; omega
 have hrn : ∀ w,rn a w = rn b w := by
  intro w
  rcases h.rt.rn_cases w with g | g
  · rcases k.rt.rn_cases w with g' | g'
    · rw [g,g']
    · have := (h.liv w).2 ((k.liv w).1 g'.1); omega
  · obtain ⟨i,hi⟩ := Int.eq_ofNat_of_zero_le g.1
    have hil : i < wa.length := by omega
    have e1 := ha i _ (List.getElem?_eq_getElem hil)
    have e2 := hb i _ (List.getElem?_eq_getElem hil)
    have h1 : 0 ≤ rn a wa[i] := by rw [e1.is]; omega
    have h2 : 0 ≤ rn b wa[i] := by rw [e2.is]; omega
    have h3 := (k.liv w).2 ((h.liv w).1 g.1)
    have := (k.alik h3 h2).2 ((h.alik g.1 h1).1 (by rw [hi,e1.is]))
    rw [hi,this,e2.is]
 have hget : ∀ s : Int,0 ≤ s → s < a.n → ∃ w,rn a w = s ∧ rn b w = s := by
  intro s h0 h1
  obtain ⟨i,rfl⟩ := Int.eq_ofNat_of_zero_le h0
  have hil : i < wa.length := by omega
  exact ⟨_,(ha i _ (List.getElem?_eq_getElem hil)).is,(hb i _ (List.getElem?_eq_getElem hil)).is⟩
 have hmr : a.mr = b.mr := by
  refine Rises.ext (R := fun x y : Int => x < y) (fun x => by omega) (fun x y => by omega) h.rt.mr.incr k.rt.mr.incr fun x => ⟨fun hx => ?_,fun hx => ?_⟩
  · obtain ⟨w,e1,e2⟩ := hget x (h.rt.mem hx).1 (h.rt.mem hx).2
    rw [← e2]
    exact (k.lang w).2 ((h.lang w).1 (by rw [e1]; exact hx))
  · obtain ⟨w,e1,e2⟩ := hget x (k.rt.mem hx).1 (by rw [hn]; exact (k.rt.mem hx).2)
    rw [← e1]
    exact (h.lang w).2 ((k.lang w).1 (by rw [e2]; exact hx))
 have hnx : ∀ s e : Int,0 ≤ s → s < a.n → nextV a.ed s e = nextV b.ed s e := by
  intro s e h0 h1
  obtain ⟨w,e1,e2⟩ := hget s h0 h1
  have := hrn (w ++ [e])
  rw [rn_snoc a w e (by omega),rn_snoc b w e (by omega),e1,e2] at this
  exact this
 have edg : ∀ {c : Au},c.Right → ∀ {x : Ed},x ∈ c.ed → nextV c.ed x.src x.ev = x.dst ∧ 0 ≤ x.src ∧ x.src < c.n ∧ 0 ≤ x.dst := by
  intro c hc x hx
  obtain ⟨j,hj,hjx⟩ := List.mem_iff_getElem.1 hx
  have := hc.ed j hj x (by rw [List.getElem?_eq_getElem hj,hjx])
  refine ⟨?_,this.1,this.2.1,this.2.2.1⟩
  unfold nextV
  cases hf : c.ed.find? (fun y => decide (y.src = x.src) && decide (y.ev = x.ev)) with
  | none =>
    rw [List.find?_eq_none] at hf
    have := hf x hx
    simp at this
  | some y =>
    have h1 := List.mem_of_find?_eq_some hf
    have h2 := List.find?_some hf
    simp only [Bool.and_eq_true,decide_eq_true_eq] at h2
    rw [hc.uniq h1 hx h2.1 h2.2]
    rfl
 have back : ∀ {c d : Au},c.Right → d.Right → (∀ s e : Int,0 ≤ s → s < c.n → nextV c.ed s e = nextV d.ed s e) → ∀ x,x ∈ c.ed → x ∈ d.ed := by
  intro c d hc hd he x hx
  obtain ⟨h1,h2,h3,h4⟩ := edg hc hx
  rw [he _ _ h2 h3] at h1
  rcases hd.next_cases x.src x.ev with g | ⟨_,_,y,hy,y1,y2,y3⟩
  · omega
  · obtain rfl : y = x := by
     obtain ⟨p,q,r⟩ := x
     obtain ⟨p',q',r'⟩ := y
     simp only at y1 y2 y3 h1
     rw [y1,y2,y3,h1]
    exact hy
 have hed : a.ed = b.ed := by
  refine Rises.ext (R := edLt) (fun x h => by unfold edLt at h; omega) (fun x y h h' => by unfold edLt at h h'; omega) h.rt.rises k.rt.rises fun x => ⟨back h.rt k.rt hnx x,back k.rt h.rt (fun s e h0 h1 => (hnx s e h0 (by rw [hn]; exact h1)).symm) x⟩
 obtain ⟨al,n,mr,ed⟩ := a
 obtain ⟨al',n',mr',ed'⟩ := b
 simp only at hal hn hmr hed
 rw [hal,hn,hmr,hed]
end
end
def keyI (x : Int) : Value := .int .i64 x
def veI (x : Int) : Value := .int .i64 x
def veB (b : Bool) : Value := .bool b
theorem int_eq (p q : Int) (n : Nat) (w : World) : (Op.equalIn (n + 1) 3 (.int .i64 p) (.int .i64 q)).run Try.prog w = .ok (p == q) w := by
 simp [Op.equalIn,run_underlying Try.underlying3]
theorem okI : KeyG Try.prog 3 (.int .i64) keyI := ⟨Try.underlying3,fun x y w => by
 simp only [Op.equal,Op.maxDepth,keyI]
 rw [int_eq]
 first | rfl | (congr 1; rw [Bool.eq_iff_iff]; simp),fun em x w => by cases em <;> kernel_rfl,fun x w => by simp [Instr.keyThatStays,keyI,Instr.sameBits],.inr fun x y => by
 simp [Instr.sameNow,keyI]
 rw [Bool.eq_iff_iff]; simp,fun x y h => by simpa [keyI] using h⟩
theorem zeroI (w : World) : (zeroValue 3).run Try.prog w = .ok (veI 0) w := by kernel_rfl
def setF (l : List Int) (x : Int) : Option Bool := if x ∈ l then some true else none
def inV (a : Au) (s kind : Int) : Bool := decide (0 ≤ s) && (decide (kind = 1) || decide (s ∈ a.mr))
section

def OwnO {α : Type} (enc : α → List Value) (k T B : Nat) (l : List α) (v : Value) (w : World) : Prop :=
 (v = .slice none 0 0 ∧ l = []) ∨ ∃ (g off cap : Nat) (cs : List Value),v = .slice (some ⟨g,off,none⟩) l.length cap ∧ B ≤ g ∧ BlkAt w g T cs ∧ l.length ≤ cap ∧ cap ≤ maxLen ∧ off + cap * k ≤ cs.length ∧ ∀ j u,(l.flatMap enc)[j]? = some u → cs[off + j]? = some u

section
variable {α : Type} {enc : α → List Value} {k T B : Nat} {l : List α} {v : Value} {w w' : World}
theorem OwnO.nil (w : World) : OwnO enc k T B [] (.slice none 0 0) w := .inl ⟨rfl,rfl⟩
theorem OwnO.form (h : OwnO enc k T B l v w) : ∃ A c,v = .slice A l.length c := by
 rcases h with ⟨rfl,rfl⟩ | ⟨g,off,cap,cs,rfl,_⟩
 · exact ⟨none,0,rfl⟩
 · exact ⟨_,_,rfl⟩
theorem OwnO.lt (h : OwnO enc k T B l v w) : ∀ j,v.ownBlock = some j → B ≤ j ∧ j < w.heap.size := by
 intro j hj
 rcases h with ⟨rfl,rfl⟩ | ⟨g,off,cap,cs,rfl,hB,hb,_⟩
 · simp [Value.ownBlock] at hj
 · simp only [Value.ownBlock,Option.some.injEq] at hj
   subst hj
   exact ⟨hB,hb.lt⟩
theorem OwnO.turn (h : OwnO enc k T B l v w) (hw : ∀ j,v.ownBlock = some j → j < w.heap.size → w'.heap[j]? = w.heap[j]?) : OwnO enc k T B l v w' := by
 rcases h with h | ⟨g,off,cap,cs,rfl,hB,hb,r⟩
 · exact .inl h
 · exact .inr ⟨g,off,cap,cs,rfl,hB,(hw g rfl hb.lt).trans hb,r⟩
theorem OwnO.alloc (h : OwnO enc k T B l v w) (o : Obj) : OwnO enc k T B l v (w.alloc o) := h.turn fun j _ hj => (Below.new w o).block j hj
theorem OwnO.drew (h : OwnO enc k T B l v w) : OwnO enc k T B l v w.drew := h
theorem OwnO.below {B' : Nat} (h : OwnO enc k T B l v w) (hb : Below B' w w') (hB : w.heap.size ≤ B') : OwnO enc k T B l v w' := h.turn fun j _ hj => hb.block j (by omega)
theorem OwnO.kept {row : Option Nat} (h : OwnO enc k T B l v w) (hg : w.grownBy w' row) (hne : v.ownBlock = none ∨ v.ownBlock ≠ row) : OwnO enc k T B l v w' := h.turn fun j hj hl => hg.block j hl (by
 rcases hne with e | e
 · rw [e] at hj; cases hj
 · rw [← hj]; exact e)
theorem OwnO.far (h : OwnO enc k T B l v w) {b i : Nat} (hb : v.ownBlock ≠ some b) (u : Value) : OwnO enc k T B l v (w.setCell ⟨b,i,none⟩ u) := h.turn fun j hj _ => heap_setCell_other w ⟨b,i,none⟩ j u (fun e => hb (by rw [hj,e]))
theorem OwnO.base {B' : Nat} (h : OwnO enc k T B l v w) (hB : B' ≤ B) : OwnO enc k T B' l v w := by
 rcases h with h | ⟨g,off,cap,cs,r1,r2,r3⟩
 · exact .inl h
 · exact .inr ⟨g,off,cap,cs,r1,Nat.le_trans hB r2,r3⟩
theorem OwnO.of (h : Own enc k T B l v w) : OwnO enc k T B l v w := by
 rcases h.2 with ⟨h1,h2⟩ | ⟨g,cap,cur,r1,r2,r3,r4,r5,r6,r7⟩
 · exact .inl ⟨h1,List.length_eq_zero_iff.1 h2⟩
 · refine .inr ⟨g,0,cap,cur.toList,r1,r2,by simpa [BlkAt] using r3,r4,r5,by simp [r6],fun j u hj => ?_⟩
   rw [← r7] at hj
   rw [Nat.zero_add]
   have hlt := (List.getElem?_eq_some_iff.1 hj).1
   rw [List.getElem?_take] at hj
   split at hj
   · exact hj
   · cases hj
theorem OwnO.reads {A : Option Addr} {c : Nat} (hk : ∀ x,(enc x).length = k) (h : OwnO enc k T B l (.slice A l.length c) w) : SlAt (fun _ x vs => vs = enc x) k w A l := by
 intro hne
 rcases h with ⟨h1,h2⟩ | ⟨g,off,cap,cs,e,hB,hb,hn,hm,hs,hc⟩
 · exact absurd h2 hne
 · cases e
   refine ⟨g,off,rfl,hb.lt,fun i x hx => ⟨enc x,hk x,rfl,fun j u hj => ?_⟩⟩
   have hj' : j < k := by have := (List.getElem?_eq_some_iff.1 hj).1; rw [hk] at this; exact this
   rw [hb.cell,Nat.add_assoc]
   exact hc _ u (by rw [flat_get hk l i j x hx hj']; exact hj)
theorem OwnO.tail {x : α} {g off n cap : Nat} (hk : ∀ x,(enc x).length = k) (h : OwnO enc k T B (x :: l) (.slice (some ⟨g,off,none⟩) n cap) w) : ∃ A,(if cap = 1 then some (⟨g,off,none⟩ : Addr) else some ⟨g,off + k,none⟩) = some A ∧ OwnO enc k T B l (.slice (some A) l.length (cap - 1)) w := by
 rcases h with ⟨h1,h2⟩ | ⟨g',off',cap',cs,e,hB,hb,hn,hm,hs,hc⟩
 · cases h2
 · cases e
   simp only [List.length_cons] at hn
   by_cases h1 : cap = 1
   · subst h1
     obtain rfl : l = [] := List.length_eq_zero_iff.1 (by omega)
     exact ⟨_,by simp,.inr ⟨g,off,0,cs,rfl,hB,hb,by simp,by omega,by omega,fun j u hj => by simp at hj⟩⟩
   · have hmul : (cap - 1) * k + k = cap * k := by rw [← Nat.succ_mul]; congr 1; omega
     refine ⟨_,by simp [h1],.inr ⟨g,off + k,cap - 1,cs,rfl,hB,hb,by omega,by omega,by omega,fun j u hj => ?_⟩⟩
     rw [show off + k + j = off + (k + j) by omega]
     refine hc (k + j) u ?_
     rw [List.flatMap_cons,List.getElem?_append_right (by rw [hk]; omega),hk,Nat.add_sub_cancel_left]
     exact hj

end
end
section

section
variable {W w w' : World} {B b m1 m2 : Nat} {st : Int} {ed : List Ed} {mr : List Int}
end
theorem MapG.far {κ β : Type} [DecidableEq κ] {key : κ → Value} {ve : β → Value} {w w' : World} {b b' : Nat} {f : κ → Option β} (h : MapG key ve w b f) (hg : w.grownBy w' (some b')) (hne : b ≠ b') : MapG key ve w' b f := by
 have hlt := h.lt
 obtain ⟨l,c,h1,h2⟩ := h
 exact ⟨l,c,(hg.block b hlt (fun e => hne (Option.some.inj e))).trans h1,h2⟩
end
def Errs (Q : Prop) (w : World) (e : Ending) (w' : World) : Prop := ∃ r : Int,e = .returned (.int .i64 r) ∧ (r = 0 ↔ Q) ∧ w = w'
theorem Errs.no {Q : Prop} {w w' : World} {r : Int} (h : ¬ Q) (hr : r ≠ 0) (hw : w = w') : Errs Q w (.returned (.int .i64 r)) w' := ⟨r,rfl,by simp [h,hr],hw⟩
theorem Errs.yes {Q : Prop} {w w' : World} (h : Q) (hw : w = w') : Errs Q w (.returned (.int .i64 0)) w' := ⟨0,rfl,by simp [h],hw⟩
def ErrsB (Q : Prop) (w : World) (e : Ending) (w' : World) : Prop := ∃ r : Int,e = .returned (.int .i64 r) ∧ (r = 0 ↔ Q) ∧ Below w.heap.size w w'
theorem ErrsB.no {Q : Prop} {w w' : World} {r : Int} (h : ¬ Q) (hr : r ≠ 0) (hw : Below w.heap.size w w') : ErrsB Q w (.returned (.int .i64 r)) w' := ⟨r,rfl,by simp [h,hr],hw⟩
theorem ErrsB.yes {Q : Prop} {w w' : World} (h : Q) (hw : Below w.heap.size w w') : ErrsB Q w (.returned (.int .i64 0)) w' := ⟨0,rfl,by simp [h],hw⟩
theorem Errs.two {Q : Prop} {w w' : World} {e : Ending} (h : Errs Q w e w') : (∃ r : Int,e = .returned (.int .i64 r) ∧ (r == 0) = false ∧ Hid (r ≠ 0) ∧ Hid (¬ Q) ∧ w = w') ∨ (e = .returned (.int .i64 0) ∧ Hid Q ∧ w = w') := by
 obtain ⟨r,rfl,hr,rfl⟩ := h
 by_cases h0 : r = 0
 · subst h0; exact .inr ⟨rfl,hr.1 rfl,rfl⟩
 · exact .inl ⟨r,rfl,by simpa using h0,h0,fun h => h0 (hr.2 h),rfl⟩
theorem ErrsB.two {Q : Prop} {w w' : World} {e : Ending} (h : ErrsB Q w e w') : (∃ r : Int,e = .returned (.int .i64 r) ∧ (r == 0) = false ∧ Hid (r ≠ 0) ∧ Hid (¬ Q) ∧ Below w.heap.size w w') ∨ (e = .returned (.int .i64 0) ∧ Hid Q ∧ Below w.heap.size w w') := by
 obtain ⟨r,rfl,hr,hb⟩ := h
 by_cases h0 : r = 0
 · subst h0; exact .inr ⟨rfl,hr.1 rfl,hb⟩
 · exact .inl ⟨r,rfl,by simpa using h0,h0,fun h => h0 (hr.2 h),hb⟩
set_option maxHeartbeats 400000 in
theorem checkSet_c (A : Option Addr) (c : Nat) (l : List Int) (n : Int) (w : World) (h : IntsAt w A l) (hl : l.length ≤ maxLen) :
 Calls Try.prog 70 #[.slice A l.length c,.int .i64 n] w (Errs (setOk l n l.length) w) := by
 unfold maxLen at hl
 go_enter Try.func70,Try.ntmps70
 go_wp2
 go_loop [5,6,9] (fun a b i => ∃ k : Nat,k ≤ l.length ∧ i = .int .i64 k ∧ Hid (setOk l n k)) (fun _ _ i => l.length - (intOf i).toNat)
 case atStart => exact ⟨0,by omega,rfl,fun i x h => absurd h (by omega)⟩
 case round =>
  obtain ⟨k,hk,rfl,hrel⟩ := hrel
  by_cases hlt : k < l.length
  · obtain ⟨b,off,x,rfl,_,hx,hcx⟩ := IntsAt.at h hlt
    by_cases hk0 : k = 0
    · subst hk0
      rw [Nat.add_zero] at hcx
      go_wp2
      any_goals (go_ret; exact Errs.no (setOk.not1 hx hlt (by omega)) (by decide) rfl)
      go_round
      case rel => exact ⟨1,by omega,by go_num,hrel.out.step hx (by omega) (by omega) (fun y h => absurd h (by omega))⟩
      case measure => simp [intOf]; omega
    · obtain ⟨y,hy,hcy⟩ := IntsAt.more h (k := k - 1) (by omega)
      go_wp2
      any_goals (go_ret; first | exact Errs.no (setOk.not1 hx hlt (by omega)) (by decide) rfl | exact Errs.no (setOk.not2 hx hlt (by omega) hy (by omega)) (by decide) rfl)
      go_round
      case rel => exact ⟨k+1,by omega,by go_num,hrel.out.step hx (by omega) (by omega) (fun z h hz => by rw [hy] at hz; cases hz; omega)⟩
      case measure => simp [intOf]; omega
  · obtain rfl : k = l.length := by omega
    go_wp2
    go_ret
    exact Errs.yes hrel.out rfl
def PlaceOf (Q : Prop) (w : World) (e : Ending) (w' : World) : Prop := ∃ r : Int,e = .returned (.int .i64 r) ∧ (0 ≤ r ↔ Q) ∧ w = w'
theorem notMem {l : List Int} {x : Int} (h : ∀ j y,j < l.length → l[j]? = some y → y ≠ x) : ¬ x ∈ l := notIn_all h
theorem indexV_c (A : Option Addr) (c : Nat) (l : List Int) (x : Int) (w : World) (h : IntsAt w A l) (hl : l.length ≤ 140737488355328) :
 Calls Try.prog 67 #[.slice A l.length c,.int .i64 x] w (PlaceOf (x ∈ l) w) := by
 go_enter Try.func67,Try.ntmps67
 go_wp2
 go_loop [5,8] (fun _ i => ∃ k : Nat,k ≤ l.length ∧ i = .int .i64 k ∧ Hid (∀ j y,j < k → l[j]? = some y → y ≠ x)) (fun _ i => l.length - (intOf i).toNat)
 case atStart => exact ⟨0,by omega,rfl,fun i x h => absurd h (by omega)⟩
 case round =>
  obtain ⟨k,hk,rfl,H⟩ := hrel
  by_cases hlt : k < l.length
  · obtain ⟨b,off,y,rfl,_,hy,hcy⟩ := IntsAt.at h hlt
    have HY := Lib.hid hy
    clear hy
    by_cases hyx : x = y
    · have hyx' : (x == y) = true := by simpa using hyx
      have HM := Lib.hid (List.mem_of_getElem? HY.out)
      have HYX := Lib.hid hyx
      clear hyx
      go_wp2
      go_ret
      exact ⟨_,rfl,by simp; rw [HYX.out]; exact HM.out,rfl⟩
    · have hyx' : (x == y) = false := by simpa using hyx
      have HYX := Lib.hid hyx
      clear hyx
      go_wp2
      go_round
      case rel => exact ⟨k + 1,by omega,by go_num,fun j z hj hz => by
       by_cases e : j = k
       · subst e; rw [HY.out] at hz; cases hz; exact fun h => HYX.out h.symm
       · exact H.out j z (by omega) hz⟩
      case measure => simp [intOf]; omega
  · obtain rfl : k = l.length := by omega
    have HN := Lib.hid (notMem H.out)
    go_wp2
    go_ret
    exact ⟨_,rfl,by simp; exact HN.out,rfl⟩
theorem containsV_c (A : Option Addr) (c : Nat) (l : List Int) (x : Int) (w : World) (h : IntsAt w A l) (hl : l.length ≤ 140737488355328) :
 Calls Try.prog 31 #[.slice A l.length c,.int .i64 x] w (Says (x ∈ l) w) := by
 have HC := Lib.hid (indexV_c A c l x w h hl)
 clear h
 go_enter Try.func31,Try.ntmps31
 go_wp2_with fail
 refine HC.out.mono ?_
 rintro e w' ⟨r,rfl,hr,rfl⟩
 have HR := Lib.hid hr
 clear hr
 go_wp2
 go_ret
 exact ⟨_,rfl,by rw [← HR.out]; simp,rfl⟩
theorem edOk.no {a : Au} {i : Nat} {x : Ed} (hx : a.ed[i]? = some x) (hi : i < a.ed.length) (h : edOk a i → False) : ¬ ∀ j,j < a.ed.length → edOk a j := fun g => h (g i hi)
set_option maxHeartbeats 1000000 in
theorem checkEdges_c (a : Au) (p : AuP) (w : World) (h : Au.At w a p) :
 Calls Try.prog 71 #[a.val p] w (ErrsB (∀ i,i < a.ed.length → edOk a i) w) := by
 have B0 : Hid (Below w.heap.size w (w.alloc (.cells (auCells a p).toArray 39))) := Below.new _ _
 have W0 : Hid (Fro (w.heap.size + 1) (w.alloc (.cells (auCells a p).toArray 39)) (w.alloc (.cells (auCells a p).toArray 39))) := Fro.refl (by simp)
 have C0 : Hid (HasAt w.heap.size (auCells a p) (w.alloc (.cells (auCells a p).toArray 39))) := HasAt.new w _ _ rfl
 have HP := Lib.hid h
 have lal := h.lal
 have led := h.led
 clear h
 obtain ⟨al,n,mr,ed⟩ := a
 obtain ⟨A1,c1,A2,c2,A3,c3⟩ := p
 dsimp only [Au.val,auCells] at *
 have q3 := C0.out.c 3 _ rfl
 go_enter Try.func71,Try.ntmps71
 go_wp2_with fail
 generalize hW : w.alloc (.cells #[.slice A1 al.length c1,.int .i64 n,.slice A2 mr.length c2,.slice A3 ed.length c3] 39) = W at *
 clear hW q3
 go_loopw [3,9] (fun _ i wr => ∃ k : Nat,k ≤ ed.length ∧ i = .int .i64 k ∧ Hid (Fro (w.heap.size + 1) W wr) ∧ Hid (∀ i,i < k → edOk ⟨al,n,mr,ed⟩ i)) (fun _ i _ => ed.length - (intOf i).toNat)
 case atStart => exact ⟨0,by omega,rfl,W0.out,fun i h => absurd h (by omega)⟩
 case round =>
  obtain ⟨k,hk,rfl,BW,HE⟩ := hrel
  have C2 := Lib.hid (C0.out.fro BW.out (Nat.lt_succ_self _))
  have q0 := C2.out.c 0 _ rfl
  have q1 := C2.out.c 1 _ rfl
  have q3 := C2.out.c 3 _ rfl
  have hz := C2.out.z
  have BWW : Hid (Below w.heap.size w wr) := B0.out.trans (BW.out.b.mono (by omega))
  by_cases hlt : k < ed.length
  · obtain ⟨b,off,x,hA3,hb,hx,e0,e1,e2⟩ := EdsAt.at ((HP.out.below BWW.out).ed) hlt
    obtain ⟨src,ev,dst⟩ := x
    dsimp only at hA3 e0 e1 e2
    subst hA3
    have HX := Lib.hid hx
    clear hx
    by_cases hs : 0 ≤ src ∧ src < n ∧ 0 ≤ dst ∧ dst < n
    · obtain ⟨s0,s1,d0,d1⟩ := hs
      have BN : Hid (Fro (w.heap.size + 1) W (wr.alloc (.cells #[.int .i64 src,.int .i64 ev,.int .i64 dst] 68))) := BW.out.alloc _
      have BNN : Hid (Below w.heap.size w (wr.alloc (.cells #[.int .i64 src,.int .i64 ev,.int .i64 dst] 68))) := B0.out.trans (BN.out.b.mono (by omega))
      go_wp2_with fail
      refine (containsV_c A1 c1 al ev _ ((HP.out.below BNN.out).al) lal).mono ?_
      intro e w1 hs; rcases hs.no1 with ⟨rfl,SE,rfl⟩ | ⟨rfl,SE,rfl⟩
      · clear hs
        go_wp2
        go_ret
        exact ErrsB.no (fun h => SE.out (h k hlt _ HX.out).2.2.2.2.1) (by decide) BNN.out
      clear hs
      by_cases hk0 : k = 0
      · subst hk0
        go_wp2
        go_roundw
        case rel => exact ⟨1,by omega,by go_num,BN.out,fun i hi => by
         obtain rfl : i = 0 := by omega
         intro z hz
         rw [HX.out] at hz; cases hz
         exact ⟨s0,s1,d0,d1,SE.out,fun y h => absurd h (by omega)⟩⟩
        case measure => simp [intOf]; omega
      · obtain ⟨y,hy,f0,f1,f2⟩ := EdsAt.more ((HP.out.below BWW.out).ed) (k := k - 1) (by simp only; omega)
        obtain ⟨ysrc,yev,ydst⟩ := y
        dsimp only at f0 f1 f2
        have HY := Lib.hid hy
        clear hy
        have hk1 : 0 < k := by omega
        have hk2 : ((k : Int) == 0) = false := by simpa using hk0
        have BN2 : Hid (Fro (w.heap.size + 1) W ((wr.alloc (.cells #[.int .i64 src,.int .i64 ev,.int .i64 dst] 68)).alloc (.cells #[.int .i64 ysrc,.int .i64 yev,.int .i64 ydst] 68))) := BN.out.alloc _
        have BN2N : Hid (Below w.heap.size w ((wr.alloc (.cells #[.int .i64 src,.int .i64 ev,.int .i64 dst] 68)).alloc (.cells #[.int .i64 ysrc,.int .i64 yev,.int .i64 ydst] 68))) := B0.out.trans (BN2.out.b.mono (by omega))
        by_cases hord : ysrc < src ∨ ysrc = src ∧ yev < ev
        · have HO := Lib.hid hord
          have g1 : decide (src < ysrc) = false := by simp; omega
          by_cases g2 : src = ysrc
          · subst g2
            have g3 : decide (ev ≤ yev) = false := by simp; omega
            have HEV : Hid (yev < ev) := by unfold Hid; omega
            clear hord
            go_wp2
            go_roundw
            case rel => exact ⟨k + 1,by omega,by go_num,BN2.out,fun i hi => by
             by_cases e : i = k
             · subst e
               intro z hz
               rw [HX.out] at hz; cases hz
               exact ⟨s0,s1,d0,d1,SE.out,fun y _ h => by rw [HY.out] at h; cases h; exact .inr ⟨rfl,HEV.out⟩⟩
             · exact HE.out i (by omega)⟩
            case measure => simp [intOf]; omega
          · have g2' : (src == ysrc) = false := by simpa using g2
            clear hord g2
            go_wp2
            go_roundw
            case rel => exact ⟨k + 1,by omega,by go_num,BN2.out,fun i hi => by
             by_cases e : i = k
             · subst e
               intro z hz
               rw [HX.out] at hz; cases hz
               exact ⟨s0,s1,d0,d1,SE.out,fun y _ h => by rw [HY.out] at h; cases h; exact HO.out⟩
             · exact HE.out i (by omega)⟩
            case measure => simp [intOf]; omega
        · have HO := Lib.hid hord
          have NO : Hid (¬ ∀ i,i < ed.length → edOk ⟨al,n,mr,ed⟩ i) := fun h => HO.out ((h k hlt _ HX.out).2.2.2.2.2 _ hk1 HY.out)
          by_cases g1 : src < ysrc
          · clear hord
            go_wp2
            go_ret
            exact ErrsB.no NO.out (by decide) BN2N.out
          · have g1' : decide (src < ysrc) = false := by simpa using g1
            obtain rfl : src = ysrc := by omega
            have g3 : decide (ev ≤ yev) = true := by simp; omega
            clear hord
            go_wp2
            go_ret
            exact ErrsB.no NO.out (by decide) BN2N.out
    · go_wp2
      any_goals (go_ret; exact ErrsB.no (fun h => by have := h k hlt _ HX.out; simp only at this; omega) (by decide) (BWW.out.alloc (by omega) _))
  · obtain rfl : k = ed.length := by omega
    go_wp2
    go_ret
    exact ErrsB.yes HE.out BWW.out
set_option maxHeartbeats 1000000 in
theorem Check_c (a : Au) (p : AuP) (w : World) (h : Au.At w a p) :
 Calls Try.prog 36 #[a.val p] w (ErrsB a.Right w) := by
 have B0 : Hid (Below w.heap.size w (w.alloc (.cells (auCells a p).toArray 39))) := Below.new _ _
 have C0 : Hid (HasAt w.heap.size (auCells a p) (w.alloc (.cells (auCells a p).toArray 39))) := HasAt.new w _ _ rfl
 have HP := Lib.hid h
 have lal := h.lal
 have lmk := h.lmk
 clear h
 obtain ⟨al,n,mr,ed⟩ := a
 obtain ⟨A1,c1,A2,c2,A3,c3⟩ := p
 dsimp only [Au.val,auCells] at *
 have q0 := C0.out.c 0 _ rfl
 have q1 := C0.out.c 1 _ rfl
 have q2 := C0.out.c 2 _ rfl
 have q3 := C0.out.c 3 _ rfl
 go_enter Try.func36,Try.ntmps36
 go_wp2_with fail
 generalize hW : w.alloc (.cells #[.slice A1 al.length c1,.int .i64 n,.slice A2 mr.length c2,.slice A3 ed.length c3] 39) = W at *
 clear hW
 refine (checkSet_c A1 c1 al 32 W ((HP.out.below B0.out).al) (by unfold maxLen; omega)).mono ?_
 intro e w1 hs
 rcases hs.two with ⟨r,rfl,hr,HR,S1,rfl⟩ | ⟨rfl,S1,rfl⟩
 · clear hs
   go_wp2
   go_ret
   exact ErrsB.no (fun h => S1.out h.al) HR.out B0.out
 clear hs
 by_cases hn0 : n < 0
 · go_wp2
   go_ret
   exact ErrsB.no (fun h => by have := h.n0; simp only at this; omega) (by decide) B0.out
 by_cases hn1 : 4096 < n
 · go_wp2
   go_ret
   exact ErrsB.no (fun h => by have := h.n1; simp only at this; omega) (by decide) B0.out
 go_wp2_with fail
 refine (checkSet_c A2 c2 mr n W ((HP.out.below B0.out).mr) (by unfold maxLen; omega)).mono ?_
 intro e w1 hs
 rcases hs.two with ⟨r,rfl,hr,HR,S2,rfl⟩ | ⟨rfl,S2,rfl⟩
 · clear hs
   go_wp2
   go_ret
   exact ErrsB.no (fun h => S2.out h.mr) HR.out B0.out
 clear hs
 go_wp2_with fail
 refine (checkEdges_c ⟨al,n,mr,ed⟩ ⟨A1,c1,A2,c2,A3,c3⟩ W (HP.out.below B0.out)).mono ?_
 rintro e w2 ⟨r,rfl,hr,hb⟩
 have HR := Lib.hid hr
 have HB := Lib.hid (B0.out.trans (hb.mono B0.out.size))
 clear hr hb
 go_wp2
 go_ret
 exact ⟨r,rfl,by rw [HR.out]; exact ⟨fun h => ⟨S1.out,by omega,by omega,S2.out,h⟩,fun h => h.ed⟩,HB.out⟩
def AuE : Reading Au := fun w a vs => ∃ p : AuP,vs = auCells a p ∧ Au.At w a p
theorem AuE.stays : Stays AuE := fun w w' a vs hb ⟨p,h1,h2⟩ => ⟨p,h1,h2.below hb⟩
theorem flat_encI' (l : List Int) : l.flatMap encI = l.map (Value.int .i64) := by
 induction l with
 | nil => rfl
 | cons a l ih => rw [List.flatMap_cons,ih]; rfl
theorem OwnI.set {B g c L : Nat} {l : List Int} {w : World} (h : OwnI B l (.slice (some ⟨g,0,none⟩) L c) w) (hL : l.length = L) (k : Nat) (x : Int) :
 OwnI B (l.set k x) (.slice (some ⟨g,0,none⟩) L c) (w.setCell ⟨g,k,none⟩ (.int .i64 x)) := by
 subst hL
 have := (World.ownsRow.stored h k (.int .i64 x)).1
 unfold OwnI Own
 rw [List.length_set]
 rw [flat_encI',← List.map_set,← flat_encI'] at this
 exact this
theorem OwnI.cell {B g c L : Nat} {l : List Int} {w : World} (h : OwnI B l (.slice (some ⟨g,0,none⟩) L c) w) (hL : l.length = L) {k : Nat} {x : Int} (hx : l[k]? = some x) : w.cell? ⟨g,k,none⟩ = some (.int .i64 x) := by
 subst hL
 have hk := (List.getElem?_eq_some_iff.1 hx).1
 have := World.ownsRow.cellAt h k (by omega)
 rw [this,flat_encI',List.getElem?_map,hx]; rfl
def Turned (l cur : List Int) (i : Nat) : Prop := cur.length = l.length ∧ ∀ t,t < l.length → cur[t]? = if t < i ∨ l.length ≤ t + i then l[l.length - 1 - t]? else l[t]?
theorem Turned.fin {l cur : List Int} {i : Nat} (h : Turned l cur i) (hi : l.length ≤ 2 * i + 1) : cur = l.reverse := by
 apply List.ext_getElem?
 intro t
 by_cases ht : t < l.length
 · rw [h.2 t ht,List.getElem?_reverse ht]
   split
   · rfl
   · congr 1; omega
 · rw [List.getElem?_eq_none (by rw [h.1]; omega),List.getElem?_eq_none (by simp; omega)]
theorem Turned.step {l cur : List Int} {i : Nat} (h : Turned l cur i) (hi : 2 * i + 1 < l.length) {x y : Int} (hx : l[i]? = some x) (hy : l[l.length - 1 - i]? = some y) : Turned l ((cur.set i y).set (l.length - 1 - i) x) (i + 1) := by
 refine ⟨by simp [h.1],fun t ht => ?_⟩
 rw [List.getElem?_set,List.getElem?_set]
 by_cases h1 : l.length - 1 - i = t
 · rw [if_pos h1,if_pos (by rw [List.length_set,h.1]; omega),if_pos (by omega),← h1,show l.length - 1 - (l.length - 1 - i) = i by omega,hx]
 · rw [if_neg h1]
   by_cases h2 : i = t
   · subst h2
     rw [if_pos rfl,if_pos (by rw [h.1]; omega),if_pos (by omega),hy]
   · rw [if_neg h2,h.2 t ht]
     by_cases h3 : t < i ∨ l.length ≤ t + i
     · rw [if_pos h3,if_pos (by omega)]
     · rw [if_neg h3,if_neg (by omega)]

def GivesRev (B : Nat) (l : List Int) (v : Value) (w : World) (e : Ending) (w' : World) : Prop := (∃ u,e = .returned u) ∧ Hid (OwnI B l.reverse v w') ∧ Below B w w'
section

theorem snoc_ind {α : Type} {P : List α → Prop} (h0 : P []) (h1 : ∀ u e,P u → P (u ++ [e])) (w : List α) : P w := by
 rw [← List.reverse_reverse w]
 generalize w.reverse = v
 induction v with
 | nil => exact h0
 | cons x v ih => rw [List.reverse_cons]; exact h1 _ _ ih

structure FirstE (ed : List Ed) (k : Nat) (p : Nat) (x : Ed) : Prop where
 at_ : ed[p]? = some x
 dst : x.dst = k
 src : x.src < k
 le : ∀ q y,q < p → ed[q]? = some y → y.dst < k
def Num (ed : List Ed) (n : Int) : Prop := ∀ k : Nat,0 < k → (k : Int) < n → ∃ p x,FirstE ed k p x

theorem FirstE.lt {ed : List Ed} {k k' p p' : Nat} {x x' : Ed} (h : FirstE ed k p x) (h' : FirstE ed k' p' x') (hk : k < k') : p < p' := by
 rcases Nat.lt_trichotomy p p' with g | g | g
 · exact g
 · subst g
   have := h.at_; rw [h'.at_] at this; cases this
   have := h.dst; have := h'.dst; omega
 · have := h.le p' x' g h'.at_
   have := h'.dst
   omega

structure WsUp (a : Au) (m : Nat) (ws : List (List Int)) : Prop where
 len : ws.length = m
 asc : Asc ws
 run : ∀ (i : Nat) (w : List Int),ws[i]? = some w → rn a w = (i : Int)
 z : 0 < m → ws[0]? = some []
 fe : ∀ (k : Nat) (w : List Int),0 < k → ws[k]? = some w → ∃ p x u,FirstE a.ed k p x ∧ ws[x.src.toNat]? = some u ∧ w = u ++ [x.ev]

section
variable {a : Au}
theorem Au.Right.edge (h : a.Right) {p : Nat} {x : Ed} (hx : a.ed[p]? = some x) : 0 ≤ x.src ∧ x.src < a.n ∧ 0 ≤ x.dst ∧ x.dst < a.n ∧ x.ev ∈ a.al := by
 have := h.ed p (List.getElem?_eq_some_iff.1 hx).1 x hx
 exact ⟨this.1,this.2.1,this.2.2.1,this.2.2.2.1,this.2.2.2.2.1⟩
theorem Au.Right.nextE (h : a.Right) {p : Nat} {x : Ed} (hx : a.ed[p]? = some x) : nextV a.ed x.src x.ev = x.dst := by
 have hm := List.mem_of_getElem? hx
 unfold nextV
 cases hf : a.ed.find? (fun y => decide (y.src = x.src) && decide (y.ev = x.ev)) with
 | none =>
   rw [List.find?_eq_none] at hf
   have := hf x hm
   simp at this
 | some y =>
   have h1 := List.mem_of_find?_eq_some hf
   have h2 := List.find?_some hf
   simp only [Bool.and_eq_true,decide_eq_true_eq] at h2
   rw [h.uniq h1 hm h2.1 h2.2]
   rfl
theorem getElem?_snoc {α : Type} {l : List α} {w : α} {i : Nat} {v : α} (h : (l ++ [w])[i]? = some v) : l[i]? = some v ∨ i = l.length ∧ v = w := by
 by_cases e : i < l.length
 · rw [List.getElem?_append_left e] at h; exact .inl h
 · have hi := (List.getElem?_eq_some_iff.1 h).1
   simp at hi
   obtain rfl : i = l.length := by omega
   simp at h
   exact .inr ⟨rfl,h.symm⟩
theorem get_keep {α : Type} {l : List α} {i : Nat} {v : α} (h : l[i]? = some v) (w : α) : (l ++ [w])[i]? = some v := by
 rw [List.getElem?_append_left (List.getElem?_eq_some_iff.1 h).1]; exact h

theorem WsUp.step (hr : a.Right) (hn : a.n ≠ 0) {m : Nat} {ws : List (List Int)} (h : WsUp a m ws) (hm : (m : Int) < a.n) (nu : Num a.ed a.n) : ∃ ws',WsUp a (m + 1) ws' := by
 by_cases h0 : m = 0
 · subst h0
   have hst : a.st = 0 := if_neg hn
   refine ⟨[[]],rfl,fun i j u v hij hu hv => ?_,fun i w hi => ?_,fun _ => rfl,fun k w hk hw => ?_⟩
   · have := (List.getElem?_eq_some_iff.1 hv).1; simp at this; omega
   · have := (List.getElem?_eq_some_iff.1 hi).1
     obtain rfl : i = 0 := by simp at this; omega
     simp at hi; subst hi
     exact hst
   · have := (List.getElem?_eq_some_iff.1 hw).1; simp at this; omega
 · obtain ⟨p,x,fe⟩ := nu m (by omega) hm
   have he := hr.edge fe.at_
   have hsl : x.src.toNat < ws.length := by have := fe.src; rw [h.len]; omega
   obtain ⟨u,hu⟩ : ∃ u,ws[x.src.toNat]? = some u := ⟨_,List.getElem?_eq_getElem hsl⟩
   have hru := h.run _ _ hu
   have hnew : rn a (u ++ [x.ev]) = (m : Int) := by
    rw [rn_snoc a u _ (by omega),hru,← fe.dst,← hr.nextE fe.at_]
    congr 1
    omega
   have hlast : ∀ v,ws[m - 1]? = some v → slt v (u ++ [x.ev]) := by
    intro v hv
    by_cases h1 : m - 1 = 0
    · rw [h1,h.z (by omega)] at hv; cases hv
      exact .inl (by simp)
    · obtain ⟨p',x',u',fe',hu',rfl⟩ := h.fe (m - 1) v (by omega) hv
      have hp : p' < p := fe'.lt fe (by omega)
      have hs' := (hr.edge fe'.at_).1
      rcases hr.lex p' p x' x hp fe'.at_ fe.at_ with g | ⟨g,g'⟩
      · exact (h.asc _ _ u' u (by omega) hu' hu).snoc _ _
      · have : x'.src.toNat = x.src.toNat := by omega
        rw [this,hu] at hu'; cases hu'
        exact slt_snoc_lt _ g'
   refine ⟨ws ++ [u ++ [x.ev]],by simp [h.len],h.asc.push fun v hv => ?_,fun i w hi => ?_,fun _ => get_keep (h.z (by omega)) _,fun k w hk hw => ?_⟩
   · obtain ⟨i,hi,rfl⟩ := List.mem_iff_getElem.1 hv
     have hml : m - 1 < ws.length := by rw [h.len]; omega
     have g := hlast _ (List.getElem?_eq_getElem hml)
     by_cases e : i = m - 1
     · subst e; exact g
     · exact (h.asc i (m - 1) _ _ (by have := h.len; omega) (List.getElem?_eq_getElem hi) (List.getElem?_eq_getElem hml)).trans g
   · rcases getElem?_snoc hi with g | ⟨g,rfl⟩
     · exact h.run i w g
     · rw [g,h.len]; exact hnew
   · rcases getElem?_snoc hw with g | ⟨g,rfl⟩
     · obtain ⟨p',x',u',k1,k2,k3⟩ := h.fe k w hk g
       exact ⟨p',x',u',k1,get_keep k2 _,k3⟩
     · rw [g,h.len]
       exact ⟨p,x,u,fe,get_keep hu _,rfl⟩
theorem WsUp.all (hr : a.Right) (hn : a.n ≠ 0) (nu : Num a.ed a.n) : ∀ (m : Nat),(m : Int) ≤ a.n → ∃ ws,WsUp a m ws
 | 0,_ => ⟨[],rfl,fun i j u v _ hu => by simp at hu,fun i w h => by simp at h,fun h => absurd h (by omega),fun k w _ h => by simp at h⟩
 | m + 1,h => by
   obtain ⟨ws,k⟩ := WsUp.all hr hn nu m (by omega)
   exact k.step hr hn (by omega) nu
theorem WsUp.least (hr : a.Right) (hn : a.n ≠ 0) {ws : List (List Int)} (h : WsUp a a.n.toNat ws) (w : List Int) : ∀ (i : Nat) (v : List Int),rn a w = (i : Int) → ws[i]? = some v → sle v w := by
 have hn0 := hr.n0
 refine snoc_ind (P := fun w => ∀ (i : Nat) (v : List Int),rn a w = (i : Int) → ws[i]? = some v → sle v w) ?_ ?_ w
 · intro i v hi hv
   have : a.st = 0 := if_neg hn
   rw [rn_nil,this] at hi
   obtain rfl : i = 0 := by omega
   rw [h.z (by omega)] at hv; cases hv
   exact sle.refl _
 · intro u e ih i v hi hv
   have hu0 : 0 ≤ rn a u := rn_pre (v := [e]) (by omega)
   rcases hr.rn_cases u with g | ⟨g0,g1⟩
   · omega
   obtain ⟨j,hj⟩ := Int.eq_ofNat_of_zero_le g0
   obtain ⟨uj,huj⟩ : ∃ uj,ws[j]? = some uj := ⟨_,List.getElem?_eq_getElem (by rw [h.len]; omega)⟩
   have hle := ih j uj hj huj
   by_cases hi0 : i = 0
   · subst hi0
     rw [h.z (by omega)] at hv; cases hv
     exact sle_nil _
   · rw [rn_snoc a u e hu0] at hi
     rcases hr.next_cases (rn a u) e with k | ⟨_,_,y,hy,y1,y2,y3⟩
     · omega
     obtain ⟨q,hq,hqy⟩ := List.mem_iff_getElem.1 hy
     have hqy' : a.ed[q]? = some y := by rw [List.getElem?_eq_getElem hq,hqy]
     obtain ⟨p,x,ux,fe,hux,rfl⟩ := h.fe i v (by omega) hv
     have hpq : p ≤ q := by
      rcases Nat.lt_or_ge q p with k | k
      · have := fe.le q y k hqy'; omega
      · exact k
     have hxs := (hr.edge fe.at_).1
     have hcase : x.src < y.src ∨ x.src = y.src ∧ x.ev ≤ y.ev := by
      rcases Nat.lt_or_eq_of_le hpq with k | k
      · rcases hr.lex p q x y k fe.at_ hqy' with k' | k'
        · exact .inl k'
        · exact .inr ⟨k'.1,by omega⟩
      · subst k
        have := fe.at_; rw [hqy'] at this; cases this
        exact .inr ⟨rfl,Int.le_refl _⟩
     rcases hcase with k | ⟨k,k'⟩
     · exact .inl (((h.asc _ _ ux uj (by omega) hux huj).trans_le hle).snoc _ _)
     · have : x.src.toNat = j := by omega
       rw [this,huj] at hux; cases hux
       exact sle_snoc2 hle fun _ => by omega
theorem Num.ws (hr : a.Right) (nu : Num a.ed a.n) : ∃ ws : List (List Int),ws.length = a.n.toNat ∧ Asc ws ∧ ∀ (i : Nat) (w : List Int),ws[i]? = some w → LeastW (fun v => rn a v = (i : Int)) w := by
 by_cases hn : a.n = 0
 · exact ⟨[],by simp [hn],fun i j u v _ hu => by simp at hu,fun i w h => by simp at h⟩
 · obtain ⟨ws,h⟩ := WsUp.all hr hn nu a.n.toNat (by have := hr.n0; omega)
   exact ⟨ws,h.len,h.asc,fun i w hi => ⟨h.run i w hi,fun v hv => h.least hr hn v i w hv hi⟩⟩
end
end
section

section
variable {α : Type} {stp : α → Int → α} {s0 : α} {dead : α → Prop} {evs : List Int}

structure Bfs (stp : α → Int → α) (s0 : α) (dead : α → Prop) (evs : List Int) (i k : Nat) (vs : List α) (ws : List (List Int)) : Prop where
 len : ws.length = vs.length
 z : vs[0]? = some s0
 zw : ws[0]? = some []
 run : ∀ (j : Nat) (v : α) (w : List Int),vs[j]? = some v → ws[j]? = some w → w.foldl stp s0 = v
 over : ∀ w : List Int,w ∈ ws → ∀ e,e ∈ w → e ∈ evs
 asc : Asc ws
 pre : ∀ (j : Nat) (w : List Int),0 < j → ws[j]? = some w → ∃ b u e,b ≤ i ∧ b < j ∧ ws[b]? = some u ∧ w = u ++ [e]
 fr : ∀ w : List Int,w ∈ ws → ∀ (wi : List Int) (e : Int),ws[i]? = some wi → evs[k]? = some e → slt w (wi ++ [e])
 dn : ∀ (j : Nat) (v : α) (w : List Int) (t : Nat) (e : Int),vs[j]? = some v → ws[j]? = some w → evs[t]? = some e → (j < i ∨ j = i ∧ t < k) → dead (stp v e) ∨ ∃ (j' : Nat) (w' : List Int),vs[j']? = some (stp v e) ∧ ws[j']? = some w' ∧ sle w' (w ++ [e])

theorem Bfs.start : Bfs stp s0 dead evs 0 0 [s0] [[]] :=
 ⟨rfl,rfl,rfl,fun j v w hv hw => by
  have := (List.getElem?_eq_some_iff.1 hv).1
  obtain rfl : j = 0 := by simp at this; omega
  simp at hv hw; subst hv hw; rfl,fun w hw e he => by simp at hw; subst hw; simp at he,fun i j u v hij hu hv => by
  have := (List.getElem?_eq_some_iff.1 hv).1; simp at this; omega,fun j w hj hw => by
  have := (List.getElem?_eq_some_iff.1 hw).1; simp at this; omega,fun w hw wi e hi he => by
  simp at hw hi; subst hw; exact .inl (by simp),fun j v w t e _ _ _ h => by omega⟩

theorem Bfs.word {i k : Nat} {vs : List α} {ws : List (List Int)} (h : Bfs stp s0 dead evs i k vs ws) {j : Nat} {v : α} (hv : vs[j]? = some v) : ∃ w,ws[j]? = some w :=
 ⟨_,List.getElem?_eq_getElem (by rw [h.len]; exact (List.getElem?_eq_some_iff.1 hv).1)⟩

theorem Bfs.skip (hinc : incr evs) {i k : Nat} {vs : List α} {ws : List (List Int)} (h : Bfs stp s0 dead evs i k vs ws) {v : α} {e : Int} (hv : vs[i]? = some v) (he : evs[k]? = some e) (hs : dead (stp v e) ∨ ∃ j' : Nat,vs[j']? = some (stp v e)) : Bfs stp s0 dead evs i (k + 1) vs ws := by
 obtain ⟨wi,hwi⟩ := h.word hv
 refine ⟨h.len,h.z,h.zw,h.run,h.over,h.asc,h.pre,fun w hw wi' e' hi he' => ?_,fun j v' w t e' hv' hw ht hc => ?_⟩
 · exact (h.fr w hw wi' e hi he).trans (slt_snoc_lt _ (hinc k (k + 1) e e' (by omega) he he'))
 · by_cases hold : j < i ∨ j = i ∧ t < k
   · exact h.dn j v' w t e' hv' hw ht hold
   · obtain ⟨rfl,rfl⟩ : j = i ∧ t = k := by omega
     rw [hv] at hv'; cases hv'
     rw [he] at ht; cases ht
     rcases hs with g | ⟨j',hj'⟩
     · exact .inl g
     · obtain ⟨w',hw'⟩ := h.word hj'
       exact .inr ⟨j',w',hj',hw',.inl (h.fr w' (List.mem_of_getElem? hw') w e hw he)⟩

theorem Bfs.push (hinc : incr evs) {i k : Nat} {vs : List α} {ws : List (List Int)} (h : Bfs stp s0 dead evs i k vs ws) {v : α} {e : Int} {wi : List Int} (hv : vs[i]? = some v) (he : evs[k]? = some e) (hwi : ws[i]? = some wi) :
 Bfs stp s0 dead evs i (k + 1) (vs ++ [stp v e]) (ws ++ [wi ++ [e]]) := by
 refine ⟨by simp [h.len],get_keep h.z _,get_keep h.zw _,fun j v' w hv' hw => ?_,fun w hw e' he' => ?_,h.asc.push fun u hu => h.fr u hu wi e hwi he,fun j w hj hw => ?_,fun w hw wi' e' hi he' => ?_,fun j v' w t e' hv' hw ht hc => ?_⟩
 · rcases getElem?_snoc hw with g | ⟨g,rfl⟩
   · have hj := (List.getElem?_eq_some_iff.1 g).1
     rw [List.getElem?_append_left (by rw [← h.len]; exact hj)] at hv'
     exact h.run j v' w hv' g
   · rw [g,h.len] at hv'
     simp at hv'
     rw [List.foldl_append,h.run i v wi hv hwi]
     exact hv'
 · rcases List.mem_append.1 hw with g | g
   · exact h.over w g e' he'
   · simp at g; subst g
     rcases List.mem_append.1 he' with g | g
     · exact h.over wi (List.mem_of_getElem? hwi) e' g
     · simp at g; subst g; exact List.mem_of_getElem? he
 · rcases getElem?_snoc hw with g | ⟨g,rfl⟩
   · obtain ⟨b,u,e',h1,h2,h3,h4⟩ := h.pre j w hj g
     exact ⟨b,u,e',h1,h2,get_keep h3 _,h4⟩
   · exact ⟨i,wi,e,Nat.le_refl _,by rw [g]; exact (List.getElem?_eq_some_iff.1 hwi).1,get_keep hwi _,rfl⟩
 · have : wi' = wi := by
    have := get_keep hwi (wi ++ [e])
    rw [hi] at this; exact Option.some.inj this
   subst this
   have hlt := slt_snoc_lt wi' (hinc k (k + 1) e e' (by omega) he he')
   rcases List.mem_append.1 hw with g | g
   · exact (h.fr w g wi' e hwi he).trans hlt
   · simp at g; subst g; exact hlt
 · have hvl : ∀ {j : Nat} {x : α},(vs ++ [stp v e])[j]? = some x → j ≤ i → vs[j]? = some x := fun {j x} hx hj => by
    have := (List.getElem?_eq_some_iff.1 hv).1
    rwa [List.getElem?_append_left (by omega)] at hx
   have hwl : ∀ {j : Nat} {x : List Int},(ws ++ [wi ++ [e]])[j]? = some x → j ≤ i → ws[j]? = some x := fun {j x} hx hj => by
    have := (List.getElem?_eq_some_iff.1 hwi).1
    rwa [List.getElem?_append_left (by omega)] at hx
   have hv2 := hvl hv' (by omega)
   have hw2 := hwl hw (by omega)
   by_cases hold : j < i ∨ j = i ∧ t < k
   · rcases h.dn j v' w t e' hv2 hw2 ht hold with g | ⟨j',w',h1,h2,h3⟩
     · exact .inl g
     · exact .inr ⟨j',w',get_keep h1 _,get_keep h2 _,h3⟩
   · obtain ⟨rfl,rfl⟩ : j = i ∧ t = k := by omega
     rw [hv] at hv2; cases hv2
     rw [he] at ht; cases ht
     rw [hwi] at hw2; cases hw2
     exact .inr ⟨vs.length,wi ++ [e],by simp,by rw [← h.len]; simp,sle.refl _⟩

theorem Bfs.next {i : Nat} {vs : List α} {ws : List (List Int)} (h : Bfs stp s0 dead evs i evs.length vs ws) : Bfs stp s0 dead evs (i + 1) 0 vs ws := by
 refine ⟨h.len,h.z,h.zw,h.run,h.over,h.asc,fun j w hj hw => ?_,fun w hw wi e hi he => ?_,fun j v w t e hv hw ht hc => ?_⟩
 · obtain ⟨b,u,e,h1,h2⟩ := h.pre j w hj hw
   exact ⟨b,u,e,by omega,h2⟩
 · obtain ⟨j,hj,rfl⟩ := List.mem_iff_getElem.1 hw
   have hjg : ws[j]? = some ws[j] := List.getElem?_eq_getElem hj
   rcases Nat.lt_trichotomy j (i + 1) with g | g | g
   · exact (h.asc j (i + 1) _ _ g hjg hi).trans (slt_snoc _ _)
   · subst g
     rw [hjg] at hi
     have := Option.some.inj hi
     rw [this]; exact slt_snoc _ _
   · obtain ⟨b,u,e',h1,h2,h3,h4⟩ := h.pre j _ (by omega) hjg
     rw [h4]
     exact (h.asc b (i + 1) u wi (by omega) h3 hi).snoc _ _
 · have := (List.getElem?_eq_some_iff.1 ht).1
   exact h.dn j v w t e hv hw ht (by omega)

theorem Bfs.claim (hd : ∀ s e,dead s → dead (stp s e)) {i k : Nat} {vs : List α} {ws : List (List Int)} (h : Bfs stp s0 dead evs i k vs ws) (w : List Int) :
 (∀ e,e ∈ w → e ∈ evs) → dead (w.foldl stp s0) ∨ (∃ (j : Nat) (u : List Int),vs[j]? = some (w.foldl stp s0) ∧ ws[j]? = some u ∧ sle u w) ∨ ∃ wi : List Int,ws[i]? = some wi ∧ sle wi w := by
 refine snoc_ind (P := fun w => (∀ e,e ∈ w → e ∈ evs) → dead (w.foldl stp s0) ∨ (∃ (j : Nat) (u : List Int),vs[j]? = some (w.foldl stp s0) ∧ ws[j]? = some u ∧ sle u w) ∨ ∃ wi : List Int,ws[i]? = some wi ∧ sle wi w) ?_ ?_ w
 · intro _
   exact .inr (.inl ⟨0,[],h.z,h.zw,sle.refl _⟩)
 · intro u e ih hov
   rw [List.foldl_append]
   simp only [List.foldl_cons,List.foldl_nil]
   rcases ih (fun x hx => hov x (by simp [hx])) with g | ⟨j,v,hj,hv,hle⟩ | ⟨wi,hi,hle⟩
   · exact .inl (hd _ _ g)
   · by_cases hji : j < i
     · obtain ⟨t,ht,hte⟩ := List.mem_iff_getElem.1 (hov e (by simp))
       rcases h.dn j _ v t e hj hv (by rw [List.getElem?_eq_getElem ht,hte]) (.inl hji) with g | ⟨j',w',h1,h2,h3⟩
       · exact .inl g
       · exact .inr (.inl ⟨j',w',h1,h2,h3.trans (hle.snoc e)⟩)
     · have hjl := (List.getElem?_eq_some_iff.1 hv).1
       obtain ⟨wi,hwi⟩ : ∃ wi,ws[i]? = some wi := ⟨_,List.getElem?_eq_getElem (by omega)⟩
       refine .inr (.inr ⟨wi,hwi,?_⟩)
       have h1 : sle wi v := by
        rcases Nat.lt_or_eq_of_le (Nat.le_of_not_lt hji) with g | g
        · exact .inl (h.asc i j wi v g hwi hv)
        · subst g; rw [hwi] at hv; cases hv; exact sle.refl _
       exact (h1.trans hle).trans (.inl (slt_snoc _ _))
   · exact .inr (.inr ⟨wi,hi,hle.trans (.inl (slt_snoc _ _))⟩)

def LeadsTo (stp : α → Int → α) (s0 : α) (evs : List Int) (P : α → Prop) (w : List Int) : Prop := (∀ e,e ∈ w → e ∈ evs) ∧ P (w.foldl stp s0)
theorem Bfs.least (hd : ∀ s e,dead s → dead (stp s e)) {P : α → Prop} (hP : ∀ s,dead s → ¬ P s) {i k : Nat} {vs : List α} {ws : List (List Int)} (h : Bfs stp s0 dead evs i k vs ws) (hno : ∀ j v,j < i → vs[j]? = some v → ¬ P v)
 {v : α} {w : List Int} (hv : vs[i]? = some v) (hw : ws[i]? = some w) (hp : P v) : LeastW (LeadsTo stp s0 evs P) w := by
 refine ⟨⟨h.over w (List.mem_of_getElem? hw),by rw [h.run i v w hv hw]; exact hp⟩,fun u hu => ?_⟩
 rcases h.claim hd u hu.1 with g | ⟨j,x,hj,hx,hle⟩ | ⟨wi,hi,hle⟩
 · exact absurd hu.2 (hP _ g)
 · by_cases hji : j < i
   · exact absurd hu.2 (hno j _ hji hj)
   · rcases Nat.lt_or_eq_of_le (Nat.le_of_not_lt hji) with g | g
     · exact .trans (.inl (h.asc i j w x g hw hx)) hle
     · subst g; rw [hw] at hx; cases hx; exact hle
 · rw [hw] at hi; cases hi; exact hle
theorem Bfs.none_ (hd : ∀ s e,dead s → dead (stp s e)) {P : α → Prop} (hP : ∀ s,dead s → ¬ P s) {i k : Nat} {vs : List α} {ws : List (List Int)} (h : Bfs stp s0 dead evs i k vs ws) (hi : vs.length ≤ i) (hno : ∀ (j : Nat) v,vs[j]? = some v → ¬ P v) (w : List Int) : ¬ LeadsTo stp s0 evs P w := by
 rintro ⟨h1,h2⟩
 rcases h.claim hd w h1 with g | ⟨j,x,hj,hx,_⟩ | ⟨wi,hwi,_⟩
 · exact hP _ g h2
 · exact hno j _ hj h2
 · have := (List.getElem?_eq_some_iff.1 hwi).1
   rw [h.len] at this; omega
def Link (bs : List (Int × Int)) (ws : List (List Int)) : Prop := bs.length = ws.length ∧ ∀ (j : Nat) (b : Int × Int),bs[j]? = some b → (j = 0 → b.1 = -1) ∧ (0 < j → ∃ (t : Nat) (u w : List Int),b.1 = t ∧ t < j ∧ ws[t]? = some u ∧ ws[j]? = some w ∧ w = u ++ [b.2])
theorem Link.push {bs : List (Int × Int)} {ws : List (List Int)} (h : Link bs ws) {i : Nat} {wi : List Int} (e : Int) (hi : ws[i]? = some wi) : Link (bs ++ [((i : Int),e)]) (ws ++ [wi ++ [e]]) := by
 refine ⟨by simp [h.1],fun j b hb => ?_⟩
 have hil := (List.getElem?_eq_some_iff.1 hi).1
 rcases getElem?_snoc hb with g | ⟨g,rfl⟩
 · obtain ⟨h1,h2⟩ := h.2 j b g
   refine ⟨h1,fun hj => ?_⟩
   obtain ⟨t,u,w,k1,k2,k3,k4,k5⟩ := h2 hj
   exact ⟨t,u,w,k1,k2,get_keep k3 _,get_keep k4 _,k5⟩
 · rw [h.1] at g
   refine ⟨fun hj => by omega,fun _ => ⟨i,wi,wi ++ [e],rfl,by omega,get_keep hi _,by rw [g]; simp,rfl⟩⟩
end
end
end Go.Proofs.Ytccfcaejlohahaa
