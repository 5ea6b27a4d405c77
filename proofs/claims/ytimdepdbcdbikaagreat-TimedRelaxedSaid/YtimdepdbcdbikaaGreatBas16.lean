/-
  Words for memory: a map of the call's own over which a loop ranges.
-/
import Derived.Test.YtimdepdbcdbikaaGreatBas03
import Derived.Maps.RangeWalk
set_option linter.unusedSimpArgs false
set_option linter.unusedVariables false
namespace Go.Proofs.YtimdepdbcdbikaaGreat
open Go.RowKit
set_option maxRecDepth 100000
section
section
variable {κ β : Type} [DecidableEq κ]
structure MpR (key : κ → Value) (ve : β → Value) (w : World) (b : Nat) (l : List (κ × β × Nat)) (clock : Nat) : Prop where
 at_ : w.heap[b]? = some (.map (l.map (entryG key ve)).toArray clock)
 nd : (l.map (·.1)).Nodup
 bn : (l.map (·.2.2)).Nodup
 lt : ∀ e,e ∈ l → e.2.2 < clock
def MapR (key : κ → Value) (ve : β → Value) (w : World) (b : Nat) (f : κ → Option β) : Prop := ∃ l clock,MpR key ve w b l clock ∧ ∀ x,f x = valG l x
variable {key : κ → Value} {ve : β → Value} {w : World} {b : Nat} {f : κ → Option β}
theorem MapR.g (h : MapR key ve w b f) : MapG key ve w b f := by
 obtain ⟨l,k,h1,h2⟩ := h
 exact ⟨l,k,h1.at_,h2⟩
theorem MapR.made (key : κ → Value) (ve : β → Value) (w : World) : MapR key ve (w.alloc (.map #[] 0)) w.heap.size (fun _ => none) := ⟨[],0,⟨(MapKept.heap_alloc w _).1,by simp,by simp,by simp⟩,fun _ => rfl⟩
theorem MapR.congr {g : κ → Option β} (h : MapR key ve w b f) (hg : ∀ x,g x = f x) : MapR key ve w b g := by
 obtain ⟨l,k,h1,h2⟩ := h
 exact ⟨l,k,h1,fun x => (hg x).trans (h2 x)⟩
def eMapR (key : κ → Value) (ve : β → Value) (b : Nat) (f : κ → Option β) : Ent where
 foot := [b]
 ok w := MapR key ve w b f
 lt w h k hk := by simp at hk; subst hk; exact h.g.lt
 turn w w' h hg := by
  obtain ⟨l,c,h1,h2⟩ := h
  exact ⟨l,c,⟨(hg b (by simp)).trans h1.at_,h1.nd,h1.bn,h1.lt⟩,h2⟩
theorem valG_mem {l : List (κ × β × Nat)} (hn : (l.map (·.1)).Nodup) {e : κ × β × Nat} (he : e ∈ l) : valG l e.1 = some e.2.1 := by
 induction l with
 | nil => cases he
 | cons a l ih =>
   rw [List.map_cons,List.nodup_cons] at hn
   unfold valG at ih ⊢
   rw [List.find?_cons]
   rcases List.mem_cons.1 he with rfl | he
   · simp
   · have : ¬ a.1 = e.1 := fun g => hn.1 (List.mem_map.2 ⟨e,he,g.symm⟩)
     simp only [this,decide_false]
     exact ih hn.2 he
theorem valG_get {l : List (κ × β × Nat)} {x : κ} {v : β} (h : valG l x = some v) : ∃ e,e ∈ l ∧ e.1 = x ∧ e.2.1 = v := by
 unfold valG at h
 rw [Option.map_eq_some_iff] at h
 obtain ⟨e,he,h2⟩ := h
 exact ⟨e,List.mem_of_find?_eq_some he,by simpa using List.find?_some he,h2⟩
theorem set_same {α : Type} {l : List α} {j : Nat} {a : α} (h : l[j]? = some a) : l.set j a = l := by
 apply List.ext_getElem?
 intro i
 rw [List.getElem?_set]
 by_cases e : j = i
 · subst e
   rw [if_pos rfl,h,if_pos (List.getElem?_eq_some_iff.1 h).1]
 · rw [if_neg e]
theorem MapR.store {P : Program} {M T E : TypeId} {D : TypeDesc} (K : KeyG P T D key) (hM : P.underlying M = some (.map T E)) (h : MapR key ve w b f) (x : κ) (v : β) :
 ∃ w',(Instr.mapUpdate M (.map (some b)) (key x) (ve v)).run P w = .ok () w' ∧ MapR key ve w' b (fun y => if y = x then some v else f y) ∧ w.grownBy w' (some b) := by
 obtain ⟨l,clk,⟨hb,nd,bn,hlt⟩,hf⟩ := h
 have hk := findKeyG_run (ve := ve) K x w l
 cases hj : l.findIdx? (fun e => decide (e.1 = x)) with
 | none =>
   rw [hj] at hk
   simp only [Option.bind_none] at hk
   have hno : ∀ e,e ∈ l → ¬ e.1 = x := fun e he => by simpa using List.findIdx?_eq_none_iff.1 hj e he
   refine ⟨ChangeMaps.setBlock w b (.map ((l ++ [(x,v,clk)]).map (entryG key ve)).toArray (clk + 1)),?_,⟨l ++ [(x,v,clk)],clk + 1,⟨ChangeMaps.heap_setBlock_same hb _,?_,?_,?_⟩,fun y => by rw [findG_push hj]; simp only [hf]⟩,
    ⟨rfl,rfl,rfl,by simp [ChangeMaps.setBlock],fun i _ hi => ChangeMaps.heap_setBlock_other hb _ (fun e => hi (by rw [e]))⟩⟩
   · simp [Instr.mapUpdate,run_underlying hM,MapKept.run_getObj_map hb,K.chk,hk,MapKept.run_setObj_map _ hb,Result.andThen,ChangeMaps.setBlock,entryG]
   · rw [List.map_append,List.nodup_append]
     refine ⟨nd,by simp,fun a ha c hc e => ?_⟩
     simp at hc; subst hc; subst e
     obtain ⟨e,he,h1⟩ := List.mem_map.1 ha
     exact hno e he h1
   · rw [List.map_append,List.nodup_append]
     refine ⟨bn,by simp,fun a ha c hc e => ?_⟩
     simp at hc; subst hc; subst e
     obtain ⟨e,he,h1⟩ := List.mem_map.1 ha
     have := hlt e he
     omega
   · intro e he
     rcases List.mem_append.1 he with g | g
     · have := hlt e g; omega
     · simp at g; subst g; simp
 | some j =>
   obtain ⟨e,he,h1,h2,h3⟩ := valG_some hj
   rw [hj] at hk
   simp only [Option.bind_some,he,Option.map_some] at hk
   have e1 : (l.set j (e.1,v,e.2.2)).map (·.1) = l.map (·.1) := by
    rw [List.map_set]
    exact set_same (by simp [he])
   have e2 : (l.set j (e.1,v,e.2.2)).map (·.2.2) = l.map (·.2.2) := by
    rw [List.map_set]
    exact set_same (by simp [he])
   refine ⟨ChangeMaps.setBlock w b (.map ((l.set j (e.1,v,e.2.2)).map (entryG key ve)).toArray clk),?_,⟨l.set j (e.1,v,e.2.2),clk,⟨ChangeMaps.heap_setBlock_same hb _,by rw [e1]; exact nd,by rw [e2]; exact bn,?_⟩,fun y => by rw [findG_modify hj he]; simp only [hf]⟩,
    ⟨rfl,rfl,rfl,by simp [ChangeMaps.setBlock],fun i _ hi => ChangeMaps.heap_setBlock_other hb _ (fun e => hi (by rw [e]))⟩⟩
   · have hm : (l.map (entryG key ve)).modify j (fun e' => { key := key x,val := ve v,born := e'.born }) = (l.set j (x,v,e.2.2)).map (entryG key ve) := by
      apply List.ext_getElem?
      intro i
      rw [List.getElem?_modify]
      simp only [List.getElem?_map,List.getElem?_set]
      by_cases hij : j = i
      · subst hij
        rw [he]
        simp [h3,entryG]
      · simp [hij]
     simp [Instr.mapUpdate,run_underlying hM,MapKept.run_getObj_map hb,K.chk,hk,he,entryG,h1,K.stay,MapKept.run_setObj_map _ hb,Result.andThen,ChangeMaps.setBlock]
     exact congrArg (fun q => w.heap.setIfInBounds b (Obj.map (List.toArray q) clk)) (by rw [hm,List.map_set]; rfl)
   · intro e' he'
     rcases List.mem_or_eq_of_mem_set he' with g | g
     · exact hlt e' g
     · subst g; exact hlt e (List.mem_of_getElem? he)
theorem MapR.len {P : Program} {M T E : TypeId} (hM : P.underlying M = some (.map T E)) (h : MapR key ve w b f) : ∃ n : Nat,(∀ ty,(Builtin.len_ #[M] ty #[.map (some b)]).run P w = .ok (.int .i64 n) w) ∧ (n = 0 ↔ ∀ x,f x = none) := by
 obtain ⟨l,k,h1,h2⟩ := h
 refine ⟨l.length,fun ty => ?_,fun h x => ?_,fun h => ?_⟩
 · have := run_len_map (P := P) (w := w) M ty b _ k (by simp [Program.mapKeyOf,Program.mapElemOf,hM]) h1.at_
   rw [this]
   simp [goInt]
 · rw [h2,List.length_eq_zero_iff.1 h]; rfl
 · cases l with
   | nil => rfl
   | cons e l =>
     have := h e.1
     rw [h2,valG_mem h1.nd List.mem_cons_self] at this
     cases this
variable {n : Nat} {w0 w' : World} {es : List Ent}
theorem Sep.allocMapR (S : Sep n w0 es w) (key : κ → Value) (ve : β → Value) {g : Nat} (hg : g = w.heap.size) : Sep n w0 (eMapR key ve g (fun _ => none) :: es) (w.alloc (.map #[] 0)) := by
 subst hg
 exact S.new1 (Below.new w _) (eMapR key ve w.heap.size (fun _ => none)) (MapR.made key ve w) (by simp [eMapR])
theorem wpList_mapUpdateR {P : Program} {ops : Array Oper} {rest : List Oper} {o : Oper} {a : Act} {Q : Exit → Act → World → Prop}
 (hg : o.guard = none) (m x v : Operand) (M T E : TypeId) (hop : o.op = Op.mapUpdate M m x v) {D : TypeDesc} (S : Sep n w0 es w) (i : Nat) (hei : es[i]? = some (eMapR key ve b f)) (K : KeyG P T D key) (hM : P.underlying M = some (.map T E))
 (y : κ) (z : β) (hm : a.eval m = .map (some b)) (hx : a.eval x = key y) (hv : a.eval v = ve z)
 (hK : ∀ w',Sep n w0 (es.set i (eMapR key ve b (fun u => if u = y then some z else f u))) w' → wpList P ops Q rest (a.put o.dst undef) w') :
 wpList P ops Q (o :: rest) a w := by
 refine wpList_plain hg fun K' hK' => ?_
 obtain ⟨w',hrun,r1,r2⟩ := MapR.store K hM (S.get i hei) y z
 unfold Oper.wp
 simp [execOp,hop,hm,hx,hv,hrun,Result.andThen]
 exact hK' _ _ (hK w' (S.chg i hei _ (Off.grown r2) r1 (fun g hg => .inl hg)))
theorem wpList_insertR {P : Program} {ops : Array Oper} {rest : List Oper} {o : Oper} {a : Act} {Q : Exit → Act → World → Prop}
 (hg : o.guard = none) (m x v : Operand) (M T E : TypeId) (hop : o.op = Op.insert M m x v) {D : TypeDesc} (S : Sep n w0 es w) (i : Nat) (hei : es[i]? = some (eMapR key ve b f)) (K : KeyG P T D key) (hM : P.underlying M = some (.map T E))
 (y : κ) (z : β) (hm : a.eval m = .map (some b)) (hx : a.eval x = key y) (hv : a.eval v = ve z)
 (hK : ∀ w',Sep n w0 (es.set i (eMapR key ve b (fun u => if u = y then some z else f u))) w' → wpList P ops Q rest (a.put o.dst undef) w') :
 wpList P ops Q (o :: rest) a w := by
 refine wpList_plain hg fun K' hK' => ?_
 obtain ⟨w',hrun,r1,r2⟩ := MapR.store K hM (S.get i hei) y z
 unfold Oper.wp
 simp [execOp,hop,hm,hx,hv,hrun,Result.andThen]
 exact hK' _ _ (hK w' (S.chg i hei _ (Off.grown r2) r1 (fun g hg => .inl hg)))
def RngAt (key : κ → Value) (ve : β → Value) (w : World) (b r : Nat) (f : κ → Option β) (left : κ → Bool) (cnt : Nat) : Prop := ∃ l clock since seen c0,MpR key ve w b l clock ∧ (∀ x,f x = valG l x) ∧ w.heap[r]? = some (.mapIter (some b) since seen c0) ∧
 (∀ e,e ∈ l → e.2.2 < since) ∧ since ≤ c0 ∧ since ≤ clock ∧ (∀ e,e ∈ l → left e.1 = !seen.contains e.2.2) ∧ (∀ x,left x = true → (f x).isSome = true) ∧ (leftOf (l.map (entryG key ve)).toArray seen).size = cnt
def eRng (key : κ → Value) (ve : β → Value) (b r : Nat) (f : κ → Option β) (left : κ → Bool) (cnt : Nat) : Ent where
 foot := [b,r]
 ok w := RngAt key ve w b r f left cnt
 lt w h k hk := by
  obtain ⟨l,c,s,sn,c0,h1,_,h3,_⟩ := h
  simp at hk
  rcases hk with rfl | rfl
  · exact (Array.getElem?_eq_some_iff.1 h1.at_).1
  · exact (Array.getElem?_eq_some_iff.1 h3).1
 turn w w' h hg := by
  obtain ⟨l,c,s,sn,c0,h1,h2,h3,h4⟩ := h
  exact ⟨l,c,s,sn,c0,⟨(hg b (by simp)).trans h1.at_,h1.nd,h1.bn,h1.lt⟩,h2,(hg r (by simp)).trans h3,h4⟩
theorem leftOf_entry {κ β : Type} {key : κ → Value} {ve : β → Value} {l : List (κ × β × Nat)} {seen : Array Nat} {x : MapEntry} (h : x ∈ (leftOf (l.map (entryG key ve)).toArray seen).toList) : ∃ e,e ∈ l ∧ x = entryG key ve e ∧ seen.contains e.2.2 = false := by
 obtain ⟨h1,h2⟩ := mem_left h
 simp only [List.mem_map] at h1
 obtain ⟨e,he,rfl⟩ := h1
 exact ⟨e,he,rfl,h2⟩
theorem RngAt.left {r cnt : Nat} {left : κ → Bool} (h : RngAt key ve w b r f left cnt) : w.rangeLeft b r = cnt := by
 obtain ⟨l,clock,since,seen,c0,h1,h2,h3,h4,h5,h6,h7,h8,h9⟩ := h
 unfold World.rangeLeft
 rw [h1.at_,h3]
 exact h9
theorem RngAt.next {P : Program} {r cnt : Nat} {left : κ → Bool} (h : RngAt key ve w b r f left cnt) (ty : TypeId) :
 ((∀ x,left x = false) ∧ (Instr.next (.pointer (some ⟨r,0,none⟩)) false ty).run P w = .ok (.tuple #[.bool false]) w) ∨
 ∃ x v w' cnt',left x = true ∧ f x = some v ∧ (Instr.next (.pointer (some ⟨r,0,none⟩)) false ty).run P w = .ok (.tuple #[.bool true,key x,ve v]) w' ∧ RngAt key ve w' b r f (fun y => left y && !decide (y = x)) cnt' ∧ cnt' < cnt ∧ Off [b,r] w w' ∧
  (Instr.entry (.pointer (some ⟨r,0,none⟩))).run P w' = .ok (.tuple #[key x,ve v]) w' := by
 obtain ⟨l,clock,since,seen,c0,h1,h2,h3,h4,h5,h6,h7,h8,h9⟩ := h
 have hb := h1.at_
 have hne : r ≠ b := fun e => by rw [e,hb] at h3; cases h3
 have hold : ∀ x,x ∈ (l.map (entryG key ve)).toArray.toList → x.born < since := fun x hx => by
  simp only [List.mem_map] at hx
  obtain ⟨e,he,rfl⟩ := hx
  exact h4 e he
 rcases run_next_at (P := P) w ty r b since c0 seen _ clock h3 hb hold h5 with ⟨h0,hrun⟩ | ⟨x,hx,w1,hal,hrun⟩
 · refine .inl ⟨fun x => ?_,hrun⟩
   cases hk : left x
   · rfl
   · obtain ⟨v,hv⟩ := Option.isSome_iff_exists.1 (h8 x hk)
     rw [h2] at hv
     obtain ⟨e,he,rfl,_⟩ := valG_get hv
     rw [h7 e he] at hk
     have := all_seen _ seen h0 (entryG key ve e) (by simp only [List.mem_map]; exact ⟨e,he,rfl⟩)
     change seen.contains e.2.2 = true at this
     rw [this] at hk
     cases hk
 · obtain ⟨e,he,rfl,hs⟩ := leftOf_entry hx
   have hr1 : w1.heap[r]? = some (.mapIter (some b) since seen c0) := by rcases hal with rfl | rfl <;> exact h3
   have hb1 : w1.heap[b]? = some (.map (l.map (entryG key ve)).toArray clock) := by rcases hal with rfl | rfl <;> exact hb
   have hset1 : (ChangeMaps.setBlock w1 r (.mapIter (some b) since (seen.push e.2.2) clock)).heap[r]? = some (.mapIter (some b) since (seen.push e.2.2) clock) := (MapKept.heap_set hr1).1
   have hb' : (ChangeMaps.setBlock w1 r (.mapIter (some b) since (seen.push e.2.2) clock)).heap[b]? = some (.map (l.map (entryG key ve)).toArray clock) := ((MapKept.heap_set hr1).2 b (fun e1 => hne e1.symm)).trans hb1
   refine .inr ⟨e.1,e.2.1,_,_,by rw [h7 e he,hs]; rfl,by rw [h2]; exact valG_mem h1.nd he,hrun,⟨l,clock,since,seen.push e.2.2,clock,⟨hb',h1.nd,h1.bn,h1.lt⟩,h2,hset1,h4,h6,h6,fun y hy => ?_,fun y hy => h8 y (by simp at hy; exact hy.1),rfl⟩,?_,?_,?_⟩
   · have hc := contains_push seen e.2.2 y.2.2
     show (left y.1 && !decide (y.1 = e.1)) = _
     rw [h7 y hy,hc]
     have hiff : (y.2.2 == e.2.2) = decide (y.1 = e.1) := by
      by_cases g : y.1 = e.1
      · have : y = e := by
         have := List.pairwise_map.1 (List.nodup_iff_pairwise_ne.1 h1.nd)
         rcases List.getElem_of_mem hy with ⟨i,hi,rfl⟩
         rcases List.getElem_of_mem he with ⟨j,hj,rfl⟩
         rcases Nat.lt_trichotomy i j with q | q | q
         · exact absurd g (List.pairwise_iff_getElem.1 this i j hi hj q)
         · subst q; rfl
         · exact absurd g.symm (List.pairwise_iff_getElem.1 this j i hj hi q)
        subst this
        simp
      · have : ¬ y.2.2 = e.2.2 := fun q => by
         have := List.pairwise_map.1 (List.nodup_iff_pairwise_ne.1 h1.bn)
         rcases List.getElem_of_mem hy with ⟨i,hi,rfl⟩
         rcases List.getElem_of_mem he with ⟨j,hj,rfl⟩
         rcases Nat.lt_trichotomy i j with k | k | k
         · exact List.pairwise_iff_getElem.1 this i j hi hj k q
         · subst k; exact g rfl
         · exact List.pairwise_iff_getElem.1 this j i hj hi k q.symm
        simp [g,this]
     rw [hiff]
     cases seen.contains y.2.2 <;> cases decide (y.1 = e.1) <;> rfl
   · have hl := left_shrinks _ seen (entryG key ve e) hx
     rw [← h9]
     exact hl
   · rcases hal with rfl | rfl <;> exact ⟨rfl,rfl,rfl,by simp [ChangeMaps.setBlock],fun i _ hi => (MapKept.heap_set hr1).2 i (fun e1 => hi (by simp [e1]))⟩
   · refine run_entry_at _ r b since seen _ clock (entryG key ve e) hset1 hb' (by simp only [List.mem_map]; exact ⟨e,he,rfl⟩) ?_
     have : ((l.map (entryG key ve)).toArray.toList.map (·.born)) = l.map (·.2.2) := by simp [entryG,Function.comp_def]
     rw [this]; exact h1.bn
theorem wpList_rangeR {P : Program} {ops : Array Oper} {rest : List Oper} {o : Oper} {a : Act} {Q : Exit → Act → World → Prop}
 (hg : o.guard = none) (m : Operand) (M T E : TypeId) (hop : o.op = Op.range M m) (S : Sep n w0 (eMapR key ve b f :: es) w) (hM : P.underlying M = some (.map T E)) (hm : a.eval m = .map (some b))
 (hK : ∀ r cnt w',Sep n w0 (eRng key ve b r f (fun x => (f x).isSome) cnt :: es) w' → wpList P ops Q rest (a.put o.dst (.pointer (some ⟨r,0,none⟩))) w') :
 wpList P ops Q (o :: rest) a w := by
 refine wpList_plain hg fun K' hK' => ?_
 obtain ⟨l,clock,h1,h2⟩ := S.get 0 rfl
 have hrun := run_range_map (P := P) w M T E b _ clock hM h1.at_
 unfold Oper.wp
 simp [execOp,hop,hm,hrun,Result.andThen]
 refine hK' _ _ (hK w.heap.size (leftOf (l.map (entryG key ve)).toArray #[]).size _ ?_)
 have hlt : b < w.heap.size := (Array.getElem?_eq_some_iff.1 h1.at_).1
 have S1 := S.next (Below.new w (.mapIter (some b) clock #[] clock))
 have hnew := (MapKept.heap_alloc w (.mapIter (some b) clock #[] clock)).1
 have hb1 := ((MapKept.heap_alloc w (.mapIter (some b) clock #[] clock)).2 b hlt).trans h1.at_
 have hok : RngAt key ve (w.alloc (.mapIter (some b) clock #[] clock)) b w.heap.size f (fun x => (f x).isSome) (leftOf (l.map (entryG key ve)).toArray #[]).size :=
  ⟨l,clock,clock,#[],clock,⟨hb1,h1.nd,h1.bn,h1.lt⟩,h2,hnew,h1.lt,Nat.le_refl _,Nat.le_refl _,fun e he => by show (f e.1).isSome = _; rw [h2,valG_mem h1.nd he]; simp,fun x hx => hx,rfl⟩
 exact S.chg 0 rfl (eRng key ve b w.heap.size f (fun x => (f x).isSome) _) ⟨rfl,rfl,rfl,by simp,fun k hk _ => (MapKept.heap_alloc w _).2 k hk⟩ hok (fun g hg => by
  simp [eRng] at hg
  rcases hg with rfl | rfl
  · exact .inl (by simp [eMapR])
  · exact .inr (Nat.le_refl _))
def NoLeft (left : κ → Bool) : Prop := ∀ x,left x = false
def OneNext (key : κ → Value) (ve : β → Value) (b r : Nat) (f : κ → Option β) (left : κ → Bool) (cnt n : Nat) (w0 : World) (es : List Ent) (P : Program) (kv vv : Value) (w' : World) : Prop := ∃ (x : κ) (v : β) (cnt' : Nat),kv = key x ∧ vv = ve v ∧ left x = true ∧ f x = some v ∧ Sep n w0 (eRng key ve b r f (fun y => left y && !decide (y = x)) cnt' :: es) w' ∧ cnt' < cnt ∧
 (Instr.entry (.pointer (some ⟨r,0,none⟩))).run P w' = .ok (.tuple #[kv,vv]) w'
theorem wpList_nextR {P : Program} {ops : Array Oper} {rest : List Oper} {o : Oper} {a : Act} {Q : Exit → Act → World → Prop} {r cnt : Nat} {left : κ → Bool}
 (hg : o.guard = none) (it : Operand) (hop : o.op = Op.next it false) (S : Sep n w0 (eRng key ve b r f left cnt :: es) w) (hit : a.eval it = .pointer (some ⟨r,0,none⟩))
 (hDone : NoLeft left → wpList P ops Q rest (a.put o.dst (.tuple #[.bool false])) w)
 (hMore : ∀ (kv vv : Value) (w' : World),OneNext key ve b r f left cnt n w0 es P kv vv w' → wpList P ops Q rest (a.put o.dst (.tuple #[.bool true,kv,vv])) w') :
 wpList P ops Q (o :: rest) a w := by
 refine wpList_plain hg fun K' hK' => ?_
 unfold Oper.wp
 rcases RngAt.next (P := P) (S.get 0 rfl) o.type with ⟨h0,hrun⟩ | ⟨x,v,w',cnt',h1,h2,hrun,h3,h4,h5,h6⟩
 · simp [execOp,hop,hit,hrun,Result.andThen]
   exact hK' _ _ (hDone h0)
 · simp [execOp,hop,hit,hrun,Result.andThen]
   exact hK' _ _ (hMore (key x) (ve v) w' ⟨x,v,cnt',rfl,rfl,h1,h2,S.chg 0 rfl (eRng key ve b r f (fun y => left y && !decide (y = x)) cnt') h5 h3 (fun g hg => .inl hg),h4,h6⟩)
theorem Sep.mapRAs {g : κ → Option β} (S : Sep n w0 (eMapR key ve b f :: es) w) (h : ∀ x,g x = f x) : Sep n w0 (eMapR key ve b g :: es) w := S.as 0 rfl (eMapR key ve b g) (fun hm => hm.congr h) (fun _ hg => hg)
end
end
end Go.Proofs.YtimdepdbcdbikaaGreat
