/-
  Words for memory: a slice that reads as a list, element by element.
  Words for memory: a map of the call's own whose keys are arrays of numbers, as a function.
  Words for memory: a block of the call's own that is known whole; rows of the call's own that grow; make and append as steps of a walk.
  Small words: cells of new blocks.
  Automata, their runs, memory: the base.
  The library's functions on slices of numbers, and the checker's own on sets.
  Automata: how they lie in memory, and the checker's look at them.
-/
import Derived.WalkKit
import Derived.WalkSpells
import Derived.WalkLawsBesides
import Derived.Deep.QuietTactic
import Derived.BigQuiet
import Derived.Lib.Hide
import Derived.Deep.DeepFit
import Derived.Deep.DeepMust
import Derived.Test.YtccfcaejlohahaaProg
import Derived.Maps.Own
import Derived.Maps.OwnOps
import Derived.Maps.AppendAt
import Derived.Deep.AppendLies
import Derived.Deep.RegionLaw
import Derived.RegionTactic
import Derived.Deep.RegionHeld3
import Derived.OwnWalk
import Derived.StillTailTactics
import Derived.Lib.SliceRun
import Derived.Calls
import Derived.Deep.RegionHeld
set_option linter.unusedSimpArgs false
set_option linter.unusedVariables false
namespace Go.Proofs.Ytccfcaejlohahaa
open Go.RowKit
set_option maxRecDepth 100000
theorem sx : (∀ (α : Type) (xs : List α) (i : Nat) (h : i < xs.toArray.size), xs.toArray[i] = xs[i]'(by simpa using h)) ∧ (∀ (α : Type) (x : α) (l : List α) (h : 0 < (x :: l).length), (x :: l)[0] = x) ∧ (∀ (α : Type) (x : α) (l : List α) (i : Nat) (h : i + 1 < (x :: l).length), (x :: l)[i + 1] = l[i]'(by simpa using h)) ∧
    (∀ (a : Act) (v : Value), a.put none v = a) ∧ (∀ (a : Act) (d : Tmp) (v : Value), a.put (some d) v = { a with tmps := a.tmps.setIfInBounds d v }) ∧ (∀ (l : List Value) (i : Nat) (v : Value), l.toArray.setIfInBounds i v = (l.set i v).toArray) ∧ (∀ (x v : Value) (l : List Value), (x :: l).set 0 v = v :: l) ∧ (∀ (x v : Value) (l : List Value) (i : Nat), (x :: l).set (i + 1) v = x :: l.set i v) :=
  ⟨fun _ _ _ _ => List.getElem_toArray .., fun _ _ _ _ => rfl, fun _ _ _ _ _ => rfl, fun _ _ => rfl, fun _ _ _ => rfl, fun _ _ _ => List.setIfInBounds_toArray .., fun _ _ _ => rfl, fun _ _ _ _ => rfl⟩
theorem tkH {P : Program} {ops : Array Oper} {Q : Exit → Act → World → Prop} {md : Region.Mode} {S : World → Prop} (i : Nat) {oi : Oper} {v : Value} {fuel : Nat} {listed : Array Bool} {a : Act} {w : World} (hi : ops[i]? = some oi) (hw : Region.wanted oi (yielded ops a.tmps) = true) (hy : ∀ w, S w → (execOp a.eval oi).run P w = .ok (.value v) w) (hS : S w)
    (h : wpAnyH P md ops Q S fuel (listed.setIfInBounds i true) (a.put oi.dst v) w) (hs : Region.noSelect ops = true := by kernel_rfl) (hf : Region.free md ops listed i = true := by kernel_rfl) (hr : (Region.ready md ops listed).contains i = true := by kernel_rfl) (hQ : ∀ c a w, Q (.panic c) (a.put oi.dst v) w → Q (.panic c) a w := by exact fun _ _ _ h => h) : wpAnyH P md ops Q S (fuel + 1) listed a w :=
  wpAnyH_take hi hs hf hr hQ (.inl ⟨hw, hy⟩) hS h
theorem rdH {P : Program} {ops : Array Oper} {Q : Exit → Act → World → Prop} {md : Region.Mode} {S : World → Prop} (i : Nat) {o : Oper} {fuel : Nat} {listed : Array Bool} {a : Act} {w : World} (ho : ops[i]? = some o)
    (h : ∀ K' : Act → World → Prop, Shut (∀ a w, S w → (S w → wpAnyH P md ops Q S fuel (listed.setIfInBounds i true) a w) → K' a w) → if Region.wanted o (yielded ops a.tmps) = true then Oper.wp P o a w K' Q else K' (a.put o.dst undef) w) (hr : Region.ready md ops listed = [i] := by kernel_rfl) : wpAnyH P md ops Q S (fuel + 1) listed a w :=
  wpAnyH_ready hr (by simp) (AllReadyH.cons ho h AllReadyH.nil)
theorem tkP {P : Program} {ops : Array Oper} {Q : Exit → Act → World → Prop} {md : Region.Mode} {S : World → Prop} (i : Nat) {oi : Oper} {v : Value} {fuel : Nat} {listed : Array Bool} {a : Act} {w : World} (hi : ops[i]? = some oi) (hS : S w)
    (h : wpAnyH P md ops Q S fuel (listed.setIfInBounds i true) (a.put oi.dst v) w) (hw : Region.wanted oi (yielded ops a.tmps) = true := by kernel_rfl) (hy : ∀ w, S w → (execOp a.eval oi).run P w = .ok (.value v) w := by (intro V hSw; clear hSw; first | (go_simp; done) | (go_simp; with_reducible rfl))) (hs : Region.noSelect ops = true := by kernel_rfl) (hf : Region.free md ops listed i = true := by kernel_rfl) (hr : (Region.ready md ops listed).contains i = true := by kernel_rfl) (hQ : ∀ c a w, Q (.panic c) (a.put oi.dst v) w → Q (.panic c) a w := by exact fun _ _ _ h => h) : wpAnyH P md ops Q S (fuel + 1) listed a w :=
  wpAnyH_take hi hs hf hr hQ (.inl ⟨hw, hy⟩) hS h
abbrev Reading (α : Type) := World → α → List Value → Prop

def SlAt {α : Type} (E : Reading α) (k : Nat) (w : World) (A : Option Addr) (l : List α) : Prop :=
 l ≠ [] → ∃ b off,A = some ⟨b,off,none⟩ ∧ b < w.heap.size ∧ ∀ i x,l[i]? = some x → ∃ vs : List Value,vs.length = k ∧ E w x vs ∧ ∀ j v,vs[j]? = some v → w.cell? ⟨b,off + i * k + j,none⟩ = some v

def Stays {α : Type} (E : Reading α) : Prop := ∀ w w' x vs,Below w.heap.size w w' → E w x vs → E w' x vs

theorem SlAt.below {α : Type} {E : Reading α} {k : Nat} {w w' : World} {A : Option Addr} {l : List α} (h : SlAt E k w A l) (hE : Stays E) (hb : Below w.heap.size w w') : SlAt E k w' A l := by
 intro hne
 obtain ⟨b,off,hA,hlt,hc⟩ := h hne
 refine ⟨b,off,hA,Nat.lt_of_lt_of_le hlt hb.size,fun i x hx => ?_⟩
 obtain ⟨vs,hk,he,hv⟩ := hc i x hx
 exact ⟨vs,hk,hE _ _ _ _ hb he,fun j v hj => (hb.cell (p := ⟨b,_,none⟩) hlt).trans (hv j v hj)⟩

theorem SlAt.nil {α : Type} {E : Reading α} {k : Nat} {w : World} {A : Option Addr} : SlAt E k w A [] := fun h => absurd rfl h

theorem SlAt.at {α : Type} {E : Reading α} {k : Nat} {w : World} {A : Option Addr} {l : List α} (h : SlAt E k w A l) {i : Nat} (hi : i < l.length) :
 ∃ b off x vs,A = some ⟨b,off,none⟩ ∧ b < w.heap.size ∧ l[i]? = some x ∧ vs.length = k ∧ E w x vs ∧ ∀ j v,vs[j]? = some v → w.cell? ⟨b,off + i * k + j,none⟩ = some v := by
 obtain ⟨b,off,hA,hlt,hc⟩ := h (by rintro rfl; simp at hi)
 obtain ⟨vs,h1,h2,h3⟩ := hc i l[i] (List.getElem?_eq_getElem hi)
 exact ⟨b,off,l[i],vs,hA,hlt,List.getElem?_eq_getElem hi,h1,h2,h3⟩

def IntE : Reading Int := fun _ x vs => vs = [.int .i64 x]
theorem IntE.stays : Stays IntE := fun _ _ _ _ _ h => h
abbrev IntsAt := SlAt IntE 1

theorem IntsAt.at {w : World} {A : Option Addr} {l : List Int} (h : IntsAt w A l) {k : Nat} (hk : k < l.length) :
 ∃ b off x,A = some ⟨b,off,none⟩ ∧ b < w.heap.size ∧ l[k]? = some x ∧ w.cell? ⟨b,off + k,none⟩ = some (.int .i64 x) := by
 obtain ⟨b,off,x,vs,hA,hlt,hx,_,hE,hc⟩ := SlAt.at h hk
 obtain rfl : vs = [.int .i64 x] := hE
 exact ⟨b,off,x,hA,hlt,hx,by simpa using hc 0 _ rfl⟩
theorem IntsAt.more {w : World} {b off : Nat} {l : List Int} (h : IntsAt w (some ⟨b,off,none⟩) l) {k : Nat} (hk : k < l.length) :
 ∃ x,l[k]? = some x ∧ w.cell? ⟨b,off + k,none⟩ = some (.int .i64 x) := by
 obtain ⟨b,off,x,hA,_,h1,h2⟩ := IntsAt.at h hk
 cases hA
 exact ⟨x,h1,h2⟩

theorem ret_int {k : IntKind} {a b : Int} (h : a = b) : Ending.returned (.int k a) = .returned (.int k b) := by rw [h]

def Says (Q : Prop) (w : World) (e : Ending) (w' : World) : Prop := ∃ r : Bool,e = .returned (.bool r) ∧ (r = true ↔ Q) ∧ w = w'
theorem Says.no {Q : Prop} {w w' : World} (h : ¬ Q) (hw : w = w') : Says Q w (.returned (.bool false)) w' := ⟨false,rfl,by simp [h],hw⟩
theorem Says.yes {Q : Prop} {w w' : World} (h : Q) (hw : w = w') : Says Q w (.returned (.bool true)) w' := ⟨true,rfl,by simp [h],hw⟩
theorem Says.no1 {Q : Prop} {w w' : World} {e : Ending} (h : Says Q w e w') : (e = .returned (.bool false) ∧ Hid (¬ Q) ∧ w = w') ∨ (e = .returned (.bool true) ∧ Hid Q ∧ w = w') := by
 obtain ⟨r,rfl,hr,rfl⟩ := h
 cases r
 · exact .inl ⟨rfl,(by simpa using hr : ¬ Q),rfl⟩
 · exact .inr ⟨rfl,hr.1 rfl,rfl⟩
theorem Says.yes1 {Q : Prop} {w w' : World} {e : Ending} (h : Says Q w e w') : (e = .returned (.bool true) ∧ Hid Q ∧ w = w') ∨ (e = .returned (.bool false) ∧ Hid (¬ Q) ∧ w = w') := h.no1.symm


def Tells (Q : Prop) (w : World) (e : Ending) (w' : World) : Prop := ∃ r : Bool,e = .returned (.bool r) ∧ (r = true ↔ Q) ∧ Below w.heap.size w w'
theorem Tells.no {Q : Prop} {w w' : World} (h : ¬ Q) (hw : Below w.heap.size w w') : Tells Q w (.returned (.bool false)) w' := ⟨false,rfl,by simp [h],hw⟩
theorem Tells.yes {Q : Prop} {w w' : World} (h : Q) (hw : Below w.heap.size w w') : Tells Q w (.returned (.bool true)) w' := ⟨true,rfl,by simp [h],hw⟩
theorem Tells.no1 {Q : Prop} {w w' : World} {e : Ending} (h : Tells Q w e w') : (e = .returned (.bool false) ∧ Hid (¬ Q) ∧ Below w.heap.size w w') ∨ (e = .returned (.bool true) ∧ Hid Q ∧ Below w.heap.size w w') := by
 obtain ⟨r,rfl,hr,hb⟩ := h
 cases r
 · exact .inl ⟨rfl,(by simpa using hr : ¬ Q),hb⟩
 · exact .inr ⟨rfl,hr.1 rfl,hb⟩
theorem Tells.yes1 {Q : Prop} {w w' : World} {e : Ending} (h : Tells Q w e w') : (e = .returned (.bool true) ∧ Hid Q ∧ Below w.heap.size w w') ∨ (e = .returned (.bool false) ∧ Hid (¬ Q) ∧ Below w.heap.size w w') := h.no1.symm
theorem _root_.Go.RowKit.Below.draws {B : Nat} {a w : World} (h : Below B a w) (n : Nat) : Below B a (w.drewN n) := ⟨h.os,h.tape,h.output,h.size,h.block⟩
theorem _root_.Go.RowKit.Below.newAt {B : Nat} {a w : World} (h : Below B a w) (hB : B ≤ w.heap.size) (o : Obj) : Below B a (w.alloc o) := h.alloc hB o
theorem Below.new (w : World) (o : Obj) : Below w.heap.size w (w.alloc o) := (Below.refl _ _).alloc (Nat.le_refl _) o
section

variable {κ : Type} [DecidableEq κ]

structure KeyOk (P : Program) (T : TypeId) (D : TypeDesc) (key : κ → Value) : Prop where
 und : P.underlying T = some D
 eq : ∀ x y w,(Op.equal T (key x) (key y)).run P w = .ok (decide (x = y)) w
 chk : ∀ em x w,(Instr.checkKey em 10000 T (key x)).run P w = .ok () w
 stay : ∀ x w,(Instr.keyThatStays (key x) (key x)).run P w = .ok (key x) w
 now : ∀ x y,Instr.sameNow D (key x) (key y) = none
 inj : ∀ x y,key x = key y → x = y

def entryOf (key : κ → Value) (x : κ × Int × Nat) : MapEntry := ⟨key x.1,.int .i64 x.2.1,x.2.2⟩
def valOf (l : List (κ × Int × Nat)) (x : κ) : Option Int := (l.find? fun e => decide (e.1 = x)).map (·.2.1)

def MapAt (key : κ → Value) (w : World) (b : Nat) (f : κ → Option Int) : Prop :=
 ∃ (l : List (κ × Int × Nat)) (clock : Nat),w.heap[b]? = some (.map (l.map (entryOf key)).toArray clock) ∧ ∀ x,f x = valOf l x

theorem MapAt.made (key : κ → Value) (w : World) : MapAt key (w.alloc (.map #[] 0)) w.heap.size (fun _ => none) :=
 ⟨[],0,(MapKept.heap_alloc w _).1,fun _ => rfl⟩
theorem MapAt.congr {key : κ → Value} {w : World} {b : Nat} {f g : κ → Option Int} (h : MapAt key w b f) (hg : ∀ x,g x = f x) : MapAt key w b g := by
 obtain ⟨l,c,h1,h2⟩ := h
 exact ⟨l,c,h1,fun x => (hg x).trans (h2 x)⟩
theorem MapAt.lt {key : κ → Value} {w : World} {b : Nat} {f : κ → Option Int} (h : MapAt key w b f) : b < w.heap.size := by
 obtain ⟨l,c,hb,_⟩ := h
 exact (Array.getElem?_eq_some_iff.1 hb).1
theorem MapAt.below {key : κ → Value} {w w' : World} {b B : Nat} {f : κ → Option Int} (h : MapAt key w b f) (hb : Below B w w') (hlt : b < B) : MapAt key w' b f := by
 obtain ⟨l,c,h1,h2⟩ := h
 exact ⟨l,c,(hb.block b hlt).trans h1,h2⟩
theorem MapAt.alloc {key : κ → Value} {w : World} {b : Nat} {f : κ → Option Int} (h : MapAt key w b f) (o : Obj) : MapAt key (w.alloc o) b f :=
 h.below (Below.new w o) h.lt

theorem findAsking_run {P : Program} {T : TypeId} {D : TypeDesc} {key : κ → Value} (K : KeyOk P T D key) (x : κ) (w : World) : ∀ (l : List (κ × Int × Nat)) (i : Nat),
 (Instr.findAsking T (key x) (l.map (entryOf key)) i).run P w = .ok ((l.findIdx? (fun e => decide (e.1 = x))).bind fun j => (l[j]?).map fun e => (i + j,Value.int .i64 e.2.1)) w := by
 intro l
 induction l with
 | nil => intro i; simp [Instr.findAsking]
 | cons e l ih =>
   intro i
   simp only [List.map_cons,Instr.findAsking,entryOf,List.findIdx?_cons]
   have hq : (Op.equal T (key x) (key e.1)).run P w = .ok (decide (e.1 = x)) w := by rw [K.eq]; congr 1; simp [eq_comm]
   by_cases h : e.1 = x
   · rw [Sem.run_bind,hq]
     simp [Result.andThen,h]
   · simp only [Sem.run_bind,hq,Result.andThen,h,decide_false]
     rw [show (if (false : Bool) = true then (pure (some (i,Value.int IntKind.i64 e.2.1)) : Sem _) else Instr.findAsking T (key x) (l.map (entryOf key)) (i + 1)) = Instr.findAsking T (key x) (l.map (entryOf key)) (i + 1) from by simp]
     rw [ih]
     cases h2 : l.findIdx? (fun e => decide (e.1 = x)) with
     | none => simp
     | some j => simp [Nat.add_assoc,Nat.add_comm 1 j]

theorem valOf_none {l : List (κ × Int × Nat)} {x : κ} (h : l.findIdx? (fun e => decide (e.1 = x)) = none) : valOf l x = none := by
 have := List.findIdx?_eq_none_iff.1 h
 simp only [valOf,Option.map_eq_none_iff]
 exact List.find?_eq_none.2 (fun e he => by simpa using this e he)
theorem valOf_some {l : List (κ × Int × Nat)} {x : κ} {j : Nat} (h : l.findIdx? (fun e => decide (e.1 = x)) = some j) : ∃ e,l[j]? = some e ∧ e.1 = x ∧ valOf l x = some e.2.1 ∧ j < l.length := by
 obtain ⟨hj,h1,h2⟩ := List.findIdx?_eq_some_iff_getElem.1 h
 refine ⟨l[j],List.getElem?_eq_getElem hj,by simpa using h1,?_,hj⟩
 have h3 : l.find? (fun e => decide (e.1 = x)) = some l[j] := by
  rw [List.find?_eq_some_iff_getElem]
  exact ⟨h1,j,hj,rfl,fun k hk => by simpa using h2 k hk⟩
 simp [valOf,h3]

theorem findKey_run {P : Program} {T : TypeId} {D : TypeDesc} {key : κ → Value} (K : KeyOk P T D key) (x : κ) (w : World) (l : List (κ × Int × Nat)) :
 (Instr.findKey T (key x) (l.map (entryOf key))).run P w = .ok ((l.findIdx? (fun e => decide (e.1 = x))).bind fun j => (l[j]?).map fun e => (j,Value.int .i64 e.2.1)) w := by
 cases l with
 | nil => simp [Instr.findKey,run_underlying K.und,Instr.findNow]
 | cons e l =>
   have := findAsking_run K x w (e :: l) 0
   simp only [Nat.zero_add] at this
   have hn : Instr.findNow D (key x) ((e :: l).map (entryOf key)) 0 = none := by simp [Instr.findNow,entryOf,K.now]
   simp only [Instr.findKey,Sem.run_bind,run_underlying K.und,Result.andThen,hn]
   exact this

theorem MapAt.look {P : Program} {M T E : TypeId} {D : TypeDesc} {key : κ → Value} (K : KeyOk P T D key) (hM : P.underlying M = some (.map T E)) (hz : ∀ w,(zeroValue E).run P w = .ok (.int .i64 0) w)
 {w : World} {b : Nat} {f : κ → Option Int} (h : MapAt key w b f) (x : κ) :
 (Instr.lookup M (.map (some b)) (key x) true).run P w = .ok (.tuple #[.int .i64 ((f x).getD 0),.bool (f x).isSome]) w := by
 obtain ⟨l,c,hb,hf⟩ := h
 have hk := findKey_run K x w l
 cases hj : l.findIdx? (fun e => decide (e.1 = x)) with
 | none =>
   rw [hj] at hk
   simp only [Option.bind_none] at hk
   simp [Instr.lookup,run_underlying hM,MapKept.run_getObj_map hb,K.chk,hk,hz,hf,valOf_none hj,Result.andThen]
 | some j =>
   obtain ⟨e,he,h1,h2,h3⟩ := valOf_some hj
   rw [hj] at hk
   simp only [Option.bind_some,he,Option.map_some] at hk
   simp [Instr.lookup,run_underlying hM,MapKept.run_getObj_map hb,K.chk,hk,hf,h2,Result.andThen]

theorem find_modify {l : List (κ × Int × Nat)} {x : κ} {j : Nat} {e : κ × Int × Nat} (hj : l.findIdx? (fun e => decide (e.1 = x)) = some j) (he : l[j]? = some e) (v : Int) (y : κ) :
 valOf (l.set j (e.1,v,e.2.2)) y = if y = x then some v else valOf l y := by
 induction l generalizing j with
 | nil => simp at hj
 | cons a l ih =>
   rw [List.findIdx?_cons] at hj
   by_cases ha : a.1 = x
   · simp only [ha,decide_true,if_true,Option.some.injEq] at hj
     subst hj
     simp only [List.getElem?_cons_zero,Option.some.injEq] at he
     subst he
     by_cases hy : y = x
     · subst hy; simp [valOf,ha]
     · have : ¬ a.1 = y := fun h => hy (by rw [← h,ha])
       simp [valOf,this,hy]
   · simp only [ha,decide_false,Bool.false_eq_true,if_false,Option.map_eq_some_iff] at hj
     obtain ⟨j',hj',rfl⟩ := hj
     have := ih hj' (by simpa using he)
     by_cases hy : a.1 = y
     · subst hy; simp [valOf,ha]
     · simp only [valOf,List.set_cons_succ,List.find?_cons,hy,decide_false] at this ⊢
       exact this
theorem find_push {l : List (κ × Int × Nat)} {x : κ} (hj : l.findIdx? (fun e => decide (e.1 = x)) = none) (v : Int) (n : Nat) (y : κ) :
 valOf (l ++ [(x,v,n)]) y = if y = x then some v else valOf l y := by
 by_cases hy : y = x
 · subst hy
   have := List.findIdx?_eq_none_iff.1 hj
   have h2 : l.find? (fun e => decide (e.1 = y)) = none := List.find?_eq_none.2 (fun e he => by simpa using this e he)
   simp [valOf,List.find?_append,h2]
 · have : ¬ x = y := fun h => hy h.symm
   simp [valOf,List.find?_append,this,hy]

theorem MapAt.store {P : Program} {M T E : TypeId} {D : TypeDesc} {key : κ → Value} (K : KeyOk P T D key) (hM : P.underlying M = some (.map T E))
 {w : World} {b : Nat} {f : κ → Option Int} (h : MapAt key w b f) (x : κ) (v : Int) :
 ∃ w',(Instr.mapUpdate M (.map (some b)) (key x) (.int .i64 v)).run P w = .ok () w' ∧ MapAt key w' b (fun y => if y = x then some v else f y) ∧ w.grownBy w' (some b) := by
 obtain ⟨l,c,hb,hf⟩ := h
 have hk := findKey_run K x w l
 cases hj : l.findIdx? (fun e => decide (e.1 = x)) with
 | none =>
   rw [hj] at hk
   simp only [Option.bind_none] at hk
   refine ⟨ChangeMaps.setBlock w b (.map ((l ++ [(x,v,c)]).map (entryOf key)).toArray (c + 1)),?_,⟨l ++ [(x,v,c)],c + 1,ChangeMaps.heap_setBlock_same hb _,fun y => by rw [find_push hj]; simp only [hf]⟩,
    ⟨rfl,rfl,rfl,by simp [ChangeMaps.setBlock],fun i _ hi => ChangeMaps.heap_setBlock_other hb _ (fun e => hi (by rw [e]))⟩⟩
   simp [Instr.mapUpdate,run_underlying hM,MapKept.run_getObj_map hb,K.chk,hk,MapKept.run_setObj_map _ hb,Result.andThen,ChangeMaps.setBlock,entryOf]
 | some j =>
   obtain ⟨e,he,h1,h2,h3⟩ := valOf_some hj
   rw [hj] at hk
   simp only [Option.bind_some,he,Option.map_some] at hk
   refine ⟨ChangeMaps.setBlock w b (.map ((l.set j (e.1,v,e.2.2)).map (entryOf key)).toArray c),?_,⟨l.set j (e.1,v,e.2.2),c,ChangeMaps.heap_setBlock_same hb _,fun y => by rw [find_modify hj he]; simp only [hf]⟩,
    ⟨rfl,rfl,rfl,by simp [ChangeMaps.setBlock],fun i _ hi => ChangeMaps.heap_setBlock_other hb _ (fun e => hi (by rw [e]))⟩⟩
   have hm : (l.map (entryOf key)).modify j (fun e' => { key := key x,val := .int .i64 v,born := e'.born }) = (l.set j (x,v,e.2.2)).map (entryOf key) := by
    apply List.ext_getElem?
    intro i
    rw [List.getElem?_modify]
    simp only [List.getElem?_map,List.getElem?_set]
    by_cases hij : j = i
    · subst hij
      rw [he]
      simp [h3,entryOf]
    · simp [hij]
   simp [Instr.mapUpdate,run_underlying hM,MapKept.run_getObj_map hb,K.chk,hk,he,entryOf,h1,K.stay,MapKept.run_setObj_map _ hb,Result.andThen,ChangeMaps.setBlock]
   exact congrArg (fun q => w.heap.setIfInBounds b (Obj.map (List.toArray q) c)) (by rw [hm,List.map_set]; rfl)

theorem wpList_mapUpdate_at {P : Program} (w : World) {ops : Array Oper} {rest : List Oper} {o : Oper} {a : Act} {Q : Exit → Act → World → Prop}
 (hg : o.guard = none) (m x v : Operand) (M T E : TypeId) (hop : o.op = Op.mapUpdate M m x v) (D : TypeDesc) (key : κ → Value) (K : KeyOk P T D key) (hM : P.underlying M = some (.map T E))
 (b : Nat) (f : κ → Option Int) (y : κ) (z : Int) (hm : a.eval m = .map (some b)) (h : MapAt key w b f) (hx : a.eval x = key y) (hv : a.eval v = .int .i64 z)
 (hK : ∀ w',MapAt key w' b (fun u => if u = y then some z else f u) → w.grownBy w' (some b) → wpList P ops Q rest (a.put o.dst undef) w') :
 wpList P ops Q (o :: rest) a w := by
 refine wpList_plain hg fun K' hK' => ?_
 obtain ⟨w',hrun,r1,r2⟩ := h.store K hM y z
 unfold Oper.wp
 simp [execOp,hop,hm,hx,hv,hrun,Result.andThen]
 exact hK' _ _ (hK w' r1 r2)

def key2 (x : Int × Int) : Value := .agg #[.int .i64 x.1,.int .i64 x.2]
def key3 (x : Int × Int × Int) : Value := .agg #[.int .i64 x.1,.int .i64 x.2.1,.int .i64 x.2.2]
end
section

def BlkAt (w : World) (g : Nat) (T : TypeId) (cs : List Value) : Prop := w.heap[g]? = some (.cells cs.toArray T (0,0))
section
variable {w w' : World} {g : Nat} {T : TypeId} {cs : List Value}
theorem BlkAt.lt (h : BlkAt w g T cs) : g < w.heap.size := (Array.getElem?_eq_some_iff.1 h).1
theorem BlkAt.cell (h : BlkAt w g T cs) (i : Nat) : w.cell? ⟨g,i,none⟩ = cs[i]? := by rw [cell_of_row w g i cs.toArray T (0,0) h]; simp
theorem BlkAt.free (h : BlkAt w g T cs) (i : Nat) : w.frozen? ⟨g,i,none⟩ = false := frozen_of_row w g i cs.toArray T h
theorem BlkAt.new (w : World) (T : TypeId) (cs : List Value) : BlkAt (w.alloc (.cells cs.toArray T)) w.heap.size T cs := heap_alloc_new w _
theorem BlkAt.below {B : Nat} (h : BlkAt w g T cs) (hb : Below B w w') (hg : g < B) : BlkAt w' g T cs := (hb.block g hg).trans h
theorem BlkAt.alloc (h : BlkAt w g T cs) (o : Obj) : BlkAt (w.alloc o) g T cs := h.below (Below.new w o) h.lt
theorem BlkAt.draws (h : BlkAt w g T cs) (n : Nat) : BlkAt (w.drewN n) g T cs := h
theorem BlkAt.grown {row : Option Nat} (h : BlkAt w g T cs) (hb : w.grownBy w' row) (hg : some g ≠ row) : BlkAt w' g T cs := (hb.block g h.lt hg).trans h
theorem BlkAt.far (h : BlkAt w g T cs) {p : Addr} (hp : g ≠ p.block) (u : Value) : BlkAt (w.setCell p u) g T cs := (Below.heap_setCell w p u g hp).trans h
theorem BlkAt.set_ (h : BlkAt w g T cs) (i : Nat) (u : Value) : BlkAt (w.setCell ⟨g,i,none⟩ u) g T (cs.set i u) := by
 unfold BlkAt at h ⊢
 simp [World.setCell,Array.getElem?_modify,h]
end

theorem make_run {P : Program} (t e : TypeId) (z : Value) (bytes : Nat) (ht : P.underlying t = some (.slice e)) (hi : (P.info? e).map (fun i => (i.zero,i.size,i.bytes)) = some (some z,1,bytes)) (hz : z.cells = #[z])
 (n : Nat) (hb : bytes * n ≤ 281474976710656) (hn : n ≤ 9223372036854775807) (u : World) :
 (Instr.makeSlice t (.int .i64 (n : Int)) (.int .i64 (n : Int))).run P u = .ok (.slice (some ⟨u.heap.size,0,none⟩) n n) (u.alloc (.cells (List.replicate n z).toArray e)) := by
 obtain ⟨i0,hi0,h1,h2,h3⟩ := info_parts hi
 have h := run_make (P := P) u t e i0 z ht hi0 h1 .i64 .i64 (n : Int) (n : Int) (by omega) (Int.le_refl _) (by rw [h3]; exact Int.ofNat_le.2 hb) (by omega)
 have hm : madeCells #[z] n = (List.replicate n z).toArray := by rw [← toList_madeCells_one]
 rw [hz,h2] at h
 simp only [Int.toNat_natCast,Nat.mul_one,hm] at h
 exact h

theorem own_form {w : World} {base size n : Nat} {e : TypeId} {v : Value} {xs : List Value} (h : w.ownsRow base e size v n xs) : ∃ A c,v = .slice A n c := by
 rcases h.2 with ⟨rfl,rfl⟩ | ⟨g,cap,cur,rfl,_⟩
 · exact ⟨none,0,rfl⟩
 · exact ⟨_,_,rfl⟩
theorem own_ne {w : World} {base size n : Nat} {e : TypeId} {v : Value} {xs : List Value} (h : w.ownsRow base e size v n xs) {bo : Nat} (hb : bo < base) : some bo ≠ v.ownBlock := fun e => by have := (h.lt bo e.symm).1; omega
theorem own_keeps {w w1 : World} {base size n : Nat} {e : TypeId} {v : Value} {xs : List Value} (h : w.ownsRow base e size v n xs) {bo : Nat} (hb : bo < base) (hg : w.grownBy w1 v.ownBlock) (hlt : bo < w.heap.size) (i : Nat) :
 w1.cell? ⟨bo,i,none⟩ = w.cell? ⟨bo,i,none⟩ ∧ w1.frozen? ⟨bo,i,none⟩ = w.frozen? ⟨bo,i,none⟩ :=
 ⟨World.cell?_of_block (a := ⟨bo,i,none⟩) (hg.block bo hlt (own_ne h hb)),World.frozen?_of_block (a := ⟨bo,i,none⟩) (hg.block bo hlt (own_ne h hb))⟩

theorem own_cell {w0 w w1 : World} {v : Value} (hg : w.grownBy w1 v.ownBlock) {B : Nat} (hB : Below B w0 w) {base size n : Nat} {e : TypeId} {xs : List Value} (h : w.ownsRow base e size v n xs) {bo : Nat} (hb : bo < base) (hlt : bo < B) (hsz : bo < w0.heap.size) (i : Nat) :
 w1.cell? ⟨bo,i,none⟩ = w0.cell? ⟨bo,i,none⟩ ∧ w1.frozen? ⟨bo,i,none⟩ = w0.frozen? ⟨bo,i,none⟩ := by
 obtain ⟨h1,h2⟩ := own_keeps h hb hg (Nat.lt_of_lt_of_le hsz hB.size) i
 exact ⟨h1.trans (hB.cell (p := ⟨bo,i,none⟩) hlt),h2.trans (hB.frozen (p := ⟨bo,i,none⟩) hlt)⟩

theorem new_cells {W : World} {cs : List Value} {T : TypeId} {g : Nat} (hg : g = W.heap.size) (j : Nat) (u : Value) (hj : cs[j]? = some u) : (W.alloc (.cells cs.toArray T)).cell? (Addr.add ⟨g,0,none⟩ j) = some u := by
 subst hg
 have h := (BlkAt.new W T cs).cell j
 rw [hj] at h
 unfold Addr.add
 split
 · rename_i h0; subst h0; exact h
 · simpa using h

theorem step_append_at {P : Program} {w : World} {ops : Array Oper} {o : Oper} {a : Act} {K : Act → World → Prop} {Q : Exit → Act → World → Prop} {E : Prop} (hgd : o.guard = none) (s x : Operand) (t : TypeId)
 (ho : o.op = .call { callee := .builtin .append,args := #[s,x],argTypes := #[t,t] })
 (base : Nat) (e : TypeId) (z : Value) (size bytes : Nat) (ht : P.underlying t = some (.slice e)) (hi : (P.info? e).map (fun i => (i.zero,i.size,i.bytes)) = some (some z,size,bytes))
 (hzs : z.cells.size = size) (hsz : 0 < size)
 (v : Value) (n : Nat) (xs : List Value) (hs : a.eval s = v) (hown : w.ownsRow base e size v n xs)
 (ad : Addr) (m c : Nat) (news : List Value) (hx : a.eval x = .slice (some ad) m c) (hl : news.length = m * size) (hnews : ∀ j u,news[j]? = some u → w.cell? (ad.add j) = some u) (h1 : ∀ u ∈ news,u.oneCell' = true)
 (h63 : n + m ≤ maxLen) (hbytes : (n + m) * bytes ≤ 140737488355328) (hbase : base ≤ w.heap.size)
 (h : ∀ A' c' w',w'.ownsRow base e size (.slice A' (n + m) c') (n + m) (xs ++ news) → w.grownBy w' v.ownBlock → ((Value.slice A' (n + m) c').ownBlock = v.ownBlock ∨ (Value.slice A' (n + m) c').ownBlock = some w.heap.size) → K (a.put o.dst (.slice A' (n + m) c')) w') :
 if Region.wanted o (yielded ops a.tmps) = true then Oper.wp P o a w K Q else E := by
 obtain ⟨i0,hi0,hz,hsize,hby⟩ := info_parts hi
 have hw : Region.wanted o (yielded ops a.tmps) = true := by simp [Region.wanted,hgd]
 rw [if_pos hw]
 obtain ⟨v',w',hrun,h2,h3,_,h5⟩ := run_append_own_at (P := P) w base t o.type e i0 z size bytes ht hi0 hz hsize hby hzs hsz v n xs hown ad m c news hl hnews h1 h63 hbytes hbase
 unfold Oper.wp execOp
 simp only [ho,resolve,invoke,builtin,Sem.run_bind,Sem.run_pure,Result.andThen_ok,List.map_toArray,List.map_cons,List.map_nil,hs,hx,hrun]
 obtain ⟨A',c',rfl⟩ := own_form h2
 exact h A' c' w' h2 h3 h5

structure Gathers (T E size : Nat) (w : World) (bo base n : Nat) (len : Nat → Nat) (xs : Nat → List Value) : Prop where
 ex : ∃ vs : List Value,BlkAt w bo T vs ∧ vs.length = n ∧ (∀ i v,vs[i]? = some v → w.ownsRow base E size v (len i) (xs i)) ∧
  (∀ (i j : Nat) vi vj (g : Nat),i ≠ j → vs[i]? = some vi → vs[j]? = some vj → vi.ownBlock = some g → vj.ownBlock ≠ some g)

theorem Gathers.below {T E size : Nat} {w w' : World} {bo base n B : Nat} {len : Nat → Nat} {xs : Nat → List Value} (h : Gathers T E size w bo base n len xs) (hb : Below B w w') (hB : w.heap.size ≤ B) : Gathers T E size w' bo base n len xs := by
 obtain ⟨vs,h1,h2,h3,h4⟩ := h.ex
 refine ⟨vs,h1.below hb (Nat.lt_of_lt_of_le h1.lt hB),h2,fun i v hi => ?_,h4⟩
 have ho := h3 i v hi
 refine ⟨ho.1,?_⟩
 rcases ho.2 with h | ⟨g,cap,cur,r1,r2,r3,r4⟩
 · exact .inl h
 · have hg := (Array.getElem?_eq_some_iff.1 r3).1
   exact .inr ⟨g,cap,cur,r1,r2,(hb.block g (by omega)).trans r3,r4⟩

theorem Gathers.step {T E size : Nat} {w w1 : World} {bo base n : Nat} {len : Nat → Nat} {xs : Nat → List Value} (h : Gathers T E size w bo base n len xs) (hbo : bo < base) {s : Nat} {v v' : Value} (hs : s < n)
 (hv : w.cell? ⟨bo,s,none⟩ = some v) {m : Nat} {ys : List Value} (h' : w1.ownsRow base E size v' m ys) (hg : w.grownBy w1 v.ownBlock) (hb : v'.ownBlock = v.ownBlock ∨ v'.ownBlock = some w.heap.size)
 {len' : Nat → Nat} {xs' : Nat → List Value} (hlen : len' s = m) (hxs : xs' s = ys) (hlen' : ∀ i,i ≠ s → len' i = len i) (hxs' : ∀ i,i ≠ s → xs' i = xs i) :
 Gathers T E size (w1.setCell ⟨bo,s,none⟩ v') bo base n len' xs' := by
 obtain ⟨vs,h1,h2,h3,h4⟩ := h.ex
 have hvs : vs[s]? = some v := by rw [← h1.cell,hv]
 have hne : ∀ (i : Nat) (u : Value),vs[i]? = some u → u.ownBlock ≠ some bo := fun i u hu e => by have := ((h3 i u hu).lt bo e).1; omega
 have hb1 : BlkAt w1 bo T vs := h1.grown hg (fun e => hne s v hvs e.symm)
 have hset : ∀ {u : Value} {k : Nat} {zs : List Value},w1.ownsRow base E size u k zs → (w1.setCell ⟨bo,s,none⟩ v').ownsRow base E size u k zs := fun ho => ownsRow_setCell_below ho hbo _
 refine ⟨vs.set s v',hb1.set_ s v',by simpa using h2,fun i u hu => ?_,fun i j vi vj g hij hi hj => ?_⟩
 · by_cases e : i = s
   · subst e
     rw [List.getElem?_set] at hu
     simp only [if_true,h2,hs,Option.some.injEq] at hu
     subst hu
     rw [hlen,hxs]
     exact hset h'
   · rw [List.getElem?_set_ne (fun h => e h.symm)] at hu
     rw [hlen' i e,hxs' i e]
     refine hset ((h3 i u hu).kept hg ?_)
     cases hb : u.ownBlock with
     | none => exact .inl rfl
     | some g => exact .inr (fun h => h4 i s u v g e hu hvs hb h.symm)
 · have key : ∀ (j : Nat) (vj : Value),j ≠ s → vs[j]? = some vj → ∀ g,vj.ownBlock = some g → v'.ownBlock ≠ some g := fun j vj hj hvj g hg' hv' => by
    rcases hb with e | e
    · exact h4 j s vj v g hj hvj hvs hg' (by rw [← e,hv'])
    · rw [e] at hv'; cases hv'
      have := ((h3 j vj hvj).lt _ hg').2; omega
   intro hgi hgj
   by_cases ei : i = s
   · subst ei
     rw [List.getElem?_set] at hi
     simp only [if_true,h2,hs,Option.some.injEq] at hi
     subst hi
     rw [List.getElem?_set_ne hij] at hj
     exact key j vj (fun h => hij h.symm) hj g hgj hgi
   · rw [List.getElem?_set_ne (fun h => ei h.symm)] at hi
     by_cases ej : j = s
     · subst ej
       rw [List.getElem?_set] at hj
       simp only [if_true,h2,hs,Option.some.injEq] at hj
       subst hj
       exact key i vi ei hi g hgi hgj
     · rw [List.getElem?_set_ne (fun h => ej h.symm)] at hj
       exact h4 i j vi vj g hij hi hj hgi hgj

theorem Gathers.made {T E size : Nat} (w : World) (n base : Nat) :
 Gathers T E size (w.alloc (.cells (List.replicate n (.slice none 0 0)).toArray T)) w.heap.size base n (fun _ => 0) (fun _ => []) := by
 refine ⟨List.replicate n (.slice none 0 0),BlkAt.new w T _,by simp,fun i v hi => ?_,fun i j vi vj g hij hi hj hg => ?_⟩
 · have : v = .slice none 0 0 := by
    have := List.mem_of_getElem? hi
    simpa using (List.eq_of_mem_replicate this)
   subst this
   exact ⟨by simp,.inl ⟨rfl,rfl⟩⟩
 · have : vi = .slice none 0 0 := List.eq_of_mem_replicate (List.mem_of_getElem? hi)
   subst this
   simp [Value.ownBlock] at hg

theorem Gathers.row {T E size : Nat} {w : World} {bo base n : Nat} {len : Nat → Nat} {xs : Nat → List Value} (h : Gathers T E size w bo base n len xs) {s : Nat} (hs : s < n) :
 ∃ v,w.cell? ⟨bo,s,none⟩ = some v ∧ w.frozen? ⟨bo,s,none⟩ = false ∧ w.ownsRow base E size v (len s) (xs s) := by
 obtain ⟨vs,h1,h2,h3,_⟩ := h.ex
 have hv : vs[s]? = some vs[s] := List.getElem?_eq_getElem (by omega)
 exact ⟨vs[s],by rw [h1.cell,hv],h1.free s,h3 s _ hv⟩
end
theorem new_cell (W : World) (T : TypeId) (cs : List Value) (g i : Nat) (hg : g = W.heap.size) : (W.alloc (.cells cs.toArray T)).cell? ⟨g,i,none⟩ = cs[i]? := by
 subst hg
 rw [cell_of_row _ _ i cs.toArray T (0,0) (heap_alloc_new W _)]; simp
theorem alloc_cell (W : World) (o : Obj) (g i : Nat) (h : g < W.heap.size) : (W.alloc o).cell? ⟨g,i,none⟩ = W.cell? ⟨g,i,none⟩ := World.cell?_alloc_lt W o ⟨g,i,none⟩ h
theorem old_cell {w W : World} (hb : Below w.heap.size w W) {g i : Nat} {v : Value} (h : w.cell? ⟨g,i,none⟩ = some v) (hg : g < w.heap.size) : W.cell? ⟨g,i,none⟩ = some v := (hb.cell (p := ⟨g,i,none⟩) hg).trans h
section

def setOk (l : List Int) (n : Int) (k : Nat) : Prop := ∀ i x,i < k → l[i]? = some x → 0 ≤ x ∧ x < n ∧ (∀ y,0 < i → l[i-1]? = some y → y < x)
theorem setOk.step {l : List Int} {n : Int} {k : Nat} {x : Int} (h : setOk l n k) (hx : l[k]? = some x) (h0 : 0 ≤ x) (h1 : x < n) (h2 : ∀ y,0 < k → l[k-1]? = some y → y < x) : setOk l n (k+1) := by
 intro i z hi hz
 by_cases e : i = k
 · subst e; rw [hx] at hz; cases hz; exact ⟨h0,h1,h2⟩
 · exact h i z (by omega) hz
theorem setOk.not1 {l : List Int} {n : Int} {k m : Nat} {x : Int} (hx : l[k]? = some x) (hm : k < m) (h : ¬ (0 ≤ x ∧ x < n)) : ¬ setOk l n m := fun hs => h ⟨(hs k x hm hx).1,(hs k x hm hx).2.1⟩
theorem setOk.not2 {l : List Int} {n : Int} {k m : Nat} {x y : Int} (hx : l[k]? = some x) (hm : k < m) (h0 : 0 < k) (hy : l[k-1]? = some y) (h : x ≤ y) : ¬ setOk l n m := fun hs => absurd ((hs k x hm hx).2.2 y h0 hy) (by omega)
def incr (l : List Int) : Prop := ∀ (i j : Nat) (x y : Int),i < j → l[i]? = some x → l[j]? = some y → x < y
theorem setOk.incr {l : List Int} {n : Int} (h : setOk l n l.length) : incr l := by
 intro i j x y hij hx hy
 have hj : j < l.length := (List.getElem?_eq_some_iff.1 hy).1
 induction j generalizing y with
 | zero => omega
 | succ j ih =>
   have hz : l[j]? = some l[j] := List.getElem?_eq_getElem (by omega)
   have h1 := (h (j+1) y hj hy).2.2 l[j] (by omega) hz
   by_cases e : i = j
   · subst e; rw [hx] at hz; cases hz; exact h1
   · have := ih l[j] (by omega) hz (by omega); omega
theorem incr.found {l : List Int} {p : Nat} {x y : Int} (hs : Go.Proofs.Ytccfcaejlohahaa.incr l) (hy : l[p]? = some y) (h1 : ∀ t z,t < p → l[t]? = some z → z < x) (h2 : x ≤ y) : x ∈ l ↔ y = x := by
 constructor
 · intro hm
   obtain ⟨t,ht,hx⟩ := List.mem_iff_getElem.1 hm
   have hx' : l[t]? = some x := by rw [List.getElem?_eq_getElem ht,hx]
   by_cases h : t < p
   · have := h1 t x h hx'; omega
   · by_cases e : t = p
     · subst e; rw [hy] at hx'; cases hx'; rfl
     · have := hs p t y x (by omega) hy hx'; omega
 · rintro rfl; exact List.mem_of_getElem? hy
theorem not_mem_of_less {l : List Int} {x : Int} (h : ∀ t z,t < l.length → l[t]? = some z → z < x) : ¬ x ∈ l := by
 intro hm
 obtain ⟨t,ht,hx⟩ := List.mem_iff_getElem.1 hm
 have := h t x ht (by rw [List.getElem?_eq_getElem ht,hx]); omega

structure Ed where
 src : Int
 ev : Int
 dst : Int
deriving DecidableEq
def EdE : Reading Ed := fun _ x vs => vs = [.int .i64 x.src,.int .i64 x.ev,.int .i64 x.dst]
theorem EdE.stays : Stays EdE := fun _ _ _ _ _ h => h
abbrev EdsAt := SlAt EdE 3
theorem EdsAt.at {w : World} {A : Option Addr} {l : List Ed} (h : EdsAt w A l) {k : Nat} (hk : k < l.length) :
 ∃ b off x,A = some ⟨b,off,none⟩ ∧ b < w.heap.size ∧ l[k]? = some x ∧ w.cell? ⟨b,off + k * 3,none⟩ = some (.int .i64 x.src) ∧ w.cell? ⟨b,off + k * 3 + 1,none⟩ = some (.int .i64 x.ev) ∧ w.cell? ⟨b,off + k * 3 + 2,none⟩ = some (.int .i64 x.dst) := by
 obtain ⟨b,off,x,vs,hA,hlt,hx,_,hE,hc⟩ := SlAt.at h hk
 obtain rfl : vs = _ := hE
 exact ⟨b,off,x,hA,hlt,hx,by simpa using hc 0 _ rfl,hc 1 _ rfl,hc 2 _ rfl⟩
theorem EdsAt.more {w : World} {b off : Nat} {l : List Ed} (h : EdsAt w (some ⟨b,off,none⟩) l) {k : Nat} (hk : k < l.length) :
 ∃ x,l[k]? = some x ∧ w.cell? ⟨b,off + k * 3,none⟩ = some (.int .i64 x.src) ∧ w.cell? ⟨b,off + k * 3 + 1,none⟩ = some (.int .i64 x.ev) ∧ w.cell? ⟨b,off + k * 3 + 2,none⟩ = some (.int .i64 x.dst) := by
 obtain ⟨b,off,x,hA,_,h1,h2⟩ := EdsAt.at h hk
 cases hA
 exact ⟨x,h1,h2⟩
structure Au where
 al : List Int
 n : Int
 mr : List Int
 ed : List Ed
structure AuP where
 A1 : Option Addr
 c1 : Nat
 A2 : Option Addr
 c2 : Nat
 A3 : Option Addr
 c3 : Nat
abbrev Au.val (a : Au) (p : AuP) : Value := .agg #[.slice p.A1 a.al.length p.c1,.int .i64 a.n,.slice p.A2 a.mr.length p.c2,.slice p.A3 a.ed.length p.c3]
structure Au.At (w : World) (a : Au) (p : AuP) : Prop where
 al : IntsAt w p.A1 a.al
 mr : IntsAt w p.A2 a.mr
 ed : EdsAt w p.A3 a.ed
 lal : a.al.length ≤ 140737488355328
 lmk : a.mr.length ≤ 140737488355328
 led : a.ed.length ≤ 140737488355328
theorem Au.At.below {w w' : World} {a : Au} {p : AuP} (h : Au.At w a p) (hb : Below w.heap.size w w') : Au.At w' a p :=
 ⟨h.al.below IntE.stays hb,h.mr.below IntE.stays hb,h.ed.below EdE.stays hb,h.lal,h.lmk,h.led⟩
def edOk (a : Au) (i : Nat) : Prop := ∀ x,a.ed[i]? = some x → 0 ≤ x.src ∧ x.src < a.n ∧ 0 ≤ x.dst ∧ x.dst < a.n ∧ x.ev ∈ a.al ∧ (∀ y,0 < i → a.ed[i-1]? = some y → y.src < x.src ∨ y.src = x.src ∧ y.ev < x.ev)
structure Au.Right (a : Au) : Prop where
 al : setOk a.al 32 a.al.length
 n0 : 0 ≤ a.n
 n1 : a.n ≤ 4096
 mr : setOk a.mr a.n a.mr.length
 ed : ∀ i,i < a.ed.length → edOk a i

def stepOf (l : List Ed) (y : Int × Int) : Option Int := (l.reverse.find? fun e => decide ((e.src,e.ev) = y)).map (·.dst)
theorem stepOf_snoc (l : List Ed) (x : Ed) (y : Int × Int) : stepOf (l ++ [x]) y = if y = (x.src,x.ev) then some x.dst else stepOf l y := by
 by_cases h : y = (x.src,x.ev)
 · subst h; simp [stepOf]
 · have : ¬ (x.src,x.ev) = y := fun h2 => h h2.symm
   simp [stepOf,this,h]
def Maps {κ : Type} [DecidableEq κ] (key : κ → Value) (f : κ → Option Int) (w : World) (e : Ending) (w' : World) : Prop := ∃ b,e = .returned (.map (some b)) ∧ w.heap.size ≤ b ∧ MapAt key w' b f ∧ Below w.heap.size w w'
def toV (f : Int × Int → Option Int) (s e : Int) : Int := (f (s,e)).getD (-1)
def followV (f : Int × Int → Option Int) (s : Int) : List Int → Int
 | [] => s
 | e :: r => if toV f s e = -1 then -1 else followV f (toV f s e) r

def RowE {α : Type} (E : Reading α) (k : Nat) : Reading (List α) := fun w x vs => ∃ A c,vs = [.slice A x.length c] ∧ x.length ≤ 140737488355328 ∧ SlAt E k w A x
theorem RowE.stays {α : Type} {E : Reading α} {k : Nat} (h : Stays E) : Stays (RowE E k) := fun _ _ _ _ hb ⟨A,c,h1,h2,h3⟩ => ⟨A,c,h1,h2,h3.below h hb⟩
abbrev RowsAt {α : Type} (E : Reading α) (k : Nat) := SlAt (RowE E k) 1
theorem RowsAt.at {α : Type} {E : Reading α} {k : Nat} {w : World} {A : Option Addr} {l : List (List α)} (h : RowsAt E k w A l) {i : Nat} (hi : i < l.length) :
 ∃ b off x A' c',A = some ⟨b,off,none⟩ ∧ b < w.heap.size ∧ l[i]? = some x ∧ w.cell? ⟨b,off + i,none⟩ = some (.slice A' x.length c') ∧ x.length ≤ 140737488355328 ∧ SlAt E k w A' x := by
 obtain ⟨b,off,x,vs,hA,hlt,hx,_,⟨A',c',rfl,h1,h2⟩,hc⟩ := SlAt.at h hi
 exact ⟨b,off,x,A',c',hA,hlt,hx,by simpa using hc 0 _ rfl,h1,h2⟩
def Ed.cells (x : Ed) : List Value := [.int .i64 x.src,.int .i64 x.ev,.int .i64 x.dst]
theorem flat_get {α : Type} {enc : α → List Value} {k : Nat} (hk : ∀ x,(enc x).length = k) : ∀ (l : List α) (i j : Nat) (x : α),l[i]? = some x → j < k → (l.flatMap enc)[i * k + j]? = (enc x)[j]? := by
 intro l
 induction l with
 | nil => intro i j x h; simp at h
 | cons a l ih =>
   intro i j x h hj
   rw [List.flatMap_cons]
   cases i with
   | zero =>
     simp only [List.getElem?_cons_zero,Option.some.injEq] at h
     subst h
     rw [Nat.zero_mul,Nat.zero_add,List.getElem?_append_left (by rw [hk]; exact hj)]
   | succ i =>
     simp only [List.getElem?_cons_succ] at h
     rw [List.getElem?_append_right (by rw [hk,Nat.succ_mul]; omega),hk,show (i + 1) * k + j - k = i * k + j from by rw [Nat.succ_mul]; omega]
     exact ih i j x h hj
theorem flat_len {α : Type} {enc : α → List Value} {k : Nat} (hk : ∀ x,(enc x).length = k) (l : List α) : (l.flatMap enc).length = l.length * k := by
 induction l with
 | nil => simp
 | cons a l ih => rw [List.flatMap_cons,List.length_append,hk,ih,List.length_cons,Nat.succ_mul]; omega
theorem SlAt.of_own {α : Type} {enc : α → List Value} {k : Nat} (hk : ∀ x,(enc x).length = k) {w : World} {base : Nat} {e : TypeId} {v : Value} {l : List α} (h : w.ownsRow base e k v l.length (l.flatMap enc)) :
 ∃ A c,v = .slice A l.length c ∧ SlAt (fun _ x vs => vs = enc x) k w A l := by
 rcases h.2 with ⟨rfl,h0⟩ | ⟨g,cap,cur,rfl,r1,r2,r3⟩
 · have : l = [] := List.eq_nil_of_length_eq_zero h0
   subst this
   exact ⟨none,0,rfl,SlAt.nil⟩
 · refine ⟨some ⟨g,0,none⟩,cap,rfl,fun _ => ⟨g,0,rfl,(Array.getElem?_eq_some_iff.1 r2).1,fun i x hx => ⟨enc x,hk x,rfl,fun j u hj => ?_⟩⟩⟩
   have hi := (List.getElem?_eq_some_iff.1 hx).1
   have hj' : j < k := by rw [← hk x]; exact (List.getElem?_eq_some_iff.1 hj).1
   have hlt : i * k + j < l.length * k := by
    have : (i + 1) * k ≤ l.length * k := Nat.mul_le_mul_right k hi
    rw [Nat.succ_mul] at this; omega
   rw [Nat.zero_add,h.cellAt _ hlt,flat_get hk l i j x hx hj',hj]
def outOf (l : List Ed) (i : Nat) : List Ed := l.filter fun x => decide (x.src = (i : Int))
def outs (l : List Ed) (n : Nat) : List (List Ed) := (List.range n).map (outOf l)
theorem outOf_snoc (l : List Ed) (x : Ed) (i : Nat) : outOf (l ++ [x]) i = if x.src = (i : Int) then outOf l i ++ [x] else outOf l i := by
 by_cases h : x.src = (i : Int) <;> simp [outOf,h]
theorem outOf_len (l : List Ed) (i : Nat) : (outOf l i).length ≤ l.length := List.length_filter_le _ _
abbrev OutG (w : World) (bo base n : Nat) (l : List Ed) : Prop := Gathers 37 68 3 w bo base n (fun i => (outOf l i).length) (fun i => (outOf l i).flatMap Ed.cells)
theorem OutG.rows {w : World} {bo base n : Nat} {l : List Ed} (h : OutG w bo base n l) (hl : l.length ≤ 140737488355328) : RowsAt EdE 3 w (some ⟨bo,0,none⟩) (outs l n) := by
 intro hne
 obtain ⟨vs,h1,h2,h3,_⟩ := h.ex
 refine ⟨bo,0,rfl,h1.lt,fun i x hx => ?_⟩
 have hi : i < n := by have := (List.getElem?_eq_some_iff.1 hx).1; simpa [outs] using this
 have hx' : x = outOf l i := by simp [outs,hi] at hx; exact hx.symm
 subst hx'
 have hv : vs[i]? = some vs[i] := List.getElem?_eq_getElem (by omega)
 obtain ⟨A,c,he,hs⟩ := SlAt.of_own (k := 3) (enc := Ed.cells) (fun _ => rfl) (h3 i _ hv)
 refine ⟨[vs[i]],rfl,⟨A,c,by rw [he],Nat.le_trans (outOf_len l i) hl,hs⟩,fun j u hj => ?_⟩
 cases j with
 | zero => simp only [List.getElem?_cons_zero,Option.some.injEq] at hj; rw [← hj,Nat.mul_one,Nat.add_zero,Nat.zero_add,h1.cell,hv]
 | succ j => simp at hj
theorem OutG.next {w w1 : World} {bo base n : Nat} {l : List Ed} (h : OutG w bo base n l) (hbo : bo < base) {s : Nat} (hs : s < n) {v : Value} (hv : w.cell? ⟨bo,s,none⟩ = some v) {ev dst : Int} {A' : Option Addr} {c' : Nat}
 (h' : w1.ownsRow base 68 3 (.slice A' ((outOf l s).length + 1) c') ((outOf l s).length + 1) ((outOf l s).flatMap Ed.cells ++ Ed.cells ⟨s,ev,dst⟩)) (hg : w.grownBy w1 v.ownBlock)
 (hb : (Value.slice A' ((outOf l s).length + 1) c').ownBlock = v.ownBlock ∨ (Value.slice A' ((outOf l s).length + 1) c').ownBlock = some w.heap.size) :
 OutG (w1.setCell ⟨bo,s,none⟩ (.slice A' ((outOf l s).length + 1) c')) bo base n (l ++ [⟨s,ev,dst⟩]) := by
 have hne : ∀ i,i ≠ s → ¬ ((s : Int) = (i : Int)) := fun i h e => h (by omega)
 refine Gathers.step h hbo hs hv h' hg hb ?_ ?_ ?_ ?_
 · simp [outOf_snoc]
 · simp [outOf_snoc]
 · intro i hi
   simp only [outOf_snoc]
   rw [if_neg (hne i hi)]
 · intro i hi
   simp only [outOf_snoc]
   rw [if_neg (hne i hi)]
def Outs (n : Nat) (l : List Ed) (w : World) (e : Ending) (w' : World) : Prop := ∃ bo,e = .returned (.slice (some ⟨bo,0,none⟩) n n) ∧ w.heap.size ≤ bo ∧ RowsAt EdE 3 w' (some ⟨bo,0,none⟩) (outs l n) ∧ Below w.heap.size w w'
theorem rowInfo : (Try.prog.info? 37).map (fun i => (i.zero,i.size,i.bytes)) = some (some (.slice none 0 0),1,24) := by kernel_rfl
theorem edInfo : (Try.prog.info? 68).map (fun i => (i.zero,i.size,i.bytes)) = some (some (.agg #[.int .i64 0,.int .i64 0,.int .i64 0]),3,24) := by kernel_rfl
theorem size_alloc' (w : World) (o : Obj) : (w.alloc o).heap.size = w.heap.size + 1 := by simp
def OwnInts (B : Nat) (l : List Int) (v : Value) (w : World) : Prop := ∃ A c,v = .slice A l.length c ∧ (l = [] ∨ ∃ g cs,A = some ⟨g,0,none⟩ ∧ B ≤ g ∧ BlkAt w g 3 cs ∧ l.length ≤ cs.length ∧ cs.take l.length = l.map (Value.int .i64) ∧ l.length ≤ c ∧ c = cs.length ∧ cs.length ≤ 9223372036854775807)
theorem OwnInts.of_own {w : World} {B n : Nat} {v : Value} {l : List Int} (h : w.ownsRow B 3 1 v n (l.map (Value.int .i64))) : OwnInts B l v w := by
 obtain ⟨h1,h2⟩ := h
 simp only [List.length_map,Nat.mul_one] at h1
 rcases h2 with ⟨rfl,rfl⟩ | ⟨g,cap,cur,rfl,hB,hg,hc,hm,hs,ht⟩
 · have : l = [] := List.length_eq_zero_iff.1 h1
   subst this
   exact ⟨none,0,rfl,.inl rfl⟩
 · subst h1
   simp only [Nat.mul_one] at hs ht
   exact ⟨_,cap,rfl,.inr ⟨g,cur.toList,rfl,hB,by simpa [BlkAt] using hg,by simp; omega,ht,hc,by simp [hs],by simp [hs,maxLen] at hm ⊢; omega⟩⟩
theorem OwnInts.reads {w : World} {B : Nat} {l : List Int} {A : Option Addr} {c : Nat} (h : OwnInts B l (.slice A l.length c) w) : IntsAt w A l := by
 obtain ⟨A',c',hv,h⟩ := h
 cases hv
 rcases h with rfl | ⟨g,cs,rfl,_,hb,_,ht,_⟩
 · exact SlAt.nil
 · intro _
   refine ⟨g,0,rfl,hb.lt,fun i x hx => ⟨[.int .i64 x],rfl,rfl,fun j v hj => ?_⟩⟩
   cases j with
   | succ j => simp at hj
   | zero =>
     simp at hj
     subst hj
     have : (cs.take l.length)[i]? = some (.int .i64 x) := by rw [ht,List.getElem?_map,hx]; rfl
     rw [List.getElem?_take] at this
     simp only [Nat.zero_add,Nat.mul_one,Nat.add_zero]
     rw [hb.cell]
     split at this
     · exact this
     · cases this
theorem IntsAt.cells {w : World} {a : Addr} {l : List Int} (h : IntsAt w (some a) l) : ∀ j u,(l.map (Value.int .i64))[j]? = some u → w.cell? (a.add j) = some u := by
 intro j u hj
 simp only [List.getElem?_map,Option.map_eq_some_iff] at hj
 obtain ⟨x,hx,rfl⟩ := hj
 obtain ⟨b,off,y,hA,_,hy,hc⟩ := IntsAt.at h (List.getElem?_eq_some_iff.1 hx).1
 cases hA
 rw [hx] at hy; cases hy
 unfold Addr.add
 split
 · rename_i h0; subst h0; exact hc
 · exact hc
def Gives (l : List Int) (w : World) (e : Ending) (w' : World) : Prop := ∃ A c,e = .returned (.slice A l.length c) ∧ Hid (OwnInts w.heap.size l (.slice A l.length c) w') ∧ Below w.heap.size w w'

structure Fro (n : Nat) (w W : World) : Prop where
 b : Below n w W
 z : n ≤ W.heap.size
theorem Fro.refl {n : Nat} {w : World} (h : n ≤ w.heap.size) : Fro n w w := ⟨Below.refl _ _,h⟩
theorem Fro.here (w : World) : Fro w.heap.size w w := ⟨Below.refl _ _,Nat.le_refl _⟩
theorem Fro.next {n : Nat} {w W W' : World} (h : Fro n w W) (hb : Below W.heap.size W W') : Fro n w W' := ⟨h.b.trans (hb.mono h.z),Nat.le_trans h.z hb.size⟩
theorem Fro.trans {n : Nat} {w W W' : World} (h : Fro n w W) (hb : Fro n W W') : Fro n w W' := ⟨h.b.trans hb.b,hb.z⟩
theorem Fro.alloc {n : Nat} {w W : World} (h : Fro n w W) (o : Obj) : Fro n w (W.alloc o) := ⟨h.b.alloc h.z o,Nat.le_trans h.z (by simp)⟩
theorem Fro.drew {n : Nat} {w W : World} (h : Fro n w W) : Fro n w W.drew := ⟨h.b.drew,h.z⟩
theorem Fro.draws {n : Nat} {w W : World} (h : Fro n w W) (q : Nat) : Fro n w (W.drewN q) := ⟨h.b.draws q,h.z⟩
theorem Fro.grown {n : Nat} {w W W' : World} {row : Option Nat} (h : Fro n w W) (hg : W.grownBy W' row) (hr : ∀ j,row = some j → n ≤ j) : Fro n w W' := ⟨h.b.grown hg h.z hr,Nat.le_trans h.z hg.size⟩
theorem Fro.setCell {n : Nat} {w W : World} (h : Fro n w W) {g i : Nat} (hg : n ≤ g) (u : Value) : Fro n w (W.setCell ⟨g,i,none⟩ u) := ⟨h.b.setCell hg u,by simpa using h.z⟩
theorem Fro.mono {n m : Nat} {w W : World} (h : Fro n w W) (hm : m ≤ n) : Fro m w W := ⟨h.b.mono hm,Nat.le_trans hm h.z⟩
structure HasAt (b : Nat) (l : List Value) (w : World) : Prop where
 c : ∀ i u,l[i]? = some u → w.cell? ⟨b,i,none⟩ = some u
 z : b < w.heap.size
theorem HasAt.fro {b n : Nat} {l : List Value} {w w' : World} (h : HasAt b l w) (hb : Fro n w w') (hn : b < n) : HasAt b l w' := ⟨fun i u hi => (hb.b.cell (p := ⟨b,i,none⟩) hn).trans (h.c i u hi),Nat.lt_of_lt_of_le hn hb.z⟩
theorem HasAt.below {b : Nat} {l : List Value} {w w' : World} (h : HasAt b l w) (hb : Below w.heap.size w w') : HasAt b l w' := ⟨fun i u hi => old_cell hb (h.c i u hi) h.z,Nat.lt_of_lt_of_le h.z hb.size⟩
theorem HasAt.new (w : World) (T : TypeId) (l : List Value) {b : Nat} (h : b = w.heap.size) : HasAt b l (w.alloc (.cells l.toArray T)) := ⟨fun i u hi => (new_cell w T l b i h).trans hi,by subst h; simp⟩
theorem HasAt.alloc {b : Nat} {l : List Value} {w : World} (h : HasAt b l w) (o : Obj) : HasAt b l (w.alloc o) := h.below (Below.new w o)
theorem HasAt.grown {b : Nat} {l : List Value} {w w' : World} {row : Option Nat} (h : HasAt b l w) (hg : w.grownBy w' row) (hb : some b ≠ row) : HasAt b l w' :=
 ⟨fun i u hi => hg.cell (h.c i u hi) hb,Nat.lt_of_lt_of_le h.z hg.size⟩
theorem HasAt.drew {b : Nat} {l : List Value} {w : World} (h : HasAt b l w) : HasAt b l w.drew := ⟨h.c,h.z⟩
abbrev auCells (au : Au) (p : AuP) : List Value := [.slice p.A1 au.al.length p.c1,.int .i64 au.n,.slice p.A2 au.mr.length p.c2,.slice p.A3 au.ed.length p.c3]
def Own {α : Type} (enc : α → List Value) (k T B : Nat) (l : List α) (v : Value) (w : World) : Prop := w.ownsRow B T k v l.length (l.flatMap enc)
section
variable {α : Type} {enc : α → List Value} {k T B : Nat} {l : List α} {v : Value} {w w' : World}
theorem Own.nil (w : World) : Own enc k T B [] (.slice none 0 0) w := World.ownsRow_nil ..
theorem Own.form (h : Own enc k T B l v w) : ∃ A c,v = .slice A l.length c := own_form h
theorem Own.lt (h : Own enc k T B l v w) : ∀ j,v.ownBlock = some j → B ≤ j ∧ j < w.heap.size := World.ownsRow.lt h
theorem Own.alloc (h : Own enc k T B l v w) (o : Obj) : Own enc k T B l v (w.alloc o) := World.ownsRow.alloc h o
theorem Own.drew (h : Own enc k T B l v w) : Own enc k T B l v w.drew := World.ownsRow.drew h
theorem Own.kept {row : Option Nat} (h : Own enc k T B l v w) (hg : w.grownBy w' row) (hne : v.ownBlock = none ∨ v.ownBlock ≠ row) : Own enc k T B l v w' := World.ownsRow.kept h hg hne
theorem Own.below {B' : Nat} (h : Own enc k T B l v w) (hb : Below B' w w') (hB : w.heap.size ≤ B') : Own enc k T B l v w' := by
 refine ⟨h.1,?_⟩
 rcases h.2 with h | ⟨g,cap,cur,r1,r2,r3,r4⟩
 · exact .inl h
 · have hg := (Array.getElem?_eq_some_iff.1 r3).1
   exact .inr ⟨g,cap,cur,r1,r2,(hb.block g (by omega)).trans r3,r4⟩
theorem Own.base {B' : Nat} (h : Own enc k T B l v w) (hB : B' ≤ B) : Own enc k T B' l v w := by
 refine ⟨h.1,?_⟩
 rcases h.2 with h | ⟨g,cap,cur,r1,r2,r3⟩
 · exact .inl h
 · exact .inr ⟨g,cap,cur,r1,Nat.le_trans hB r2,r3⟩
theorem Own.reads {A : Option Addr} {c : Nat} (hk : ∀ x,(enc x).length = k) (h : Own enc k T B l (.slice A l.length c) w) : SlAt (fun _ x vs => vs = enc x) k w A l := by
 obtain ⟨A',c',e,hr⟩ := SlAt.of_own hk h
 cases e; exact hr
theorem Fro.push {w0 : World} (hb : Fro B w0 w) (ho : Own enc k T B l v w) (hg : w.grownBy w' v.ownBlock) : Fro B w0 w' := hb.grown hg fun j hj => (ho.lt j hj).1
end
theorem wpList_push {P : Program} {α : Type} {enc : α → List Value} {k T B : Nat} {l : List α} {v : Value} {w : World} {ops : Array Oper} {rest : List Oper} {o : Oper} {a : Act} {Q : Exit → Act → World → Prop} (hgd : o.guard = none) (s x : Operand) (t : TypeId)
 (ho : o.op = .call { callee := .builtin .append,args := #[s,x],argTypes := #[t,t] }) (hown : Own enc k T B l v w)
 (ht : P.underlying t = some (.slice T)) (z : Value) (bytes : Nat) (hi : (P.info? T).map (fun i => (i.zero,i.size,i.bytes)) = some (some z,k,bytes))
 (hzs : z.cells.size = k) (hk : 0 < k) (hs : a.eval s = v) (y : α) (g : Nat) (hx : a.eval x = .slice (some ⟨g,0,none⟩) 1 1) (hy : (enc y).length = k) (hc : ∀ j u,(enc y)[j]? = some u → w.cell? ⟨g,j,none⟩ = some u) (h1 : ∀ u ∈ enc y,u.oneCell' = true)
 (hl : l.length ≤ 1048576) (hby : bytes ≤ 4096) (hB : B ≤ w.heap.size)
 (h : ∀ A' c' w',Own enc k T B (l ++ [y]) (.slice A' (l.length + 1) c') w' → w.grownBy w' v.ownBlock → ((Value.slice A' (l.length + 1) c').ownBlock = v.ownBlock ∨ (Value.slice A' (l.length + 1) c').ownBlock = some w.heap.size) → wpList P ops Q rest (a.put o.dst (.slice A' (l.length + 1) c')) w') :
 wpList P ops Q (o :: rest) a w := by
 obtain ⟨i0,hi0,hz,hsize,hb⟩ := info_parts hi
 refine wpList_append_own_at w hgd s x t ho B T i0 z k bytes ht hi0 hz hsize hb hzs hk v l.length (l.flatMap enc) hs hown ⟨g,0,none⟩ 1 1 (enc y) hx (by omega) (fun j u hj => ?_) h1 (by simp only [maxLen]; omega) (by have := Nat.mul_le_mul (show l.length + 1 ≤ 1048577 by omega) hby; omega) hB ?_
 · have := hc j u hj
   unfold Addr.add
   split
   · rename_i h0; subst h0; exact this
   · simpa using this
 · intro v' w' ho' hg _ hat
   obtain ⟨A',c',rfl⟩ := own_form ho'
   exact h A' c' w' (by unfold Own; rw [List.flatMap_append,List.length_append]; simpa using ho') hg hat
theorem one_cell (w : World) (T : TypeId) (cs : List Value) (g : Nat) (hg : g = w.heap.size) : ∀ j u,cs[j]? = some u → (w.alloc (.cells cs.toArray T)).cell? ⟨g,j,none⟩ = some u := fun j u hj => (new_cell w T cs g j hg).trans hj
def encI (x : Int) : List Value := [.int .i64 x]
abbrev OwnI := Own encI 1 3
theorem intInfo : (Try.prog.info? 3).map (fun i => (i.zero,i.size,i.bytes)) = some (some (.int .i64 0),1,8) := by kernel_rfl
theorem encI_one (y : Int) : ∀ u ∈ encI y,u.oneCell' = true := fun u hu => by simp [encI] at hu; subst hu; rfl
theorem OwnI.ints {B : Nat} {l : List Int} {A : Option Addr} {c : Nat} {w : World} (h : OwnI B l (.slice A l.length c) w) : IntsAt w A l := Own.reads (fun _ => rfl) h
def GivesI (l : List Int) (w : World) (e : Ending) (w' : World) : Prop := ∃ v,e = .returned v ∧ Hid (OwnI w.heap.size l v w') ∧ Below w.heap.size w w'

def Ret (v : Value) (w : World) (e : Ending) (w' : World) : Prop := e = .returned v ∧ Below w.heap.size w w'
theorem notIn_all {l : List Int} {x : Int} (h : ∀ j y,j < l.length → l[j]? = some y → y ≠ x) : ¬ x ∈ l := fun hm => by
 obtain ⟨t,ht,hx⟩ := List.mem_iff_getElem.1 hm
 exact h t x ht (by rw [List.getElem?_eq_getElem ht,hx]) rfl
def nextV (l : List Ed) (s e : Int) : Int := ((l.find? fun x => decide (x.src = s) && decide (x.ev = e)).map (·.dst)).getD (-1)
theorem nextV_hit {l : List Ed} {s e : Int} {k : Nat} {x : Ed} (h : ∀ j y,j < k → l[j]? = some y → ¬ (y.src = s ∧ y.ev = e)) (hx : l[k]? = some x) (h1 : x.src = s) (h2 : x.ev = e) : nextV l s e = x.dst := by
 have : l.find? (fun x => decide (x.src = s) && decide (x.ev = e)) = some x := by
  rw [List.find?_eq_some_iff_getElem]
  obtain ⟨hk,hg⟩ := List.getElem?_eq_some_iff.1 hx
  refine ⟨by simp [h1,h2],k,hk,hg,fun j hj => ?_⟩
  have := h j l[j] hj (List.getElem?_eq_getElem _)
  simpa [Classical.or_iff_not_imp_left] using this
 simp [nextV,this]
theorem nextV_miss {l : List Ed} {s e : Int} (h : ∀ j y,j < l.length → l[j]? = some y → ¬ (y.src = s ∧ y.ev = e)) : nextV l s e = -1 := by
 have : l.find? (fun x => decide (x.src = s) && decide (x.ev = e)) = none := by
  rw [List.find?_eq_none]
  intro x hx
  obtain ⟨t,ht,hx⟩ := List.mem_iff_getElem.1 hx
  have := h t x ht (by rw [List.getElem?_eq_getElem ht,hx])
  simpa using this
 simp [nextV,this]
def runV (l : List Ed) : Int → List Int → Int
 | s,[] => s
 | s,e :: r => if 0 ≤ s then runV l (nextV l s e) r else s
theorem runV_neg (l : List Ed) {s : Int} (h : s < 0) (r : List Int) : runV l s r = s := by
 cases r with
 | nil => rfl
 | cons e r => simp [runV,show ¬ 0 ≤ s by omega]
def idxV (l : List Int) (x : Int) : Int := match l.findIdx? (fun y => decide (y = x)) with
 | some j => (j : Int)
 | none => -1
theorem idxV_hit {l : List Int} {x : Int} {k : Nat} (h : ∀ j y,j < k → l[j]? = some y → y ≠ x) (hx : l[k]? = some x) : idxV l x = (k : Int) := by
 have : l.findIdx? (fun y => decide (y = x)) = some k := by
  rw [List.findIdx?_eq_some_iff_getElem]
  obtain ⟨hk,hg⟩ := List.getElem?_eq_some_iff.1 hx
  refine ⟨hk,by simp [hg],fun j hj => ?_⟩
  have := h j l[j] hj (List.getElem?_eq_getElem _)
  simpa using this
 simp [idxV,this]
theorem idxV_miss {l : List Int} {x : Int} (h : ∀ j y,j < l.length → l[j]? = some y → y ≠ x) : idxV l x = -1 := by
 have : l.findIdx? (fun y => decide (y = x)) = none := by
  rw [List.findIdx?_eq_none_iff]
  intro y hy
  obtain ⟨t,ht,hy⟩ := List.mem_iff_getElem.1 hy
  have := h t y ht (by rw [List.getElem?_eq_getElem ht,hy])
  simpa using this
 simp [idxV,this]
theorem idxV_in {l : List Int} {x : Int} (h : x ∈ l) : ∃ j : Nat,idxV l x = (j : Int) ∧ l[j]? = some x := by
 unfold idxV
 cases hf : l.findIdx? (fun y => decide (y = x)) with
 | none =>
   rw [List.findIdx?_eq_none_iff] at hf
   have := hf x h
   simp at this
 | some j =>
   rw [List.findIdx?_eq_some_iff_getElem] at hf
   obtain ⟨hj,h1,_⟩ := hf
   exact ⟨j,rfl,by rw [List.getElem?_eq_getElem hj]; simpa using h1⟩
structure AuOwn (B : Nat) (a : Au) (p : AuP) (w : World) : Prop where
 al : OwnI B a.al (.slice p.A1 a.al.length p.c1) w
 mr : OwnI B a.mr (.slice p.A2 a.mr.length p.c2) w
 ed : Own Ed.cells 3 68 B a.ed (.slice p.A3 a.ed.length p.c3) w
 d1 : ∀ g,(Value.slice p.A1 a.al.length p.c1).ownBlock = some g → (Value.slice p.A2 a.mr.length p.c2).ownBlock ≠ some g
 d2 : ∀ g,(Value.slice p.A1 a.al.length p.c1).ownBlock = some g → (Value.slice p.A3 a.ed.length p.c3).ownBlock ≠ some g
 d3 : ∀ g,(Value.slice p.A2 a.mr.length p.c2).ownBlock = some g → (Value.slice p.A3 a.ed.length p.c3).ownBlock ≠ some g
 sm : a.al.length ≤ 1048576 ∧ a.mr.length ≤ 1048576 ∧ a.ed.length ≤ 1048576
theorem AuOwn.at {B : Nat} {a : Au} {p : AuP} {w : World} (h : AuOwn B a p w) : Au.At w a p :=
 ⟨h.al.ints,h.mr.ints,Own.reads (fun _ => rfl) h.ed,by have := h.sm; omega,by have := h.sm; omega,by have := h.sm; omega⟩
def GivesAu (a : Au) (w : World) (e : Ending) (w' : World) : Prop := ∃ p,e = .returned (a.val p) ∧ Hid (AuOwn w.heap.size a p w') ∧ Below w.heap.size w w'
theorem flat_encI (l : List Int) : l.flatMap encI = l.map (Value.int .i64) := by
 induction l with
 | nil => rfl
 | cons a l ih => rw [List.flatMap_cons,ih]; rfl
def GivesEm (l : List Int) (w : World) (e : Ending) (w' : World) : Prop := ∃ A c,e = .returned (.agg #[.slice A l.length c,.int .i64 0,.slice none 0 0,.slice none 0 0]) ∧ Hid (OwnI w.heap.size l (.slice A l.length c) w') ∧ Below w.heap.size w w'

theorem toV_edge {ed : List Ed} {s e : Int} (h : toV (stepOf ed) s e ≠ -1) : ∃ x,x ∈ ed ∧ x.src = s ∧ x.ev = e ∧ x.dst = toV (stepOf ed) s e := by
 unfold toV stepOf at *
 cases hf : ed.reverse.find? (fun x => decide ((x.src,x.ev) = (s,e))) with
 | none => rw [hf] at h; simp at h
 | some x =>
   have h1 := List.mem_of_find?_eq_some hf
   have h2 := List.find?_some hf
   simp at h1 h2
   exact ⟨x,h1,h2.1,h2.2,by simp⟩

theorem Tells.yes2 {Q : Prop} {w w' : World} {e : Ending} (h : Tells Q w e w') (hq : Q) : e = .returned (.bool true) ∧ Below w.heap.size w w' := by
 obtain ⟨r,rfl,hr,hb⟩ := h; exact ⟨by rw [hr.2 hq],hb⟩
theorem Tells.no2 {Q : Prop} {w w' : World} {e : Ending} (h : Tells Q w e w') (hq : ¬ Q) : e = .returned (.bool false) ∧ Below w.heap.size w w' := by
 obtain ⟨r,rfl,hr,hb⟩ := h
 cases r
 · exact ⟨rfl,hb⟩
 · exact absurd (hr.1 rfl) hq
theorem Au.Right.lex {au : Au} (h : au.Right) : ∀ (i j : Nat) (x y : Ed),i < j → au.ed[i]? = some x → au.ed[j]? = some y → x.src < y.src ∨ x.src = y.src ∧ x.ev < y.ev := by
 intro i j x y hij hx hy
 have hj := (List.getElem?_eq_some_iff.1 hy).1
 induction j generalizing y with
 | zero => omega
 | succ j ih =>
   have hz : au.ed[j]? = some au.ed[j] := List.getElem?_eq_getElem (by omega)
   have h1 := (h.ed (j + 1) hj y hy).2.2.2.2.2 au.ed[j] (by omega) hz
   by_cases e : i = j
   · subst e; rw [hx] at hz; cases hz; exact h1
   · have := ih au.ed[j] (by omega) hz (by omega)
     omega
theorem Au.Right.uniq {au : Au} (h : au.Right) {x y : Ed} (hx : x ∈ au.ed) (hy : y ∈ au.ed) (h1 : x.src = y.src) (h2 : x.ev = y.ev) : x = y := by
 obtain ⟨i,hi,hx⟩ := List.mem_iff_getElem.1 hx
 obtain ⟨j,hj,hy⟩ := List.mem_iff_getElem.1 hy
 have hx' : au.ed[i]? = some x := by rw [List.getElem?_eq_getElem hi,hx]
 have hy' : au.ed[j]? = some y := by rw [List.getElem?_eq_getElem hj,hy]
 rcases Nat.lt_trichotomy i j with h3 | h3 | h3
 · have := h.lex i j x y h3 hx' hy'; omega
 · subst h3; rw [hx'] at hy'; cases hy'; rfl
 · have := h.lex j i y x h3 hy' hx'; omega
theorem find_rev {α : Type} {p : α → Bool} {l : List α} (h : ∀ x y,x ∈ l → y ∈ l → p x = true → p y = true → x = y) : l.reverse.find? p = l.find? p := by
 cases h1 : l.find? p with
 | none =>
   rw [List.find?_eq_none] at h1 ⊢
   intro x hx; exact h1 x (List.mem_reverse.1 hx)
 | some x =>
   cases h2 : l.reverse.find? p with
   | none =>
     rw [List.find?_eq_none] at h2
     exact absurd (List.find?_some h1) (h2 x (List.mem_reverse.2 (List.mem_of_find?_eq_some h1)))
   | some y => rw [h y x (List.mem_reverse.1 (List.mem_of_find?_eq_some h2)) (List.mem_of_find?_eq_some h1) (List.find?_some h2) (List.find?_some h1)]
theorem Au.Right.next {au : Au} (h : au.Right) (s e : Int) : nextV au.ed s e = toV (stepOf au.ed) s e := by
 unfold nextV toV stepOf
 rw [find_rev (l := au.ed) (p := fun (x : Ed) => decide ((x.src,x.ev) = (s,e)))]
 · congr 2
   congr 1
   funext x
   simp
 · intro x y hx hy h1 h2
   simp at h1 h2
   exact h.uniq hx hy (by omega) (by omega)
theorem Au.Right.next_cases {au : Au} (h : au.Right) (s e : Int) : nextV au.ed s e = -1 ∨ 0 ≤ nextV au.ed s e ∧ nextV au.ed s e < au.n ∧ ∃ x,x ∈ au.ed ∧ x.src = s ∧ x.ev = e ∧ x.dst = nextV au.ed s e := by
 by_cases h1 : nextV au.ed s e = -1
 · exact .inl h1
 · rw [h.next] at h1 ⊢
   obtain ⟨x,hx,h2,h3,h4⟩ := toV_edge h1
   obtain ⟨j,hj,hj2⟩ := List.mem_iff_getElem.1 hx
   have := h.ed j hj x (by rw [List.getElem?_eq_getElem hj,hj2])
   exact .inr ⟨by omega,by omega,x,hx,h2,h3,h4⟩
theorem Au.Right.run {au : Au} (h : au.Right) : ∀ (l : List Int) (s : Int),0 ≤ s → runV au.ed s l = followV (stepOf au.ed) s l
 | [],_,_ => rfl
 | e :: r,s,hs => by
   simp only [runV,hs,if_true,followV]
   rw [← h.next]
   rcases h.next_cases s e with h1 | h1
   · rw [if_pos h1,h1]; exact runV_neg _ (by omega) r
   · rw [if_neg (by omega)]; exact h.run r _ h1.1
theorem Au.Right.run_cases {au : Au} (h : au.Right) : ∀ (l : List Int) (s : Int),0 ≤ s → runV au.ed s l = -1 ∨ 0 ≤ runV au.ed s l
 | [],s,hs => .inr hs
 | e :: r,s,hs => by
   simp only [runV,hs,if_true]
   rcases h.next_cases s e with h1 | h1
   · rw [h1]; exact .inl (runV_neg _ (by omega) r)
   · exact h.run_cases r _ h1.1
theorem incr_snoc {l : List Int} {x : Int} (h : incr l) (hx : ∀ y,y ∈ l → y < x) : incr (l ++ [x]) := by
 intro i j a b hij ha hb
 have hj := (List.getElem?_eq_some_iff.1 hb).1
 simp at hj
 rw [List.getElem?_append_left (by omega)] at ha
 by_cases e : j < l.length
 · rw [List.getElem?_append_left e] at hb; exact h i j a b hij ha hb
 · rw [List.getElem?_append_right (by omega),show j - l.length = 0 by omega] at hb
   simp at hb; subst hb
   exact hx a (List.mem_of_getElem? ha)
end
set_option maxHeartbeats 400000 in
theorem set_c (A : Option Addr) (c : Nat) (l : List Int) (n : Int) (w : World) (h : IntsAt w A l) (hl : l.length ≤ maxLen) :
 Calls Try.prog 56 #[.slice A l.length c,.int .i64 n] w (Says (setOk l n l.length) w) := by
 unfold maxLen at hl
 go_enter Try.func56,Try.ntmps56
 go_wp2
 go_loop [5,6,9] (fun a b i => ∃ k : Nat,k ≤ l.length ∧ i = .int .i64 k ∧ Hid (setOk l n k)) (fun _ _ i => l.length - (intOf i).toNat)
 case atStart => exact ⟨0,by omega,rfl,fun i x h => absurd h (by omega)⟩
 case round =>
  obtain ⟨k,hk,rfl,hrel⟩ := hrel
  by_cases hlt : k < l.length
  · obtain ⟨b,off,x,rfl,_,hx,hcx⟩ := IntsAt.at h hlt
    by_cases hk0 : k = 0
    · subst hk0
      rw [Nat.add_zero] at hcx
      go_wp2
      any_goals (go_ret; exact Says.no (setOk.not1 hx hlt (by omega)) rfl)
      go_round
      case rel => exact ⟨1,by omega,by go_num,hrel.out.step hx (by omega) (by omega) (fun y h => absurd h (by omega))⟩
      case measure => simp [intOf]; omega
    · obtain ⟨y,hy,hcy⟩ := IntsAt.more h (k := k - 1) (by omega)
      go_wp2
      any_goals (go_ret; first | exact Says.no (setOk.not1 hx hlt (by omega)) rfl | exact Says.no (setOk.not2 hx hlt (by omega) hy (by omega)) rfl)
      go_round
      case rel => exact ⟨k+1,by omega,by go_num,hrel.out.step hx (by omega) (by omega) (fun z h hz => by rw [hy] at hz; cases hz; omega)⟩
      case measure => simp [intOf]; omega
  · obtain rfl : k = l.length := by omega
    go_wp2
    go_ret
    exact Says.yes hrel.out rfl

def Finds (Q : Prop) (w : World) (e : Ending) (w' : World) : Prop := ∃ (p : Nat) (r : Bool),e = .returned (.tuple #[.int .i64 p,.bool r]) ∧ (r = true ↔ Q) ∧ w = w'

set_option maxHeartbeats 400000 in
theorem search_c (A : Option Addr) (c : Nat) (l : List Int) (x : Int) (w : World) (h : IntsAt w A l) (hl : l.length < 4611686018427387904) (hs : incr l) :
 Calls Try.prog 66 #[.slice A l.length c,.int .i64 x] w (Finds (x ∈ l) w) := by
 have HS := Lib.hid hs; clear hs
 go_enter Try.func66,Try.ntmps66
 go_wp2
 go_loop [7,8,9] (fun a b _ => ∃ lo hi : Nat,a = .int .i64 lo ∧ b = .int .i64 hi ∧ lo ≤ hi ∧ hi ≤ l.length ∧ Hid ((∀ t y,t < lo → l[t]? = some y → y < x) ∧ (∀ t y,hi ≤ t → l[t]? = some y → x ≤ y))) (fun a b _ => (intOf b).toNat - (intOf a).toNat)
 case atStart => exact ⟨0,l.length,rfl,rfl,Nat.zero_le _,Nat.le_refl _,fun t y ht => absurd ht (Nat.not_lt_zero _),fun t y h1 h2 => by have := (List.getElem?_eq_some_iff.1 h2).1; omega⟩
 case round =>
  obtain ⟨lo,hi,rfl,rfl,hlh,hin,H⟩ := hrel
  by_cases hlt : lo < hi
  · obtain ⟨b,off,y,rfl,_,hy,hcy⟩ := IntsAt.at h (k := (lo + hi) / 2) (by omega)
    by_cases hyx : y < x
    · go_wp2
      go_round
      case rel =>
       refine ⟨(lo + hi) / 2 + 1,hi,by go_num,rfl,by omega,hin,fun t z ht hz => ?_,H.out.2⟩
       by_cases e : t = (lo + hi) / 2
       · subst e; rw [hy] at hz; cases hz; exact hyx
       · have := HS.out t _ z y (by omega) hz hy; omega
      case measure => simp [intOf]; omega
    · go_wp2
      go_round
      case rel =>
       refine ⟨lo,(lo + hi) / 2,rfl,by go_num,by omega,by omega,H.out.1,fun t z ht hz => ?_⟩
       by_cases e : t = (lo + hi) / 2
       · subst e; rw [hy] at hz; cases hz; omega
       · have := HS.out _ t y z (by omega) hy hz; omega
      case measure => simp [intOf]; omega
  · obtain rfl : lo = hi := by omega
    by_cases hlo : lo < l.length
    · obtain ⟨b,off,y,rfl,_,hy,hcy⟩ := IntsAt.at h hlo
      have F := Lib.hid (HS.out.found hy H.out.1 (H.out.2 lo y (Nat.le_refl _) hy))
      go_wp2
      · go_ret2
        exact ⟨lo,true,rfl,by simpa using F.out.2 (by assumption),rfl⟩
      · go_ret2
        exact ⟨lo,y == x,rfl,by rw [F.out]; simp,rfl⟩
    · have F := Lib.hid (not_mem_of_less (l := l) (x := x) (fun t z ht hz => H.out.1 t z (by omega) hz))
      go_wp2
      go_ret2
      exact ⟨lo,false,rfl,by simpa using F.out,rfl⟩

theorem has_c (A : Option Addr) (c : Nat) (l : List Int) (x : Int) (w : World) (h : IntsAt w A l) (hl : l.length < 4611686018427387904) (hs : incr l) :
 Calls Try.prog 30 #[.slice A l.length c,.int .i64 x] w (Says (x ∈ l) w) := by
 have HC := Lib.hid (search_c A c l x w h hl hs)
 clear h hs
 go_enter Try.func30,Try.ntmps30
 go_wp2_with (go_at_call 66; refine HC.out.mono ?_; rintro e w' ⟨p,r,rfl,hr,rfl⟩; have HR := Lib.hid hr; clear hr)
 go_ret
 exact ⟨r,rfl,HR.out,rfl⟩
set_option maxRecDepth 100000 in
set_option maxHeartbeats 1000000 in
theorem Automaton_c (a : Au) (p : AuP) (w : World) (h : Au.At w a p) :
 Calls Try.prog 28 #[a.val p] w (Tells a.Right w) := by
 obtain ⟨al,n,mr,ed⟩ := a
 obtain ⟨A1,c1,A2,c2,A3,c3⟩ := p
 obtain ⟨h1,h2,h3,l1,l2,l3⟩ := h
 try dsimp only [Au.val] at *
 have G1 := Lib.hid h1
 have G2 := Lib.hid h2
 have G3 := Lib.hid h3
 clear h1 h2 h3
 go_enter Try.func28,Try.ntmps28
 go_wp2_with fail
 refine (set_c A1 c1 al 32 _ (G1.out.below IntE.stays (Below.new _ _)) (by unfold maxLen; omega)).mono ?_
 intro e w1 hs; rcases hs.no1 with ⟨rfl,S1,rfl⟩ | ⟨rfl,S1,rfl⟩
 · go_wp2
   go_ret
   exact Tells.no (fun h => S1.out h.al) (Below.new _ _)
 by_cases hn0 : n < 0
 · go_wp2
   go_ret
   exact Tells.no (fun h => by have := h.n0; simp at this; omega) (Below.new _ _)
 by_cases hn1 : 4096 < n
 · go_wp2
   go_ret
   exact Tells.no (fun h => by have := h.n1; simp at this; omega) (Below.new _ _)
 go_wp2_with fail
 refine (set_c A2 c2 mr n _ (G2.out.below IntE.stays (Below.new _ _)) (by unfold maxLen; omega)).mono ?_
 intro e w1 hs; rcases hs.no1 with ⟨rfl,S2,rfl⟩ | ⟨rfl,S2,rfl⟩
 · go_wp2
   go_ret
   exact Tells.no (fun h => S2.out h.mr) (Below.new _ _)
 go_wp2
 have HR := Lib.hid (show 0 ≤ n ∧ n ≤ 4096 from ⟨by omega,by omega⟩)
 go_loopw [30] (fun i wr => ∃ k : Nat,k ≤ ed.length ∧ i = .int .i64 k ∧ Hid (Below (w.heap.size + 1) (w.alloc (.cells #[.slice A1 al.length c1,.int .i64 n,.slice A2 mr.length c2,.slice A3 ed.length c3] 39)) wr) ∧ Hid (∀ i,i < k → edOk ⟨al,n,mr,ed⟩ i)) (fun i _ => ed.length - (intOf i).toNat)
 case atStart => exact ⟨0,by omega,rfl,Below.refl _ _,fun i h => absurd h (by omega)⟩
 case round =>
  obtain ⟨k,hk,rfl,HB,HE⟩ := hrel
  have hsz : w.heap.size < wr.heap.size := by have := HB.out.size; simp at this; omega
  have q0 : wr.cell? ⟨w.heap.size,0,none⟩ = some (.slice A1 al.length c1) := (HB.out.cell (p := ⟨w.heap.size,0,none⟩) (by simp)).trans (by simp)
  have q1 : wr.cell? ⟨w.heap.size,1,none⟩ = some (.int .i64 n) := (HB.out.cell (p := ⟨w.heap.size,1,none⟩) (by simp)).trans (by simp)
  have q3 : wr.cell? ⟨w.heap.size,3,none⟩ = some (.slice A3 ed.length c3) := (HB.out.cell (p := ⟨w.heap.size,3,none⟩) (by simp)).trans (by simp)
  have BW : Hid (Below w.heap.size w wr) := (Below.new w _).trans (HB.out.mono (by omega))
  by_cases hlt : k < ed.length
  · obtain ⟨b,off,x,hA3,hb,hx,e0,e1,e2⟩ := EdsAt.at (G3.out.below EdE.stays BW.out) hlt
    obtain ⟨src,ev,dst⟩ := x
    subst hA3
    dsimp only at e0 e1 e2
    by_cases hs : 0 ≤ src ∧ src < n ∧ 0 ≤ dst ∧ dst < n
    · obtain ⟨s0,s1,d0,d1⟩ := hs
      go_wp2_with fail
      refine (has_c A1 c1 al ev _ (G1.out.below IntE.stays (BW.out.trans (Below.new _ _ |>.mono (by omega)))) (by omega) S1.out.incr).mono ?_
      intro e w1 hs; rcases hs.no1 with ⟨rfl,SE,rfl⟩ | ⟨rfl,SE,rfl⟩
      · go_wp2
        go_ret
        exact Tells.no (fun h => SE.out (h.ed k hlt _ hx).2.2.2.2.1) (BW.out.trans (Below.new _ _ |>.mono (by omega)))
      have BR : Hid (Below (w.heap.size + 1) (w.alloc (.cells #[.slice A1 al.length c1,.int .i64 n,.slice A2 mr.length c2,.slice (some ⟨b,off,none⟩) ed.length c3] 39)) (wr.alloc (.cells #[.int .i64 src,.int .i64 ev,.int .i64 dst] 68))) := HB.out.alloc (by omega) _
      have BN : Hid (Below w.heap.size w (wr.alloc (.cells #[.int .i64 src,.int .i64 ev,.int .i64 dst] 68))) := BW.out.alloc (by omega) _
      by_cases hk0 : k = 0
      · subst hk0
        go_wp2_with fail
        go_quiet (fail)
        go_wp2
        go_roundw
        case rel => exact ⟨1,by omega,by go_num,BR.out.draws _,fun i hi => by
         obtain rfl : i = 0 := by omega
         intro z hz
         rw [hx] at hz; cases hz
         exact ⟨s0,s1,d0,d1,SE.out,fun y h => absurd h (by omega)⟩⟩
        case measure => simp [intOf]; omega
      · obtain ⟨y,hy,f0,f1,f2⟩ := EdsAt.more (G3.out.below EdE.stays BW.out) (k := k - 1) (by omega)
        obtain ⟨ysrc,yev,ydst⟩ := y
        dsimp only at f0 f1 f2
        have hk1 : 0 < k := by omega
        by_cases g1 : src < ysrc
        · go_wp2_with fail
          go_quiet (fail)
          go_wp2
          go_ret
          exact Tells.no (fun h => by have := (h.ed k hlt _ hx).2.2.2.2.2 _ hk1 hy; simp only at this; omega) (BN.out.draws _)
        by_cases g2 : src = ysrc
        · subst g2
          by_cases g3 : ev ≤ yev
          · go_wp2_with fail
            go_quiet (fail)
            go_wp2
            go_ret
            exact Tells.no (fun h => by have := (h.ed k hlt _ hx).2.2.2.2.2 _ hk1 hy; simp only at this; omega) (BN.out.draws _)
          · go_wp2_with fail
            go_quiet (fail)
            go_wp2
            go_roundw
            case rel => exact ⟨k + 1,by omega,by go_num,BR.out.draws _,fun i hi => by
             by_cases e : i = k
             · subst e
               intro z hz
               rw [hx] at hz; cases hz
               exact ⟨s0,s1,d0,d1,SE.out,fun y _ h => by rw [hy] at h; cases h; dsimp only; omega⟩
             · exact HE.out i (by omega)⟩
            case measure => simp [intOf]; omega
        · have g4 : (src == ysrc) = false := by simpa using g2
          have g5 : decide (src < ysrc) = false := by simpa using g1
          go_wp2_with fail
          go_quiet (fail)
          go_wp2
          go_roundw
          case rel => exact ⟨k + 1,by omega,by go_num,BR.out.draws _,fun i hi => by
           by_cases e : i = k
           · subst e
             intro z hz
             rw [hx] at hz; cases hz
             exact ⟨s0,s1,d0,d1,SE.out,fun y _ h => by rw [hy] at h; cases h; dsimp only; omega⟩
           · exact HE.out i (by omega)⟩
          case measure => simp [intOf]; omega
    · go_wp2
      any_goals (go_ret; exact Tells.no (fun h => by have := h.ed k hlt _ hx; simp only at this; omega) (BW.out.trans (Below.new _ _ |>.mono (by omega))))
  · go_wp2
    go_ret
    exact Tells.yes ⟨S1.out,HR.out.1,HR.out.2,S2.out,fun i (hi : i < ed.length) => HE.out i (by omega)⟩ BW.out
end Go.Proofs.Ytccfcaejlohahaa
