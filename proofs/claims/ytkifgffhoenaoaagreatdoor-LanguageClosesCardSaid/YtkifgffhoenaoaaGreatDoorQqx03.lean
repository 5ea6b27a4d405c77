/-
  What the row leans on.
-/
import Derived.Test.YtkifgffhoenaoaaGreatDoorQqx02
import Derived.Test.YtkifgffhoenaoaaGreatDoorBas01
import Derived.WalkKit
import Derived.ProofKit
import Derived.OpenShut
import Derived.ShutString
import Derived.ChangeOld
import Derived.Below
import Derived.Lib.SmallJoins
import Derived.Deep.MidRow
import Derived.Test.YtkifgffhoenaoaaGreatDoorBas04
import Derived.Test.YtkifgffhoenaoaaGreatDoorBas03
import Derived.BigQuiet
import Derived.Test.YtkifgffhoenaoaaGreatDoorBas02
import Derived.Test.YtkifgffhoenaoaaGreatDoorBas11
import Derived.BigRegion
import Derived.Deep.DeepCutAuto
import Derived.Laws.IdiomStrings
import Derived.RegionTactic
import Derived.IntWalk
import Derived.Deep.QuietTactic
set_option linter.unusedSimpArgs false
set_option linter.unusedVariables false
namespace Go.Proofs.YtkifgffhoenaoaaGreatDoor
open Go.RowKit
set_option maxRecDepth 100000
section

def edB (f : Nat → Bool) (x : Ed) : Nat → Bool := if f x.dst.toNat then fun t => decide (t = x.src.toNat) || f t else f
def rdB (ed : List Ed) (f : Nat → Bool) : Nat → Bool := ed.foldl edB f
def gdN (q : Au) : Nat → Nat → Bool
 | 0 => fun s => decide ((s : Int) ∈ q.mr)
 | r + 1 => rdB q.ed (gdN q r)
def cntB (n : Nat) (f : Nat → Bool) : Nat := ((List.range n).filter f).length
theorem edB_le (f : Nat → Bool) (x : Ed) (t : Nat) (h : f t = true) : edB f x t = true := by
 unfold edB
 split
 · simp [h]
 · exact h
theorem rdB_le : ∀ (ed : List Ed) (f : Nat → Bool) (t : Nat),f t = true → rdB ed f t = true
 | [],f,t,h => h
 | x :: ed,f,t,h => rdB_le ed (edB f x) t (edB_le f x t h)
theorem rdB_snoc (ed : List Ed) (x : Ed) (f : Nat → Bool) : rdB (ed ++ [x]) f = edB (rdB ed f) x := by simp [rdB]
section
variable {q : Au}
theorem edB_good (hr : q.Right) {f : Nat → Bool} (hf : ∀ s : Nat,f s = true → Good q s) {x : Ed} (hx : x ∈ q.ed) : ∀ s : Nat,edB f x s = true → Good q s := by
 intro s h;unfold edB at h
 split at h
 · rename_i hd
   simp only [Bool.or_eq_true,decide_eq_true_eq] at h;rcases h with rfl | h
   · obtain ⟨h1,h2,_,h4,_⟩ := edge_next hr hx;obtain ⟨w,hw⟩ := hf _ hd;rw [Int.toNat_of_nonneg h4] at hw;refine ⟨x.ev :: w,?_⟩;rw [Int.toNat_of_nonneg h2,runV,if_pos h2,h1];exact hw
   · exact hf s h
 · exact hf s h
theorem rdB_good (hr : q.Right) : ∀ (ed : List Ed) (f : Nat → Bool),(∀ x,x ∈ ed → x ∈ q.ed) → (∀ s : Nat,f s = true → Good q s) → ∀ s : Nat,rdB ed f s = true → Good q s
 | [],f,_,hf => hf
 | x :: ed,f,h,hf => rdB_good hr ed (edB f x) (fun y hy => h y (by simp [hy])) (edB_good hr hf (h x (by simp)))
theorem gdN_good (hr : q.Right) : ∀ (r : Nat) (s : Nat),gdN q r s = true → Good q s
 | 0,s,h => ⟨[],by simpa [gdN,runV] using h⟩
 | r + 1,s,h => rdB_good hr q.ed _ (fun x hx => hx) (gdN_good hr r) s h
def ClB (q : Au) (f : Nat → Bool) : Prop := ∀ x,x ∈ q.ed → f x.dst.toNat = true → f x.src.toNat = true
theorem cntB_mono {n : Nat} {f g : Nat → Bool} (h : ∀ t,f t = true → g t = true) : cntB n f ≤ cntB n g := by
 unfold cntB
 rw [← List.countP_eq_length_filter,← List.countP_eq_length_filter];exact List.countP_mono_left fun t _ => h t
theorem cntB_eq {n : Nat} {f g : Nat → Bool} (h : ∀ t,f t = true → g t = true) (hc : cntB n g ≤ cntB n f) : ∀ t,t < n → g t = true → f t = true := by
 induction n with
 | zero => intro t ht; omega
 | succ n ih =>
   have e : ∀ f : Nat → Bool,cntB (n + 1) f = cntB n f + if f n then 1 else 0 := fun f => by
    unfold cntB
    rw [List.range_succ,List.filter_append,List.length_append,List.filter_cons];by_cases k : f n = true
    · simp [k]
    · simp [k]
   rw [e,e] at hc;have hm := cntB_mono (n := n) h;have hn : (if f n then 1 else 0) ≤ (if g n then 1 else 0 : Nat) := by
    by_cases k : f n = true
    · rw [k,h n k]; simp
    · simp [k]
   intro t ht hg;by_cases k : t = n
   · subst k;rw [hg] at hc hn;by_cases k2 : f t = true
     · exact k2
     · simp [k2] at hc
       omega
   · exact ih (by omega) t (by omega) hg
theorem rdB_between : ∀ (ed : List Ed) (f : Nat → Bool) (x : Ed),x ∈ ed → f x.dst.toNat = true → rdB ed f x.src.toNat = true
 | y :: ed,f,x,hx,hd => by
   rcases List.mem_cons.1 hx with rfl | hx
   · refine rdB_le ed _ _ ?_;unfold edB
     rw [if_pos hd];simp
   · exact rdB_between ed (edB f y) x hx (edB_le f y _ hd)
theorem clB_of_count (hr : q.Right) {f : Nat → Bool} (hc : cntB q.n.toNat (rdB q.ed f) ≤ cntB q.n.toNat f) : ClB q f := by
 intro x hx hd;obtain ⟨_,h2,h3,_⟩ := edge_next hr hx;exact cntB_eq (rdB_le q.ed f) hc _ (by omega) (rdB_between q.ed f x hx hd)
theorem edB_cl (hr : q.Right) {f : Nat → Bool} (h : ClB q f) {x : Ed} (hx : x ∈ q.ed) : edB f x = f := by
 funext t
 unfold edB
 split
 · rename_i hd
   by_cases e : t = x.src.toNat
   · subst e; simp [h x hx hd]
   · simp [e]
 · rfl
theorem rdB_cl (hr : q.Right) {f : Nat → Bool} (h : ClB q f) : ∀ ed : List Ed,(∀ x,x ∈ ed → x ∈ q.ed) → rdB ed f = f
 | [],_ => rfl
 | x :: ed,he => by
   show rdB ed (edB f x) = f
   rw [edB_cl hr h (he x (by simp))];exact rdB_cl hr h ed fun y hy => he y (by simp [hy])
theorem gdN_cl (hr : q.Right) : ∀ r : Nat,ClB q (gdN q r) ∨ r ≤ cntB q.n.toNat (gdN q r)
 | 0 => .inr (Nat.zero_le _)
 | r + 1 => by
   rcases gdN_cl hr r with h | h
   · left
     show ClB q (rdB q.ed (gdN q r))
     rw [rdB_cl hr h q.ed fun x hx => hx];exact h
   · by_cases hc : cntB q.n.toNat (gdN q (r + 1)) ≤ cntB q.n.toNat (gdN q r)
     · left
       have hcl := clB_of_count hr (f := gdN q r) hc;show ClB q (rdB q.ed (gdN q r))
       rw [rdB_cl hr hcl q.ed fun x hx => hx];exact hcl
     · right; omega
theorem cntB_all {n : Nat} {f : Nat → Bool} (h : n ≤ cntB n f) : ∀ t,t < n → f t = true := fun t ht => by
 have := cntB_eq (n := n) (f := f) (g := fun _ => true) (fun _ _ => rfl) (by unfold cntB at h ⊢; rw [List.filter_eq_self.2 (fun _ _ => rfl),List.length_range]; exact h) t ht rfl;exact this
theorem gdN_mark : ∀ (r s : Nat),(s : Int) ∈ q.mr → gdN q r s = true
 | 0,s,h => by simpa [gdN] using h
 | r + 1,s,h => rdB_le q.ed _ s (gdN_mark r s h)
theorem gdN_fin (hr : q.Right) (s : Nat) (hs : s < q.n.toNat) : gdN q q.n.toNat s = true ↔ Good q s := by
 refine ⟨gdN_good hr _ s,?_⟩;have hcl : ClB q (gdN q q.n.toNat) := by
  rcases gdN_cl hr q.n.toNat with h | h
  · exact h
  · intro x hx _;obtain ⟨_,h2,h3,_⟩ := edge_next hr hx;exact cntB_all h _ (by omega)
 have key : ∀ (w : List Int) (s : Nat),s < q.n.toNat → runV q.ed s w ∈ q.mr → gdN q q.n.toNat s = true := by
  intro w;induction w with
  | nil => intro s _ h; exact gdN_mark _ s h
  | cons e w ih =>
    intro s hs h;rw [runV,if_pos (Int.natCast_nonneg _)] at h;rcases hr.next_cases (s : Int) e with g | ⟨g0,g1,x,hx,x1,x2,x3⟩
    · rw [g,runV_neg _ (by omega)] at h;have := (hr.mem h).1;omega
    · obtain ⟨k,hk⟩ := Int.eq_ofNat_of_zero_le g0;rw [hk] at h;have := hcl x hx (by rw [x3,hk,Int.toNat_natCast]; exact ih k (by omega) h);rwa [x1,Int.toNat_natCast] at this
 exact fun ⟨w,hw⟩ => key w s hs hw
end
end
section
open Go.ChangeShapes Go.WideShapes Go.ChangeAt Go.RowKit

section
variable {H : Type} {enc : TypeId × Value → H} {P : Program} {w : World} {base : Nat} {spare : Nat → Bool} {held : Bool}

def consec (P : Program) : List Field → Nat → Nat → Bool
 | [],n,m => n == m
 | f :: r,n,m => f.offset == n && consec P r (n + P.cellsOf f.type) m
end
end
section

abbrev Rep (α : Type) := (Nat → Prop) → World → α → List Value → Prop
structure RepOk {α : Type} (R : Rep α) : Prop where
 keep : ∀ {F : Nat → Prop} {w w' : World} {x : α} {vs : List Value},w.heap.size ≤ w'.heap.size → (∀ b,F b → b < w.heap.size → w'.heap[b]? = w.heap[b]?) → R F w x vs → R F w' x vs
 mono : ∀ {F G : Nat → Prop} {w : World} {x : α} {vs : List Value},(∀ b,F b → b < w.heap.size → G b) → R F w x vs → R G w x vs
def Rd {α : Type} (R : Rep α) : Reading α := fun w x vs => R (fun _ => True) w x vs
theorem RepOk.rd {α : Type} {R : Rep α} (h : RepOk R) {F : Nat → Prop} {w : World} {x : α} {vs : List Value} (hr : R F w x vs) : Rd R w x vs := h.mono (fun _ _ _ => trivial) hr
theorem RepOk.stays {α : Type} {R : Rep α} (h : RepOk R) : Stays (Rd R) := fun _ _ _ _ hb hr => h.keep hb.size (fun b _ hlt => hb.block b hlt) hr
theorem RepOk.below {α : Type} {R : Rep α} (h : RepOk R) {F : Nat → Prop} {w w' : World} {x : α} {vs : List Value} (hr : R F w x vs) (hb : Below w.heap.size w w') : R F w' x vs := h.keep hb.size (fun b _ hlt => hb.block b hlt) hr
theorem RepOk.grown {α : Type} {R : Rep α} (h : RepOk R) {F : Nat → Prop} {w w' : World} {row : Option Nat} {x : α} {vs : List Value} (hr : R F w x vs) (hg : w.grownBy w' row) (hF : ∀ b,F b → some b ≠ row) : R F w' x vs :=
 h.keep hg.size (fun b hb hlt => hg.block b hlt (hF b hb)) hr
theorem RepOk.setCell {α : Type} {R : Rep α} (h : RepOk R) {F : Nat → Prop} {w : World} {p : Addr} {u : Value} {x : α} {vs : List Value} (hr : R F w x vs) (hF : ∀ b,F b → b ≠ p.block) : R F (w.setCell p u) x vs :=
 h.keep (by simp) (fun b hb hlt => Below.heap_setCell w p u b (hF b hb)) hr

def PlR {α : Type} (enc : α → List Value) : Rep α := fun _ _ x vs => vs = enc x
theorem PlR.ok {α : Type} (enc : α → List Value) : RepOk (PlR enc) := ⟨fun _ _ h => h,fun _ h => h⟩
abbrev IntR : Rep Int := PlR encI
def SlR {α : Type} (R : Rep α) (k : Nat) : Rep (List α) := fun F w l vs => ∃ (A : Option Addr) (c : Nat),vs = [.slice A l.length c] ∧ l.length ≤ 140737488355328 ∧
 (l ≠ [] → ∃ b off,A = some ⟨b,off,none⟩ ∧ F b ∧ b < w.heap.size ∧ ∀ (i : Nat) (x : α),l[i]? = some x → ∃ us : List Value,us.length = k ∧ R F w x us ∧ ∀ (j : Nat) (u : Value),us[j]? = some u → w.cell? ⟨b,off + i * k + j,none⟩ = some u)
theorem SlR.ok {α : Type} {R : Rep α} (h : RepOk R) (k : Nat) : RepOk (SlR R k) := by
 constructor
 · rintro F w w' l vs hz hk ⟨A,c,e,hl,hr⟩;refine ⟨A,c,e,hl,fun hne => ?_⟩;obtain ⟨b,off,hA,hF,hlt,hc⟩ := hr hne;refine ⟨b,off,hA,hF,by omega,fun i x hx => ?_⟩;obtain ⟨us,h1,h2,h3⟩ := hc i x hx;exact ⟨us,h1,h.keep hz hk h2,fun j u hj => (World.cell?_of_block (a := ⟨b,_,none⟩) (hk b hF hlt)).trans (h3 j u hj)⟩
 · rintro F G w l vs hk ⟨A,c,e,hl,hr⟩;refine ⟨A,c,e,hl,fun hne => ?_⟩;obtain ⟨b,off,hA,hF,hlt,hc⟩ := hr hne;refine ⟨b,off,hA,hk b hF hlt,hlt,fun i x hx => ?_⟩;obtain ⟨us,h1,h2,h3⟩ := hc i x hx;exact ⟨us,h1,h.mono hk h2,h3⟩
theorem SlR.nil {α : Type} {R : Rep α} {k : Nat} {F : Nat → Prop} {w : World} : SlR R k F w [] [.slice none 0 0] := ⟨none,0,rfl,by simp,fun h => absurd rfl h⟩
theorem SlR.at_ {α : Type} {R : Rep α} {k : Nat} {F : Nat → Prop} {w : World} {l : List α} {A : Option Addr} {n c : Nat} (hR : RepOk R) (h : SlR R k F w l [.slice A n c]) : n = l.length ∧ l.length ≤ 140737488355328 ∧ SlAt (Rd R) k w A l := by
 obtain ⟨A',c',e,hl,hr⟩ := h;cases e;refine ⟨rfl,hl,fun hne => ?_⟩;obtain ⟨b,off,hA,_,hlt,hc⟩ := hr hne;refine ⟨b,off,hA,hlt,fun i x hx => ?_⟩;obtain ⟨us,h1,h2,h3⟩ := hc i x hx;exact ⟨us,h1,hR.rd h2,h3⟩
theorem SlR.form {α : Type} {R : Rep α} {k : Nat} {F : Nat → Prop} {w : World} {l : List α} {vs : List Value} (h : SlR R k F w l vs) : ∃ A c,vs = [.slice A l.length c] := by
 obtain ⟨A,c,e,_⟩ := h;exact ⟨A,c,e⟩
theorem SlR.of_at {α : Type} {R : Rep α} {k : Nat} {w : World} {l : List α} {A : Option Addr} {c : Nat} (h : SlAt (Rd R) k w A l) (hl : l.length ≤ 140737488355328) : SlR R k (fun _ => True) w l [.slice A l.length c] := by
 refine ⟨A,c,rfl,hl,fun hne => ?_⟩;obtain ⟨b,off,hA,hlt,hc⟩ := h hne;exact ⟨b,off,hA,trivial,hlt,fun i x hx => by
  obtain ⟨us,h1,h2,h3⟩ := hc i x hx;exact ⟨us,h1,h2,h3⟩⟩
theorem SlAt.ints {w : World} {A : Option Addr} {l : List Int} (h : SlAt (Rd IntR) 1 w A l) : IntsAt w A l := h

theorem flat_at {k : Nat} : ∀ (raw : List (List Value)) (h : ∀ x,x ∈ raw → x.length = k) (i j : Nat) (x : List Value),raw[i]? = some x → j < k → raw.flatten[i * k + j]? = x[j]? := by
 intro raw;induction raw with
 | nil => intro h i j x hx; simp at hx
 | cons a r ih =>
   intro h i j x hx hj;have ha : a.length = k := h a (by simp);cases i with
   | zero =>
     simp at hx; subst hx
     rw [List.flatten_cons,Nat.zero_mul,Nat.zero_add,List.getElem?_append_left (by omega)]
   | succ i =>
     simp at hx
     rw [List.flatten_cons,List.getElem?_append_right (by rw [ha,Nat.succ_mul]; omega),ha,show (i + 1) * k + j - k = i * k + j from by rw [Nat.succ_mul]; omega];exact ih (fun x hx => h x (by simp [hx])) i j x hx hj
structure OwnR {α : Type} (R : Rep α) (k T B : Nat) (X : Nat → Prop) (l : List α) (v : Value) (w : World) : Prop where
 raw : ∃ raw : List (List Value),raw.length = l.length ∧ w.ownsRow B T k v l.length raw.flatten ∧ (∀ x,x ∈ raw → x.length = k) ∧ ∀ (i : Nat) (x : α) (vs : List Value),l[i]? = some x → raw[i]? = some vs → R (fun b => B ≤ b ∧ ¬ X b ∧ some b ≠ v.ownBlock) w x vs
 far : ∀ b,X b → some b ≠ v.ownBlock
section
variable {α : Type} {R : Rep α} {k T B : Nat} {X : Nat → Prop} {l : List α} {v : Value} {w w' : World}
theorem OwnR.nil (w : World) : OwnR R k T B X [] (.slice none 0 0) w := ⟨⟨[],rfl,World.ownsRow_nil ..,fun x h => absurd h (by simp),fun i x vs h => absurd h (by simp)⟩,fun b _ => by simp [Value.ownBlock]⟩
theorem OwnR.form (h : OwnR R k T B X l v w) : ∃ A c,v = .slice A l.length c := by
 obtain ⟨raw,_,h2,_⟩ := h.raw;exact own_form h2
theorem OwnR.lt (h : OwnR R k T B X l v w) : ∀ j,v.ownBlock = some j → B ≤ j ∧ j < w.heap.size := by
 obtain ⟨raw,_,h2,_⟩ := h.raw;exact World.ownsRow.lt h2
theorem OwnR.keep (hR : RepOk R) (h : OwnR R k T B X l v w) (hz : w.heap.size ≤ w'.heap.size) (hk : ∀ b,B ≤ b → ¬ X b → b < w.heap.size → w'.heap[b]? = w.heap[b]?) : OwnR R k T B X l v w' := by
 obtain ⟨⟨raw,h1,h2,h3,h4⟩,far⟩ := h;refine ⟨⟨raw,h1,⟨h2.1,?_⟩,h3,fun i x vs hx hv => hR.keep hz (fun b hb hlt => hk b hb.1 hb.2.1 hlt) (h4 i x vs hx hv)⟩,far⟩;rcases h2.2 with h | ⟨g,cap,cur,r1,r2,r3,r4⟩
 · exact .inl h
 · subst r1;exact .inr ⟨g,cap,cur,rfl,r2,(hk g r2 (fun hx => far g hx rfl) (Array.getElem?_eq_some_iff.1 r3).1).trans r3,r4⟩
theorem OwnR.below (hR : RepOk R) (h : OwnR R k T B X l v w) (hb : Below w.heap.size w w') : OwnR R k T B X l v w' := h.keep hR hb.size fun b _ _ hlt => hb.block b hlt
theorem OwnR.alloc (hR : RepOk R) (h : OwnR R k T B X l v w) (o : Obj) : OwnR R k T B X l v (w.alloc o) := h.below hR (Below.new w o)
theorem OwnR.drew (hR : RepOk R) (h : OwnR R k T B X l v w) : OwnR R k T B X l v w.drew := h.below hR (Below.refl _ _).drew
theorem OwnR.grown {row : Option Nat} (hR : RepOk R) (h : OwnR R k T B X l v w) (hg : w.grownBy w' row) (hr : ∀ j,row = some j → j < B ∨ X j) : OwnR R k T B X l v w' :=
 h.keep hR hg.size fun b hB hX hlt => hg.block b hlt (fun e => (hr b e.symm).elim (fun h => absurd hB (by omega)) hX)
theorem OwnR.setCell (hR : RepOk R) (h : OwnR R k T B X l v w) {p : Addr} {u : Value} (hp : p.block < B ∨ X p.block) : OwnR R k T B X l v (w.setCell p u) :=
 h.keep hR (by simp) fun b hB hX _ => Below.heap_setCell w p u b (fun e => hp.elim (fun h => by omega) (fun h => hX (e ▸ h)))
theorem OwnR.base {B' : Nat} (hR : RepOk R) (h : OwnR R k T B X l v w) (hB : B' ≤ B) : OwnR R k T B' X l v w := by
 obtain ⟨⟨raw,h1,h2,h3,h4⟩,far⟩ := h;refine ⟨⟨raw,h1,⟨h2.1,?_⟩,h3,fun i x vs hx hv => hR.mono (fun b hb _ => ⟨Nat.le_trans hB hb.1,hb.2⟩) (h4 i x vs hx hv)⟩,far⟩;rcases h2.2 with h | ⟨g,cap,cur,r1,r2,r3⟩
 · exact .inl h
 · exact .inr ⟨g,cap,cur,r1,Nat.le_trans hB r2,r3⟩
def NoBlk : Nat → Prop := fun _ => False
def Beside (X : Nat → Prop) (v : Value) : Nat → Prop := fun b => X b ∨ some b = v.ownBlock
theorem Beside.lt {v : Value} {n : Nat} (h : ∀ j,v.ownBlock = some j → j < n) : ∀ b,Beside NoBlk v b → b < n := fun b hb => hb.elim False.elim fun e => h b e.symm
theorem OwnR.rep (hR : RepOk R) (h : OwnR R k T B X l v w) (hk : 0 < k) (hl : l.length ≤ 140737488355328) : SlR R k (fun b => B ≤ b ∧ ¬ X b) w l [v] := by
 obtain ⟨⟨raw,h1,h2,h3,h4⟩,far⟩ := h;rcases h2.2 with ⟨rfl,h0⟩ | ⟨g,cap,cur,rfl,r1,r2,r3⟩
 · have : l = [] := List.eq_nil_of_length_eq_zero h0;subst this;exact SlR.nil
 · refine ⟨some ⟨g,0,none⟩,cap,rfl,hl,fun _ => ⟨g,0,rfl,⟨r1,fun hX => far g hX rfl⟩,(Array.getElem?_eq_some_iff.1 r2).1,fun i x hx => ?_⟩⟩;have hi := (List.getElem?_eq_some_iff.1 hx).1;obtain ⟨vs,hv⟩ : ∃ vs,raw[i]? = some vs := ⟨_,List.getElem?_eq_getElem (by omega)⟩;have hvk := h3 vs (List.mem_of_getElem? hv);refine ⟨vs,hvk,hR.mono (fun b hb _ => ⟨hb.1,hb.2.1⟩) (h4 i x vs hx hv),fun j u hj => ?_⟩;have hj' : j < k := by have := (List.getElem?_eq_some_iff.1 hj).1; omega
   have hlt : i * k + j < l.length * k := by
    have : (i + 1) * k ≤ l.length * k := Nat.mul_le_mul_right k hi;rw [Nat.succ_mul] at this; omega
   rw [Nat.zero_add,h2.cellAt _ hlt,flat_at raw h3 i j vs hv hj',hj]
end
theorem OwnR.at_ {α : Type} {R : Rep α} {k T B : Nat} {X : Nat → Prop} {l : List α} {w : World} {A : Option Addr} {c : Nat} (hR : RepOk R) (h : OwnR R k T B X l (.slice A l.length c) w) (hk : 0 < k) (hl : l.length ≤ 140737488355328) : SlAt (Rd R) k w A l := (SlR.at_ hR (h.rep hR hk hl)).2.2

end
def PrR : Rep Pr := fun F w p vs => ∃ u,vs = [.int .i64 p.x,.int .i64 p.y,u] ∧ SlR IntR 1 F w p.w [u]
theorem PrR.ok : RepOk PrR := by
 have h := SlR.ok (PlR.ok encI) 1;constructor
 · rintro F w w' x vs hz hk ⟨u,e,hu⟩;exact ⟨u,e,h.keep hz hk hu⟩
 · rintro F G w x vs hk ⟨u,e,hu⟩;exact ⟨u,e,h.mono hk hu⟩
abbrev PrsAt (w : World) (A : Option Addr) (l : List Pr) : Prop := SlAt (Rd PrR) 3 w A l
theorem PrsAt.at {w : World} {A : Option Addr} {l : List Pr} (h : PrsAt w A l) {k : Nat} (hk : k < l.length) :
 ∃ (b off : Nat) (p : Pr) (A' : Option Addr) (c' : Nat),A = some ⟨b,off,none⟩ ∧ b < w.heap.size ∧ l[k]? = some p ∧ w.cell? ⟨b,off + k * 3,none⟩ = some (.int .i64 p.x) ∧ w.cell? ⟨b,off + k * 3 + 1,none⟩ = some (.int .i64 p.y) ∧ w.cell? ⟨b,off + k * 3 + 2,none⟩ = some (.slice A' p.w.length c') ∧ IntsAt w A' p.w ∧ p.w.length ≤ 140737488355328 := by
 obtain ⟨b,off,p,vs,rfl,hb,hp,hvl,⟨u,rfl,hu⟩,hc⟩ := SlAt.at h hk;obtain ⟨A',c',e⟩ := SlR.form hu;obtain rfl : u = .slice A' p.w.length c' := List.head_eq_of_cons_eq e;exact ⟨b,off,p,A',c',rfl,hb,hp,by simpa using hc 0 _ rfl,hc 1 _ rfl,hc 2 _ rfl,(SlR.at_ (PlR.ok encI) hu).2.2,(SlR.at_ (PlR.ok encI) hu).2.1⟩

theorem contains_c (A : Option Addr) (c : Nat) (l : List Int) (x : Int) (w : World) (h : IntsAt w A l) (hl : l.length ≤ 140737488355328) :
 Calls Tryz.prog 86 #[.slice A l.length c,.int .i64 x] w (Says (x ∈ l) w) := by
 go_enter Tryz.func86,Tryz.ntmps86
 go_wp2
 go_loop [5] (fun i => ∃ k : Nat,k ≤ l.length ∧ i = .int .i64 k ∧ Hid (∀ j y,j < k → l[j]? = some y → y ≠ x)) (fun i => l.length - (intOf i).toNat)
 case atStart => exact ⟨0,by omega,rfl,fun i x h => absurd h (by omega)⟩
 case round =>
  obtain ⟨k,hk,rfl,H⟩ := hrel;by_cases hlt : k < l.length
  · obtain ⟨b,off,y,rfl,_,hy,hcy⟩ := IntsAt.at h hlt;by_cases hyx : y = x
    · have HM := Lib.hid (List.mem_of_getElem? hy);have hyx' : (y == x) = true := by simpa using hyx
      have HYX := Lib.hid hyx;clear hy hyx;go_wp2
      go_ret
      exact Says.yes (HYX.out ▸ HM.out) rfl
    · have hyx' : (y == x) = false := by simpa using hyx
      have HYX := Lib.hid hyx;have HY := Lib.hid hy;clear hyx hy;go_wp2
      go_round
      case rel => exact ⟨k + 1,by omega,by go_num,fun j z hj hz => by
       by_cases e : j = k
       · subst e; rw [HY.out] at hz; cases hz; exact HYX.out
       · exact H.out j z (by omega) hz⟩
      case measure => simp [intOf]; omega
  · obtain rfl : k = l.length := by omega
    go_wp2
    go_ret
    exact Says.no (notIn_all H.out) rfl

theorem start9_c (a : Au) (p : AuP) (w : World) :
 Calls Tryz.prog 83 #[a.val p] w (Ret (.int .i64 a.st) w) := by
 obtain ⟨al,n,mr,ed⟩ := a;obtain ⟨A1,c1,A2,c2,A3,c3⟩ := p;(try dsimp only [Au.val] at *);have B0 := Lib.hid (Below.new w (.cells #[.slice A1 al.length c1,.int .i64 n,.slice A2 mr.length c2,.slice A3 ed.length c3] 31));have q1 : (w.alloc (.cells #[.slice A1 al.length c1,.int .i64 n,.slice A2 mr.length c2,.slice A3 ed.length c3] 31)).cell? ⟨w.heap.size,1,none⟩ = some (.int .i64 n) := new_cell w _ [_,_,_,_] _ 1 rfl;go_enter Tryz.func83,Tryz.ntmps83
 by_cases hn : n = 0
 · have hn' : (n == 0) = true := by simpa using hn
   have e : Hid ((⟨al,n,mr,ed⟩ : Au).st = -1) := by simp [Hid,Au.st,hn]
   clear hn;go_wp2
   go_ret
   exact ⟨ret_int e.out.symm,B0.out⟩
 · have hn' : (n == 0) = false := by simpa using hn
   have e : Hid ((⟨al,n,mr,ed⟩ : Au).st = 0) := by simp [Hid,Au.st,hn]
   clear hn;go_wp2
   go_ret
   exact ⟨ret_int e.out.symm,B0.out⟩

set_option maxHeartbeats 800000 in
theorem step9_c (a : Au) (p : AuP) (s ev : Int) (w : World) (ha : a.Right) (h3 : EdsAt w p.A3 a.ed) (l3 : a.ed.length ≤ 140737488355328) :
 Calls Tryz.prog 84 #[a.val p,.int .i64 s,.int .i64 ev] w (Ret (.int .i64 (toV (stepOf a.ed) s ev)) w) := by
 have HN := Lib.hid (ha.next s ev);have HNEG : Hid (s < 0 → nextV a.ed s ev = -1) := fun hs => by
  rcases ha.next_cases s ev with k | ⟨_,_,x,hx,rfl,_⟩
  · exact k
  · obtain ⟨j,hj,rfl⟩ := List.mem_iff_getElem.1 hx;have := (ha.ed j hj _ (List.getElem?_eq_getElem hj)).1;omega
 rw [← HN.out];clear HN ha;obtain ⟨al,n,mr,ed⟩ := a;obtain ⟨A1,c1,A2,c2,A3,c3⟩ := p;(try dsimp only [Au.val] at *);have B0 := Lib.hid (Below.new w (.cells #[.slice A1 al.length c1,.int .i64 n,.slice A2 mr.length c2,.slice A3 ed.length c3] 31));have HE := Lib.hid (h3.below EdE.stays B0.out);have q3 : (w.alloc (.cells #[.slice A1 al.length c1,.int .i64 n,.slice A2 mr.length c2,.slice A3 ed.length c3] 31)).cell? ⟨w.heap.size,3,none⟩ = some (.slice A3 ed.length c3) := new_cell w _ [_,_,_,_] _ 3 rfl;clear h3;go_enter Tryz.func84,Tryz.ntmps84
 go_wp2_with fail
 generalize hW : w.alloc (.cells #[.slice A1 al.length c1,.int .i64 n,.slice A2 mr.length c2,.slice A3 ed.length c3] 31) = W at *;clear hW;go_loop [7] (fun i => ∃ k : Nat,k ≤ ed.length ∧ i = .int .i64 k ∧ Hid (∀ j y,j < k → ed[j]? = some y → ¬ (y.src = s ∧ y.ev = ev))) (fun i => ed.length - (intOf i).toNat)
 case atStart => exact ⟨0,by omega,rfl,fun i x h => absurd h (by omega)⟩
 case round =>
  obtain ⟨k,hk,rfl,H⟩ := hrel;by_cases hlt : k < ed.length
  · by_cases h0 : 0 ≤ s
    · obtain ⟨b,off,x,rfl,_,hx,hc0,hc1,hc2⟩ := EdsAt.at HE.out hlt;obtain ⟨src,e',dst⟩ := x;dsimp only at hc0 hc1 hc2;have HX := Lib.hid hx;clear hx;by_cases h1 : src = s
      · have h1' : (src == s) = true := by simpa using h1
        have H1 := Lib.hid h1;clear h1;by_cases h2 : e' = ev
        · have h2' : (e' == ev) = true := by simpa using h2
          have H2 := Lib.hid h2;clear h2;go_wp2
          go_ret
          exact ⟨ret_int (nextV_hit H.out HX.out H1.out H2.out).symm,B0.out⟩
        · have h2' : (e' == ev) = false := by simpa using h2
          have H2 := Lib.hid h2;clear h2;go_wp2
          go_round
          case rel => exact ⟨k + 1,by omega,by go_num,fun j z hj hz => by
           by_cases e : j = k
           · subst e; rw [HX.out] at hz; cases hz; exact fun h => H2.out h.2
           · exact H.out j z (by omega) hz⟩
          case measure => simp [intOf]; omega
      · have h1' : (src == s) = false := by simpa using h1
        have H1 := Lib.hid h1;clear h1;go_wp2
        go_round
        case rel => exact ⟨k + 1,by omega,by go_num,fun j z hj hz => by
         by_cases e : j = k
         · subst e; rw [HX.out] at hz; cases hz; exact fun h => H1.out h.1
         · exact H.out j z (by omega) hz⟩
        case measure => simp [intOf]; omega
    · have HR := Lib.hid (HNEG.out (by omega));go_wp2
      go_ret
      exact ⟨ret_int HR.out.symm,B0.out⟩
  · obtain rfl : k = ed.length := by omega
    go_wp2
    go_ret
    exact ⟨ret_int (nextV_miss H.out).symm,B0.out⟩

theorem marked9_c (a : Au) (p : AuP) (s : Int) (w : World) (h2 : IntsAt w p.A2 a.mr) (l2 : a.mr.length ≤ 140737488355328) :
 Calls Tryz.prog 42 #[a.val p,.int .i64 s] w (Tells (s ∈ a.mr) w) := by
 obtain ⟨al,n,mr,ed⟩ := a;obtain ⟨A1,c1,A2,c2,A3,c3⟩ := p;(try dsimp only [Au.val] at *);have B0 := Lib.hid (Below.new w (.cells #[.slice A1 al.length c1,.int .i64 n,.slice A2 mr.length c2,.slice A3 ed.length c3] 31));have HE := Lib.hid (h2.below IntE.stays B0.out);have q2 : (w.alloc (.cells #[.slice A1 al.length c1,.int .i64 n,.slice A2 mr.length c2,.slice A3 ed.length c3] 31)).cell? ⟨w.heap.size,2,none⟩ = some (.slice A2 mr.length c2) := new_cell w _ [_,_,_,_] _ 2 rfl;clear h2;go_enter Tryz.func42,Tryz.ntmps42
 go_wp2_with fail
 refine (contains_c A2 c2 mr s _ HE.out l2).mono ?_;rintro e w' ⟨r,rfl,hr,rfl⟩;have HR := Lib.hid hr;clear hr;go_wp2_with fail
 go_ret
 exact ⟨r,rfl,HR.out,B0.out⟩

def FindP (l : List Pr) (q : Int × Int) (r : Int) : Prop := (r = -1 ∧ ¬ q ∈ l.map Pr.pr) ∨ ∃ i : Nat,r = (i : Int) ∧ (l.map Pr.pr)[i]? = some q
def GivesFind (l : List Pr) (q : Int × Int) (w : World) (e : Ending) (w' : World) : Prop := ∃ r : Int,e = .returned (.int .i64 r) ∧ Hid (FindP l q r) ∧ w = w'
set_option maxHeartbeats 800000 in
theorem find9_c (A : Option Addr) (c : Nat) (l : List Pr) (x y : Int) (w : World) (h : PrsAt w A l) (hl : l.length ≤ 140737488355328) :
 Calls Tryz.prog 85 #[.slice A l.length c,.int .i64 x,.int .i64 y] w (GivesFind l (x,y) w) := by
 go_enter Tryz.func85,Tryz.ntmps85
 go_wp2
 go_loop [7] (fun i => ∃ k : Nat,k ≤ l.length ∧ i = .int .i64 k ∧ Hid (∀ j p,j < k → l[j]? = some p → p.pr ≠ (x,y))) (fun i => l.length - (intOf i).toNat)
 case atStart => exact ⟨0,by omega,rfl,fun i x h => absurd h (by omega)⟩
 case round =>
  obtain ⟨k,hk,rfl,H⟩ := hrel;by_cases hlt : k < l.length
  · obtain ⟨b,off,p,A',c',rfl,_,hp,hx,hy,_,_,_⟩ := PrsAt.at h hlt;have HP := Lib.hid hp;clear hp;by_cases h1 : p.x = x
    · have h1' : (p.x == x) = true := by simpa using h1
      have H1 := Lib.hid h1;clear h1;by_cases h2 : p.y = y
      · have h2' : (p.y == y) = true := by simpa using h2
        have H2 := Lib.hid h2;clear h2;go_wp2
        go_ret
        exact ⟨_,rfl,.inr ⟨k,rfl,by rw [List.getElem?_map,HP.out,← H1.out,← H2.out]; rfl⟩,rfl⟩
      · have h2' : (p.y == y) = false := by simpa using h2
        have H2 := Lib.hid h2;clear h2;go_wp2
        go_round
        case rel => exact ⟨k + 1,by omega,by go_num,fun j z hj hz => by
         by_cases e : j = k
         · subst e; rw [HP.out] at hz; cases hz; exact fun h => H2.out (Prod.mk.inj h).2
         · exact H.out j z (by omega) hz⟩
        case measure => simp [intOf]; omega
    · have h1' : (p.x == x) = false := by simpa using h1
      have H1 := Lib.hid h1;clear h1;go_wp2
      go_round
      case rel => exact ⟨k + 1,by omega,by go_num,fun j z hj hz => by
       by_cases e : j = k
       · subst e; rw [HP.out] at hz; cases hz; exact fun h => H1.out (Prod.mk.inj h).1
       · exact H.out j z (by omega) hz⟩
      case measure => simp [intOf]; omega
  · obtain rfl : k = l.length := by omega
    go_wp2
    go_ret
    exact ⟨_,rfl,.inl ⟨rfl,fun hm => by
     obtain ⟨p,hp,he⟩ := List.mem_map.1 hm;obtain ⟨j,hj,hjp⟩ := List.mem_iff_getElem.1 hp;exact H.out j p hj (by rw [List.getElem?_eq_getElem hj,hjp]) he⟩,rfl⟩
set_option maxHeartbeats 4000000 in
theorem core9_c (a : Au) (p : AuP) (w : World) (hr : a.Right) (hA : Au.At w a p) :
 Calls Tryz.prog 40 #[a.val p] w (GivesB a.n.toNat (gdN a a.n.toNat) w) := by
 have HR := Lib.hid hr;have HA := Lib.hid hA;have h0 := hr.n0;have hn := hr.n1;have hml : a.mr.length ≤ 4096 := by have := hr.mr.short; omega
 have hel : a.ed.length ≤ 140737488355328 := hA.led;obtain ⟨al,n,mr,ed⟩ := a;obtain ⟨A1,c1,A2,c2,A3,c3⟩ := p;(try dsimp only [Au.val] at *);obtain ⟨N,rfl⟩ := Int.eq_ofNat_of_zero_le h0;have hmk := make_run (P := Tryz.prog) 78 4 (.bool false) 1 Tryz.underlying78 boolInfo rfl N (by omega) (by omega);clear hr hA h0;rw [Int.toNat_natCast];go_enter Tryz.func40,Tryz.ntmps40
 go_wp2_with fail
 refine wp_world (fun W => Sep w.heap.size w [eBlk (w.heap.size + 1) 4 (mkB N fun s => decide ((s : Int) ∈ mr.take 0)),eBlk w.heap.size 31 [.slice A1 al.length c1,.int .i64 ↑N,.slice A2 mr.length c2,.slice A3 ed.length c3]] W) ?_ fun W S => ?_
 · have e : (fun s : Nat => decide ((s : Int) ∈ mr.take 0)) = fun _ => false := by funext s; simp
   rw [e,← mkB_rep];exact ((Sep.here w).alloc 31 [_,_,_,_]).alloc' _ _ rfl (by simp)
 have S0 := Lib.hid S;clear hmk S;go_loopw [4] (fun i wr => ∃ k : Nat,i = .int .i64 k ∧ k ≤ mr.length ∧ (SepW w [eBlk (w.heap.size + 1) 4 (mkB N fun s => decide ((s : Int) ∈ mr.take k)),eBlk w.heap.size 31 [.slice A1 al.length c1,.int .i64 ↑N,.slice A2 mr.length c2,.slice A3 ed.length c3]] wr)) (fun i _ => mr.length - (intOf i).toNat)
 case atStart => exact ⟨0,rfl,Nat.zero_le _,S0.out⟩
 case round =>
  clear S0;obtain ⟨k,rfl,hk,S⟩ := hrel;have b2 := ckC S.out 1 rfl 2 rfl;have b1 := ckC S.out 1 rfl 1 rfl;by_cases hlt : k < mr.length
  · obtain ⟨b,off,x,rfl,hb,hx,c0⟩ := IntsAt.at (HA.out.below S.out.below).mr hlt;have hxr := HR.out.mem (List.mem_of_getElem? hx);simp only at hxr
    obtain ⟨m,rfl⟩ := Int.eq_ofNat_of_zero_le hxr.1;have q1 : wr.cell? ⟨w.heap.size + 1,m,none⟩ = some (.bool _) := (BlkAt.cell (S.out.get 0 rfl) m).trans (mkB_get (by omega));have f1 : wr.frozen? ⟨w.heap.size + 1,m,none⟩ = false := BlkAt.free (S.out.get 0 rfl) m;have S2 : (SepW w [eBlk (w.heap.size + 1) 4 (mkB N fun s => decide ((s : Int) ∈ mr.take (k + 1))),eBlk w.heap.size 31 [.slice A1 al.length c1,.int .i64 ↑N,.slice (some ⟨b,off,none⟩) mr.length c2,.slice A3 ed.length c3]] (wr.setCell ⟨w.heap.size + 1,m,none⟩ (.bool true))) := by
     have h := S.out.set 0 rfl m (.bool true);rw [mkB_set] at h;have e : (mkB N fun t => decide (t = m) || decide ((t : Int) ∈ mr.take k)) = mkB N fun s => decide ((s : Int) ∈ mr.take (k + 1)) := mkB_congr fun s _ => by
      rw [List.take_add_one,hx];simp only [Option.toList_some,List.mem_append,List.mem_singleton,Bool.decide_or];rw [Bool.or_comm];congr 1
      exact decide_eq_decide.2 (by omega)
     rw [e] at h;exact h
    clear hx S;go_wp2_with fail
    go_roundw
    case rel => exact ⟨k + 1,by go_num,by omega,S2.out⟩
    case measure => simp [intOf]; omega
  · obtain rfl : k = mr.length := by omega
    have S3 : (SepW w [eBlk (w.heap.size + 1) 4 (mkB N (gdN ⟨al,↑N,mr,ed⟩ 0)),eBlk w.heap.size 31 [.slice A1 al.length c1,.int .i64 ↑N,.slice A2 mr.length c2,.slice A3 ed.length c3]] wr) := by have h := S.out; rw [List.take_length] at h; exact h
    clear S b1;go_wp2_with fail
    go_loopw [5,6] (fun i _ wr => ∃ r : Nat,i = .int .i64 r ∧ r ≤ N ∧ (SepW w [eBlk (w.heap.size + 1) 4 (mkB N (gdN ⟨al,↑N,mr,ed⟩ r)),eBlk w.heap.size 31 [.slice A1 al.length c1,.int .i64 ↑N,.slice A2 mr.length c2,.slice A3 ed.length c3]] wr)) (fun i _ _ => N - (intOf i).toNat)
    case atStart => exact ⟨0,rfl,Nat.zero_le _,S3.out⟩
    case round =>
     clear S3 b2;obtain ⟨r,rfl,hrN,S⟩ := hrel;have b1 := ckC S.out 1 rfl 1 rfl;by_cases hlt : r < N
     · have F0 : (SepW w [eBlk (w.heap.size + 1) 4 (mkB N (rdB (ed.take 0) (gdN ⟨al,↑N,mr,ed⟩ r))),eBlk w.heap.size 31 [.slice A1 al.length c1,.int .i64 ↑N,.slice A2 mr.length c2,.slice A3 ed.length c3]] wr) := S.out;clear S;go_wp2_with fail
       go_loopw [6] (fun i wr => ∃ k : Nat,i = .int .i64 k ∧ k ≤ ed.length ∧ (SepW w [eBlk (w.heap.size + 1) 4 (mkB N (rdB (ed.take k) (gdN ⟨al,↑N,mr,ed⟩ r))),eBlk w.heap.size 31 [.slice A1 al.length c1,.int .i64 ↑N,.slice A2 mr.length c2,.slice A3 ed.length c3]] wr)) (fun i _ => ed.length - (intOf i).toNat)
       case atStart => exact ⟨0,rfl,Nat.zero_le _,F0.out⟩
       case round =>
        clear F0 b1;obtain ⟨k,rfl,hk,S⟩ := hrel;have b3 := ckC S.out 1 rfl 3 rfl;by_cases hlt2 : k < ed.length
        · obtain ⟨b,off,x,rfl,hb,hx,c0,cE,cD⟩ := EdsAt.at (HA.out.below S.out.below).ed hlt2;have hT : Hid (rdB (ed.take (k + 1)) (gdN ⟨al,↑N,mr,ed⟩ r) = edB (rdB (ed.take k) (gdN ⟨al,↑N,mr,ed⟩ r)) x) := by rw [Hid,List.take_add_one,hx]; exact rdB_snoc _ _ _
          have hxr := HR.out.edge hx;simp only at hxr
          obtain ⟨f,hf⟩ : ∃ f,rdB (ed.take k) (gdN ⟨al,↑N,mr,ed⟩ r) = f := ⟨_,rfl⟩;rw [hf] at S hT;obtain ⟨xs,xe,xd⟩ := x;simp only at hxr c0 cE cD
          obtain ⟨s,rfl⟩ := Int.eq_ofNat_of_zero_le hxr.1;obtain ⟨d,rfl⟩ := Int.eq_ofNat_of_zero_le hxr.2.2.1;have q1 : wr.cell? ⟨w.heap.size + 1,d,none⟩ = some (.bool (f d)) := (BlkAt.cell (S.out.get 0 rfl) d).trans (mkB_get (by omega));have q2 : wr.cell? ⟨w.heap.size + 1,s,none⟩ = some (.bool (f s)) := (BlkAt.cell (S.out.get 0 rfl) s).trans (mkB_get (by omega));have q3 : wr.frozen? ⟨w.heap.size + 1,s,none⟩ = false := BlkAt.free (S.out.get 0 rfl) s;have hs : s < N := by omega
          have hd : d < N := by omega
          obtain ⟨fd,hfd⟩ : ∃ b,f d = b := ⟨_,rfl⟩;rw [hfd] at q1;have HFD := Lib.hid hfd;clear hx hf hxr hfd;cases fd
          · have hE : Hid (edB f ⟨(s : Int),xe,(d : Int)⟩ = f) := by rw [Hid,edB,Int.toNat_natCast,HFD.out]; rfl
            go_wp2_with fail
            go_roundw
            case rel => exact ⟨k + 1,by go_num,by omega,by rw [hT.out,hE.out]; exact S.out⟩
            case measure => simp [intOf]; omega
          · have S2 : (SepW w [eBlk (w.heap.size + 1) 4 (mkB N (edB f ⟨(s : Int),xe,(d : Int)⟩)),eBlk w.heap.size 31 [.slice A1 al.length c1,.int .i64 ↑N,.slice A2 mr.length c2,.slice (some ⟨b,off,none⟩) ed.length c3]] (wr.setCell ⟨w.heap.size + 1,s,none⟩ (.bool true))) := by
             have h := S.out.set 0 rfl s (.bool true);rw [mkB_set] at h;have e : edB f ⟨(s : Int),xe,(d : Int)⟩ = fun t => decide (t = s) || f t := by
              unfold edB
              rw [Int.toNat_natCast,Int.toNat_natCast,HFD.out];rfl
             rw [e];exact h
            clear S;go_wp2_with fail
            go_roundw
            case rel => exact ⟨k + 1,by go_num,by omega,by rw [hT.out]; exact S2.out⟩
            case measure => simp [intOf]; omega
        · obtain rfl : k = ed.length := by omega
          have S4 : (SepW w [eBlk (w.heap.size + 1) 4 (mkB N (gdN ⟨al,↑N,mr,ed⟩ (r + 1))),eBlk w.heap.size 31 [.slice A1 al.length c1,.int .i64 ↑N,.slice A2 mr.length c2,.slice A3 ed.length c3]] wr) := by have h := S.out; rw [List.take_length] at h; exact h
          clear S;go_wp2_with fail
          go_roundw
          case rel => exact ⟨r + 1,by go_num,by omega,S4.out⟩
          case measure => simp [intOf]; omega
     · obtain rfl : r = N := by omega
       have S5 := Lib.hid S.out.first;go_wp2_with fail
       go_ret
       exact ⟨_,rfl,S5.out⟩
theorem union_drop1 {a b : List Int} {i j : Nat} {x : Int} (hx : a[i]? = some x) (h : b.length ≤ j) : unionV (a.drop i) (b.drop j) = x :: unionV (a.drop (i + 1)) (b.drop j) := by
 obtain ⟨h1,h2⟩ := List.getElem?_eq_some_iff.1 hx;rw [List.drop_eq_getElem_cons h1,h2,List.drop_eq_nil_of_le h];unfold unionV; rw [mergeV]; rfl
theorem union_lt {a b : List Int} {i j : Nat} {x y : Int} (hx : a[i]? = some x) (hy : b[j]? = some y) (h : x < y) : unionV (a.drop i) (b.drop j) = x :: unionV (a.drop (i + 1)) (b.drop j) := by
 obtain ⟨h1,h2⟩ := List.getElem?_eq_some_iff.1 hx;obtain ⟨h3,h4⟩ := List.getElem?_eq_some_iff.1 hy;rw [List.drop_eq_getElem_cons h1,h2,List.drop_eq_getElem_cons h3,h4];unfold unionV; rw [mergeV,if_pos h]; rfl
theorem union_eq {a b : List Int} {i j : Nat} {x : Int} (hx : a[i]? = some x) (hy : b[j]? = some x) : unionV (a.drop i) (b.drop j) = x :: unionV (a.drop (i + 1)) (b.drop (j + 1)) := by
 obtain ⟨h1,h2⟩ := List.getElem?_eq_some_iff.1 hx;obtain ⟨h3,h4⟩ := List.getElem?_eq_some_iff.1 hy;rw [List.drop_eq_getElem_cons h1,h2,List.drop_eq_getElem_cons h3,h4];unfold unionV; rw [mergeV,if_neg (by omega),if_neg (by omega)]; rfl
theorem union_gt {a b : List Int} {i j : Nat} {y : Int} (hy : b[j]? = some y) (h : a.length ≤ i ∨ ∃ x,a[i]? = some x ∧ y < x) : unionV (a.drop i) (b.drop j) = y :: unionV (a.drop i) (b.drop (j + 1)) := by
 obtain ⟨h3,h4⟩ := List.getElem?_eq_some_iff.1 hy;rw [List.drop_eq_getElem_cons h3,h4];rcases h with h | ⟨x,hx,h⟩
 · rw [List.drop_eq_nil_of_le h];unfold unionV; rw [mergeV]; rfl
 · obtain ⟨h1,h2⟩ := List.getElem?_eq_some_iff.1 hx;rw [List.drop_eq_getElem_cons h1,h2];unfold unionV; rw [mergeV,if_neg (by omega),if_pos h]; rfl
theorem Own.dN {α : Type} {enc : α → List Value} {k T B : Nat} {l : List α} {v : Value} {w : World} (h : Own enc k T B l v w) (q : Nat) : Own enc k T B l v (w.drewN q) := h.below ((Below.refl w.heap.size w).draws q) (Nat.le_refl _)
set_option maxHeartbeats 4000000 in
theorem u01_c (A B : Option Addr) (cA cB : Nat) (a b : List Int) (w : World) (hA : IntsAt w A a) (hB : IntsAt w B b) (la : a.length + b.length ≤ 100000) :
 Calls Tryz.prog 82 #[.slice A a.length cA,.slice B b.length cB] w (GivesMg (unionV a b) w) := by
 have HA := Lib.hid hA;have HB := Lib.hid hB;clear hA hB;go_enter Tryz.func82,Tryz.ntmps82
 go_wp2_with fail
 go_loopw [5,6,7] (fun v x y wr => ∃ (i j : Nat) (l : List Int),i ≤ a.length ∧ j ≤ b.length ∧ x = .int .i64 ↑i ∧ y = .int .i64 ↑j ∧ l.length ≤ i + j ∧ Hid (l ++ unionV (a.drop i) (b.drop j) = unionV a b) ∧ Hid (OwnI w.heap.size l v wr) ∧ Hid (Fro w.heap.size w wr)) (fun _ x y _ => a.length + b.length - (intOf x).toNat - (intOf y).toNat)
 case atStart => exact ⟨0,0,[],by omega,by omega,rfl,rfl,by simp,by simp [Hid],Own.nil _,Fro.here w⟩
 case round =>
  obtain ⟨i,j,l,hi,hj,rfl,rfl,hl,HU,HV,BW⟩ := hrel;have hll : l.length ≤ 1048576 := by omega
  by_cases hja : j < b.length
  · obtain ⟨bb,ob,y,rfl,hbb,hy,cy⟩ := IntsAt.at (HB.out.below IntE.stays BW.out.b) hja;have HY := Lib.hid hy;clear hy;have ej : ((j : Int) == (b.length : Int)) = false := by rw [beq_eq_false_iff_ne]; omega
    by_cases hia : i < a.length
    · obtain ⟨ba,oa,x,rfl,hba,hx,cx⟩ := IntsAt.at (HA.out.below IntE.stays BW.out.b) hia;have HX := Lib.hid hx;clear hx;by_cases hxy : x ≤ y
      · have exy : decide (x ≤ y) = true := by simpa using hxy
        by_cases he : x = y
        · have hq : (x == y) = true := by simpa using he
          have HE := Lib.hid he;clear he hxy;go_wp2_with fail
          go_quiet (fail)
          go_wp2_with fail
          go_quiet (fail)
          go_wp2_with (at_builtin; refine wpList_push rfl _ _ 28 rfl ((HV.out.dN _).alloc _) Tryz.underlying28 _ 8 intInfo rfl (by decide) rfl x _ rfl rfl (one_cell _ _ _ _ rfl) (encI_one _) hll (by decide) ((BW.out.draws _).alloc _).z ?_)
          intro A' c' w1 ho hg _;have HN := Lib.hid ho;have HG := Lib.hid (((BW.out.draws _).alloc _).push ((HV.out.dN _).alloc _) hg);have HU2 : Hid ((l ++ [x]) ++ unionV (a.drop (i + 1)) (b.drop (j + 1)) = unionV a b) := by rw [Hid,← HU.out,union_eq HX.out (HE.out ▸ HY.out)]; simp
          clear ho hg HU;go_wp2_with fail
          go_roundw
          case rel => exact ⟨i + 1,j + 1,l ++ [x],by omega,by omega,by go_num,by go_num,by simp; omega,HU2.out,HN.out,HG.out⟩
          case measure => simp [intOf]; omega
        · have hq : (x == y) = false := by simpa using he
          have HE := Lib.hid (show x < y by omega);clear he hxy;go_wp2_with fail
          go_quiet (fail)
          go_wp2_with fail
          go_quiet (fail)
          go_wp2_with (at_builtin; refine wpList_push rfl _ _ 28 rfl ((HV.out.dN _).alloc _) Tryz.underlying28 _ 8 intInfo rfl (by decide) rfl x _ rfl rfl (one_cell _ _ _ _ rfl) (encI_one _) hll (by decide) ((BW.out.draws _).alloc _).z ?_)
          intro A' c' w1 ho hg _;have HN := Lib.hid ho;have HG := Lib.hid (((BW.out.draws _).alloc _).push ((HV.out.dN _).alloc _) hg);have HU2 : Hid ((l ++ [x]) ++ unionV (a.drop (i + 1)) (b.drop (j)) = unionV a b) := by rw [Hid,← HU.out,union_lt HX.out HY.out HE.out]; simp
          clear ho hg HU;go_wp2_with fail
          go_roundw
          case rel => exact ⟨i + 1,j,l ++ [x],by omega,by omega,by go_num,by go_num,by simp; omega,HU2.out,HN.out,HG.out⟩
          case measure => simp [intOf]; omega
      · have exy : decide (x ≤ y) = false := by simpa using hxy
        have HE := Lib.hid (show y < x by omega);clear hxy;go_wp2_with fail
        go_quiet (fail)
        go_wp2_with (at_builtin; refine wpList_push rfl _ _ 28 rfl ((HV.out.dN _).alloc _) Tryz.underlying28 _ 8 intInfo rfl (by decide) rfl y _ rfl rfl (one_cell _ _ _ _ rfl) (encI_one _) hll (by decide) ((BW.out.draws _).alloc _).z ?_)
        intro A' c' w1 ho hg _;have HN := Lib.hid ho;have HG := Lib.hid (((BW.out.draws _).alloc _).push ((HV.out.dN _).alloc _) hg);have HU2 : Hid ((l ++ [y]) ++ unionV (a.drop (i)) (b.drop (j + 1)) = unionV a b) := by rw [Hid,← HU.out,union_gt HY.out (.inr ⟨x,HX.out,HE.out⟩)]; simp
        clear ho hg HU;go_wp2_with fail
        go_roundw
        case rel => exact ⟨i,j + 1,l ++ [y],by omega,by omega,by go_num,by go_num,by simp; omega,HU2.out,HN.out,HG.out⟩
        case measure => simp [intOf]; omega
    · obtain rfl : i = a.length := by omega
      go_wp2_with fail
      go_quiet (fail)
      go_wp2_with (at_builtin; refine wpList_push rfl _ _ 28 rfl ((HV.out.dN _).alloc _) Tryz.underlying28 _ 8 intInfo rfl (by decide) rfl y _ rfl rfl (one_cell _ _ _ _ rfl) (encI_one _) hll (by decide) ((BW.out.draws _).alloc _).z ?_)
      intro A' c' w1 ho hg _;have HN := Lib.hid ho;have HG := Lib.hid (((BW.out.draws _).alloc _).push ((HV.out.dN _).alloc _) hg);have HU2 : Hid ((l ++ [y]) ++ unionV (a.drop (a.length)) (b.drop (j + 1)) = unionV a b) := by rw [Hid,← HU.out,union_gt HY.out (.inl (Nat.le_refl _))]; simp
      clear ho hg HU;go_wp2_with fail
      go_roundw
      case rel => exact ⟨a.length,j + 1,l ++ [y],by omega,by omega,by go_num,by go_num,by simp; omega,HU2.out,HN.out,HG.out⟩
      case measure => simp [intOf]; omega
  · obtain rfl : j = b.length := by omega
    by_cases hia : i < a.length
    · obtain ⟨ba,oa,x,rfl,hba,hx,cx⟩ := IntsAt.at (HA.out.below IntE.stays BW.out.b) hia;have HX := Lib.hid hx;clear hx;go_wp2_with fail
      go_quiet (fail)
      go_wp2_with fail
      go_quiet (fail)
      go_wp2_with (at_builtin; refine wpList_push rfl _ _ 28 rfl ((HV.out.dN _).alloc _) Tryz.underlying28 _ 8 intInfo rfl (by decide) rfl x _ rfl rfl (one_cell _ _ _ _ rfl) (encI_one _) hll (by decide) ((BW.out.draws _).alloc _).z ?_)
      intro A' c' w1 ho hg _;have HN := Lib.hid ho;have HG := Lib.hid (((BW.out.draws _).alloc _).push ((HV.out.dN _).alloc _) hg);have HU2 : Hid ((l ++ [x]) ++ unionV (a.drop (i + 1)) (b.drop (b.length)) = unionV a b) := by rw [Hid,← HU.out,union_drop1 HX.out (Nat.le_refl _)]; simp
      clear ho hg HU;go_wp2_with fail
      go_roundw
      case rel => exact ⟨i + 1,b.length,l ++ [x],by omega,by omega,by go_num,by go_num,by simp; omega,HU2.out,HN.out,HG.out⟩
      case measure => simp [intOf]; omega
    · obtain rfl : i = a.length := by omega
      have HZ : Hid (l = unionV a b) := by rw [Hid,← HU.out,List.drop_length,List.drop_length]; simp [unionV,mergeV]
      obtain ⟨A',c',rfl⟩ := Own.form HV.out;go_wp2_with fail
      go_ret
      have h := HZ.out;subst h;exact ⟨A',c',rfl,HV.out,BW.out.b⟩
structure Lt5 (l : List Int) (k : Nat) : Prop where
 inc : incr l
 rg : ∀ x,x ∈ l → 0 ≤ x ∧ x < (k : Int)
 len : l.length ≤ k
def GivesSet (w : World) (e : Ending) (w' : World) : Prop := ∃ l v,e = .returned v ∧ Lt5 l 5 ∧ Hid (OwnI w.heap.size l v w') ∧ Below w.heap.size w w'
theorem Lt5.skip {l : List Int} {k : Nat} (h : Lt5 l k) : Lt5 l (k + 1) := ⟨h.inc,fun x hx => by have := h.rg x hx; omega,by have := h.len; omega⟩
theorem Lt5.more {l : List Int} {k : Nat} (h : Lt5 l k) : Lt5 (l ++ [(k : Int)]) (k + 1) :=
 ⟨incr_snoc h.inc fun y hy => (h.rg y hy).2,fun x hx => by
  simp only [List.mem_append,List.mem_singleton] at hx;rcases hx with hx | rfl
  · have := h.rg x hx; omega
  · omega,by have := h.len; simp; omega⟩
def u8 (x : Int) : Value := .int .u8 x
structure B5 where
 x0 : Int
 x1 : Int
 x2 : Int
 x3 : Int
 x4 : Int
abbrev B5.cells (f : B5) : List Value := [.int .u8 f.x0,.int .u8 f.x1,.int .u8 f.x2,.int .u8 f.x3,.int .u8 f.x4]
structure B5.Ok (f : B5) : Prop where
 h : ∀ x,x ∈ [f.x0,f.x1,f.x2,f.x3,f.x4] → 0 ≤ x ∧ x < 256
theorem B5.get {f : B5} (h : f.Ok) {k : Nat} (hk : k < 5) : ∃ x,f.cells[k]? = some (.int .u8 x) ∧ 0 ≤ x ∧ x < 256 := by
 have h0 := h.h f.x0 (by simp);have h1 := h.h f.x1 (by simp);have h2 := h.h f.x2 (by simp);have h3 := h.h f.x3 (by simp);have h4 := h.h f.x4 (by simp);match k,hk with
 | 0,_ => exact ⟨_,rfl,h0⟩
 | 1,_ => exact ⟨_,rfl,h1⟩
 | 2,_ => exact ⟨_,rfl,h2⟩
 | 3,_ => exact ⟨_,rfl,h3⟩
 | 4,_ => exact ⟨_,rfl,h4⟩
theorem Own.far {α : Type} {enc : α → List Value} {k T B : Nat} {l : List α} {v : Value} {w : World} (h : Own enc k T B l v w) {b i : Nat} (hb : v.ownBlock ≠ some b) (u : Value) : Own enc k T B l v (w.setCell ⟨b,i,none⟩ u) := by
 refine ⟨h.1,?_⟩;rcases h.2 with h | ⟨g,cap,cur,rfl,r2,r3,r4⟩
 · exact .inl h
 · exact .inr ⟨g,cap,cur,rfl,r2,(Below.heap_setCell w ⟨b,i,none⟩ u g (fun e => hb (by simp [Value.ownBlock,e]))).trans r3,r4⟩
structure Gr where
 s : Int
 m : Int
 r0 : B5
 r1 : B5
 r2 : B5
 r3 : B5
 r4 : B5
abbrev Gr.cells (g : Gr) : List Value := [.int .u8 g.s,.int .u8 g.m,.int .u8 g.r0.x0,.int .u8 g.r0.x1,.int .u8 g.r0.x2,.int .u8 g.r0.x3,.int .u8 g.r0.x4,.int .u8 g.r1.x0,.int .u8 g.r1.x1,.int .u8 g.r1.x2,.int .u8 g.r1.x3,.int .u8 g.r1.x4,.int .u8 g.r2.x0,.int .u8 g.r2.x1,.int .u8 g.r2.x2,.int .u8 g.r2.x3,.int .u8 g.r2.x4,.int .u8 g.r3.x0,.int .u8 g.r3.x1,.int .u8 g.r3.x2,.int .u8 g.r3.x3,.int .u8 g.r3.x4,.int .u8 g.r4.x0,.int .u8 g.r4.x1,.int .u8 g.r4.x2,.int .u8 g.r4.x3,.int .u8 g.r4.x4]
abbrev Gr.val (g : Gr) : Value := .agg g.cells.toArray
structure Gr.Ok (g : Gr) : Prop where
 s : 0 ≤ g.s ∧ g.s < 256
 m : 0 ≤ g.m ∧ g.m < 256
 r0 : g.r0.Ok
 r1 : g.r1.Ok
 r2 : g.r2.Ok
 r3 : g.r3.Ok
 r4 : g.r4.Ok
theorem Gr.get {g : Gr} (h : g.Ok) {i k : Nat} (hi : i < 5) (hk : k < 5) : ∃ x,g.cells[2 + i * 5 + k]? = some (.int .u8 x) ∧ 0 ≤ x ∧ x < 256 := by
 match i,hi with
 | 0,_ => obtain ⟨x,h1,h2⟩ := B5.get h.r0 hk; exact ⟨x,by match k,hk with | 0,_ => exact h1 | 1,_ => exact h1 | 2,_ => exact h1 | 3,_ => exact h1 | 4,_ => exact h1,h2⟩
 | 1,_ => obtain ⟨x,h1,h2⟩ := B5.get h.r1 hk; exact ⟨x,by match k,hk with | 0,_ => exact h1 | 1,_ => exact h1 | 2,_ => exact h1 | 3,_ => exact h1 | 4,_ => exact h1,h2⟩
 | 2,_ => obtain ⟨x,h1,h2⟩ := B5.get h.r2 hk; exact ⟨x,by match k,hk with | 0,_ => exact h1 | 1,_ => exact h1 | 2,_ => exact h1 | 3,_ => exact h1 | 4,_ => exact h1,h2⟩
 | 3,_ => obtain ⟨x,h1,h2⟩ := B5.get h.r3 hk; exact ⟨x,by match k,hk with | 0,_ => exact h1 | 1,_ => exact h1 | 2,_ => exact h1 | 3,_ => exact h1 | 4,_ => exact h1,h2⟩
 | 4,_ => obtain ⟨x,h1,h2⟩ := B5.get h.r4 hk; exact ⟨x,by match k,hk with | 0,_ => exact h1 | 1,_ => exact h1 | 2,_ => exact h1 | 3,_ => exact h1 | 4,_ => exact h1,h2⟩

theorem Own.none {α : Type} {enc : α → List Value} {k T B : Nat} {l : List α} {A : Option Addr} {c : Nat} {w : World} (h : Own enc k T B l (.slice A l.length c) w) (hA : A = Option.none) : l = [] ∧ c = 0 := by
 subst hA;rcases h.2 with ⟨h1,h2⟩ | ⟨g,cap,cur,h1,_⟩
 · cases l with
   | nil => cases h1; exact ⟨rfl,rfl⟩
   | cons a l => simp at h2
 · cases h1
def GivesG3 (al : List Int) (w : World) (e : Ending) (w' : World) : Prop := ∃ (au : Au) (p : AuP),e = .returned (au.val p) ∧ au.Right ∧ au.al = al ∧ au.n ≤ 5 ∧ au.ed.length ≤ 25 ∧ au.mr.length ≤ 5 ∧ Hid (AuOwn w.heap.size au p w') ∧ Below w.heap.size w w'

set_option maxRecDepth 100000 in
set_option maxHeartbeats 4000000 in
theorem make3_c (A : Option Addr) (c : Nat) (al : List Int) (g : Gr) (w : World) (hA : IntsAt w A al) (h5 : Lt5 al 5) (hn : A = none → al = [] ∧ c = 0) (hg : g.Ok) :
 Calls Tryz.prog 7 #[.slice A al.length c,g.val] w (GivesG3 al w) := by
 have W0 : Hid (Fro w.heap.size w ((w.alloc (.cells g.cells.toArray 26)).alloc (.cells #[.slice none 0 0,.int .i64 0,.slice none 0 0,.slice none 0 0] 31))) := ((Fro.here w).alloc _).alloc _;have C0 : Hid (HasAt w.heap.size g.cells ((w.alloc (.cells g.cells.toArray 26)).alloc (.cells #[.slice none 0 0,.int .i64 0,.slice none 0 0,.slice none 0 0] 31))) := (HasAt.new w _ _ rfl).alloc _;have HA := Lib.hid hA;have H5 := Lib.hid h5;have HN := Lib.hid hn;have HG := Lib.hid hg;have hal := h5.len;have hs := hg.s;have hm := hg.m;have q0 := C0.out.c 0 _ rfl;have q1 := C0.out.c 1 _ rfl;clear hA h5 hn hg;dsimp only [Gr.val,Gr.cells] at *;go_enter Tryz.func7,Tryz.ntmps7
 have R0 : Hid (BlkAt ((w.alloc (.cells #[.int .u8 g.s,.int .u8 g.m,.int .u8 g.r0.x0,.int .u8 g.r0.x1,.int .u8 g.r0.x2,.int .u8 g.r0.x3,.int .u8 g.r0.x4,.int .u8 g.r1.x0,.int .u8 g.r1.x1,.int .u8 g.r1.x2,.int .u8 g.r1.x3,.int .u8 g.r1.x4,.int .u8 g.r2.x0,.int .u8 g.r2.x1,.int .u8 g.r2.x2,.int .u8 g.r2.x3,.int .u8 g.r2.x4,.int .u8 g.r3.x0,.int .u8 g.r3.x1,.int .u8 g.r3.x2,.int .u8 g.r3.x3,.int .u8 g.r3.x4,.int .u8 g.r4.x0,.int .u8 g.r4.x1,.int .u8 g.r4.x2,.int .u8 g.r4.x3,.int .u8 g.r4.x4] 26)).alloc (.cells #[.slice none 0 0,.int .i64 0,.slice none 0 0,.slice none 0 0] 31)) (w.heap.size + 1) 31 [.slice none 0 0,.int .i64 0,.slice none 0 0,.slice none 0 0]) := by
  have := BlkAt.new (w.alloc (.cells #[.int .u8 g.s,.int .u8 g.m,.int .u8 g.r0.x0,.int .u8 g.r0.x1,.int .u8 g.r0.x2,.int .u8 g.r0.x3,.int .u8 g.r0.x4,.int .u8 g.r1.x0,.int .u8 g.r1.x1,.int .u8 g.r1.x2,.int .u8 g.r1.x3,.int .u8 g.r1.x4,.int .u8 g.r2.x0,.int .u8 g.r2.x1,.int .u8 g.r2.x2,.int .u8 g.r2.x3,.int .u8 g.r2.x4,.int .u8 g.r3.x0,.int .u8 g.r3.x1,.int .u8 g.r3.x2,.int .u8 g.r3.x3,.int .u8 g.r3.x4,.int .u8 g.r4.x0,.int .u8 g.r4.x1,.int .u8 g.r4.x2,.int .u8 g.r4.x3,.int .u8 g.r4.x4] 26)) 31 [.slice none 0 0,.int .i64 0,.slice none 0 0,.slice none 0 0];simpa [Hid] using this
 have HZ0 : Hid (w.heap.size + 2 ≤ ((w.alloc (.cells #[.int .u8 g.s,.int .u8 g.m,.int .u8 g.r0.x0,.int .u8 g.r0.x1,.int .u8 g.r0.x2,.int .u8 g.r0.x3,.int .u8 g.r0.x4,.int .u8 g.r1.x0,.int .u8 g.r1.x1,.int .u8 g.r1.x2,.int .u8 g.r1.x3,.int .u8 g.r1.x4,.int .u8 g.r2.x0,.int .u8 g.r2.x1,.int .u8 g.r2.x2,.int .u8 g.r2.x3,.int .u8 g.r2.x4,.int .u8 g.r3.x0,.int .u8 g.r3.x1,.int .u8 g.r3.x2,.int .u8 g.r3.x3,.int .u8 g.r3.x4,.int .u8 g.r4.x0,.int .u8 g.r4.x1,.int .u8 g.r4.x2,.int .u8 g.r4.x3,.int .u8 g.r4.x4] 26)).alloc (.cells #[.slice none 0 0,.int .i64 0,.slice none 0 0,.slice none 0 0] 31)).heap.size) := by unfold Hid; simp
 by_cases hbig : 250 ≤ g.s
 · go_wp2_with fail
   generalize hW : (w.alloc (.cells #[.int .u8 g.s,.int .u8 g.m,.int .u8 g.r0.x0,.int .u8 g.r0.x1,.int .u8 g.r0.x2,.int .u8 g.r0.x3,.int .u8 g.r0.x4,.int .u8 g.r1.x0,.int .u8 g.r1.x1,.int .u8 g.r1.x2,.int .u8 g.r1.x3,.int .u8 g.r1.x4,.int .u8 g.r2.x0,.int .u8 g.r2.x1,.int .u8 g.r2.x2,.int .u8 g.r2.x3,.int .u8 g.r2.x4,.int .u8 g.r3.x0,.int .u8 g.r3.x1,.int .u8 g.r3.x2,.int .u8 g.r3.x3,.int .u8 g.r3.x4,.int .u8 g.r4.x0,.int .u8 g.r4.x1,.int .u8 g.r4.x2,.int .u8 g.r4.x3,.int .u8 g.r4.x4] 26)).alloc (.cells #[.slice none 0 0,.int .i64 0,.slice none 0 0,.slice none 0 0] 31) = W at *;clear hW;refine (Empty_c A c al W (HA.out.below IntE.stays W0.out.b) (by omega) HN.out).mono ?_;rintro e w2 ⟨AE,cE,rfl,HE,hb⟩;have W2 := Lib.hid (W0.out.next hb);have R2 : Hid (BlkAt w2 (w.heap.size + 1) 31 [.slice none 0 0,.int .i64 0,.slice none 0 0,.slice none 0 0]) := R0.out.below hb R0.out.lt;clear hb q0 q1 R0 C0;have r0 := R2.out.cell 0;have r1 := R2.out.cell 1;have r2 := R2.out.cell 2;have r3 := R2.out.cell 3;have g0 := R2.out.free 0;have g1 := R2.out.free 1;have g2 := R2.out.free 2;have g3 := R2.out.free 3;go_wp2
   refine bodyPost_ret (v := .agg #[.slice AE al.length cE,.int .i64 0,.slice none 0 0,.slice none 0 0]) (by simp [results,Tryz.results7,go_sem, *]) rfl ?_;refine ⟨⟨al,0,[],[]⟩,⟨AE,cE,none,0,none,0⟩,rfl,⟨H5.out.inc.setOk fun x hx => ⟨(H5.out.rg x hx).1,by have := (H5.out.rg x hx).2; omega⟩,by simp,by simp,fun i x h => absurd h (by simp),fun i h => absurd h (by simp)⟩,rfl,by simp,by simp,by simp,⟨?_,Own.nil _,Own.nil _,fun _ _ h => by (cases h),fun _ _ h => by (cases h),fun _ h => by (cases h),by simp only; omega,by simp,by simp⟩,?_⟩
   · exact Own.base (B := W.heap.size) (show OwnI _ _ _ _ from (ownsRow_setCell_below (ownsRow_setCell_below (ownsRow_setCell_below (ownsRow_setCell_below HE.out (by have := HZ0.out; simp only; omega) _) (by have := HZ0.out; simp only; omega) _) (by have := HZ0.out; simp only; omega) _) (by have := HZ0.out; simp only; omega) _)) (by have := HZ0.out; omega)
   · exact ((((W2.out.setCell (by omega) _).setCell (by omega) _).setCell (by omega) _).setCell (by omega) _).b
 · go_wp2_with fail
   generalize hW : (w.alloc (.cells #[.int .u8 g.s,.int .u8 g.m,.int .u8 g.r0.x0,.int .u8 g.r0.x1,.int .u8 g.r0.x2,.int .u8 g.r0.x3,.int .u8 g.r0.x4,.int .u8 g.r1.x0,.int .u8 g.r1.x1,.int .u8 g.r1.x2,.int .u8 g.r1.x3,.int .u8 g.r1.x4,.int .u8 g.r2.x0,.int .u8 g.r2.x1,.int .u8 g.r2.x2,.int .u8 g.r2.x3,.int .u8 g.r2.x4,.int .u8 g.r3.x0,.int .u8 g.r3.x1,.int .u8 g.r3.x2,.int .u8 g.r3.x3,.int .u8 g.r3.x4,.int .u8 g.r4.x0,.int .u8 g.r4.x1,.int .u8 g.r4.x2,.int .u8 g.r4.x3,.int .u8 g.r4.x4] 26)).alloc (.cells #[.slice none 0 0,.int .i64 0,.slice none 0 0,.slice none 0 0] 31) = W at *;clear hW;refine (Empty_c A c al W (HA.out.below IntE.stays W0.out.b) (by omega) HN.out).mono ?_;rintro e w2 ⟨AE,cE,rfl,HE,hb⟩;have W2 := Lib.hid (W0.out.next hb);have C2 := Lib.hid (C0.out.below hb);have R2 : Hid (BlkAt w2 (w.heap.size + 1) 31 [.slice none 0 0,.int .i64 0,.slice none 0 0,.slice none 0 0]) := R0.out.below hb R0.out.lt;clear hb q0 q1 R0 C0;have q0 := C2.out.c 0 _ rfl;have q1 := C2.out.c 1 _ rfl;have hz2 := C2.out.z;go_wp2_with fail
   obtain ⟨N,hN,hN1,hN5⟩ : ∃ N : Nat,1 + g.s % 5 = (N : Int) ∧ 1 ≤ N ∧ N ≤ 5 := ⟨(1 + g.s % 5).toNat,by omega,by omega,by omega⟩;generalize 1 + g.s % 5 = n at *;subst hN;have ST : Hid (OutSt w2.heap.size N (.slice AE al.length cE) (.slice none 0 0) (.slice none 0 0) [] [] (w2.alloc (.cells #[.slice AE al.length cE,.int .i64 N,.slice none 0 0,.slice none 0 0] 31))) := ⟨BlkAt.new w2 _ [_,_,_,_],Own.nil _,Own.nil _,fun _ h => by cases h⟩;have BB : Hid (Fro w2.heap.size w2 (w2.alloc (.cells #[.slice AE al.length cE,.int .i64 N,.slice none 0 0,.slice none 0 0] 31))) := (Fro.here w2).alloc _;generalize hW3 : w2.alloc (.cells #[.slice AE al.length cE,.int .i64 N,.slice none 0 0,.slice none 0 0] 31) = W3 at *;clear hW3 q0 q1 hz2;have CB : Hid (∀ V,Fro w2.heap.size w2 V → HasAt w.heap.size g.cells V) := fun V hb => C2.out.below hb.b;have AB : Hid (∀ V,Fro w2.heap.size w2 V → IntsAt V A al) := fun V hb => HA.out.below IntE.stays (W2.out.next hb.b).b;go_loopw [6] (fun j wr => ∃ (i : Nat) (v2 v3 : Value) (ms : List Int) (es : List Ed),j = .int .i64 i ∧ i ≤ N ∧ Hid (OutSt w2.heap.size N (.slice AE al.length cE) v2 v3 ms es wr) ∧ Hid (Fro w2.heap.size w2 wr) ∧ Hid (ms.length ≤ i ∧ es.length ≤ i * 5 ∧ ∀ x,x ∈ es → 0 ≤ x.dst ∧ x.dst < (N : Int))) (fun j _ => N - (intOf j).toNat)
   case atStart => exact ⟨0,_,_,[],[],rfl,by omega,ST.out,BB.out,by simp,by simp,by simp⟩
   case round =>
    obtain ⟨i,v2,v3,ms,es,rfl,hi,HS,BR,HL⟩ := hrel;have s1 := HS.out.blk.cell 1;by_cases hlt : i < N
    · have q1 := (CB.out wr BR.out).c 1 _ rfl;have hml := HL.out.1;go_upto_if 33 with fail
      go_cut [] (fun wx => Hid (Fro w2.heap.size w2 wx) ∧ ∃ (v2' : Value) (ms' : List Int),Hid (OutSt w2.heap.size N (.slice AE al.length cE) v2' v3 ms' es wx) ∧ Hid (ms'.length ≤ i + 1))
      case first =>
       have b2 := HS.out.blk.cell 2;have f2 := HS.out.blk.free 2;go_wp2_with (at_builtin; refine wpList_push rfl _ _ 28 rfl (HS.out.o2.alloc _) Tryz.underlying28 _ 8 intInfo rfl (by decide) rfl (i : Int) wr.heap.size rfl rfl (one_cell _ _ _ _ rfl) (encI_one _) (by omega) (by decide) (HS.out.z _) ?_)
       · intro A' c' w5 ho hg hat;have HSA : Hid (OutSt w2.heap.size N (.slice AE al.length cE) v2 v3 ms es (wr.alloc (.cells #[.int .i64 i] 3))) := HS.out.below (Below.new _ _);have HO := Lib.hid ho;have HGR : Hid ((wr.alloc (.cells #[.int .i64 i] 3)).grownBy w5 v2.ownBlock) := hg;have HAT : Hid ((Value.slice A' (ms.length + 1) c').ownBlock = v2.ownBlock ∨ (Value.slice A' (ms.length + 1) c').ownBlock = some (wr.alloc (.cells #[.int .i64 i] 3)).heap.size) := by simp only [Hid,World.size_alloc]; exact hat
         have q2 : w5.cell? ⟨w2.heap.size,2,none⟩ = some v2 := (HSA.out.blk.grown HGR.out (fun e => by have := (HSA.out.o2.lt _ e.symm).1; omega)).cell 2;have q2f : w5.frozen? ⟨w2.heap.size,2,none⟩ = false := (HSA.out.blk.grown HGR.out (fun e => by have := (HSA.out.o2.lt _ e.symm).1; omega)).free 2;clear ho hg hat b2 f2;go_wp2_with fail
         go_meet
         exact ⟨HSA.out.fro2 (BR.out.alloc _) HGR.out _ 2,_,_,HSA.out.mark HO.out HGR.out HAT.out,by simp [Hid]; omega⟩
       · go_meet
         exact ⟨BR.out,v2,ms,HS.out,by unfold Hid; omega⟩
      case rest =>
       obtain ⟨BC,v2',ms',HSC,HM⟩ := hcut;clear HS BR;go_wp2_with fail
       go_loopw [7] (fun j wr => ∃ (k : Nat) (v3' : Value) (es' : List Ed),j = .int .i64 k ∧ k ≤ al.length ∧ Hid (OutSt w2.heap.size N (.slice AE al.length cE) v2' v3' ms' es' wr) ∧ Hid (Fro w2.heap.size w2 wr) ∧ Hid (es'.length ≤ i * 5 + k ∧ ∀ x,x ∈ es' → 0 ≤ x.dst ∧ x.dst < (N : Int))) (fun j _ => al.length - (intOf j).toNat)
       case atStart => exact ⟨0,_,es,rfl,by omega,HSC.out,BC.out,by have := HL.out.2.1; omega,HL.out.2.2⟩
       case round =>
        obtain ⟨k,v3',es',rfl,hk,HS3,BR3,HL3⟩ := hrel;by_cases hkl : k < al.length
        · have hk5 : k < 5 := by omega
          obtain ⟨x,hx,hx0,hx1⟩ := Gr.get HG.out (i := i) (k := k) (by omega) hk5;have hcx := (CB.out wr BR3.out).c _ _ hx;have s1 := HS3.out.blk.cell 1;have hz := (CB.out wr BR3.out).z;clear hx;have iI : (i : Int) < 5 := by omega
          have kI : (k : Int) < 5 := by omega
          have e1 : IntKind.i64.wrap ((N : Int) + 2) = (N : Int) + 2 := IntWalk.i64_in _ (by omega);go_wp2_with fail
          go_quiet (fail)
          have ht0 : 0 ≤ x % ((N : Int) + 2) := Int.emod_nonneg _ (by omega);generalize x % ((N : Int) + 2) = t at *;have BV : Hid (Fro w2.heap.size w2 (wr.drewN nq)) := BR3.out.draws nq;have HSV : Hid (OutSt w2.heap.size N (.slice AE al.length cE) v2' v3' ms' es' (wr.drewN nq)) := HS3.out.below ((Below.refl _ _).draws nq);generalize hV : wr.drewN nq = V at *;clear hV s1 hcx hz e1 HS3 BR3;have s1 := HSV.out.blk.cell 1;by_cases htn : t < (N : Int)
          · obtain ⟨b2,off2,e,hA1,hb2,he,hce⟩ := IntsAt.at (AB.out V BV.out) hkl;subst hA1;clear he;have b3 := HSV.out.blk.cell 3;have f3 := HSV.out.blk.free 3;have hz5 := HSV.out.blk.lt;have hne : ¬ w2.heap.size = V.heap.size := by omega
            have hne2 : ¬ V.heap.size = w2.heap.size := by omega
            have HSE : Hid (OutSt w2.heap.size N (.slice AE al.length cE) v2' v3' ms' es' ((V.alloc (.cells #[.int .i64 i,.int .i64 e,.int .i64 t] 67)).drew)) := HSV.out.below (Below.new _ _).drew;have hln := HL3.out.1;have HO3 := Lib.hid HSE.out.o3;go_wp2_with fail
            go_region_law (
             (refine step_append_at rfl (.tmp 66) (.tmp 74) 29 rfl (w2.heap.size + 1) 67 _ 3 24 Tryz.underlying29 edInfo rfl (by decide) v3' _ _ rfl HO3.out ⟨V.heap.size,0,none⟩ 1 1 (Ed.cells ⟨(i : Int),e,t⟩) rfl rfl ?_ ?_ ?_ ?_ ?_ ?_
              (exact new_cells (by simp))
              (intro u hu; simp [Ed.cells] at hu; rcases hu with rfl | rfl | rfl <;> rfl)
              (simp only [maxLen]; omega)
              (omega)
              (simp; omega)
              intro A' c' w7 ho hg hb';have HO7 := Lib.hid (Own.pushed ho);have HG7 := Lib.hid hg;have HB7 := Lib.hid hb';have q7 : w7.cell? ⟨w2.heap.size,3,none⟩ = some v3' := (HSE.out.blk.grown HG7.out (fun e => by have := (HSE.out.o3.lt _ e.symm).1; omega)).cell 3;have q7f : w7.frozen? ⟨w2.heap.size,3,none⟩ = false := (HSE.out.blk.grown HG7.out (fun e => by have := (HSE.out.o3.lt _ e.symm).1; omega)).free 3;clear ho hg hb'))
            all_goals
             go_wp2
             go_roundw
             case rel => exact ⟨k + 1,_,_,by go_num,by omega,HSE.out.edge HO7.out HG7.out HB7.out,HSE.out.fro3 (BV.out.alloc _).drew HG7.out _ 3,by simp; omega,fun y hy => by
              simp only [List.mem_append,List.mem_singleton] at hy;rcases hy with hy | rfl
              · exact HL3.out.2 y hy
              · exact ⟨ht0,htn⟩⟩
             case measure => simp [intOf]; omega
          · go_wp2
            go_roundw
            case rel => exact ⟨k + 1,v3',es',by go_num,by omega,HSV.out,BV.out,by have := HL3.out.1; omega,HL3.out.2⟩
            case measure => simp [intOf]; omega
        · obtain rfl : k = al.length := by omega
          go_wp2
          go_roundw
          case rel => exact ⟨i + 1,v2',v3',ms',es',by go_num,by omega,HS3.out,BR3.out,HM.out,by have := HL3.out.1; omega,HL3.out.2⟩
          case measure => simp [intOf]; omega
    · obtain rfl : i = N := by omega
      obtain ⟨M2,m2,rfl⟩ := HS.out.o2.form;obtain ⟨M3,m3,rfl⟩ := HS.out.o3.form;have s0 := HS.out.blk.cell 0;have s2 := HS.out.blk.cell 2;have s3 := HS.out.blk.cell 3;have hml := HL.out.1;have hel := HL.out.2.1;have a1 : OwnI W.heap.size al (.slice AE al.length cE) wr := Own.below HE.out BR.out.b (Nat.le_refl _);have RAW : Raw ⟨al,i,ms,es⟩ := ⟨H5.out.inc.setOk fun x hx => ⟨(H5.out.rg x hx).1,by have := (H5.out.rg x hx).2; omega⟩,by simp only; omega,by simp only; omega,HL.out.2.2⟩;have HRR := Lib.hid (canonV_right RAW);have HSZ := Lib.hid (canonV_sizes RAW);have HCC := Lib.hid (Canonical_c ⟨al,i,ms,es⟩ ⟨AE,cE,M2,m2,M3,m3⟩ wr ⟨OwnI.ints a1,HS.out.o2.ints,Own.reads (fun _ => rfl) HS.out.o3,by simp only; omega,by simp only; omega,by simp only; omega⟩ RAW (fun e => Own.none a1 e) (by simp only; omega));have RW : Hid (BlkAt wr (w.heap.size + 1) 31 [.slice none 0 0,.int .i64 0,.slice none 0 0,.slice none 0 0]) := R2.out.below BR.out.b R2.out.lt;have BW : Hid (Fro w.heap.size w wr) := W2.out.next BR.out.b;clear a1 RAW;go_wp2_with fail
      refine HCC.out.mono ?_;rintro e w5 ⟨p,rfl,HP,hb⟩;have HP' := Lib.hid HP.out.at;have B5 := Lib.hid (BW.out.next hb);have R5 : Hid (BlkAt w5 (w.heap.size + 1) 31 [.slice none 0 0,.int .i64 0,.slice none 0 0,.slice none 0 0]) := RW.out.below hb RW.out.lt;have HP0 := Lib.hid HP.out;clear hb s0 s1 s2 s3 HP;have r0 := R5.out.cell 0;have r1 := R5.out.cell 1;have r2 := R5.out.cell 2;have r3 := R5.out.cell 3;have f0 := R5.out.free 0;have f1 := R5.out.free 1;have f2 := R5.out.free 2;have f3 := R5.out.free 3;have hwz : w.heap.size + 1 < wr.heap.size := RW.out.lt;have HAL : Hid ((canonV ⟨al,i,ms,es⟩).al = al) := rfl;generalize canonV ⟨al,i,ms,es⟩ = cv at *;obtain ⟨cal,cn,cms,ces⟩ := cv;obtain ⟨X1,x1,X2,x2,X3,x3⟩ := p;(try dsimp only [Au.val] at *);go_wp2
      refine bodyPost_ret (v := .agg #[.slice X1 cal.length x1,.int .i64 cn,.slice X2 cms.length x2,.slice X3 ces.length x3]) (by simp [results,Tryz.results7,go_sem, *]) rfl ?_;have st : ∀ {α : Type} {enc : α → List Value} {kk TT B : Nat} {l : List α} {v : Value} (V : World) (j : Nat) (u : Value),w.heap.size + 2 ≤ B → Own enc kk TT B l v V → Own enc kk TT B l v (V.setCell ⟨w.heap.size + 1,j,none⟩ u) := fun V j u hB h => ownsRow_setCell_below h (show w.heap.size + 1 < _ by omega) u;have zb : w.heap.size + 2 ≤ wr.heap.size := by omega
      have o1 := HP0.out.al;have o2 := HP0.out.mr;have o3 := HP0.out.ed;have sz := HP0.out.sm;have hz1 := HSZ.out.1;have hz2 := HSZ.out.2.1;have hz3 := HSZ.out.2.2;have hi5 : i * al.length ≤ 5 * 5 := Nat.mul_le_mul hN5 hal;simp only [Int.toNat_natCast] at *;refine ⟨⟨cal,cn,cms,ces⟩,⟨X1,x1,X2,x2,X3,x3⟩,rfl,HRR.out,HAL.out,by simp only; omega,by simp only; omega,by simp only; omega,⟨?_,?_,?_,HP0.out.d1,HP0.out.d2,HP0.out.d3,by simp only; omega,by simp only; omega,by simp only; omega⟩,?_⟩
      · exact Own.base (st _ _ _ zb (st _ _ _ zb (st _ _ _ zb (st _ _ _ zb o1)))) (by omega)
      · exact Own.base (st _ _ _ zb (st _ _ _ zb (st _ _ _ zb (st _ _ _ zb o2)))) (by omega)
      · exact Own.base (st _ _ _ zb (st _ _ _ zb (st _ _ _ zb (st _ _ _ zb o3)))) (by omega)
      · exact ((((B5.out.setCell (by omega) _).setCell (by omega) _).setCell (by omega) _).setCell (by omega) _).b
end Go.Proofs.YtkifgffhoenaoaaGreatDoor
