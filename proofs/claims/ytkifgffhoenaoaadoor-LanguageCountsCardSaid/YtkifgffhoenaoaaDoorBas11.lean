/-
  search: the least word that leads two machines to a pair that is wanted.
  Plain: the union of two rising lists; automata of pairs.
-/
import Derived.Test.YtkifgffhoenaoaaDoorBas01
import Derived.Test.YtkifgffhoenaoaaDoorBas10
import Derived.Deep.RegionLaw
import Derived.Deep.RegionHeld3
import Derived.Test.YtkifgffhoenaoaaDoorBas06
set_option linter.unusedSimpArgs false
set_option linter.unusedVariables false
namespace Go.Proofs.YtkifgffhoenaoaaDoor
open Go.RowKit
set_option maxRecDepth 100000
section

theorem nodup_lenN : ∀ (n : Nat) (l : List Nat),l.Nodup → (∀ x,x ∈ l → x < n) → l.length ≤ n
 | 0,l,_,h => by
   cases l with
   | nil => simp
   | cons a r => have := h a (by simp); omega
 | n + 1,l,hn,h => by
   have h1 := nodup_lenN n (l.filter (fun x => decide (x ≠ n))) (hn.filter _) (fun x hx => by
    simp only [List.mem_filter,decide_eq_true_eq] at hx
    have := h x hx.1
    omega)
   have h2 : l.length ≤ (l.filter (fun x => decide (x ≠ n))).length + 1 := by
    clear h1 h
    induction l with
    | nil => simp
    | cons a r ih =>
      rw [List.nodup_cons] at hn
      by_cases e : a = n
      · subst e
        have : r.filter (fun x => decide (x ≠ a)) = r := List.filter_eq_self.2 (fun x hx => by
         simp only [decide_eq_true_eq]
         rintro rfl
         exact hn.1 hx)
        rw [List.filter_cons,this]
        simp
      · rw [List.filter_cons]
        have := ih hn.2
        rw [if_pos (by simpa using e),List.length_cons,List.length_cons]
        omega
   omega

theorem MapG.kept {κ β : Type} [DecidableEq κ] {key : κ → Value} {ve : β → Value} {w w' : World} {b : Nat} {v : Value} {f : κ → Option β} (h : MapG key ve w b f) (hg : w.grownBy w' v.ownBlock) (hne : v.ownBlock ≠ some b) : MapG key ve w' b f := by
 have hlt := h.lt
 obtain ⟨l,c,h1,h2⟩ := h
 exact ⟨l,c,(hg.block b hlt (fun e => hne e.symm)).trans h1,h2⟩

structure Vs where
 x : Int
 y : Int
 b : Int
 e : Int
def Vs.cells (v : Vs) : List Value := [.int .i64 v.x,.int .i64 v.y,.int .i64 v.b,.int .i64 v.e]
def Vs.pr (v : Vs) : Int × Int := (v.x,v.y)
abbrev OwnV := Own Vs.cells 4 106
theorem vsInfo : (Tryd.prog.info? 106).map (fun i => (i.zero,i.size,i.bytes)) = some (some (.agg #[.int .i64 0,.int .i64 0,.int .i64 0,.int .i64 0]),4,32) := by kernel_rfl
theorem vsOne (x : Vs) : ∀ u ∈ Vs.cells x,u.oneCell' = true := fun u hu => by simp [Vs.cells] at hu; rcases hu with rfl | rfl | rfl | rfl <;> rfl
def VsE : Reading Vs := fun _ x vs => vs = Vs.cells x
theorem VsE.get {w : World} {A : Option Addr} {l : List Vs} (h : SlAt VsE 4 w A l) {k : Nat} {v : Vs} (hx : l[k]? = some v) : ∃ b off,A = some ⟨b,off,none⟩ ∧ b < w.heap.size ∧
 w.cell? ⟨b,off + k * 4,none⟩ = some (.int .i64 v.x) ∧ w.cell? ⟨b,off + k * 4 + 1,none⟩ = some (.int .i64 v.y) ∧ w.cell? ⟨b,off + k * 4 + 2,none⟩ = some (.int .i64 v.b) ∧ w.cell? ⟨b,off + k * 4 + 3,none⟩ = some (.int .i64 v.e) := by
 obtain ⟨b,off,y,vs,hA,hlt,hy,_,hE,hc⟩ := SlAt.at h (List.getElem?_eq_some_iff.1 hx).1
 obtain rfl : vs = Vs.cells y := hE
 rw [hx] at hy; cases hy
 exact ⟨b,off,hA,hlt,by simpa using hc 0 _ rfl,hc 1 _ rfl,hc 2 _ rfl,hc 3 _ rfl⟩

def NotIn (v : Value) (b : Nat) : Prop := v.ownBlock ≠ some b
def stp2 (a b : Au) (s : Int × Int) (e : Int) : Int × Int := (toV (stepOf a.ed) s.1 e,toV (stepOf b.ed) s.2 e)
def dead2 (s : Int × Int) : Prop := s = (-1,-1)
theorem Au.Right.to_cases {a : Au} (h : a.Right) (s e : Int) : toV (stepOf a.ed) s e = -1 ∨ 0 ≤ toV (stepOf a.ed) s e ∧ toV (stepOf a.ed) s e < a.n := by
 rw [← h.next]
 rcases h.next_cases s e with k | k
 · exact .inl k
 · exact .inr ⟨k.1,k.2.1⟩
theorem Au.Right.to_neg {a : Au} (h : a.Right) (e : Int) : toV (stepOf a.ed) (-1) e = -1 := by
 rw [← h.next]
 rcases h.next_cases (-1) e with k | ⟨_,_,x,hx,h1,_⟩
 · exact k
 · obtain ⟨j,hj,rfl⟩ := List.mem_iff_getElem.1 hx
   have := h.ed j hj _ (List.getElem?_eq_getElem hj)
   omega
theorem dead2_step {a b : Au} (ha : a.Right) (hb : b.Right) (s : Int × Int) (e : Int) (h : dead2 s) : dead2 (stp2 a b s e) := by
 unfold dead2 at h
 subst h
 simp only [dead2,stp2,ha.to_neg,hb.to_neg]
def memF (l : List (Int × Int)) (q : Int × Int) : Option Bool := if q ∈ l then some true else none
theorem memF_snoc (l : List (Int × Int)) (x y : Int × Int) : memF (l ++ [x]) y = if y = x then some true else memF l y := by
 by_cases h : y = x
 · simp [memF,h]
 · simp [memF,h]
theorem memF_getD (l : List (Int × Int)) (x : Int × Int) : (memF l x).getD false = decide (x ∈ l) := by
 by_cases h : x ∈ l <;> simp [memF,h]

structure SInv (a b : Au) (evs : List Int) (P : Int × Int → Bool) (i k t : Nat) (vis : List Vs) (ws : List (List Int)) : Prop where
 bfs : Bfs (stp2 a b) (a.st,b.st) dead2 evs i k (vis.map Vs.pr) ws
 lk : Link (vis.map fun v => (v.b,v.e)) ws
 nd : (vis.map Vs.pr).Nodup
 rg : ∀ v,v ∈ vis → -1 ≤ v.x ∧ v.x ≤ a.n ∧ -1 ≤ v.y ∧ v.y ≤ b.n
 no : ∀ (j : Nat) v,j < t → (vis.map Vs.pr)[j]? = some v → P v = false
section
variable {a b : Au} {evs : List Int} {P : Int × Int → Bool} {i k t : Nat} {vis : List Vs} {ws : List (List Int)}
theorem st_rg (h : a.Right) : -1 ≤ a.st ∧ a.st ≤ a.n := by
 have := h.n0
 unfold Au.st
 split <;> omega
theorem SInv.start (ha : a.Right) (hb : b.Right) (evs : List Int) (P : Int × Int → Bool) : SInv a b evs P 0 0 0 [⟨a.st,b.st,-1,0⟩] [[]] :=
 ⟨Bfs.start,⟨rfl,fun j q hq => by
  have := (List.getElem?_eq_some_iff.1 hq).1
  obtain rfl : j = 0 := by simp at this; omega
  simp at hq; subst hq
  exact ⟨fun _ => rfl,fun h => absurd h (by omega)⟩⟩,by simp,fun v hv => by
  simp at hv; subst hv
  have := st_rg ha; have := st_rg hb
  simp only; omega,fun j v h => absurd h (by omega)⟩
theorem SInv.len (h : SInv a b evs P i k t vis ws) (ha : a.Right) (hb : b.Right) : vis.length ≤ (a.n.toNat + 2) * (b.n.toNat + 2) := by
 have h1 := nodup_lenN ((a.n.toNat + 2) * (b.n.toNat + 2)) ((vis.map Vs.pr).map fun q => (q.1 + 1).toNat * (b.n.toNat + 2) + (q.2 + 1).toNat) ?_ ?_
 · simpa using h1
 · rw [List.nodup_iff_pairwise_ne,List.pairwise_map]
   refine List.Pairwise.imp_of_mem ?_ (List.nodup_iff_pairwise_ne.1 h.nd)
   intro p q hp hq hne hc
   obtain ⟨v,hv,rfl⟩ := List.mem_map.1 hp
   obtain ⟨u,hu,rfl⟩ := List.mem_map.1 hq
   have r1 := h.rg v hv
   have r2 := h.rg u hu
   have n1 := hb.n0
   simp only [Vs.pr] at hc hne
   have e2 : (v.y + 1).toNat < b.n.toNat + 2 := by omega
   have e3 : (u.y + 1).toNat < b.n.toNat + 2 := by omega
   have e4 : (v.x + 1).toNat = (u.x + 1).toNat := by
    have m1 := Nat.div_eq_of_lt e2
    have m2 := Nat.div_eq_of_lt e3
    have := congrArg (· / (b.n.toNat + 2)) hc
    rw [Nat.mul_comm,Nat.mul_add_div (by omega),m1,Nat.mul_comm,Nat.mul_add_div (by omega),m2] at this
    omega
   rw [e4] at hc
   exact hne (by rw [Prod.mk.injEq]; omega)
 · intro x hx
   obtain ⟨q,hq,rfl⟩ := List.mem_map.1 hx
   obtain ⟨v,hv,rfl⟩ := List.mem_map.1 hq
   have r1 := h.rg v hv
   have n0 := ha.n0
   have n1 := hb.n0
   simp only [Vs.pr]
   have e1 : (v.x + 1).toNat + 1 ≤ a.n.toNat + 2 := by omega
   have e2 : (v.y + 1).toNat < b.n.toNat + 2 := by omega
   have := Nat.mul_le_mul_right (b.n.toNat + 2) e1
   rw [Nat.succ_mul] at this
   omega
theorem SInv.skip (hinc : incr evs) (h : SInv a b evs P i k t vis ws) {v : Vs} {e : Int} (hv : vis[i]? = some v) (he : evs[k]? = some e) (hs : stp2 a b v.pr e ∈ (-1,-1) :: vis.map Vs.pr) : SInv a b evs P i (k + 1) t vis ws :=
 ⟨h.bfs.skip hinc (v := v.pr) (by rw [List.getElem?_map,hv]; rfl) he (by
  rcases List.mem_cons.1 hs with g | g
  · exact .inl g
  · obtain ⟨j,hj,e⟩ := List.mem_iff_getElem.1 g
    exact .inr ⟨j,by rw [List.getElem?_eq_getElem hj,e]⟩),h.lk,h.nd,h.rg,h.no⟩
theorem SInv.push (ha : a.Right) (hb : b.Right) (hinc : incr evs) (h : SInv a b evs P i k t vis ws) (ht : t ≤ vis.length) {v : Vs} {e : Int} (hv : vis[i]? = some v) (he : evs[k]? = some e) (hs : ¬ stp2 a b v.pr e ∈ (-1,-1) :: vis.map Vs.pr) :
 ∃ ws',SInv a b evs P i (k + 1) t (vis ++ [⟨(stp2 a b v.pr e).1,(stp2 a b v.pr e).2,i,e⟩]) ws' := by
 have hv' : (vis.map Vs.pr)[i]? = some v.pr := by rw [List.getElem?_map,hv]; rfl
 obtain ⟨wi,hwi⟩ := h.bfs.word hv'
 refine ⟨ws ++ [wi ++ [e]],?_,?_,?_,fun u hu => ?_,fun j u hj hu => ?_⟩
 · rw [List.map_append]
   exact h.bfs.push hinc hv' he hwi
 · rw [List.map_append]
   exact h.lk.push e hwi
 · rw [List.map_append]
   refine List.nodup_append.2 ⟨h.nd,by simp,fun p hp q hq => ?_⟩
   simp at hq
   rintro rfl
   refine hs (List.mem_cons_of_mem _ ?_)
   rw [hq] at hp
   exact hp
 · rcases List.mem_append.1 hu with g | g
   · exact h.rg u g
   · simp at g; subst g
     have := ha.to_cases v.x e
     have := hb.to_cases v.y e
     have := ha.n0
     have := hb.n0
     simp only [stp2,Vs.pr]
     omega
 · rw [List.map_append,List.getElem?_append_left (by simp; omega)] at hu
   exact h.no j u hj hu
theorem SInv.next (h : SInv a b evs P i evs.length t vis ws) : SInv a b evs P (i + 1) 0 t vis ws := ⟨h.bfs.next,h.lk,h.nd,h.rg,h.no⟩
theorem SInv.test (h : SInv a b evs P i k i vis ws) {v : Vs} (hv : vis[i]? = some v) (hp : P v.pr = false) : SInv a b evs P i k (i + 1) vis ws :=
 ⟨h.bfs,h.lk,h.nd,h.rg,fun j u hj hu => by
  by_cases e : j = i
  · subst e
    rw [List.getElem?_map,hv] at hu
    cases hu; exact hp
  · exact h.no j u (by omega) hu⟩
end

def GivesW (a b : Au) (evs : List Int) (P : Int × Int → Bool) (w : World) (e : Ending) (w' : World) : Prop := ∃ (A : Option Addr) (c : Nat) (l : List Int) (f : Bool),e = .returned (.tuple #[.slice A l.length c,.bool f]) ∧ Hid (IntsAt w' A l) ∧ Below w.heap.size w w' ∧
 Hid (f = true ∧ LeastW (LeadsTo (stp2 a b) (a.st,b.st) evs (fun q => P q = true)) l ∨ f = false ∧ l = [] ∧ ∀ u,¬ LeadsTo (stp2 a b) (a.st,b.st) evs (fun q => P q = true) u)
set_option maxHeartbeats 8000000 in
theorem search_c (AE : Option Addr) (cE : Nat) (evs : List Int) (b1 b2 : Nat) (a b : Au) (g : Nat) (lb : Array Value) (eg : ∀ args w,(callFunc g args).run Tryd.prog w = .ok (.enter g args) w) (P : Int × Int → Bool) (w : World)
 (hE : IntsAt w AE evs) (lE : evs.length ≤ 1000) (hinc : incr evs) (ha : a.Right) (hb : b.Right) (hN : (a.n.toNat + 2) * (b.n.toNat + 2) ≤ 1000000) (h1 : Mach w b1 a) (h2 : Mach w b2 b)
 (hP : ∀ (V : World) (x y : Int),Below w.heap.size w V → Calls Tryd.prog g (#[.agg #[.int .i64 x,.int .i64 y]] ++ lb) V (Ret (.bool (P (x,y))) V)) (hdead : P (-1,-1) = false) :
 Calls Tryd.prog 40 #[.slice AE evs.length cE,.pointer (some ⟨b1,0,none⟩),.pointer (some ⟨b2,0,none⟩),.func (.func g) #[] lb] w (GivesW a b evs P w) := by
 have HE := Lib.hid hE
 have HI := Lib.hid hinc
 have RA := Lib.hid ha
 have RB := Lib.hid hb
 have HN := Lib.hid hN
 have M1 := Lib.hid h1
 have M2 := Lib.hid h2
 have HP := Lib.hid hP
 have HD := Lib.hid hdead
 have f1 := h1.first
 have f2 := h2.first
 have z1 := h1.lt
 have z2 := h2.lt
 have hmm := @run_makeMap Tryd.prog
 clear hE hinc ha hb hN h1 h2 hP hdead
 obtain ⟨sa,hsa⟩ : ∃ sa,sa = a.st := ⟨_,rfl⟩
 obtain ⟨sb,hsb⟩ : ∃ sb,sb = b.st := ⟨_,rfl⟩
 rw [← hsa] at f1
 rw [← hsb] at f2
 have SA := Lib.hid hsa
 have SB := Lib.hid hsb
 clear hsa hsb
 go_enter Tryd.func40,Tryd.ntmps40
 go_wp2_with fail
 go_region
 go_upto_region 3 with fail
 have O0 : Hid (OwnV (w.heap.size + 1) [⟨sa,sb,-1,0⟩] (.slice (some ⟨w.heap.size + 1,0,none⟩) 1 1) ((w.alloc (.cells #[.int .i64 sa,.int .i64 sb] 75)).alloc (.cells #[.int .i64 sa,.int .i64 sb,.int .i64 (-1),.int .i64 0] 106)).drew) := by
  have := World.ownsRow_lit (w.alloc (.cells #[.int .i64 sa,.int .i64 sb] 75)) (e := 106) (size := 4) (base := w.heap.size + 1) #[.int .i64 sa,.int .i64 sb,.int .i64 (-1),.int .i64 0] 1 (by simp) (by simp [maxLen]) rfl
  rw [World.size_alloc] at this
  exact Own.drew this
 have X0 : Hid (HasAt w.heap.size [.int .i64 sa,.int .i64 sb] ((w.alloc (.cells #[.int .i64 sa,.int .i64 sb] 75)).alloc (.cells #[.int .i64 sa,.int .i64 sb,.int .i64 (-1),.int .i64 0] 106)).drew) := ((HasAt.new w _ _ rfl).alloc _).drew
 have R0 : Hid (Fro w.heap.size w ((w.alloc (.cells #[.int .i64 sa,.int .i64 sb] 75)).alloc (.cells #[.int .i64 sa,.int .i64 sb,.int .i64 (-1),.int .i64 0] 106)).drew) := (((Fro.here w).alloc _).alloc _).drew
 have S0 : Hid (((w.alloc (.cells #[.int .i64 sa,.int .i64 sb] 75)).alloc (.cells #[.int .i64 sa,.int .i64 sb,.int .i64 (-1),.int .i64 0] 106)).drew.heap.size = w.heap.size + 2) := by
  show ((w.alloc _).alloc _).heap.size = _
  simp
 generalize hW : ((w.alloc (.cells #[.int .i64 sa,.int .i64 sb] 75)).alloc (.cells #[.int .i64 sa,.int .i64 sb,.int .i64 (-1),.int .i64 0] 106)).drew = W at *
 clear hW
 have x0 := X0.out.c 0 _ rfl
 have x1 := X0.out.c 1 _ rfl
 have xz := X0.out.z
 clear f1 f2 z1 z2
 obtain ⟨m,hm⟩ : ∃ m,m = W.heap.size := ⟨_,rfl⟩
 have G0 : Hid (MapG key2 veB (W.alloc (.map #[] 0)).drew m (fun _ => none)) := by rw [hm]; exact (MapG.made key2 veB W).below ((Below.refl _ _).drew) (MapG.made key2 veB W).lt
 have R1 : Hid (Fro w.heap.size w (W.alloc (.map #[] 0)).drew) := (R0.out.alloc _).drew
 have O1 : Hid (OwnV (w.heap.size + 1) [⟨sa,sb,-1,0⟩] (.slice (some ⟨w.heap.size + 1,0,none⟩) 1 1) (W.alloc (.map #[] 0)).drew) := Own.drew (O0.out.alloc _)
 have X1 : Hid (HasAt w.heap.size [.int .i64 sa,.int .i64 sb] (W.alloc (.map #[] 0)).drew) := (X0.out.alloc _).drew
 obtain ⟨V1,e1,q1,k1⟩ := MapG.store okP Tryd.underlying108 G0.out (sa,sb) true
 obtain ⟨V2,e2,q2,k2⟩ := MapG.store okP Tryd.underlying108 q1 (-1,-1) true
 obtain ⟨U1,e3,q3,k3⟩ := MapG.store okP Tryd.underlying108 G0.out (-1,-1) true
 obtain ⟨U2,e4,q4,k4⟩ := MapG.store okP Tryd.underlying108 q3 (sa,sb) true
 have hmz : w.heap.size + 2 ≤ m := by rw [hm]; exact Nat.le_of_eq S0.out.symm
 have QV : Hid (MapG key2 veB V2 m (memF ((-1,-1) :: [(sa,sb)])) ∧ Fro w.heap.size w V2 ∧ OwnV (w.heap.size + 1) [⟨sa,sb,-1,0⟩] (.slice (some ⟨w.heap.size + 1,0,none⟩) 1 1) V2) := by
  refine ⟨q2.congr fun y => ?_,(R1.out.grown k1 (fun j hj => by cases hj; omega)).grown k2 (fun j hj => by cases hj; omega),Own.kept (Own.kept O1.out k1 (.inr (by simp only [Value.ownBlock,ne_eq,Option.some.injEq]; omega))) k2 (.inr (by simp only [Value.ownBlock,ne_eq,Option.some.injEq]; omega))⟩
  simp only [memF,List.mem_cons,List.not_mem_nil,or_false]
  by_cases h1 : y = (-1,-1) <;> by_cases h2 : y = (sa,sb) <;> simp [h1,h2]
 have QU : Hid (MapG key2 veB U2 m (memF ((-1,-1) :: [(sa,sb)])) ∧ Fro w.heap.size w U2 ∧ OwnV (w.heap.size + 1) [⟨sa,sb,-1,0⟩] (.slice (some ⟨w.heap.size + 1,0,none⟩) 1 1) U2) := by
  refine ⟨q4.congr fun y => ?_,(R1.out.grown k3 (fun j hj => by cases hj; omega)).grown k4 (fun j hj => by cases hj; omega),Own.kept (Own.kept O1.out k3 (.inr (by simp only [Value.ownBlock,ne_eq,Option.some.injEq]; omega))) k4 (.inr (by simp only [Value.ownBlock,ne_eq,Option.some.injEq]; omega))⟩
  simp only [memF,List.mem_cons,List.not_mem_nil,or_false]
  by_cases h1 : y = (-1,-1) <;> by_cases h2 : y = (sa,sb) <;> simp [h1,h2]
 have XU := X1.out.grown k3 (fun e => by have := Option.some.inj e; omega)
 have u0 := XU.c 0 _ rfl
 have u1 := XU.c 1 _ rfl
 have HM := Lib.hid hmz
 simp only [key2,veB] at e1 e2 e3 e4
 rw [hm] at e1 e2 e3 e4
 have HMW := Lib.hid hm
 clear q1 q2 q3 q4 k1 k2 k3 k4 XU hm hmz O0 O1 G0 R0 R1 X1 S0
 go_cut [12] (fun v wx => v = .map (some m) ∧ Hid (MapG key2 veB wx m (memF ((-1,-1) :: [(sa,sb)])) ∧ Fro w.heap.size w wx ∧ OwnV (w.heap.size + 1) [⟨sa,sb,-1,0⟩] (.slice (some ⟨w.heap.size + 1,0,none⟩) 1 1) wx))
 case first =>
  go_region
  all_goals
   rw [← HMW.out]
   go_wp2_with fail
   go_meet
   first | exact ⟨rfl,QV.out⟩ | exact ⟨rfl,QU.out⟩
 case rest =>
  clear e1 e2 e3 e4 u0 u1 x0 x1 xz X0 QV QU HMW
  obtain ⟨rfl,Q⟩ := hcut
  have QF := Lib.hid Q.out.2.1
  have QO := Lib.hid Q.out.2.2
  have QG := Lib.hid Q.out.1
  clear Q
  have LB : Hid (∀ i k t vis ws,SInv a b evs P i k t vis ws → vis.length ≤ 1000000) := fun i k t vis ws h => Nat.le_trans (h.len RA.out RB.out) HN.out
  go_wp2_with fail
  go_loopw [8,11,13] (fun z v i wr => ∃ (k : Nat) (vis : List Vs) (ws : List (List Int)),z = .slice none 0 0 ∧ i = .int .i64 k ∧ k ≤ vis.length ∧ Hid (SInv a b evs P k 0 k vis ws) ∧ Hid (Fro w.heap.size w wr) ∧ Hid (OwnV (w.heap.size + 1) vis v wr) ∧ Hid (MapG key2 veB wr m (memF ((-1,-1) :: vis.map Vs.pr))) ∧ Hid (NotIn v m)) (fun _ _ i _ => 1000001 - (intOf i).toNat)
  case atStart => exact ⟨0,[⟨sa,sb,-1,0⟩],[[]],rfl,rfl,by simp,by rw [SA.out,SB.out]; exact SInv.start RA.out RB.out evs P,QF.out,QO.out,QG.out,by have := HM.out; simp only [Hid,NotIn,Value.ownBlock,ne_eq,Option.some.injEq]; omega⟩
  case round =>
   clear QF QO QG
   obtain ⟨k,vis,ws,rfl,rfl,hk,SI,R,O,G,NI⟩ := hrel
   have hvl := LB.out _ _ _ _ _ SI.out
   obtain ⟨A,c,rfl⟩ := O.out.form
   by_cases hlt : k < vis.length
   · obtain ⟨vk,hvk⟩ : ∃ vk,vis[k]? = some vk := ⟨_,List.getElem?_eq_getElem hlt⟩
     obtain ⟨gb,off,hA,hgb,c0,c1,c2,c3⟩ := VsE.get (Own.reads (fun _ => rfl) O.out) hvk
     subst hA
     obtain ⟨vx,vy,vb,ve⟩ := vk
     dsimp only at c0 c1 c2 c3
     have HV := Lib.hid hvk
     obtain ⟨pb,hpb⟩ : ∃ pb,pb = P (vx,vy) := ⟨_,rfl⟩
     have CP := Lib.hid (HP.out wr vx vy R.out.b)
     rw [← hpb] at CP
     have PB := Lib.hid hpb
     clear hvk hpb
     go_wp2_with fail
     refine CP.out.mono ?_
     rintro e w2 ⟨rfl,hb⟩
     have R2 := Lib.hid (R.out.next hb)
     have O2 := Lib.hid (O.out.below hb (Nat.le_refl _))
     have G2 := Lib.hid (G.out.below hb G.out.lt)
     clear hb c0 c1 c2 c3 CP R O G
     cases pb
     · have SI2 := Lib.hid (SI.out.test HV.out PB.out.symm)
       go_wp2_with fail
       go_loopw [11,72] (fun v j wx => ∃ (q : Nat) (vis' : List Vs) (ws' : List (List Int)),j = .int .i64 q ∧ q ≤ evs.length ∧ Hid (SInv a b evs P k q (k + 1) vis' ws' ∧ vis'[k]? = some ⟨vx,vy,vb,ve⟩) ∧ Hid (Fro w.heap.size w wx) ∧ Hid (OwnV (w.heap.size + 1) vis' v wx) ∧ Hid (MapG key2 veB wx m (memF ((-1,-1) :: vis'.map Vs.pr))) ∧ Hid (NotIn v m)) (fun _ j _ => evs.length - (intOf j).toNat)
       case atStart => exact ⟨0,vis,ws,rfl,by omega,⟨SI2.out,HV.out⟩,R2.out,O2.out,G2.out,NI.out⟩
       case round =>
        clear R2 O2 G2 NI SI SI2
        obtain ⟨q,vis',ws',rfl,hq,SV,R,O,G,NI⟩ := hrel
        have hvl' := LB.out _ _ _ _ _ SV.out.1
        obtain ⟨A',c',rfl⟩ := O.out.form
        by_cases hlq : q < evs.length
        · obtain ⟨be,oe,e,hAE,hbe,he,ce⟩ := IntsAt.at (HE.out.below IntE.stays R.out.b) hlq
          subst hAE
          obtain ⟨gc,off',hA',hgc,c0,c1,_,_⟩ := VsE.get (Own.reads (fun _ => rfl) O.out) SV.out.2
          subst hA'
          dsimp only at c0 c1
          have HQ := Lib.hid he
          have hkv : Hid (k < vis'.length) := (List.getElem?_eq_some_iff.1 SV.out.2).1
          have hkv' := hkv.out
          clear he
          have MS1 : Hid (∀ V,Fro wr.heap.size wr V → Calls Tryd.prog 68 #[.pointer (some ⟨b1,0,none⟩),.int .i64 vx,.int .i64 e] V (fun r w' => r = .returned (.int .i64 (toV (stepOf a.ed) vx e)) ∧ V = w')) := fun V hb => mstep_c b1 a vx e V (M1.out.below (R.out.next hb.b).b)
          have MS2 : Hid (∀ V,Fro wr.heap.size wr V → Calls Tryd.prog 68 #[.pointer (some ⟨b2,0,none⟩),.int .i64 vy,.int .i64 e] V (fun r w' => r = .returned (.int .i64 (toV (stepOf b.ed) vy e)) ∧ V = w')) := fun V hb => mstep_c b2 b vy e V (M2.out.below (R.out.next hb.b).b)
          have SC : Hid (∀ V,Fro wr.heap.size wr V → V.cell? ⟨gc,off' + k * 4,none⟩ = some (.int .i64 vx) ∧ V.cell? ⟨gc,off' + k * 4 + 1,none⟩ = some (.int .i64 vy)) := fun V hb => ⟨old_cell hb.b c0 hgc,old_cell hb.b c1 hgc⟩
          have T0 : Hid (Fro wr.heap.size wr wr.drew) := (Fro.here wr).drew
          have T1 : Hid (Fro wr.heap.size wr (wr.alloc (.cells #[.int .i64 0,.int .i64 0] 75)).drew) := ((Fro.here wr).alloc _).drew
          obtain ⟨tx,htx⟩ : ∃ tx,tx = toV (stepOf a.ed) vx e := ⟨_,rfl⟩
          obtain ⟨ty,hty⟩ : ∃ ty,ty = toV (stepOf b.ed) vy e := ⟨_,rfl⟩
          rw [← htx] at MS1
          rw [← hty] at MS2
          have TXY : Hid (stp2 a b (vx,vy) e = (tx,ty)) := by rw [htx,hty]; rfl
          clear htx hty c0 c1 hbe hgc
          go_upto_region 17 with fail
          go_cut [17] (fun v wx => ∃ bt : Nat,v = .pointer (some ⟨bt,0,none⟩) ∧ Hid (HasAt bt [.int .i64 tx,.int .i64 ty] wx ∧ wr.heap.size ≤ bt) ∧ Hid (Fro wr.heap.size wr wx))
          case first =>
           have sc := SC.out wr (Fro.here wr)
           go_region_held3 (fun V => V.cell? ⟨gc,off' + k * 4,none⟩ = some (.int .i64 vx) ∧ V.cell? ⟨gc,off' + k * 4 + 1,none⟩ = some (.int .i64 vy)) (first | exact SC.out _ T0.out | exact SC.out _ T1.out | go_keep) (
            first | (go_at_call 68; ((with_reducible refine (MS1.out _ (by first | exact T0.out | exact T1.out)).mono ?_); rintro r w' ⟨rfl,rfl⟩)) | (go_at_call 68; ((with_reducible refine (MS2.out _ (by first | exact T0.out | exact T1.out)).mono ?_); rintro r w' ⟨rfl,rfl⟩)))
           all_goals
            go_wp2_with fail
            go_meet
            exact ⟨wr.heap.size,rfl,⟨(HasAt.new wr _ _ rfl).drew,Nat.le_refl _⟩,((Fro.here wr).alloc _).drew⟩
          case rest =>
           obtain ⟨bt,rfl,XB,RC⟩ := hcut
           have RX := Lib.hid (R.out.next RC.out.b)
           have OX : Hid (OwnV (w.heap.size + 1) vis' (.slice (some ⟨gc,off',none⟩) vis'.length c') wc) := O.out.below RC.out.b (Nat.le_refl _)
           have GX : Hid (MapG key2 veB wc m (memF ((-1,-1) :: vis'.map Vs.pr))) := G.out.below RC.out.b G.out.lt
           have hmb : m < bt := Nat.lt_of_lt_of_le G.out.lt XB.out.2
           have HMB : Hid (m < bt ∧ gc < bt) := ⟨hmb,Nat.lt_of_lt_of_le (O.out.lt gc rfl).2 XB.out.2⟩
           have HZ : Hid (w.heap.size + 1 ≤ wc.heap.size) := by have := RX.out.z; have := G.out.lt; have := RC.out.z; have := HM.out; simp only [Hid]; omega
           obtain ⟨db,hdb⟩ : ∃ db : Bool,db = decide ((tx,ty) ∈ (-1,-1) :: vis'.map Vs.pr) := ⟨_,rfl⟩
           have hl : (Instr.lookup 108 (.map (some m)) (.agg #[.int .i64 tx,.int .i64 ty]) false).run Tryd.prog wc = .ok (.bool db) wc := by
            have := (MapG.look okP Tryd.underlying108 zeroB GX.out (tx,ty)).2
            rw [memF_getD,← hdb] at this
            exact this
           have DB := Lib.hid hdb
           have x0 := XB.out.1.c 0 _ rfl
           have x1 := XB.out.1.c 1 _ rfl
           clear hdb R O G hmb T0 T1 SC MS1 MS2
           cases db
           · have NEW : Hid (¬ stp2 a b (vx,vy) e ∈ (-1,-1) :: vis'.map Vs.pr) := by rw [Hid,TXY.out]; exact of_decide_eq_false DB.out.symm
             obtain ⟨ws2,hs2⟩ := SV.out.1.push RA.out RB.out HI.out (by omega) SV.out.2 HQ.out NEW.out
             rw [show Vs.pr ⟨vx,vy,vb,ve⟩ = (vx,vy) from rfl,TXY.out] at hs2
             have S2 := Lib.hid hs2
             have KP : Hid ((vis' ++ [(⟨tx,ty,k,e⟩ : Vs)])[k]? = some ⟨vx,vy,vb,ve⟩) := get_keep SV.out.2 _
             clear hs2
             go_wp2_with fail
             clear hl
             have O0 : Hid (OwnV (w.heap.size + 1) vis' (.slice (some ⟨gc,off',none⟩) vis'.length c') wc.drew) := Own.drew OX.out
             have G0 : Hid (MapG key2 veB wc.drew m (memF ((-1,-1) :: vis'.map Vs.pr))) := GX.out
             have X0 : Hid (HasAt bt [.int .i64 tx,.int .i64 ty] wc.drew) := XB.out.1.drew
             have R0 : Hid (Fro w.heap.size w wc.drew) := RX.out.drew
             refine wp_region_held_drew (S := (fun V => V.cell? ⟨bt,0,none⟩ = some (.int .i64 tx) ∧ V.cell? ⟨bt,1,none⟩ = some (.int .i64 ty))) (by kernel_rfl) ?_ (fun hHeld => ?_)
             · exact ⟨X0.out.c 0 _ rfl,X0.out.c 1 _ rfl⟩
             refine tkH 0 rfl (v := ?_) (by kernel_rfl) ?_ hHeld ?_
             rotate_left
             · (intro w hSw; (try dsimp only at hSw); first | (go_simp; done) | (go_simp; with_reducible rfl))
             try simp only [sx]
             refine tkH 1 rfl (v := ?_) (by kernel_rfl) ?_ hHeld ?_
             rotate_left
             · (intro w hSw; (try dsimp only at hSw); first | (go_simp; done) | (go_simp; with_reducible rfl))
             try simp only [sx]
             refine tkH 2 rfl (v := ?_) (by kernel_rfl) ?_ hHeld ?_
             rotate_left
             · (intro w hSw; (try dsimp only at hSw); first | (go_simp; done) | (go_simp; with_reducible rfl))
             try simp only [sx]
             refine tkH 3 rfl (v := ?_) (by kernel_rfl) ?_ hHeld ?_
             rotate_left
             · (intro w hSw; (try dsimp only at hSw); first | (go_simp; done) | (go_simp; with_reducible rfl))
             try simp only [sx]
             refine tkH 4 rfl (v := ?_) (by kernel_rfl) ?_ hHeld ?_
             rotate_left
             · (intro w hSw; (try dsimp only at hSw); first | (go_simp; done) | (go_simp; with_reducible rfl))
             try simp only [sx]
             refine tkH 5 rfl (v := ?_) (by kernel_rfl) ?_ hHeld ?_
             rotate_left
             · (intro w hSw; (try dsimp only at hSw); first | (go_simp; done) | (go_simp; with_reducible rfl))
             try simp only [sx]
             refine tkH 6 rfl (v := ?_) (by kernel_rfl) ?_ hHeld ?_
             rotate_left
             · (intro w hSw; (try dsimp only at hSw); first | (go_simp; done) | (go_simp; with_reducible rfl))
             try simp only [sx]
             refine rdH 7 rfl fun K hK => ?_
             · skip
               go_simp
               have N1 : Hid (HasAt wc.drew.heap.size [.int .i64 tx,.int .i64 ty,.int .i64 k,.int .i64 e] (wc.drew.alloc (.cells #[.int .i64 tx,.int .i64 ty,.int .i64 k,.int .i64 e] 106))) := HasAt.new _ _ _ rfl
               have NB : Hid (m < wc.drew.heap.size) := G0.out.lt
               have O1 : Hid (OwnV (w.heap.size + 1) vis' (.slice (some ⟨gc,off',none⟩) vis'.length c') (wc.drew.alloc (.cells #[.int .i64 tx,.int .i64 ty,.int .i64 k,.int .i64 e] 106))) := O0.out.alloc _
               have G1 := Lib.hid (G0.out.alloc (.cells #[.int .i64 tx,.int .i64 ty,.int .i64 k,.int .i64 e] 106))
               have X1 := Lib.hid (X0.out.alloc (.cells #[.int .i64 tx,.int .i64 ty,.int .i64 k,.int .i64 e] 106))
               have R1 := Lib.hid (R0.out.alloc (.cells #[.int .i64 tx,.int .i64 ty,.int .i64 k,.int .i64 e] 106))
               refine hK.out _ _ ?_ (fun hHeld => ?_)
               · exact ⟨X1.out.c 0 _ rfl,X1.out.c 1 _ rfl⟩
               clear hK K
               try simp only [sx]
               refine rdH 8 rfl fun K hK => ?_
               · skip
                 refine step_append_at rfl (.tmp 101) (.tmp 106) 107 rfl (w.heap.size + 1) 106 _ 4 32 Tryd.underlying107 vsInfo rfl (by decide) _ _ _ rfl O1.out ⟨wc.drew.heap.size,0,none⟩ 1 1 (Vs.cells ⟨tx,ty,k,e⟩) rfl rfl (fun j u hj => by have := N1.out.c j u hj; rw [Addr.add_lit,Nat.zero_add]; exact this) (vsOne _) (by simp only [maxLen]; omega) (by omega) (Nat.le_of_succ_le (Nat.le_trans HM.out (Nat.le_of_lt G1.out.lt))) ?_
                 intro A2 c2 w2 ho hg hat
                 have O2 : Hid (OwnV (w.heap.size + 1) (vis' ++ [⟨tx,ty,k,e⟩]) (.slice A2 (vis'.length + 1) c2) w2) := by unfold OwnV Own; rw [List.flatMap_append,List.length_append]; simpa [Hid] using ho
                 have G2 := Lib.hid (G1.out.kept hg NI.out)
                 have X2 := Lib.hid (X1.out.grown hg (fun e => by have h1 := HMB.out; have h2 : bt = gc := Option.some.inj e; omega))
                 have R2 := Lib.hid (R1.out.grown hg (fun j hj => by have := (O1.out.lt j hj).1; omega))
                 have I2 : Hid (NotIn (.slice A2 (vis'.length + 1) c2) m) := by
                  rcases hat with h | h
                  · simp only [Hid,NotIn]; rw [h]; exact NI.out
                  · simp only [Hid,NotIn]; rw [h]; intro h'; have h1 := G1.out.lt; have h2 := Option.some.inj h'; rw [← h2] at h1; exact absurd h1 (Nat.lt_irrefl _)
                 clear ho hg hat
                 refine hK.out _ _ ?_ (fun hHeld => ?_)
                 · exact ⟨X2.out.c 0 _ rfl,X2.out.c 1 _ rfl⟩
                 clear hK K
                 try simp only [sx]
                 refine rdH 9 rfl fun K hK => ?_
                 · skip
                   refine step_mapUpdate_g rfl (.tmp 99) (.tmp 100) _ 108 75 4 rfl _ key2 veB okP Tryd.underlying108 m _ (tx,ty) true rfl G2.out rfl rfl ?_
                   intro w3 hm hg
                   have G3 := Lib.hid hm
                   have X3 := Lib.hid (X2.out.grown hg (fun e => by have := HMB.out; cases e; omega))
                   have R3 := Lib.hid (R2.out.grown hg (fun j hj => by cases hj; have := HM.out; omega))
                   have O3 := Lib.hid (Own.kept O2.out hg (.inr I2.out))
                   clear hm hg
                   refine hK.out _ _ ?_ (fun hHeld => ?_)
                   · exact ⟨X3.out.c 0 _ rfl,X3.out.c 1 _ rfl⟩
                   clear hK K
                   try simp only [sx]
                   refine tkH 10 rfl (v := ?_) (by kernel_rfl) ?_ hHeld ?_
                   rotate_left
                   · (intro w hSw; (try dsimp only at hSw); first | (go_simp; done) | (go_simp; with_reducible rfl))
                   try simp only [sx]
                   refine wpAnyH_done (by kernel_rfl) ?_ _
                   go_wp2_with fail
                   go_roundw
                   case rel => exact ⟨q + 1,vis' ++ [(⟨tx,ty,(k : Int),e⟩ : Vs)],ws2,by go_num,by omega,⟨S2.out,KP.out⟩,R3.out,O3.out,G3.out.congr (fun y => by rw [List.map_append,← List.cons_append]; exact memF_snoc _ _ _),I2.out⟩
                   case measure => simp [intOf]; omega
           · have OLD : Hid (stp2 a b (vx,vy) e ∈ (-1,-1) :: vis'.map Vs.pr) := by rw [Hid,TXY.out]; exact of_decide_eq_true DB.out.symm
             have S2 := Lib.hid (SV.out.1.skip HI.out SV.out.2 HQ.out OLD.out)
             go_wp2
             go_roundw
             case rel => exact ⟨q + 1,vis',ws',by go_num,by omega,⟨S2.out,SV.out.2⟩,RX.out,OX.out,GX.out,NI.out⟩
             case measure => simp [intOf]; omega
        · obtain rfl : q = evs.length := by omega
          have SN := Lib.hid SV.out.1.next
          have hkv : k < vis'.length := (List.getElem?_eq_some_iff.1 SV.out.2).1
          go_wp2
          go_roundw
          case rel => exact ⟨k + 1,vis',ws',rfl,by go_num,by omega,SN.out,R.out,O.out,G.out,NI.out⟩
          case measure => simp [intOf]; omega
     · have hv' : (vis.map Vs.pr)[k]? = some (vx,vy) := by rw [List.getElem?_map,HV.out]; rfl
       obtain ⟨wk,hwk⟩ := SI.out.bfs.word hv'
       have LW : Hid (LeastW (LeadsTo (stp2 a b) (a.st,b.st) evs (fun q => P q = true)) wk) := SI.out.bfs.least (dead2_step RA.out RB.out) (P := fun q => P q = true) (fun s hs => by unfold dead2 at hs; subst hs; simp [HD.out]) (fun j v hj hv => by rw [SI.out.no j v hj hv]; simp) hv' hwk PB.out.symm
       have WK := Lib.hid hwk
       have LK := Lib.hid SI.out.lk
       have ZW := Lib.hid SI.out.bfs.zw
       clear hv' hwk
       go_wp2_with fail
       go_loopw [8,14] (fun wv kv wx => ∃ (acc : List Int) (t : Nat) (u : List Int),kv = .int .i64 t ∧ t < vis.length ∧ acc.length + t ≤ k ∧ Hid (ws[t]? = some u ∧ u ++ acc.reverse = wk) ∧ Hid (Fro w2.heap.size w2 wx) ∧ Hid (OwnI w2.heap.size acc wv wx)) (fun _ kv _ => (intOf kv).toNat)
       case atStart => exact ⟨[],k,wk,rfl,hlt,by simp,⟨WK.out,by simp⟩,Fro.here w2,Own.nil _⟩
       case round =>
        obtain ⟨acc,t,u,rfl,ht,hat,U,R3,W3⟩ := hrel
        obtain ⟨vt,hvt⟩ : ∃ vt,vis[t]? = some vt := ⟨_,List.getElem?_eq_getElem ht⟩
        obtain ⟨gb',off',hA',hgb',d0,d1,d2,d3⟩ := VsE.get (Own.reads (fun _ => rfl) (O2.out.below R3.out.b (Nat.le_refl _))) hvt
        cases hA'
        have hl := LK.out.2 t (vt.b,vt.e) (by rw [List.getElem?_map,hvt]; rfl)
        obtain ⟨tx,ty,tb,te⟩ := vt
        dsimp only at d0 d1 d2 d3 hl
        have HVT := Lib.hid hvt
        clear hvt
        by_cases h0 : t = 0
        · subst h0
          have htb : tb = -1 := hl.1 rfl
          subst htb
          have E : Hid (acc.reverse = wk) := by
           have := U.out.1
           rw [ZW.out] at this
           cases this
           exact U.out.2
          clear hl
          rcases W3.out.2 with ⟨hu8,hacc⟩ | ⟨g3,cap3,cur3,hu8,hg3,_⟩
          · have HAC : Hid (acc = []) := List.length_eq_zero_iff.1 hacc
            subst hu8
            clear hacc
            go_wp2_with fail
            refine (reverse_nil_c _).mono ?_
            rintro e w4 ⟨⟨u,rfl⟩,hb⟩
            have R4 := Lib.hid (R2.out.next (R3.out.next hb).b)
            clear hb
            go_wp2
            refine bodyPost_ret (v := .tuple #[.slice none 0 0,.bool true]) (by simp [results,Tryd.results40,go_sem]) rfl ?_
            refine ⟨none,0,[],true,rfl,SlAt.nil,R4.out.b,.inl ⟨rfl,?_⟩⟩
            have := E.out
            rw [HAC.out] at this
            simp only [List.reverse_nil] at this
            rw [this]; exact LW.out
          · subst hu8
            have RC := Lib.hid (reverse_c w2.heap.size acc g3 cap3 wr W3.out hg3 (by omega))
            clear hg3
            go_wp2_with fail
            refine RC.out.mono ?_
            rintro e w4 ⟨⟨u,rfl⟩,ho,hb⟩
            have R4 := Lib.hid (R2.out.next (R3.out.b.trans hb))
            have O4 := Lib.hid ho.out
            clear hb ho
            go_wp2
            refine bodyPost_ret (v := .tuple #[.slice (some ⟨g3,0,none⟩) acc.length cap3,.bool true]) (by simp [results,Tryd.results40,go_sem]) rfl ?_
            refine ⟨some ⟨g3,0,none⟩,cap3,wk,true,by rw [← E.out,List.length_reverse],?_,R4.out.b,.inl ⟨rfl,LW.out⟩⟩
            have := O4.out
            rw [← List.length_reverse] at this
            rw [← E.out]
            exact OwnI.ints this
        · obtain ⟨t',u',wt,e1,e2,e3,e4,e5⟩ := hl.2 (by omega)
          subst e1
          have U2 : Hid (ws[t']? = some u' ∧ u' ++ (acc ++ [te]).reverse = wk) := by
           refine ⟨e3,?_⟩
           have h1 := U.out.1
           rw [e4] at h1
           cases h1
           rw [← U.out.2,e5]
           simp
          clear hl e3 e4 e5
          go_wp2_with (at_builtin; refine wpList_push rfl _ _ 32 rfl (W3.out.alloc _) Tryd.underlying32 _ 8 intInfo rfl (by decide) rfl te _ rfl rfl (one_cell _ _ [_] _ rfl) (encI_one _) (by omega) (by decide) (R3.out.alloc _).z ?_)
          intro A' c' w4 ho hg hat4
          have R4 := Lib.hid ((R3.out.alloc _).push (W3.out.alloc _) hg)
          have O4 := Lib.hid ho
          have D2 : w4.cell? ⟨gb,off + t * 4 + 2,none⟩ = some (.int .i64 (t' : Int)) := by
           obtain ⟨gx,ox,hAx,_,_,_,k2,_⟩ := VsE.get (Own.reads (fun _ => rfl) (O2.out.below R4.out.b (Nat.le_refl _))) HVT.out
           cases hAx
           exact k2
          clear ho hg hat4
          go_wp2_with fail
          go_roundw
          case rel => exact ⟨acc ++ [te],t',u',rfl,by omega,by simp; omega,U2.out,R4.out,O4.out⟩
          case measure => simp [intOf]; omega
   · obtain rfl : k = vis.length := by omega
     go_wp2
     refine bodyPost_ret (v := .tuple #[.slice none 0 0,.bool false]) (by simp [results,Tryd.results40,go_sem]) rfl ?_
     refine ⟨none,0,[],false,rfl,SlAt.nil,R.out.b,.inr ⟨rfl,rfl,?_⟩⟩
     exact SI.out.bfs.none_ (dead2_step RA.out RB.out) (P := fun q => P q = true) (fun s hs => by unfold dead2 at hs; subst hs; simp [HD.out]) (by simp) (fun j v hv => by
      have hj := (List.getElem?_eq_some_iff.1 hv).1
      rw [SI.out.no j v (by simpa using hj) hv]; simp)
end
section

def orF : Bool → Bool → Bool := fun p q => p || q
def unionV (a b : List Int) : List Int := mergeV orF a b
theorem mem_unionV : ∀ (n : Nat) (a b : List Int),a.length + b.length ≤ n → ∀ x,x ∈ unionV a b ↔ x ∈ a ∨ x ∈ b := by
 intro n
 induction n with
 | zero =>
   intro a b h x
   obtain rfl : a = [] := List.length_eq_zero_iff.1 (by omega)
   obtain rfl : b = [] := List.length_eq_zero_iff.1 (by omega)
   simp [unionV,mergeV]
 | succ n ih =>
   intro a b h x
   cases a with
   | nil =>
     cases b with
     | nil => simp [unionV,mergeV]
     | cons y b =>
       have := ih [] b (by simp at h ⊢; omega) x
       unfold unionV at *
       rw [mergeV,if_pos (by decide),List.mem_cons,this]
       simp
   | cons z a =>
     cases b with
     | nil =>
       have := ih a [] (by simp at h ⊢; omega) x
       unfold unionV at *
       rw [mergeV,if_pos (by decide),List.mem_cons,this]
       simp
     | cons y b =>
       have h1 := ih a (y :: b) (by simp at h ⊢; omega) x
       have h2 := ih (z :: a) b (by simp at h ⊢; omega) x
       have h3 := ih a b (by simp at h ⊢; omega) x
       unfold unionV at *
       rw [mergeV]
       split
       · rw [if_pos (by decide),List.mem_cons,h1]
         simp only [List.mem_cons]
         constructor
         · rintro (g | g | g | g) <;> simp [g]
         · rintro ((g | g) | g | g) <;> simp [g]
       · split
         · rw [if_pos (by decide),List.mem_cons,h2]
           simp only [List.mem_cons]
           constructor
           · rintro (g | (g | g) | g) <;> simp [g]
           · rintro ((g | g) | g | g) <;> simp [g]
         · have e : z = y := by omega
           rw [if_pos (by decide),List.mem_cons,h3]
           simp only [List.mem_cons,e]
           constructor
           · rintro (g | g | g) <;> simp [g]
           · rintro ((g | g) | g | g) <;> simp [g]
theorem rises_cons {x : Int} {l : List Int} (h : Rises (fun p q : Int => p < q) l) (hx : ∀ y,y ∈ l → x < y) : Rises (fun p q : Int => p < q) (x :: l) := by
 intro i j u v hij hu hv
 cases i with
 | zero =>
   obtain ⟨j',rfl⟩ : ∃ j',j = j' + 1 := ⟨j - 1,by omega⟩
   simp at hu hv; subst hu
   exact hx v (List.mem_of_getElem? hv)
 | succ i =>
   obtain ⟨j',rfl⟩ : ∃ j',j = j' + 1 := ⟨j - 1,by omega⟩
   exact h i j' u v (by omega) (by simpa using hu) (by simpa using hv)
theorem rises_unionV : ∀ (n : Nat) (a b : List Int),a.length + b.length ≤ n → Rises (fun p q : Int => p < q) a → Rises (fun p q : Int => p < q) b → Rises (fun p q : Int => p < q) (unionV a b) := by
 intro n
 induction n with
 | zero =>
   intro a b h ha hb
   obtain rfl : a = [] := List.length_eq_zero_iff.1 (by omega)
   obtain rfl : b = [] := List.length_eq_zero_iff.1 (by omega)
   unfold unionV; rw [mergeV]; exact ha
 | succ n ih =>
   intro a b h ha hb
   cases a with
   | nil =>
     cases b with
     | nil => unfold unionV; rw [mergeV]; exact ha
     | cons y b =>
       have h1 := ih [] b (by simp at h ⊢; omega) ha hb.tail
       have m := mem_unionV _ [] b (Nat.le_refl _)
       unfold unionV at *
       rw [mergeV,if_pos (by decide)]
       refine rises_cons h1 fun u hu => hb.head u ?_
       simpa using (m u).1 hu
   | cons z a =>
     cases b with
     | nil =>
       have h1 := ih a [] (by simp at h ⊢; omega) ha.tail hb
       have m := mem_unionV _ a [] (Nat.le_refl _)
       unfold unionV at *
       rw [mergeV,if_pos (by decide)]
       refine rises_cons h1 fun u hu => ha.head u ?_
       simpa using (m u).1 hu
     | cons y b =>
       have h1 := ih a (y :: b) (by simp at h ⊢; omega) ha.tail hb
       have h2 := ih (z :: a) b (by simp at h ⊢; omega) ha hb.tail
       have h3 := ih a b (by simp at h ⊢; omega) ha.tail hb.tail
       have m1 := mem_unionV _ a (y :: b) (Nat.le_refl _)
       have m2 := mem_unionV _ (z :: a) b (Nat.le_refl _)
       have m3 := mem_unionV _ a b (Nat.le_refl _)
       unfold unionV at *
       rw [mergeV]
       split
       · rename_i hlt
         rw [if_pos (by decide)]
         refine rises_cons h1 fun u hu => ?_
         rcases (m1 u).1 hu with g | g
         · exact ha.head u g
         · rcases List.mem_cons.1 g with rfl | g
           · exact hlt
           · exact Int.lt_trans hlt (hb.head u g)
       · split
         · rename_i hlt
           rw [if_pos (by decide)]
           refine rises_cons h2 fun u hu => ?_
           rcases (m2 u).1 hu with g | g
           · rcases List.mem_cons.1 g with rfl | g
             · exact hlt
             · exact Int.lt_trans hlt (ha.head u g)
           · exact hb.head u g
         · rw [if_pos (by decide)]
           have e : z = y := by omega
           refine rises_cons h3 fun u hu => ?_
           rcases (m3 u).1 hu with g | g
           · rw [← e]; exact ha.head u g
           · exact hb.head u g
theorem setOk_of {l : List Int} {n : Int} (h : Rises (fun p q : Int => p < q) l) (hr : ∀ x,x ∈ l → 0 ≤ x ∧ x < n) : setOk l n l.length := by
 intro j x hj hx
 have := hr x (List.mem_of_getElem? hx)
 exact ⟨this.1,this.2,fun y h0 hy => h (j - 1) j y x (by omega) hy hx⟩
theorem setOk.rg {l : List Int} {n : Int} (h : setOk l n l.length) {x : Int} (hx : x ∈ l) : 0 ≤ x ∧ x < n := by
 obtain ⟨i,hi,rfl⟩ := List.mem_iff_getElem.1 hx
 have := h i _ hi (List.getElem?_eq_getElem hi)
 exact ⟨this.1,this.2.1⟩
theorem setOk_union {l m : List Int} {n : Int} (h : setOk l n l.length) (k : setOk m n m.length) : setOk (unionV l m) n (unionV l m).length :=
 setOk_of (rises_unionV _ l m (Nat.le_refl _) h.incr k.incr) fun x hx => by
  rcases (mem_unionV _ l m (Nat.le_refl _) x).1 hx with g | g
  · exact h.rg g
  · exact k.rg g

section
variable {a b : Au} {al : List Int}
def outP (a b : Au) (al : List Int) (v : Int × Int) : List (Int × (Int × Int)) := al.map fun e => (e,stp2 a b v e)
theorem outP_ups (h : incr al) (v : Int × Int) : Ups (outP a b al v) := by
 intro p q x y hpq hx hy
 unfold outP at hx hy
 rw [List.getElem?_map,Option.map_eq_some_iff] at hx hy
 obtain ⟨u,hu,rfl⟩ := hx
 obtain ⟨z,hz,rfl⟩ := hy
 exact h p q u z hpq hu hz
theorem outP_len (v : Int × Int) : (outP a b al v).length = al.length := by simp [outP]
theorem outP_get (v : Int × Int) (q : Nat) : (outP a b al v)[q]? = (al[q]?).map fun e => (e,stp2 a b v e) := by simp [outP]
theorem stepS_outP (v : Int × Int) (e : Int) : stepS (outP a b al) v e = if e ∈ al then some (stp2 a b v e) else none := by
 unfold stepS outP
 rw [List.find?_map]
 cases hf : al.find? ((fun x : Int × (Int × Int) => decide (x.1 = e)) ∘ fun e => (e,stp2 a b v e)) with
 | none =>
   rw [List.find?_eq_none] at hf
   rw [if_neg (fun h => by have := hf e h; simp at this)]
   rfl
 | some x =>
   have h1 := List.mem_of_find?_eq_some hf
   have h2 := List.find?_some hf
   simp at h2
   subst h2
   rw [if_pos h1]; rfl
theorem rn_to {a : Au} (ha : a.Right) (w : List Int) (e : Int) : toV (stepOf a.ed) (rn a w) e = rn a (w ++ [e]) := by
 rcases ha.rn_cases w with g | g
 · rw [g,ha.to_neg,rn_app,g,runV_neg _ (by omega)]
 · rw [rn_snoc a w e g.1,← ha.next]
theorem runS_outP (ha : a.Right) (hb : b.Right) : ∀ w : List Int,runS (outP a b al) (a.st,b.st) w = if ∀ x,x ∈ w → x ∈ al then some (rn a w,rn b w) else none := by
 refine snoc_ind ?_ ?_
 · rw [if_pos (by simp)]; rfl
 · intro w e ih
   rw [runS_snoc,ih]
   by_cases h : ∀ x,x ∈ w → x ∈ al
   · rw [if_pos h,Option.bind_some,stepS_outP]
     by_cases he : e ∈ al
     · rw [if_pos he,if_pos (fun x hx => by rcases List.mem_append.1 hx with g | g; exact h x g; rw [List.mem_singleton.1 g]; exact he)]
       simp only [stp2,rn_to ha,rn_to hb]
     · rw [if_neg he,if_neg (fun g => he (g e (by simp)))]
   · rw [if_neg h,if_neg (fun g => h fun x hx => g x (List.mem_append_left _ hx))]; rfl
def rgP (a b : Au) (v : Int × Int) : Prop := (v.1 = -1 ∨ 0 ≤ v.1 ∧ v.1 < a.n) ∧ (v.2 = -1 ∨ 0 ≤ v.2 ∧ v.2 < b.n)
theorem rgP_step (ha : a.Right) (hb : b.Right) (v : Int × Int) (e : Int) : rgP a b (stp2 a b v e) := ⟨ha.to_cases _ _,hb.to_cases _ _⟩
theorem rgP_start (ha : a.Right) (hb : b.Right) : rgP a b (a.st,b.st) := ⟨ha.rn_cases [],hb.rn_cases []⟩
theorem mem_outP {v t : Int × Int} {e : Int} (h : (e,t) ∈ outP a b al v) : e ∈ al ∧ t = stp2 a b v e := by
 obtain ⟨x,hx,he⟩ := List.mem_map.1 h
 rw [Prod.mk.injEq] at he
 obtain ⟨rfl,rfl⟩ := he
 exact ⟨hx,rfl⟩
theorem congP {κ : Type} {key : Int × Int → κ} (ha : a.Right) (hb : b.Right) (hal : incr al) (hk : ∀ v v',rgP a b v → rgP a b v' → key v = key v' → v = v') : Cong (rgP a b) key (outP a b al) :=
 ⟨fun v _ e t h => by rw [(mem_outP h).2]; exact rgP_step ha hb v e,fun v v' hv hv' h e t ht => ⟨t,by rw [← hk v v' hv hv' h]; exact ht,rfl⟩,fun v _ => outP_ups hal v⟩
theorem Built.pairs {κ : Type} {key : Int × Int → κ} (ha : a.Right) (hb : b.Right) (hal : incr al) (hk : ∀ v v',rgP a b v → rgP a b v' → key v = key v' → v = v') {m : Au} {fs : List (Int × Int)}
 (B : Built key (outP a b al) (a.st,b.st) m fs) (hfs : ∀ v,v ∈ fs → rgP a b v) {P : Int × Int → Prop} (hm : ∀ d : Nat,(d : Int) ∈ m.mr ↔ ∃ v,fs[d]? = some v ∧ P v) (w : List Int) :
 rn m w ∈ m.mr ↔ (∀ x,x ∈ w → x ∈ al) ∧ P (rn a w,rn b w) := by
 have hr := runS_outP (al := al) ha hb w
 rcases B.run (congP ha hb hal hk) (rgP_start ha hb) hfs w with ⟨g1,g2⟩ | ⟨d,u,t,g1,g2,g3,g4,g5⟩
 · rw [g2] at hr
   constructor
   · intro h; have := (B.rt.mem h).1; omega
   · rintro ⟨h,_⟩; rw [if_pos h] at hr; cases hr
 · rw [g3] at hr
   split at hr
   · rename_i hin
     cases hr
     have hu := hfs u (List.mem_of_getElem? g2)
     have e := hk u _ hu g5 g4
     subst e
     rw [g1,hm]
     constructor
     · rintro ⟨v,h1,h2⟩
       rw [g2] at h1; cases h1
       exact ⟨hin,h2⟩
     · rintro ⟨_,h⟩; exact ⟨_,g2,h⟩
   · cases hr
end
end
end Go.Proofs.YtkifgffhoenaoaaDoor
