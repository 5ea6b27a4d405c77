/-
  Appends and cuts of lists of one's own, whatever the elements.
-/
import Derived.Test.YtccfcaejlohahaaBas11
set_option linter.unusedSimpArgs false
set_option linter.unusedVariables false
namespace Go.Proofs.Ytccfcaejlohahaa
open Go.RowKit
set_option maxRecDepth 100000
theorem SlAt.cellsG {α : Type} {enc : α → List Value} {k : Nat} (hk : ∀ x,(enc x).length = k) {w : World} {ad : Addr} {b : List α} (h : SlAt (fun _ x vs => vs = enc x) k w (some ad) b) : ∀ j u,(b.flatMap enc)[j]? = some u → w.cell? (ad.add j) = some u := by
 intro j u hj
 have hlen := flat_len hk b
 have hlt := (List.getElem?_eq_some_iff.1 hj).1
 have k0 : 0 < k := by
  rcases Nat.eq_zero_or_pos k with e | e
  · subst e; rw [hlen] at hlt; simp at hlt
  · exact e
 have hb : j / k < b.length := by rw [Nat.div_lt_iff_lt_mul k0]; omega
 have hm := Nat.mod_lt j k0
 have hg := flat_get hk b (j / k) (j % k) b[j / k] (List.getElem?_eq_getElem hb) hm
 rw [Nat.mul_comm,Nat.div_add_mod] at hg
 obtain ⟨blk,off,hA,_,hc⟩ := h (by rintro rfl; simp at hb)
 cases hA
 obtain ⟨vs,_,hE,hcell⟩ := hc (j / k) b[j / k] (List.getElem?_eq_getElem hb)
 subst hE
 have := hcell (j % k) u (by rw [← hg]; exact hj)
 rw [Nat.add_assoc,Nat.mul_comm,Nat.div_add_mod] at this
 unfold Addr.add
 split
 · rename_i h0; subst h0; simpa using this
 · simpa using this
theorem step_appendG {α : Type} {enc : α → List Value} {k T : Nat} {P : Program} {n : Nat} {w0 w : World} {es : List Ent} {ops : Array Oper} {o : Oper} {a : Act} {K : Act → World → Prop} {Q : Exit → Act → World → Prop} {E : Prop} (hk : ∀ x,(enc x).length = k) (h0 : 0 < k) (h1 : ∀ y,∀ u ∈ enc y,u.oneCell' = true) (hgd : o.guard = none) (s x : Operand) (t : TypeId)
 (ho : o.op = .call { callee := .builtin .append,args := #[s,x],argTypes := #[t,t] }) (S : Sep n w0 es w) (i : Nat) {l : List α} {v : Value} (hei : es[i]? = some (eOwn enc k T l v))
 (ht : P.underlying t = some (.slice T)) (z : Value) (bytes : Nat) (hi : (P.info? T).map (fun i => (i.zero,i.size,i.bytes)) = some (some z,k,bytes)) (hzs : z.cells.size = k) (hby : bytes ≤ 4096)
 (hs : a.eval s = v) (A : Option Addr) (c : Nat) (b : List α) (hx : a.eval x = .slice A b.length c) (hB : SlAt (fun _ x vs => vs = enc x) k w A b) (hl : l.length + b.length ≤ 1048577)
 (h : ∀ A' c' w',Sep n w0 (es.set i (eOwn enc k T (l ++ b) (.slice A' (l.length + b.length) c'))) w' → Off v.ownBlock.toList w w' → K (a.put o.dst (.slice A' (l.length + b.length) c')) w') :
 if Region.wanted o (yielded ops a.tmps) = true then Oper.wp P o a w K Q else E := by
 have own := S.get i hei
 cases A with
 | none =>
   obtain ⟨i0,hi0,hz,hsize,hb⟩ := info_parts hi
   have hb0 : b = [] := by
    cases b with
    | nil => rfl
    | cons y b => obtain ⟨_,_,hA,_⟩ := hB (by simp); cases hA
   subst hb0
   obtain ⟨A',c',rfl⟩ := Own.form own
   have hr := app_none t o.type T i0 z P ht hi0 hz A' l.length c' c w (fun e => by
    subst e
    rcases own.2 with ⟨_,h2⟩ | ⟨g,cap,cur,h2,_⟩
    · exact h2
    · cases h2) (Own.cap own)
   have hw : Region.wanted o (yielded ops a.tmps) = true := by simp [Region.wanted,hgd]
   rw [if_pos hw]
   unfold Oper.wp execOp
   simp only [ho,resolve,invoke,builtin,Sem.run_bind,Sem.run_pure,Result.andThen_ok,List.map_toArray,List.map_cons,List.map_nil,hs,hx,List.length_nil,hr]
   exact h A' c' w (S.as i hei _ (fun g => by rw [List.append_nil]; exact g) (fun _ g => g)) ⟨rfl,rfl,rfl,Nat.le_refl _,fun _ _ _ => rfl⟩
 | some ad =>
   refine step_append_at hgd s x t ho 0 T z k bytes ht hi hzs h0 v l.length (l.flatMap enc) hs own ad b.length c (b.flatMap enc) hx (flat_len hk b) (SlAt.cellsG hk hB) (fun u hu => ?_) (by simp only [maxLen]; omega) (by have := Nat.mul_le_mul hl hby; omega) (Nat.zero_le _) fun A' c' w' ho' hg hat => h A' c' w' (S.chg i hei _ (Off.grown hg) ?_ (fun g hg => ?_)) (Off.grown hg)
   · obtain ⟨y,_,hy⟩ := List.mem_flatMap.1 hu; exact h1 y u hy
   · show Own enc k T 0 (l ++ b) _ w'
     unfold Own; rw [List.flatMap_append,List.length_append]; exact ho'
   · simp only [eOwn,Option.mem_toList] at hg ⊢
     rcases hat with e | e
     · exact .inl (by rw [← e]; exact hg)
     · rw [e] at hg; cases hg; exact .inr (Nat.le_refl _)
theorem Own.preG {α : Type} {enc : α → List Value} {k T B : Nat} (hk : ∀ x,(enc x).length = k) {l r : List α} {g c : Nat} {w : World} {N : Nat} (h : Own enc k T B (l ++ r) (.slice (some ⟨g,0,none⟩) N c) w) : Own enc k T B l (.slice (some ⟨g,0,none⟩) l.length c) w := by
 refine ⟨flat_len hk l,.inr ?_⟩
 rcases h.2 with ⟨h1,h2⟩ | ⟨g',cap,cur,h1,hb,h3,h4,h5,h6,h7⟩
 · cases h1
 · cases h1
   rw [List.length_append] at h4
   refine ⟨g,c,cur,rfl,hb,h3,by omega,h5,h6,?_⟩
   have e : l.length * k ≤ (l ++ r).length * k := Nat.mul_le_mul_right k (by simp)
   have h8 := congrArg (List.take (l.length * k)) h7
   rw [List.take_take,Nat.min_eq_left e,List.flatMap_append] at h8
   rw [h8,List.take_append_of_le_length (by rw [flat_len hk l]; exact Nat.le_refl _),List.take_of_length_le (by rw [flat_len hk l]; exact Nat.le_refl _)]
theorem SlAt.dropG {α : Type} {E : Reading α} {k : Nat} {w : World} {g off : Nat} {l : List α} (h : SlAt E k w (some ⟨g,off,none⟩) l) (m : Nat) : SlAt E k w (some ⟨g,off + m * k,none⟩) (l.drop m) := by
 intro hne
 obtain ⟨b,o,e,hb,hr⟩ := h (fun e => hne (by rw [e]; simp))
 cases e
 refine ⟨_,_,rfl,hb,fun i y hy => ?_⟩
 rw [List.getElem?_drop] at hy
 obtain ⟨vs,h1,h2,h3⟩ := hr _ y hy
 refine ⟨vs,h1,h2,fun j v hj => ?_⟩
 have := h3 j v hj
 rw [show off + m * k + i * k + j = off + (m + i) * k + j by rw [Nat.add_mul]; omega]
 exact this
theorem Sep.setRm {n : Nat} {w0 w : World} {es : List Ent} {R : List Rm} {g N c : Nat} (S : Sep n w0 es w) (i : Nat) (hi : es[i]? = some (eRms R (.slice (some ⟨g,0,none⟩) N c))) {m : Nat} {r : Rm} (hr : R[m]? = some r) (j : Nat) (u : Value) (r' : Rm) (hj : j < 4) (he : Rm.cells r' = (Rm.cells r).set j u) : Sep n w0 (es.set i (eRms (R.set m r') (.slice (some ⟨g,0,none⟩) N c))) (w.setCell ⟨g,m * 4 + j,none⟩ u) := by
 refine S.chg i hi _ (Off.set w g (m * 4 + j) _) ?_ (fun g hg => .inl (by simpa [eOwn,Value.ownBlock] using hg))
 obtain ⟨h1,h2⟩ := S.get i hi
 have hm := (List.getElem?_eq_some_iff.1 hr).1
 refine ⟨by rw [flat_len (k := 4) (fun _ => rfl),List.length_set],?_⟩
 rcases h2 with ⟨h,_⟩ | ⟨g',cap,cur,r1,r2,r3,r4,r5,r6,r7⟩
 · cases h
 · cases r1
   have r3' : BlkAt w g 70 cur.toList := by rw [BlkAt]; simpa using r3
   have h3 := BlkAt.set_ r3' (m * 4 + j) u
   refine .inr ⟨g,c,(cur.toList.set (m * 4 + j) u).toArray,by rw [List.length_set],r2,h3,by rw [List.length_set]; exact r4,r5,by simpa using r6,?_⟩
   rw [List.length_set]
   show (cur.toList.set (m * 4 + j) u).take _ = _
   rw [List.take_set,r7]
   apply List.ext_getElem?
   intro t
   by_cases ht : t < R.length * 4
   · have hd : t / 4 < R.length := by omega
     have h4 := flat_get (enc := Rm.cells) (k := 4) (fun _ => rfl) (R.set m r') (t / 4) (t % 4) _ (List.getElem?_eq_getElem (by rw [List.length_set]; exact hd)) (by omega)
     have h5 := flat_get (enc := Rm.cells) (k := 4) (fun _ => rfl) R (t / 4) (t % 4) _ (List.getElem?_eq_getElem hd) (by omega)
     rw [show t / 4 * 4 + t % 4 = t by omega] at h4 h5
     rw [h4,List.getElem?_set]
     by_cases e : m * 4 + j = t
     · have e1 : t / 4 = m := by omega
       have e2 : t % 4 = j := by omega
       rw [if_pos e,if_pos (by rw [flat_len (enc := Rm.cells) (k := 4) (fun _ => rfl) R]; omega)]
       rw [e2]
       have e3 : (R.set m r')[t / 4]'(by rw [List.length_set]; exact hd) = r' := by
        have := List.getElem?_set_self (l := R) (a := r') hm
        have h6 : (R.set m r')[t / 4]? = some r' := by rw [e1]; exact this
        rw [List.getElem?_eq_getElem (by rw [List.length_set]; exact hd)] at h6
        exact Option.some.inj h6
       rw [e3,he,List.getElem?_set_self (by simp [Rm.cells]; exact hj)]
     · rw [if_neg e,h5]
       by_cases e1 : t / 4 = m
       · have h6 : (R.set m r')[t / 4]'(by rw [List.length_set]; exact hd) = r' := by
          have h6 : (R.set m r')[t / 4]? = some r' := by rw [e1]; exact List.getElem?_set_self hm
          rw [List.getElem?_eq_getElem (by rw [List.length_set]; exact hd)] at h6
          exact Option.some.inj h6
         have h7 : R[t / 4] = r := by
          have : R[t / 4]? = some r := by rw [e1]; exact hr
          rw [List.getElem?_eq_getElem hd] at this
          exact Option.some.inj this
         rw [h6,h7,he,List.getElem?_set_ne (by omega)]
       · have h6 : (R.set m r')[t / 4]'(by rw [List.length_set]; exact hd) = R[t / 4] := List.getElem_set_ne (fun g => e1 g.symm) _
         rw [h6]
   · rw [List.getElem?_eq_none (by rw [List.length_set,flat_len (enc := Rm.cells) (k := 4) (fun _ => rfl) R]; omega),List.getElem?_eq_none (by rw [flat_len (enc := Rm.cells) (k := 4) (fun _ => rfl) (R.set m r'),List.length_set]; omega)]
theorem Own.freeB {α : Type} {enc : α → List Value} {k T B : Nat} {l : List α} {g c N : Nat} {w : World} (h : Own enc k T B l (.slice (some ⟨g,0,none⟩) N c) w) (o : Nat) : w.frozen? ⟨g,o,none⟩ = false := by
 rcases h.2 with ⟨h1,_⟩ | ⟨g',cap,cur,h1,_,h3,_⟩
 · cases h1
 · cases h1; simp [World.frozen?,h3]
theorem Sep.cellJ {n : Nat} {w0 w : World} {es : List Ent} {l : List Int} {g c : Nat} (S : Sep n w0 es w) (i : Nat) (hi : es[i]? = some (eInts l (.slice (some ⟨g,0,none⟩) l.length c))) {k : Nat} {x : Int} (hx : l[k]? = some x) : w.cell? ⟨g,k,none⟩ = some (.int .i64 x) :=
 Own.cellB (S.get i hi) (by rw [flat_encI]; simp [hx])
theorem Sep.setJ {n : Nat} {w0 w : World} {es : List Ent} {l : List Int} {g N c : Nat} (S : Sep n w0 es w) (i : Nat) (hi : es[i]? = some (eInts l (.slice (some ⟨g,0,none⟩) N c))) (k : Nat) (x : Int) : Sep n w0 (es.set i (eInts (l.set k x) (.slice (some ⟨g,0,none⟩) N c))) (w.setCell ⟨g,k,none⟩ (.int .i64 x)) := by
 refine S.chg i hi _ (Off.set w g k _) ?_ (fun g hg => .inl (by simpa [eOwn,Value.ownBlock] using hg))
 obtain ⟨h1,h2⟩ := S.get i hi
 refine ⟨by rw [flat_encI]; simp,?_⟩
 rcases h2 with ⟨h,_⟩ | ⟨g',cap,cur,r1,r2,r3,r4,r5,r6,r7⟩
 · cases h
 · cases r1
   have r3' : BlkAt w g 3 cur.toList := by rw [BlkAt]; simpa using r3
   have h3 := BlkAt.set_ r3' k (.int .i64 x)
   refine .inr ⟨g,c,(cur.toList.set k (.int .i64 x)).toArray,by rw [List.length_set],r2,h3,by rw [List.length_set]; exact r4,r5,?_,?_⟩
   · simpa using r6
   · rw [flat_encI] at r7 ⊢
     simp only [Nat.mul_one] at r7 ⊢
     rw [List.length_set]
     show (cur.toList.set k _).take _ = _
     rw [List.take_set,r7,List.map_set]
end Go.Proofs.Ytccfcaejlohahaa
