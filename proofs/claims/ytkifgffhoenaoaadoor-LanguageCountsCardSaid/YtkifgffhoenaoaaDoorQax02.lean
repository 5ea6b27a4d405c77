/-
  What the row leans on.
-/
import Derived.Test.YtkifgffhoenaoaaDoorBas01
import Derived.Test.YtkifgffhoenaoaaDoorQax01
import Derived.Deep.RegionHeld3
set_option linter.unusedSimpArgs false
set_option linter.unusedVariables false
namespace Go.Proofs.YtkifgffhoenaoaaDoor
open Go.RowKit
set_option maxRecDepth 100000
structure PrV where
 x : Int
 y : Int
 A : Option Addr
 n : Nat
 c : Nat
def PrV.cells (p : PrV) : List Value := [.int .i64 p.x,.int .i64 p.y,.slice p.A p.n p.c]
theorem prOne (x : PrV) : ∀ u ∈ PrV.cells x,u.oneCell' = true := fun u hu => by simp [PrV.cells] at hu; rcases hu with rfl | rfl | rfl <;> rfl
theorem prInfo : (Tryd.prog.info? 82).map (fun i => (i.zero,i.size,i.bytes)) = some (some (.agg #[.int .i64 0,.int .i64 0,.slice none 0 0]),3,40) := by kernel_rfl
def WdAt (fs : List Nat) (w : World) (r : PrV) (wd : List Int) : Prop := r.n = wd.length ∧ ((r.A = none ∧ wd = [] ∧ r.c = 0) ∨ ∃ g,r.A = some ⟨g,0,none⟩ ∧ g ∈ fs ∧ ∀ j x,wd[j]? = some x → w.cell? ⟨g,j,none⟩ = some (.int .i64 x))
def eWds (fs : List Nat) (raw : List PrV) (l : List Pr) : Ent where
 foot := fs
 ok w := raw.length = l.length ∧ (∀ g,g ∈ fs → g < w.heap.size) ∧ ∀ (i : Nat) (r : PrV) (p : Pr),raw[i]? = some r → l[i]? = some p → r.x = p.x ∧ r.y = p.y ∧ WdAt fs w r p.w
 lt w h := h.2.1
 turn w w' h hg := by
  refine ⟨h.1,fun g hk => ?_,fun i r p hr hp => ?_⟩
  · have h1 := hg g hk;have h2 := h.2.1 g hk;rw [Array.getElem?_eq_getElem h2] at h1;exact (Array.getElem?_eq_some_iff.1 h1).1
  · obtain ⟨h1,h2,h3,h4⟩ := h.2.2 i r p hr hp;refine ⟨h1,h2,h3,h4.imp id fun ⟨g,e,hm,hc⟩ => ⟨g,e,hm,fun j x hx => ?_⟩⟩;exact (World.cell?_of_block (a := ⟨g,_,none⟩) (hg g hm)).trans (hc j x hx)
theorem WdAt.ints {fs : List Nat} {w : World} {r : PrV} {wd : List Int} (h : WdAt fs w r wd) (hfs : ∀ g,g ∈ fs → g < w.heap.size) : IntsAt w r.A wd := by
 intro hne;rcases h.2 with ⟨_,h2,_⟩ | ⟨g,hA,hm,hc⟩
 · exact absurd h2 hne
 · refine ⟨g,0,hA,hfs g hm,fun i x hx => ⟨[.int .i64 x],rfl,rfl,fun j v hj => ?_⟩⟩;cases j with
   | zero => simp at hj; subst hj; simpa using hc i x hx
   | succ j => simp at hj
theorem Sep.wdCells {n : Nat} {w0 w : World} {es : List Ent} {fs : List Nat} {raw : List PrV} {l : List Pr} (S : Sep n w0 es w) (i : Nat) (hi : es[i]? = some (eWds fs raw l)) {q : Nat} {p : Pr} {g : Nat} {x y : Int} {nn c : Nat} (hr : raw[q]? = some ⟨x,y,some ⟨g,0,none⟩,nn,c⟩) (hp : l[q]? = some p) : ∀ j u,(p.w.flatMap encI)[j]? = some u → w.cell? ⟨g,j,none⟩ = some u := by
 intro j u hj;obtain ⟨_,_,_,h4⟩ := (S.get i hi).2.2 q _ p hr hp;rcases h4 with ⟨h,_⟩ | ⟨g',hA,_,hc⟩
 · cases h
 · cases hA;rw [flat_encI,List.getElem?_map,Option.map_eq_some_iff] at hj;obtain ⟨z,hz,rfl⟩ := hj;exact hc j z hz
theorem Sep.wdsPush {n : Nat} {w0 w : World} {es : List Ent} {fs : List Nat} {raw : List PrV} {l : List Pr} {wd : List Int} {A : Option Addr} {c : Nat} (S : Sep n w0 (eInts wd (.slice A wd.length c) :: eWds fs raw l :: es) w) (x y : Int) :
 Sep n w0 (eWds ((Value.slice A wd.length c).ownBlock.toList ++ fs) (raw ++ [⟨x,y,A,wd.length,c⟩]) (l ++ [⟨x,y,wd⟩]) :: es) w := by
 refine (S.join).as 0 rfl _ (fun h => ?_) (fun g hg => hg);obtain ⟨ho,hl,hz,hc⟩ := h;refine ⟨by simp [hl],fun g hg => ?_,fun i r p hr hp => ?_⟩
 · rcases List.mem_append.1 hg with k | k
   · exact (Own.lt ho g (by simpa using k)).2
   · exact hz g k
 · rcases getElem?_snoc hr with hr | ⟨hi,rfl⟩
   · have hil := (List.getElem?_eq_some_iff.1 hr).1;rw [List.getElem?_append_left (by omega)] at hp;obtain ⟨h1,h2,h3,h4⟩ := hc i r p hr hp;exact ⟨h1,h2,h3,h4.imp id fun ⟨g,e,hm,hk⟩ => ⟨g,e,List.mem_append_right _ hm,hk⟩⟩
   · rw [hi,hl,List.getElem?_append_right (Nat.le_refl _)] at hp;simp at hp
     subst hp;refine ⟨rfl,rfl,rfl,?_⟩;have hI := OwnI.ints ho;rcases ho.2 with ⟨h1,h2⟩ | ⟨g,cap,cur,h1,h2,h3⟩
     · simp only [Value.slice.injEq] at h1;obtain ⟨rfl,_,rfl⟩ := h1;exact .inl ⟨rfl,List.eq_nil_of_length_eq_zero h2,rfl⟩
     · simp only [Value.slice.injEq] at h1;obtain ⟨rfl,_,rfl⟩ := h1;refine .inr ⟨g,rfl,by simp [Value.ownBlock],fun j x hx => ?_⟩;obtain ⟨z,hz1,hz2⟩ := IntsAt.more hI (List.getElem?_eq_some_iff.1 hx).1;rw [hx] at hz1; cases hz1;simpa using hz2
theorem Sep.prs {n : Nat} {w0 w : World} {es : List Ent} {raw : List PrV} {A : Option Addr} {c : Nat} (S : Sep n w0 es w) (i : Nat) (hi : es[i]? = some (eOwn PrV.cells 3 82 raw (.slice A raw.length c))) {k : Nat} (hk : k < raw.length) : ∃ g off x,A = some ⟨g,off,none⟩ ∧ raw[k]? = some x := by
 obtain ⟨b,off,x,vs,hA,_,hx,_⟩ := SlAt.at (Own.reads (enc := PrV.cells) (k := 3) (fun _ => rfl) (S.get i hi)) hk;exact ⟨b,off,x,hA,hx⟩
theorem Sep.prAt {n : Nat} {w0 w : World} {es : List Ent} {raw : List PrV} {g off c : Nat} (S : Sep n w0 es w) (i : Nat) (hi : es[i]? = some (eOwn PrV.cells 3 82 raw (.slice (some ⟨g,off,none⟩) raw.length c))) {k : Nat} {x y : Int} {A : Option Addr} {nn cc : Nat} (hr : raw[k]? = some ⟨x,y,A,nn,cc⟩) :
 w.cell? ⟨g,off + k * 3,none⟩ = some (.int .i64 x) ∧ w.cell? ⟨g,off + k * 3 + 1,none⟩ = some (.int .i64 y) ∧ w.cell? ⟨g,off + k * 3 + 2,none⟩ = some (.slice A nn cc) := by
 obtain ⟨b,o,x',vs,hA,_,hx,_,hE,hc⟩ := SlAt.at (Own.reads (enc := PrV.cells) (k := 3) (fun _ => rfl) (S.get i hi)) (List.getElem?_eq_some_iff.1 hr).1;rw [hr] at hx;cases hx; cases hA
 obtain rfl : vs = PrV.cells _ := hE;exact ⟨by simpa using hc 0 _ rfl,hc 1 _ rfl,hc 2 _ rfl⟩
theorem Sep.intAt {n : Nat} {w0 w : World} {es : List Ent} {l : List Int} {g off m c : Nat} (S : Sep n w0 es w) (i : Nat) (hi : es[i]? = some (eInts l (.slice (some ⟨g,off,none⟩) m c))) {k : Nat} {x : Int} (hx : l[k]? = some x) : w.cell? ⟨g,off + k,none⟩ = some (.int .i64 x) := by
 have ho := S.get i hi;obtain ⟨A',c',e⟩ := Own.form ho;cases e;obtain ⟨z,h1,h2⟩ := IntsAt.more (OwnI.ints ho) (List.getElem?_eq_some_iff.1 hx).1;rw [hx] at h1; cases h1;exact h2
theorem PrsAt.of {n : Nat} {w0 w : World} {es : List Ent} {fs : List Nat} {raw : List PrV} {l : List Pr} {A : Option Addr} {c m : Nat} (S : Sep n w0 es w) (i j : Nat) (hi : es[i]? = some (eWds fs raw l)) (hj : es[j]? = some (eOwn PrV.cells 3 82 raw (.slice A m c))) (hl : ∀ p,p ∈ l → p.w.length ≤ 140737488355328) : PrsAt w A l := by
 have h := S.get i hi;have ho := S.get j hj;obtain ⟨A',c',e⟩ := Own.form ho;cases e;intro hne;have hne' : raw ≠ [] := fun e => by rw [e] at h; exact hne (List.eq_nil_of_length_eq_zero h.1.symm)
 obtain ⟨b,off,hA,hlt,hc⟩ := Own.reads (enc := PrV.cells) (k := 3) (fun _ => rfl) ho hne';refine ⟨b,off,hA,hlt,fun q p hp => ?_⟩;obtain ⟨r,hr⟩ : ∃ r,raw[q]? = some r := ⟨_,List.getElem?_eq_getElem (by rw [h.1]; exact (List.getElem?_eq_some_iff.1 hp).1)⟩;obtain ⟨us,h1,h2,h3⟩ := hc q r hr;obtain rfl : us = PrV.cells r := h2;obtain ⟨x1,x2,hw⟩ := h.2.2 q r p hr hp;refine ⟨PrV.cells r,rfl,⟨.slice r.A r.n r.c,by rw [← x1,← x2]; rfl,?_⟩,h3⟩;have := SlR.of_at (c := r.c) (show SlAt (Rd IntR) 1 w r.A p.w from hw.ints h.2.1) (hl p (List.mem_of_getElem? hp));rw [hw.1];exact this
theorem step_pushNS {P : Program} {α : Type} {enc : α → List Value} {k T n : Nat} {w0 w : World} {es : List Ent} {l : List α} {v : Value} {ops : Array Oper} {o : Oper} {a : Act} {K : Act → World → Prop} {Q : Exit → Act → World → Prop} {E : Prop} (hgd : o.guard = none) (s x : Operand) (t : TypeId)
 (ho : o.op = .call { callee := .builtin .append,args := #[s,x],argTypes := #[t,t] }) (S : Sep n w0 es w) (i : Nat) (hei : es[i]? = some (eOwn enc k T l v))
 (ht : P.underlying t = some (.slice T)) (z : Value) (bytes : Nat) (hi : (P.info? T).map (fun i => (i.zero,i.size,i.bytes)) = some (some z,k,bytes))
 (hzs : z.cells.size = k) (hk : 0 < k) (hs : a.eval s = v) (ys : List α) (g c : Nat) (hx : a.eval x = .slice (some ⟨g,0,none⟩) ys.length c) (hy : ∀ y,(enc y).length = k) (hc : ∀ j u,(ys.flatMap enc)[j]? = some u → w.cell? ⟨g,j,none⟩ = some u) (h1 : ∀ y,∀ u ∈ enc y,u.oneCell' = true)
 (hl : l.length + ys.length ≤ 1048577) (hby : bytes ≤ 4096)
 (h : ∀ A' c' w',Sep n w0 (es.set i (eOwn enc k T (l ++ ys) (.slice A' (l.length + ys.length) c'))) w' → Off v.ownBlock.toList w w' → K (a.put o.dst (.slice A' (l.length + ys.length) c')) w') :
 if Region.wanted o (yielded ops a.tmps) = true then Oper.wp P o a w K Q else E := by
 refine step_append_at hgd s x t ho 0 T z k bytes ht hi hzs hk v l.length (l.flatMap enc) hs (S.get i hei) ⟨g,0,none⟩ ys.length c (ys.flatMap enc) hx (flat_len hy ys) (fun j u hj => ?_) (fun u hu => ?_) (by simp only [maxLen]; omega) (by have := Nat.mul_le_mul hl hby; omega) (Nat.zero_le _) fun A' c' w' ho' hg hat => h A' c' w' (S.chg i hei _ (Off.grown hg) ?_ (fun g hg => ?_)) (Off.grown hg)
 · have := hc j u hj;unfold Addr.add
   split
   · rename_i h0; subst h0; exact this
   · simpa using this
 · obtain ⟨y,_,hy'⟩ := List.mem_flatMap.1 hu;exact h1 y u hy'
 · show Own enc k T 0 (l ++ ys) _ w'
   unfold Own; rw [List.flatMap_append,List.length_append]; exact ho'
 · simp only [eOwn,Option.mem_toList] at hg ⊢;rcases hat with h | h
   · exact .inl (by rw [← h]; exact hg)
   · rw [h] at hg; cases hg; exact .inr (Nat.le_refl _)
theorem start9_e (a : Au) (p : AuP) (s : Int) (w : World) (h : a.st = s) : Calls Tryd.prog 69 #[a.val p] w (Ret (.int .i64 s) w) := h ▸ start9_c a p w
theorem step9_e (a : Au) (p : AuP) (s ev t : Int) (w : World) (ha : a.Right) (h3 : EdsAt w p.A3 a.ed) (l3 : a.ed.length ≤ 140737488355328) (h : toV (stepOf a.ed) s ev = t) : Calls Tryd.prog 48 #[a.val p,.int .i64 s,.int .i64 ev] w (Ret (.int .i64 t) w) := h ▸ step9_c a p s ev w ha h3 l3
def GivesPairs (a b : Au) (w : World) (e : Ending) (w' : World) : Prop := ∃ (raw : List PrV) (l : List Pr) (A : Option Addr) (c : Nat) (fs : List Nat),e = .returned (.slice A raw.length c) ∧ (SepW w [eWds fs raw l,eOwn PrV.cells 3 82 raw (.slice A raw.length c)] w') ∧ Hid (PAll a b (unionV a.al b.al) l) ∧ Hid (PrsAt w' A l)
theorem unionL_len {a b : Au} (ha : a.Right) (hb : b.Right) : (unionV a.al b.al).length ≤ 32 := (setOk_union ha.al hb.al).short
set_option maxHeartbeats 16000000 in
theorem pairs_c (a b : Au) (p q : AuP) (w : World) (ha : a.Right) (hb : b.Right) (hA : Au.At w a p) (hB : Au.At w b q) (hN : (a.n.toNat + 1) * (b.n.toNat + 1) ≤ 1000000) :
 Calls Tryd.prog 43 #[a.val p,b.val q] w (GivesPairs a b w) := by
 have HRA := Lib.hid ha;have HRB := Lib.hid hb;have HA := Lib.hid hA;have HB := Lib.hid hB;have HUO' := setOk_union ha.al hb.al;have hul := unionL_len ha hb;have ha1 := ha.n1;have hb1 := hb.n1;have ha0 := ha.n0;have hb0 := hb.n0;have hal : a.al.length ≤ 32 := ha.al.short;have hbl : b.al.length ≤ 32 := hb.al.short;obtain ⟨al,n,mr,ed⟩ := a;obtain ⟨A1,c1,A2,c2,A3,c3⟩ := p;obtain ⟨bl,k,ms,es⟩ := b;obtain ⟨B1,d1,B2,d2,B3,d3⟩ := q;(try dsimp only [Au.val] at *);clear ha hb hA hB;obtain ⟨N,hNe⟩ : ∃ N,(n.toNat + 1) * (k.toNat + 1) = N := ⟨_,rfl⟩;rw [hNe] at hN;obtain ⟨ul,hule⟩ : ∃ ul,unionV al bl = ul := ⟨_,rfl⟩;rw [hule] at hul;rw [hule] at HUO';have HUO := Lib.hid HUO';clear HUO';have HNE := Lib.hid hNe;have HUE := Lib.hid hule;clear hNe hule;go_enter Tryd.func43,Tryd.ntmps43
 go_upto_region 1 with fail
 refine wp_world (fun W => Sep w.heap.size w [eBlk (w.heap.size + 1) 35 [.slice B1 bl.length d1,.int .i64 k,.slice B2 ms.length d2,.slice B3 es.length d3],eBlk w.heap.size 35 [.slice A1 al.length c1,.int .i64 n,.slice A2 mr.length c2,.slice A3 ed.length c3]] W) ?_ fun W S => ?_
 · exact ((Sep.here w).alloc' _ [_,_,_,_] rfl rfl).alloc' _ [_,_,_,_] rfl (by simp)
 have S0 := Lib.hid S;clear S;have a0 := ckC S0.out 1 rfl 0 rfl;have b0 := ckC S0.out 0 rfl 0 rfl;go_wp2_with fail
 refine (u01_c A1 B1 c1 d1 al bl W (HA.out.below S0.out.below).al (HB.out.below S0.out.below).al (by omega)).mono ?_;rintro e W1 ⟨AL,cL,rfl,HO,hb⟩;rw [HUE.out] at HO ⊢;have S1 : (SepW w [eInts ul (.slice AL ul.length cL),eBlk (w.heap.size + 1) 35 [.slice B1 bl.length d1,.int .i64 k,.slice B2 ms.length d2,.slice B3 es.length d3],eBlk w.heap.size 35 [.slice A1 al.length c1,.int .i64 n,.slice A2 mr.length c2,.slice A3 ed.length c3]] W1) := S0.out.newI HO.out hb;clear hb HO S0 a0 b0;have S2 : (SepW w [eWds [] [] [],eOwn PrV.cells 3 82 [] (.slice none 0 0),eInts ul (.slice AL ul.length cL),eBlk (w.heap.size + 1) 35 [.slice B1 bl.length d1,.int .i64 k,.slice B2 ms.length d2,.slice B3 es.length d3],eBlk w.heap.size 35 [.slice A1 al.length c1,.int .i64 n,.slice A2 mr.length c2,.slice A3 ed.length c3]] W1) := (S1.out.nilOwn PrV.cells 3 82).new1 (Below.refl _ _) (eWds [] [] []) ⟨rfl,by simp,by simp⟩ (by simp [eWds]);clear S1;have a1 := ckC S2.out 4 rfl 1 rfl;have b1 := ckC S2.out 3 rfl 1 rfl;have hw : IntKind.i64.wrap (n + k) = n + k := IntWalk.i64_in _ (by omega);by_cases hz : 0 < n + k
 · have hz' : decide (n + k > 0) = true := by simpa using hz
   obtain ⟨sa,hsa⟩ : ∃ s,(⟨al,n,mr,ed⟩ : Au).st = s := ⟨_,rfl⟩;obtain ⟨sb,hsb⟩ : ∃ s,(⟨bl,k,ms,es⟩ : Au).st = s := ⟨_,rfl⟩;have HSA := Lib.hid hsa;have HSB := Lib.hid hsb;have P0 : Hid (PBfs ⟨al,n,mr,ed⟩ ⟨bl,k,ms,es⟩ ul 0 0 [⟨sa,sb,[]⟩]) := by rw [← hsa,← hsb]; exact PBfs.start HRA.out HRB.out (fun h => by have := h.1; have := h.2; simp only at *; omega)
   clear hsa hsb;go_upto_region 4 with fail
   refine wp_world (fun W => Sep w.heap.size w [eWds [] [] [],eOwn PrV.cells 3 82 [] (.slice none 0 0),eInts ul (.slice AL ul.length cL),eBlk (w.heap.size + 1) 35 [.slice B1 bl.length d1,.int .i64 k,.slice B2 ms.length d2,.slice B3 es.length d3],eBlk w.heap.size 35 [.slice A1 al.length c1,.int .i64 n,.slice A2 mr.length c2,.slice A3 ed.length c3]] W) S2.out fun W4 S' => ?_;have S4 := Lib.hid S';clear S' S2 a1 b1;go_cut [6] (fun v wx => ∃ (raw : List PrV) (A : Option Addr) (c : Nat) (fs : List Nat),v = .slice A raw.length c ∧ (SepW w [eWds fs raw [⟨sa,sb,[]⟩],eOwn PrV.cells 3 82 raw (.slice A raw.length c),eInts ul (.slice AL ul.length cL),eBlk (w.heap.size + 1) 35 [.slice B1 bl.length d1,.int .i64 k,.slice B2 ms.length d2,.slice B3 es.length d3],eBlk w.heap.size 35 [.slice A1 al.length c1,.int .i64 n,.slice A2 mr.length c2,.slice A3 ed.length c3]] wx))
   case first =>
    have S1 := Lib.hid S4.out.drew;refine wp_region_held_drew (S := (fun V => Sep w.heap.size w [eBlk (w.heap.size + 1) 35 [.slice B1 bl.length d1,.int .i64 k,.slice B2 ms.length d2,.slice B3 es.length d3],eBlk w.heap.size 35 [.slice A1 al.length c1,.int .i64 n,.slice A2 mr.length c2,.slice A3 ed.length c3]] V)) (by kernel_rfl) ?_ (fun hH => ?_)
    · exact S1.out.pick [3,4] (by decide)
    generalize hwz : W4.drew = w1 at *;clear hwz;refine tkP 0 rfl (v := ?_) hH ?_;(try simp only [sx]);refine tkH 1 rfl (v := ?_) (by kernel_rfl) ?_ hH ?_;rotate_left
    · intro V hs_;have a0 := ckC hs_ 1 rfl 0 rfl;have a1 := ckC hs_ 1 rfl 1 rfl;have a2 := ckC hs_ 1 rfl 2 rfl;have a3 := ckC hs_ 1 rfl 3 rfl;clear hs_;first | (go_simp; done) | (go_simp; with_reducible rfl)
    (try simp only [sx]);refine tkH 3 rfl (v := ?_) (by kernel_rfl) ?_ hH ?_;rotate_left
    · intro V hs_;have b0 := ckC hs_ 0 rfl 0 rfl;have b1 := ckC hs_ 0 rfl 1 rfl;have b2 := ckC hs_ 0 rfl 2 rfl;have b3 := ckC hs_ 0 rfl 3 rfl;clear hs_;first | (go_simp; done) | (go_simp; with_reducible rfl)
    (try simp only [sx]);refine rdH 2 rfl fun K hK => ?_;go_simp;refine (start9_e ⟨al,n,mr,ed⟩ ⟨A1,c1,A2,c2,A3,c3⟩ sa w1 HSA.out).mono ?_;rintro e w2 ⟨rfl,hb⟩;have S2 := Lib.hid (S1.out.next hb);clear hb;refine hK.out _ _ (S2.out.pick [3,4] (by decide)) fun hH => ?_;clear hK K;(try simp only [sx]);refine rdH 4 rfl fun K hK => ?_;go_simp;refine (start9_e ⟨bl,k,ms,es⟩ ⟨B1,d1,B2,d2,B3,d3⟩ sb w2 HSB.out).mono ?_;rintro e w3 ⟨rfl,hb⟩;have S3 := Lib.hid (S2.out.next hb);clear hb;refine hK.out _ _ (S3.out.pick [3,4] (by decide)) fun hH => ?_;clear hK K;(try simp only [sx]);refine tkP 5 rfl (v := ?_) hH ?_;(try simp only [sx]);refine rdH 6 rfl fun K hK => ?_;go_simp;obtain ⟨nnw,hnnw⟩ : ∃ n,n = w3.heap.size := ⟨_,rfl⟩;obtain ⟨w4,hw4⟩ : ∃ v,v = w3.alloc (.cells #[.int .i64 sa,.int .i64 sb,.slice none 0 0] 82) := ⟨_,rfl⟩;rw [← hw4,← hnnw];have S4 := ckA S3.out hw4 hnnw;skip;clear hw4 hnnw;refine hK.out _ _ (S4.out.pick [4,5] (by decide)) fun hH => ?_;clear hK K;(try simp only [sx]);refine rdH 7 rfl fun K hK => ?_;refine step_pushS rfl (.tmp 23) (.tmp 29) 78 rfl S4.out 2 rfl Tryd.underlying78 _ 40 prInfo rfl (by decide) rfl ⟨sa,sb,none,0,0⟩ nnw rfl rfl (fun j u hj => (BlkAt.cell (S4.out.get 0 rfl) j).trans hj) (prOne _) (by simp) (by decide) ?_;intro Araw5 craw5 w5 S5' _;have S5 := ckR S5';clear S5';refine hK.out _ _ (S5.out.pick [4,5] (by decide)) fun hH => ?_;clear hK K;(try simp only [sx]);refine tkP 8 rfl (v := ?_) hH ?_;(try simp only [sx]);refine wpAnyH_done (by kernel_rfl) ?_ _
    have h1 : Sep w.heap.size w [eInts [] (.slice none 0 0),eWds [] [] [],eOwn PrV.cells 3 82 ([] ++ [⟨sa,sb,none,0,0⟩]) (.slice Araw5 (([]).length + 1) craw5),eInts ul (.slice AL ul.length cL),eBlk (w.heap.size + 1) 35 [.slice B1 bl.length d1,.int .i64 k,.slice B2 ms.length d2,.slice B3 es.length d3],eBlk w.heap.size 35 [.slice A1 al.length c1,.int .i64 n,.slice A2 mr.length c2,.slice A3 ed.length c3]] w5 := (S5.out.nilOwn encI 1 3).pick [0,2,3,4,5,6] (by decide);have h2 := Lib.hid (Sep.wdsPush (wd := []) (A := none) (c := 0) h1 sa sb);clear h1;go_wp2_with fail
    go_meet
    exact ⟨[⟨sa,sb,none,0,0⟩],Araw5,craw5,[],rfl,h2.out⟩
   case rest =>
    clear S4;obtain ⟨raw0,AR0,cR0,fs0,rfl,S5⟩ := hcut;go_wp2_with fail
    go_loopw [6,7,8,9,10,11] (fun v x _ _ _ _ wr => ∃ (i : Nat) (raw : List PrV) (l : List Pr) (AR : Option Addr) (cR : Nat) (fs : List Nat),x = .int .i64 ↑i ∧ v = .slice AR raw.length cR ∧ i ≤ raw.length ∧ raw.length ≤ N ∧ Hid (raw.length = l.length) ∧ Hid (PBfs ⟨al,n,mr,ed⟩ ⟨bl,k,ms,es⟩ ul i 0 l) ∧ (SepW w [eWds fs raw l,eOwn PrV.cells 3 82 raw (.slice AR raw.length cR),eInts ul (.slice AL ul.length cL),eBlk (w.heap.size + 1) 35 [.slice B1 bl.length d1,.int .i64 k,.slice B2 ms.length d2,.slice B3 es.length d3],eBlk w.heap.size 35 [.slice A1 al.length c1,.int .i64 n,.slice A2 mr.length c2,.slice A3 ed.length c3]] wr)) (fun _ x _ _ _ _ _ => N - (intOf x).toNat)
    case atStart => exact ⟨0,raw0,[⟨sa,sb,[]⟩],AR0,cR0,fs0,rfl,rfl,Nat.zero_le _,by rw [(S5.out.get 0 rfl).1,← HNE.out]; exact Nat.mul_pos (Nat.succ_pos _) (Nat.succ_pos _),(S5.out.get 0 rfl).1,P0.out,S5.out⟩
    case round =>
     clear S5;obtain ⟨i,raw,l,AR,cR,fs,rfl,rfl,hi,hlN,hrl,PB,S⟩ := hrel;by_cases hlt : i < raw.length
     · go_wp2_with fail
       go_loopw [6,8,9,10,11] (fun v x _ _ _ wr => ∃ (t : Nat) (raw : List PrV) (l : List Pr) (AR : Option Addr) (cR : Nat) (fs : List Nat),x = .int .i64 ↑t ∧ v = .slice AR raw.length cR ∧ i < raw.length ∧ raw.length ≤ N ∧ Hid (raw.length = l.length) ∧ t ≤ ul.length ∧ Hid (PBfs ⟨al,n,mr,ed⟩ ⟨bl,k,ms,es⟩ ul i t l) ∧ (SepW w [eWds fs raw l,eOwn PrV.cells 3 82 raw (.slice AR raw.length cR),eInts ul (.slice AL ul.length cL),eBlk (w.heap.size + 1) 35 [.slice B1 bl.length d1,.int .i64 k,.slice B2 ms.length d2,.slice B3 es.length d3],eBlk w.heap.size 35 [.slice A1 al.length c1,.int .i64 n,.slice A2 mr.length c2,.slice A3 ed.length c3]] wr)) (fun _ x _ _ _ _ => ul.length - (intOf x).toNat)
       case atStart => exact ⟨0,raw,l,AR,cR,fs,rfl,rfl,hlt,hlN,hrl,Nat.zero_le _,PB.out,S.out⟩
       case round =>
        clear PB S hrl hlN hlt hi;obtain ⟨t,raw,l,AR,cR,fs,rfl,rfl,hlt,hlN,hrl,ht,PB,S⟩ := hrel;by_cases htl : t < ul.length
        · obtain ⟨gR,oR,r,rfl,hr⟩ := S.out.prs 1 rfl hlt;obtain ⟨gL,oL,e,rfl,_,he,_⟩ := IntsAt.at (S.out.ints 2 rfl) htl;obtain ⟨p,hp⟩ : ∃ p,l[i]? = some p := ⟨_,List.getElem?_eq_getElem (by rw [← hrl.out]; exact hlt)⟩;obtain ⟨rx,ry,hwn,hwd⟩ := (S.out.get 0 rfl).2.2 i r p hr hp;obtain ⟨rX,rY,rA,rn_,rc⟩ := r;dsimp only at rx ry hwn hwd;subst rx ry hwn;obtain ⟨tx,htx⟩ : ∃ t,toV (stepOf ed) p.x e = t := ⟨_,rfl⟩;obtain ⟨ty,hty⟩ : ∃ t,toV (stepOf es) p.y e = t := ⟨_,rfl⟩;have HTX := Lib.hid htx;have HTY := Lib.hid hty;have HST : Hid (stp2 ⟨al,n,mr,ed⟩ ⟨bl,k,ms,es⟩ p.pr e = (tx,ty)) := by rw [← htx,← hty]; rfl
          have CX := Lib.hid (HRA.out.to_cases p.x e);have CY := Lib.hid (HRB.out.to_cases p.y e);dsimp only at CX CY;rw [htx] at CX;rw [hty] at CY;have hpw := PB.out.word hp;clear htx hty;have S5 := S;clear S;go_upto_region 11 with fail
          go_cut [9,10] (fun x y wx => x = .int .i64 tx ∧ y = .int .i64 ty ∧ (SepW w [eWds fs raw l,eOwn PrV.cells 3 82 raw (.slice (some ⟨gR,oR,none⟩) raw.length cR),eInts ul (.slice (some ⟨gL,oL,none⟩) ul.length cL),eBlk (w.heap.size + 1) 35 [.slice B1 bl.length d1,.int .i64 k,.slice B2 ms.length d2,.slice B3 es.length d3],eBlk w.heap.size 35 [.slice A1 al.length c1,.int .i64 n,.slice A2 mr.length c2,.slice A3 ed.length c3]] wx))
          case first =>
           have S6 := Lib.hid S5.out.drew;refine wp_region_held_drew (S := (fun V => Sep w.heap.size w [eOwn PrV.cells 3 82 raw (.slice (some ⟨gR,oR,none⟩) raw.length cR),eInts ul (.slice (some ⟨gL,oL,none⟩) ul.length cL),eBlk (w.heap.size + 1) 35 [.slice B1 bl.length d1,.int .i64 k,.slice B2 ms.length d2,.slice B3 es.length d3],eBlk w.heap.size 35 [.slice A1 al.length c1,.int .i64 n,.slice A2 mr.length c2,.slice A3 ed.length c3]] V)) (by kernel_rfl) ?_ (fun hH => ?_)
           · exact S6.out.pick [1,2,3,4] (by decide)
           generalize hwz : wr.drew = w6 at *;clear hwz;refine tkH 0 rfl (v := ?_) (by kernel_rfl) ?_ hH ?_;rotate_left
           · intro V hs_;have a0 := ckC hs_ 3 rfl 0 rfl;have a1 := ckC hs_ 3 rfl 1 rfl;have a2 := ckC hs_ 3 rfl 2 rfl;have a3 := ckC hs_ 3 rfl 3 rfl;clear hs_;first | (go_simp; done) | (go_simp; with_reducible rfl)
           (try simp only [sx]);refine tkP 1 rfl (v := ?_) hH ?_;(try simp only [sx]);refine tkP 2 rfl (v := ?_) hH ?_;(try simp only [sx]);refine tkP 3 rfl (v := ?_) hH ?_;(try simp only [sx]);refine tkP 4 rfl (v := ?_) hH ?_;(try simp only [sx]);refine tkH 5 rfl (v := ?_) (by kernel_rfl) ?_ hH ?_;rotate_left
           · intro V hs_;have b0 := (Sep.prAt (show Sep w.heap.size w _ V from hs_) 0 rfl hr).1;clear hs_;first | (go_simp; done) | (go_simp; with_reducible rfl)
           (try simp only [sx]);refine tkP 6 rfl (v := ?_) hH ?_;(try simp only [sx]);refine tkP 7 rfl (v := ?_) hH ?_;(try simp only [sx]);refine tkP 8 rfl (v := ?_) hH ?_;(try simp only [sx]);refine tkH 9 rfl (v := ?_) (by kernel_rfl) ?_ hH ?_;rotate_left
           · intro V hs_;have bl := Sep.intAt (show Sep w.heap.size w _ V from hs_) 1 rfl he;clear hs_;first | (go_simp; done) | (go_simp; with_reducible rfl)
           (try simp only [sx]);refine tkH 11 rfl (v := ?_) (by kernel_rfl) ?_ hH ?_;rotate_left
           · intro V hs_;have b0 := ckC hs_ 2 rfl 0 rfl;have b1 := ckC hs_ 2 rfl 1 rfl;have b2 := ckC hs_ 2 rfl 2 rfl;have b3 := ckC hs_ 2 rfl 3 rfl;clear hs_;first | (go_simp; done) | (go_simp; with_reducible rfl)
           (try simp only [sx]);refine tkP 12 rfl (v := ?_) hH ?_;(try simp only [sx]);refine tkP 13 rfl (v := ?_) hH ?_;(try simp only [sx]);refine tkP 14 rfl (v := ?_) hH ?_;(try simp only [sx]);refine tkP 15 rfl (v := ?_) hH ?_;(try simp only [sx]);refine tkH 16 rfl (v := ?_) (by kernel_rfl) ?_ hH ?_;rotate_left
           · intro V hs_;have b1 := (Sep.prAt (show Sep w.heap.size w _ V from hs_) 0 rfl hr).2.1;clear hs_;first | (go_simp; done) | (go_simp; with_reducible rfl)
           (try simp only [sx]);refine tkP 17 rfl (v := ?_) hH ?_;(try simp only [sx]);refine tkP 18 rfl (v := ?_) hH ?_;(try simp only [sx]);refine tkP 19 rfl (v := ?_) hH ?_;(try simp only [sx]);refine tkH 20 rfl (v := ?_) (by kernel_rfl) ?_ hH ?_;rotate_left
           · intro V hs_;have bl := Sep.intAt (show Sep w.heap.size w _ V from hs_) 1 rfl he;clear hs_;first | (go_simp; done) | (go_simp; with_reducible rfl)
           (try simp only [sx]);refine rdH 10 rfl fun K hK => ?_;go_simp;refine (step9_e ⟨al,n,mr,ed⟩ ⟨A1,c1,A2,c2,A3,c3⟩ p.x e tx w6 HRA.out (HA.out.below S6.out.below).ed HA.out.led HTX.out).mono ?_;rintro e w7 ⟨rfl,hb⟩;have S7 := Lib.hid (S6.out.next hb);clear hb;refine hK.out _ _ (S7.out.pick [1,2,3,4] (by decide)) fun hH => ?_;clear hK K;(try simp only [sx]);refine rdH 21 rfl fun K hK => ?_;go_simp;refine (step9_e ⟨bl,k,ms,es⟩ ⟨B1,d1,B2,d2,B3,d3⟩ p.y e ty w7 HRB.out (HB.out.below S7.out.below).ed HB.out.led HTY.out).mono ?_;rintro e w8 ⟨rfl,hb⟩;have S8 := Lib.hid (S7.out.next hb);clear hb;refine hK.out _ _ (S8.out.pick [1,2,3,4] (by decide)) fun hH => ?_;clear hK K;(try simp only [sx]);refine tkP 22 rfl (v := ?_) hH ?_;(try simp only [sx]);refine tkP 23 rfl (v := ?_) hH ?_;(try simp only [sx]);refine wpAnyH_done (by kernel_rfl) ?_ _;go_wp2_with fail
           go_meet
           exact ⟨rfl,rfl,S8.out⟩
          case rest =>
           clear S5;obtain ⟨rfl,rfl,S5⟩ := hcut;have HP := Lib.hid (PrsAt.of S5.out 0 1 rfl rfl (fun p hp' => by obtain ⟨j,hj,rfl⟩ := List.mem_iff_getElem.1 hp'; have := PB.out.word (List.getElem?_eq_getElem hj); have := hrl.out; omega));by_cases hneg : tx < 0 ∧ ty < 0
           · obtain ⟨hx0,hy0⟩ := hneg;clear HP;have PB2 : Hid (PBfs ⟨al,n,mr,ed⟩ ⟨bl,k,ms,es⟩ ul i (t + 1) l) := PB.out.skip HUO.out.incr hp he (.inl (by rw [HST.out]; rcases CX.out with h | h <;> rcases CY.out with g | g <;> first | rw [h,g] | omega));clear PB;go_wp2_with fail
             go_roundw
             case rel => exact ⟨t + 1,raw,l,_,cR,fs,by go_num,rfl,hlt,hlN,hrl.out,by omega,PB2.out,S5.out⟩
             case measure => simp [intOf]; omega
           · have hneg2 : (tx < 0) = True ∧ (ty < 0) = False ∨ (tx < 0) = False := by
              by_cases h1 : tx < 0
              · exact .inl ⟨eq_true h1,eq_false (fun h2 => hneg ⟨h1,h2⟩)⟩
              · exact .inr (eq_false h1)
             have hst : ¬ stp2 ⟨al,n,mr,ed⟩ ⟨bl,k,ms,es⟩ p.pr e = (-1,-1) := fun h => by
              have h' := HST.out.symm.trans h;obtain ⟨h1,h2⟩ := Prod.mk.inj h';exact hneg ⟨by omega,by omega⟩
             have HS2 := Lib.hid hst;have FD := Lib.hid (find9_c (some ⟨gR,oR,none⟩) cR l tx ty wc HP.out (by have := hrl.out; omega));rw [← hrl.out] at FD;clear hneg hst HP;rcases hneg2 with ⟨h1,h2⟩ | h1
             all_goals
              go_wp2_with fail
              refine FD.out.mono ?_;rintro e' w6 ⟨rr,rfl,HF,rfl⟩;by_cases hr0 : 0 ≤ rr
              · have hr0' : decide (rr ≥ 0) = true := by simpa using hr0
                have PB2 : Hid (PBfs ⟨al,n,mr,ed⟩ ⟨bl,k,ms,es⟩ ul i (t + 1) l) := PB.out.skip HUO.out.incr hp he (.inr (by
                 rcases HF.out with ⟨h,_⟩ | ⟨j,_,h⟩
                 · omega
                 · rw [HST.out]; exact List.mem_of_getElem? h))
                clear PB HF FD;go_wp2_with fail
                go_roundw
                case rel => exact ⟨t + 1,raw,l,_,cR,fs,by go_num,rfl,hlt,hlN,hrl.out,by omega,PB2.out,S5.out⟩
                case measure => simp [intOf]; omega
              · have hr0' : decide (rr ≥ 0) = false := by simpa using hr0
                have PB2 : Hid (PBfs ⟨al,n,mr,ed⟩ ⟨bl,k,ms,es⟩ ul i (t + 1) (l ++ [⟨tx,ty,p.w ++ [e]⟩])) := by
                 have h := PB.out.push HRA.out HRB.out HUO.out.incr hp he HS2.out (by
                  rcases HF.out with ⟨_,h⟩ | ⟨j,h,_⟩
                  · rw [HST.out]; exact h
                  · omega)
                 rw [HST.out] at h;exact h
                clear PB HF FD;have hpl : p.w.length ≤ 1000000 := by omega
                go_upto_region 13 with fail
                go_cut [11] (fun v wx => ∃ (AW : Option Addr) (cW : Nat),v = .slice AW (p.w.length + 1) cW ∧ (SepW w [eInts (p.w ++ [e]) (.slice AW (p.w.length + 1) cW),eWds fs raw l,eOwn PrV.cells 3 82 raw (.slice (some ⟨gR,oR,none⟩) raw.length cR),eInts ul (.slice (some ⟨gL,oL,none⟩) ul.length cL),eBlk (w.heap.size + 1) 35 [.slice B1 bl.length d1,.int .i64 k,.slice B2 ms.length d2,.slice B3 es.length d3],eBlk w.heap.size 35 [.slice A1 al.length c1,.int .i64 n,.slice A2 mr.length c2,.slice A3 ed.length c3]] wx))
                case first =>
                 rcases hwd with ⟨rfl,hw0,rfl⟩ | ⟨gW,rfl,_,_⟩
                 · have hw1 : p.w.length = 0 := by rw [hw0]; rfl
                   have HW0 := Lib.hid hw0;clear hw0;have S9 := Lib.hid S5.out.drew;refine wp_region_held_drew (S := (fun V => Sep w.heap.size w [eOwn PrV.cells 3 82 raw (.slice (some ⟨gR,oR,none⟩) raw.length cR),eInts ul (.slice (some ⟨gL,oL,none⟩) ul.length cL)] V)) (by kernel_rfl) ?_ (fun hH => ?_)
                   · exact S9.out.pick [1,2] (by decide)
                   generalize hwz : wc.drew = w9 at *;clear hwz;refine tkP 1 rfl (v := ?_) hH ?_;(try simp only [sx]);refine tkP 2 rfl (v := ?_) hH ?_;(try simp only [sx]);refine tkP 3 rfl (v := ?_) hH ?_;(try simp only [sx]);refine tkP 4 rfl (v := ?_) hH ?_;(try simp only [sx]);refine tkH 5 rfl (v := ?_) (by kernel_rfl) ?_ hH ?_;rotate_left
                   · intro V hs_;have b2 := (Sep.prAt (show Sep w.heap.size w _ V from hs_) 0 rfl hr).2.2;clear hs_;first | (go_simp; done) | (go_simp; with_reducible rfl)
                   (try simp only [sx]);refine tkP 7 rfl (v := ?_) hH ?_;(try simp only [sx]);refine tkP 8 rfl (v := ?_) hH ?_;(try simp only [sx]);refine tkP 9 rfl (v := ?_) hH ?_;(try simp only [sx]);refine tkH 10 rfl (v := ?_) (by kernel_rfl) ?_ hH ?_;rotate_left
                   · intro V hs_;have bl := Sep.intAt (show Sep w.heap.size w _ V from hs_) 1 rfl he;clear hs_;first | (go_simp; done) | (go_simp; with_reducible rfl)
                   (try simp only [sx]);refine wpAnyH_ready (rs := [0,11]) (by kernel_rfl) (by simp) ?_;refine AllReadyH.cons rfl (fun K hK => ?_) (AllReadyH.cons rfl (fun K hK => ?_) AllReadyH.nil)
                   · skip;go_simp;obtain ⟨nnb,hnnb⟩ : ∃ n,n = w9.heap.size := ⟨_,rfl⟩;obtain ⟨w10,hw10⟩ : ∃ v,v = w9.alloc (.cells #[] 3) := ⟨_,rfl⟩;rw [← hw10,← hnnb];have S10 := ckA S9.out hw10 hnnb;skip;clear hw10 hnnb;have S11 : (SepW w [eInts [] (.slice (some ⟨nnb,0,none⟩) 0 0),eWds fs raw l,eOwn PrV.cells 3 82 raw (.slice (some ⟨gR,oR,none⟩) raw.length cR),eInts ul (.slice (some ⟨gL,oL,none⟩) ul.length cL),eBlk (w.heap.size + 1) 35 [.slice B1 bl.length d1,.int .i64 k,.slice B2 ms.length d2,.slice B3 es.length d3],eBlk w.heap.size 35 [.slice A1 al.length c1,.int .i64 n,.slice A2 mr.length c2,.slice A3 ed.length c3]] w10) := S10.out.own 0 rfl encI 1 [] rfl (fun _ => rfl) (by simp);clear S10;refine hK.out _ _ (S11.out.pick [2,3] (by decide)) fun hH => ?_;clear hK K;(try simp only [sx]);refine wpAnyH_ready (rs := [6,11]) (by kernel_rfl) (by simp) ?_;refine AllReadyH.cons rfl (fun K hK => ?_) (AllReadyH.cons rfl (fun K hK => ?_) AllReadyH.nil)
                     · skip;go_simp;refine hK.out _ _ (S11.out.pick [2,3] (by decide)) fun hH => ?_;clear hK K;(try simp only [sx]);refine rdH 11 rfl fun K hK => ?_;go_simp;obtain ⟨nne,hnne⟩ : ∃ n,n = w10.heap.size := ⟨_,rfl⟩;obtain ⟨w12,hw12⟩ : ∃ v,v = w10.alloc (.cells #[.int .i64 e] 3) := ⟨_,rfl⟩;rw [← hw12,← hnne];have S12 := ckA S11.out hw12 hnne;skip;clear hw12 hnne;refine hK.out _ _ (S12.out.pick [3,4] (by decide)) fun hH => ?_;clear hK K;(try simp only [sx]);refine rdH 12 rfl fun K hK => ?_;refine step_pushS rfl (.tmp 84) (.tmp 89) 32 rfl S12.out 1 rfl Tryd.underlying32 _ 8 intInfo rfl (by decide) rfl e nne rfl rfl (fun j u hj => (BlkAt.cell (S12.out.get 0 rfl) j).trans hj) (encI_one _) (by simp) (by decide) ?_;intro AW13 cW13 w13 S13' _;have S13 := ckR S13';clear S13';refine hK.out _ _ (S13.out.pick [3,4] (by decide)) fun hH => ?_;clear hK K;(try simp only [sx]);refine tkP 13 rfl (v := ?_) hH ?_;(try simp only [sx]);refine wpAnyH_done (by kernel_rfl) ?_ _;go_wp2_with fail
                       go_meet
                       exact ⟨AW13,cW13,by rw [HW0.out]; rfl,by have h := S13.out.pick [1,2,3,4,5,6] (by decide); rw [HW0.out]; exact h⟩
                     · skip;go_simp;obtain ⟨nne,hnne⟩ : ∃ n,n = w10.heap.size := ⟨_,rfl⟩;obtain ⟨w14,hw14⟩ : ∃ v,v = w10.alloc (.cells #[.int .i64 e] 3) := ⟨_,rfl⟩;rw [← hw14,← hnne];have S14 := ckA S11.out hw14 hnne;skip;clear hw14 hnne;refine hK.out _ _ (S14.out.pick [3,4] (by decide)) fun hH => ?_;clear hK K;(try simp only [sx]);refine rdH 6 rfl fun K hK => ?_;go_simp;refine hK.out _ _ (S14.out.pick [3,4] (by decide)) fun hH => ?_;clear hK K;(try simp only [sx]);refine rdH 12 rfl fun K hK => ?_;refine step_pushS rfl (.tmp 84) (.tmp 89) 32 rfl S14.out 1 rfl Tryd.underlying32 _ 8 intInfo rfl (by decide) rfl e nne rfl rfl (fun j u hj => (BlkAt.cell (S14.out.get 0 rfl) j).trans hj) (encI_one _) (by simp) (by decide) ?_;intro AW15 cW15 w15 S15' _;have S15 := ckR S15';clear S15';refine hK.out _ _ (S15.out.pick [3,4] (by decide)) fun hH => ?_;clear hK K;(try simp only [sx]);refine tkP 13 rfl (v := ?_) hH ?_;(try simp only [sx]);refine wpAnyH_done (by kernel_rfl) ?_ _;go_wp2_with fail
                       go_meet
                       exact ⟨AW15,cW15,by rw [HW0.out]; rfl,by have h := S15.out.pick [1,2,3,4,5,6] (by decide); rw [HW0.out]; exact h⟩
                   · skip;go_simp;obtain ⟨nne,hnne⟩ : ∃ n,n = w9.heap.size := ⟨_,rfl⟩;obtain ⟨w16,hw16⟩ : ∃ v,v = w9.alloc (.cells #[.int .i64 e] 3) := ⟨_,rfl⟩;rw [← hw16,← hnne];have S16 := ckA S9.out hw16 hnne;skip;clear hw16 hnne;refine hK.out _ _ (S16.out.pick [2,3] (by decide)) fun hH => ?_;clear hK K;(try simp only [sx]);refine rdH 0 rfl fun K hK => ?_;go_simp;obtain ⟨nnb,hnnb⟩ : ∃ n,n = w16.heap.size := ⟨_,rfl⟩;obtain ⟨w17,hw17⟩ : ∃ v,v = w16.alloc (.cells #[] 3) := ⟨_,rfl⟩;rw [← hw17,← hnnb];have S17 := ckA S16.out hw17 hnnb;skip;clear hw17 hnnb;have S18 : (SepW w [eInts [] (.slice (some ⟨nnb,0,none⟩) 0 0),eBlk nne 3 [.int .i64 e],eWds fs raw l,eOwn PrV.cells 3 82 raw (.slice (some ⟨gR,oR,none⟩) raw.length cR),eInts ul (.slice (some ⟨gL,oL,none⟩) ul.length cL),eBlk (w.heap.size + 1) 35 [.slice B1 bl.length d1,.int .i64 k,.slice B2 ms.length d2,.slice B3 es.length d3],eBlk w.heap.size 35 [.slice A1 al.length c1,.int .i64 n,.slice A2 mr.length c2,.slice A3 ed.length c3]] w17) := S17.out.own 0 rfl encI 1 [] rfl (fun _ => rfl) (by simp);clear S17;refine hK.out _ _ (S18.out.pick [3,4] (by decide)) fun hH => ?_;clear hK K;(try simp only [sx]);refine rdH 6 rfl fun K hK => ?_;go_simp;refine hK.out _ _ (S18.out.pick [3,4] (by decide)) fun hH => ?_;clear hK K;(try simp only [sx]);refine rdH 12 rfl fun K hK => ?_
                     refine step_pushS rfl (.tmp 84) (.tmp 89) 32 rfl S18.out 0 rfl Tryd.underlying32 _ 8 intInfo rfl (by decide) rfl e nne rfl rfl (fun j u hj => (BlkAt.cell (S18.out.get 1 rfl) j).trans hj) (encI_one _) (by simp) (by decide) ?_;intro AW19 cW19 w19 S19' _;have S19 := ckR S19';clear S19';refine hK.out _ _ (S19.out.pick [3,4] (by decide)) fun hH => ?_;clear hK K;(try simp only [sx]);refine tkP 13 rfl (v := ?_) hH ?_;(try simp only [sx]);refine wpAnyH_done (by kernel_rfl) ?_ _;go_wp2_with fail
                     go_meet
                     exact ⟨AW19,cW19,by rw [HW0.out]; rfl,by have h := S19.out.pick [0,2,3,4,5,6] (by decide); rw [HW0.out]; exact h⟩
                 · skip;have S20 := Lib.hid S5.out.drew;refine wp_region_held_drew (S := (fun V => Sep w.heap.size w [eOwn PrV.cells 3 82 raw (.slice (some ⟨gR,oR,none⟩) raw.length cR),eInts ul (.slice (some ⟨gL,oL,none⟩) ul.length cL)] V)) (by kernel_rfl) ?_ (fun hH => ?_)
                   · exact S20.out.pick [1,2] (by decide)
                   generalize hwz : wc.drew = w20 at *;clear hwz;refine tkP 1 rfl (v := ?_) hH ?_;(try simp only [sx]);refine tkP 2 rfl (v := ?_) hH ?_;(try simp only [sx]);refine tkP 3 rfl (v := ?_) hH ?_;(try simp only [sx]);refine tkP 4 rfl (v := ?_) hH ?_;(try simp only [sx]);refine tkH 5 rfl (v := ?_) (by kernel_rfl) ?_ hH ?_;rotate_left
                   · intro V hs_;have b2 := (Sep.prAt (show Sep w.heap.size w _ V from hs_) 0 rfl hr).2.2;clear hs_;first | (go_simp; done) | (go_simp; with_reducible rfl)
                   (try simp only [sx]);refine tkP 7 rfl (v := ?_) hH ?_;(try simp only [sx]);refine tkP 8 rfl (v := ?_) hH ?_;(try simp only [sx]);refine tkP 9 rfl (v := ?_) hH ?_;(try simp only [sx]);refine tkH 10 rfl (v := ?_) (by kernel_rfl) ?_ hH ?_;rotate_left
                   · intro V hs_;have bl := Sep.intAt (show Sep w.heap.size w _ V from hs_) 1 rfl he;clear hs_;first | (go_simp; done) | (go_simp; with_reducible rfl)
                   (try simp only [sx]);refine wpAnyH_ready (rs := [0,11]) (by kernel_rfl) (by simp) ?_;refine AllReadyH.cons rfl (fun K hK => ?_) (AllReadyH.cons rfl (fun K hK => ?_) AllReadyH.nil)
                   · skip;go_simp;obtain ⟨nnb,hnnb⟩ : ∃ n,n = w20.heap.size := ⟨_,rfl⟩;obtain ⟨w21,hw21⟩ : ∃ v,v = w20.alloc (.cells #[] 3) := ⟨_,rfl⟩;rw [← hw21,← hnnb];have S21 := ckA S20.out hw21 hnnb;skip;clear hw21 hnnb;have S22 : (SepW w [eInts [] (.slice (some ⟨nnb,0,none⟩) 0 0),eWds fs raw l,eOwn PrV.cells 3 82 raw (.slice (some ⟨gR,oR,none⟩) raw.length cR),eInts ul (.slice (some ⟨gL,oL,none⟩) ul.length cL),eBlk (w.heap.size + 1) 35 [.slice B1 bl.length d1,.int .i64 k,.slice B2 ms.length d2,.slice B3 es.length d3],eBlk w.heap.size 35 [.slice A1 al.length c1,.int .i64 n,.slice A2 mr.length c2,.slice A3 ed.length c3]] w21) := S21.out.own 0 rfl encI 1 [] rfl (fun _ => rfl) (by simp);clear S21;refine hK.out _ _ (S22.out.pick [2,3] (by decide)) fun hH => ?_;clear hK K;(try simp only [sx]);refine wpAnyH_ready (rs := [6,11]) (by kernel_rfl) (by simp) ?_;refine AllReadyH.cons rfl (fun K hK => ?_) (AllReadyH.cons rfl (fun K hK => ?_) AllReadyH.nil)
                     · skip;refine step_pushNS rfl (.tmp 78) (.tmp 83) 32 rfl S22.out 0 rfl Tryd.underlying32 _ 8 intInfo rfl (by decide) rfl p.w gW _ rfl (fun _ => rfl) (S22.out.wdCells 1 rfl hr hp) encI_one (by simp; omega) (by decide) ?_;intro AW23 cW23 w23 S23' _;have S23 : (SepW w [eInts p.w (.slice AW23 p.w.length cW23),eWds fs raw l,eOwn PrV.cells 3 82 raw (.slice (some ⟨gR,oR,none⟩) raw.length cR),eInts ul (.slice (some ⟨gL,oL,none⟩) ul.length cL),eBlk (w.heap.size + 1) 35 [.slice B1 bl.length d1,.int .i64 k,.slice B2 ms.length d2,.slice B3 es.length d3],eBlk w.heap.size 35 [.slice A1 al.length c1,.int .i64 n,.slice A2 mr.length c2,.slice A3 ed.length c3]] w23) := by have h := S23'; simp only [List.nil_append,List.length_nil,Nat.zero_add] at h; exact h
                       clear S23';simp only [List.length_nil,Nat.zero_add];refine hK.out _ _ (S23.out.pick [2,3] (by decide)) fun hH => ?_;clear hK K;(try simp only [sx]);refine rdH 11 rfl fun K hK => ?_;go_simp;obtain ⟨nne,hnne⟩ : ∃ n,n = w23.heap.size := ⟨_,rfl⟩;obtain ⟨w24,hw24⟩ : ∃ v,v = w23.alloc (.cells #[.int .i64 e] 3) := ⟨_,rfl⟩;rw [← hw24,← hnne];have S24 := ckA S23.out hw24 hnne;skip;clear hw24 hnne;refine hK.out _ _ (S24.out.pick [3,4] (by decide)) fun hH => ?_;clear hK K;(try simp only [sx]);refine rdH 12 rfl fun K hK => ?_;refine step_pushS rfl (.tmp 84) (.tmp 89) 32 rfl S24.out 1 rfl Tryd.underlying32 _ 8 intInfo rfl (by decide) rfl e nne rfl rfl (fun j u hj => (BlkAt.cell (S24.out.get 0 rfl) j).trans hj) (encI_one _) (by omega) (by decide) ?_;intro AW25 cW25 w25 S25' _;have S25 := ckR S25';clear S25';refine hK.out _ _ (S25.out.pick [3,4] (by decide)) fun hH => ?_;clear hK K;(try simp only [sx]);refine tkP 13 rfl (v := ?_) hH ?_;(try simp only [sx]);refine wpAnyH_done (by kernel_rfl) ?_ _;go_wp2_with fail
                       go_meet
                       exact ⟨AW25,cW25,by simp,by have h := S25.out.pick [1,2,3,4,5,6] (by decide); simpa [Hid] using h⟩
                     · skip;go_simp;obtain ⟨nne,hnne⟩ : ∃ n,n = w21.heap.size := ⟨_,rfl⟩;obtain ⟨w26,hw26⟩ : ∃ v,v = w21.alloc (.cells #[.int .i64 e] 3) := ⟨_,rfl⟩;rw [← hw26,← hnne];have S26 := ckA S22.out hw26 hnne;skip;clear hw26 hnne;refine hK.out _ _ (S26.out.pick [3,4] (by decide)) fun hH => ?_;clear hK K;(try simp only [sx]);refine rdH 6 rfl fun K hK => ?_;refine step_pushNS rfl (.tmp 78) (.tmp 83) 32 rfl S26.out 1 rfl Tryd.underlying32 _ 8 intInfo rfl (by decide) rfl p.w gW _ rfl (fun _ => rfl) (S26.out.wdCells 2 rfl hr hp) encI_one (by simp; omega) (by decide) ?_;intro AW27 cW27 w27 S27' _;have S27 : (SepW w [eBlk nne 3 [.int .i64 e],eInts p.w (.slice AW27 p.w.length cW27),eWds fs raw l,eOwn PrV.cells 3 82 raw (.slice (some ⟨gR,oR,none⟩) raw.length cR),eInts ul (.slice (some ⟨gL,oL,none⟩) ul.length cL),eBlk (w.heap.size + 1) 35 [.slice B1 bl.length d1,.int .i64 k,.slice B2 ms.length d2,.slice B3 es.length d3],eBlk w.heap.size 35 [.slice A1 al.length c1,.int .i64 n,.slice A2 mr.length c2,.slice A3 ed.length c3]] w27) := by have h := S27'; simp only [List.nil_append,List.length_nil,Nat.zero_add] at h; exact h
                       clear S27';simp only [List.length_nil,Nat.zero_add];refine hK.out _ _ (S27.out.pick [3,4] (by decide)) fun hH => ?_;clear hK K;(try simp only [sx]);refine rdH 12 rfl fun K hK => ?_;refine step_pushS rfl (.tmp 84) (.tmp 89) 32 rfl S27.out 1 rfl Tryd.underlying32 _ 8 intInfo rfl (by decide) rfl e nne rfl rfl (fun j u hj => (BlkAt.cell (S27.out.get 0 rfl) j).trans hj) (encI_one _) (by omega) (by decide) ?_;intro AW28 cW28 w28 S28' _;have S28 := ckR S28';clear S28';refine hK.out _ _ (S28.out.pick [3,4] (by decide)) fun hH => ?_;clear hK K;(try simp only [sx]);refine tkP 13 rfl (v := ?_) hH ?_;(try simp only [sx]);refine wpAnyH_done (by kernel_rfl) ?_ _;go_wp2_with fail
                       go_meet
                       exact ⟨AW28,cW28,by simp,by have h := S28.out.pick [1,2,3,4,5,6] (by decide); simpa [Hid] using h⟩
                   · skip;go_simp;obtain ⟨nne,hnne⟩ : ∃ n,n = w20.heap.size := ⟨_,rfl⟩;obtain ⟨w29,hw29⟩ : ∃ v,v = w20.alloc (.cells #[.int .i64 e] 3) := ⟨_,rfl⟩;rw [← hw29,← hnne];have S29 := ckA S20.out hw29 hnne;skip;clear hw29 hnne;refine hK.out _ _ (S29.out.pick [2,3] (by decide)) fun hH => ?_;clear hK K;(try simp only [sx]);refine rdH 0 rfl fun K hK => ?_;go_simp;obtain ⟨nnb,hnnb⟩ : ∃ n,n = w29.heap.size := ⟨_,rfl⟩;obtain ⟨w30,hw30⟩ : ∃ v,v = w29.alloc (.cells #[] 3) := ⟨_,rfl⟩;rw [← hw30,← hnnb];have S30 := ckA S29.out hw30 hnnb;skip;clear hw30 hnnb;have S31 : (SepW w [eInts [] (.slice (some ⟨nnb,0,none⟩) 0 0),eBlk nne 3 [.int .i64 e],eWds fs raw l,eOwn PrV.cells 3 82 raw (.slice (some ⟨gR,oR,none⟩) raw.length cR),eInts ul (.slice (some ⟨gL,oL,none⟩) ul.length cL),eBlk (w.heap.size + 1) 35 [.slice B1 bl.length d1,.int .i64 k,.slice B2 ms.length d2,.slice B3 es.length d3],eBlk w.heap.size 35 [.slice A1 al.length c1,.int .i64 n,.slice A2 mr.length c2,.slice A3 ed.length c3]] w30) := S30.out.own 0 rfl encI 1 [] rfl (fun _ => rfl) (by simp);clear S30;refine hK.out _ _ (S31.out.pick [3,4] (by decide)) fun hH => ?_;clear hK K;(try simp only [sx]);refine rdH 6 rfl fun K hK => ?_;refine step_pushNS rfl (.tmp 78) (.tmp 83) 32 rfl S31.out 0 rfl Tryd.underlying32 _ 8 intInfo rfl (by decide) rfl p.w gW _ rfl (fun _ => rfl) (S31.out.wdCells 2 rfl hr hp) encI_one (by simp; omega) (by decide) ?_;intro AW32 cW32 w32 S32' _
                     have S32 : (SepW w [eInts p.w (.slice AW32 p.w.length cW32),eBlk nne 3 [.int .i64 e],eWds fs raw l,eOwn PrV.cells 3 82 raw (.slice (some ⟨gR,oR,none⟩) raw.length cR),eInts ul (.slice (some ⟨gL,oL,none⟩) ul.length cL),eBlk (w.heap.size + 1) 35 [.slice B1 bl.length d1,.int .i64 k,.slice B2 ms.length d2,.slice B3 es.length d3],eBlk w.heap.size 35 [.slice A1 al.length c1,.int .i64 n,.slice A2 mr.length c2,.slice A3 ed.length c3]] w32) := by have h := S32'; simp only [List.nil_append,List.length_nil,Nat.zero_add] at h; exact h
                     clear S32';simp only [List.length_nil,Nat.zero_add];refine hK.out _ _ (S32.out.pick [3,4] (by decide)) fun hH => ?_;clear hK K;(try simp only [sx]);refine rdH 12 rfl fun K hK => ?_;refine step_pushS rfl (.tmp 84) (.tmp 89) 32 rfl S32.out 0 rfl Tryd.underlying32 _ 8 intInfo rfl (by decide) rfl e nne rfl rfl (fun j u hj => (BlkAt.cell (S32.out.get 1 rfl) j).trans hj) (encI_one _) (by omega) (by decide) ?_;intro AW33 cW33 w33 S33' _;have S33 := ckR S33';clear S33';refine hK.out _ _ (S33.out.pick [3,4] (by decide)) fun hH => ?_;clear hK K;(try simp only [sx]);refine tkP 13 rfl (v := ?_) hH ?_;(try simp only [sx]);refine wpAnyH_done (by kernel_rfl) ?_ _;go_wp2_with fail
                     go_meet
                     exact ⟨AW33,cW33,by simp,by have h := S33.out.pick [0,2,3,4,5,6] (by decide); simpa [Hid] using h⟩
                case rest =>
                 clear S5;obtain ⟨AW,cW,rfl,S7⟩ := hcut;go_wp2_with (at_builtin; refine wpList_pushS rfl _ _ 78 rfl (S7.out.alloc 82 [.int .i64 tx,.int .i64 ty,.slice AW (p.w.length + 1) cW]) 3 rfl Tryd.underlying78 _ 40 prInfo rfl (by decide) rfl ⟨tx,ty,AW,p.w.length + 1,cW⟩ _ rfl rfl (fun j u hj => (BlkAt.cell ((S7.out.alloc 82 [.int .i64 tx,.int .i64 ty,.slice AW (p.w.length + 1) cW]).get 0 rfl) j).trans hj) (prOne _) (by omega) (by decide) ?_)
                 intro A' c' w9 S' _;have h1 : Sep w.heap.size w [eInts (p.w ++ [e]) (.slice AW (p.w ++ [e]).length cW),eWds fs raw l,eOwn PrV.cells 3 82 (raw ++ [⟨tx,ty,AW,p.w.length + 1,cW⟩]) (.slice A' (raw.length + 1) c'),eInts ul (.slice (some ⟨gL,oL,none⟩) ul.length cL),eBlk (w.heap.size + 1) 35 [.slice B1 bl.length d1,.int .i64 k,.slice B2 ms.length d2,.slice B3 es.length d3],eBlk w.heap.size 35 [.slice A1 al.length c1,.int .i64 n,.slice A2 mr.length c2,.slice A3 ed.length c3]] w9 := by
                  have h := S'.pick [1,2,3,4,5,6] (by decide);rw [List.length_append];exact h
                 have h2 := h1.wdsPush tx ty;rw [List.length_append] at h2;obtain ⟨fs2,hfs2⟩ : ∃ f,f = (Value.slice AW ((p.w).length + [e].length) cW).ownBlock.toList ++ fs := ⟨_,rfl⟩;rw [← hfs2] at h2;clear hfs2;have S8 : (SepW w [eWds fs2 (raw ++ [⟨tx,ty,AW,p.w.length + 1,cW⟩]) (l ++ [⟨tx,ty,p.w ++ [e]⟩]),eOwn PrV.cells 3 82 (raw ++ [⟨tx,ty,AW,p.w.length + 1,cW⟩]) (.slice A' (raw ++ [(⟨tx,ty,AW,p.w.length + 1,cW⟩ : PrV)]).length c'),eInts ul (.slice (some ⟨gL,oL,none⟩) ul.length cL),eBlk (w.heap.size + 1) 35 [.slice B1 bl.length d1,.int .i64 k,.slice B2 ms.length d2,.slice B3 es.length d3],eBlk w.heap.size 35 [.slice A1 al.length c1,.int .i64 n,.slice A2 mr.length c2,.slice A3 ed.length c3]] w9) := by
                  rw [List.length_append];exact h2
                 have HLN : Hid ((raw ++ [(⟨tx,ty,AW,p.w.length + 1,cW⟩ : PrV)]).length ≤ N) := by
                  rw [Hid,(S8.out.get 0 rfl).1,← HNE.out];exact PB2.out.len HRA.out HRB.out
                 clear S7 S' h1 h2;go_wp2_with fail
                 go_roundw
                 case rel => exact ⟨t + 1,_,_,A',c',fs2,by go_num,by rw [List.length_append]; rfl,by rw [List.length_append]; show i < raw.length + 1; omega,HLN.out,(S8.out.get 0 rfl).1,by omega,PB2.out,S8.out⟩
                 case measure => simp [intOf]; omega
        · obtain rfl : t = ul.length := by omega
          have PB2 := Lib.hid PB.out.next;go_wp2_with fail
          go_roundw
          case rel => exact ⟨i + 1,raw,l,AR,cR,fs,by go_num,rfl,by omega,hlN,hrl,PB2.out,S.out⟩
          case measure => simp [intOf]; omega
     · obtain rfl : i = raw.length := by omega
       have HP := Lib.hid (PrsAt.of S.out 0 1 rfl rfl (fun p hp' => by obtain ⟨j,hj,rfl⟩ := List.mem_iff_getElem.1 hp'; have := PB.out.word (List.getElem?_eq_getElem hj); have := hrl.out; omega));have PB2 : Hid (PAll ⟨al,n,mr,ed⟩ ⟨bl,k,ms,es⟩ (unionV al bl) l) := by rw [HUE.out]; have h := PB.out; rw [hrl.out] at h; exact .inr h
       go_wp2_with fail
       go_ret
       exact ⟨raw,l,AR,cR,fs,rfl,S.out.pick [0,1] (by decide),PB2.out,HP.out⟩
 · have hz0 : n = 0 ∧ k = 0 := by omega
   obtain ⟨rfl,rfl⟩ := hz0;have hz' : decide ((0 : Int) + 0 > 0) = false := by decide
   have PB2 : Hid (PAll ⟨al,0,mr,ed⟩ ⟨bl,0,ms,es⟩ (unionV al bl) []) := .inl ⟨rfl,rfl,rfl⟩;go_wp2_with fail
   go_loopw [6,7,8,9,10,11] (fun v x _ _ _ _ wr => x = .int .i64 0 ∧ v = .slice none 0 0 ∧ wr = W1) (fun _ _ _ _ _ _ _ => 0)
   case atStart => exact ⟨rfl,rfl,rfl⟩
   case round =>
    obtain ⟨rfl,rfl,rfl⟩ := hrel;go_wp2_with fail
    go_ret
    exact ⟨[],[],none,0,[],rfl,S2.out.pick [0,1] (by decide),PB2.out,SlAt.nil⟩
theorem has9_e (a : Au) (p : AuP) (s kind : Int) (r : Bool) (w : World) (h2 : IntsAt w p.A2 a.mr) (l2 : a.mr.length ≤ 140737488355328) (h : inV a s kind = r) : Calls Tryd.prog 44 #[a.val p,.int .i64 s,.int .i64 kind] w (Ret (.bool r) w) := h ▸ has9_c a p s kind w h2 l2
def Gives9 (a b : Au) (P : Int × Int → Bool) (w : World) (e : Ending) (w' : World) : Prop := ∃ (A : Option Addr) (c : Nat) (l : List Int) (f : Bool),e = .returned (.tuple #[.slice A l.length c,.bool f]) ∧ Hid (IntsAt w' A l) ∧ Below w.heap.size w w' ∧ l.length ≤ 1000000 ∧
 Hid (f = true ∧ LeastW (LeadsTo (stp2 a b) (a.st,b.st) (unionV a.al b.al) (fun q => P q = true)) l ∨ f = false ∧ l = [] ∧ ∀ u,¬ LeadsTo (stp2 a b) (a.st,b.st) (unionV a.al b.al) (fun q => P q = true) u)
def inc9 (a b : Au) (kind : Int) (both : Bool) (q : Int × Int) : Bool := (inV a q.1 kind && !inV b q.2 kind) || (both && inV b q.2 kind && !inV a q.1 kind)
theorem PAll.word {a b : Au} {evs : List Int} {l : List Pr} (h : PAll a b evs l) {j : Nat} {p : Pr} (hp : l[j]? = some p) : p.w.length ≤ j := by
 rcases h with ⟨_,_,rfl⟩ | h
 · simp at hp
 · exact h.word hp
end Go.Proofs.YtkifgffhoenaoaaDoor
