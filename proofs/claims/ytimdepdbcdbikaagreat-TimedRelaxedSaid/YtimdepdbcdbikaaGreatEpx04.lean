/-
  What the row leans on.
-/
import Derived.Test.YtimdepdbcdbikaaGreatEpx02
import Derived.Test.YtimdepdbcdbikaaGreatEpx03
import Derived.Test.YtimdepdbcdbikaaGreatBas13
import Derived.BigQuiet
import Derived.Deep.CutBlock
import Derived.Deep.DeepCutAuto
import Derived.Test.YtimdepdbcdbikaaGreatEpx01
set_option linter.unusedSimpArgs false
set_option linter.unusedVariables false
namespace Go.Proofs.YtimdepdbcdbikaaGreat
open Go.RowKit
set_option maxRecDepth 100000
def encW (r : PrV) : List Value := [.slice r.A r.n r.c]
theorem wdOne (x : PrV) : ∀ u ∈ encW x,u.oneCell' = true := fun u hu => by simp [encW] at hu; subst hu; rfl
theorem wdInfo : (Tryz.prog.info? 31).map (fun i => (i.zero,i.size,i.bytes)) = some (some (.slice none 0 0),1,24) := by kernel_rfl
theorem Sep.wdAt {n T : Nat} {w0 w : World} {es : List Ent} {raw : List PrV} {A : Option Addr} {c : Nat} (S : Sep n w0 es w) (i : Nat) (hi : es[i]? = some (eOwn encW 1 T raw (.slice A raw.length c))) {k : Nat} (hk : k < raw.length) : ∃ g off r,A = some ⟨g,off,none⟩ ∧ raw[k]? = some r ∧ w.cell? ⟨g,off + k,none⟩ = some (.slice r.A r.n r.c) := by
 obtain ⟨b,off,x,vs,hA,_,hx,_,hE,hc⟩ := SlAt.at (Own.reads (enc := encW) (k := 1) (fun _ => rfl) (S.get i hi)) hk;obtain rfl : vs = encW _ := hE;exact ⟨b,off,x,hA,hx,by simpa using hc 0 _ rfl⟩
open Classical in
noncomputable def idxS (gs : List (List Int)) (b : ByteArray) : Option Int := if b ∈ gs.map keyB then some ((idxK (gs.map keyB) b : Nat) : Int) else none
open Classical in
theorem idxS_push {gs : List (List Int)} {v : List Int} (h : ¬ keyB v ∈ gs.map keyB) : (fun u : ByteArray => if u = keyB v then some (gs.length : Int) else idxS gs u) = idxS (gs ++ [v]) := by
 funext u
 unfold idxS
 rw [List.map_append,List.map_singleton];by_cases e : u = keyB v
 · subst e;rw [if_pos rfl,if_pos (by simp),idxK_new h,List.length_map]
 · rw [if_neg e];by_cases g : u ∈ gs.map keyB
   · rw [if_pos g,if_pos (by simp only [List.mem_append]; exact .inl g),idxK_app g]
   · rw [if_neg g,if_neg (by simp only [List.mem_append,List.mem_singleton]; rintro (k | k); exact g k; exact e k)]
open Classical in
theorem idxS_one (v : List Int) : (fun u : ByteArray => if u = keyB v then some (0 : Int) else none) = idxS [v] := by
 have := idxS_push (gs := []) (v := v) (by simp);rw [List.nil_append] at this;rw [← this];funext u
 simp [idxS]
def KyOk (gs : List (List Int)) : Prop := ∀ v,v ∈ gs → ∀ x,x ∈ v → 0 ≤ x ∧ x < 127
theorem keyB_mem {gs : List (List Int)} {v : List Int} (hg : KyOk gs) (hv : ∀ x,x ∈ v → 0 ≤ x ∧ x < 127) : keyB v ∈ gs.map keyB ↔ v ∈ gs := by
 rw [List.mem_map];constructor
 · rintro ⟨u,hu,he⟩;rw [← keyB_inj (hg u hu) hv he]; exact hu
 · exact fun h => ⟨v,h,rfl⟩
theorem keyB_idx {gs : List (List Int)} {v : List Int} (hg : KyOk gs) (hv : ∀ x,x ∈ v → 0 ≤ x ∧ x < 127) : idxK (gs.map keyB) (keyB v) = idxK gs v := by
 unfold idxK
 induction gs with
 | nil => rfl
 | cons u r ih =>
   have ih := ih (fun y hy => hg y (by simp [hy]));rw [List.map_cons,List.findIdx_cons,List.findIdx_cons];have : decide (keyB u = keyB v) = decide (u = v) := by
    rw [decide_eq_decide];exact ⟨fun h => keyB_inj (hg u (by simp)) hv h,fun h => by rw [h]⟩
   rw [this];simp only [ih]
open Classical in
theorem idxS_in {gs : List (List Int)} {v : List Int} (hg : KyOk gs) (hv : ∀ x,x ∈ v → 0 ≤ x ∧ x < 127) (h : v ∈ gs) : idxS gs (keyB v) = some ((idxK gs v : Nat) : Int) := by
 unfold idxS
 rw [if_pos ((keyB_mem hg hv).2 h),keyB_idx hg hv]
open Classical in
theorem idxS_out {gs : List (List Int)} {v : List Int} (hg : KyOk gs) (hv : ∀ x,x ∈ v → 0 ≤ x ∧ x < 127) (h : ¬ v ∈ gs) : idxS gs (keyB v) = none := by
 unfold idxS
 rw [if_neg (fun g => h ((keyB_mem hg hv).1 g))]
def GivesPj (I : List Int → Prop) (a : Au) (onto : List Int) (w : World) (e : Ending) (w' : World) : Prop := ∃ (gs : List (List Int)) (ed : List Ed) (p : AuP) (AR : Option Addr) (cR : Nat) (fs : List Nat) (raw : List PrV) (vs : List Pw),e = .returned (.tuple #[(gAu (prS I a onto) (mkdP a.mr) gs ed).val p,.slice AR raw.length cR,.int .i64 0]) ∧ Hid (UfdG (prS I a onto) gs ed) ∧ Hid (gs.length ≤ 4000) ∧ Hid (vs.map (·.w) = gs) ∧ (SepW w (eAu (gAu (prS I a onto) (mkdP a.mr) gs ed) p ++ [eOwn encW 1 31 raw (.slice AR raw.length cR),eWds fs raw vs]) w')
set_option maxHeartbeats 16000000 in
theorem project_c (I : List Int → Prop) (a : Au) (p : AuP) (AO : Option Addr) (cO : Nat) (onto : List Int) (w : World) (hr : a.Right) (hA : Au.At w a p) (hO : IntsAt w AO onto) (hoo : setOk onto 32 onto.length) (hn : 0 < a.n) (h127 : a.n ≤ 126) (hel : a.ed.length ≤ 7000) (hS : (prS I a onto).Ok) (hI : ∀ v,I v → setOk v a.n v.length) (hf : FewG (prS I a onto)) :
 Calls Tryz.prog 32 #[a.val p,.slice AO onto.length cO] w (GivesPj I a onto w) := by
 have HR := Lib.hid hr;have HA := Lib.hid hA;have HO := Lib.hid hO;have HOO := Lib.hid hoo;have HS := Lib.hid hS;have HF := Lib.hid hf;have hn0 := hr.n0;have hal : a.al.length ≤ 32 := rises_len (n := 32) hr.al.incr fun x hx => al_rg hr hx;have hol : onto.length ≤ 32 := rises_len (n := 32) hoo.incr fun x hx => hoo.rgU hx;have hkl : (keptV a.al onto).length ≤ 32 := Nat.le_trans (List.length_filter_le _ _) hal;have hml := hA.lmk;have HII : Hid (∀ v,I v → (∀ x,x ∈ v → 0 ≤ x ∧ x < a.n) ∧ v.length ≤ 126) := fun v hv => by
  have h1 := hI v hv;refine ⟨fun x hx => h1.rgU hx,?_⟩;have := rises_len (n := 126) h1.incr fun x hx => by have := h1.rgU hx; omega
  exact this
 have HKY : Hid (∀ v,I v → ∀ x,x ∈ v → 0 ≤ x ∧ x < 127) := fun v hv x hx => by have := (HII.out v hv).1 x hx; omega
 have hz : (a.n == 0) = false := beq_eq_false_iff_ne.2 (by omega);have hmm0 := @run_makeMap Tryz.prog;clear hr hA hO hoo hS hI hf;go_enter Tryz.func32,Tryz.ntmps32
 obtain ⟨tb,htb⟩ : ∃ g,g = w.heap.size := ⟨_,rfl⟩;obtain ⟨rb,hrb⟩ : ∃ g,g = w.heap.size + 1 := ⟨_,rfl⟩;go_upto_region 1 with fail
 rw [← hrb];rw [← htb];refine wp_world (fun W => Sep w.heap.size w [eBlk rb 34 [.slice none 0 0,.int .i64 0,.slice none 0 0,.slice none 0 0],eBlk tb 34 [.slice p.A1 a.al.length p.c1,.int .i64 a.n,.slice p.A2 a.mr.length p.c2,.slice p.A3 a.ed.length p.c3]] W) (((Sep.here w).alloc' _ [_,_,_,_] rfl htb).alloc' _ [_,_,_,_] rfl (by simp; omega)) fun W S => ?_;have S0 := Lib.hid S;clear S htb hrb;have t0 := BlkAt.cell (S0.out.get 1 rfl) 0; have t1 := BlkAt.cell (S0.out.get 1 rfl) 1; have t2 := BlkAt.cell (S0.out.get 1 rfl) 2; have t3 := BlkAt.cell (S0.out.get 1 rfl) 3; simp only [List.getElem?_cons_succ,List.getElem?_cons_zero] at t0 t1 t2 t3;have CC := Lib.hid (checkPr_c a p AO cO onto W HR.out (HA.out.below S0.out.below) (HO.out.below IntE.stays S0.out.below) (by simp only [maxLen]; omega) HOO.out);go_wp2_with fail
 refine CC.out.mono ?_;rintro e w2 ⟨rfl,hb⟩;have S1 := Lib.hid (S0.out.next hb);clear CC hb S0 t0 t1 t2 t3;have t0 := BlkAt.cell (S1.out.get 1 rfl) 0; have t1 := BlkAt.cell (S1.out.get 1 rfl) 1; have t2 := BlkAt.cell (S1.out.get 1 rfl) 2; have t3 := BlkAt.cell (S1.out.get 1 rfl) 3; simp only [List.getElem?_cons_succ,List.getElem?_cons_zero] at t0 t1 t2 t3;have CO := Lib.hid (observe_c a p AO cO onto w2 HR.out (HA.out.below S1.out.below) (HO.out.below IntE.stays S1.out.below) (by omega) (by omega));go_wp2_with fail
 refine CO.out.mono ?_;rintro e w3 ⟨⟨bq,AK,cK,AX,cX,AY,cY⟩,vq,rfl,hq1,hq2,hvq,TT⟩;dsimp only at hq1 hq2;subst hq1 hq2;have S2 := qkN S1.out TT.out;clear CO TT S1 t0 t1 t2 t3;have HOB : Hid (∀ W,(eOb a onto ⟨bq,AK,cK,AX,cX,p.A2,p.c2⟩ vq).ok W → (eInts (keptV a.al onto) (.slice AK (keptV a.al onto).length cK)).ok W → Below w.heap.size w W → ObAt W a onto ⟨bq,AK,cK,AX,cX,p.A2,p.c2⟩) := fun W h1 h2 h3 => ObAt.of h1 (OwnI.ints h2) (HA.out.below h3).mr hvq (by omega);dsimp only [ObP.val];obtain ⟨ob,hob⟩ : ∃ g,g = w3.heap.size := ⟨_,rfl⟩;go_upto_region 5 with fail
 rw [← hob];refine wp_world (fun V => Sep w.heap.size w [eBlk ob 118 [.slice (some ⟨bq,0,none⟩) a.n.toNat a.n.toNat,.slice AK (keptV a.al onto).length cK,.slice AX (erasV a.al onto).length cX,.slice p.A2 a.mr.length p.c2],eInts (keptV a.al onto) (.slice AK (keptV a.al onto).length cK),eOb a onto ⟨bq,AK,cK,AX,cX,p.A2,p.c2⟩ vq,eBlk rb 34 [.slice none 0 0,.int .i64 0,.slice none 0 0,.slice none 0 0],eBlk tb 34 [.slice p.A1 a.al.length p.c1,.int .i64 a.n,.slice p.A2 a.mr.length p.c2,.slice p.A3 a.ed.length p.c3]] V) (S2.out.alloc' _ [_,_,_,_] rfl hob) fun V S => ?_;have S3 := Lib.hid S;clear S S2 hob hvq;have o0 := BlkAt.cell (S3.out.get 0 rfl) 0; have o1 := BlkAt.cell (S3.out.get 0 rfl) 1; have o2 := BlkAt.cell (S3.out.get 0 rfl) 2; have o3 := BlkAt.cell (S3.out.get 0 rfl) 3; simp only [List.getElem?_cons_succ,List.getElem?_cons_zero] at o0 o1 o2 o3;obtain ⟨nb,hnb⟩ : ∃ g,g = V.heap.size := ⟨_,rfl⟩;go_upto_region 6 with fail
 rw [← hnb];refine wp_world (fun V => Sep w.heap.size w [eBlk nb 34 [.slice AK (keptV a.al onto).length cK,.int .i64 0,.slice none 0 0,.slice none 0 0],eBlk ob 118 [.slice (some ⟨bq,0,none⟩) a.n.toNat a.n.toNat,.slice AK (keptV a.al onto).length cK,.slice AX (erasV a.al onto).length cX,.slice p.A2 a.mr.length p.c2],eInts (keptV a.al onto) (.slice AK (keptV a.al onto).length cK),eOb a onto ⟨bq,AK,cK,AX,cX,p.A2,p.c2⟩ vq,eBlk rb 34 [.slice none 0 0,.int .i64 0,.slice none 0 0,.slice none 0 0],eBlk tb 34 [.slice p.A1 a.al.length p.c1,.int .i64 a.n,.slice p.A2 a.mr.length p.c2,.slice p.A3 a.ed.length p.c3]] V) (S3.out.alloc' _ [_,_,_,_] rfl hnb) fun V S => ?_;have S4 := Lib.hid S;clear S S3 hnb o0 o1 o2 o3;have o0 := BlkAt.cell (S4.out.get 1 rfl) 0; have o1 := BlkAt.cell (S4.out.get 1 rfl) 1; have o2 := BlkAt.cell (S4.out.get 1 rfl) 2; have o3 := BlkAt.cell (S4.out.get 1 rfl) 3; simp only [List.getElem?_cons_succ,List.getElem?_cons_zero] at o0 o1 o2 o3;have t1 := BlkAt.cell (S4.out.get 5 rfl) 1; simp only [List.getElem?_cons_succ,List.getElem?_cons_zero] at t1;have CS := Lib.hid (start_c a onto ⟨bq,AK,cK,AX,cX,p.A2,p.c2⟩ V HR.out hn (HOB.out V (S4.out.get 3 rfl) (S4.out.get 2 rfl) S4.out.below) (by omega));go_wp2_with fail
 refine CS.out.mono ?_;rintro e w5 ⟨A5,c5,rfl,ho,hb⟩;obtain ⟨v0,hv0⟩ : ∃ v,v = startP a.n.toNat a.ed (erasV a.al onto) := ⟨_,rfl⟩;rw [← hv0] at ho ⊢;have HV0 : Hid ((prS I a onto).start = v0) := hv0.symm;have HI0 : I v0 := by rw [hv0]; exact HS.out.st
 have hvl := (HII.out v0 HI0).2;have S5 : (SepW w [eInts v0 (.slice A5 v0.length c5),eBlk nb 34 [.slice AK (keptV a.al onto).length cK,.int .i64 0,.slice none 0 0,.slice none 0 0],eBlk ob 118 [.slice (some ⟨bq,0,none⟩) a.n.toNat a.n.toNat,.slice AK (keptV a.al onto).length cK,.slice AX (erasV a.al onto).length cX,.slice p.A2 a.mr.length p.c2],eInts (keptV a.al onto) (.slice AK (keptV a.al onto).length cK),eOb a onto ⟨bq,AK,cK,AX,cX,p.A2,p.c2⟩ vq,eBlk rb 34 [.slice none 0 0,.int .i64 0,.slice none 0 0,.slice none 0 0],eBlk tb 34 [.slice p.A1 a.al.length p.c1,.int .i64 a.n,.slice p.A2 a.mr.length p.c2,.slice p.A3 a.ed.length p.c3]] w5) := S4.out.newI ho.out hb;clear CS ho hb S4 o0 o1 o2 o3 t1 hv0;obtain ⟨sb,hsb⟩ : ∃ g,g = w5.heap.size := ⟨_,rfl⟩;go_upto_region 9 with fail
 rw [← hsb];refine wp_world (fun V => Sep w.heap.size w [eOwn encW 1 31 [⟨0,0,A5,v0.length,c5⟩] (.slice (some ⟨sb,0,none⟩) 1 1),eInts v0 (.slice A5 v0.length c5),eBlk nb 34 [.slice AK (keptV a.al onto).length cK,.int .i64 0,.slice none 0 0,.slice none 0 0],eBlk ob 118 [.slice (some ⟨bq,0,none⟩) a.n.toNat a.n.toNat,.slice AK (keptV a.al onto).length cK,.slice AX (erasV a.al onto).length cX,.slice p.A2 a.mr.length p.c2],eInts (keptV a.al onto) (.slice AK (keptV a.al onto).length cK),eOb a onto ⟨bq,AK,cK,AX,cX,p.A2,p.c2⟩ vq,eBlk rb 34 [.slice none 0 0,.int .i64 0,.slice none 0 0,.slice none 0 0],eBlk tb 34 [.slice p.A1 a.al.length p.c1,.int .i64 a.n,.slice p.A2 a.mr.length p.c2,.slice p.A3 a.ed.length p.c3]] V) ((S5.out.alloc' 31 [.slice A5 v0.length c5] rfl hsb).own 0 rfl encW 1 [⟨0,0,A5,v0.length,c5⟩] rfl (fun _ => rfl) (by simp [maxLen])) fun V S => ?_;have S6 := Lib.hid S;clear S S5 hsb;obtain ⟨_,_,r6,h6A,h6r,h6c⟩ := S6.out.wdAt 0 rfl (k := 0) (by simp);obtain ⟨rfl,rfl⟩ : sb = _ ∧ 0 = _ := by simpa using h6A
 simp only [List.getElem?_cons_zero,Option.some.injEq] at h6r;subst h6r;simp only [Nat.add_zero] at h6c;clear h6A;have hsbl : sb < V.heap.size := (Own.lt (S6.out.get 0 rfl) sb rfl).2;obtain ⟨mp,hmp⟩ : ∃ g,g = V.heap.size := ⟨_,rfl⟩;have S7 : (SepW w [eMap keyS veI mp (idxS []),eOwn encW 1 31 [⟨0,0,A5,v0.length,c5⟩] (.slice (some ⟨sb,0,none⟩) 1 1),eInts v0 (.slice A5 v0.length c5),eBlk nb 34 [.slice AK (keptV a.al onto).length cK,.int .i64 0,.slice none 0 0,.slice none 0 0],eBlk ob 118 [.slice (some ⟨bq,0,none⟩) a.n.toNat a.n.toNat,.slice AK (keptV a.al onto).length cK,.slice AX (erasV a.al onto).length cX,.slice p.A2 a.mr.length p.c2],eInts (keptV a.al onto) (.slice AK (keptV a.al onto).length cK),eOb a onto ⟨bq,AK,cK,AX,cX,p.A2,p.c2⟩ vq,eBlk rb 34 [.slice none 0 0,.int .i64 0,.slice none 0 0,.slice none 0 0],eBlk tb 34 [.slice p.A1 a.al.length p.c1,.int .i64 a.n,.slice p.A2 a.mr.length p.c2,.slice p.A3 a.ed.length p.c3]] (V.alloc (.map #[] 0))) := by
  have h := S6.out.allocMap keyS veI hmp;have e : (fun _ => none : ByteArray → Option Int) = idxS [] := by funext u; simp [idxS]
  rw [e] at h;exact h
 have CK := Lib.hid (key_c A5 c5 v0 _ (S7.out.ints 2 rfl) (by omega) (HKY.out v0 HI0));go_wp2_with fail
 refine CK.out.mono ?_;rintro e w6 ⟨rfl,hb⟩;have S8 := Lib.hid (S7.out.next hb);clear CK hb S7 S6 h6c hsbl;go_upto_region 10 with (rw [← hmp]; refine wpList_insertS rfl _ _ _ 122 9 3 rfl S8.out 0 rfl okS Tryz.underlying122 (keyB v0) 0 rfl rfl rfl ?_)
 intro w7 S9';have S9 : (SepW w [eMap keyS veI mp (idxS [v0]),eOwn encW 1 31 [⟨0,0,A5,v0.length,c5⟩] (.slice (some ⟨sb,0,none⟩) 1 1),eInts v0 (.slice A5 v0.length c5),eBlk nb 34 [.slice AK (keptV a.al onto).length cK,.int .i64 0,.slice none 0 0,.slice none 0 0],eBlk ob 118 [.slice (some ⟨bq,0,none⟩) a.n.toNat a.n.toNat,.slice AK (keptV a.al onto).length cK,.slice AX (erasV a.al onto).length cX,.slice p.A2 a.mr.length p.c2],eInts (keptV a.al onto) (.slice AK (keptV a.al onto).length cK),eOb a onto ⟨bq,AK,cK,AX,cX,p.A2,p.c2⟩ vq,eBlk rb 34 [.slice none 0 0,.int .i64 0,.slice none 0 0,.slice none 0 0],eBlk tb 34 [.slice p.A1 a.al.length p.c1,.int .i64 a.n,.slice p.A2 a.mr.length p.c2,.slice p.A3 a.ed.length p.c3]] w7) := by
  have h := idxS_one v0;have e : (fun u : ByteArray => if u = keyB v0 then some (0 : Int) else idxS [] u) = idxS [v0] := by
   rw [← h]; funext u; simp [idxS]
  rw [← hmp,e] at S9';exact S9'
 clear S9' S8;go_upto_region 10 with fail
 (try rw [← hmp]);clear hmp;have S10 : (SepW w [eBlk nb 34 [.slice AK (keptV a.al onto).length cK,.int .i64 0,.slice none 0 0,.slice none 0 0],eInts [] (.slice none 0 0),eEds [] (.slice none 0 0),eWds ((Value.slice A5 v0.length c5).ownBlock.toList ++ []) ([] ++ [⟨0,0,A5,v0.length,c5⟩]) ([] ++ [⟨0,0,v0⟩]),eOwn encW 1 31 ([] ++ [⟨0,0,A5,v0.length,c5⟩]) (.slice (some ⟨sb,0,none⟩) 1 1),eMap keyS veI mp (idxS [v0]),eInts (keptV a.al onto) (.slice AK (keptV a.al onto).length cK),eOb a onto ⟨bq,AK,cK,AX,cX,p.A2,p.c2⟩ vq,eBlk ob 118 [.slice (some ⟨bq,0,none⟩) a.n.toNat a.n.toNat,.slice AK (keptV a.al onto).length cK,.slice AX (erasV a.al onto).length cX,.slice p.A2 a.mr.length p.c2],eBlk rb 34 [.slice none 0 0,.int .i64 0,.slice none 0 0,.slice none 0 0],eBlk tb 34 [.slice p.A1 a.al.length p.c1,.int .i64 a.n,.slice p.A2 a.mr.length p.c2,.slice p.A3 a.ed.length p.c3]] w7) := by
  have h := (S9.out.new1 (Below.refl _ _) (eWds [] [] []) ⟨rfl,by simp,by simp⟩ (by simp [eWds])).pick [3,0,1,2,4,5,6,7,8,9] (by decide);have h2 := Sep.wdsPush h 0 0;exact ((h2.nilOwn Ed.cells 3 76).nilOwn encI 1 3).pick [5,0,1,2,4,3,7,8,6,9,10] (by decide)
 clear S9;go_wp2_with fail
 have HMD : Hid (∀ i gs ed,UOG (prS I a onto) i gs ed → gs.length ≤ 4000 ∧ ed.length ≤ 33 * i) := fun i gs ed h => ⟨HF.out gs h.nd h.is,h.el⟩;go_loopw [12,10] (fun vi vl wr => ∃ (i : Nat) (gs : List (List Int)) (ed : List Ed) (MK : List Int) (raw : List PrV) (vs : List Pw) (fs : List Nat) (AR : Option Addr) (cR : Nat) (AM : Option Addr) (cM : Nat) (AE : Option Addr) (cE : Nat),vi = .int .i64 ↑i ∧ vl = .slice AR raw.length cR ∧ Hid (UOG (prS I a onto) i gs ed) ∧ Hid (MK = mkV (mkG (mkdP a.mr) gs) i) ∧ Hid (vs.map (·.w) = gs) ∧ (SepW w [eBlk nb 34 [.slice AK (keptV a.al onto).length cK,.int .i64 0,.slice AM MK.length cM,.slice AE ed.length cE],eInts MK (.slice AM MK.length cM),eEds ed (.slice AE ed.length cE),eWds fs raw vs,eOwn encW 1 31 raw (.slice AR raw.length cR),eMap keyS veI mp (idxS gs),eInts (keptV a.al onto) (.slice AK (keptV a.al onto).length cK),eOb a onto ⟨bq,AK,cK,AX,cX,p.A2,p.c2⟩ vq,eBlk ob 118 [.slice (some ⟨bq,0,none⟩) a.n.toNat a.n.toNat,.slice AK (keptV a.al onto).length cK,.slice AX (erasV a.al onto).length cX,.slice p.A2 a.mr.length p.c2],eBlk rb 34 [.slice none 0 0,.int .i64 0,.slice none 0 0,.slice none 0 0],eBlk tb 34 [.slice p.A1 a.al.length p.c1,.int .i64 a.n,.slice p.A2 a.mr.length p.c2,.slice p.A3 a.ed.length p.c3]] wr)) (fun vi _ _ => 4001 - (intOf vi).toNat)
 case atStart => exact ⟨0,[v0],[],[],[⟨0,0,A5,v0.length,c5⟩],[⟨0,0,v0⟩],_,some ⟨sb,0,none⟩,1,none,0,none,0,rfl,rfl,by rw [← HV0.out]; exact UOG.start HS.out,rfl,rfl,S10.out⟩
 case round =>
  clear S10;obtain ⟨i,gs,ed,MK,raw,vs,fs,AR,cR,AM,cM,AE,cE,rfl,rfl,UH,HMK,HG,S⟩ := hrel;obtain ⟨hfl,hedl⟩ := HMD.out _ _ _ UH.out;have hil := UH.out.il;have HVL : Hid (vs.length = gs.length) := by rw [Hid,← HG.out,List.length_map]
  have HRL : Hid (raw.length = gs.length) := (S.out.get 3 rfl).1.trans HVL.out;by_cases hlt : i < gs.length
  · have hltI : i < raw.length := by have := HRL.out; omega
    obtain ⟨v,hv⟩ : ∃ v,gs[i]? = some v := ⟨_,List.getElem?_eq_getElem hlt⟩;have HVI : Hid (I v) := UH.out.is v (List.mem_of_getElem? hv);have UIH : Hid (UIG (prS I a onto) i 0 v gs ed) := UH.out.row hv;have HMF : Hid (mkG (mkdP a.mr) gs i = mkdP a.mr v) := mkG_at hv;have hml2 : MK.length ≤ 4000 := by rw [HMK.out]; have := mkV_len (mkG (mkdP a.mr) gs) i; omega
    have HMLE := Lib.hid hml2;obtain ⟨gR,oR,r,rfl,hr,hrc⟩ := S.out.wdAt 4 rfl (k := i) (by have := HRL.out; omega);obtain ⟨pw,hp⟩ : ∃ pw,vs[i]? = some pw := ⟨_,List.getElem?_eq_getElem (by have := HVL.out; omega)⟩;have hpw : pw.w = v := by
     have h := congrArg (fun l : List (List Int) => l[i]?) HG.out;simp only [List.getElem?_map,hp,hv,Option.map_some,Option.some.injEq] at h;exact h
    obtain ⟨_,_,hwd⟩ := (S.out.get 3 rfl).2.2 i r pw hr hp;rw [hpw] at hwd;have HWI : Hid (IntsAt wr r.A v) := hwd.ints (S.out.get 3 rfl).2.1;have hrn : r.n = v.length := hwd.1;obtain ⟨rX,rY,rA,rn,rc⟩ := r;dsimp only at hrn hrc HWI;subst hrn;have hv126 := (HII.out v HVI.out).2;obtain ⟨u,hu⟩ : ∃ u,u = mkdP a.mr v := ⟨_,rfl⟩;have HU := Lib.hid hu;have HV := Lib.hid hv;have HRr := Lib.hid hr;have HPp := Lib.hid hp;have HPw := Lib.hid hpw;clear hv hu hr hp hpw hwd UH hml2;go_upto_region 13 with fail
    go_cut [55] (fun v55 wx => v55 = .bool u ∧ (SepW w [eBlk nb 34 [.slice AK (keptV a.al onto).length cK,.int .i64 0,.slice AM MK.length cM,.slice AE ed.length cE],eInts MK (.slice AM MK.length cM),eEds ed (.slice AE ed.length cE),eWds fs raw vs,eOwn encW 1 31 raw (.slice (some ⟨gR,oR,none⟩) raw.length cR),eMap keyS veI mp (idxS gs),eInts (keptV a.al onto) (.slice AK (keptV a.al onto).length cK),eOb a onto ⟨bq,AK,cK,AX,cX,p.A2,p.c2⟩ vq,eBlk ob 118 [.slice (some ⟨bq,0,none⟩) a.n.toNat a.n.toNat,.slice AK (keptV a.al onto).length cK,.slice AX (erasV a.al onto).length cX,.slice p.A2 a.mr.length p.c2],eBlk rb 34 [.slice none 0 0,.int .i64 0,.slice none 0 0,.slice none 0 0],eBlk tb 34 [.slice p.A1 a.al.length p.c1,.int .i64 a.n,.slice p.A2 a.mr.length p.c2,.slice p.A3 a.ed.length p.c3]] wx))
    case first =>
     have o0 := BlkAt.cell (S.out.get 8 rfl) 0; have o1 := BlkAt.cell (S.out.get 8 rfl) 1; have o2 := BlkAt.cell (S.out.get 8 rfl) 2; have o3 := BlkAt.cell (S.out.get 8 rfl) 3; simp only [List.getElem?_cons_succ,List.getElem?_cons_zero] at o0 o1 o2 o3;have SD := Lib.hid S.out.drew;have HWD : Hid (IntsAt wr.drew rA v) := HWI.out.below IntE.stays (Below.refl _ wr).drew;have CI := Lib.hid (isMd_c a onto ⟨bq,AK,cK,AX,cX,p.A2,p.c2⟩ rA rc v wr.drew HR.out (HOB.out _ (SD.out.get 7 rfl) (SD.out.get 6 rfl) SD.out.below) hml HWD.out (by omega));go_still_tail 5,(by kernel_rfl)
     change wpList _ _ _ _ _ wr.drew
     go_wp2_with fail
     refine CI.out.mono ?_;intro e w8 hs;have HB : Hid (e = .returned (.bool u) ∧ Below wr.drew.heap.size wr.drew w8) := by
      obtain ⟨b,hb1,hb2,hb3⟩ := hs;refine ⟨?_,hb3⟩;rw [hb1,HU.out];congr 2
      rw [Bool.eq_iff_iff];exact hb2
     clear hs CI;obtain ⟨rfl,hb⟩ := HB.out;have S2 := Lib.hid (SD.out.next hb);clear HB hb SD S o0 o1 o2 o3;go_wp2_with fail
     go_meet
     exact ⟨rfl,S2.out⟩
    case rest =>
     clear S hrc HWI;obtain ⟨rfl,S⟩ := hcut;go_upto_if 55 with fail
     go_cut [55] (fun v55 wx => ∃ (MK' : List Int) (AM' : Option Addr) (cM' : Nat),Hid (MK' = mkV (mkG (mkdP a.mr) gs) (i + 1)) ∧ (SepW w [eBlk nb 34 [.slice AK (keptV a.al onto).length cK,.int .i64 0,.slice AM' MK'.length cM',.slice AE ed.length cE],eInts MK' (.slice AM' MK'.length cM'),eEds ed (.slice AE ed.length cE),eWds fs raw vs,eOwn encW 1 31 raw (.slice (some ⟨gR,oR,none⟩) raw.length cR),eMap keyS veI mp (idxS gs),eInts (keptV a.al onto) (.slice AK (keptV a.al onto).length cK),eOb a onto ⟨bq,AK,cK,AX,cX,p.A2,p.c2⟩ vq,eBlk ob 118 [.slice (some ⟨bq,0,none⟩) a.n.toNat a.n.toNat,.slice AK (keptV a.al onto).length cK,.slice AX (erasV a.al onto).length cX,.slice p.A2 a.mr.length p.c2],eBlk rb 34 [.slice none 0 0,.int .i64 0,.slice none 0 0,.slice none 0 0],eBlk tb 34 [.slice p.A1 a.al.length p.c1,.int .i64 a.n,.slice p.A2 a.mr.length p.c2,.slice p.A3 a.ed.length p.c3]] wx))
     case first =>
      cases u
      · have HK : Hid (MK = mkV (mkG (mkdP a.mr) gs) (i + 1)) := by rw [Hid,mkV_no (by rw [HMF.out]; exact HU.out.symm)]; exact HMK.out
        go_wp2_with fail
        go_meet
        exact ⟨MK,AM,cM,HK.out,S.out⟩
      · have HK : Hid (MK ++ [(i : Int)] = mkV (mkG (mkdP a.mr) gs) (i + 1)) := by rw [Hid,mkV_yes (by rw [HMF.out]; exact HU.out.symm),← HMK.out]
        have o2 := BlkAt.cell (S.out.get 0 rfl) 2; simp only [List.getElem?_cons_succ,List.getElem?_cons_zero] at o2;have hmle := HMLE.out;go_wp2_with (at_builtin; refine wpList_pushS rfl _ _ 31 rfl (S.out.alloc 3 [.int .i64 ↑i]) 2 rfl Tryz.underlying31 _ 8 intInfo rfl (by decide) rfl (i : Int) _ rfl rfl (one_cell _ _ [_] _ rfl) (encI_one _) (by omega) (by decide) ?_)
        intro A1 c1 w6 S9 _;have S10 : (SepW w [eBlk nb 34 [.slice AK (keptV a.al onto).length cK,.int .i64 0,.slice AM MK.length cM,.slice AE ed.length cE],eInts (MK ++ [(i : Int)]) (.slice A1 (MK.length + 1) c1),eEds ed (.slice AE ed.length cE),eWds fs raw vs,eOwn encW 1 31 raw (.slice (some ⟨gR,oR,none⟩) raw.length cR),eMap keyS veI mp (idxS gs),eInts (keptV a.al onto) (.slice AK (keptV a.al onto).length cK),eOb a onto ⟨bq,AK,cK,AX,cX,p.A2,p.c2⟩ vq,eBlk ob 118 [.slice (some ⟨bq,0,none⟩) a.n.toNat a.n.toNat,.slice AK (keptV a.al onto).length cK,.slice AX (erasV a.al onto).length cX,.slice p.A2 a.mr.length p.c2],eBlk rb 34 [.slice none 0 0,.int .i64 0,.slice none 0 0,.slice none 0 0],eBlk tb 34 [.slice p.A1 a.al.length p.c1,.int .i64 a.n,.slice p.A2 a.mr.length p.c2,.slice p.A3 a.ed.length p.c3]] w6) := S9.drop1;clear S9 S o2;have o2 := BlkAt.cell (S10.out.get 0 rfl) 2; simp only [List.getElem?_cons_succ,List.getElem?_cons_zero] at o2;have o2f := BlkAt.free (S10.out.get 0 rfl) 2
        have S11 : (SepW w [eBlk nb 34 [.slice AK (keptV a.al onto).length cK,.int .i64 0,.slice A1 (MK ++ [(i : Int)]).length c1,.slice AE ed.length cE],eInts (MK ++ [(i : Int)]) (.slice A1 (MK ++ [(i : Int)]).length c1),eEds ed (.slice AE ed.length cE),eWds fs raw vs,eOwn encW 1 31 raw (.slice (some ⟨gR,oR,none⟩) raw.length cR),eMap keyS veI mp (idxS gs),eInts (keptV a.al onto) (.slice AK (keptV a.al onto).length cK),eOb a onto ⟨bq,AK,cK,AX,cX,p.A2,p.c2⟩ vq,eBlk ob 118 [.slice (some ⟨bq,0,none⟩) a.n.toNat a.n.toNat,.slice AK (keptV a.al onto).length cK,.slice AX (erasV a.al onto).length cX,.slice p.A2 a.mr.length p.c2],eBlk rb 34 [.slice none 0 0,.int .i64 0,.slice none 0 0,.slice none 0 0],eBlk tb 34 [.slice p.A1 a.al.length p.c1,.int .i64 a.n,.slice p.A2 a.mr.length p.c2,.slice p.A3 a.ed.length p.c3]] (w6.setCell ⟨nb,2,none⟩ (.slice A1 (MK.length + 1) c1))) := by
         have h := S10.out.set 0 rfl 2 (.slice A1 (MK.length + 1) c1);rw [show (MK ++ [(i : Int)]).length = MK.length + 1 by simp];exact h
        clear S10 hmle;go_wp2_with fail
        go_meet
        exact ⟨MK ++ [(i : Int)],A1,c1,HK.out,S11.out⟩
     case rest =>
      clear S HMK HMLE HMF HU;obtain ⟨MK',AM',cM',HMK,S⟩ := hcut;have o1 := BlkAt.cell (S.out.get 8 rfl) 1; simp only [List.getElem?_cons_succ,List.getElem?_cons_zero] at o1;go_wp2_with fail
      clear o1;go_loopw [65,10] (fun vj vl wr => ∃ (j : Nat) (gs : List (List Int)) (ed : List Ed) (raw : List PrV) (vs : List Pw) (fs : List Nat) (AR : Option Addr) (cR : Nat) (AE : Option Addr) (cE : Nat),vj = .int .i64 ↑j ∧ vl = .slice AR raw.length cR ∧ j ≤ (keptV a.al onto).length ∧ Hid (UIG (prS I a onto) i j v gs ed) ∧ Hid (MK' = mkV (mkG (mkdP a.mr) gs) (i + 1)) ∧ Hid (vs.map (·.w) = gs) ∧ (SepW w [eBlk nb 34 [.slice AK (keptV a.al onto).length cK,.int .i64 0,.slice AM' MK'.length cM',.slice AE ed.length cE],eInts MK' (.slice AM' MK'.length cM'),eEds ed (.slice AE ed.length cE),eWds fs raw vs,eOwn encW 1 31 raw (.slice AR raw.length cR),eMap keyS veI mp (idxS gs),eInts (keptV a.al onto) (.slice AK (keptV a.al onto).length cK),eOb a onto ⟨bq,AK,cK,AX,cX,p.A2,p.c2⟩ vq,eBlk ob 118 [.slice (some ⟨bq,0,none⟩) a.n.toNat a.n.toNat,.slice AK (keptV a.al onto).length cK,.slice AX (erasV a.al onto).length cX,.slice p.A2 a.mr.length p.c2],eBlk rb 34 [.slice none 0 0,.int .i64 0,.slice none 0 0,.slice none 0 0],eBlk tb 34 [.slice p.A1 a.al.length p.c1,.int .i64 a.n,.slice p.A2 a.mr.length p.c2,.slice p.A3 a.ed.length p.c3]] wr)) (fun vj _ _ => (keptV a.al onto).length - (intOf vj).toNat)
      case atStart => exact ⟨0,gs,ed,raw,vs,fs,_,cR,AE,cE,rfl,rfl,Nat.zero_le _,UIH.out,HMK.out,HG.out,S.out⟩
      case round =>
       clear S HMK UIH HV HG hlt hltI hfl hedl hil HVL HRL HRr HPp HPw;obtain ⟨j,gs,ed,raw,vs,fs,AR,cR,AE,cE,rfl,rfl,hj,UIJ,HMK,HG,S⟩ := hrel;have hfl : gs.length ≤ 4000 := HF.out gs UIJ.out.nd UIJ.out.is;have hedl := UIJ.out.el;have HVL : Hid (vs.length = gs.length) := by rw [Hid,← HG.out,List.length_map]
       have HRL : Hid (raw.length = gs.length) := (S.out.get 3 rfl).1.trans HVL.out;by_cases hlj : j < (keptV a.al onto).length
       · obtain ⟨ba,oa,e,hAe,hb,he,ce⟩ := IntsAt.at (S.out.ints 6 rfl) hlj;have HE : Hid ((prS I a onto).all[j]? = some e) := he;have hv := UIJ.out.at_;have hlt := (List.getElem?_eq_some_iff.1 hv).1;have hltI : i < raw.length := by have := HRL.out; omega
         obtain ⟨gR,oR,r,rfl,hr,hrc⟩ := S.out.wdAt 4 rfl (k := i) (by have := HRL.out; omega);obtain ⟨pw,hp⟩ : ∃ pw,vs[i]? = some pw := ⟨_,List.getElem?_eq_getElem (by have := HVL.out; omega)⟩;have hpw : pw.w = v := by
          have h := congrArg (fun l : List (List Int) => l[i]?) HG.out;simp only [List.getElem?_map,hp,hv,Option.map_some,Option.some.injEq] at h;exact h
         obtain ⟨_,_,hwd⟩ := (S.out.get 3 rfl).2.2 i r pw hr hp;rw [hpw] at hwd;have HWI : Hid (IntsAt wr r.A v) := hwd.ints (S.out.get 3 rfl).2.1;have hrn : r.n = v.length := hwd.1;obtain ⟨rX,rY,rA,rn,rc⟩ := r;dsimp only at hrn hrc HWI;subst hrn;obtain ⟨nx,hnx⟩ : ∃ l,l = nextP a.n.toNat a.ed (erasV a.al onto) v e := ⟨_,rfl⟩;have HNX := Lib.hid hnx;have HEF : Hid ((prS I a onto).eff e v = if nx = [] then none else some nx) := by rw [Hid,hnx]; rfl
         clear hnx he hb hr hp hpw hwd hv;subst hAe;go_upto_region 18 with fail
         go_cut [15] (fun v15 wx => ∃ (A' : Option Addr) (c' : Nat),v15 = .slice A' nx.length c' ∧ (SepW w [eInts nx (.slice A' nx.length c'),eBlk nb 34 [.slice (some ⟨ba,oa,none⟩) (keptV a.al onto).length cK,.int .i64 0,.slice AM' MK'.length cM',.slice AE ed.length cE],eInts MK' (.slice AM' MK'.length cM'),eEds ed (.slice AE ed.length cE),eWds fs raw vs,eOwn encW 1 31 raw (.slice (some ⟨gR,oR,none⟩) raw.length cR),eMap keyS veI mp (idxS gs),eInts (keptV a.al onto) (.slice (some ⟨ba,oa,none⟩) (keptV a.al onto).length cK),eOb a onto ⟨bq,(some ⟨ba,oa,none⟩),cK,AX,cX,p.A2,p.c2⟩ vq,eBlk ob 118 [.slice (some ⟨bq,0,none⟩) a.n.toNat a.n.toNat,.slice (some ⟨ba,oa,none⟩) (keptV a.al onto).length cK,.slice AX (erasV a.al onto).length cX,.slice p.A2 a.mr.length p.c2],eBlk rb 34 [.slice none 0 0,.int .i64 0,.slice none 0 0,.slice none 0 0],eBlk tb 34 [.slice p.A1 a.al.length p.c1,.int .i64 a.n,.slice p.A2 a.mr.length p.c2,.slice p.A3 a.ed.length p.c3]] wx))
         case first =>
          have o0 := BlkAt.cell (S.out.get 8 rfl) 0; have o1 := BlkAt.cell (S.out.get 8 rfl) 1; have o2 := BlkAt.cell (S.out.get 8 rfl) 2; have o3 := BlkAt.cell (S.out.get 8 rfl) 3; simp only [List.getElem?_cons_succ,List.getElem?_cons_zero] at o0 o1 o2 o3;have SD := Lib.hid S.out.drew;have HWD : Hid (IntsAt wr.drew rA v) := HWI.out.below IntE.stays (Below.refl _ wr).drew;have CN := Lib.hid (next_c a onto ⟨bq,(some ⟨ba,oa,none⟩),cK,AX,cX,p.A2,p.c2⟩ rA rc v e wr.drew HR.out (HOB.out _ (SD.out.get 7 rfl) (SD.out.get 6 rfl) SD.out.below) HWD.out (HII.out v HVI.out).1 (by omega) (by omega) (by have := Nat.mul_le_mul (show v.length + 1 ≤ 127 by omega) hel; omega));rw [← HNX.out] at CN;go_still_tail 6,(by kernel_rfl)
          change wpList _ _ _ _ _ wr.drew
          go_wp2_with fail
          refine CN.out.mono ?_;rintro e' w8 ⟨A',c',rfl,ho,hb⟩;have S2 := Lib.hid (SD.out.newI ho.out hb);clear CN ho hb SD S o0 o1 o2 o3;go_wp2_with fail
          go_meet
          exact ⟨A',c',rfl,S2.out⟩
         case rest =>
          clear S hrc HWI ce;obtain ⟨A',c',rfl,S⟩ := hcut;by_cases hx0 : nx = []
          · have hef : (prS I a onto).eff e v = none := by rw [HEF.out,if_pos hx0]
            have UIN : Hid (UIG (prS I a onto) i (j + 1) v gs ed) := UIJ.out.none_ HE.out hef;clear hef HEF HNX;subst hx0;go_wp2_with fail
            go_roundw
            case rel => exact ⟨j + 1,gs,ed,raw,vs,fs,some ⟨gR,oR,none⟩,cR,AE,cE,by go_num,rfl,by omega,UIN.out,HMK.out,HG.out,S.out.drop1⟩
            case measure => simp [intOf]; omega
          · have HEF2 : Hid ((prS I a onto).eff e v = some nx) := by rw [Hid,HEF.out,if_neg hx0]
            have HIN : I nx := HS.out.go v e nx HVI.out HEF2.out;have hxl : ((nx.length : Int) == 0) = false := beq_eq_false_iff_ne.2 (by have : nx.length ≠ 0 := fun g => hx0 (List.eq_nil_of_length_eq_zero g); omega);have hxl2 : (nx.length == 0) = false := beq_eq_false_iff_ne.2 (fun g => hx0 (List.eq_nil_of_length_eq_zero g));have hnl := (HII.out nx HIN).2;have HKG : Hid (KyOk gs) := fun y hy => HKY.out y (UIJ.out.is y hy);have HKN : Hid (∀ x,x ∈ nx → 0 ≤ x ∧ x < 127) := HKY.out nx HIN;have CK := Lib.hid (key_c A' c' nx wc (S.out.ints 0 rfl) (by omega) HKN.out);clear hx0 HEF HNX;go_wp2_with fail
            refine CK.out.mono ?_;rintro e' w9 ⟨rfl,hb⟩;have S2 := Lib.hid (S.out.next hb);clear CK hb S;have hlk := (MapG.look okS Tryz.underlying122 zeroI (S2.out.get 6 rfl) (keyB nx)).1;by_cases hin : nx ∈ gs
            · have hix := idxS_in HKG.out HKN.out hin;have UIN : Hid (UIG (prS I a onto) i (j + 1) v gs (ed ++ [⟨i,e,((idxK gs nx : Nat) : Int)⟩])) := UIJ.out.old HS.out HE.out HEF2.out hin;rw [hix] at hlk;obtain ⟨td,htd⟩ : ∃ t : Int,t = ((idxK gs nx : Nat) : Int) := ⟨_,rfl⟩;rw [← htd] at hlk UIN;simp only [Option.getD_some,Option.isSome_some,veI] at hlk;clear htd hix;have o3 := BlkAt.cell (S2.out.get 1 rfl) 3; simp only [List.getElem?_cons_succ,List.getElem?_cons_zero] at o3;go_wp2_with (at_builtin; refine wpList_pushS rfl _ _ 32 rfl (S2.out.alloc 76 [.int .i64 ↑i,.int .i64 e,.int .i64 td]) 4 rfl Tryz.underlying32 _ 24 edInfo rfl (by decide) rfl (⟨(i : Int),e,td⟩ : Ed) _ rfl rfl (fun k u hk => (BlkAt.cell (BlkAt.new _ _ _) k).trans hk) (edOne _) (by omega) (by decide) ?_)
              intro A3' c3' w13 S11 _;have S12 : (SepW w [eInts nx (.slice A' nx.length c'),eBlk nb 34 [.slice (some ⟨ba,oa,none⟩) (keptV a.al onto).length cK,.int .i64 0,.slice AM' MK'.length cM',.slice AE ed.length cE],eInts MK' (.slice AM' MK'.length cM'),eEds (ed ++ [(⟨(i : Int),e,td⟩ : Ed)]) (.slice A3' (ed.length + 1) c3'),eWds fs raw vs,eOwn encW 1 31 raw (.slice (some ⟨gR,oR,none⟩) raw.length cR),eMap keyS veI mp (idxS gs),eInts (keptV a.al onto) (.slice (some ⟨ba,oa,none⟩) (keptV a.al onto).length cK),eOb a onto ⟨bq,(some ⟨ba,oa,none⟩),cK,AX,cX,p.A2,p.c2⟩ vq,eBlk ob 118 [.slice (some ⟨bq,0,none⟩) a.n.toNat a.n.toNat,.slice (some ⟨ba,oa,none⟩) (keptV a.al onto).length cK,.slice AX (erasV a.al onto).length cX,.slice p.A2 a.mr.length p.c2],eBlk rb 34 [.slice none 0 0,.int .i64 0,.slice none 0 0,.slice none 0 0],eBlk tb 34 [.slice p.A1 a.al.length p.c1,.int .i64 a.n,.slice p.A2 a.mr.length p.c2,.slice p.A3 a.ed.length p.c3]] w13) := S11.drop1;clear S11 o3;have o3 := BlkAt.cell (S12.out.get 1 rfl) 3; simp only [List.getElem?_cons_succ,List.getElem?_cons_zero] at o3;have o3f := BlkAt.free (S12.out.get 1 rfl) 3
              have S13 : (SepW w [eInts nx (.slice A' nx.length c'),eBlk nb 34 [.slice (some ⟨ba,oa,none⟩) (keptV a.al onto).length cK,.int .i64 0,.slice AM' MK'.length cM',.slice A3' (ed ++ [(⟨(i : Int),e,td⟩ : Ed)]).length c3'],eInts MK' (.slice AM' MK'.length cM'),eEds (ed ++ [(⟨(i : Int),e,td⟩ : Ed)]) (.slice A3' (ed ++ [(⟨(i : Int),e,td⟩ : Ed)]).length c3'),eWds fs raw vs,eOwn encW 1 31 raw (.slice (some ⟨gR,oR,none⟩) raw.length cR),eMap keyS veI mp (idxS gs),eInts (keptV a.al onto) (.slice (some ⟨ba,oa,none⟩) (keptV a.al onto).length cK),eOb a onto ⟨bq,(some ⟨ba,oa,none⟩),cK,AX,cX,p.A2,p.c2⟩ vq,eBlk ob 118 [.slice (some ⟨bq,0,none⟩) a.n.toNat a.n.toNat,.slice (some ⟨ba,oa,none⟩) (keptV a.al onto).length cK,.slice AX (erasV a.al onto).length cX,.slice p.A2 a.mr.length p.c2],eBlk rb 34 [.slice none 0 0,.int .i64 0,.slice none 0 0,.slice none 0 0],eBlk tb 34 [.slice p.A1 a.al.length p.c1,.int .i64 a.n,.slice p.A2 a.mr.length p.c2,.slice p.A3 a.ed.length p.c3]] (w13.setCell ⟨nb,3,none⟩ (.slice A3' (ed.length + 1) c3'))) := by
               have h := S12.out.set 1 rfl 3 (.slice A3' (ed.length + 1) c3');rw [show (ed ++ [(⟨(i : Int),e,td⟩ : Ed)]).length = ed.length + 1 by simp];exact h
              clear S12;go_wp2_with fail
              go_roundw
              case rel => exact ⟨j + 1,gs,(ed ++ [(⟨(i : Int),e,td⟩ : Ed)]),raw,vs,fs,some ⟨gR,oR,none⟩,cR,A3',c3',by go_num,rfl,by omega,UIN.out,HMK.out,HG.out,S13.out.drop1⟩
              case measure => simp [intOf]; omega
            · have hix := idxS_out HKG.out HKN.out hin;have UIN : Hid (UIG (prS I a onto) i (j + 1) v (gs ++ [nx]) (ed ++ [⟨i,e,(gs.length : Int)⟩])) := UIJ.out.new HS.out HE.out HEF2.out hin;have hfl2 : gs.length + 1 ≤ 4000 := by have := HF.out _ UIN.out.nd UIN.out.is; rw [List.length_append] at this; exact this
              have HMK2 : Hid (MK' = mkV (mkG (mkdP a.mr) (gs ++ [nx])) (i + 1)) := by rw [Hid,mkG_push gs nx (by omega)]; exact HMK.out
              have HPU : Hid ((fun u : ByteArray => if u = keyB nx then some (raw.length : Int) else idxS gs u) = idxS (gs ++ [nx])) := by rw [HRL.out]; exact idxS_push (gs := gs) (v := nx) (fun g => hin ((keyB_mem HKG.out HKN.out).1 g))
              have HG2 : Hid ((vs ++ [(⟨0,0,nx⟩ : Pw)]).map (·.w) = gs ++ [nx]) := by rw [Hid,List.map_append,HG.out]; rfl
              rw [hix] at hlk;simp only [Option.getD_none,Option.isSome_none,veI] at hlk;clear hix hin;have CK := Lib.hid (key_c A' c' nx w9 (S2.out.ints 0 rfl) (by omega) HKN.out);go_wp2_with fail
              refine CK.out.mono ?_;rintro e' w10 ⟨rfl,hb⟩;have S3 := Lib.hid (S2.out.next hb);clear CK hb S2 hlk;go_upto_region 24 with (refine wpList_mapUpdateS rfl _ _ _ 122 9 3 rfl S3.out 6 rfl okS Tryz.underlying122 (keyB nx) (raw.length : Int) rfl rfl rfl ?_)
              intro w11 S4' _;rw [HPU.out] at S4';have S4 := Lib.hid S4';clear S4' S3;go_upto_region 25 with (at_builtin; refine wpList_pushS rfl _ _ 47 rfl (S4.out.alloc 31 [.slice A' nx.length c']) 6 rfl Tryz.underlying47 _ 24 wdInfo rfl (by decide) rfl ⟨0,0,A',nx.length,c'⟩ _ rfl rfl (fun k u hk => (BlkAt.cell ((S4.out.alloc 31 [.slice A' nx.length c']).get 0 rfl) k).trans hk) (wdOne _) (by have := HRL.out; omega) (by decide) ?_)
              intro A7 c7 w12 S5' _;have S5 := Sep.wdsPush (S5'.pick [1,5,2,3,4,6,7,8,9,10,11,12] (by decide)) 0 0;have S6 : (SepW w [eBlk nb 34 [.slice (some ⟨ba,oa,none⟩) (keptV a.al onto).length cK,.int .i64 0,.slice AM' MK'.length cM',.slice AE ed.length cE],eInts MK' (.slice AM' MK'.length cM'),eEds ed (.slice AE ed.length cE),eWds ((Value.slice A' nx.length c').ownBlock.toList ++ fs) (raw ++ [(⟨0,0,A',nx.length,c'⟩ : PrV)]) (vs ++ [(⟨0,0,nx⟩ : Pw)]),eOwn encW 1 31 (raw ++ [(⟨0,0,A',nx.length,c'⟩ : PrV)]) (.slice A7 (raw ++ [(⟨0,0,A',nx.length,c'⟩ : PrV)]).length c7),eMap keyS veI mp (idxS (gs ++ [nx])),eInts (keptV a.al onto) (.slice (some ⟨ba,oa,none⟩) (keptV a.al onto).length cK),eOb a onto ⟨bq,(some ⟨ba,oa,none⟩),cK,AX,cX,p.A2,p.c2⟩ vq,eBlk ob 118 [.slice (some ⟨bq,0,none⟩) a.n.toNat a.n.toNat,.slice (some ⟨ba,oa,none⟩) (keptV a.al onto).length cK,.slice AX (erasV a.al onto).length cX,.slice p.A2 a.mr.length p.c2],eBlk rb 34 [.slice none 0 0,.int .i64 0,.slice none 0 0,.slice none 0 0],eBlk tb 34 [.slice p.A1 a.al.length p.c1,.int .i64 a.n,.slice p.A2 a.mr.length p.c2,.slice p.A3 a.ed.length p.c3]] w12) := by
               rw [show (raw ++ [(⟨0,0,A',nx.length,c'⟩ : PrV)]).length = raw.length + 1 by simp];exact S5.pick [1,2,3,0,4,5,6,7,8,9,10] (by decide)
              clear S5 S5' S4;go_upto_region 25 with fail
              have o3 := BlkAt.cell (S6.out.get 0 rfl) 3; simp only [List.getElem?_cons_succ,List.getElem?_cons_zero] at o3;go_wp2_with (at_builtin; refine wpList_pushS rfl _ _ 32 rfl (S6.out.alloc 76 [.int .i64 ↑i,.int .i64 e,.int .i64 (raw.length : Int)]) 3 rfl Tryz.underlying32 _ 24 edInfo rfl (by decide) rfl (⟨(i : Int),e,(raw.length : Int)⟩ : Ed) _ rfl rfl (fun k u hk => (BlkAt.cell (BlkAt.new _ _ _) k).trans hk) (edOne _) (by omega) (by decide) ?_)
              intro A3' c3' w13 S11 _;have S12 : (SepW w [eBlk nb 34 [.slice (some ⟨ba,oa,none⟩) (keptV a.al onto).length cK,.int .i64 0,.slice AM' MK'.length cM',.slice AE ed.length cE],eInts MK' (.slice AM' MK'.length cM'),eEds (ed ++ [(⟨(i : Int),e,(raw.length : Int)⟩ : Ed)]) (.slice A3' (ed.length + 1) c3'),eWds ((Value.slice A' nx.length c').ownBlock.toList ++ fs) (raw ++ [(⟨0,0,A',nx.length,c'⟩ : PrV)]) (vs ++ [(⟨0,0,nx⟩ : Pw)]),eOwn encW 1 31 (raw ++ [(⟨0,0,A',nx.length,c'⟩ : PrV)]) (.slice A7 (raw ++ [(⟨0,0,A',nx.length,c'⟩ : PrV)]).length c7),eMap keyS veI mp (idxS (gs ++ [nx])),eInts (keptV a.al onto) (.slice (some ⟨ba,oa,none⟩) (keptV a.al onto).length cK),eOb a onto ⟨bq,(some ⟨ba,oa,none⟩),cK,AX,cX,p.A2,p.c2⟩ vq,eBlk ob 118 [.slice (some ⟨bq,0,none⟩) a.n.toNat a.n.toNat,.slice (some ⟨ba,oa,none⟩) (keptV a.al onto).length cK,.slice AX (erasV a.al onto).length cX,.slice p.A2 a.mr.length p.c2],eBlk rb 34 [.slice none 0 0,.int .i64 0,.slice none 0 0,.slice none 0 0],eBlk tb 34 [.slice p.A1 a.al.length p.c1,.int .i64 a.n,.slice p.A2 a.mr.length p.c2,.slice p.A3 a.ed.length p.c3]] w13) := by
               first
               | exact S11.drop1
               | (have h := S11.drop1; rw [show (raw ++ [(⟨0,0,A',nx.length,c'⟩ : PrV)]).length = raw.length + 1 by simp]; exact h)
              clear S11 o3;have o3 := BlkAt.cell (S12.out.get 0 rfl) 3; simp only [List.getElem?_cons_succ,List.getElem?_cons_zero] at o3;have o3f := BlkAt.free (S12.out.get 0 rfl) 3;have S13 : (SepW w [eBlk nb 34 [.slice (some ⟨ba,oa,none⟩) (keptV a.al onto).length cK,.int .i64 0,.slice AM' MK'.length cM',.slice A3' (ed ++ [(⟨(i : Int),e,(raw.length : Int)⟩ : Ed)]).length c3'],eInts MK' (.slice AM' MK'.length cM'),eEds (ed ++ [(⟨(i : Int),e,(raw.length : Int)⟩ : Ed)]) (.slice A3' (ed ++ [(⟨(i : Int),e,(raw.length : Int)⟩ : Ed)]).length c3'),eWds ((Value.slice A' nx.length c').ownBlock.toList ++ fs) (raw ++ [(⟨0,0,A',nx.length,c'⟩ : PrV)]) (vs ++ [(⟨0,0,nx⟩ : Pw)]),eOwn encW 1 31 (raw ++ [(⟨0,0,A',nx.length,c'⟩ : PrV)]) (.slice A7 (raw ++ [(⟨0,0,A',nx.length,c'⟩ : PrV)]).length c7),eMap keyS veI mp (idxS (gs ++ [nx])),eInts (keptV a.al onto) (.slice (some ⟨ba,oa,none⟩) (keptV a.al onto).length cK),eOb a onto ⟨bq,(some ⟨ba,oa,none⟩),cK,AX,cX,p.A2,p.c2⟩ vq,eBlk ob 118 [.slice (some ⟨bq,0,none⟩) a.n.toNat a.n.toNat,.slice (some ⟨ba,oa,none⟩) (keptV a.al onto).length cK,.slice AX (erasV a.al onto).length cX,.slice p.A2 a.mr.length p.c2],eBlk rb 34 [.slice none 0 0,.int .i64 0,.slice none 0 0,.slice none 0 0],eBlk tb 34 [.slice p.A1 a.al.length p.c1,.int .i64 a.n,.slice p.A2 a.mr.length p.c2,.slice p.A3 a.ed.length p.c3]] (w13.setCell ⟨nb,3,none⟩ (.slice A3' (ed.length + 1) c3'))) := by
               have h := S12.out.set 0 rfl 3 (.slice A3' (ed.length + 1) c3');rw [show (ed ++ [(⟨(i : Int),e,(raw.length : Int)⟩ : Ed)]).length = ed.length + 1 by simp];exact h
              clear S12;go_wp2_with fail
              go_roundw
              case rel => exact ⟨j + 1,(gs ++ [nx]),(ed ++ [(⟨(i : Int),e,(raw.length : Int)⟩ : Ed)]),(raw ++ [(⟨0,0,A',nx.length,c'⟩ : PrV)]),(vs ++ [(⟨0,0,nx⟩ : Pw)]),((Value.slice A' nx.length c').ownBlock.toList ++ fs),A7,c7,A3',c3',by go_num,by first | rfl | simp,by omega,by first | exact UIN.out | (have h := UIN.out; rw [← HRL.out] at h; exact h),HMK2.out,HG2.out,S13.out⟩
              case measure => simp [intOf]; omega
       · obtain rfl : j = (keptV a.al onto).length := by omega
         have UO1 : Hid (UOG (prS I a onto) (i + 1) gs ed) := UIG.fin HS.out UIJ.out;have hil := UO1.out.il;have hgt : raw.length ≤ 4096 := by have := HRL.out; omega
         have hgt2 : ¬ 4096 < raw.length := by omega
         have hgt3 : decide (4096 < (raw.length : Int)) = false := decide_eq_false (by omega);have hgt4 : decide ((raw.length : Int) > 4096) = false := decide_eq_false (by omega);clear UIJ;go_wp2_with fail
         go_roundw
         case rel => exact ⟨i + 1,gs,ed,MK',raw,vs,fs,AR,cR,AM',cM',AE,cE,by go_num,rfl,UO1.out,HMK.out,HG.out,S.out⟩
         case measure => simp [intOf]; omega
  · obtain rfl : i = gs.length := by omega
    have hgeI : ¬ gs.length < raw.length := by have := HRL.out; omega
    have UFD : Hid (UfdG (prS I a onto) gs ed) := UH.out;clear UH;have o1 := BlkAt.cell (S.out.get 0 rfl) 1; simp only [List.getElem?_cons_succ,List.getElem?_cons_zero] at o1;have o1f := BlkAt.free (S.out.get 0 rfl) 1;have S2 : (SepW w [eBlk nb 34 [.slice AK (keptV a.al onto).length cK,.int .i64 (raw.length : Int),.slice AM MK.length cM,.slice AE ed.length cE],eInts MK (.slice AM MK.length cM),eEds ed (.slice AE ed.length cE),eWds fs raw vs,eOwn encW 1 31 raw (.slice AR raw.length cR),eMap keyS veI mp (idxS gs),eInts (keptV a.al onto) (.slice AK (keptV a.al onto).length cK),eOb a onto ⟨bq,AK,cK,AX,cX,p.A2,p.c2⟩ vq,eBlk ob 118 [.slice (some ⟨bq,0,none⟩) a.n.toNat a.n.toNat,.slice AK (keptV a.al onto).length cK,.slice AX (erasV a.al onto).length cX,.slice p.A2 a.mr.length p.c2],eBlk rb 34 [.slice none 0 0,.int .i64 0,.slice none 0 0,.slice none 0 0],eBlk tb 34 [.slice p.A1 a.al.length p.c1,.int .i64 a.n,.slice p.A2 a.mr.length p.c2,.slice p.A3 a.ed.length p.c3]] (wr.setCell ⟨nb,1,none⟩ (.int .i64 (raw.length : Int)))) := S.out.set 0 rfl 1 (.int .i64 (raw.length : Int));clear S;go_upto_region 30 with fail
    refine wp_world (fun V => (SepW w [eBlk nb 34 [.slice AK (keptV a.al onto).length cK,.int .i64 (raw.length : Int),.slice AM MK.length cM,.slice AE ed.length cE],eInts MK (.slice AM MK.length cM),eEds ed (.slice AE ed.length cE),eWds fs raw vs,eOwn encW 1 31 raw (.slice AR raw.length cR),eMap keyS veI mp (idxS gs),eInts (keptV a.al onto) (.slice AK (keptV a.al onto).length cK),eOb a onto ⟨bq,AK,cK,AX,cX,p.A2,p.c2⟩ vq,eBlk ob 118 [.slice (some ⟨bq,0,none⟩) a.n.toNat a.n.toNat,.slice AK (keptV a.al onto).length cK,.slice AX (erasV a.al onto).length cX,.slice p.A2 a.mr.length p.c2],eBlk rb 34 [.slice none 0 0,.int .i64 0,.slice none 0 0,.slice none 0 0],eBlk tb 34 [.slice p.A1 a.al.length p.c1,.int .i64 a.n,.slice p.A2 a.mr.length p.c2,.slice p.A3 a.ed.length p.c3]] V)) S2 fun W9 S3 => ?_;clear S2 o1 o1f;have o0 := BlkAt.cell (S3.out.get 0 rfl) 0; have o1 := BlkAt.cell (S3.out.get 0 rfl) 1; have o2 := BlkAt.cell (S3.out.get 0 rfl) 2; have o3 := BlkAt.cell (S3.out.get 0 rfl) 3; simp only [List.getElem?_cons_succ,List.getElem?_cons_zero] at o0 o1 o2 o3;have r0 := BlkAt.cell (S3.out.get 9 rfl) 0; have r1 := BlkAt.cell (S3.out.get 9 rfl) 1; have r2 := BlkAt.cell (S3.out.get 9 rfl) 2; have r3 := BlkAt.cell (S3.out.get 9 rfl) 3; simp only [List.getElem?_cons_succ,List.getElem?_cons_zero] at r0 r1 r2 r3;have f0 := BlkAt.free (S3.out.get 9 rfl) 0;have f1 := BlkAt.free (S3.out.get 9 rfl) 1;have f2 := BlkAt.free (S3.out.get 9 rfl) 2;have f3 := BlkAt.free (S3.out.get 9 rfl) 3
    have S4 : (SepW w [eBlk nb 34 [.slice AK (keptV a.al onto).length cK,.int .i64 (raw.length : Int),.slice AM MK.length cM,.slice AE ed.length cE],eInts MK (.slice AM MK.length cM),eEds ed (.slice AE ed.length cE),eWds fs raw vs,eOwn encW 1 31 raw (.slice AR raw.length cR),eMap keyS veI mp (idxS gs),eInts (keptV a.al onto) (.slice AK (keptV a.al onto).length cK),eOb a onto ⟨bq,AK,cK,AX,cX,p.A2,p.c2⟩ vq,eBlk ob 118 [.slice (some ⟨bq,0,none⟩) a.n.toNat a.n.toNat,.slice AK (keptV a.al onto).length cK,.slice AX (erasV a.al onto).length cX,.slice p.A2 a.mr.length p.c2],eBlk rb 34 [.slice AK (keptV a.al onto).length cK,.int .i64 (raw.length : Int),.slice AM MK.length cM,.slice AE ed.length cE],eBlk tb 34 [.slice p.A1 a.al.length p.c1,.int .i64 a.n,.slice p.A2 a.mr.length p.c2,.slice p.A3 a.ed.length p.c3]] ((((W9.setCell ⟨rb,0,none⟩ (.slice AK (keptV a.al onto).length cK)).setCell ⟨rb,1,none⟩ (.int .i64 (raw.length : Int))).setCell ⟨rb,2,none⟩ (.slice AM MK.length cM)).setCell ⟨rb,3,none⟩ (.slice AE ed.length cE))) := (((S3.out.set 9 rfl 0 _).set 9 rfl 1 _).set 9 rfl 2 _).set 9 rfl 3 _;have q0 := BlkAt.cell (S4.out.get 9 rfl) 0; have q1 := BlkAt.cell (S4.out.get 9 rfl) 1; have q2 := BlkAt.cell (S4.out.get 9 rfl) 2; have q3 := BlkAt.cell (S4.out.get 9 rfl) 3; simp only [List.getElem?_cons_succ,List.getElem?_cons_zero] at q0 q1 q2 q3;clear S3;go_wp2_with fail
    refine bodyPost_ret (v := .tuple #[.agg #[.slice AK (keptV a.al onto).length cK,.int .i64 (raw.length : Int),.slice AM MK.length cM,.slice AE ed.length cE],.slice AR raw.length cR,.int .i64 0]) (by simp [results,Tryz.results32,go_sem, *]) rfl ?_;have S5 := S4.out.pick [6,1,2,4,3] (by decide);obtain rfl := HMK.out;refine ⟨gs,ed,⟨AK,cK,AM,cM,AE,cE⟩,AR,cR,fs,raw,vs,?_,UFD.out,hfl,HG.out,S5⟩;rw [HRL.out];rfl
section
def zer (m : Md) : List Int := List.replicate m.ac.length 0
def tdS (m : Md) : Sy Ck := ⟨m.all,m.eff,m.start,m.Is⟩
theorem tdS_ok {m : Md} (h : m.Ok) (hn : 0 < m.a.n) : (tdS m).Ok := ⟨all_incr h,all_len h,all_ok h,Md.Is.start h hn,fun _ _ _ hv ht => Md.Is.eff h hv ht⟩
theorem stepG {σ : Type} [DecidableEq σ] {m : Sy σ} (hm : m.Ok) {v t : σ} {e : Int} : stepS (outFG m) v e = some t ↔ e ∈ m.all ∧ m.eff e v = some t := by
 constructor
 · exact fun h => mem_outG (stepS_some h)
 · rintro ⟨h1,h2⟩;refine stepS_mem (outG_ups hm v) ?_;show (e,t) ∈ outEG m v m.all
   unfold outEG
   exact List.mem_filterMap.2 ⟨e,h1,by rw [h2]; rfl⟩
theorem stepG_no {σ : Type} [DecidableEq σ] {m : Sy σ} (hm : m.Ok) {v : σ} {e : Int} (h : stepS (outFG m) v e = none) (he : e ∈ m.all) : m.eff e v = none := by
 cases hs : m.eff e v with
 | none => rfl
 | some t => have := (stepG hm).2 ⟨he,hs⟩; rw [h] at this; cases this
section
variable {m : Md}
theorem rlx_len : m.rlx.ac.length = m.ac.length := by simp [Md.rlx]
theorem rlx_dfs : m.rlx.dfs = zer m := by
 unfold Md.dfs Md.rlx zer
 simp only [List.map_map];refine List.ext_getElem (by simp) fun i h1 h2 => ?_;simp [Ac.df,Ac.rlx]
theorem tmr_zer (s : Int) (i : Nat) : tmr (s,zer m) i = 0 := by
 unfold tmr zer
 simp only [List.getD_eq_getElem?_getD,List.getElem?_replicate];split <;> rfl
theorem rlx_at {i : Nat} (h : i < m.ac.length) : (m.rlx.at i).up = -1 ∧ (m.rlx.at i).lo = 0 := by
 have h1 : m.rlx.ac[i]? = some ((m.ac[i]).rlx) := by simp [Md.rlx,h]
 rw [Md.at_get h1];exact ⟨rfl,rfl⟩
theorem rlx_df {i : Nat} (h : i < m.ac.length) : (m.rlx.at i).df = 0 := by
 obtain ⟨h1,h2⟩ := rlx_at h;unfold Ac.df
 rw [h1,h2]; rfl
theorem rlx_nx (hm : m.Ok) (s : Int) {e : Int} (h : e ∈ m.a.al) : m.rlx.nx s (m.rlx.idx e) = nextV m.a.ed s e := by
 obtain ⟨p,hp,hpe⟩ := List.mem_iff_getElem.1 h;have hp2 : m.rlx.a.al[p]? = some e := by rw [← hpe]; exact List.getElem?_eq_getElem hp
 rw [Md.idx_at hm.rlx hp2];unfold Md.nx
 congr 1
 have hl := hm.rlx.len;obtain ⟨x,hx⟩ : ∃ x,m.rlx.ac[p]? = some x := ⟨_,List.getElem?_eq_getElem (by rw [hl]; exact hp)⟩;rw [Md.ev_get hx];have := hm.rlx.ev;rw [← this,List.getElem?_map,hx] at hp2;simpa using hp2
theorem rlx_tick (hm : m.Ok) (s : Int) : m.rlx.eff m.tk (s,zer m) = some (s,zer m) := by
 show (if m.tk = m.rlx.tk then m.rlx.tick (s,zer m) else m.rlx.act (s,zer m) (m.rlx.idx m.tk)) = _
 rw [if_pos (show m.tk = m.rlx.tk from rfl)];unfold Md.tick
 have h1 : (List.range m.rlx.ac.length).any (m.rlx.urg (s,zer m)) = false := by
  rw [List.any_eq_false];intro i hi;have hi2 : i < m.ac.length := by have := List.mem_range.1 hi; rw [rlx_len] at this; exact this
  unfold Md.urg
  rw [(rlx_at hi2).1];simp
 rw [h1];simp only [Bool.false_eq_true,if_false];congr 1
 refine Prod.ext rfl (list_eq_of (n := m.ac.length) (by rw [Md.fall_len,rlx_len]) (by simp [zer]) fun i hi => ?_);rw [Md.fall_get _ _ (by rw [rlx_len]; exact hi),tmr_zer,if_neg (by omega)];simp [zer,hi]
theorem rlx_act (hm : m.Ok) (s : Int) {e : Int} (h : e ∈ m.a.al) : m.rlx.eff e (s,zer m) = if 0 ≤ nextV m.a.ed s e then some (nextV m.a.ed s e,zer m) else none := by
 have hne : e ≠ m.rlx.tk := fun g => hm.no (by rw [g] at h; exact h);unfold Md.eff
 rw [if_neg hne];unfold Md.act
 have hi : m.rlx.idx e < m.ac.length := by
  obtain ⟨p,hp,hpe⟩ := List.mem_iff_getElem.1 h;rw [Md.idx_at hm.rlx (p := p) (by rw [← hpe]; exact List.getElem?_eq_getElem hp),hm.len];exact hp
 have hmay : m.rlx.may (s,zer m) (m.rlx.idx e) = decide (0 ≤ nextV m.a.ed s e) := by
  unfold Md.may Md.pr Ac.may
  rw [rlx_nx hm s h,tmr_zer,(rlx_at hi).1];simp
 rw [hmay];by_cases g : 0 ≤ nextV m.a.ed s e
 · simp only [g,decide_true,if_true];congr 1
   refine Prod.ext (rlx_nx hm s h) (list_eq_of (n := m.ac.length) (by rw [Md.then_len,rlx_len]) (by simp [zer]) fun j hj => ?_);rw [Md.then_get _ _ _ (by rw [rlx_len]; exact hj),tmr_zer,rlx_df hj,ite_self];simp [zer,hj]
 · simp [g]
structure Rlx (m : Md) (fs : List Ck) (t : Au) : Prop where
 al : t.al = m.rlx.all
 n : t.n = fs.length
 mr : ∀ (j : Nat),(j : Int) ∈ t.mr ↔ ∃ v,fs[j]? = some v ∧ v.1 ∈ m.a.mr
 rt : t.Right
 z : fs[0]? = some (0,zer m)
 f : ∀ v,v ∈ fs → v.2 = zer m ∧ 0 ≤ v.1 ∧ v.1 < m.a.n
 lo : ∀ x,x ∈ t.ed → x.ev = m.tk → x.dst = x.src
 st : ∀ (j : Nat) (v : Ck),fs[j]? = some v → ∀ e,e ∈ m.a.al → (nextV t.ed j e = -1 ∧ nextV m.a.ed v.1 e = -1) ∨ ∃ (d : Nat) (u : Ck),nextV t.ed j e = d ∧ fs[d]? = some u ∧ u.1 = nextV m.a.ed v.1 e ∧ 0 ≤ u.1
theorem Rlx.of (hm : m.Ok) (hn : 0 < m.a.n) {fs : List Ck} {ed : List Ed} (h : Ufd m.rlx fs ed) (hl : fs.length ≤ 4000) : Rlx m fs (tAu m.rlx fs ed) := by
 have hk := hm.rlx;have hS : (tdS m.rlx).Ok := tdS_ok hk hn;have B := h.bl.built (Nat.le_refl _) m.rlx.all (mkV (mkF m.rlx fs) fs.length) (all_ok hk) (by omega) (mkV_ok _ _) (fun v _ x hx => (mem_out hx).1) (fun v _ => out_ups hk v);have hf : ∀ v,v ∈ fs → v.2 = zer m ∧ 0 ≤ v.1 ∧ v.1 < m.a.n := fun v hv => by
  have h1 := h.is v hv;refine ⟨list_eq_of (n := m.ac.length) (by rw [h1.len,rlx_len]) (by simp [zer]) fun i hi => ?_,h1.s⟩;have h2 := h1.t i (by rw [rlx_len]; exact hi);rw [rlx_df hi] at h2;rw [tmr_get (by rw [h1.len,rlx_len]; exact hi)];simp [zer,hi]; omega
 have fz : ∀ v,v ∈ fs → v = (v.1,zer m) := fun v hv => Prod.ext rfl (hf v hv).1;have hall : ∀ e,e ∈ m.rlx.all ↔ e ∈ m.a.al ∨ e = m.tk := fun e => mem_all;refine ⟨rfl,rfl,fun j => ?_,B.rt,?_,hf,fun x hx he => ?_,fun j v hv e he => ?_⟩
 · show (j : Int) ∈ mkV (mkF m.rlx fs) fs.length ↔ _
   rw [mkV_mem];constructor
   · rintro ⟨s,hs,h1,h2⟩;obtain rfl : s = j := by omega
     refine ⟨fs[s],List.getElem?_eq_getElem h1,?_⟩;rw [mkF_at (List.getElem?_eq_getElem h1)] at h2;exact of_decide_eq_true h2
   · rintro ⟨v,h1,h2⟩;refine ⟨j,rfl,(List.getElem?_eq_some_iff.1 h1).1,?_⟩;rw [mkF_at h1];exact decide_eq_true h2
 · have := B.z;rw [this];show some ((0 : Int),m.rlx.dfs) = _
   rw [rlx_dfs]
 · have hr := B.rt;obtain ⟨p,hp,hpx⟩ := List.mem_iff_getElem.1 hx;have h1 := hr.nextE (p := p) (x := x) (by rw [← hpx]; exact List.getElem?_eq_getElem hp);have h2 := hr.ed p hp x (by rw [← hpx]; exact List.getElem?_eq_getElem hp);obtain ⟨j,hj⟩ := Int.eq_ofNat_of_zero_le h2.1;have hjl : j < fs.length := by have := h2.2.1; simp only at this; omega
   have hv : fs[j]? = some fs[j] := List.getElem?_eq_getElem hjl;have h3 := B.step j _ hv x.ev;rw [hj,he] at h1;rw [he] at h3;have h4 : stepS (outF m.rlx) fs[j] m.tk = some fs[j] := by
    refine (stepG hS (v := fs[j]) (t := fs[j]) (e := m.tk)).2 ⟨(hall _).2 (.inr rfl),?_⟩;show m.rlx.eff m.tk fs[j] = some fs[j]
    rw [fz _ (List.mem_of_getElem? hv)];exact rlx_tick hm _
   rcases h3 with ⟨_,g⟩ | ⟨d,u,t',g1,g2,g3,g4⟩
   · rw [h4] at g; cases g
   · rw [h4] at g3; cases g3;have h5 := B.nd d j u _ g2 hv g4;subst h5;rw [hj,← h1];exact g1
 · rcases B.step j v hv e with ⟨g1,g2⟩ | ⟨d,u,t',g1,g2,g3,g4⟩
   · refine .inl ⟨g1,?_⟩;have h1 : m.rlx.eff e v = none := stepG_no (m := tdS m.rlx) hS g2 ((hall _).2 (.inl he));rw [fz v (List.mem_of_getElem? hv),rlx_act hm _ he] at h1;rcases hm.a.next_cases v.1 e with g | g
     · exact g
     · rw [if_pos g.1] at h1; cases h1
   · refine .inr ⟨d,u,g1,g2,?_⟩;have h1 : m.rlx.eff e v = some t' := ((stepG (m := tdS m.rlx) hS).1 g3).2;rw [fz v (List.mem_of_getElem? hv),rlx_act hm _ he] at h1;have g4' : u = t' := g4;split at h1
     · rename_i h0
       cases h1;rw [g4'];exact ⟨rfl,h0⟩
     · cases h1
end
section
variable {m : Md} {fs : List Ck} {t : Au}
theorem Rlx.kept (h : Rlx m fs t) (hm : m.Ok) : keptV t.al m.a.al = m.a.al := by
 refine Rises.ext (R := fun p q : Int => p < q) (fun x => by omega) (fun x y h => by omega) (pw_rises ((rises_pw h.rt.al.incr).filter _)) hm.a.al.incr fun e => ?_;unfold keptV
 rw [List.mem_filter,h.al,mem_all];simp only [decide_eq_true_eq];exact ⟨fun g => g.2,fun g => ⟨.inl g,g⟩⟩
theorem Rlx.eras (h : Rlx m fs t) (hm : m.Ok) {e : Int} : e ∈ erasV t.al m.a.al → e = m.tk := by
 unfold erasV
 rw [List.mem_filter,h.al,mem_all];rintro ⟨g1,g2⟩;rcases g1 with g | g
 · rw [decide_eq_true (show e ∈ m.a.al from g)] at g2; cases g2
 · exact g
theorem Rlx.rch (h : Rlx m fs t) (hm : m.Ok) {l : List Int} {x : Int} : Rch t.ed (erasV t.al m.a.al) l x ↔ x ∈ l := by
 constructor
 · intro hr;induction hr with
   | base g => exact g
   | @step x _ g1 g2 ih =>
     rw [h.lo x g1 (h.eras hm g2)];exact ih
 · exact .base
theorem Rlx.one (h : Rlx m fs t) (hm : m.Ok) {x : Int} (hx : 0 ≤ x ∧ x < t.n) : rchV t.n.toNat t.ed (erasV t.al m.a.al) [x] = [x] := by
 have hn := h.rt.n0;refine (rchV_of (fun i j u v hij hu hv => ?_) (fun y => (h.rch hm).symm) fun y hy => ?_).symm
 · have h1 := (List.getElem?_eq_some_iff.1 hu).1;have h2 := (List.getElem?_eq_some_iff.1 hv).1;simp at h1 h2; omega
 · simp at hy; subst hy; omega
theorem rchV_nil (n : Nat) (ed : List Ed) (ev : List Int) : rchV n ed ev [] = [] := by
 refine List.eq_nil_iff_forall_not_mem.2 fun x hx => ?_;have := (mem_rchV.1 hx).2;have key : ∀ y,Rch ed ev [] y → False := fun y hy => by
  induction hy with
  | base g => cases g
  | step _ _ _ ih => exact ih
 exact key x this
theorem Au.Right.hit {a : Au} (hr : a.Right) {x : Int} (hx : 0 ≤ x) (e : Int) : hitV a.ed [x] e = if 0 ≤ nextV a.ed x e then [nextV a.ed x e] else [] := by
 have h0 : hitV a.ed [x] e = ((outOf a.ed x.toNat).filter fun y => decide (y.ev = e)).map (·.dst) := by simp [hitV]
 rw [h0];have hm : ∀ y,y ∈ (outOf a.ed x.toNat).filter (fun y => decide (y.ev = e)) ↔ y ∈ a.ed ∧ y.src = x ∧ y.ev = e := fun y => by
  rw [List.mem_filter,mem_outOf];simp only [decide_eq_true_eq];constructor
  · rintro ⟨⟨g1,g2⟩,g3⟩; exact ⟨g1,by omega,g3⟩
  · rintro ⟨g1,g2,g3⟩; exact ⟨⟨g1,by omega⟩,g3⟩
 have hp : ((outOf a.ed x.toNat).filter fun y => decide (y.ev = e)).Pairwise edLt := by
  have := rises_pw hr.rises;exact (this.filter _).filter _
 rcases hr.next_cases x e with g | ⟨g1,g2,y,hy,y1,y2,y3⟩
 · rw [if_neg (by omega)];rw [List.map_eq_nil_iff];refine List.eq_nil_iff_forall_not_mem.2 fun y hy => ?_;obtain ⟨k1,k2,k3⟩ := (hm y).1 hy;obtain ⟨p,hp,hpy⟩ := List.mem_iff_getElem.1 k1;have h1 := hr.nextE (p := p) (x := y) (by rw [← hpy]; exact List.getElem?_eq_getElem hp);have h2 := (hr.ed p hp y (by rw [← hpy]; exact List.getElem?_eq_getElem hp)).2.2.1;rw [k2,k3] at h1;omega
 · rw [if_pos g1];have hmem := (hm y).2 ⟨hy,y1,y2⟩;revert hp hmem hm
   generalize (outOf a.ed x.toNat).filter (fun y => decide (y.ev = e)) = l;intro hm hp hmem;match l,hm,hp,hmem with
   | [],_,_,hmem => cases hmem
   | [z],hm,_,hmem =>
     simp at hmem; subst hmem
     simp [y3]
   | z :: z' :: r,hm,hp,_ =>
     exfalso
     have k1 := (hm z).1 (by simp);have k2 := (hm z').1 (by simp);have := (List.pairwise_cons.1 hp).1 z' (by simp);unfold edLt at this
     omega
theorem Rlx.next (h : Rlx m fs t) (hm : m.Ok) {x : Int} (hx : 0 ≤ x ∧ x < t.n) (e : Int) : nextP t.n.toNat t.ed (erasV t.al m.a.al) [x] e = if 0 ≤ nextV t.ed x e then [nextV t.ed x e] else [] := by
 unfold nextP
 rw [h.rt.hit hx.1 e];rcases h.rt.next_cases x e with g | ⟨g1,g2,_⟩
 · rw [if_neg (by omega),rchV_nil]
 · rw [if_pos g1,h.one hm ⟨g1,g2⟩]
def OneE (n : Int) (v : List Int) : Prop := ∃ x : Int,v = [x] ∧ 0 ≤ x ∧ x < n
theorem Rlx.pos (h : Rlx m fs t) : 0 < t.n := by
 have := (List.getElem?_eq_some_iff.1 h.z).1;rw [h.n]; omega
theorem Rlx.start (h : Rlx m fs t) (hm : m.Ok) : startP t.n.toNat t.ed (erasV t.al m.a.al) = [0] := h.one hm ⟨by omega,h.pos⟩
theorem Rlx.sys (h : Rlx m fs t) (hm : m.Ok) : (prS (OneE t.n) t m.a.al).Ok :=
 prS_ok h.rt ⟨0,h.start hm,by omega,h.pos⟩ fun v e ⟨x,hv,hx⟩ hn => by
  subst hv;rw [h.next hm hx] at hn ⊢;split at hn
  · rename_i g
    rw [if_pos g];rcases h.rt.next_cases x e with k | ⟨k1,k2,_⟩
    · omega
    · exact ⟨_,rfl,k1,k2⟩
  · exact absurd rfl hn
theorem Rlx.few (h : Rlx m fs t) (hl : fs.length ≤ 4000) : FewG (prS (OneE t.n) t m.a.al) := fun gs hn hi => by
 have h1 : (gs.map fun v => v.headD 0).Nodup := by
  rw [List.nodup_iff_pairwise_ne,List.pairwise_map];exact (List.Pairwise.and_mem.1 (List.nodup_iff_pairwise_ne.1 hn)).imp fun {a b} ⟨ha,hb,hab⟩ e => by
   obtain ⟨x,rfl,_⟩ := hi a ha;obtain ⟨y,rfl,_⟩ := hi b hb;simp at e; subst e
   exact hab rfl
 have := nd_len (n := fs.length) h1 fun x hx => by
  obtain ⟨v,hv,rfl⟩ := List.mem_map.1 hx;obtain ⟨x,rfl,h2,h3⟩ := hi v hv;rw [h.n] at h3;exact ⟨h2,h3⟩
 rw [List.length_map] at this;omega
theorem Rlx.same (h : Rlx m fs t) (hm : m.Ok) (hn : 0 < m.a.n) {gs : List (List Int)} {ed : List Ed} (hg : UfdG (prS (OneE t.n) t m.a.al) gs ed) (hl : gs.length ≤ 4000) (w : List Int) :
 (rn (gAu (prS (OneE t.n) t m.a.al) (mkdP t.mr) gs ed) w = -1 ∧ rn m.a w = -1) ∨ ∃ (d x : Nat) (v : Ck),rn (gAu (prS (OneE t.n) t m.a.al) (mkdP t.mr) gs ed) w = d ∧ gs[d]? = some [(x : Int)] ∧ fs[x]? = some v ∧ v.1 = rn m.a w ∧ 0 ≤ v.1 := by
 have hS := h.sys hm;have B := hg.built hS (P := mkdP t.mr) (by omega);obtain ⟨u,hu⟩ : ∃ u,u = gAu (prS (OneE t.n) t m.a.al) (mkdP t.mr) gs ed := ⟨_,rfl⟩;rw [← hu] at B ⊢;have hz := (List.getElem?_eq_some_iff.1 B.z).1;have hst : u.st = 0 := by unfold Au.st; rw [if_neg (by rw [B.n]; omega)]
 have hst2 : m.a.st = 0 := by unfold Au.st; rw [if_neg (by omega)]
 have hall : (prS (OneE t.n) t m.a.al).all = m.a.al := h.kept hm;refine snoc_ind (P := fun w => (rn u w = -1 ∧ rn m.a w = -1) ∨ ∃ (d x : Nat) (v : Ck),rn u w = d ∧ gs[d]? = some [(x : Int)] ∧ fs[x]? = some v ∧ v.1 = rn m.a w ∧ 0 ≤ v.1) ?_ ?_ w
 · refine .inr ⟨0,0,(0,zer m),hst,?_,h.z,hst2.symm,by simp⟩;rw [B.z];show some (startP t.n.toNat t.ed (erasV t.al m.a.al)) = _
   rw [h.start hm]; rfl
 · rintro w e (⟨g1,g2⟩ | ⟨d,x,v,g1,g2,g3,g4,g5⟩)
   · exact .inl ⟨by rw [rn_app,g1,runV_neg _ (by omega)],by rw [rn_app,g2,runV_neg _ (by omega)]⟩
   · rw [rn_snoc u w e (by omega),g1,rn_snoc m.a w e (by omega),← g4];have hxl : x < fs.length := (List.getElem?_eq_some_iff.1 g3).1;have hxr : 0 ≤ (x : Int) ∧ (x : Int) < t.n := by rw [h.n]; omega
     have hB := B.step d _ g2 e;by_cases he : e ∈ m.a.al
     · have hst := h.st x v g3 e he;have heff : (prS (OneE t.n) t m.a.al).eff e [(x : Int)] = if 0 ≤ nextV t.ed x e then some [nextV t.ed x e] else none := by
        show (if nextP t.n.toNat t.ed (erasV t.al m.a.al) [(x : Int)] e = [] then none else some (nextP t.n.toNat t.ed (erasV t.al m.a.al) [(x : Int)] e)) = _
        rw [h.next hm hxr];by_cases g : 0 ≤ nextV t.ed x e
        · simp [g]
        · simp [g]
       rcases hB with ⟨k1,k2⟩ | ⟨d',u',t',k1,k2,k3,k4⟩
       · refine .inl ⟨k1,?_⟩;have := stepG_no hS k2 (by rw [hall]; exact he);rw [heff] at this;rcases hst with ⟨_,q⟩ | ⟨d2,u2,q1,q2,q3,q4⟩
         · exact q
         · rw [if_pos (by omega)] at this; cases this
       · have := ((stepG hS).1 k3).2;rw [heff] at this;have k4' : u' = t' := k4;split at this
         · rename_i h0
           cases this;rcases hst with ⟨q,_⟩ | ⟨d2,u2,q1,q2,q3,q4⟩
           · omega
           · exact .inr ⟨d',d2,u2,k1,by rw [k2,k4',q1],q2,q3,q4⟩
         · cases this
     · refine .inl ⟨?_,?_⟩
       · rcases hB with ⟨k1,_⟩ | ⟨d',u',t',k1,k2,k3,k4⟩
         · exact k1
         · exact absurd (by rw [← hall]; exact ((stepG hS).1 k3).1) he
       · rcases hm.a.next_cases v.1 e with q | ⟨_,_,y,hy,y1,y2,_⟩
         · exact q
         · obtain ⟨p,hp,hpy⟩ := List.mem_iff_getElem.1 hy;have := (hm.a.ed p hp y (by rw [← hpy]; exact List.getElem?_eq_getElem hp)).2.2.2.2.1;rw [y2] at this;exact absurd this he
theorem Rlx.alike (h : Rlx m fs t) (hm : m.Ok) (hn : 0 < m.a.n) {gs : List (List Int)} {ed : List Ed} (hg : UfdG (prS (OneE t.n) t m.a.al) gs ed) (hl : gs.length ≤ 4000) (w : List Int) :
 (0 ≤ rn (gAu (prS (OneE t.n) t m.a.al) (mkdP t.mr) gs ed) w ↔ 0 ≤ rn m.a w) ∧ (rn (gAu (prS (OneE t.n) t m.a.al) (mkdP t.mr) gs ed) w ∈ (gAu (prS (OneE t.n) t m.a.al) (mkdP t.mr) gs ed).mr ↔ rn m.a w ∈ m.a.mr) := by
 rcases h.same hm hn hg hl w with ⟨g1,g2⟩ | ⟨d,x,v,g1,g2,g3,g4,g5⟩
 · rw [g1,g2];refine ⟨Iff.rfl,?_⟩;constructor
   · intro k;have := (mkV_mem.1 k);obtain ⟨s,hs,_⟩ := this;omega
   · intro k;have := hm.a.mem k;omega
 · rw [g1,← g4];refine ⟨by constructor <;> intro <;> omega,?_⟩;have h1 : ((d : Nat) : Int) ∈ mkV (mkG (mkdP t.mr) gs) gs.length ↔ (x : Int) ∈ t.mr := by
    rw [mkV_mem];constructor
    · rintro ⟨s,hs,k1,k2⟩;obtain rfl : s = d := by omega
      rw [mkG_at g2] at k2;simpa [mkdP] using k2
    · intro k;exact ⟨d,rfl,(List.getElem?_eq_some_iff.1 g2).1,by rw [mkG_at g2]; simpa [mkdP] using k⟩
   refine h1.trans ((h.mr x).trans ⟨?_,fun k => ⟨v,g3,k⟩⟩);rintro ⟨v',k1,k2⟩;rw [g3] at k1; cases k1;exact k2
theorem Rlx.short (h : Rlx m fs t) (hn : fs.Nodup) : (fs.length : Int) ≤ m.a.n := by
 have h1 : (fs.map Prod.fst).Nodup := by
  rw [List.nodup_iff_pairwise_ne,List.pairwise_map];exact (List.Pairwise.and_mem.1 (List.nodup_iff_pairwise_ne.1 hn)).imp fun {a b} ⟨ha,hb,hab⟩ e => hab (Prod.ext e ((h.f a ha).1.trans (h.f b hb).1.symm))
 have := nd_len (n := m.a.n.toNat) h1 fun x hx => by
  obtain ⟨v,hv,rfl⟩ := List.mem_map.1 hx;have := (h.f v hv).2;omega
 rw [List.length_map] at this;have := h.f _ (List.mem_of_getElem? h.z);omega
theorem Few.rlx {m : Md} (hf : Few m) (hm : m.Ok) : Few m.rlx := fun fs hn hi => hf fs hn fun c hc => by
 have h := hi c hc;refine ⟨h.s,by rw [h.len,rlx_len],fun i hlt => ?_⟩;have h1 := h.t i (by rw [rlx_len]; exact hlt);rw [rlx_df hlt] at h1;have h2 := hm.df hlt;omega
structure PjOk (m : Md) (t : Au) (al : List Int) : Prop where
 rt : t.Right
 n0 : 0 < t.n
 n1 : t.n ≤ 126
 el : t.ed.length ≤ 7000
 ok : (prS (OneE t.n) t al).Ok
 few : FewG (prS (OneE t.n) t al)
 one : ∀ v,OneE t.n v → setOk v t.n v.length
 alo : setOk al 32 al.length
 out : ∀ (gs : List (List Int)) (ed : List Ed),UfdG (prS (OneE t.n) t al) gs ed → gs.length ≤ 4000 → (gAu (prS (OneE t.n) t al) (mkdP t.mr) gs ed).Right ∧ 0 < (gAu (prS (OneE t.n) t al) (mkdP t.mr) gs ed).n ∧ ∀ w,(0 ≤ rn (gAu (prS (OneE t.n) t al) (mkdP t.mr) gs ed) w ↔ 0 ≤ rn m.a w) ∧ (rn (gAu (prS (OneE t.n) t al) (mkdP t.mr) gs ed) w ∈ (gAu (prS (OneE t.n) t al) (mkdP t.mr) gs ed).mr ↔ rn m.a w ∈ m.a.mr)
theorem PjOk.of {m : Md} (hm : m.Ok) (hn : 0 < m.a.n) (h126 : m.a.n ≤ 126) {fs : List Ck} {ed : List Ed} (h : Ufd m.rlx fs ed) (hl : fs.length ≤ 4000) : PjOk m (tAu m.rlx fs ed) m.rlx.a.al := by
 have R := Rlx.of hm hn h hl;have hs := R.short h.nd;have hel := h.el;refine ⟨R.rt,R.pos,by rw [R.n]; omega,?_,R.sys hm,R.few hl,fun v ⟨x,hv,hx⟩ => ?_,hm.a.al,fun gs ed2 hg hgl => ?_⟩
 · show ed.length ≤ 7000
   omega
 · subst hv;refine setOk_of (fun i j u v hij hu hv => ?_) fun y hy => ?_
   · have h1 := (List.getElem?_eq_some_iff.1 hu).1;have h2 := (List.getElem?_eq_some_iff.1 hv).1;simp at h1 h2; omega
   · simp at hy; subst hy; exact hx
 · have B := hg.built (R.sys hm) (P := mkdP (tAu m.rlx fs ed).mr) (by omega);have hz := (List.getElem?_eq_some_iff.1 B.z).1;exact ⟨B.rt,by show 0 < ((gs.length : Nat) : Int); omega,R.alike hm hn hg hgl⟩
end
end
end Go.Proofs.YtimdepdbcdbikaaGreat
