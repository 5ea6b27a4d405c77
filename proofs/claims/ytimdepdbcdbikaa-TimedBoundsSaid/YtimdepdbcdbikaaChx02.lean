/-
  What the row leans on.
-/
import Derived.Test.YtimdepdbcdbikaaBas21
import Derived.Test.YtimdepdbcdbikaaChx01
import Derived.BigQuiet
import Derived.Great.BuildSlice
import Derived.Deep.MidRow
import Derived.Deep.CutBlock
import Derived.Deep.DeepCutAuto
set_option linter.unusedSimpArgs false
set_option linter.unusedVariables false
namespace Go.Proofs.Ytimdepdbcdbikaa
open Go.RowKit
set_option maxRecDepth 100000
theorem onL_memB {m : Md} {c : Ck} {e : Int} {k : Nat} (h : e ∈ onL m c k) : e ∈ m.all ∧ (m.eff e c).isSome = true := by
 unfold onL at h
 obtain ⟨h1,h2⟩ := List.mem_filter.1 h;exact ⟨List.mem_of_mem_take h1,h2⟩
structure AgeOk (m : Md) (c : Ck) (f : Nat → Int) (n : Nat) : Prop where
 rg : ∀ j,j < 4 → 0 ≤ f j ∧ f j ≤ n
 t : ∀ j,j < 4 → tmr c j = max 0 ((m.at j).df - f j)
 no : ∀ j,j < 4 → m.pr c.1 j = false → f j = 0
 up : ∀ j,j < 4 → 0 ≤ (m.at j).up → f j ≤ (m.at j).up
def agU (m : Md) (c d : Ck) (q : Nat) (f : Nat → Int) (j : Nat) : Int := if q = 4 ∧ (m.pr c.1 j && m.pr d.1 j) = true then f j + 1 else if (m.pr c.1 j && m.pr d.1 j) = false ∨ j = q then 0 else f j
def agV (m : Md) (c d : Ck) (q : Nat) (f : Nat → Int) (k : Nat) : Nat → Int := fun j => if j < k then agU m c d q f j else f j
theorem agV_same {m : Md} {c d : Ck} {q : Nat} {f : Nat → Int} {k : Nat} (h : agU m c d q f k = f k) : agV m c d q f (k + 1) = agV m c d q f k := by
 funext j
 unfold agV
 by_cases e : j = k
 · subst e; rw [if_pos (by omega),if_neg (by omega),h]
 · have : (j < k + 1) ↔ j < k := by omega
   simp only [this]
theorem agV_set {m : Md} {c d : Ck} {q : Nat} {f : Nat → Int} {k : Nat} {v : Int} (h : agU m c d q f k = v) : mkI 4 (agV m c d q f (k + 1)) = (mkI 4 (agV m c d q f k)).set k (.int .i64 v) := by
 rw [mkI_set];refine mkI_congr fun j _ => ?_;unfold agV
 by_cases e : j = k
 · subst e; rw [if_pos (by omega),if_pos rfl,h]
 · rw [if_neg e];have : (j < k + 1) ↔ j < k := by omega
   simp only [this]
theorem agV_at {m : Md} {c d : Ck} {q : Nat} {f : Nat → Int} {k : Nat} : agV m c d q f k k = f k := if_neg (by omega)
theorem agV_zero {m : Md} {c d : Ck} {q : Nat} {f : Nat → Int} : agV m c d q f 0 = f := by funext j; exact if_neg (by omega)
theorem agV_all {m : Md} {c d : Ck} {q : Nat} {f : Nat → Int} : mkI 4 (agV m c d q f 4) = mkI 4 (agU m c d q f) := mkI_congr fun j hj => if_pos hj
theorem AgeOk.start {m : Md} (s : Sml m) : AgeOk m m.start (fun _ => 0) 0 := by
 have hd : ∀ j,j < 4 → 0 ≤ (m.at j).df := fun j hj => (s.ok.df (by rw [s.len]; exact hj)).1;refine ⟨fun j _ => ⟨Int.le_refl _,Int.le_refl _⟩,fun j hj => ?_,fun j _ _ => rfl,fun j _ h => h⟩;have := hd j hj;have h2 := Md.dfs_at (m := m) (i := j) (by rw [s.len]; exact hj) 0;show tmr (0,m.dfs) j = _
 rw [h2]; omega
theorem AgeOk.may {m : Md} (s : Sml m) {c : Ck} {f : Nat → Int} {n q : Nat} (h : AgeOk m c f n) (hq : q < 4) (he : (m.eff q c).isSome = true) : (m.at q).lo ≤ f q ∧ (0 ≤ (m.at q).up → f q ≤ (m.at q).up) := by
 refine ⟨?_,h.up q hq⟩;have hn : ((q : Nat) : Int) ≠ m.tk := by rw [s.tk]; omega
 have hlen : q < m.ac.length := by rw [s.len]; exact hq
 have hi : m.idx (q : Int) = q := by
  refine Md.idx_at s.ok ?_;rw [s.al];match q,hq with
  | 0,_ => rfl
  | 1,_ => rfl
  | 2,_ => rfl
  | 3,_ => rfl
 rw [Md.eff_else hn,hi] at he;have hm : m.may c q = true := by
  unfold Md.act at he
  by_cases g : m.may c q = true
  · exact g
  · rw [if_neg g] at he; cases he
 unfold Md.may at hm
 have h1 := (Bool.and_eq_true_iff.1 hm).2;have ht := h.t q hq;have hbd := s.ok.bd _ (Md.at_mem hlen);have hu := h.up q hq;unfold Ac.may at h1
 unfold Ac.df at ht
 split at h1
 · rename_i g
   rw [if_pos g] at ht;have := of_decide_eq_true h1;omega
 · rename_i g
   rw [if_neg g] at ht;have := of_decide_eq_true h1;have := hu (by omega);omega
theorem AgeOk.next {m : Md} (s : Sml m) {c d : Ck} {f : Nat → Int} {n q : Nat} (hc : Okc m c) (h : AgeOk m c f n) (hq : q < 5) (he : m.eff q c = some d) : AgeOk m d (agU m c d q f) (n + 1) := by
 have hd : ∀ j,j < 4 → 0 ≤ (m.at j).df := fun j hj => (s.ok.df (by rw [s.len]; exact hj)).1;have hl : ∀ j,j < 4 → j < m.ac.length := fun j hj => by rw [s.len]; exact hj
 have ev : ∀ j,j < 4 → m.ev j = j := s.ev;by_cases h4 : q = 4
 · subst h4;have htk : ((4 : Nat) : Int) = m.tk := by rw [s.tk]; rfl
   rw [htk,Md.eff_tick] at he;unfold Md.tick at he
   by_cases hu : (List.range m.ac.length).any (m.urg c) = true
   · rw [if_pos hu] at he; cases he
   · rw [if_neg hu] at he;have hd1 : d = (c.1,m.fall c m.ac.length) := (Option.some.inj he).symm;have hu2 : ∀ j,j < 4 → m.urg c j = false := fun j hj => by
      cases g : m.urg c j with
      | false => rfl
      | true => exact absurd (List.any_eq_true.2 ⟨j,List.mem_range.2 (hl j hj),g⟩) hu
     have hdt : ∀ j,j < 4 → tmr d j = if m.pr c.1 j = true ∧ 0 < tmr c j then tmr c j - 1 else tmr c j := fun j hj => by
      rw [hd1,Md.fall_at _ _ _ (hl j hj)];have : (j < m.ac.length ∧ m.pr c.1 j = true ∧ 0 < tmr c j) ↔ (m.pr c.1 j = true ∧ 0 < tmr c j) := ⟨fun g => g.2,fun g => ⟨hl j hj,g⟩⟩;simp only [this]
     have hp : d.1 = c.1 := by rw [hd1]
     refine ⟨fun j hj => ?_,fun j hj => ?_,fun j hj g => ?_,fun j hj g => ?_⟩;all_goals
      have a1 := h.rg j hj;have a2 := h.t j hj;have a3 := h.no j hj;have a4 := h.up j hj;have a5 := hdt j hj;have a6 := hu2 j hj;have a7 := hd j hj;unfold agU
      rw [hp,Bool.and_self];cases gp : m.pr c.1 j with
      | false =>
        rw [gp] at a5;have a3 := a3 gp;simp only [Bool.false_eq_true,and_false,if_false,true_or,if_true,false_and] at a5 ⊢;all_goals first | omega | (intro g2; omega)
      | true =>
        rw [gp] at a5;simp only [and_self,if_true,true_and] at a5 ⊢;unfold Md.urg at a6
        rw [gp,Bool.true_and] at a6;first
         | omega
         | (by_cases g0 : 0 < tmr c j
            · rw [if_pos g0] at a5; omega
            · rw [if_neg g0] at a5; omega)
         | (rw [hp,gp] at g; cases g)
         | (rw [decide_eq_true g,Bool.true_and] at a6
            have := of_decide_eq_false a6;have b1 := a4 g;have b2 : (m.at j).df = (m.at j).up := by unfold Ac.df; rw [if_neg (by omega)]
            omega)
 · have hq4 : q < 4 := by omega
   have hn : ((q : Nat) : Int) ≠ m.tk := by rw [s.tk]; omega
   have hi : m.idx (q : Int) = q := by
    refine Md.idx_at s.ok ?_;rw [s.al];match q,hq4 with
    | 0,_ => rfl
    | 1,_ => rfl
    | 2,_ => rfl
    | 3,_ => rfl
   rw [Md.eff_else hn,hi] at he;unfold Md.act at he
   by_cases hm : m.may c q = true
   · rw [if_pos hm] at he;have hd1 : d = (m.nx c.1 q,m.then_ c q m.ac.length) := (Option.some.inj he).symm;have hp : d.1 = m.nx c.1 q := by rw [hd1]
     have hdt : ∀ j,j < 4 → tmr d j = if j ≠ q ∧ m.pr c.1 j = true ∧ m.pr d.1 j = true then tmr c j else (m.at j).df := fun j hj => by
      rw [hp,hd1,Md.then_at _ _ _ _ (hl j hj)];have : (j < m.ac.length ∧ j ≠ q ∧ m.pr c.1 j = true ∧ m.pr (m.nx c.1 q) j = true) ↔ (j ≠ q ∧ m.pr c.1 j = true ∧ m.pr (m.nx c.1 q) j = true) := ⟨fun g => g.2,fun g => ⟨hl j hj,g⟩⟩;simp only [this]
     refine ⟨fun j hj => ?_,fun j hj => ?_,fun j hj g => ?_,fun j hj g => ?_⟩;all_goals
      have a1 := h.rg j hj;have a2 := h.t j hj;have a4 := h.up j hj;have a5 := hdt j hj;have a7 := hd j hj;unfold agU
      rw [if_neg (fun g => h4 g.1)];by_cases gb : (m.pr c.1 j && m.pr d.1 j) = false ∨ j = q
      · have : ¬ (j ≠ q ∧ m.pr c.1 j = true ∧ m.pr d.1 j = true) := by
         rintro ⟨g1,g2,g3⟩;rcases gb with g | g
         · rw [g2,g3] at g; cases g
         · exact g1 g
        rw [if_neg this] at a5;first | (rw [if_pos gb]; done) | (rw [if_pos gb]; omega)
      · rw [if_neg gb];have g1 : j ≠ q := fun g => gb (.inr g);have g2 : (m.pr c.1 j && m.pr d.1 j) = true := by
         cases hh : (m.pr c.1 j && m.pr d.1 j) with
         | true => rfl
         | false => exact absurd (.inl hh) gb
        have g3 := Bool.and_eq_true_iff.1 g2;rw [if_pos ⟨g1,g3.1,g3.2⟩] at a5;first | omega | (rw [g3.2] at g; cases g)
   · rw [if_neg hm] at he; cases he
theorem on_pos {m : Md} (s : Sml m) (c : Ck) : 0 < (onL m c 5).length := by
 have mem : ∀ e : Int,e ∈ m.all → (m.eff e c).isSome = true → 0 < (onL m c 5).length := fun e h1 h2 => by
  refine List.length_pos_of_mem (a := e) ?_;unfold onL
  refine List.mem_filter.2 ⟨?_,h2⟩;rw [List.take_of_length_le (by rw [s.all]; decide)];exact h1
 by_cases hu : (List.range m.ac.length).any (m.urg c) = true
 · obtain ⟨j,hj,hju⟩ := List.any_eq_true.1 hu;have hj2 := List.mem_range.1 hj;have hj4 : j < 4 := by rw [← s.len]; exact hj2
   have he : m.a.al[j]? = some (j : Int) := by
    rw [s.al];match j,hj4 with
    | 0,_ => rfl
    | 1,_ => rfl
    | 2,_ => rfl
    | 3,_ => rfl
   refine mem j (mem_all.2 (.inl (List.mem_of_getElem? he))) ?_;have hn : ((j : Nat) : Int) ≠ m.tk := by rw [s.tk]; omega
   rw [Md.eff_else hn,Md.idx_at s.ok he];unfold Md.urg at hju
   have h1 := Bool.and_eq_true_iff.1 hju;have h2 := Bool.and_eq_true_iff.1 h1.1;have hup := of_decide_eq_true h2.2;have ht := of_decide_eq_true h1.2;have hbd := s.ok.bd _ (Md.at_mem hj2);unfold Md.act Md.may Ac.may
   rw [h2.1,Bool.true_and,if_neg (show ¬ (m.at j).up < 0 by omega),decide_eq_true (show tmr c j ≤ (m.at j).up - (m.at j).lo by omega)];rfl
 · refine mem m.tk (mem_all.2 (.inr rfl)) ?_;rw [Md.eff_tick];unfold Md.tick
   rw [if_neg hu];rfl
set_option maxHeartbeats 16000000 in
theorem lawBounds_c (x : Sm5) (AL : Option Addr) (cL : Nat) (l : List Int) (w : World) (hx : x.Ok) (hl : U8sAt w AL l) :
 Calls Try.prog 6 #[.agg x.cells.toArray,.slice AL l.length cL] w (Ret (.bool true) w) := by
 have HL := Lib.hid hl;clear hl;have MK := Lib.hid (fun W : World => makeM_c x W hx);have SM := Lib.hid (Sm5.sml hx);have INFO := Lib.hid (Sm5.info hx);obtain ⟨m,hm⟩ : ∃ m,m = x.md := ⟨_,rfl⟩;rw [← hm] at MK SM;obtain ⟨cs,hcs⟩ : ∃ cs,cs = x.cells := ⟨_,rfl⟩;rw [← hcs] at MK INFO ⊢;clear hm hcs hx;go_enter Try.func6,Try.ntmps6
 obtain ⟨xb,hxb⟩ : ∃ g,g = w.heap.size := ⟨_,rfl⟩;go_upto_region 1 with fail
 rw [← hxb];refine wp_world (fun W => (SepW w [eBlk xb 29 cs] W)) ((Sep.here w).alloc' _ cs rfl hxb) fun v1 S' => ?_;have T1 := Lib.hid S'.out;clear S' hxb;go_wp2_with fail
 refine (knownT_c v1).mono ?_;rintro e2 v2 ⟨rfl,hb⟩;have T2 := Lib.hid (T1.out.next hb);clear hb T1;by_cases h10 : 20 < l.length
 · have hd1 : decide ((20 : Int) < (l.length : Int)) = true := decide_eq_true (by omega);have hd2 : decide (20 < l.length) = true := decide_eq_true h10;go_wp2_with fail
   refine (knownT_c v2).mono ?_;rintro e3 v3 ⟨rfl,hb⟩;have T3 := Lib.hid (T2.out.next hb);clear hb T2;go_wp2_with fail
   go_ret
   exact ⟨rfl,T3.out.below⟩
 · have hd1 : decide ((20 : Int) < (l.length : Int)) = false := decide_eq_false (by omega);have hd2 : decide (20 < l.length) = false := decide_eq_false h10;obtain ⟨c,hc⟩ : ∃ c,c = m.start := ⟨_,rfl⟩;have IC : Hid (∀ (P : MdP) (W : World),Md.At W m P → Calls Try.prog 20 #[.agg (m.cells P).toArray] W (GivesIn c W)) := fun P W h => by rw [hc]; exact initialP_c m P W SM.out.ok h SM.out.n
   have OK0 : Hid (Okc m c) := by rw [Hid,hc]; exact Okc.start SM.out.ok SM.out.n
   have AG0 : Hid (AgeOk m c (fun _ => 0) 0) := by rw [Hid,hc]; exact AgeOk.start SM.out
   clear hc;have hrg := range_of (T2.out.get 0 rfl);go_wp2_with (refine wpList_load_mid rfl 29 _ rfl xb 0 rfl cs _ hrg Try.underlying29 rfl INFO.out ?_)
   refine (MK.out v2).mono ?_;rintro e3 v3 ⟨⟨p,B,d⟩,rfl,T⟩;dsimp only [Md.cells];have T3 := qkN T2.out T.out;clear T T2;clear hrg MK INFO;obtain ⟨mb,hg4⟩ : ∃ g,g = v3.heap.size := ⟨_,rfl⟩;go_upto_region 4 with fail
   rw [← hg4];refine wp_world (fun V => (SepW w [eBlk mb 37 [.slice p.A1 m.a.al.length p.c1,.int .i64 m.a.n,.slice p.A2 m.a.mr.length p.c2,.slice p.A3 m.a.ed.length p.c3,.slice B m.ac.length d,.int .i64 m.tk],eMdl m ⟨p,B,d⟩,eBlk xb 29 cs] V)) (T3.out.alloc' 37 [.slice p.A1 m.a.al.length p.c1,.int .i64 m.a.n,.slice p.A2 m.a.mr.length p.c2,.slice p.A3 m.a.ed.length p.c3,.slice B m.ac.length d,.int .i64 m.tk] rfl hg4) fun v4 S' => ?_;have T4 := Lib.hid S'.out;clear S' T3 hg4;have f_mb0 := qkC T4.out 0 rfl 0 rfl;have f_mb1 := qkC T4.out 0 rfl 1 rfl;have f_mb2 := qkC T4.out 0 rfl 2 rfl;have f_mb3 := qkC T4.out 0 rfl 3 rfl;have f_mb4 := qkC T4.out 0 rfl 4 rfl;have f_mb5 := qkC T4.out 0 rfl 5 rfl;go_wp2_with fail
   refine (IC.out ⟨p,B,d⟩ v4 (T4.out.mdAt 1 rfl SM.out.lens)).mono ?_;rintro e5 v5 ⟨AT,cp,rfl,T⟩;have T5 := qkN T4.out T.out;clear f_mb0 f_mb1 f_mb2 f_mb3 f_mb4 f_mb5 T T4;obtain ⟨sb,hg6⟩ : ∃ g,g = v5.heap.size := ⟨_,rfl⟩;go_upto_region 5 with fail
   rw [← hg6];refine wp_world (fun V => (SepW w [eBlk sb 63 [.int .i64 c.1,.slice AT c.2.length cp],eInts c.2 (.slice AT c.2.length cp),eBlk mb 37 [.slice p.A1 m.a.al.length p.c1,.int .i64 m.a.n,.slice p.A2 m.a.mr.length p.c2,.slice p.A3 m.a.ed.length p.c3,.slice B m.ac.length d,.int .i64 m.tk],eMdl m ⟨p,B,d⟩,eBlk xb 29 cs] V)) (T5.out.alloc' 63 [.int .i64 c.1,.slice AT c.2.length cp] rfl hg6) fun v6 S' => ?_;have T6 := Lib.hid S'.out;clear S' T5 hg6;obtain ⟨ab,hg30⟩ : ∃ g,g = v6.heap.size := ⟨_,rfl⟩;go_upto_region 8 with fail
   rw [← hg30];refine wp_world (fun V => (SepW w [eBlk ab 66 (mkI 4 fun _ => 0),eBlk sb 63 [.int .i64 c.1,.slice AT c.2.length cp],eInts c.2 (.slice AT c.2.length cp),eBlk mb 37 [.slice p.A1 m.a.al.length p.c1,.int .i64 m.a.n,.slice p.A2 m.a.mr.length p.c2,.slice p.A3 m.a.ed.length p.c3,.slice B m.ac.length d,.int .i64 m.tk],eMdl m ⟨p,B,d⟩,eBlk xb 29 cs] V)) (T6.out.alloc' 66 (mkI 4 fun _ => 0) rfl hg30) fun v30 S' => ?_;have T30 := Lib.hid S'.out;clear S' T6 hg30;have T7 : (SepW w [eBlk ab 66 (mkI 4 fun _ => 0),eBlk sb 63 [.int .i64 c.1,.slice AT c.2.length cp],eInts c.2 (.slice AT c.2.length cp),eBlk mb 37 [.slice p.A1 m.a.al.length p.c1,.int .i64 m.a.n,.slice p.A2 m.a.mr.length p.c2,.slice p.A3 m.a.ed.length p.c3,.slice B m.ac.length d,.int .i64 m.tk],eMdl m ⟨p,B,d⟩,eBlk xb 29 cs] v30) := T30.out.pick [0,1,2,3,4,5] (by decide);clear T30;have hl20 : l.length ≤ 20 := by omega
   clear hd1 hd2 h10 IC;go_wp2_with fail
   go_loopw [9] (fun i wr => ∃ (k : Nat) (c : Ck) (AT : Option Addr) (cp : Nat) (f : Nat → Int),i = .int .i64 ↑k ∧ k ≤ l.length ∧ Hid (Okc m c) ∧ Hid (AgeOk m c f k) ∧ (SepW w [eBlk ab 66 (mkI 4 f),eBlk sb 63 [.int .i64 c.1,.slice AT c.2.length cp],eInts c.2 (.slice AT c.2.length cp),eBlk mb 37 [.slice p.A1 m.a.al.length p.c1,.int .i64 m.a.n,.slice p.A2 m.a.mr.length p.c2,.slice p.A3 m.a.ed.length p.c3,.slice B m.ac.length d,.int .i64 m.tk],eMdl m ⟨p,B,d⟩,eBlk xb 29 cs] wr)) (fun i _ => l.length - (intOf i).toNat)
   case atStart => exact ⟨0,c,AT,cp,_,rfl,Nat.zero_le _,OK0.out,AG0.out,T7.out⟩
   case round =>
    clear T7 OK0 AG0;obtain ⟨k,c,AT,cp,f,rfl,hk,OK,AG,S⟩ := hrel;by_cases hlt : k < l.length
    · obtain ⟨L,hL⟩ : ∃ L,L = onL m c 5 := ⟨_,rfl⟩;have e1 : enP m c = L := by unfold enP; rw [if_pos OK.out.e,hL,SM.out.all]; rfl
      have EC : Hid (∀ (W : World),Md.At W m ⟨p,B,d⟩ → IntsAt W AT c.2 → m.a.al.length ≤ p.c1 → Calls Try.prog 21 #[.agg #[.slice p.A1 m.a.al.length p.c1,.int .i64 m.a.n,.slice p.A2 m.a.mr.length p.c2,.slice p.A3 m.a.ed.length p.c3,.slice B m.ac.length d,.int .i64 m.tk],.agg #[.int .i64 c.1,.slice AT c.2.length cp]] W (GivesLE L 0 W)) := fun W h h2 h3 => by
       have := enabledP_c m ⟨p,B,d⟩ c AT cp W SM.out.ok h h2 h3;rw [e1,OK.out.e] at this;exact this
      have L5 : Hid (L.length ≤ 5) := by have := onL_len (m := m) (c := c) (k := 5); rw [Hid,hL]; omega
      have LM : Hid (∀ e,e ∈ L → e ∈ m.all ∧ (m.eff e c).isSome = true) := fun e he => by rw [hL] at he; exact onL_memB he
      have hpos : 0 < L.length := by rw [hL]; exact on_pos SM.out c
      have hL0' : ((L.length : Int) == 0) = false := beq_eq_false_iff_ne.2 (by omega);have hL0 : (L.length == 0) = false := beq_eq_false_iff_ne.2 (by omega);clear hL e1;have f_sb0 := qkC S.out 1 rfl 0 rfl;have f_sb1 := qkC S.out 1 rfl 1 rfl;have f_mb0 := qkC S.out 3 rfl 0 rfl;have f_mb1 := qkC S.out 3 rfl 1 rfl;have f_mb2 := qkC S.out 3 rfl 2 rfl;have f_mb3 := qkC S.out 3 rfl 3 rfl;have f_mb4 := qkC S.out 3 rfl 4 rfl;have f_mb5 := qkC S.out 3 rfl 5 rfl;go_wp2_with fail
      refine (EC.out wr (S.out.mdAt 4 rfl SM.out.lens) (S.out.ints 2 rfl) (S.out.mdCap 4 rfl)).mono ?_;rintro e21 v21 ⟨A1,c1,rfl,T⟩;have T21 := qkN S.out T.out;clear f_sb0 f_sb1 f_mb0 f_mb1 f_mb2 f_mb3 f_mb4 f_mb5 T S;obtain ⟨bl,ol,y,hAl,_,hy,hyr,hyc⟩ := U8sAt.at (HL.out.below U8E.stays T21.out.below) hlt;subst hAl;obtain ⟨j,hj⟩ : ∃ j,j = y.toNat % L.length := ⟨_,rfl⟩;have hjl : j < L.length := by rw [hj]; exact Nat.mod_lt _ (by omega)
      obtain ⟨bw,ow,e,hAw,_,he,hec⟩ := IntsAt.at (T21.out.ints 0 rfl) hjl;subst hAw;have hmod : y.tmod (L.length : Int) = (j : Int) := by
       rw [Int.tmod_eq_emod_of_nonneg hyr.1,hj];have : y = ((y.toNat : Nat) : Int) := by omega
       rw [this];simp
      have hwy : IntKind.i64.wrap y = y := IntWalk.i64_in _ (by omega);have hjw : IntKind.i64.wrap (j : Int) = (j : Int) := IntWalk.i64_in _ (by have := L5.out; omega);obtain ⟨hm1,hm2⟩ := LM.out e (List.mem_of_getElem? he);obtain ⟨q,rfl,hq5⟩ : ∃ q : Nat,e = (q : Int) ∧ q < 5 := by
       have h := hm1;rw [SM.out.all] at h;simp only [List.mem_cons,List.not_mem_nil,or_false] at h;exact ⟨e.toNat,by omega,by omega⟩
      obtain ⟨r,hr⟩ : ∃ r,r = m.eff q c := ⟨_,rfl⟩;have hm3 := hm2;rw [← hr] at hm2;obtain ⟨dd,hdd⟩ : ∃ d,d = r.getD (0,[]) := ⟨_,rfl⟩;have hrs := some_of hm2;rw [← hdd] at hrs;have DOK : Hid (Okc m dd) := OK.out.eff SM.out.ok (by rw [← hr]; exact hrs);have AGN : Hid (AgeOk m dd (agU m c dd q f) (k + 1)) := AG.out.next SM.out OK.out hq5 (by rw [← hr]; exact hrs);have MAYQ : Hid (q < 4 → (m.at q).lo ≤ f q ∧ (0 ≤ (m.at q).up → f q ≤ (m.at q).up)) := fun h4 => AG.out.may SM.out h4 hm3;have SP : Hid (∀ (W : World),Md.At W m ⟨p,B,d⟩ → IntsAt W AT c.2 → m.a.al.length ≤ p.c1 → Calls Try.prog 22 #[.agg #[.slice p.A1 m.a.al.length p.c1,.int .i64 m.a.n,.slice p.A2 m.a.mr.length p.c2,.slice p.A3 m.a.ed.length p.c3,.slice B m.ac.length d,.int .i64 m.tk],.agg #[.int .i64 c.1,.slice AT c.2.length cp],.int .i64 ↑q] W (GivesLast dd true 0 W)) := fun W h h2 h3 => by
       have := stepP_c m ⟨p,B,d⟩ c q AT cp W SM.out.ok h h2 h3;unfold spP at this
       rw [if_pos OK.out.e,if_pos hm1,← hr,hrs] at this;exact this.mono fun _ _ g => g
      have hwr : IntKind.i64.wrap ((k : Int) + 1) = (k : Int) + 1 := IntWalk.i64_in _ (by omega);have q1 : decide ((q : Int) < 0) = false := decide_eq_false (by omega);have q2 : decide ((4 : Int) < (q : Int)) = false := decide_eq_false (by omega);have q3 : decide (4 < q) = false := decide_eq_false (by omega);clear hy he hm1 hm2 hm3 hr hdd hrs hj hpos EC;go_upto_region 17 with fail
      clear hmod hyc hec hwy hjw hL0' hL0 q1 q2 q3;go_cut [106] (fun v wx => v = .bool false ∧ (SepW w [eInts L (.slice (some ⟨bw,ow,none⟩) L.length c1),eBlk ab 66 (mkI 4 f),eBlk sb 63 [.int .i64 c.1,.slice AT c.2.length cp],eInts c.2 (.slice AT c.2.length cp),eBlk mb 37 [.slice p.A1 m.a.al.length p.c1,.int .i64 m.a.n,.slice p.A2 m.a.mr.length p.c2,.slice p.A3 m.a.ed.length p.c3,.slice B m.ac.length d,.int .i64 m.tk],eMdl m ⟨p,B,d⟩,eBlk xb 29 cs] wx))
      case first =>
       by_cases hq4 : q < 4
       · have q4 : decide ((q : Int) < 4) = true := decide_eq_true (by omega);have q5 : decide (q < 4) = true := decide_eq_true hq4;have hi3 : (q : Int) < 4 := by omega
         have hqa : q < m.ac.length := by rw [SM.out.len]; exact hq4
         have hqi : (q : Int) < (m.ac.length : Int) := by omega
         obtain ⟨gb,ob,xa,hB,_,hxa,xa0,xa1,xa2⟩ := AcsAt.at (Sep.mdAt T21.out 5 rfl SM.out.lens).ac (show q < m.ac.length by rw [SM.out.len]; exact hq4);dsimp only at hB;subst hB;obtain ⟨fq,hfq⟩ : ∃ v,v = f q := ⟨_,rfl⟩;have hat : m.at q = xa := Md.at_get hxa;obtain ⟨hlo,hup⟩ := MAYQ.out hq4;rw [← hfq,hat] at hlo hup;have ca := (BlkAt.cell (T21.out.get 1 rfl) q).trans (mkI_get hq4);rw [← hfq] at ca;have b4 := BlkAt.cell (T21.out.get 4 rfl) 4; simp only [List.getElem?_cons_succ,List.getElem?_cons_zero] at b4;have d1 : decide (fq < xa.lo) = false := decide_eq_false (by omega);clear hxa hat hfq;by_cases hu : 0 ≤ xa.up
         · have d2 : decide (0 ≤ xa.up) = true := decide_eq_true hu;have d3 : decide (xa.up < fq) = false := decide_eq_false (by have := hup hu; omega);clear hu hup hlo;go_quiet (fail)
           go_wp2_with fail
           go_meet
           exact ⟨rfl,T21.out.draws _⟩
         · have d2 : decide (0 ≤ xa.up) = false := decide_eq_false hu;clear hu hup hlo;go_quiet (fail)
           go_wp2_with fail
           go_meet
           exact ⟨rfl,T21.out.draws _⟩
       · have q4 : decide ((q : Int) < 4) = false := decide_eq_false (by omega);have q5 : decide (q < 4) = false := decide_eq_false hq4;go_quiet (fail)
         go_wp2_with fail
         go_meet
         exact ⟨rfl,T21.out.draws _⟩
      case rest =>
       clear T21 MAYQ;obtain ⟨rfl,S⟩ := hcut;have f_sb0 := qkC S.out 2 rfl 0 rfl;have f_sb1 := qkC S.out 2 rfl 1 rfl;have f_mb0 := qkC S.out 4 rfl 0 rfl;have f_mb1 := qkC S.out 4 rfl 1 rfl;have f_mb2 := qkC S.out 4 rfl 2 rfl;have f_mb3 := qkC S.out 4 rfl 3 rfl;have f_mb4 := qkC S.out 4 rfl 4 rfl;have f_mb5 := qkC S.out 4 rfl 5 rfl;go_wp2_with fail
       refine (SP.out wc (S.out.mdAt 5 rfl SM.out.lens) (S.out.ints 3 rfl) (S.out.mdCap 5 rfl)).mono ?_;rintro e61 v61 ⟨A2,c2,rfl,T⟩;have T61 := qkN S.out T.out;clear f_sb0 f_sb1 f_mb0 f_mb1 f_mb2 f_mb3 f_mb4 f_mb5 T S;obtain ⟨nb,hg62⟩ : ∃ g,g = v61.heap.size := ⟨_,rfl⟩;go_upto_region 20 with fail
       rw [← hg62];refine wp_world (fun V => (SepW w [eBlk nb 63 [.int .i64 dd.1,.slice A2 dd.2.length c2],eInts dd.2 (.slice A2 dd.2.length c2),eInts L (.slice (some ⟨bw,ow,none⟩) L.length c1),eBlk ab 66 (mkI 4 f),eBlk sb 63 [.int .i64 c.1,.slice AT c.2.length cp],eInts c.2 (.slice AT c.2.length cp),eBlk mb 37 [.slice p.A1 m.a.al.length p.c1,.int .i64 m.a.n,.slice p.A2 m.a.mr.length p.c2,.slice p.A3 m.a.ed.length p.c3,.slice B m.ac.length d,.int .i64 m.tk],eMdl m ⟨p,B,d⟩,eBlk xb 29 cs] V)) (T61.out.alloc' 63 [.int .i64 dd.1,.slice A2 dd.2.length c2] rfl hg62) fun v62 S' => ?_;have T62 := Lib.hid S'.out;clear S' T61 hg62;have T63 : (SepW w [eBlk nb 63 [.int .i64 dd.1,.slice A2 dd.2.length c2],eInts dd.2 (.slice A2 dd.2.length c2),eBlk ab 66 (mkI 4 f),eBlk sb 63 [.int .i64 c.1,.slice AT c.2.length cp],eInts c.2 (.slice AT c.2.length cp),eBlk mb 37 [.slice p.A1 m.a.al.length p.c1,.int .i64 m.a.n,.slice p.A2 m.a.mr.length p.c2,.slice p.A3 m.a.ed.length p.c3,.slice B m.ac.length d,.int .i64 m.tk],eMdl m ⟨p,B,d⟩,eBlk xb 29 cs] v62) := T62.out.pick [0,1,3,4,5,6,7,8] (by decide);clear T62;have AZ := Lib.hid (agV_zero (m := m) (c := c) (d := dd) (q := q) (f := f))
       have S2 : (SepW w [eBlk nb 63 [.int .i64 dd.1,.slice A2 dd.2.length c2],eInts dd.2 (.slice A2 dd.2.length c2),eBlk ab 66 (mkI 4 (agV m c dd q f 0)),eBlk sb 63 [.int .i64 c.1,.slice AT c.2.length cp],eInts c.2 (.slice AT c.2.length cp),eBlk mb 37 [.slice p.A1 m.a.al.length p.c1,.int .i64 m.a.n,.slice p.A2 m.a.mr.length p.c2,.slice p.A3 m.a.ed.length p.c3,.slice B m.ac.length d,.int .i64 m.tk],eMdl m ⟨p,B,d⟩,eBlk xb 29 cs] v62) := by rw [AZ.out]; exact T63.out
       have PP : Hid (∀ (s e : Int) (W : World),Md.At W m ⟨p,B,d⟩ → Calls Try.prog 23 #[.agg #[.slice p.A1 m.a.al.length p.c1,.int .i64 m.a.n,.slice p.A2 m.a.mr.length p.c2,.slice p.A3 m.a.ed.length p.c3,.slice B m.ac.length d,.int .i64 m.tk],.int .i64 s,.int .i64 e] W (Ret (.int .i64 (nextV m.a.ed s e)) W)) := fun s e W h => prepared_c m ⟨p,B,d⟩ s e W h;have AGR : Hid (∀ j,j < 4 → 0 ≤ f j ∧ f j ≤ 20) := fun j hj => by have := AG.out.rg j hj; omega
       clear SP T63 AZ;go_wp2_with fail
       go_loopw [16] (fun v wr => ∃ j : Nat,v = .int .i64 ↑j ∧ j ≤ 4 ∧ (SepW w [eBlk nb 63 [.int .i64 dd.1,.slice A2 dd.2.length c2],eInts dd.2 (.slice A2 dd.2.length c2),eBlk ab 66 (mkI 4 (agV m c dd q f j)),eBlk sb 63 [.int .i64 c.1,.slice AT c.2.length cp],eInts c.2 (.slice AT c.2.length cp),eBlk mb 37 [.slice p.A1 m.a.al.length p.c1,.int .i64 m.a.n,.slice p.A2 m.a.mr.length p.c2,.slice p.A3 m.a.ed.length p.c3,.slice B m.ac.length d,.int .i64 m.tk],eMdl m ⟨p,B,d⟩,eBlk xb 29 cs] wr)) (fun v _ => 4 - (intOf v).toNat)
       case atStart => exact ⟨0,rfl,by omega,S2.out⟩
       case round =>
        clear S2;obtain ⟨j,rfl,hj,S⟩ := hrel;by_cases hj4 : j < 4
        · have dj : decide ((j : Int) < 4) = true := decide_eq_true (by omega);have hwj : IntKind.i64.wrap ((j : Int) + 1) = (j : Int) + 1 := IntWalk.i64_in _ (by omega);have hev := SM.out.ev j hj4;obtain ⟨z1,hz1⟩ : ∃ v,v = nextV m.a.ed c.1 (j : Int) := ⟨_,rfl⟩;obtain ⟨z2,hz2⟩ : ∃ v,v = nextV m.a.ed dd.1 (j : Int) := ⟨_,rfl⟩;obtain ⟨b1,hb1⟩ : ∃ b,b = decide (0 ≤ z1) := ⟨_,rfl⟩;obtain ⟨b2,hb2⟩ : ∃ b,b = decide (0 ≤ z2) := ⟨_,rfl⟩;have P1 : Hid (m.pr c.1 j = b1) := by rw [Hid,hb1,hz1,← hev]; rfl
          have P2 : Hid (m.pr dd.1 j = b2) := by rw [Hid,hb2,hz2,← hev]; rfl
          have PC1 : Hid (∀ W : World,Md.At W m ⟨p,B,d⟩ → Calls Try.prog 23 #[.agg #[.slice p.A1 m.a.al.length p.c1,.int .i64 m.a.n,.slice p.A2 m.a.mr.length p.c2,.slice p.A3 m.a.ed.length p.c3,.slice B m.ac.length d,.int .i64 m.tk],.int .i64 c.1,.int .i64 ↑j] W (Ret (.int .i64 z1) W)) := fun W h => by rw [hz1]; exact PP.out _ _ W h
          have PC2 : Hid (∀ W : World,Md.At W m ⟨p,B,d⟩ → Calls Try.prog 23 #[.agg #[.slice p.A1 m.a.al.length p.c1,.int .i64 m.a.n,.slice p.A2 m.a.mr.length p.c2,.slice p.A3 m.a.ed.length p.c3,.slice B m.ac.length d,.int .i64 m.tk],.int .i64 dd.1,.int .i64 ↑j] W (Ret (.int .i64 z2) W)) := fun W h => by rw [hz2]; exact PP.out _ _ W h
          obtain ⟨fj,hfj⟩ : ∃ v,v = f j := ⟨_,rfl⟩;have hfr := AGR.out j hj4;rw [← hfj] at hfr;have HFJ := Lib.hid hfj;have hwf : IntKind.i64.wrap (fj + 1) = fj + 1 := IntWalk.i64_in _ (by omega);have AU : Hid (agU m c dd q f j = if q = 4 ∧ (b1 && b2) = true then fj + 1 else if (b1 && b2) = false ∨ j = q then 0 else fj) := by rw [Hid]; unfold agU; rw [P1.out,P2.out,hfj]
          have AAT := Lib.hid (agV_at (m := m) (c := c) (d := dd) (q := q) (f := f) (k := j));obtain ⟨bb,hbb⟩ : ∃ b,b = (b1 && b2) := ⟨_,rfl⟩;rw [← hbb] at AU;have HB1 := Lib.hid hb1;have HB2 := Lib.hid hb2;have HBB := Lib.hid hbb;clear hev hz1 hz2 hb1 hb2 hbb hfj;go_upto_region 25 with fail
          go_cut [17] (fun v wx => v = .bool bb ∧ (SepW w [eBlk nb 63 [.int .i64 dd.1,.slice A2 dd.2.length c2],eInts dd.2 (.slice A2 dd.2.length c2),eBlk ab 66 (mkI 4 (agV m c dd q f j)),eBlk sb 63 [.int .i64 c.1,.slice AT c.2.length cp],eInts c.2 (.slice AT c.2.length cp),eBlk mb 37 [.slice p.A1 m.a.al.length p.c1,.int .i64 m.a.n,.slice p.A2 m.a.mr.length p.c2,.slice p.A3 m.a.ed.length p.c3,.slice B m.ac.length d,.int .i64 m.tk],eMdl m ⟨p,B,d⟩,eBlk xb 29 cs] wx))
          case first =>
           have f_mb0 := qkC S.out 5 rfl 0 rfl;have f_mb1 := qkC S.out 5 rfl 1 rfl;have f_mb2 := qkC S.out 5 rfl 2 rfl;have f_mb3 := qkC S.out 5 rfl 3 rfl;have f_mb4 := qkC S.out 5 rfl 4 rfl;have f_mb5 := qkC S.out 5 rfl 5 rfl;have f_sb0 := qkC S.out 3 rfl 0 rfl;have f_sb1 := qkC S.out 3 rfl 1 rfl;have f_nb0 := qkC S.out 0 rfl 0 rfl;have f_nb1 := qkC S.out 0 rfl 1 rfl;go_wp2_with fail
           refine (PC1.out wr (S.out.mdAt 6 rfl SM.out.lens)).mono ?_;rintro e81 v81 ⟨rfl,hb⟩;have T81 := Lib.hid (S.out.next hb);clear f_mb0 f_mb1 f_mb2 f_mb3 f_mb4 f_mb5 f_sb0 f_sb1 f_nb0 f_nb1 hb S;have hbb := HBB.out;subst hbb;cases b1
           · have d1 : decide (0 ≤ z1) = false := HB1.out.symm;go_wp2_with fail
             go_meet
             exact ⟨rfl,T81.out⟩
           · have d1 : decide (0 ≤ z1) = true := HB1.out.symm;have f_mb0 := qkC T81.out 5 rfl 0 rfl;have f_mb1 := qkC T81.out 5 rfl 1 rfl;have f_mb2 := qkC T81.out 5 rfl 2 rfl;have f_mb3 := qkC T81.out 5 rfl 3 rfl;have f_mb4 := qkC T81.out 5 rfl 4 rfl;have f_mb5 := qkC T81.out 5 rfl 5 rfl;have f_sb0 := qkC T81.out 3 rfl 0 rfl;have f_sb1 := qkC T81.out 3 rfl 1 rfl;have f_nb0 := qkC T81.out 0 rfl 0 rfl;have f_nb1 := qkC T81.out 0 rfl 1 rfl;go_wp2_with fail
             refine (PC2.out v81 (T81.out.mdAt 6 rfl SM.out.lens)).mono ?_;rintro e82 v82 ⟨rfl,hb⟩;have T82 := Lib.hid (T81.out.next hb);clear f_mb0 f_mb1 f_mb2 f_mb3 f_mb4 f_mb5 f_sb0 f_sb1 f_nb0 f_nb1 hb T81;cases b2
             · have d2 : decide (0 ≤ z2) = false := HB2.out.symm;go_wp2_with fail
               go_meet
               exact ⟨rfl,T82.out⟩
             · have d2 : decide (0 ≤ z2) = true := HB2.out.symm;go_wp2_with fail
               go_meet
               exact ⟨rfl,T82.out⟩
          case rest =>
           clear S PC1 PC2 HB1 HB2 HBB P1 P2;obtain ⟨rfl,S⟩ := hcut;have a0 := (BlkAt.cell (S.out.get 2 rfl) j).trans (mkI_get hj4);rw [AAT.out,← HFJ.out] at a0;have a1 := BlkAt.free (S.out.get 2 rfl) j;by_cases hq4 : q = 4
           · have q4 : ((q : Int) == 4) = true := by rw [hq4]; rfl
             have q5 : (q == 4) = true := by rw [hq4]; rfl
             have jq : ((j : Int) == (q : Int)) = false := beq_eq_false_iff_ne.2 (by omega);have jq2 : (j == q) = false := beq_eq_false_iff_ne.2 (by omega);cases bb
             · have E : Hid (agU m c dd q f j = 0) := by rw [Hid,AU.out,if_neg (by simp),if_pos (.inl rfl)]
               have E2 := Lib.hid (agV_set E.out);have S9 : (SepW w [eBlk nb 63 [.int .i64 dd.1,.slice A2 dd.2.length c2],eInts dd.2 (.slice A2 dd.2.length c2),eBlk ab 66 (mkI 4 (agV m c dd q f (j + 1))),eBlk sb 63 [.int .i64 c.1,.slice AT c.2.length cp],eInts c.2 (.slice AT c.2.length cp),eBlk mb 37 [.slice p.A1 m.a.al.length p.c1,.int .i64 m.a.n,.slice p.A2 m.a.mr.length p.c2,.slice p.A3 m.a.ed.length p.c3,.slice B m.ac.length d,.int .i64 m.tk],eMdl m ⟨p,B,d⟩,eBlk xb 29 cs] (wc.setCell ⟨ab,j,none⟩ (.int .i64 0))) := by rw [E2.out]; exact S.out.set 2 rfl j _
               clear S;go_wp2_with fail
               go_roundw
               case rel => exact ⟨j + 1,by go_num,by omega,S9.out⟩
               case measure => simp [intOf]; omega
             · have E : Hid (agU m c dd q f j = fj + 1) := by rw [Hid,AU.out,if_pos ⟨hq4,rfl⟩]
               have E2 := Lib.hid (agV_set E.out);have S9 : (SepW w [eBlk nb 63 [.int .i64 dd.1,.slice A2 dd.2.length c2],eInts dd.2 (.slice A2 dd.2.length c2),eBlk ab 66 (mkI 4 (agV m c dd q f (j + 1))),eBlk sb 63 [.int .i64 c.1,.slice AT c.2.length cp],eInts c.2 (.slice AT c.2.length cp),eBlk mb 37 [.slice p.A1 m.a.al.length p.c1,.int .i64 m.a.n,.slice p.A2 m.a.mr.length p.c2,.slice p.A3 m.a.ed.length p.c3,.slice B m.ac.length d,.int .i64 m.tk],eMdl m ⟨p,B,d⟩,eBlk xb 29 cs] (wc.setCell ⟨ab,j,none⟩ (.int .i64 (fj + 1)))) := by rw [E2.out]; exact S.out.set 2 rfl j _
               clear S;go_wp2_with fail
               go_roundw
               case rel => exact ⟨j + 1,by go_num,by omega,S9.out⟩
               case measure => simp [intOf]; omega
           · have q4 : ((q : Int) == 4) = false := beq_eq_false_iff_ne.2 (by omega);have q5 : (q == 4) = false := beq_eq_false_iff_ne.2 hq4;cases bb
             · have E : Hid (agU m c dd q f j = 0) := by rw [Hid,AU.out,if_neg (fun g => hq4 g.1),if_pos (.inl rfl)]
               have E2 := Lib.hid (agV_set E.out);have S9 : (SepW w [eBlk nb 63 [.int .i64 dd.1,.slice A2 dd.2.length c2],eInts dd.2 (.slice A2 dd.2.length c2),eBlk ab 66 (mkI 4 (agV m c dd q f (j + 1))),eBlk sb 63 [.int .i64 c.1,.slice AT c.2.length cp],eInts c.2 (.slice AT c.2.length cp),eBlk mb 37 [.slice p.A1 m.a.al.length p.c1,.int .i64 m.a.n,.slice p.A2 m.a.mr.length p.c2,.slice p.A3 m.a.ed.length p.c3,.slice B m.ac.length d,.int .i64 m.tk],eMdl m ⟨p,B,d⟩,eBlk xb 29 cs] (wc.setCell ⟨ab,j,none⟩ (.int .i64 0))) := by rw [E2.out]; exact S.out.set 2 rfl j _
               clear S;go_wp2_with fail
               go_roundw
               case rel => exact ⟨j + 1,by go_num,by omega,S9.out⟩
               case measure => simp [intOf]; omega
             · by_cases hjq : j = q
               · have jq : ((j : Int) == (q : Int)) = true := by rw [hjq]; simp
                 have jq2 : (j == q) = true := by rw [hjq]; simp
                 have E : Hid (agU m c dd q f j = 0) := by rw [Hid,AU.out,if_neg (fun g => hq4 g.1),if_pos (.inr hjq)]
                 clear hjq;have E2 := Lib.hid (agV_set E.out);have S9 : (SepW w [eBlk nb 63 [.int .i64 dd.1,.slice A2 dd.2.length c2],eInts dd.2 (.slice A2 dd.2.length c2),eBlk ab 66 (mkI 4 (agV m c dd q f (j + 1))),eBlk sb 63 [.int .i64 c.1,.slice AT c.2.length cp],eInts c.2 (.slice AT c.2.length cp),eBlk mb 37 [.slice p.A1 m.a.al.length p.c1,.int .i64 m.a.n,.slice p.A2 m.a.mr.length p.c2,.slice p.A3 m.a.ed.length p.c3,.slice B m.ac.length d,.int .i64 m.tk],eMdl m ⟨p,B,d⟩,eBlk xb 29 cs] (wc.setCell ⟨ab,j,none⟩ (.int .i64 0))) := by rw [E2.out]; exact S.out.set 2 rfl j _
                 clear S;go_wp2_with fail
                 go_roundw
                 case rel => exact ⟨j + 1,by go_num,by omega,S9.out⟩
                 case measure => simp [intOf]; omega
               · have jq : ((j : Int) == (q : Int)) = false := beq_eq_false_iff_ne.2 (by omega);have jq2 : (j == q) = false := beq_eq_false_iff_ne.2 hjq;have E : Hid (agU m c dd q f j = f j) := by rw [Hid,AU.out,if_neg (fun g => hq4 g.1),if_neg (by rintro (g | g); cases g; exact hjq g),HFJ.out]
                 have E2 := Lib.hid (agV_same E.out);have S9 : (SepW w [eBlk nb 63 [.int .i64 dd.1,.slice A2 dd.2.length c2],eInts dd.2 (.slice A2 dd.2.length c2),eBlk ab 66 (mkI 4 (agV m c dd q f (j + 1))),eBlk sb 63 [.int .i64 c.1,.slice AT c.2.length cp],eInts c.2 (.slice AT c.2.length cp),eBlk mb 37 [.slice p.A1 m.a.al.length p.c1,.int .i64 m.a.n,.slice p.A2 m.a.mr.length p.c2,.slice p.A3 m.a.ed.length p.c3,.slice B m.ac.length d,.int .i64 m.tk],eMdl m ⟨p,B,d⟩,eBlk xb 29 cs] wc) := by rw [E2.out]; exact S.out
                 clear S a0 a1 hjq;go_wp2_with fail
                 go_roundw
                 case rel => exact ⟨j + 1,by go_num,by omega,S9.out⟩
                 case measure => simp [intOf]; omega
        · obtain rfl : j = 4 := by omega
          have dj : decide (((4 : Nat) : Int) < 4) = false := rfl;have AA := Lib.hid (agV_all (m := m) (c := c) (d := dd) (q := q) (f := f));have S9 : (SepW w [eBlk nb 63 [.int .i64 dd.1,.slice A2 dd.2.length c2],eInts dd.2 (.slice A2 dd.2.length c2),eBlk ab 66 (mkI 4 (agU m c dd q f)),eBlk sb 63 [.int .i64 c.1,.slice AT c.2.length cp],eInts c.2 (.slice AT c.2.length cp),eBlk mb 37 [.slice p.A1 m.a.al.length p.c1,.int .i64 m.a.n,.slice p.A2 m.a.mr.length p.c2,.slice p.A3 m.a.ed.length p.c3,.slice B m.ac.length d,.int .i64 m.tk],eMdl m ⟨p,B,d⟩,eBlk xb 29 cs] wr) := by rw [← AA.out]; exact S.out
          clear S AA;have f_nb0 := qkC S9.out 0 rfl 0 rfl;have f_nb1 := qkC S9.out 0 rfl 1 rfl;have f_sb0 := qkC S9.out 3 rfl 0 rfl;have f_sb1 := qkC S9.out 3 rfl 1 rfl;have g0 := BlkAt.free (S9.out.get 3 rfl) 0;have g1 := BlkAt.free (S9.out.get 3 rfl) 1;have U9 := Lib.hid ((S9.out.set 3 rfl 0 (.int .i64 dd.1)).set 3 rfl 1 (.slice A2 dd.2.length c2));clear S9;go_wp2_with fail
          go_roundw
          case rel => exact ⟨k + 1,dd,A2,c2,_,by go_num,by omega,DOK.out,AGN.out,U9.out.pick [2,3,1,5,6,7] (by decide)⟩
          case measure => simp [intOf]; omega
    · obtain rfl : k = l.length := by omega
      go_wp2_with fail
      go_ret
      exact ⟨rfl,S.out.below⟩
end Go.Proofs.Ytimdepdbcdbikaa
