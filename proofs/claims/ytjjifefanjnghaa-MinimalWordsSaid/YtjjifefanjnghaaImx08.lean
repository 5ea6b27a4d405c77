/-
  What the row leans on.
-/
import Derived.Test.YtjjifefanjnghaaImx07
set_option linter.unusedSimpArgs false
set_option linter.unusedVariables false
namespace Go.Proofs.Ytjjifefanjnghaa
open Go.RowKit
set_option maxRecDepth 100000
def encW (r : PrV) : List Value := [.slice r.A r.n r.c]
theorem wdOne (x : PrV) : ∀ u ∈ encW x,u.oneCell' = true := fun u hu => by simp [encW] at hu; subst hu; rfl
theorem wdInfo : (Try.prog.info? 22).map (fun i => (i.zero,i.size,i.bytes)) = some (some (.slice none 0 0),1,24) := by kernel_rfl
theorem Sep.wdAt {n T : Nat} {w0 w : World} {es : List Ent} {raw : List PrV} {A : Option Addr} {c : Nat} (S : Sep n w0 es w) (i : Nat) (hi : es[i]? = some (eOwn encW 1 T raw (.slice A raw.length c))) {k : Nat} (hk : k < raw.length) : ∃ g off r,A = some ⟨g,off,none⟩ ∧ raw[k]? = some r ∧ w.cell? ⟨g,off + k,none⟩ = some (.slice r.A r.n r.c) := by
 obtain ⟨b,off,x,vs,hA,_,hx,_,hE,hc⟩ := SlAt.at (Own.reads (enc := encW) (k := 1) (fun _ => rfl) (S.get i hi)) hk;obtain rfl : vs = encW _ := hE;exact ⟨b,off,x,hA,hx,by simpa using hc 0 _ rfl⟩
theorem apart8_n (a : Au) (p : AuP) (AW : Option Addr) (cW : Nat) (x y : Int) (l : List Int) (m : Nat) (w : World) (hm : m = l.length) (hr : a.Right) (hA : Au.At w a p) (hW : IntsAt w AW l) (hl : l.length ≤ 1000000) (hx : x = -1 ∨ 0 ≤ x) (hy : y = -1 ∨ 0 ≤ y) :
 Calls Try.prog 29 #[a.val p,.int .i64 x,.int .i64 y,.slice AW m cW] w (Tells (¬ Agree a a x y l) w) := by
 subst hm;exact apart8_c a p AW cW x y l w hr hA hW hl hx hy
def WL (vs : List Pw) : Prop := ∀ (j : Nat) p,vs[j]? = some p → p.w.length ≤ j
theorem wl_snoc {vs : List Pw} (h : WL vs) {p : Pw} (hp : p.w.length ≤ vs.length) : WL (vs ++ [p]) := fun j q hq => by
 rcases getElem?_snoc hq with hq | ⟨hj,rfl⟩
 · exact h j q hq
 · omega
set_option maxHeartbeats 16000000 in
theorem lawWords_c (d : Sm4) (x y : Int) (w : World) (hd : d.Ok) (hx : 0 ≤ x ∧ x < 256) (hy : 0 ≤ y ∧ y < 256) :
 Calls Try.prog 6 #[.agg d.cells.toArray,.int .u8 x,.int .u8 y] w (Ret (.bool true) w) := by
 have HD := Lib.hid hd;have HR := Lib.hid (Sm4.right hd);have HL := Lib.hid (Sm4.lens hd);have HNE := Lib.hid (Sm4.need hd);obtain ⟨hn1,hn6⟩ := Sm4.n_rg hd;obtain ⟨x0,x1⟩ := hx;obtain ⟨y0,y1⟩ := hy;clear hd;obtain ⟨N,hN⟩ : ∃ N : Int,d.au.n = N := ⟨_,rfl⟩;have hN1 : 1 ≤ N ∧ N ≤ 6 := by have : d.au.n = (d.n : Int) := rfl; omega
 have hN0 : (N == 0) = false := by simp; omega
 have HN := Lib.hid hN;clear hn1 hn6;obtain ⟨X,hX⟩ : ∃ X,x % N = X := ⟨_,rfl⟩;obtain ⟨Y,hY⟩ : ∃ Y,y % N = Y := ⟨_,rfl⟩;have tX : x.tmod N = X := by rw [Int.tmod_eq_emod_of_nonneg x0]; exact hX
 have tY : y.tmod N = Y := by rw [Int.tmod_eq_emod_of_nonneg y0]; exact hY
 have bX : 0 ≤ X ∧ X < N := by rw [← hX]; exact ⟨Int.emod_nonneg _ (by omega),Int.emod_lt_of_pos _ (by omega)⟩
 have bY : 0 ≤ Y ∧ Y < N := by rw [← hY]; exact ⟨Int.emod_nonneg _ (by omega),Int.emod_lt_of_pos _ (by omega)⟩
 have wx : IntKind.i64.wrap x = x := IntWalk.i64_in _ (by omega);have wy : IntKind.i64.wrap y = y := IntWalk.i64_in _ (by omega);have wX : IntKind.i64.wrap X = X := IntWalk.i64_in _ (by omega);have wY : IntKind.i64.wrap Y = Y := IntWalk.i64_in _ (by omega);have HIS : Hid (InSt d.au X Y) := by rw [Hid,InSt,hN]; exact ⟨bX,bY⟩
 clear hX hY hN;go_enter Try.func6,Try.ntmps6
 generalize hcs : d.cells = cs;go_upto_region 1 with fail
 refine wp_world (fun W => Sep w.heap.size w [eBlk w.heap.size 46 cs] W) ?_ fun W S => ?_
 · exact (Sep.here w).alloc' _ cs rfl rfl
 rw [← hcs] at S;have SA := Lib.hid S;clear S hcs;go_wp2_with fail
 refine (knownM_c W).mono ?_;rintro e w1 ⟨rfl,hb⟩;have SB := Lib.hid (SA.out.next hb);clear hb SA;go_wp2_with (refine wpList_load_mid rfl 46 (.tmp 3) rfl w.heap.size 0 rfl d.cells _ (BlkAt.rng (SB.out.get 0 rfl) (fun j v hv => by rw [Nat.zero_add]; exact hv)) Try.underlying46 rfl (Sm4.info HD.out) ?_)
 refine (make4_c d w1 HD.out).mono ?_;rintro e v2 ⟨⟨A1,a1,A2,a2,A3,a3⟩,rfl,TT⟩;have T2 := ckN SB.out TT.out;clear TT SB;dsimp only [Au.val];obtain ⟨ta,ht⟩ : ∃ g,g = v2.heap.size := ⟨_,rfl⟩;go_upto_region 4 with fail
 rw [← ht];refine wp_world (fun V => Sep w.heap.size w [eBlk ta 25 [.slice A1 d.au.al.length a1,.int .i64 d.au.n,.slice A2 d.au.mr.length a2,.slice A3 d.au.ed.length a3],eInts d.au.al (.slice A1 d.au.al.length a1),eInts d.au.mr (.slice A2 d.au.mr.length a2),eEds d.au.ed (.slice A3 d.au.ed.length a3),eBlk w.heap.size 46 d.cells] V) (T2.out.alloc' _ [_,_,_,_] rfl ht) fun W2 S' => ?_;have S2 : (SepW w [eBox ta d.au ⟨A1,a1,A2,a2,A3,a3⟩,eBlk w.heap.size 46 d.cells] W2) := S'.box;clear S' T2 ht;have la0 := BlkAt.cell (S2.out.get 0 rfl).1 0;have la1 := BlkAt.cell (S2.out.get 0 rfl).1 1;have la2 := BlkAt.cell (S2.out.get 0 rfl).1 2;have la3 := BlkAt.cell (S2.out.get 0 rfl).1 3;simp only [List.getElem?_cons_succ,List.getElem?_cons_zero] at la0 la1 la2 la3;rw [HN.out] at la1;go_cut [8,9] (fun p q wx => p = .int .i64 X ∧ q = .int .i64 Y ∧ (SepW w [eBox ta d.au ⟨A1,a1,A2,a2,A3,a3⟩,eBlk w.heap.size 46 d.cells] wx))
 case first =>
  go_quiet (fail)
  go_wp2_with fail
  go_meet
  exact ⟨rfl,rfl,S2.out.draws _⟩
 case rest =>
  obtain ⟨rfl,rfl,S3⟩ := hcut;clear S2 la0 la1 la2 la3;have la0 := BlkAt.cell (S3.out.get 0 rfl).1 0;have la1 := BlkAt.cell (S3.out.get 0 rfl).1 1;have la2 := BlkAt.cell (S3.out.get 0 rfl).1 2;have la3 := BlkAt.cell (S3.out.get 0 rfl).1 3;simp only [List.getElem?_cons_succ,List.getElem?_cons_zero] at la0 la1 la2 la3;go_wp2_with fail
  refine (distX_c d.au ⟨A1,a1,A2,a2,A3,a3⟩ X Y wc (fun _ => eBox.caps (S3.out.get 0 rfl)) (fun _ => HNE.out) (eBox.at (S3.out.get 0 rfl) HL.out)).mono ?_;rintro e v4 ⟨AW,cW,l,f,r,rfl,HW,hb,HF⟩;obtain ⟨rfl,hdw⟩ := DistW.of HR.out HIS.out HF.out;have HDW := Lib.hid hdw;have S4 := Lib.hid (S3.out.next hb);clear HF hdw hb S3 la0 la1 la2 la3;have la0 := BlkAt.cell (S4.out.get 0 rfl).1 0;have la1 := BlkAt.cell (S4.out.get 0 rfl).1 1;have la2 := BlkAt.cell (S4.out.get 0 rfl).1 2;have la3 := BlkAt.cell (S4.out.get 0 rfl).1 3;simp only [List.getElem?_cons_succ,List.getElem?_cons_zero] at la0 la1 la2 la3;have HRT := HR;have HLT := HL;have HDC := Lib.hid (HDW.out.cases HR.out HR.out (.inr HIS.out.1.1) (.inr HIS.out.2.1));have hl6 : l.length ≤ 1000000 := by
   have h1 : (l.length : Int) < d.au.n := DistW.short HR.out HIS.out.1 HIS.out.2 HDW.out;have hnn : d.au.n = N := HN.out;omega
  go_upto_region 6 with fail
  go_cut [51] (fun c wx => c = .bool false ∧ (SepW w [eBox ta d.au ⟨A1,a1,A2,a2,A3,a3⟩,eBlk w.heap.size 46 d.cells] wx))
  case first =>
   cases f
   · go_wp2_with fail
     go_meet
     exact ⟨rfl,S4.out⟩
   · have hna : ¬ Agree d.au d.au X Y l := by
      rcases HDC.out with ⟨_,h⟩ | ⟨h,_⟩
      · exact h.is
      · cases h
     have HNA := Lib.hid hna;clear hna;go_wp2_with fail
     refine (apart8_c d.au ⟨A1,a1,A2,a2,A3,a3⟩ AW cW X Y l v4 HR.out (eBox.at (S4.out.get 0 rfl) HL.out) HW.out hl6 (.inr HIS.out.1.1) (.inr HIS.out.2.1)).mono ?_;intro e v5 hs;obtain ⟨rfl,hb⟩ := hs.yes2 HNA.out;have S5 := Lib.hid (S4.out.next hb);clear hb hs;go_wp2_with fail
     go_meet
     exact ⟨rfl,S5.out⟩
  case rest =>
   clear S4 la0 la1 la2 la3;obtain ⟨rfl,S5⟩ := hcut;obtain ⟨b0,hb0⟩ : ∃ b,b = wc.heap.size := ⟨_,rfl⟩;have HSTOP : Hid (∀ v : List Int,¬ (f = true ∧ l.length ≤ v.length) → Agree d.au d.au X Y v) := fun v hv => by
    rcases HDC.out with ⟨h1,h⟩ | ⟨_,_,h⟩
    · refine Classical.byContradiction fun g => hv ⟨h1,?_⟩;rcases h.le v g with (h | h) | h
      · omega
      · omega
      · rw [h]; exact Nat.le_refl _
    · exact h v
   clear HDC;go_upto_region 9 with fail
   rw [← hb0];refine wp_world (fun V => Sep w.heap.size w [eWds [] [⟨0,0,none,0,0⟩] [⟨0,0,[]⟩],eOwn encW 1 22 [⟨0,0,none,0,0⟩] (.slice (some ⟨b0,0,none⟩) 1 1),eBox ta d.au ⟨A1,a1,A2,a2,A3,a3⟩,eBlk w.heap.size 46 d.cells] V) ?_ fun W2 S => ?_
   · have h1 := ((S5.out.alloc' 22 [.slice none 0 0] rfl hb0).own 0 rfl encW 1 [⟨0,0,none,0,0⟩] rfl (fun _ => rfl) (by simp [maxLen])).new1 (Below.refl _ _) (eWds [] [] []) ⟨rfl,by simp,by simp⟩ (by simp [eWds]);exact Sep.wdsPush (wd := []) (A := none) (c := 0) (h1.nilOwn encI 1 3) 0 0
   have S6 := Lib.hid S;clear S S5 hb0;go_wp2_with fail
   go_loopw [13,14,15,16] (fun v j _ _ wr => ∃ (n : Nat) (raw : List PrV) (vs : List Pw) (AR : Option Addr) (cR : Nat) (fs : List Nat),j = .int .i64 ↑n ∧ v = .slice AR raw.length cR ∧ n ≤ 85 ∧ Hid (raw.length = 1 + 4 * n) ∧ Hid (raw.length = vs.length) ∧ Hid (WL vs) ∧ (SepW w [eWds fs raw vs,eOwn encW 1 22 raw (.slice AR raw.length cR),eBox ta d.au ⟨A1,a1,A2,a2,A3,a3⟩,eBlk w.heap.size 46 d.cells] wr)) (fun _ j _ _ _ => 85 - (intOf j).toNat)
   case atStart => exact ⟨0,[⟨0,0,none,0,0⟩],[⟨0,0,[]⟩],_,_,[],rfl,rfl,by omega,rfl,rfl,(fun j p h => by cases j with | zero => simp at h; subst h; simp | succ j => simp at h),S6.out⟩
   case round =>
    clear S6;obtain ⟨n,raw,vs,AR,cR,fs,rfl,rfl,hn,hrl,hlv,HL,S⟩ := hrel;by_cases hlt : n < 85
    · have hnr : n < raw.length := by have := hrl.out; omega
      obtain ⟨gR,oR,r,rfl,hr,hrc⟩ := S.out.wdAt 1 rfl hnr;have hnv : n < vs.length := by have := hlv.out; omega
      obtain ⟨p,hp⟩ : ∃ p,vs[n]? = some p := ⟨_,List.getElem?_eq_getElem hnv⟩;obtain ⟨_,_,hwd⟩ := (S.out.get 0 rfl).2.2 n r p hr hp;have hpl : p.w.length ≤ n := HL.out n p hp;have HWI : Hid (IntsAt wr r.A p.w) := hwd.ints (S.out.get 0 rfl).2.1;have hrn : r.n = p.w.length := hwd.1;have HWD := Lib.hid hwd;obtain ⟨rX,rY,rA,rn,rc⟩ := r;dsimp only at hrn hrc;have HRN := Lib.hid hrn;clear hrn;dsimp only at HWI;have HR := Lib.hid hr;have HP := Lib.hid hp;clear hr hp hwd;have la0 := BlkAt.cell (S.out.get 2 rfl).1 0;have la1 := BlkAt.cell (S.out.get 2 rfl).1 1;have la2 := BlkAt.cell (S.out.get 2 rfl).1 2;have la3 := BlkAt.cell (S.out.get 2 rfl).1 3;simp only [List.getElem?_cons_succ,List.getElem?_cons_zero] at la0 la1 la2 la3;have hn85 : decide ((n : Int) < 85) = true := decide_eq_true (by omega);by_cases hst : f = true ∧ l.length ≤ p.w.length
      · obtain ⟨rfl,hst⟩ := hst;have hst' : decide ((rn : Int) ≥ (l.length : Int)) = true := by rw [HRN.out]; exact decide_eq_true (by omega)
        have hst2 : decide (l.length ≤ rn) = true := by rw [HRN.out]; exact decide_eq_true hst
        go_wp2_with fail
        go_ret
        exact ⟨rfl,S.out.below⟩
      · have HAG := Lib.hid (HSTOP.out p.w hst);go_upto_region 13 with fail
        go_cut [68] (fun c wx => c = .bool false ∧ wx = wr)
        case first =>
         cases f
         · go_wp2_with fail
           go_meet
           exact ⟨rfl,rfl⟩
         · have hst' : decide ((rn : Int) ≥ (l.length : Int)) = false := by rw [HRN.out]; exact decide_eq_false (fun h => hst ⟨rfl,by omega⟩)
           have hst2 : decide (l.length ≤ rn) = false := by rw [HRN.out]; exact decide_eq_false (fun h => hst ⟨rfl,h⟩)
           go_wp2_with fail
           go_meet
           exact ⟨rfl,rfl⟩
        case rest =>
         obtain ⟨rfl,rfl⟩ := hcut;clear hst;go_wp2_with fail
         refine (apart8_n d.au ⟨A1,a1,A2,a2,A3,a3⟩ rA rc X Y p.w rn wc HRN.out HRT.out (eBox.at (S.out.get 2 rfl) HLT.out) HWI.out (by omega) (.inr HIS.out.1.1) (.inr HIS.out.2.1)).mono ?_;intro e v7 hs;obtain ⟨rfl,hb⟩ := hs.no2 (fun h => h HAG.out);have S7 := Lib.hid (S.out.next hb);clear hb hs S HAG HWI hrc la0 la1 la2 la3;go_wp2_with fail
         go_loopw [13,16] (fun v j wr => ∃ (k : Nat) (raw : List PrV) (vs : List Pw) (AR : Option Addr) (cR : Nat) (fs : List Nat),j = .int .i64 ↑k ∧ v = .slice AR raw.length cR ∧ k ≤ 4 ∧ Hid (raw.length = 1 + 4 * n + k) ∧ Hid (raw.length = vs.length) ∧ Hid (WL vs) ∧ Hid (raw[n]? = some ⟨rX,rY,rA,rn,rc⟩) ∧ Hid (vs[n]? = some p) ∧ (SepW w [eWds fs raw vs,eOwn encW 1 22 raw (.slice AR raw.length cR),eBox ta d.au ⟨A1,a1,A2,a2,A3,a3⟩,eBlk w.heap.size 46 d.cells] wr)) (fun _ j _ => 4 - (intOf j).toNat)
         case atStart => exact ⟨0,raw,vs,_,cR,fs,rfl,rfl,by omega,hrl.out,hlv.out,HL.out,HR.out,HP.out,S7.out⟩
         case round =>
          clear S7 hrl hlv HL HR HP hnr hnv HWD;obtain ⟨k,raw,vs,AR,cR,fs,rfl,rfl,hk,hrl,hlv,HL,HR,HP,S⟩ := hrel;have hnr : n < raw.length := by have := hrl.out; omega
          by_cases hk4 : k < 4
          · obtain ⟨gR,oR,_,rfl,_,_⟩ := S.out.wdAt 1 rfl hnr;obtain ⟨_,_,hwd⟩ := (S.out.get 0 rfl).2.2 n _ p HR.out HP.out;have hrl4 : raw.length ≤ 1000 := by have := hrl.out; omega
            rcases hwd.2 with ⟨e1,hw0,e3⟩ | ⟨gW,e1,_,_⟩
            · dsimp only at e1 e3;subst e1 e3;have HW0 := Lib.hid hw0;obtain rfl : rn = 0 := by rw [HRN.out,hw0]; rfl
              clear hw0 hwd;go_wp2_with (at_builtin; refine wpList_pushS rfl _ _ 22 rfl (((S.out.alloc 3 []).own 0 rfl encI 1 [] rfl (fun _ => rfl) (by simp)).alloc' 3 [.int .i64 ↑k] (o := .cells #[.int .i64 ↑k] 3) rfl (g := wr.heap.size + 1) (by simp)) 1 rfl Try.underlying22 _ 8 intInfo rfl (by decide) rfl (k : Int) _ rfl rfl (fun j u hj => (BlkAt.cell ((((S.out.alloc 3 []).own 0 rfl encI 1 [] rfl (fun _ => rfl) (by simp)).alloc' 3 [.int .i64 ↑k] (o := .cells #[.int .i64 ↑k] 3) rfl (g := wr.heap.size + 1) (by simp)).get 0 rfl) j).trans hj) (encI_one _) (by decide) (by decide) ?_)
              intro A6 c6 w6 S6' _;have S6 := Lib.hid S6'.drop1;clear S6' S;go_wp2_with (at_builtin; refine wpList_pushS rfl _ _ 59 rfl (S6.out.alloc 22 [.slice A6 (([] : List Int).length + 1) c6]) 3 rfl Try.underlying59 _ 24 wdInfo rfl (by decide) rfl ⟨0,0,A6,([] : List Int).length + 1,c6⟩ _ rfl rfl (fun j u hj => (BlkAt.cell ((S6.out.alloc 22 [.slice A6 (([] : List Int).length + 1) c6]).get 0 rfl) j).trans hj) (wdOne _) (by omega) (by decide) ?_)
              intro A7 c7 w7 S7' _;have S7 : Sep w.heap.size w [eInts (([] : List Int) ++ [(k : Int)]) (.slice A6 (([] : List Int) ++ [(k : Int)]).length c6),eWds fs raw vs,eOwn encW 1 22 (raw ++ [⟨0,0,A6,([] : List Int).length + 1,c6⟩]) (.slice A7 (raw.length + 1) c7),eBox ta d.au ⟨A1,a1,A2,a2,A3,a3⟩,eBlk w.heap.size 46 d.cells] w7 := by
               have h := S7'.pick [1,2,3,4,5] (by decide);rw [List.length_append];exact h
              have h2 := S7.wdsPush 0 0;rw [List.length_append] at h2;obtain ⟨fs2,hfs2⟩ : ∃ f,f = (Value.slice A6 ((([] : List Int)).length + [(k : Int)].length) c6).ownBlock.toList ++ fs := ⟨_,rfl⟩;rw [← hfs2] at h2;clear hfs2 S7 S7' S6;have S8 : (SepW w [eWds fs2 (raw ++ [⟨0,0,A6,([] : List Int).length + 1,c6⟩]) (vs ++ [⟨0,0,([] : List Int) ++ [(k : Int)]⟩]),eOwn encW 1 22 (raw ++ [⟨0,0,A6,([] : List Int).length + 1,c6⟩]) (.slice A7 (raw ++ [(⟨0,0,A6,([] : List Int).length + 1,c6⟩ : PrV)]).length c7),eBox ta d.au ⟨A1,a1,A2,a2,A3,a3⟩,eBlk w.heap.size 46 d.cells] w7) := by
               rw [List.length_append];exact h2
              go_wp2_with fail
              go_roundw
              case rel => exact ⟨k + 1,raw ++ [(⟨0,0,A6,([] : List Int).length + 1,c6⟩ : PrV)],vs ++ [(⟨0,0,([] : List Int) ++ [(k : Int)]⟩ : Pw)],A7,c7,fs2,by go_num,by rw [List.length_append]; rfl,by omega,by rw [Hid,List.length_append]; have := hrl.out; show raw.length + 1 = _; omega,by rw [Hid,List.length_append,List.length_append,hlv.out]; rfl,wl_snoc HL.out (by have := hrl.out; have := hlv.out; simp; omega),by rw [Hid,List.getElem?_append_left (by have := hrl.out; omega)]; exact HR.out,by rw [Hid,List.getElem?_append_left (by have := hrl.out; have := hlv.out; omega)]; exact HP.out,S8.out⟩
              case measure => simp [intOf]; omega
            · dsimp only at e1;subst e1;obtain rfl := HRN.out;clear hwd;go_wp2_with (at_builtin; refine wpList_pushNS rfl _ _ 22 rfl ((S.out.alloc 3 []).own 0 rfl encI 1 [] rfl (fun _ => rfl) (by simp)) 0 rfl Try.underlying22 _ 8 intInfo rfl (by decide) rfl p.w gW _ rfl (fun _ => rfl) (Sep.wdCells ((S.out.alloc 3 []).own 0 rfl encI 1 [] rfl (fun _ => rfl) (by simp)) 1 rfl HR.out HP.out) encI_one (by simp; omega) (by decide) ?_)
              intro A5 c5 w5 S5' _;have S5 := Lib.hid S5';clear S5' S;(try simp only [List.nil_append,List.length_nil,Nat.zero_add] at S5);(try simp only [List.length_nil,Nat.zero_add]);go_wp2_with (at_builtin; refine wpList_pushS rfl _ _ 22 rfl (S5.out.alloc 3 [.int .i64 ↑k]) 1 rfl Try.underlying22 _ 8 intInfo rfl (by decide) rfl (k : Int) _ rfl rfl (fun j u hj => (BlkAt.cell ((S5.out.alloc 3 [.int .i64 ↑k]).get 0 rfl) j).trans hj) (encI_one _) (by omega) (by decide) ?_)
              intro A6 c6 w6 S6' _;have S6 := Lib.hid S6'.drop1;clear S6' S5;go_wp2_with (at_builtin; refine wpList_pushS rfl _ _ 59 rfl (S6.out.alloc 22 [.slice A6 (p.w.length + 1) c6]) 3 rfl Try.underlying59 _ 24 wdInfo rfl (by decide) rfl ⟨0,0,A6,p.w.length + 1,c6⟩ _ rfl rfl (fun j u hj => (BlkAt.cell ((S6.out.alloc 22 [.slice A6 (p.w.length + 1) c6]).get 0 rfl) j).trans hj) (wdOne _) (by omega) (by decide) ?_)
              intro A7 c7 w7 S7' _;have S7 : Sep w.heap.size w [eInts (p.w ++ [(k : Int)]) (.slice A6 (p.w ++ [(k : Int)]).length c6),eWds fs raw vs,eOwn encW 1 22 (raw ++ [⟨0,0,A6,p.w.length + 1,c6⟩]) (.slice A7 (raw.length + 1) c7),eBox ta d.au ⟨A1,a1,A2,a2,A3,a3⟩,eBlk w.heap.size 46 d.cells] w7 := by
               have h := S7'.pick [1,2,3,4,5] (by decide);rw [List.length_append];exact h
              have h2 := S7.wdsPush 0 0;rw [List.length_append] at h2;obtain ⟨fs2,hfs2⟩ : ∃ f,f = (Value.slice A6 ((p.w).length + [(k : Int)].length) c6).ownBlock.toList ++ fs := ⟨_,rfl⟩;rw [← hfs2] at h2;clear hfs2 S7 S7' S6;have S8 : (SepW w [eWds fs2 (raw ++ [⟨0,0,A6,p.w.length + 1,c6⟩]) (vs ++ [⟨0,0,p.w ++ [(k : Int)]⟩]),eOwn encW 1 22 (raw ++ [⟨0,0,A6,p.w.length + 1,c6⟩]) (.slice A7 (raw ++ [(⟨0,0,A6,p.w.length + 1,c6⟩ : PrV)]).length c7),eBox ta d.au ⟨A1,a1,A2,a2,A3,a3⟩,eBlk w.heap.size 46 d.cells] w7) := by
               rw [List.length_append];exact h2
              go_wp2_with fail
              go_roundw
              case rel => exact ⟨k + 1,raw ++ [(⟨0,0,A6,p.w.length + 1,c6⟩ : PrV)],vs ++ [(⟨0,0,p.w ++ [(k : Int)]⟩ : Pw)],A7,c7,fs2,by go_num,by rw [List.length_append]; rfl,by omega,by rw [Hid,List.length_append]; have := hrl.out; show raw.length + 1 = _; omega,by rw [Hid,List.length_append,List.length_append,hlv.out]; rfl,wl_snoc HL.out (by have := hrl.out; have := hlv.out; simp; omega),by rw [Hid,List.getElem?_append_left (by have := hrl.out; omega)]; exact HR.out,by rw [Hid,List.getElem?_append_left (by have := hrl.out; have := hlv.out; omega)]; exact HP.out,S8.out⟩
              case measure => simp [intOf]; omega
          · obtain rfl : k = 4 := by omega
            go_wp2_with fail
            go_roundw
            case rel => exact ⟨n + 1,raw,vs,AR,cR,fs,by go_num,rfl,by omega,by rw [Hid,hrl.out]; omega,hlv.out,HL.out,S.out⟩
            case measure => simp [intOf]; omega
    · obtain rfl : n = 85 := by omega
      go_wp2_with fail
      go_ret
      exact ⟨rfl,S.out.below⟩
end Go.Proofs.Ytjjifefanjnghaa
