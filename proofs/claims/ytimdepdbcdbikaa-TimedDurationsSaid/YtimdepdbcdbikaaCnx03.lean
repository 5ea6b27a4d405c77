/-
  What the row leans on.
-/
import Derived.Test.YtimdepdbcdbikaaBas01
import Derived.Test.YtimdepdbcdbikaaCnx02
import Derived.Test.YtimdepdbcdbikaaBas18
import Derived.Test.YtimdepdbcdbikaaBas19
import Derived.BigQuiet
import Derived.Great.BuildSlice
import Derived.Deep.MidRow
import Derived.Deep.CutBlock
import Derived.Deep.DeepCutAuto
import Derived.Test.YtimdepdbcdbikaaCnx01
set_option linter.unusedSimpArgs false
set_option linter.unusedVariables false
namespace Go.Proofs.Ytimdepdbcdbikaa
open Go.RowKit
set_option maxRecDepth 100000
theorem Sep.ints' {n : Nat} {w0 w : World} {es : List Ent} {l : List Int} {A : Option Addr} {N c : Nat} (S : Sep n w0 es w) (i : Nat) (hi : es[i]? = some (eInts l (.slice A N c))) : IntsAt w A l := by
 have ho := S.get i hi;obtain ⟨A',c',e⟩ := Own.form ho;cases e;exact OwnI.ints ho
set_option maxHeartbeats 16000000 in
theorem lawDurations_c (x : Sm5) (AL : Option Addr) (cL : Nat) (l : List Int) (w : World) (hx : x.Ok) (hl : U8sAt w AL l) :
 Calls Try.prog 4 #[.agg x.cells.toArray,.slice AL l.length cL] w (Ret (.bool true) w) := by
 have HL := Lib.hid hl;clear hl;have MK := Lib.hid (fun W : World => makeM_c x W hx);have SM := Lib.hid (Sm5.sml hx);have INFO := Lib.hid (Sm5.info hx);obtain ⟨m,hm⟩ : ∃ m,m = x.md := ⟨_,rfl⟩;rw [← hm] at MK SM;obtain ⟨cs,hcs⟩ : ∃ cs,cs = x.cells := ⟨_,rfl⟩;rw [← hcs] at MK INFO ⊢;clear hm hcs hx;go_enter Try.func4,Try.ntmps4
 obtain ⟨xb,hxb⟩ : ∃ g,g = w.heap.size := ⟨_,rfl⟩;go_upto_region 1 with fail
 rw [← hxb];refine wp_world (fun W => (SepW w [eBlk xb 29 cs] W)) ((Sep.here w).alloc' _ cs rfl hxb) fun v1 S' => ?_;have T1 := Lib.hid S'.out;clear S' hxb;go_wp2_with fail
 refine (knownT_c v1).mono ?_;rintro e2 v2 ⟨rfl,hb⟩;have T2 := Lib.hid (T1.out.next hb);clear hb T1;by_cases h10 : 4 < l.length
 · have hd1 : decide ((4 : Int) < (l.length : Int)) = true := decide_eq_true (by omega);have hd2 : decide (4 < l.length) = true := decide_eq_true h10;go_wp2_with fail
   refine (knownT_c v2).mono ?_;rintro e3 v3 ⟨rfl,hb⟩;have T3 := Lib.hid (T2.out.next hb);clear hb T2;go_wp2_with fail
   go_ret
   exact ⟨rfl,T3.out.below⟩
 · have hd1 : decide ((4 : Int) < (l.length : Int)) = false := decide_eq_false (by omega);have hd2 : decide (4 < l.length) = false := decide_eq_false h10;have hrg := range_of (T2.out.get 0 rfl);go_wp2_with (refine wpList_load_mid rfl 29 _ rfl xb 0 rfl cs _ hrg Try.underlying29 rfl INFO.out ?_)
   refine (MK.out v2).mono ?_;rintro e3 v3 ⟨⟨p,B,d⟩,rfl,T⟩;dsimp only [Md.cells];have T3 := qkN T2.out T.out;clear T T2;clear hrg MK INFO;obtain ⟨mb,hg4⟩ : ∃ g,g = v3.heap.size := ⟨_,rfl⟩;go_upto_region 4 with fail
   rw [← hg4];refine wp_world (fun V => (SepW w [eBlk mb 37 [.slice p.A1 m.a.al.length p.c1,.int .i64 m.a.n,.slice p.A2 m.a.mr.length p.c2,.slice p.A3 m.a.ed.length p.c3,.slice B m.ac.length d,.int .i64 m.tk],eMdl m ⟨p,B,d⟩,eBlk xb 29 cs] V)) (T3.out.alloc' 37 [.slice p.A1 m.a.al.length p.c1,.int .i64 m.a.n,.slice p.A2 m.a.mr.length p.c2,.slice p.A3 m.a.ed.length p.c3,.slice B m.ac.length d,.int .i64 m.tk] rfl hg4) fun v4 S' => ?_;have T4 := Lib.hid S'.out;clear S' T3 hg4;have hl4 : l.length ≤ 4 := by omega
   have Z0 : Hid (((l.take 0).map (· % 4)).length = 0) := by rw [Hid]; simp
   have S1 : (SepW w [eInts ((l.take 0).map (· % 4)) (.slice none 0 0),eBlk mb 37 [.slice p.A1 m.a.al.length p.c1,.int .i64 m.a.n,.slice p.A2 m.a.mr.length p.c2,.slice p.A3 m.a.ed.length p.c3,.slice B m.ac.length d,.int .i64 m.tk],eMdl m ⟨p,B,d⟩,eBlk xb 29 cs] v4) := by
    have h := T4.out.nilOwn encI 1 3;exact h
   clear hd1 hd2 h10 T4;go_wp2_with fail
   go_loopw [7,6] (fun vi vw wr => ∃ (k : Nat) (A0 : Option Addr) (c0 : Nat),vi = .int .i64 ↑k ∧ vw = .slice A0 ((l.take k).map (· % 4)).length c0 ∧ k ≤ l.length ∧ (SepW w [eInts ((l.take k).map (· % 4)) (.slice A0 ((l.take k).map (· % 4)).length c0),eBlk mb 37 [.slice p.A1 m.a.al.length p.c1,.int .i64 m.a.n,.slice p.A2 m.a.mr.length p.c2,.slice p.A3 m.a.ed.length p.c3,.slice B m.ac.length d,.int .i64 m.tk],eMdl m ⟨p,B,d⟩,eBlk xb 29 cs] wr)) (fun vi _ _ => l.length - (intOf vi).toNat)
   case atStart => exact ⟨0,none,0,rfl,rfl,Nat.zero_le _,S1.out⟩
   case round =>
    clear S1 Z0;obtain ⟨k,A0,c0,rfl,rfl,hk,S⟩ := hrel;by_cases hlt : k < l.length
    · obtain ⟨bl,ol,y,hAl,_,hy,hyr,hyc⟩ := U8sAt.at (HL.out.below U8E.stays S.out.below) hlt;subst hAl;obtain ⟨L,hL⟩ : ∃ L,L = ((l.take k).map (· % 4)) := ⟨_,rfl⟩;rw [← hL] at S;have HTK : Hid ((l.take (k + 1)).map (· % 4) = L ++ [y % 4]) := by rw [Hid,take_snoc hy,List.map_append,← hL]; rfl
      have HLL : Hid (L.length ≤ 4) := by rw [Hid,hL,List.length_map,List.length_take]; omega
      rw [← hL];have hmod : y.tmod 4 = y % 4 := Int.tmod_eq_emod_of_nonneg hyr.1;have w1 : IntKind.u8.wrap (y % 4) = y % 4 := by rw [IntKind.wrap]; simp [IntKind.bits,IntKind.signed]; omega
      have w2 : IntKind.i64.wrap (y % 4) = y % 4 := IntWalk.i64_in _ (by omega);have hwk : IntKind.i64.wrap ((k : Int) + 1) = (k : Int) + 1 := IntWalk.i64_in _ (by omega);clear hL hy;go_wp2_with (at_builtin; refine wpList_pushS rfl _ _ 31 rfl (S.out.alloc 3 [.int .i64 (y % 4)]) 1 rfl Try.underlying31 _ 8 intInfo rfl (by decide) rfl (y % 4) _ rfl rfl (one_cell _ _ [_] _ rfl) (encI_one _) (by have := HLL.out; omega) (by decide) ?_)
      intro A' c' w6 S6 _;have S7 : (SepW w [eInts ((l.take (k + 1)).map (· % 4)) (.slice A' ((l.take (k + 1)).map (· % 4)).length c'),eBlk mb 37 [.slice p.A1 m.a.al.length p.c1,.int .i64 m.a.n,.slice p.A2 m.a.mr.length p.c2,.slice p.A3 m.a.ed.length p.c3,.slice B m.ac.length d,.int .i64 m.tk],eMdl m ⟨p,B,d⟩,eBlk xb 29 cs] w6) := by rw [HTK.out,List.length_append]; exact S6.drop1
      have HN : Hid (L.length + 1 = ((l.take (k + 1)).map (· % 4)).length) := by rw [HTK.out,List.length_append]; rfl
      clear S6 S hyc hmod w1 w2;go_wp2_with fail
      go_roundw
      case rel => exact ⟨k + 1,A',c',by go_num,by rw [HN.out],by omega,S7.out⟩
      case measure => simp [intOf]; omega
    · obtain rfl : k = l.length := by omega
      obtain ⟨wd,hwd⟩ : ∃ v,v = ((l.take l.length).map (· % 4)) := ⟨_,rfl⟩;rw [← hwd] at S;rw [← hwd];have HWL : Hid (wd.length ≤ 4) := by rw [Hid,hwd,List.length_map,List.length_take]; omega
      have HWM : Hid (∀ v,v ∈ wd → v ∈ m.a.al) := fun v hv => by
       rw [hwd] at hv;obtain ⟨z,_,rfl⟩ := List.mem_map.1 hv;rw [SM.out.al];simp only [List.mem_cons,List.not_mem_nil,or_false];omega
      have hw4 : IntKind.i64.wrap (4 * (wd.length : Int)) = 4 * (wd.length : Int) := IntWalk.i64_in _ (by have := HWL.out; omega);have hw12 : IntKind.i64.wrap (4 * (wd.length : Int) + 12) = 4 * (wd.length : Int) + 12 := IntWalk.i64_in _ (by have := HWL.out; omega);have DU4 : Hid (∀ (AX : Option Addr) (cX : Nat) (W : World),Md.At W m ⟨p,B,d⟩ → m.a.al.length ≤ p.c1 → IntsAt W AX (wd ++ [4]) → Calls Try.prog 14 #[.agg #[.slice p.A1 m.a.al.length p.c1,.int .i64 m.a.n,.slice p.A2 m.a.mr.length p.c2,.slice p.A3 m.a.ed.length p.c3,.slice B m.ac.length d,.int .i64 m.tk],.slice AX (wd.length + 1) cX] W (Ret (.tuple #[.int .i64 0,.int .i64 0,.bool false,.int .i64 9]) W)) := fun AX cX W h1 h2 h3 => by
       have h := duration_c m ⟨p,B,d⟩ AX cX (wd ++ [4]) W SM.out.ok h1 SM.out.n SM.out.few h2 h3 (by rw [List.length_append,List.length_singleton]; have := HWL.out; omega);rw [List.length_append] at h;refine h.mono ?_;rintro e w' ⟨x,y,f,r,rfl,hb,hd⟩;rcases hd.out with ⟨g,_⟩ | ⟨_,rfl,rfl,rfl,rfl⟩
       · exfalso
         have h4 := g 4 (by simp);rw [SM.out.al] at h4;simp at h4
       · exact ⟨rfl,hb⟩
      have hlw := HWL.out;clear hwd;have f_mb0 := qkC S.out 1 rfl 0 rfl;have f_mb1 := qkC S.out 1 rfl 1 rfl;have f_mb2 := qkC S.out 1 rfl 2 rfl;have f_mb3 := qkC S.out 1 rfl 3 rfl;have f_mb4 := qkC S.out 1 rfl 4 rfl;have f_mb5 := qkC S.out 1 rfl 5 rfl;go_wp2_with fail
      refine (duration_c m ⟨p,B,d⟩ A0 c0 wd wr SM.out.ok (S.out.mdAt 2 rfl SM.out.lens) SM.out.n SM.out.few (S.out.mdCap 2 rfl) (S.out.ints 0 rfl) (by omega)).mono ?_;rintro e41 v41 ⟨x1,y1,f1,r1,rfl,hb,hdu⟩;have T41 := Lib.hid (S.out.next hb);clear f_mb0 f_mb1 f_mb2 f_mb3 f_mb4 f_mb5 hb S;have HD1 : Hid (r1 = 0 ∧ (x1,y1,f1) = durV m wd) := by
       rcases hdu.out with ⟨_,h1,h2⟩ | ⟨h1,_⟩
       · exact ⟨h1,h2⟩
       · exact absurd HWM.out h1
      obtain ⟨hr1,hd1⟩ := HD1.out;subst hr1;clear HD1 hdu;have f_mb0 := qkC T41.out 1 rfl 0 rfl;have f_mb1 := qkC T41.out 1 rfl 1 rfl;have f_mb2 := qkC T41.out 1 rfl 2 rfl;have f_mb3 := qkC T41.out 1 rfl 3 rfl;have f_mb4 := qkC T41.out 1 rfl 4 rfl;have f_mb5 := qkC T41.out 1 rfl 5 rfl;go_wp2_with fail
      refine (durations_c m ⟨p,B,d⟩ A0 c0 wd (4 * (wd.length : Int) + 12) v41 SM.out.ok (T41.out.mdAt 2 rfl SM.out.lens) SM.out.n (T41.out.ints 0 rfl) HWL.out (by omega) (by have := HWL.out; omega) HWM.out).mono ?_;rintro e42 v42 ⟨x2,y2,f2,rfl,hb,hd2⟩;have T42 := Lib.hid (T41.out.next hb);clear f_mb0 f_mb1 f_mb2 f_mb3 f_mb4 f_mb5 hb T41;have heq : (x1,y1,f1) = (x2,y2,f2) := by rw [hd1,hd2]; exact dur_law SM.out.ok SM.out.few SM.out.n SM.out.low HWM.out
      simp only [Prod.mk.injEq] at heq;obtain ⟨rfl,rfl,rfl⟩ := heq;clear hd1 hd2 hw4 hw12;go_upto_region 11 with fail
      go_cut [18] (fun v wx => v = .int .i64 9 ∧ (SepW w [eInts wd (.slice A0 wd.length c0),eBlk mb 37 [.slice p.A1 m.a.al.length p.c1,.int .i64 m.a.n,.slice p.A2 m.a.mr.length p.c2,.slice p.A3 m.a.ed.length p.c3,.slice B m.ac.length d,.int .i64 m.tk],eMdl m ⟨p,B,d⟩,eBlk xb 29 cs] wx))
      case first =>
       have S1 := Lib.hid T42.out.drew;refine wp_region_held_drew (S := (fun V => Sep w.heap.size w [eBlk mb 37 [.slice p.A1 m.a.al.length p.c1,.int .i64 m.a.n,.slice p.A2 m.a.mr.length p.c2,.slice p.A3 m.a.ed.length p.c3,.slice B m.ac.length d,.int .i64 m.tk]] V)) (by kernel_rfl) ?_ (fun hH => ?_)
       · exact S1.out.pick [1] (by decide)
       generalize hwz : v42.drew = w1 at *;clear hwz;refine tkH 0 rfl (v := ?_) (by kernel_rfl) ?_ hH ?_;rotate_left
       · intro V hs_;have b0 := qkC hs_ 0 rfl 0 rfl;have b1 := qkC hs_ 0 rfl 1 rfl;have b2 := qkC hs_ 0 rfl 2 rfl;have b3 := qkC hs_ 0 rfl 3 rfl;have b4 := qkC hs_ 0 rfl 4 rfl;have b5 := qkC hs_ 0 rfl 5 rfl;clear hs_;first | (go_simp; done) | (go_simp; with_reducible rfl)
       (try simp only [sx]);refine tkP 2 rfl (v := ?_) hH ?_;(try simp only [sx]);refine wpAnyH_ready (rs := [1,4]) (by kernel_rfl) (by simp) ?_;refine AllReadyH.cons rfl (fun K hK => ?_) (AllReadyH.cons rfl (fun K hK => ?_) AllReadyH.nil)
       · skip;go_simp;obtain ⟨gn,hgn⟩ : ∃ g,g = w1.heap.size := ⟨_,rfl⟩;obtain ⟨w2,hw2⟩ : ∃ v,v = w1.alloc (.cells #[] 3) := ⟨_,rfl⟩;rw [← hw2,← hgn];have S2 : (SepW w [eInts [] (.slice (some ⟨gn,0,none⟩) 0 0),eInts wd (.slice A0 wd.length c0),eBlk mb 37 [.slice p.A1 m.a.al.length p.c1,.int .i64 m.a.n,.slice p.A2 m.a.mr.length p.c2,.slice p.A3 m.a.ed.length p.c3,.slice B m.ac.length d,.int .i64 m.tk],eMdl m ⟨p,B,d⟩,eBlk xb 29 cs] w2) := by rw [hw2]; exact (S1.out.alloc' 3 [] rfl hgn).own 0 rfl encI 1 [] rfl (fun _ => rfl) (by simp [maxLen])
         clear hw2 hgn;refine hK.out _ _ (S2.out.pick [2] (by decide)) fun hH => ?_;clear hK K;(try simp only [sx]);refine wpAnyH_ready (rs := [3,4]) (by kernel_rfl) (by simp) ?_;refine AllReadyH.cons rfl (fun K hK => ?_) (AllReadyH.cons rfl (fun K hK => ?_) AllReadyH.nil)
         · skip;refine step_appendIn rfl (.tmp 71) (.tmp 72) 31 rfl S2.out 0 rfl Try.underlying31 intInfo rfl A0 c0 wd rfl (S2.out.ints 1 rfl) (by have := HWL.out; simp only [List.length_nil]; omega) ?_;intro A1 c1 w3 S3' _;simp only [List.nil_append,List.length_nil,Nat.zero_add] at S3';simp only [List.length_nil,Nat.zero_add];have S3 : (SepW w [eInts wd (.slice A1 wd.length c1),eInts wd (.slice A0 wd.length c0),eBlk mb 37 [.slice p.A1 m.a.al.length p.c1,.int .i64 m.a.n,.slice p.A2 m.a.mr.length p.c2,.slice p.A3 m.a.ed.length p.c3,.slice B m.ac.length d,.int .i64 m.tk],eMdl m ⟨p,B,d⟩,eBlk xb 29 cs] w3) := S3';clear S3';refine hK.out _ _ (S3.out.pick [2] (by decide)) fun hH => ?_;clear hK K;(try simp only [sx]);refine rdH 4 rfl fun K hK => ?_;go_simp;obtain ⟨nne,hnne⟩ : ∃ n,n = w3.heap.size := ⟨_,rfl⟩;obtain ⟨w4,hw4⟩ : ∃ v,v = w3.alloc (.cells #[.int .i64 4] 3) := ⟨_,rfl⟩;rw [← hw4,← hnne];have S4 := qkA S3.out hw4 hnne;skip;clear hw4 hnne;refine hK.out _ _ (S4.out.pick [3] (by decide)) fun hH => ?_;clear hK K;(try simp only [sx]);refine rdH 5 rfl fun K hK => ?_;refine step_pushS rfl (.tmp 73) (.tmp 74) 31 rfl S4.out 1 rfl Try.underlying31 _ 8 intInfo rfl (by decide) rfl (4 : Int) nne rfl rfl (fun j u hj => (BlkAt.cell (S4.out.get 0 rfl) j).trans hj) (encI_one _) (by have := HWL.out; omega) (by decide) ?_;intro A2 c2 w5 S5' _;have S5 := qkR S5';clear S5';refine hK.out _ _ (S5.out.pick [3] (by decide)) fun hH => ?_;clear hK K;try simp only [sx]
           refine rdH 6 rfl fun K hK => ?_;go_simp;refine (DU4.out A2 c2 w5 (S5.out.mdAt 4 rfl SM.out.lens) (S5.out.mdCap 4 rfl) (S5.out.ints' 1 rfl)).mono ?_;rintro e_ w6 ⟨rfl,hb⟩;have S6 := Lib.hid (S5.out.next hb);clear hb;refine hK.out _ _ (S6.out.pick [3] (by decide)) fun hH => ?_;clear hK K;(try simp only [sx]);refine tkP 7 rfl (v := ?_) hH ?_;(try simp only [sx]);refine tkP 8 rfl (v := ?_) hH ?_;(try simp only [sx]);refine tkP 9 rfl (v := ?_) hH ?_;(try simp only [sx]);refine tkP 10 rfl (v := ?_) hH ?_;(try simp only [sx]);refine tkP 11 rfl (v := ?_) hH ?_;(try simp only [sx]);refine tkP 12 rfl (v := ?_) hH ?_;(try simp only [sx]);refine tkP 13 rfl (v := ?_) hH ?_;(try simp only [sx]);refine tkP 14 rfl (v := ?_) hH ?_;(try simp only [sx]);refine tkP 15 rfl (v := ?_) hH ?_;(try simp only [sx]);refine wpAnyH_done (by kernel_rfl) ?_ _;go_wp2_with fail
           go_meet
           exact ⟨rfl,S6.out.pick [2,3,4,5] (by decide)⟩
         · skip;go_simp;obtain ⟨nne,hnne⟩ : ∃ n,n = w2.heap.size := ⟨_,rfl⟩;obtain ⟨w7,hw7⟩ : ∃ v,v = w2.alloc (.cells #[.int .i64 4] 3) := ⟨_,rfl⟩;rw [← hw7,← hnne];have S7 := qkA S2.out hw7 hnne;skip;clear hw7 hnne;refine hK.out _ _ (S7.out.pick [3] (by decide)) fun hH => ?_;clear hK K;(try simp only [sx]);refine rdH 3 rfl fun K hK => ?_;refine step_appendIn rfl (.tmp 71) (.tmp 72) 31 rfl S7.out 1 rfl Try.underlying31 intInfo rfl A0 c0 wd rfl (S7.out.ints 2 rfl) (by have := HWL.out; simp only [List.length_nil]; omega) ?_;intro A1 c1 w8 S8' _;simp only [List.nil_append,List.length_nil,Nat.zero_add] at S8';simp only [List.length_nil,Nat.zero_add];have S8 : (SepW w [eBlk nne 3 [.int .i64 4],eInts wd (.slice A1 wd.length c1),eInts wd (.slice A0 wd.length c0),eBlk mb 37 [.slice p.A1 m.a.al.length p.c1,.int .i64 m.a.n,.slice p.A2 m.a.mr.length p.c2,.slice p.A3 m.a.ed.length p.c3,.slice B m.ac.length d,.int .i64 m.tk],eMdl m ⟨p,B,d⟩,eBlk xb 29 cs] w8) := S8';clear S8';refine hK.out _ _ (S8.out.pick [3] (by decide)) fun hH => ?_;clear hK K;(try simp only [sx]);refine rdH 5 rfl fun K hK => ?_;refine step_pushS rfl (.tmp 73) (.tmp 74) 31 rfl S8.out 1 rfl Try.underlying31 _ 8 intInfo rfl (by decide) rfl (4 : Int) nne rfl rfl (fun j u hj => (BlkAt.cell (S8.out.get 0 rfl) j).trans hj) (encI_one _) (by have := HWL.out; omega) (by decide) ?_;intro A2 c2 w9 S9' _;have S9 := qkR S9';clear S9';refine hK.out _ _ (S9.out.pick [3] (by decide)) fun hH => ?_;clear hK K
           (try simp only [sx]);refine rdH 6 rfl fun K hK => ?_;go_simp;refine (DU4.out A2 c2 w9 (S9.out.mdAt 4 rfl SM.out.lens) (S9.out.mdCap 4 rfl) (S9.out.ints' 1 rfl)).mono ?_;rintro e_ w10 ⟨rfl,hb⟩;have S10 := Lib.hid (S9.out.next hb);clear hb;refine hK.out _ _ (S10.out.pick [3] (by decide)) fun hH => ?_;clear hK K;(try simp only [sx]);refine tkP 7 rfl (v := ?_) hH ?_;(try simp only [sx]);refine tkP 8 rfl (v := ?_) hH ?_;(try simp only [sx]);refine tkP 9 rfl (v := ?_) hH ?_;(try simp only [sx]);refine tkP 10 rfl (v := ?_) hH ?_;(try simp only [sx]);refine tkP 11 rfl (v := ?_) hH ?_;(try simp only [sx]);refine tkP 12 rfl (v := ?_) hH ?_;(try simp only [sx]);refine tkP 13 rfl (v := ?_) hH ?_;(try simp only [sx]);refine tkP 14 rfl (v := ?_) hH ?_;(try simp only [sx]);refine tkP 15 rfl (v := ?_) hH ?_;(try simp only [sx]);refine wpAnyH_done (by kernel_rfl) ?_ _;go_wp2_with fail
           go_meet
           exact ⟨rfl,S10.out.pick [2,3,4,5] (by decide)⟩
       · skip;go_simp;obtain ⟨nne,hnne⟩ : ∃ n,n = w1.heap.size := ⟨_,rfl⟩;obtain ⟨w11,hw11⟩ : ∃ v,v = w1.alloc (.cells #[.int .i64 4] 3) := ⟨_,rfl⟩;rw [← hw11,← hnne];have S11 := qkA S1.out hw11 hnne;skip;clear hw11 hnne;refine hK.out _ _ (S11.out.pick [2] (by decide)) fun hH => ?_;clear hK K;(try simp only [sx]);refine rdH 1 rfl fun K hK => ?_;go_simp;obtain ⟨gn,hgn⟩ : ∃ g,g = w11.heap.size := ⟨_,rfl⟩;obtain ⟨w12,hw12⟩ : ∃ v,v = w11.alloc (.cells #[] 3) := ⟨_,rfl⟩;rw [← hw12,← hgn];have S12 : (SepW w [eInts [] (.slice (some ⟨gn,0,none⟩) 0 0),eBlk nne 3 [.int .i64 4],eInts wd (.slice A0 wd.length c0),eBlk mb 37 [.slice p.A1 m.a.al.length p.c1,.int .i64 m.a.n,.slice p.A2 m.a.mr.length p.c2,.slice p.A3 m.a.ed.length p.c3,.slice B m.ac.length d,.int .i64 m.tk],eMdl m ⟨p,B,d⟩,eBlk xb 29 cs] w12) := by rw [hw12]; exact (S11.out.alloc' 3 [] rfl hgn).own 0 rfl encI 1 [] rfl (fun _ => rfl) (by simp [maxLen])
         clear hw12 hgn;refine hK.out _ _ (S12.out.pick [3] (by decide)) fun hH => ?_;clear hK K;(try simp only [sx]);refine rdH 3 rfl fun K hK => ?_;refine step_appendIn rfl (.tmp 71) (.tmp 72) 31 rfl S12.out 0 rfl Try.underlying31 intInfo rfl A0 c0 wd rfl (S12.out.ints 2 rfl) (by have := HWL.out; simp only [List.length_nil]; omega) ?_;intro A1 c1 w13 S13' _;simp only [List.nil_append,List.length_nil,Nat.zero_add] at S13';simp only [List.length_nil,Nat.zero_add];have S13 : (SepW w [eInts wd (.slice A1 wd.length c1),eBlk nne 3 [.int .i64 4],eInts wd (.slice A0 wd.length c0),eBlk mb 37 [.slice p.A1 m.a.al.length p.c1,.int .i64 m.a.n,.slice p.A2 m.a.mr.length p.c2,.slice p.A3 m.a.ed.length p.c3,.slice B m.ac.length d,.int .i64 m.tk],eMdl m ⟨p,B,d⟩,eBlk xb 29 cs] w13) := S13';clear S13';refine hK.out _ _ (S13.out.pick [3] (by decide)) fun hH => ?_;clear hK K;(try simp only [sx]);refine rdH 5 rfl fun K hK => ?_;refine step_pushS rfl (.tmp 73) (.tmp 74) 31 rfl S13.out 0 rfl Try.underlying31 _ 8 intInfo rfl (by decide) rfl (4 : Int) nne rfl rfl (fun j u hj => (BlkAt.cell (S13.out.get 1 rfl) j).trans hj) (encI_one _) (by have := HWL.out; omega) (by decide) ?_;intro A2 c2 w14 S14' _;have S14 := qkR S14';clear S14';refine hK.out _ _ (S14.out.pick [3] (by decide)) fun hH => ?_;clear hK K;(try simp only [sx]);refine rdH 6 rfl fun K hK => ?_;go_simp;refine (DU4.out A2 c2 w14 (S14.out.mdAt 4 rfl SM.out.lens) (S14.out.mdCap 4 rfl) (S14.out.ints' 0 rfl)).mono ?_
         rintro e_ w15 ⟨rfl,hb⟩;have S15 := Lib.hid (S14.out.next hb);clear hb;refine hK.out _ _ (S15.out.pick [3] (by decide)) fun hH => ?_;clear hK K;(try simp only [sx]);refine tkP 7 rfl (v := ?_) hH ?_;(try simp only [sx]);refine tkP 8 rfl (v := ?_) hH ?_;(try simp only [sx]);refine tkP 9 rfl (v := ?_) hH ?_;(try simp only [sx]);refine tkP 10 rfl (v := ?_) hH ?_;(try simp only [sx]);refine tkP 11 rfl (v := ?_) hH ?_;(try simp only [sx]);refine tkP 12 rfl (v := ?_) hH ?_;(try simp only [sx]);refine tkP 13 rfl (v := ?_) hH ?_;(try simp only [sx]);refine tkP 14 rfl (v := ?_) hH ?_;(try simp only [sx]);refine tkP 15 rfl (v := ?_) hH ?_;(try simp only [sx]);refine wpAnyH_done (by kernel_rfl) ?_ _;go_wp2_with fail
         go_meet
         exact ⟨rfl,S15.out.pick [2,3,4,5] (by decide)⟩
      case rest =>
       clear T42 DU4;obtain ⟨rfl,S⟩ := hcut;have f_mb0 := qkC S.out 1 rfl 0 rfl;have f_mb1 := qkC S.out 1 rfl 1 rfl;have f_mb2 := qkC S.out 1 rfl 2 rfl;have f_mb3 := qkC S.out 1 rfl 3 rfl;have f_mb4 := qkC S.out 1 rfl 4 rfl;have f_mb5 := qkC S.out 1 rfl 5 rfl;go_wp2_with fail
       refine (kinds_c m ⟨p,B,d⟩ wc SM.out.ok (S.out.mdAt 2 rfl SM.out.lens)).mono ?_;rintro e71 v71 ⟨X1,x1',X2,x2',rfl,HP1,HP2,hb⟩;have T71 := Lib.hid (S.out.next hb);clear f_mb0 f_mb1 f_mb2 f_mb3 f_mb4 f_mb5 hb S;have HB0 := Lib.hid T71.out.below;have MA1 := Lib.hid (T71.out.mdAt 2 rfl SM.out.lens);have MB1 : Hid (BlkAt v71 mb 37 [.slice p.A1 m.a.al.length p.c1,.int .i64 m.a.n,.slice p.A2 m.a.mr.length p.c2,.slice p.A3 m.a.ed.length p.c3,.slice B m.ac.length d,.int .i64 m.tk]) := T71.out.get 1 rfl;clear T71 HWM;have S3 : Hid (Sep v71.heap.size v71 [eInts (prosV m 0) (.slice none 0 0),eInts (remV m 0) (.slice none 0 0)] v71) := ((Sep.here v71).nilOwn encI 1 3).nilOwn encI 1 3;go_wp2_with fail
       go_loopw [24,22,23] (fun vi vq vs wr => ∃ (i : Nat) (AQ : Option Addr) (cQ : Nat) (AS : Option Addr) (cS : Nat),vi = .int .i64 ↑i ∧ vq = .slice AQ (prosV m i).length cQ ∧ vs = .slice AS (remV m i).length cS ∧ i ≤ 4 ∧ Hid (Sep v71.heap.size v71 [eInts (prosV m i) (.slice AQ (prosV m i).length cQ),eInts (remV m i) (.slice AS (remV m i).length cS)] wr)) (fun vi _ _ _ => 4 - (intOf vi).toNat)
       case atStart => exact ⟨0,none,0,none,0,rfl,rfl,rfl,by omega,S3.out⟩
       case round =>
        clear S3;obtain ⟨i,AQ,cQ,AS,cS,rfl,rfl,rfl,hi,S⟩ := hrel;by_cases hi4 : i < 4
        · have hd4 : decide ((i : Int) < 4) = true := decide_eq_true (by omega);have hia : i < m.ac.length := by rw [SM.out.len]; exact hi4
          obtain ⟨gb,ob,xa,hB,_,hxa,xa0,xa1,xa2⟩ := AcsAt.at (MA1.out.below S.out.below).ac hia;dsimp only at hB;have hev : xa.ev = (i : Int) := by
           have h1 := SM.out.ev i hi4;rw [Md.ev_get hxa] at h1;exact h1
          have b4 := BlkAt.cell (BlkAt.below MB1.out S.out.below MB1.out.lt) 4;simp only [List.getElem?_cons_succ,List.getElem?_cons_zero] at b4;rw [hB] at b4;have hwi : IntKind.i64.wrap ((i : Int) + 1) = (i : Int) + 1 := IntWalk.i64_in _ (by omega);have lq := prosV_len (m := m) (k := i);have ls := remV_len (m := m) (k := i);by_cases hu : 0 ≤ xa.up
          · have hdu : decide (0 ≤ xa.up) = true := decide_eq_true hu;have E1 : Hid (prosV m (i + 1) = prosV m i ++ [(i : Int)]) := by rw [Hid,prosV_yes hxa hu,hev]
            have E2 : Hid (remV m (i + 1) = remV m i) := remV_no hxa hu;clear hu hxa hev hB;go_wp2_with (at_builtin; refine wpList_pushS rfl _ _ 31 rfl (S.out.alloc 3 [.int .i64 ↑i]) 1 rfl Try.underlying31 _ 8 intInfo rfl (by decide) rfl (i : Int) _ rfl rfl (one_cell _ _ [_] _ rfl) (encI_one _) (by omega) (by decide) ?_)
            intro A' c' w6 S6 _;have HN : Hid ((prosV m i).length + 1 = (prosV m (i + 1)).length) := by rw [E1.out,List.length_append]; rfl
            have S7 : Hid (Sep v71.heap.size v71 [eInts (prosV m (i + 1)) (.slice A' (prosV m (i + 1)).length c'),eInts (remV m (i + 1)) (.slice AS (remV m (i + 1)).length cS)] w6) := by
             rw [← HN.out,E2.out,E1.out]; exact S6.drop1
            clear S6 S b4 xa0 xa1 xa2;go_wp2_with fail
            go_roundw
            case rel => exact ⟨i + 1,A',c',AS,cS,by go_num,by rw [HN.out],by rw [E2.out],by omega,S7.out⟩
            case measure => simp [intOf]; omega
          · have hdu : decide (0 ≤ xa.up) = false := decide_eq_false hu;have E1 : Hid (prosV m (i + 1) = prosV m i) := prosV_no hxa (by omega);have E2 : Hid (remV m (i + 1) = remV m i ++ [(i : Int)]) := by rw [Hid,remV_yes hxa (by omega),hev]
            clear hu hxa hev hB;go_wp2_with (at_builtin; refine wpList_pushS rfl _ _ 31 rfl (S.out.alloc 3 [.int .i64 ↑i]) 2 rfl Try.underlying31 _ 8 intInfo rfl (by decide) rfl (i : Int) _ rfl rfl (one_cell _ _ [_] _ rfl) (encI_one _) (by omega) (by decide) ?_)
            intro A' c' w6 S6 _;have HN : Hid ((remV m i).length + 1 = (remV m (i + 1)).length) := by rw [E2.out,List.length_append]; rfl
            have S7 : Hid (Sep v71.heap.size v71 [eInts (prosV m (i + 1)) (.slice AQ (prosV m (i + 1)).length cQ),eInts (remV m (i + 1)) (.slice A' (remV m (i + 1)).length c')] w6) := by
             rw [← HN.out,E1.out,E2.out]; exact S6.drop1
            clear S6 S b4 xa0 xa1 xa2;go_wp2_with fail
            go_roundw
            case rel => exact ⟨i + 1,AQ,cQ,A',c',by go_num,by rw [E1.out],by rw [HN.out],by omega,S7.out⟩
            case measure => simp [intOf]; omega
        · obtain rfl : i = 4 := by omega
          have hd4 : decide (((4 : Nat) : Int) < 4) = false := rfl;have hm4 := SM.out.len;have HP4 : Hid (m.ac.length = 4) := hm4;clear hm4;rw [HP4.out] at HP1 HP2 ⊢;have lq := prosV_len (m := m) (k := 4);have ls := remV_len (m := m) (k := 4);have SA := Lib.hid (fun (W : World) (h : Below wr.heap.size wr W) => same44_c X1 AQ x1' cQ (prosV m 4) (prosV m 4) W ((HP1.out.below IntE.stays S.out.below).below IntE.stays h) ((S.out.ints 0 rfl).below IntE.stays h) (by omega) (by omega));have SB := Lib.hid (fun (W : World) (h : Below wr.heap.size wr W) => same44_c X2 AS x2' cS (remV m 4) (remV m 4) W ((HP2.out.below IntE.stays S.out.below).below IntE.stays h) ((S.out.ints 1 rfl).below IntE.stays h) (by omega) (by omega));have HBW : Hid (Below w.heap.size w wr) := HB0.out.trans (S.out.below.mono HB0.out.size);have hb0 : Below wr.heap.size wr wr := Below.refl _ _;go_wp2_with fail
          refine (SA.out _ hb0).mono ?_;intro e90 v90 hs;obtain ⟨rfl,hb90⟩ := hs.yes2 (by simp);clear hs;go_wp2_with fail
          refine (SB.out _ hb90).mono ?_;intro e91 v91 hs;obtain ⟨rfl,hb91⟩ := hs.yes2 (by simp);have HBF : Hid (Below w.heap.size w v91) := (HBW.out.trans (hb90.mono HBW.out.size)).trans (hb91.mono (Nat.le_trans HBW.out.size hb90.size));clear hs hb90 hb91;go_wp2_with fail
          go_ret
          exact ⟨rfl,HBF.out⟩
end Go.Proofs.Ytimdepdbcdbikaa
