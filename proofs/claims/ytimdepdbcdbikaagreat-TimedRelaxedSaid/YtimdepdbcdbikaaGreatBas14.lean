/-
  timed.newMachine.
  A region that draws its order, met by ONE relation of what has come up to what there is: one step for each operation, not one for each order.
  timed: clocks as values; machine.possible, machine.urgent.
  machine.tick, machine.act.
-/
import Derived.Test.YtimdepdbcdbikaaGreatBas01
import Derived.Test.YtimdepdbcdbikaaGreatBas13
import Derived.Test.YtimdepdbcdbikaaGreatBas03
import Derived.BigQuiet
import Derived.Deep.MidRow
import Derived.Laws.ResultCell
set_option linter.unusedSimpArgs false
set_option linter.unusedVariables false
namespace Go.Proofs.YtimdepdbcdbikaaGreat
open Go.RowKit
set_option maxRecDepth 100000
def dfk (ac : List Ac) (k : Nat) : List Int := (List.range ac.length).map fun i => if i < k then (ac.getD i ⟨0,0,0⟩).df else 0
theorem dfk_len (ac : List Ac) (k : Nat) : (dfk ac k).length = ac.length := by simp [dfk]
theorem dfk_get (ac : List Ac) (k : Nat) {i : Nat} (h : i < ac.length) : (dfk ac k)[i]? = some (if i < k then (ac.getD i ⟨0,0,0⟩).df else 0) := by simp [dfk,List.getElem?_range h]
theorem dfk_next {ac : List Ac} {k : Nat} {x : Ac} (h : ac[k]? = some x) : (dfk ac k).set k x.df = dfk ac (k + 1) := by
 have hk := (List.getElem?_eq_some_iff.1 h).1
 refine list_eq_of (n := ac.length) (by simp [dfk]) (dfk_len _ _) fun i hi => ?_
 rw [dfk_get _ _ hi]
 by_cases e : i = k
 · subst e
   rw [List.getElem?_set_self (by rw [dfk_len]; exact hi),if_pos (by omega),List.getD_eq_getElem?_getD,h]; rfl
 · rw [List.getElem?_set_ne (Ne.symm e),dfk_get _ _ hi]
   have : (i < k + 1) ↔ i < k := by omega
   simp only [this]
theorem dfk_zero (ac : List Ac) (h : ac.length ≤ 32) : ckT (dfk ac 0) = ckT [] := by
 have e : dfk ac 0 = List.replicate ac.length 0 := list_eq_of (dfk_len _ _) (by simp) fun i hi => by rw [dfk_get _ _ hi]; simp [hi]
 rw [e]
 unfold ckT pad32
 congr 1
 simp only [List.length_replicate,List.length_nil,List.nil_append,List.replicate_append_replicate]
 congr 1
 omega
theorem dfk_all (m : Md) : dfk m.ac m.ac.length = m.dfs := by
 refine list_eq_of (dfk_len _ _) (by simp [Md.dfs]) fun i hi => ?_
 rw [dfk_get _ _ hi,if_pos hi]
 simp [Md.dfs,List.getElem?_map,List.getElem?_eq_getElem hi,List.getD_eq_getElem?_getD]
theorem mcell_df {a b c d e f g : Value} {t : List Int} {k : Nat} (h : k < t.length) : ([a,b,c,d,e,f] ++ ckT t ++ [g])[6 + k]? = some (.int .i8 (t.getD k 0)) := by
 rw [List.append_assoc,List.getElem?_append_right (by simp)]
 simp only [List.length_cons,List.length_nil]
 rw [show 6 + k - (0 + 1 + 1 + 1 + 1 + 1 + 1) = k by omega,List.getElem?_append_left (by simp [ckT,pad32]; omega),ckT_get h]
theorem mset_df {a b c d e f g : Value} {t : List Int} {k : Nat} {v : Int} (h : k < t.length) : ([a,b,c,d,e,f] ++ ckT t ++ [g]).set (6 + k) (.int .i8 v) = [a,b,c,d,e,f] ++ ckT (t.set k v) ++ [g] := by
 rw [List.append_assoc,List.set_append_right _ _ (by simp)]
 simp only [List.length_cons,List.length_nil]
 rw [show 6 + k - (0 + 1 + 1 + 1 + 1 + 1 + 1) = k by omega,List.set_append_left _ _ (by simp [ckT,pad32]; omega),ckT_set h,List.append_assoc]
theorem mcell_to {a b c d e f g : Value} {t : List Int} (h : t.length ≤ 32) : ([a,b,c,d,e,f] ++ ckT t ++ [g])[38]? = some g := by
 rw [List.getElem?_append_right (by simp [ckT_len h])]
 simp [ckT_len h]
theorem mset_to {a b c d e f g v : Value} {t : List Int} (h : t.length ≤ 32) : ([a,b,c,d,e,f] ++ ckT t ++ [g]).set 38 v = [a,b,c,d,e,f] ++ ckT t ++ [v] := by
 rw [List.set_append_right _ _ (by simp [ckT_len h])]
 simp [ckT_len h]
theorem mcell_m {a b c d e f g : Value} {t : List Int} {i : Nat} (h : i < 6) : ([a,b,c,d,e,f] ++ ckT t ++ [g])[i]? = [a,b,c,d,e,f][i]? := by
 rw [List.append_assoc,List.getElem?_append_left (by simpa using h)]
def encR (K : Nat) (b : Nat) : List Value := [.slice (some ⟨b,0,none⟩) K K]
def rowK (m : Md) (s k : Nat) (i : Nat) : Int := if i < k then m.nx s i else 0
def eRowsI (m : Md) (bs : List Nat) : Ent where
 foot := bs
 ok w := ∀ (s b : Nat),bs[s]? = some b → BlkAt w b 3 (mkI m.ac.length (m.nx s))
 lt w h k hk := by
  obtain ⟨i,hi,rfl⟩ := List.mem_iff_getElem.1 hk
  exact (h i _ (List.getElem?_eq_getElem hi)).lt
 turn w w' h hg := fun s b hb => (hg b (List.mem_of_getElem? hb)).trans (h s b hb)
theorem Sep.rowIn {n : Nat} {w0 w : World} {es : List Ent} {m : Md} {g : Nat} {bs : List Nat} (S : Sep n w0 (eBlk g 3 (mkI m.ac.length (m.nx bs.length)) :: eRowsI m bs :: es) w) : Sep n w0 (eRowsI m (bs ++ [g]) :: es) w := by
 refine Sep.as S.join 0 rfl (eRowsI m (bs ++ [g])) (fun h => ?_) (fun x hx => ?_)
 · intro s b hb
   rcases Nat.lt_or_ge s bs.length with e | e
   · rw [List.getElem?_append_left e] at hb
     exact h.2 s b hb
   · rw [List.getElem?_append_right e] at hb
     have e2 : s = bs.length := by
      have := (List.getElem?_eq_some_iff.1 hb).1
      simp at this; omega
     subst e2
     simp at hb; subst hb
     exact h.1
 · simp only [eRowsI,List.mem_append,List.mem_singleton] at hx
   show x ∈ (eBlk g _ _).foot ++ (eRowsI m bs).foot
   simp only [eBlk,eRowsI,List.mem_append,List.mem_singleton]
   exact hx.symm
structure McP where
 g : Nat
 P : MdP
 T : Option Addr
 ct : Nat
 bs : List Nat
structure Mch (w : World) (m : Md) (q : McP) : Prop where
 blk : BlkAt w q.g 102 (m.cells q.P ++ ckT m.dfs ++ [.slice q.T q.bs.length q.ct])
 md : Md.At w m q.P
 tl : SlAt (fun _ b vs => vs = encR m.ac.length b) 1 w q.T q.bs
 len : q.bs.length = m.a.n.toNat
 row : ∀ (s b : Nat),q.bs[s]? = some b → BlkAt w b 3 (mkI m.ac.length (m.nx s))
theorem Mch.below {w w' : World} {m : Md} {q : McP} (h : Mch w m q) (hb : Below w.heap.size w w') : Mch w' m q :=
 ⟨h.blk.below hb h.blk.lt,h.md.below hb,h.tl.below (fun _ _ _ _ _ h => h) hb,h.len,fun s b hs => (h.row s b hs).below hb (h.row s b hs).lt⟩
theorem Mch.toAt {w : World} {m : Md} {q : McP} (h : Mch w m q) {s : Nat} (hs : s < m.a.n.toNat) : ∃ bt ot b,q.T = some ⟨bt,ot,none⟩ ∧ w.cell? ⟨bt,ot + s,none⟩ = some (.slice (some ⟨b,0,none⟩) m.ac.length m.ac.length) ∧ ∀ i : Nat,i < m.ac.length → w.cell? ⟨b,i,none⟩ = some (.int .i64 (m.nx s i)) := by
 obtain ⟨bt,ot,b,vs,hA,_,hb,hl,hv,hc⟩ := SlAt.at h.tl (i := s) (by rw [h.len]; exact hs)
 subst hv
 refine ⟨bt,ot,b,hA,?_,fun i hi => ?_⟩
 · have := hc 0 _ rfl
   simpa using this
 · exact (BlkAt.cell (h.row s b hb) i).trans (mkI_get hi)
theorem rowK_next (m : Md) {s k : Nat} (n : Nat) : (mkI n fun i => if i = k then m.nx s k else rowK m s k i) = mkI n (rowK m s (k + 1)) := mkI_congr fun i _ => by
 unfold rowK
 by_cases e : i = k
 · subst e; rw [if_pos rfl,if_pos (by omega)]
 · rw [if_neg e]
   have : (i < k + 1) ↔ i < k := by omega
   simp only [this]
theorem rowK_all (m : Md) (s : Nat) : mkI m.ac.length (rowK m s m.ac.length) = mkI m.ac.length (m.nx s) := mkI_congr fun i hi => if_pos hi
def eMc (m : Md) (q : McP) : Ent := (eBlk q.g 102 (m.cells q.P ++ ckT m.dfs ++ [.slice q.T q.bs.length q.ct])).and ((eOwn (encR m.ac.length) 1 31 q.bs (.slice q.T q.bs.length q.ct)).and (eRowsI m q.bs))
theorem Mch.of {w : World} {m : Md} {q : McP} (h : (eMc m q).ok w) (hA : Md.At w m q.P) (hl : q.bs.length = m.a.n.toNat) : Mch w m q :=
 ⟨h.1,hA,Own.reads (enc := encR m.ac.length) (k := 1) (fun _ => rfl) h.2.1,hl,h.2.2⟩
def GivesNM (m : Md) (P : MdP) (w : World) (e : Ending) (w' : World) : Prop := ∃ q : McP,e = .returned (.pointer (some ⟨q.g,0,none⟩)) ∧ q.P = P ∧ q.bs.length = m.a.n.toNat ∧ Hid (Sep w.heap.size w [eMc m q] w')
theorem rowInfo1 : (Tryz.prog.info? 31).map (fun i => (i.zero,i.size,i.bytes)) = some (some (.slice none 0 0),1,24) := by kernel_rfl
theorem encR_one (K b : Nat) : ∀ u ∈ encR K b,u.oneCell' = true := fun u hu => by simp [encR] at hu; subst hu; rfl
set_option maxHeartbeats 8000000 in
theorem newMachine_c (m : Md) (P : MdP) (w : World) (hm : m.Ok) (hA : Md.At w m P) :
 Calls Tryz.prog 43 #[.agg (m.cells P).toArray] w (GivesNM m P w) := by
 have HM := Lib.hid hm
 have HA := Lib.hid hA
 have h32 := hm.len32
 have hn0 := hm.a.n0
 have hn := hm.a.n1
 have HDF : Hid (∀ (k : Nat) x,m.ac[k]? = some x → (0 ≤ x.df ∧ x.df ≤ 16) ∧ 0 ≤ x.ev ∧ x.ev < 32) := fun k x hx => by
  have h1 := hm.df (List.getElem?_eq_some_iff.1 hx).1
  rw [Md.at_get hx] at h1
  have : x.ev ∈ m.a.al := by rw [← hm.ev]; exact List.mem_map.2 ⟨x,List.mem_of_getElem? hx,rfl⟩
  have := al_rg hm.a this
  omega
 obtain ⟨⟨al,n,mr,ed⟩,ac,tk⟩ := m
 obtain ⟨⟨A1,c1,A2,c2,A3,c3⟩,B,d⟩ := P
 obtain ⟨N,rfl⟩ := Int.eq_ofNat_of_zero_le hn0
 dsimp only [Md.cells] at h32 hn HDF ⊢
 clear hm hA hn0
 have hmk := make_run (P := Tryz.prog) 31 3 (.int .i64 0) 8 Tryz.underlying31 intInfo rfl ac.length (by omega) (by omega)
 go_enter Tryz.func43,Tryz.ntmps43
 obtain ⟨mb,hmb⟩ : ∃ g,g = w.heap.size := ⟨_,rfl⟩
 go_upto_region 1 with fail
 rw [← hmb]
 refine wp_world (fun W => Sep w.heap.size w [eBlk mb 37 [.slice A1 al.length c1,.int .i64 (N : Int),.slice A2 mr.length c2,.slice A3 ed.length c3,.slice B ac.length d,.int .i64 tk]] W) ((Sep.here w).alloc' _ [_,_,_,_,_,_] rfl hmb) fun W S => ?_
 have S0 := Lib.hid S
 clear S hmb
 have a0 := BlkAt.cell (S0.out.get 0 rfl) 0; have a1 := BlkAt.cell (S0.out.get 0 rfl) 1; have a2 := BlkAt.cell (S0.out.get 0 rfl) 2; have a3 := BlkAt.cell (S0.out.get 0 rfl) 3; have a4 := BlkAt.cell (S0.out.get 0 rfl) 4; have a5 := BlkAt.cell (S0.out.get 0 rfl) 5; simp only [List.getElem?_cons_succ,List.getElem?_cons_zero] at a0 a1 a2 a3 a4 a5
 obtain ⟨gx,hgx⟩ : ∃ g,g = W.heap.size := ⟨_,rfl⟩
 go_upto_region 2 with fail
 rw [← hgx]
 refine wp_world (fun W => Sep w.heap.size w [eBlk gx 102 ([.slice A1 al.length c1,.int .i64 (N : Int),.slice A2 mr.length c2,.slice A3 ed.length c3,.slice B ac.length d,.int .i64 tk] ++ ckT (dfk ac 0) ++ [.slice none 0 0]),eBlk mb 37 [.slice A1 al.length c1,.int .i64 (N : Int),.slice A2 mr.length c2,.slice A3 ed.length c3,.slice B ac.length d,.int .i64 tk]] W) ?_ fun W1 S => ?_
 · rw [dfk_zero ac h32]
   exact S0.out.alloc' _ _ rfl hgx
 have S1 := Lib.hid S
 clear S S0 hgx a0 a1 a2 a3 a4 a5
 have a4 := BlkAt.cell (S1.out.get 1 rfl) 4; simp only [List.getElem?_cons_succ,List.getElem?_cons_zero] at a4
 go_wp2_with fail
 clear a4
 go_loopw [16] (fun i wr => ∃ k : Nat,i = .int .i64 (k : Int) ∧ k ≤ ac.length ∧ Hid (Sep w.heap.size w [eBlk gx 102 ([.slice A1 al.length c1,.int .i64 (N : Int),.slice A2 mr.length c2,.slice A3 ed.length c3,.slice B ac.length d,.int .i64 tk] ++ ckT (dfk ac k) ++ [.slice none 0 0]),eBlk mb 37 [.slice A1 al.length c1,.int .i64 (N : Int),.slice A2 mr.length c2,.slice A3 ed.length c3,.slice B ac.length d,.int .i64 tk]] wr)) (fun i _ => ac.length - (intOf i).toNat)
 case atStart => exact ⟨0,rfl,Nat.zero_le _,S1.out⟩
 case round =>
  clear S1
  obtain ⟨k,rfl,hk,S⟩ := hrel
  by_cases hlt : k < ac.length
  · obtain ⟨b,off,x,hAe,hb,hx,e0,e1,e2⟩ := AcsAt.at (HA.out.ac.below AcE.stays S.out.below) hlt
    dsimp only at hAe
    subst hAe
    have hdf := HDF.out k x hx
    have HX := Lib.hid hx
    have HKK : Hid (k < (dfk ac k).length) := by rw [dfk_len]; exact hlt
    obtain ⟨be,hbe⟩ : ∃ g,g = wr.heap.size := ⟨_,rfl⟩
    clear hx hb
    go_upto_region 5 with fail
    rw [← hbe]
    refine wp_world (fun W => Sep w.heap.size w [eBlk be 44 [.int .i64 x.ev,.int .i64 x.lo,.int .i64 x.up],eBlk gx 102 ([.slice A1 al.length c1,.int .i64 (N : Int),.slice A2 mr.length c2,.slice A3 ed.length c3,.slice (some ⟨b,off,none⟩) ac.length d,.int .i64 tk] ++ ckT (dfk ac k) ++ [.slice none 0 0]),eBlk mb 37 [.slice A1 al.length c1,.int .i64 (N : Int),.slice A2 mr.length c2,.slice A3 ed.length c3,.slice (some ⟨b,off,none⟩) ac.length d,.int .i64 tk]] W) (S.out.alloc' _ [_,_,_] rfl hbe) fun W S' => ?_
    have S3 := Lib.hid S'
    clear S' S hbe e0 e1 e2
    have w8 : IntKind.i8.wrap x.df = x.df := IntWalk.i8_in _ (by omega)
    have hk32 : (k : Int) < 32 := by omega
    have S1 := Lib.hid S3.out.drew
    refine wp_region_held_drew (S := (fun V => Sep w.heap.size w [eBlk be 44 [.int .i64 x.ev,.int .i64 x.lo,.int .i64 x.up]] V)) (by kernel_rfl) ?_ (fun hHeld => ?_)
    · exact S1.out.pick [0] (by decide)
    generalize hwz : W.drew = w1 at *
    clear hwz
    refine tkP 0 rfl hHeld ?_
    try simp only [sx]
    refine tkP 1 rfl hHeld ?_
    try simp only [sx]
    refine tkH 2 rfl (v := ?_) (by kernel_rfl) ?_ hHeld ?_
    rotate_left
    · intro V hSw
      have z0 := qkC hSw 0 rfl 0 rfl
      have z1 := qkC hSw 0 rfl 1 rfl
      have z2 := qkC hSw 0 rfl 2 rfl
      clear hSw
      first | (go_simp; done) | (go_simp; with_reducible rfl)
    try simp only [sx]
    refine tkP 5 rfl hHeld ?_
    try simp only [sx]
    refine tkP 6 rfl hHeld ?_
    try simp only [sx]
    refine rdH 3 rfl fun K hK => ?_
    go_simp
    refine (initially_c x w1).mono ?_
    rintro e w2 ⟨rfl,hb⟩
    have S2 := Lib.hid (S1.out.next hb)
    clear hb
    refine hK.out _ _ ?_ (fun hHeld => ?_)
    · exact S2.out.pick [0] (by decide)
    clear hK K
    try simp only [sx]
    refine tkP 4 rfl hHeld ?_
    try simp only [sx]
    refine tkP 7 rfl hHeld ?_
    try simp only [sx]
    refine rdH 8 rfl fun K hK => ?_
    have sc := BlkAt.cell (S2.out.get 1 rfl) (6 + k)
    rw [mcell_df HKK.out] at sc
    have sf := BlkAt.free (S2.out.get 1 rfl) (6 + k)
    go_simp
    obtain ⟨w3,hw3⟩ : ∃ v,v = w2.setCell ⟨gx,6 + k,none⟩ (.int .i8 x.df) := ⟨_,rfl⟩
    rw [← hw3]
    have S3 : Hid (Sep w.heap.size w [eBlk be 44 [.int .i64 x.ev,.int .i64 x.lo,.int .i64 x.up],eBlk gx 102 ([.slice A1 al.length c1,.int .i64 (N : Int),.slice A2 mr.length c2,.slice A3 ed.length c3,.slice (some ⟨b,off,none⟩) ac.length d,.int .i64 tk] ++ ckT (dfk ac (k + 1)) ++ [.slice none 0 0]),eBlk mb 37 [.slice A1 al.length c1,.int .i64 (N : Int),.slice A2 mr.length c2,.slice A3 ed.length c3,.slice (some ⟨b,off,none⟩) ac.length d,.int .i64 tk]] w3) := by
     have h := S2.out.set 1 rfl (6 + k) (.int .i8 x.df)
     rw [mset_df HKK.out,dfk_next HX.out] at h
     rw [hw3]
     exact h
    clear hw3 sc sf
    refine hK.out _ _ ?_ (fun hHeld => ?_)
    · exact S3.out.pick [0] (by decide)
    clear hK K
    try simp only [sx]
    refine wpAnyH_done (by kernel_rfl) ?_ _
    have S9 := S3
    go_wp2_with fail
    go_roundw
    case rel => exact ⟨k + 1,by go_num,by omega,S9.out.drop1⟩
    case measure => simp [intOf]; omega
  · obtain rfl : k = ac.length := by omega
    have a1 := BlkAt.cell (S.out.get 1 rfl) 1; simp only [List.getElem?_cons_succ,List.getElem?_cons_zero] at a1
    have S2 : Hid (Sep w.heap.size w [eBlk gx 102 ([.slice A1 al.length c1,.int .i64 (N : Int),.slice A2 mr.length c2,.slice A3 ed.length c3,.slice B ac.length d,.int .i64 tk] ++ ckT (dfk ac ac.length) ++ [(.slice none 0 0)]),eOwn (encR ac.length) 1 31 [] (.slice none 0 0),eRowsI ⟨⟨al,(N : Int),mr,ed⟩,ac,tk⟩ [],eBlk mb 37 [.slice A1 al.length c1,.int .i64 (N : Int),.slice A2 mr.length c2,.slice A3 ed.length c3,.slice B ac.length d,.int .i64 tk]] wr) := by
     have h := S.out.nilOwn (encR ac.length) 1 31
     have h2 := (h.new1 (Below.refl _ _) (eRowsI ⟨⟨al,(N : Int),mr,ed⟩,ac,tk⟩ []) (by intro s b hb; simp at hb) (by simp [eRowsI])).pick [2,1,0,3] (by decide)
     exact h2
    clear S
    go_wp2_with fail
    clear a1
    go_loopw [33] (fun i wr => ∃ (s : Nat) (bs : List Nat) (T0 : Option Addr) (cT : Nat),i = .int .i64 (s : Int) ∧ s ≤ N ∧ Hid (bs.length = s) ∧ Hid (Sep w.heap.size w [eBlk gx 102 ([.slice A1 al.length c1,.int .i64 (N : Int),.slice A2 mr.length c2,.slice A3 ed.length c3,.slice B ac.length d,.int .i64 tk] ++ ckT (dfk ac ac.length) ++ [(.slice T0 bs.length cT)]),eOwn (encR ac.length) 1 31 bs (.slice T0 bs.length cT),eRowsI ⟨⟨al,(N : Int),mr,ed⟩,ac,tk⟩ bs,eBlk mb 37 [.slice A1 al.length c1,.int .i64 (N : Int),.slice A2 mr.length c2,.slice A3 ed.length c3,.slice B ac.length d,.int .i64 tk]] wr)) (fun i _ => N - (intOf i).toNat)
    case atStart => exact ⟨0,[],none,0,rfl,Nat.zero_le _,rfl,S2.out⟩
    case round =>
     clear S2
     obtain ⟨s,bs,T0,cT,rfl,hs,HBL,S⟩ := hrel
     by_cases hls : s < N
     · have a4 := BlkAt.cell (S.out.get 3 rfl) 4; simp only [List.getElem?_cons_succ,List.getElem?_cons_zero] at a4
       obtain ⟨gr,hgr⟩ : ∃ g,g = wr.heap.size := ⟨_,rfl⟩
       go_upto_region 11 with fail
       rw [← hgr]
       refine wp_world (fun W => Sep w.heap.size w [eBlk gr 3 (mkI ac.length (rowK ⟨⟨al,(N : Int),mr,ed⟩,ac,tk⟩ s 0)),eBlk gx 102 ([.slice A1 al.length c1,.int .i64 (N : Int),.slice A2 mr.length c2,.slice A3 ed.length c3,.slice B ac.length d,.int .i64 tk] ++ ckT (dfk ac ac.length) ++ [(.slice T0 bs.length cT)]),eOwn (encR ac.length) 1 31 bs (.slice T0 bs.length cT),eRowsI ⟨⟨al,(N : Int),mr,ed⟩,ac,tk⟩ bs,eBlk mb 37 [.slice A1 al.length c1,.int .i64 (N : Int),.slice A2 mr.length c2,.slice A3 ed.length c3,.slice B ac.length d,.int .i64 tk]] W) ?_ fun W2 S' => ?_
       · rw [show mkI ac.length (rowK ⟨⟨al,(N : Int),mr,ed⟩,ac,tk⟩ s 0) = List.replicate ac.length (Value.int .i64 0) by rw [mkI_rep]; exact mkI_congr fun i _ => by simp [rowK]]
         exact S.out.alloc' 3 (List.replicate ac.length (.int .i64 0)) (o := Obj.cells (List.replicate ac.length (.int .i64 0)).toArray 3) rfl hgr
       have S3 := Lib.hid S'
       clear S' S hgr a4
       have a4 := BlkAt.cell (S3.out.get 4 rfl) 4; simp only [List.getElem?_cons_succ,List.getElem?_cons_zero] at a4
       go_wp2_with fail
       clear a4
       go_loopw [43] (fun i wr => ∃ k : Nat,i = .int .i64 (k : Int) ∧ k ≤ ac.length ∧ Hid (Sep w.heap.size w [eBlk gr 3 (mkI ac.length (rowK ⟨⟨al,(N : Int),mr,ed⟩,ac,tk⟩ s k)),eBlk gx 102 ([.slice A1 al.length c1,.int .i64 (N : Int),.slice A2 mr.length c2,.slice A3 ed.length c3,.slice B ac.length d,.int .i64 tk] ++ ckT (dfk ac ac.length) ++ [(.slice T0 bs.length cT)]),eOwn (encR ac.length) 1 31 bs (.slice T0 bs.length cT),eRowsI ⟨⟨al,(N : Int),mr,ed⟩,ac,tk⟩ bs,eBlk mb 37 [.slice A1 al.length c1,.int .i64 (N : Int),.slice A2 mr.length c2,.slice A3 ed.length c3,.slice B ac.length d,.int .i64 tk]] wr)) (fun i _ => ac.length - (intOf i).toNat)
       case atStart => exact ⟨0,rfl,Nat.zero_le _,S3.out⟩
       case round =>
        clear S3
        obtain ⟨k,rfl,hk,S⟩ := hrel
        by_cases hlt : k < ac.length
        · obtain ⟨b,off,x,hAe,hb,hx,e0,e1,e2⟩ := AcsAt.at (HA.out.ac.below AcE.stays S.out.below) hlt
          dsimp only at hAe
          subst hAe
          have hdf := HDF.out k x hx
          have HX := Lib.hid hx
          clear hb
          obtain ⟨be,hbe⟩ : ∃ g,g = wr.heap.size := ⟨_,rfl⟩
          go_upto_region 14 with fail
          rw [← hbe]
          refine wp_world (fun W => Sep w.heap.size w [eBlk be 44 [.int .i64 x.ev,.int .i64 x.lo,.int .i64 x.up],eBlk gr 3 (mkI ac.length (rowK ⟨⟨al,(N : Int),mr,ed⟩,ac,tk⟩ s k)),eBlk gx 102 ([.slice A1 al.length c1,.int .i64 (N : Int),.slice A2 mr.length c2,.slice A3 ed.length c3,.slice (some ⟨b,off,none⟩) ac.length d,.int .i64 tk] ++ ckT (dfk ac ac.length) ++ [(.slice T0 bs.length cT)]),eOwn (encR ac.length) 1 31 bs (.slice T0 bs.length cT),eRowsI ⟨⟨al,(N : Int),mr,ed⟩,ac,tk⟩ bs,eBlk mb 37 [.slice A1 al.length c1,.int .i64 (N : Int),.slice A2 mr.length c2,.slice A3 ed.length c3,.slice (some ⟨b,off,none⟩) ac.length d,.int .i64 tk]] W) (S.out.alloc' _ [_,_,_] rfl hbe) fun W S' => ?_
          have S3 := Lib.hid S'
          clear S' S hbe e0 e1 e2
          have z0 := BlkAt.cell (S3.out.get 0 rfl) 0; simp only [List.getElem?_cons_succ,List.getElem?_cons_zero] at z0
          have a0 := BlkAt.cell (S3.out.get 5 rfl) 0; have a1 := BlkAt.cell (S3.out.get 5 rfl) 1; have a2 := BlkAt.cell (S3.out.get 5 rfl) 2; have a3 := BlkAt.cell (S3.out.get 5 rfl) 3; simp only [List.getElem?_cons_succ,List.getElem?_cons_zero] at a0 a1 a2 a3
          have HC := Lib.hid (step44_c ⟨al,(N : Int),mr,ed⟩ ⟨A1,c1,A2,c2,A3,c3⟩ s x.ev W HM.out.a (HA.out.a.below S3.out.below) (by omega) (by omega))
          dsimp only [Au.val] at HC
          go_wp2_with fail
          refine HC.out.mono ?_
          rintro e w3 ⟨rfl,hb⟩
          have S4 := Lib.hid (S3.out.next hb)
          clear HC hb S3 z0 a0 a1 a2 a3
          have rc := (BlkAt.cell (S4.out.get 1 rfl) k).trans (mkI_get hlt)
          have rf := BlkAt.free (S4.out.get 1 rfl) k
          have hnx : nextV ed s x.ev = Md.nx ⟨⟨al,(N : Int),mr,ed⟩,ac,tk⟩ s k := by unfold Md.nx; rw [Md.ev_get hx]
          have S5 : Hid (Sep w.heap.size w [eBlk gr 3 (mkI ac.length (rowK ⟨⟨al,(N : Int),mr,ed⟩,ac,tk⟩ s (k + 1))),eBlk gx 102 ([.slice A1 al.length c1,.int .i64 (N : Int),.slice A2 mr.length c2,.slice A3 ed.length c3,.slice (some ⟨b,off,none⟩) ac.length d,.int .i64 tk] ++ ckT (dfk ac ac.length) ++ [(.slice T0 bs.length cT)]),eOwn (encR ac.length) 1 31 bs (.slice T0 bs.length cT),eRowsI ⟨⟨al,(N : Int),mr,ed⟩,ac,tk⟩ bs,eBlk mb 37 [.slice A1 al.length c1,.int .i64 (N : Int),.slice A2 mr.length c2,.slice A3 ed.length c3,.slice (some ⟨b,off,none⟩) ac.length d,.int .i64 tk]] (w3.setCell ⟨gr,k,none⟩ (.int .i64 (nextV ed s x.ev)))) := by
           have h := S4.out.drop1.set 0 rfl k (.int .i64 (nextV ed s x.ev))
           rw [mkI_set,hnx,rowK_next ⟨⟨al,(N : Int),mr,ed⟩,ac,tk⟩] at h
           rw [hnx]
           exact h
          clear hx hnx S4
          go_wp2_with fail
          go_roundw
          case rel => exact ⟨k + 1,by go_num,by omega,S5.out⟩
          case measure => simp [intOf]; omega
        · obtain rfl : k = ac.length := by omega
          have S4 : Hid (Sep w.heap.size w [eBlk gr 3 (mkI ac.length (Md.nx ⟨⟨al,(N : Int),mr,ed⟩,ac,tk⟩ bs.length)),eBlk gx 102 ([.slice A1 al.length c1,.int .i64 (N : Int),.slice A2 mr.length c2,.slice A3 ed.length c3,.slice B ac.length d,.int .i64 tk] ++ ckT (dfk ac ac.length) ++ [(.slice T0 bs.length cT)]),eOwn (encR ac.length) 1 31 bs (.slice T0 bs.length cT),eRowsI ⟨⟨al,(N : Int),mr,ed⟩,ac,tk⟩ bs,eBlk mb 37 [.slice A1 al.length c1,.int .i64 (N : Int),.slice A2 mr.length c2,.slice A3 ed.length c3,.slice B ac.length d,.int .i64 tk]] wr) := by
           have h := S.out
           rw [rowK_all ⟨⟨al,(N : Int),mr,ed⟩,ac,tk⟩ s,← HBL.out] at h
           exact h
          have hbl := HBL.out
          have hbl2 : bs.length ≤ 1048576 := by omega
          have HB2 := Lib.hid hbl2
          clear S
          have t0 := BlkAt.cell (S4.out.get 1 rfl) 38
          rw [mcell_to (by rw [dfk_len]; exact h32)] at t0
          clear hbl hbl2
          have hbl2 := HB2.out
          go_wp2_with (at_builtin; refine wpList_pushS rfl _ _ 47 rfl (S4.out.alloc 31 [.slice (some ⟨gr,0,none⟩) ac.length ac.length]) 3 rfl Tryz.underlying47 _ 24 rowInfo1 rfl (by decide) rfl gr _ rfl rfl (one_cell _ _ [_] _ rfl) (encR_one _ _) (by omega) (by decide) ?_)
          intro T1 cT1 w6 S9 _
          have S10 : Hid (Sep w.heap.size w [eBlk gr 3 (mkI ac.length (Md.nx ⟨⟨al,(N : Int),mr,ed⟩,ac,tk⟩ bs.length)),eBlk gx 102 ([.slice A1 al.length c1,.int .i64 (N : Int),.slice A2 mr.length c2,.slice A3 ed.length c3,.slice B ac.length d,.int .i64 tk] ++ ckT (dfk ac ac.length) ++ [(.slice T0 bs.length cT)]),eOwn (encR ac.length) 1 31 (bs ++ [gr]) (.slice T1 (bs.length + 1) cT1),eRowsI ⟨⟨al,(N : Int),mr,ed⟩,ac,tk⟩ bs,eBlk mb 37 [.slice A1 al.length c1,.int .i64 (N : Int),.slice A2 mr.length c2,.slice A3 ed.length c3,.slice B ac.length d,.int .i64 tk]] w6) := S9.drop1
          clear S9 S4 t0
          have t0 := BlkAt.cell (S10.out.get 1 rfl) 38
          rw [mcell_to (by rw [dfk_len]; exact h32)] at t0
          have tf := BlkAt.free (S10.out.get 1 rfl) 38
          have S11 : Hid (Sep w.heap.size w [eBlk gx 102 ([.slice A1 al.length c1,.int .i64 (N : Int),.slice A2 mr.length c2,.slice A3 ed.length c3,.slice B ac.length d,.int .i64 tk] ++ ckT (dfk ac ac.length) ++ [(.slice T1 (bs ++ [gr]).length cT1)]),eOwn (encR ac.length) 1 31 (bs ++ [gr]) (.slice T1 (bs ++ [gr]).length cT1),eRowsI ⟨⟨al,(N : Int),mr,ed⟩,ac,tk⟩ (bs ++ [gr]),eBlk mb 37 [.slice A1 al.length c1,.int .i64 (N : Int),.slice A2 mr.length c2,.slice A3 ed.length c3,.slice B ac.length d,.int .i64 tk]] (w6.setCell ⟨gx,38,none⟩ (.slice T1 (bs.length + 1) cT1))) := by
           have h := S10.out.set 1 rfl 38 (.slice T1 (bs.length + 1) cT1)
           rw [mset_to (by rw [dfk_len]; exact h32)] at h
           have h2 := Sep.rowIn (m := ⟨⟨al,(N : Int),mr,ed⟩,ac,tk⟩) (h.pick [0,3,1,2,4] (by decide))
           rw [show (bs ++ [gr]).length = bs.length + 1 by simp]
           exact h2.pick [1,2,0,3] (by decide)
          clear S10
          go_wp2_with fail
          go_roundw
          case rel => exact ⟨s + 1,bs ++ [gr],T1,cT1,by go_num,by omega,by rw [Hid,List.length_append,HBL.out]; rfl,S11.out⟩
          case measure => simp [intOf]; omega
     · obtain rfl : N = s := by omega
       go_wp2_with fail
       go_ret
       refine ⟨⟨gx,⟨⟨A1,c1,A2,c2,A3,c3⟩,B,d⟩,T0,cT,bs⟩,rfl,rfl,by rw [HBL.out]; rfl,?_⟩
       have h := S.out
       rw [dfk_all ⟨⟨al,(N : Int),mr,ed⟩,ac,tk⟩] at h
       have h2 := ((h.pick [1,2,0] (by decide)).join.pick [1,0] (by decide)).join
       exact h2
section

theorem count_set_true : ∀ (l : List Bool) (i : Nat),l[i]? = some false → (l.set i true).count false + 1 = l.count false
 | [],i,h => by simp at h
 | b :: l,0,h => by
   simp at h; subst h; simp
 | b :: l,i + 1,h => by
   have := count_set_true l i (by simpa using h)
   simp only [List.set_cons_succ,List.count_cons]
   omega
theorem getD_false_some {l : Array Bool} {i : Nat} (h : l.getD i true = false) : l.toList[i]? = some false := by
 rcases Nat.lt_or_ge i l.size with h' | h'
 · simp [h'] at h ⊢; exact h
 · simp [Array.getElem?_eq_none h'] at h

section
variable {P : Program} {ops : Array Oper} {Q : Exit → Act → World → Prop} {md : Region.Mode} {S : World → Prop} {INV : Array Bool → Act → World → Prop} {D : List (List Nat)}

def depsOk (md : Region.Mode) (ops : Array Oper) (D : List (List Nat)) : Bool :=
 (List.range ops.size).all fun i => ((ops[i]?).map fun o => (o.after.all fun e => !Region.binds md e || decide (e.on < i)) && ((D.getD i []).all fun d => o.after.any fun e => e.on == d && Region.binds md e)).getD false
theorem depsOk_at (h : depsOk md ops D = true) {i : Nat} {o : Oper} (ho : ops[i]? = some o) : (∀ e ∈ o.after,Region.binds md e = true → e.on < i) ∧ ∀ d ∈ D.getD i [],∃ e ∈ o.after,e.on = d ∧ Region.binds md e = true := by
 have hi : i < ops.size := (Array.getElem?_eq_some_iff.1 ho).1
 have h1 := List.all_eq_true.1 h i (List.mem_range.2 hi)
 rw [ho] at h1
 simp only [Option.map_some,Option.getD_some,Bool.and_eq_true] at h1
 refine ⟨fun e he hb => ?_,fun d hd => ?_⟩
 · have := Array.all_eq_true'.1 h1.1 e he
   simpa [hb] using this
 · have := List.all_eq_true.1 h1.2 d hd
   obtain ⟨e,he,h2⟩ := Array.any_eq_true'.1 this
   simp only [Bool.and_eq_true,beq_iff_eq] at h2
   exact ⟨e,he,h2⟩
theorem ready_none (h : depsOk md ops D = true) {l : Array Bool} (hr : Region.ready md ops l = []) : ∀ i,i < ops.size → l.getD i true = true := by
 intro i
 induction i using Nat.strongRecOn with
 | _ i ih =>
   intro hi
   obtain ⟨o,ho⟩ : ∃ o,ops[i]? = some o := ⟨_,Array.getElem?_eq_getElem hi⟩
   cases hl : l.getD i true
   · exfalso
     have : i ∈ Region.ready md ops l := mem_ready.2 ⟨hl,o,ho,fun e he hb => by
      have h1 := (depsOk_at h ho).1 e he hb
      have h2 := ih e.on h1 (by omega)
      have : e.on < l.size := by
       rcases Nat.lt_or_ge i l.size with h' | h'
       · omega
       · simp [Array.getElem?_eq_none h'] at hl
      have h3 : l.getD e.on true = l.getD e.on false := by simp [this]
      rw [← h3]; exact h2⟩
     rw [hr] at this
     cases this
   · rfl
def StepI (P : Program) (ops : Array Oper) (Q : Exit → Act → World → Prop) (INV : Array Bool → Act → World → Prop) (D : List (List Nat)) (i : Nat) : Prop :=
 ∀ l a w,INV l a w → l.getD i true = false → (∀ d,d ∈ D.getD i [] → l.getD d false = true) → wpOp P ops Q i (INV (l.setIfInBounds i true)) a w
def StepsI (P : Program) (ops : Array Oper) (Q : Exit → Act → World → Prop) (INV : Array Bool → Act → World → Prop) (D : List (List Nat)) (rs : List Nat) : Prop := ∀ i ∈ rs,StepI P ops Q INV D i
theorem StepsI.nil : StepsI P ops Q INV D [] := fun _ h => by cases h
theorem StepsI.cons {i : Nat} {o : Oper} {rs : List Nat} (ho : ops[i]? = some o)
 (h : ∀ l a w,INV l a w → l.getD i true = false → (∀ d,d ∈ D.getD i [] → l.getD d false = true) → ∀ K' : Act → World → Prop,Hid (∀ a w,INV (l.setIfInBounds i true) a w → K' a w) → if Region.wanted o (yielded ops a.tmps) = true then Oper.wp P o a w K' Q else K' (a.put o.dst undef) w)
 (hs : StepsI P ops Q INV D rs) : StepsI P ops Q INV D (i :: rs) := fun j hj => by
 rcases List.mem_cons.1 hj with rfl | hj
 · exact fun l a w hI hl hd => wpOp_step ho (fun K' hK => h l a w hI hl hd K' hK)
 · exact hs j hj
theorem wpAnyH_inv (rs : List Nat) (hd : depsOk md ops D = true) (hS : ∀ l a w,INV l a w → S w) (hrs : ∀ l a w,INV l a w → ((List.range ops.size).all fun i => rs.contains i || l.getD i true) = true)
 (hfin : ∀ l a w,INV l a w → (∀ i,i < ops.size → l.getD i true = true) → Q .normal a w) (hstep : StepsI P ops Q INV D rs) :
 ∀ (fuel : Nat) (l : Array Bool) (a : Act) (w : World),l.toList.count false ≤ fuel → INV l a w → wpAnyH P md ops Q S fuel l a w := by
 intro fuel
 induction fuel with
 | zero =>
   intro l a w hc hI
   have none_ : Region.ready md ops l = [] := by
    rw [List.eq_nil_iff_forall_not_mem]
    intro i hi
    have h1 := getD_false_some (mem_ready.1 hi).1
    have h2 := List.count_pos_iff.2 (List.mem_of_getElem? h1)
    omega
   exact ⟨none_,hfin l a w hI (ready_none hd none_)⟩
 | succ fuel ih =>
   intro l a w hc hI
   refine ⟨fun hr => hfin l a w hI (ready_none hd hr),fun i hi => ?_⟩
   obtain ⟨hl,o,ho,hall⟩ := mem_ready.1 hi
   have hilt : i < ops.size := (Array.getElem?_eq_some_iff.1 ho).1
   have hmem : i ∈ rs := by
    have := List.all_eq_true.1 (hrs l a w hI) i (List.mem_range.2 hilt)
    rw [hl,Bool.or_false] at this
    simpa using this
   refine wpOp_mono (fun a' w' h => ⟨hS _ _ _ h,ih _ a' w' ?_ h⟩) (hstep i hmem l a w hI hl fun d hdm => ?_)
   · have := count_set_true l.toList i (getD_false_some hl)
     rw [Array.toList_setIfInBounds]
     omega
   · obtain ⟨e,he,h1,h2⟩ := (depsOk_at hd ho).2 d hdm
     rw [← h1]; exact hall e he h2
end

theorem act_name {P : Program} {ops : Array Oper} {Q : Exit → Act → World → Prop} {md : Region.Mode} {S : World → Prop} {fuel : Nat} {l : Array Bool} {a : Act} {w : World} (h : ∀ A0,A0 = a → wpAnyH P md ops Q S fuel l A0 w) : wpAnyH P md ops Q S fuel l a w := h a rfl
def eNo : Ent where
 foot := []
 ok _ := True
 lt w h g hg := by cases hg
 turn w w' h hg := trivial
section
variable {n : Nat} {w0 w w' : World} {es : List Ent}
theorem Sep.no (S : Sep n w0 es w) : Sep n w0 (eNo :: es) w := S.new1 (Below.refl _ _) eNo trivial (by simp [eNo])
theorem Sep.fill (S : Sep n w0 es w) (i : Nat) (hi : es[i]? = some eNo) (hb : Below w.heap.size w w') (e : Ent) (he : e.ok w') (hf : ∀ g,g ∈ e.foot → w.heap.size ≤ g) : Sep n w0 (es.set i e) w' :=
 S.chg i hi e (Off.below hb _) he (fun g hg => .inr (hf g hg))
theorem Sep.fillAlloc (S : Sep n w0 es w) (i : Nat) (hi : es[i]? = some eNo) (T : TypeId) (cs : List Value) {o : Obj} (ho : o = .cells cs.toArray T) {g : Nat} (hg : g = w.heap.size) : Sep n w0 (es.set i (eBlk g T cs)) (w.alloc o) := by
 subst ho; subst hg
 exact S.fill i hi (Below.new w _) _ (BlkAt.new w T cs) (by simp [eBlk])
theorem Sep.fill1 (S : Sep n w0 es w) (i : Nat) (hi : es[i]? = some eNo) {e : Ent} (T : Sep w.heap.size w [e] w') : Sep n w0 (es.set i e) w' :=
 S.fill i hi T.fro.b e (T.ok e (by simp)) (fun g hg => T.ge e (by simp) g hg)
end
end
theorem len32 {α : Type} {l : List α} (h : l.length = 32) : ∃ z0 z1 z2 z3 z4 z5 z6 z7 z8 z9 z10 z11 z12 z13 z14 z15 z16 z17 z18 z19 z20 z21 z22 z23 z24 z25 z26 z27 z28 z29 z30 z31,l = [z0,z1,z2,z3,z4,z5,z6,z7,z8,z9,z10,z11,z12,z13,z14,z15,z16,z17,z18,z19,z20,z21,z22,z23,z24,z25,z26,z27,z28,z29,z30,z31] := by
 match l,h with
 | [z0,z1,z2,z3,z4,z5,z6,z7,z8,z9,z10,z11,z12,z13,z14,z15,z16,z17,z18,z19,z20,z21,z22,z23,z24,z25,z26,z27,z28,z29,z30,z31],_ => exact ⟨_,_,_,_,_,_,_,_,_,_,_,_,_,_,_,_,_,_,_,_,_,_,_,_,_,_,_,_,_,_,_,_,rfl⟩
theorem ck_info : (Tryz.prog.info? 91).map (·.size) = some 33 := by kernel_rfl
theorem ckT_info : (Tryz.prog.info? 89).map (·.size) = some 32 := by kernel_rfl
theorem built_ck2 (s : Int) {t : List Int} (h : t.length ≤ 32) : Tryz.prog.built 91 [(0,.int .i64 s),(1,.agg (ckT t).toArray)] = some (ckC (s,t)).toArray := by
 obtain ⟨z0,z1,z2,z3,z4,z5,z6,z7,z8,z9,z10,z11,z12,z13,z14,z15,z16,z17,z18,z19,z20,z21,z22,z23,z24,z25,z26,z27,z28,z29,z30,z31,e⟩ := len32 (ckT_len h)
 unfold ckC
 simp only [e]
 kernel_rfl
theorem built_ck1 {t : List Int} (h : t.length ≤ 32) : Tryz.prog.built 91 [(1,.agg (ckT t).toArray)] = some (ckC (0,t)).toArray := by
 obtain ⟨z0,z1,z2,z3,z4,z5,z6,z7,z8,z9,z10,z11,z12,z13,z14,z15,z16,z17,z18,z19,z20,z21,z22,z23,z24,z25,z26,z27,z28,z29,z30,z31,e⟩ := len32 (ckT_len h)
 unfold ckC
 simp only [e]
 kernel_rfl
theorem built_ckz : Tryz.prog.built 91 [] = some (ckC (0,[])).toArray := by kernel_rfl
theorem setRow_new (w : World) (T : TypeId) (old cs : Array Value) : (w.alloc (.cells old T)).setRow w.heap.size cs = w.alloc (.cells cs T) := by
 unfold World.setRow World.alloc
 congr 1
 apply Array.ext_getElem?
 intro i
 rw [Array.getElem?_modify,Array.getElem?_push,Array.getElem?_push]
 by_cases h : i = w.heap.size
 · subst h; simp
 · rw [if_neg (fun e => h e.symm),if_neg h,if_neg h]
theorem range_of {w : World} {g T : Nat} {cs : List Value} (h : BlkAt w g T cs) : w.rangeAt g 0 cs := fun j v hv => by rw [Nat.zero_add]; exact (h.cell j).trans hv
theorem Sep.setRow {n : Nat} {w0 w : World} {es : List Ent} (S : Sep n w0 es w) (i : Nat) {g T : Nat} {cs : List Value} (hi : es[i]? = some (eBlk g T cs)) (ds : List Value) : Sep n w0 (es.set i (eBlk g T ds)) (w.setRow g ds.toArray) := by
 have hb : w.heap[g]? = some (.cells cs.toArray T (0,0)) := S.get i hi
 exact S.chg i hi _ ⟨rfl,rfl,rfl,by simp,fun k _ hne => setRow_other w g k _ (by simpa [eBlk] using hne)⟩ (setRow_heap w g _ _ T (0,0) hb) (fun x hx => .inl hx)
theorem wpList_ckNew {ops : Array Oper} {rest : List Oper} {o : Oper} {a : Act} {w : World} {Q : Exit → Act → World → Prop} (c : Ck) (hc : c.2.length ≤ 32) (hgd : o.guard = none) (x y : Operand) (ho : o.op = .store 91 x y)
 (old : Array Value) (hx : a.eval x = .pointer (some ⟨w.heap.size,0,none⟩)) (hy : a.eval y = .agg (ckC c).toArray) (hold : old.size = 33)
 (h : wpList Tryz.prog ops Q rest (a.put o.dst undef) (w.alloc (.cells (ckC c).toArray 91))) : wpList Tryz.prog ops Q (o :: rest) a (w.alloc (.cells old 91)) := by
 refine wpList_store_row hgd 91 x y ho w.heap.size (ckC c).toArray hx hy 91 old (heap_alloc_new w _) ?_ ?_ (all_oneCell_toArray (ckC_cell c)) ?_
 · rw [ck_info]; simp [ckC_len hc]
 · simp [ckC_len hc,hold]
 · rw [setRow_new]; exact h
theorem wpList_ckAt {ops : Array Oper} {rest : List Oper} {o : Oper} {a : Act} {w : World} {Q : Exit → Act → World → Prop} {n : Nat} {w0 : World} {es : List Ent} (c : Ck) (hc : c.2.length ≤ 32) (hgd : o.guard = none) (x y : Operand) (ho : o.op = .store 91 x y)
 (S : Sep n w0 es w) (i : Nat) (g : Nat) (d : Ck) (hd : d.2.length ≤ 32) (hi : es[i]? = some (eBlk g 91 (ckC d))) (hx : a.eval x = .pointer (some ⟨g,0,none⟩)) (hy : a.eval y = .agg (ckC c).toArray)
 (h : ∀ w',Sep n w0 (es.set i (eBlk g 91 (ckC c))) w' → wpList Tryz.prog ops Q rest (a.put o.dst undef) w') : wpList Tryz.prog ops Q (o :: rest) a w := by
 refine wpList_store_row hgd 91 x y ho g (ckC c).toArray hx hy 91 (ckC d).toArray (S.get i hi) ?_ ?_ (all_oneCell_toArray (ckC_cell c)) (h _ (S.setRow i hi (ckC c)))
 · rw [ck_info]; simp [ckC_len hc]
 · simp [ckC_len hc,ckC_len hd]
theorem wpList_ckLoad {ops : Array Oper} {rest : List Oper} {o : Oper} {a : Act} {w : World} {Q : Exit → Act → World → Prop} (c : Ck) (g : Nat) (hb : BlkAt w g 91 (ckC c)) (hc : c.2.length ≤ 32) (hgd : o.guard = none) (x : Operand) (ho : o.op = .load 91 x)
 (hx : a.eval x = .pointer (some ⟨g,0,none⟩)) (h : wpList Tryz.prog ops Q rest (a.put o.dst (.agg (ckC c).toArray)) w) : wpList Tryz.prog ops Q (o :: rest) a w :=
 wpList_load_mid hgd 91 x ho g 0 hx (ckC c) _ (range_of hb) Tryz.underlying91 rfl (by rw [ck_info,ckC_len hc]) h
theorem run_ckVar {w : World} {c : Ck} {g : Nat} (hb : BlkAt w g 91 (ckC c)) (hc : c.2.length ≤ 32) : (loadVar 91 ⟨g,0,none⟩).run Tryz.prog w = .ok (.agg (ckC c).toArray) w :=
 run_loadVar_mid w g 0 91 (ckC c) _ (range_of hb) Tryz.underlying91 rfl (by rw [ck_info,ckC_len hc])
structure MchAt (w : World) (m : Md) (q : McP) (s : Nat) (bt ot b : Nat) : Prop where
 T : q.T = some ⟨bt,ot,none⟩
 to_ : w.cell? ⟨q.g,38,none⟩ = some (.slice (some ⟨bt,ot,none⟩) q.bs.length q.ct)
 ac : w.cell? ⟨q.g,4,none⟩ = some (.slice q.P.B m.ac.length q.P.d)
 row : w.cell? ⟨bt,ot + s,none⟩ = some (.slice (some ⟨b,0,none⟩) m.ac.length m.ac.length)
 nx : ∀ i : Nat,i < m.ac.length → w.cell? ⟨b,i,none⟩ = some (.int .i64 (m.nx s i))
 lt : s < q.bs.length
theorem Mch.atS {w : World} {m : Md} {q : McP} (h : Mch w m q) (hm : m.ac.length ≤ 32) {s : Nat} (hs : s < m.a.n.toNat) : ∃ bt ot b,MchAt w m q s bt ot b := by
 obtain ⟨bt,ot,b,h1,h2,h3⟩ := h.toAt hs
 refine ⟨bt,ot,b,h1,?_,?_,h2,h3,by rw [h.len]; exact hs⟩
 · rw [← h1]; exact (h.blk.cell 38).trans (mcell_to (by rw [Md.dfs,List.length_map]; exact hm))
 · exact (h.blk.cell 4).trans (mcell_m (by decide))
set_option maxHeartbeats 2000000 in
theorem possible_c (m : Md) (q : McP) (c : Ck) (i : Nat) (w : World) (hm : m.Ok) (hq : Mch w m q) (hc : m.Is c) (hi : i < m.ac.length) :
 Calls Tryz.prog 95 #[.pointer (some ⟨q.g,0,none⟩),.agg (ckC c).toArray,.int .i64 (i : Int)] w (Ret (.bool (m.may c i)) w) := by
 obtain ⟨s,hs⟩ := Int.eq_ofNat_of_zero_le hc.s.1
 have hsN : s < m.a.n.toNat := by have := hc.s.2; omega
 have hlen := hc.len
 have h32 := hm.len32
 have HQ := Lib.hid hq
 have HBD := Lib.hid hm.bd
 have HT : Hid (0 ≤ tmr c i ∧ tmr c i ≤ 16) := by have h1 := hc.t i hi; have h2 := hm.df hi; rw [Hid]; omega
 clear hq hc hm
 go_enter Tryz.func95,Tryz.ntmps95
 obtain ⟨cb,hcb⟩ : ∃ g,g = w.heap.size := ⟨_,rfl⟩
 go_upto_region 1 with fail
 rw [← hcb]
 refine wp_world (fun W => Sep w.heap.size w [eBlk cb 91 (ckC c)] W) ((Sep.here w).alloc' _ (ckC c) rfl hcb) fun W S => ?_
 have S0 := Lib.hid S
 clear S hcb
 have HQ1 := Lib.hid (HQ.out.below S0.out.below)
 obtain ⟨bt,ot,b,hA⟩ := HQ1.out.atS h32 hsN
 have k1 := hA.to_
 have k2 := hA.row
 have k3 := hA.nx i hi
 have k4 := hA.lt
 have k0 : W.cell? ⟨cb,0,none⟩ = some (.int .i64 (s : Int)) := by rw [← hs]; exact (BlkAt.cell (S0.out.get 0 rfl) 0)
 clear hA
 have hi2 : (i : Int) < (m.ac.length : Int) := by omega
 have hp : m.pr c.1 i = decide (0 ≤ m.nx s i) := by unfold Md.pr; rw [hs]
 have HP := Lib.hid hp
 clear hp
 by_cases h0 : 0 ≤ m.nx s i
 · have hd : decide (m.nx s i < 0) = false := decide_eq_false (by omega)
   go_quiet (fail)
   go_upto_region 3 with fail
   refine wp_world (fun V => Sep w.heap.size w [eBlk cb 91 (ckC c)] V) (S0.out.draws _) fun W2 S' => ?_
   have S2 := Lib.hid S'
   clear S' S0 k0 k1 k2 k3 k4 HQ1
   have HQ2 := Lib.hid (HQ.out.below S2.out.below)
   obtain ⟨ba,oa,x,hB,_,hx,e0,e1,e2⟩ := AcsAt.at HQ2.out.md.ac hi
   have k4 : W2.cell? ⟨q.g,4,none⟩ = some (.slice (some ⟨ba,oa,none⟩) m.ac.length q.P.d) := by rw [← hB]; exact (HQ2.out.blk.cell 4).trans (mcell_m (by decide))
   have hxt := Md.at_get hx
   have hbd : (-1 ≤ x.up ∧ x.up ≤ 16) ∧ 0 ≤ x.lo ∧ x.lo ≤ 16 := by have := HBD.out x (List.mem_of_getElem? hx); omega
   have HMY : Hid (m.may c i = x.may (tmr c i)) := by unfold Md.may; rw [HP.out,decide_eq_true h0,hxt]; rfl
   obtain ⟨eb,heb⟩ : ∃ g,g = W2.heap.size := ⟨_,rfl⟩
   clear hx hxt hB
   go_upto_region 4 with fail
   rw [← heb]
   refine wp_world (fun V => Sep w.heap.size w [eBlk eb 44 [.int .i64 x.ev,.int .i64 x.lo,.int .i64 x.up],eBlk cb 91 (ckC c)] V) (S2.out.alloc' _ [_,_,_] rfl heb) fun W3 S' => ?_
   have S3 := Lib.hid S'
   clear S' S2 e0 e1 e2 k4 heb HQ2
   have a1 := BlkAt.cell (S3.out.get 0 rfl) 1; have a2 := BlkAt.cell (S3.out.get 0 rfl) 2; simp only [List.getElem?_cons_succ,List.getElem?_cons_zero] at a1 a2
   have kt := (BlkAt.cell (S3.out.get 1 rfl) (1 + i)).trans (ckC_get (by omega))
   have hi3 : (i : Int) < 32 := by omega
   by_cases hu : x.up < 0
   · have hd2 : decide (x.up < 0) = true := decide_eq_true hu
     go_wp2_with fail
     go_ret
     refine ⟨by rw [HMY.out]; unfold Ac.may; rw [if_pos hu]; simp only [Ending.returned.injEq,Value.bool.injEq]; rw [beq_dec]; rfl,S3.out.below⟩
   · have hd2 : decide (x.up < 0) = false := decide_eq_false hu
     have hw1 : IntKind.i64.wrap (tmr c i) = tmr c i := IntWalk.i64_in _ (by have := HT.out; omega)
     have hw2 : IntKind.i64.wrap (x.up - x.lo) = x.up - x.lo := IntWalk.i64_in _ (by omega)
     go_upto_region 6 with fail
     go_quiet (fail)
     go_wp2_with fail
     go_ret
     refine ⟨by rw [HMY.out]; unfold Ac.may; rw [if_neg (by omega)]; rfl,S3.out.below.draws _⟩
 · have hd : decide (m.nx s i < 0) = true := decide_eq_true (by omega)
   go_quiet (fail)
   go_wp2_with fail
   go_ret
   exact ⟨by unfold Md.may; rw [HP.out,decide_eq_false (by omega)]; rfl,S0.out.below.draws _⟩
set_option maxHeartbeats 4000000 in
theorem urgent_c (m : Md) (q : McP) (c : Ck) (i : Nat) (w : World) (hm : m.Ok) (hq : Mch w m q) (hc : m.Is c) (hi : i < m.ac.length) :
 Calls Tryz.prog 41 #[.pointer (some ⟨q.g,0,none⟩),.agg (ckC c).toArray,.int .i64 (i : Int)] w (Ret (.bool (m.urg c i)) w) := by
 obtain ⟨s,hs⟩ := Int.eq_ofNat_of_zero_le hc.s.1
 have hsN : s < m.a.n.toNat := by have := hc.s.2; omega
 have hlen := hc.len
 have h32 := hm.len32
 have HQ := Lib.hid hq
 have HBD := Lib.hid hm.bd
 have HT : Hid (0 ≤ tmr c i ∧ tmr c i ≤ 16) := by have h1 := hc.t i hi; have h2 := hm.df hi; rw [Hid]; omega
 clear hq hc hm
 go_enter Tryz.func41,Tryz.ntmps41
 obtain ⟨cb,hcb⟩ : ∃ g,g = w.heap.size := ⟨_,rfl⟩
 go_upto_region 1 with fail
 rw [← hcb]
 refine wp_world (fun W => Sep w.heap.size w [eBlk cb 91 (ckC c)] W) ((Sep.here w).alloc' _ (ckC c) rfl hcb) fun W S => ?_
 have S0 := Lib.hid S
 clear S hcb
 have HQ1 := Lib.hid (HQ.out.below S0.out.below)
 obtain ⟨bt,ot,b,hA⟩ := HQ1.out.atS h32 hsN
 obtain ⟨ba,oa,x,hB,_,hx,e0,e1,e2⟩ := AcsAt.at HQ1.out.md.ac hi
 have k1 := hA.to_
 have k2 := hA.row
 have k3 := hA.nx i hi
 have k4 := hA.lt
 have k5 : W.cell? ⟨q.g,4,none⟩ = some (.slice (some ⟨ba,oa,none⟩) m.ac.length q.P.d) := by rw [← hB]; exact hA.ac
 have k0 : W.cell? ⟨cb,0,none⟩ = some (.int .i64 (s : Int)) := by rw [← hs]; exact (BlkAt.cell (S0.out.get 0 rfl) 0)
 have kt := (BlkAt.cell (S0.out.get 0 rfl) (1 + i)).trans (ckC_get (by omega))
 have hxt := Md.at_get hx
 have HU : Hid (m.urg c i = (decide (0 ≤ m.nx s i) && decide (0 ≤ x.up) && decide (tmr c i = 0))) := by unfold Md.urg Md.pr; rw [hs,hxt]; rfl
 have hi2 : (i : Int) < (m.ac.length : Int) := by omega
 have hi3 : (i : Int) < 32 := by omega
 clear hA hB hx hxt
 by_cases h0 : 0 ≤ m.nx s i
 · have hd : decide (0 ≤ m.nx s i) = true := decide_eq_true h0
   have HD := Lib.hid hd
   by_cases hu : 0 ≤ x.up
   · have hd2 : decide (0 ≤ x.up) = true := decide_eq_true hu
     have HD2 := Lib.hid hd2
     go_quiet (fail)
     go_wp2_with fail
     go_ret
     exact ⟨by rw [HU.out,HD.out,HD2.out]; simp only [Bool.true_and,Ending.returned.injEq,Value.bool.injEq]; rw [← beq_dec]; rfl,S0.out.below.draws _⟩
   · have hd2 : decide (0 ≤ x.up) = false := decide_eq_false hu
     have HD2 := Lib.hid hd2
     go_quiet (fail)
     go_wp2_with fail
     go_ret
     exact ⟨by rw [HU.out,HD.out,HD2.out]; rfl,S0.out.below.draws _⟩
 · have hd : decide (0 ≤ m.nx s i) = false := decide_eq_false h0
   have HD := Lib.hid hd
   go_quiet (fail)
   go_wp2_with fail
   go_ret
   exact ⟨by rw [HU.out,HD.out]; rfl,S0.out.below.draws _⟩
def ckV (r : Option Ck) : Value := .tuple #[.agg (ckC (r.getD (0,[]))).toArray,.bool r.isSome]
theorem res_ck {fn : Func} {p u : Tmp} (h : fn.results = #[.cell p 91,.tmp u]) {tmps : Array Value} {w : World} {g : Nat} {c : Ck} {r : Option Ck} (hp : tmps.getD p undef = .pointer (some ⟨g,0,none⟩)) (hu : tmps.getD u undef = .bool r.isSome) (hr : r.getD (0,[]) = c) (hb : BlkAt w g 91 (ckC c)) (hc : c.2.length ≤ 32) :
 (results fn tmps).run Tryz.prog w = .ok (ckV r) w := by
 rw [results_cell_tmp h,hp,hu]
 simp [asAddr,run_ckVar hb hc,Result.andThen,ckV,hr]
theorem yieldsIf_build {P : Program} {ops : Array Oper} {S : World → Prop} {op : Oper} {a : Act} (hw : Region.wanted op (yielded ops a.tmps) = true) (t : TypeId) (parts : Array (Nat × Operand)) (ho : op.op = .build t parts) (cells : Array Value)
 (h : P.built t (parts.map fun (i,x) => (i,a.eval x)).toList = some cells) : YieldsIf P ops S op (.agg cells) a :=
 .inl ⟨hw,fun w _ => by
  unfold execOp
  simp only [ho,Sem.run_bind,run_build w t _ _ h,Result.andThen_ok]
  rfl⟩
theorem step_ckAt {ops : Array Oper} {o : Oper} {a : Act} {w : World} {K' : Act → World → Prop} {Q : Exit → Act → World → Prop} {F : Prop} {n : Nat} {w0 : World} {es : List Ent} (c : Ck) (hc : c.2.length ≤ 32) (hgd : o.guard = none) (x y : Operand) (ho : o.op = .store 91 x y)
 (S : Sep n w0 es w) (i : Nat) (g : Nat) (d : Ck) (hd : d.2.length ≤ 32) (hi : es[i]? = some (eBlk g 91 (ckC d))) (hx : a.eval x = .pointer (some ⟨g,0,none⟩)) (hy : a.eval y = .agg (ckC c).toArray)
 (h : ∀ w',Sep n w0 (es.set i (eBlk g 91 (ckC c))) w' → K' (a.put o.dst undef) w') : if Region.wanted o (yielded ops a.tmps) = true then Oper.wp Tryz.prog o a w K' Q else F := by
 have hw : Region.wanted o (yielded ops a.tmps) = true := by simp [Region.wanted,hgd]
 rw [if_pos hw]
 refine wp_store_row 91 x y ho g (ckC c).toArray hx hy 91 (ckC d).toArray (S.get i hi) ?_ ?_ (all_oneCell_toArray (ckC_cell c)) (h _ (S.setRow i hi (ckC c)))
 · rw [ck_info]; simp [ckC_len hc]
 · simp [ckC_len hc,ckC_len hd]
theorem Mch.dfRange {w : World} {m : Md} {q : McP} (h : Mch w m q) (h32 : m.ac.length ≤ 32) : w.rangeAt q.g 6 (ckT m.dfs) := by
 intro j v hj
 have hj2 : j < (ckT m.dfs).length := (List.getElem?_eq_some_iff.1 hj).1
 rw [h.blk.cell (6 + j),List.append_assoc,List.getElem?_append_right (by simp [Md.cells])]
 simp only [Md.cells,List.length_cons,List.length_nil]
 rw [show 6 + j - (0 + 1 + 1 + 1 + 1 + 1 + 1) = j by omega,List.getElem?_append_left hj2]
 exact hj
set_option maxHeartbeats 4000000 in
theorem tick_c (m : Md) (q : McP) (c : Ck) (w : World) (hm : m.Ok) (hq : Mch w m q) (hc : m.Is c) :
 Calls Tryz.prog 64 #[.pointer (some ⟨q.g,0,none⟩),.agg (ckC c).toArray] w (Ret (ckV (m.tick c)) w) := by
 obtain ⟨s,hs⟩ := Int.eq_ofNat_of_zero_le hc.s.1
 have hsN : s < m.a.n.toNat := by have := hc.s.2; omega
 have hlen := hc.len
 have h32 := hm.len32
 have hl32 : c.2.length ≤ 32 := by omega
 have HM := Lib.hid hm
 have HC := Lib.hid hc
 have HQ := Lib.hid hq
 have HT : Hid (∀ i : Nat,i < m.ac.length → 0 ≤ tmr c i ∧ tmr c i ≤ 16) := fun i hi => by have h1 := hc.t i hi; have h2 := hm.df hi; omega
 have HS := Lib.hid hs
 clear hq hc hm hs
 go_enter Tryz.func64,Tryz.ntmps64
 obtain ⟨cb,hcb⟩ : ∃ g,g = w.heap.size := ⟨_,rfl⟩
 obtain ⟨rb,hrb⟩ : ∃ g,g = w.heap.size + 1 := ⟨_,rfl⟩
 go_upto_region 1 with fail
 rw [← hrb,← hcb]
 refine wp_world (fun W => Sep w.heap.size w [eBlk rb 91 (ckC (0,[])),eBlk cb 91 (ckC c)] W) (((Sep.here w).alloc' _ (ckC c) rfl hcb).alloc' _ (ckC (0,[])) rfl (by rw [hrb]; simp)) fun W S => ?_
 have S0 := Lib.hid S
 clear S hcb hrb
 have HQ1 := Lib.hid (HQ.out.below S0.out.below)
 obtain ⟨bt,ot,b,hA⟩ := HQ1.out.atS h32 hsN
 have k5 := hA.ac
 clear hA
 go_wp2_with fail
 clear k5 HQ1
 go_loopw [14] (fun i wr => ∃ k : Nat,i = .int .i64 (k : Int) ∧ k ≤ m.ac.length ∧ Hid (∀ j : Nat,j < k → m.urg c j = false) ∧ Hid (Sep w.heap.size w [eBlk rb 91 (ckC (0,[])),eBlk cb 91 (ckC c)] wr)) (fun i _ => m.ac.length - (intOf i).toNat)
 case atStart => exact ⟨0,rfl,Nat.zero_le _,fun j h => absurd h (by omega),S0.out⟩
 case round =>
  clear S0
  obtain ⟨k,rfl,hk,HU,S⟩ := hrel
  by_cases hlt : k < m.ac.length
  · obtain ⟨u,hu⟩ : ∃ u,u = m.urg c k := ⟨_,rfl⟩
    have UC := Lib.hid (urgent_c m q c k wr HM.out (HQ.out.below S.out.below) HC.out hlt)
    rw [← hu] at UC
    have HUU := Lib.hid hu
    clear hu
    go_wp2_with (refine wpList_ckLoad c cb (S.out.get 1 rfl) hl32 rfl _ rfl rfl ?_)
    refine UC.out.mono ?_
    rintro e w2 ⟨rfl,hb⟩
    have S2 := Lib.hid (S.out.next hb)
    clear hb S UC
    cases u
    · go_wp2_with fail
      go_roundw
      case rel => exact ⟨k + 1,by go_num,by omega,fun j hj => by
       by_cases e : j = k
       · subst e; exact HUU.out.symm
       · exact HU.out j (by omega),S2.out⟩
      case measure => simp [intOf]; omega
    · have HN : Hid (m.tick c = none) := by
       rw [Hid]; unfold Md.tick
       rw [if_pos]
       exact List.any_eq_true.2 ⟨k,List.mem_range.2 hlt,HUU.out.symm⟩
      have hbd : ∀ V,(Instr.build 91 #[]).run Tryz.prog V = .ok (.agg (ckC (0,[])).toArray) V := fun V => run_build V _ _ _ built_ckz
      go_wp2_with (refine wpList_ckAt (0,[]) (by simp) rfl _ _ rfl S2.out 0 rb (0,[]) (by simp) rfl rfl rfl ?_)
      intro w3 S3
      have S4 : Hid (Sep w.heap.size w [eBlk rb 91 (ckC (0,[])),eBlk cb 91 (ckC c)] w3) := S3
      clear S3 S2
      go_wp2_with fail
      refine bodyPost_ret (v := ckV none) (res_ck Tryz.results64 rfl rfl rfl (S4.out.get 0 rfl) (by simp)) rfl ?_
      exact ⟨by rw [HN.out],S4.out.below⟩
  · obtain rfl : k = m.ac.length := by omega
    have HN : Hid (m.tick c = some (c.1,m.fall c m.ac.length)) := by
     rw [Hid]; unfold Md.tick
     rw [if_neg]
     intro h
     obtain ⟨j,hj,hj2⟩ := List.any_eq_true.1 h
     rw [HU.out j (List.mem_range.1 hj)] at hj2
     cases hj2
    have S1 : Hid (Sep w.heap.size w [eBlk rb 91 (ckC (0,[])),eBlk cb 91 (ckC (c.1,m.fall c 0))] wr) := by rw [Md.fall_zero hlen]; exact S.out
    clear S
    have HQ1 := Lib.hid (HQ.out.below S1.out.below)
    obtain ⟨bt,ot,b,hA⟩ := HQ1.out.atS h32 hsN
    have k5 := hA.ac
    clear hA
    go_wp2_with fail
    clear k5 HQ1
    go_loopw [29] (fun i wr => ∃ k : Nat,i = .int .i64 (k : Int) ∧ k ≤ m.ac.length ∧ Hid (Sep w.heap.size w [eBlk rb 91 (ckC (0,[])),eBlk cb 91 (ckC (c.1,m.fall c k))] wr)) (fun i _ => m.ac.length - (intOf i).toNat)
    case atStart => exact ⟨0,rfl,Nat.zero_le _,S1.out⟩
    case round =>
     clear S1
     obtain ⟨k,rfl,hk,S⟩ := hrel
     by_cases hlt : k < m.ac.length
     · have hfl := Md.fall_len (m := m) c k
       have k0 : wr.cell? ⟨cb,0,none⟩ = some (.int .i64 (s : Int)) := by rw [← HS.out]; exact BlkAt.cell (S.out.get 1 rfl) 0
       have kt := (BlkAt.cell (S.out.get 1 rfl) (1 + k)).trans (ckC_get (by show k < (m.fall c k).length; omega))
       have hft : tmr (c.1,m.fall c k) k = tmr c k := by rw [Md.fall_at c _ _ hlt,if_neg (by omega)]
       rw [hft] at kt
       have kf := BlkAt.free (S.out.get 1 rfl) (1 + k)
       have HPR : Hid (m.pr c.1 k = decide (0 ≤ m.nx s k)) := by rw [Hid]; unfold Md.pr; rw [HS.out]
       have ht16 := HT.out k hlt
       have HQ1 := Lib.hid (HQ.out.below S.out.below)
       obtain ⟨bt,ot,b,hA⟩ := HQ1.out.atS h32 hsN
       have k1 := hA.to_
       have k2 := hA.row
       have k3 := hA.nx k hlt
       have k4 := hA.lt
       have hi2 : (k : Int) < (m.ac.length : Int) := by omega
       have hi3 : (k : Int) < 32 := by omega
       clear hA hft hfl
       by_cases h0 : 0 ≤ m.nx s k
       · have hd : decide (0 ≤ m.nx s k) = true := decide_eq_true h0
         by_cases hp : 0 < tmr c k
         · have hd2 : decide (0 < tmr c k) = true := decide_eq_true hp
           have hw8 : IntKind.i8.wrap (tmr c k - 1) = tmr c k - 1 := IntWalk.i8_in _ (by omega)
           have S5 : ∀ q',Hid (Sep w.heap.size w [eBlk rb 91 (ckC (0,[])),eBlk cb 91 (ckC (c.1,m.fall c (k + 1)))] ((wr.drewN q').setCell ⟨cb,1 + k,none⟩ (.int .i8 (tmr c k - 1)))) := fun q' => by
            have h := (S.out.draws q').set 1 rfl (1 + k) (.int .i8 (tmr c k - 1))
            rw [ckC_set (by show k < (m.fall c k).length; rw [Md.fall_len]; exact hlt)] at h
            rw [Md.fall_next hlt,if_pos ⟨by rw [HPR.out]; exact decide_eq_true h0,hp⟩]
            exact h
           have S6 := Lib.hid S5
           clear S5 S
           go_upto_region 10 with fail
           go_quiet (fail)
           go_wp2_with fail
           go_roundw
           case rel => exact ⟨k + 1,by go_num,by omega,S6.out _⟩
           case measure => simp [intOf]; omega
         · have hd2 : decide (0 < tmr c k) = false := decide_eq_false hp
           have S6 : Hid (Sep w.heap.size w [eBlk rb 91 (ckC (0,[])),eBlk cb 91 (ckC (c.1,m.fall c (k + 1)))] wr) := by rw [Md.fall_next hlt,if_neg (fun g => hp g.2)]; exact S.out
           clear S
           go_upto_region 10 with fail
           go_quiet (fail)
           go_wp2_with fail
           go_roundw
           case rel => exact ⟨k + 1,by go_num,by omega,S6.out.draws _⟩
           case measure => simp [intOf]; omega
       · have hd : decide (0 ≤ m.nx s k) = false := decide_eq_false h0
         have S6 : Hid (Sep w.heap.size w [eBlk rb 91 (ckC (0,[])),eBlk cb 91 (ckC (c.1,m.fall c (k + 1)))] wr) := by rw [Md.fall_next hlt,if_neg (fun g => h0 (of_decide_eq_true (by rw [← HPR.out]; exact g.1)))]; exact S.out
         clear S
         go_upto_region 10 with fail
         go_quiet (fail)
         go_wp2_with fail
         go_roundw
         case rel => exact ⟨k + 1,by go_num,by omega,S6.out.draws _⟩
         case measure => simp [intOf]; omega
     · obtain rfl : k = m.ac.length := by omega
       have hfl : (m.fall c m.ac.length).length ≤ 32 := by rw [Md.fall_len]; exact h32
       have HFL := Lib.hid hfl
       clear hfl
       go_wp2_with (first | refine wpList_ckLoad (c.1,m.fall c m.ac.length) cb (S.out.get 1 rfl) HFL.out rfl _ rfl rfl ?_ | refine wpList_ckAt (c.1,m.fall c m.ac.length) HFL.out rfl _ _ rfl S.out 0 rb (0,[]) (by simp) rfl rfl rfl ?_)
       intro w3 S3
       have S4 : Hid (Sep w.heap.size w [eBlk rb 91 (ckC (c.1,m.fall c m.ac.length)),eBlk cb 91 (ckC (c.1,m.fall c m.ac.length))] w3) := S3
       clear S3 S
       go_wp2_with fail
       refine bodyPost_ret (v := ckV (some (c.1,m.fall c m.ac.length))) (res_ck Tryz.results64 rfl rfl rfl (S4.out.get 0 rfl) HFL.out) rfl ?_
       exact ⟨by rw [HN.out],S4.out.below⟩
theorem Mch.base {w : World} {m : Md} {q : McP} (h : Mch w m q) {s : Nat} (hs : s < m.a.n.toNat) : ∃ bt ot b,q.T = some ⟨bt,ot,none⟩ ∧ q.bs[s]? = some b := by
 obtain ⟨bt,ot,b,vs,hA,_,hb,_,_,_⟩ := SlAt.at h.tl (i := s) (by rw [h.len]; exact hs)
 exact ⟨bt,ot,b,hA,hb⟩
theorem Mch.atB {w : World} {m : Md} {q : McP} (h : Mch w m q) (h32 : m.ac.length ≤ 32) {s bt ot b : Nat} (hT : q.T = some ⟨bt,ot,none⟩) (hb : q.bs[s]? = some b) : MchAt w m q s bt ot b := by
 have hs := (List.getElem?_eq_some_iff.1 hb).1
 obtain ⟨bt',ot',b',vs,hA,_,hb',hl,hv,hc⟩ := SlAt.at h.tl (i := s) hs
 rw [hT] at hA; cases hA
 rw [hb] at hb'; cases hb'
 subst hv
 refine ⟨hT,?_,?_,?_,fun i hi => (BlkAt.cell (h.row s b hb) i).trans (mkI_get hi),hs⟩
 · rw [← hT]; exact (h.blk.cell 38).trans (mcell_to (by rw [Md.dfs,List.length_map]; exact h32))
 · exact (h.blk.cell 4).trans (mcell_m (by decide))
 · have := hc 0 _ rfl
   simpa using this
set_option maxHeartbeats 8000000 in
theorem act_c (m : Md) (q : McP) (c : Ck) (i : Nat) (w : World) (hm : m.Ok) (hq : Mch w m q) (hc : m.Is c) (hi : i < m.ac.length) :
 Calls Tryz.prog 66 #[.pointer (some ⟨q.g,0,none⟩),.agg (ckC c).toArray,.int .i64 (i : Int)] w (Ret (ckV (m.act c i)) w) := by
 obtain ⟨s,hs⟩ := Int.eq_ofNat_of_zero_le hc.s.1
 have hsN : s < m.a.n.toNat := by have := hc.s.2; omega
 have hlen := hc.len
 have h32 := hm.len32
 have hl32 : c.2.length ≤ 32 := by omega
 have HM := Lib.hid hm
 have HC := Lib.hid hc
 have HQ := Lib.hid hq
 have HT : Hid (∀ i : Nat,i < m.ac.length → 0 ≤ tmr c i ∧ tmr c i ≤ 16) := fun i hi => by have h1 := hc.t i hi; have h2 := hm.df hi; omega
 have HS := Lib.hid hs
 clear hq hc hm hs
 have hdl : Hid (m.dfs.length = m.ac.length) := by simp [Md.dfs,Hid]
 go_enter Tryz.func66,Tryz.ntmps66
 obtain ⟨cb,hcb⟩ : ∃ g,g = w.heap.size := ⟨_,rfl⟩
 obtain ⟨rb,hrb⟩ : ∃ g,g = w.heap.size + 1 := ⟨_,rfl⟩
 go_upto_region 1 with fail
 rw [← hrb,← hcb]
 refine wp_world (fun W => Sep w.heap.size w [eBlk rb 91 (ckC (0,[])),eBlk cb 91 (ckC c)] W) (((Sep.here w).alloc' _ (ckC c) rfl hcb).alloc' _ (ckC (0,[])) rfl (by rw [hrb]; simp)) fun W S => ?_
 have S0 := Lib.hid S
 clear S hcb hrb
 obtain ⟨u,hu⟩ : ∃ u,u = m.may c i := ⟨_,rfl⟩
 have PC := Lib.hid (possible_c m q c i W HM.out (HQ.out.below S0.out.below) HC.out hi)
 rw [← hu] at PC
 have HU := Lib.hid hu
 clear hu
 go_wp2_with (refine wpList_ckLoad c cb (S0.out.get 1 rfl) hl32 rfl _ rfl rfl ?_)
 refine PC.out.mono ?_
 rintro e w2 ⟨rfl,hb⟩
 have S2 := Lib.hid (S0.out.next hb)
 clear hb S0 PC
 cases u
 · have HN : Hid (m.act c i = none) := by rw [Hid]; unfold Md.act; rw [← HU.out]; rfl
   have hbd : ∀ V,(Instr.build 91 #[]).run Tryz.prog V = .ok (.agg (ckC (0,[])).toArray) V := fun V => run_build V _ _ _ built_ckz
   go_wp2_with (refine wpList_ckAt (0,[]) (by simp) rfl _ _ rfl S2.out 0 rb (0,[]) (by simp) rfl rfl rfl ?_)
   intro w3 S3
   have S4 : Hid (Sep w.heap.size w [eBlk rb 91 (ckC (0,[])),eBlk cb 91 (ckC c)] w3) := S3
   clear S3 S2
   go_wp2_with fail
   refine bodyPost_ret (v := ckV none) (res_ck Tryz.results66 rfl rfl rfl (S4.out.get 0 rfl) (by simp)) rfl ?_
   exact ⟨by rw [HN.out],S4.out.below⟩
 · have hmay := HU.out
   have hpr : m.pr c.1 i = true := by unfold Md.may at hmay; exact (Bool.and_eq_true_iff.1 hmay.symm).1
   have hnx0 : 0 ≤ m.nx s i := by rw [← HS.out]; exact of_decide_eq_true hpr
   obtain ⟨s2,hs2⟩ := Int.eq_ofNat_of_zero_le hnx0
   have hs2N : s2 < m.a.n.toNat := by
    rcases Md.nx_rg HM.out (s : Int) i with g | g
    · omega
    · omega
   have HN : Hid (m.act c i = some ((s2 : Int),m.then_ c i m.ac.length)) := by rw [Hid]; unfold Md.act; rw [← hmay,← hs2,← HS.out]; rfl
   obtain ⟨bt,ot,b,hT,hbs⟩ := HQ.out.base hsN
   obtain ⟨bt2,ot2,b2,hT2,hbs2⟩ := HQ.out.base hs2N
   obtain ⟨rfl,rfl⟩ : bt = bt2 ∧ ot = ot2 := by rw [hT] at hT2; cases hT2; exact ⟨rfl,rfl⟩
   have HA3 : Hid (∀ V,Mch V m q → MchAt V m q s bt ot b) := fun V hV => hV.atB h32 hT hbs
   have HA5 : Hid (∀ V,Mch V m q → MchAt V m q s2 bt ot b2) := fun V hV => hV.atB h32 hT hbs2
   have HL4 : Hid (s < q.bs.length) := (List.getElem?_eq_some_iff.1 hbs).1
   have HL5 : Hid (s2 < q.bs.length) := (List.getElem?_eq_some_iff.1 hbs2).1
   have HI4 : Hid ((i : Int) < (m.ac.length : Int)) := by rw [Hid]; omega
   have HNX : Hid (m.nx s i = (s2 : Int)) := hs2
   have HPJ : Hid (∀ j : Nat,m.pr c.1 j = decide (0 ≤ m.nx s j)) := fun j => by unfold Md.pr; rw [HS.out]
   have HPJ2 : Hid (∀ j : Nat,m.pr (m.nx c.1 i) j = decide (0 ≤ m.nx s2 j)) := fun j => by unfold Md.pr; rw [HS.out,HNX.out]
   clear hT2 hT hbs hbs2 hs2 hmay hpr hnx0 HU
   have hl4 := HL4.out
   have hi4 := HI4.out
   go_upto_region 3 with fail
   have S1 := Lib.hid S2.out.drew
   refine wp_region_held_drew (S := (fun V => Sep w.heap.size w [eBlk cb 91 (ckC c)] V)) (by kernel_rfl) ?_ (fun hHeld => ?_)
   · exact S1.out.pick [1] (by decide)
   generalize hwz : w2.drew = w1 at *
   clear hwz
   refine tkP 0 rfl hHeld ?_
   try simp only [sx]
   refine tkP 1 rfl hHeld ?_
   try simp only [sx]
   refine tkP 2 rfl hHeld ?_
   try simp only [sx]
   refine tkH 3 rfl (v := ?_) (by kernel_rfl) ?_ hHeld ?_
   rotate_left
   · intro V hSw
     have HV := HQ.out.below (Sep.below (show Sep w.heap.size w _ V from hSw))
     have k1 := (HA3.out V HV).to_
     clear hSw
     first | (go_simp; done) | (go_simp; with_reducible rfl)
   try simp only [sx]
   refine tkP 4 rfl hHeld ?_
   try simp only [sx]
   refine tkH 5 rfl (v := ?_) (by kernel_rfl) ?_ hHeld ?_
   rotate_left
   · intro V hSw
     have k0 : V.cell? ⟨cb,0,none⟩ = some (.int .i64 (s : Int)) := by rw [← HS.out]; exact BlkAt.cell (Sep.get (show Sep w.heap.size w _ V from hSw) 0 rfl) 0
     clear hSw
     first | (go_simp; done) | (go_simp; with_reducible rfl)
   try simp only [sx]
   refine tkP 6 rfl hHeld ?_
   try simp only [sx]
   refine tkH 7 rfl (v := ?_) (by kernel_rfl) ?_ hHeld ?_
   rotate_left
   · intro V hSw
     have HV := HQ.out.below (Sep.below (show Sep w.heap.size w _ V from hSw))
     have k2 := (HA3.out V HV).row
     clear hSw
     first | (go_simp; done) | (go_simp; with_reducible rfl)
   try simp only [sx]
   refine tkP 8 rfl hHeld ?_
   try simp only [sx]
   refine tkP 9 rfl hHeld ?_
   try simp only [sx]
   refine tkH 10 rfl (v := ?_) (by kernel_rfl) ?_ hHeld ?_
   rotate_left
   · intro V hSw
     have HV := HQ.out.below (Sep.below (show Sep w.heap.size w _ V from hSw))
     have k3 := (HA3.out V HV).nx i hi
     rw [HNX.out] at k3
     clear hSw
     first | (go_simp; done) | (go_simp; with_reducible rfl)
   try simp only [sx]
   refine tkP 11 rfl hHeld ?_
   try simp only [sx]
   refine tkP 12 rfl hHeld ?_
   try simp only [sx]
   refine tkP 13 rfl hHeld ?_
   try simp only [sx]
   refine wpAnyH_take (i := 14) (v := _) rfl (by kernel_rfl) (by kernel_rfl) (by kernel_rfl) (fun _ _ _ h => h) (yieldsIf_load_mid (by kernel_rfl) 89 (.tmp 29) rfl q.g 6 rfl (ckT m.dfs) _ (fun V hSw => (HQ.out.below (Sep.below (show Sep w.heap.size w _ V from hSw))).dfRange h32) Tryz.underlying89 rfl (by rw [ckT_info,ckT_len (by rw [hdl.out]; exact h32)])) hHeld ?_
   try simp only [sx]
   refine wpAnyH_take (i := 15) (v := _) rfl (by kernel_rfl) (by kernel_rfl) (by kernel_rfl) (fun _ _ _ h => h) (yieldsIf_build (by kernel_rfl) 91 _ rfl (ckC ((s2 : Int),m.dfs)).toArray (Eq.trans (congrArg _ (by kernel_rfl)) (built_ck2 (t := m.dfs) (s2 : Int) (by rw [hdl.out]; exact h32)))) hHeld ?_
   try simp only [sx]
   refine rdH 16 rfl fun K hK => ?_
   go_simp
   obtain ⟨nb,hnb⟩ : ∃ g,g = w1.heap.size := ⟨_,rfl⟩
   obtain ⟨w2,hwk⟩ : ∃ v,v = w1.alloc (.cells (ckC (0,[])).toArray 91) := ⟨_,rfl⟩
   have S2' := S1.out.alloc' 91 (ckC (0,[])) (o := .cells (ckC (0,[])).toArray 91) rfl hnb
   rw [← hnb]
   rw [← hwk] at S2'
   change K _ (w1.alloc (.cells (ckC (0,[])).toArray 91))
   rw [← hwk]
   clear hwk hnb
   have S2 : Hid (Sep w.heap.size w [eBlk nb 91 (ckC (0,[])),eBlk rb 91 (ckC (0,[])),eBlk cb 91 (ckC c)] w2) := S2'
   clear S2'
   refine hK.out _ _ ?_ (fun hHeld => ?_)
   · exact S2.out.pick [2] (by decide)
   clear hK K
   try simp only [sx]
   refine rdH 17 rfl fun K hK => ?_
   refine step_ckAt ((s2 : Int),m.dfs) (by rw [hdl.out]; exact h32) rfl (.tmp 8) (.tmp 31) rfl S2.out 0 nb (0,[]) (by simp) rfl rfl rfl ?_
   intro w3 S3'
   have S3 : Hid (Sep w.heap.size w [eBlk nb 91 (ckC ((s2 : Int),m.dfs)),eBlk rb 91 (ckC (0,[])),eBlk cb 91 (ckC c)] w3) := S3'
   clear S3'
   refine hK.out _ _ ?_ (fun hHeld => ?_)
   · exact S3.out.pick [2] (by decide)
   clear hK K
   try simp only [sx]
   refine wpAnyH_done (by kernel_rfl) ?_ _
   have SX : Hid (Sep w.heap.size w [eBlk nb 91 (ckC ((s2 : Int),m.then_ c i 0)),eBlk rb 91 (ckC (0,[])),eBlk cb 91 (ckC c)] w3) := by rw [Md.then_zero]; exact S3.out
   clear S3
   have HQ1 := Lib.hid (HQ.out.below SX.out.below)
   have k5 := (HA3.out _ HQ1.out).ac
   go_wp2_with fail
   clear k5 HQ1
   go_loopw [38] (fun i' wr => ∃ k : Nat,i' = .int .i64 (k : Int) ∧ k ≤ m.ac.length ∧ Hid (Sep w.heap.size w [eBlk nb 91 (ckC ((s2 : Int),m.then_ c i k)),eBlk rb 91 (ckC (0,[])),eBlk cb 91 (ckC c)] wr)) (fun i' _ => m.ac.length - (intOf i').toNat)
   case atStart => exact ⟨0,rfl,Nat.zero_le _,SX.out⟩
   case round =>
    clear SX
    obtain ⟨k,rfl,hk,S⟩ := hrel
    by_cases hlt : k < m.ac.length
    · have HQ1 := Lib.hid (HQ.out.below S.out.below)
      have k0 : wr.cell? ⟨cb,0,none⟩ = some (.int .i64 (s : Int)) := by rw [← HS.out]; exact BlkAt.cell (S.out.get 2 rfl) 0
      have j0 : wr.cell? ⟨nb,0,none⟩ = some (.int .i64 (s2 : Int)) := BlkAt.cell (S.out.get 0 rfl) 0
      have kt := (BlkAt.cell (S.out.get 2 rfl) (1 + k)).trans (ckC_get (by omega))
      have jt := (BlkAt.cell (S.out.get 0 rfl) (1 + k)).trans (ckC_get (by show k < (m.then_ c i k).length; rw [Md.then_len]; exact hlt))
      have jf := BlkAt.free (S.out.get 0 rfl) (1 + k)
      have k1 := (HA3.out _ HQ1.out).to_
      have k2 := (HA3.out _ HQ1.out).row
      have k3 := (HA3.out _ HQ1.out).nx k hlt
      have j2 := (HA5.out _ HQ1.out).row
      have j3 := (HA5.out _ HQ1.out).nx k hlt
      have k4 := HL4.out
      have j4 := HL5.out
      have hi2 : (k : Int) < (m.ac.length : Int) := by omega
      have hi3 : (k : Int) < 32 := by omega
      have SN : Hid (¬ (k ≠ i ∧ m.pr c.1 k = true ∧ m.pr (m.nx c.1 i) k = true) → Hid (Sep w.heap.size w [eBlk nb 91 (ckC ((s2 : Int),m.then_ c i (k + 1))),eBlk rb 91 (ckC (0,[])),eBlk cb 91 (ckC c)] wr)) := fun g => by rw [Md.then_next hlt,if_neg g]; exact S.out
      by_cases hki : k = i
      · have hd : ((k : Int) != (i : Int)) = false := by simp [hki]
        have S6 := Lib.hid (SN.out (fun g => g.1 hki)).out
        clear S SN hki
        go_upto_region 7 with fail
        go_quiet (fail)
        go_wp2_with fail
        go_roundw
        case rel => exact ⟨k + 1,by go_num,by omega,S6.out.draws _⟩
        case measure => simp [intOf]; omega
      · have hd : ((k : Int) != (i : Int)) = true := by simp; omega
        by_cases h0 : 0 ≤ m.nx s k
        · have hd1 : decide (0 ≤ m.nx s k) = true := decide_eq_true h0
          by_cases h1 : 0 ≤ m.nx s2 k
          · have hd2 : decide (0 ≤ m.nx s2 k) = true := decide_eq_true h1
            have S5 : ∀ q',Hid (Sep w.heap.size w [eBlk nb 91 (ckC ((s2 : Int),m.then_ c i (k + 1))),eBlk rb 91 (ckC (0,[])),eBlk cb 91 (ckC c)] ((wr.drewN q').setCell ⟨nb,1 + k,none⟩ (.int .i8 (tmr c k)))) := fun q' => by
             have h := (S.out.draws q').set 0 rfl (1 + k) (.int .i8 (tmr c k))
             rw [ckC_set (by show k < (m.then_ c i k).length; rw [Md.then_len]; exact hlt)] at h
             rw [Md.then_next hlt,if_pos ⟨hki,by rw [HPJ.out]; exact decide_eq_true h0,by rw [HPJ2.out]; exact decide_eq_true h1⟩]
             exact h
            have S6 := Lib.hid S5
            clear S5 S SN hki
            go_upto_region 7 with fail
            go_quiet (fail)
            go_wp2_with fail
            go_roundw
            case rel => exact ⟨k + 1,by go_num,by omega,S6.out _⟩
            case measure => simp [intOf]; omega
          · have hd2 : decide (0 ≤ m.nx s2 k) = false := decide_eq_false h1
            have S6 := Lib.hid (SN.out (fun g => h1 (of_decide_eq_true (by rw [← HPJ2.out]; exact g.2.2)))).out
            clear S SN hki
            go_upto_region 7 with fail
            go_quiet (fail)
            go_wp2_with fail
            go_roundw
            case rel => exact ⟨k + 1,by go_num,by omega,S6.out.draws _⟩
            case measure => simp [intOf]; omega
        · have hd1 : decide (0 ≤ m.nx s k) = false := decide_eq_false h0
          have S6 := Lib.hid (SN.out (fun g => h0 (of_decide_eq_true (by rw [← HPJ.out]; exact g.2.1)))).out
          clear S SN hki
          go_upto_region 7 with fail
          go_quiet (fail)
          go_wp2_with fail
          go_roundw
          case rel => exact ⟨k + 1,by go_num,by omega,S6.out.draws _⟩
          case measure => simp [intOf]; omega
    · obtain rfl : k = m.ac.length := by omega
      have hfl : (m.then_ c i m.ac.length).length ≤ 32 := by rw [Md.then_len]; exact h32
      have HFL := Lib.hid hfl
      clear hfl
      go_wp2_with (first | refine wpList_ckLoad ((s2 : Int),m.then_ c i m.ac.length) nb (S.out.get 0 rfl) HFL.out rfl _ rfl rfl ?_ | refine wpList_ckAt ((s2 : Int),m.then_ c i m.ac.length) HFL.out rfl _ _ rfl S.out 1 rb (0,[]) (by simp) rfl rfl rfl ?_)
      intro w3 S3
      have S4 : Hid (Sep w.heap.size w [eBlk nb 91 (ckC ((s2 : Int),m.then_ c i m.ac.length)),eBlk rb 91 (ckC ((s2 : Int),m.then_ c i m.ac.length)),eBlk cb 91 (ckC c)] w3) := S3
      clear S3 S
      go_wp2_with fail
      refine bodyPost_ret (v := ckV (some ((s2 : Int),m.then_ c i m.ac.length))) (res_ck Tryz.results66 rfl rfl rfl (S4.out.get 1 rfl) HFL.out) rfl ?_
      exact ⟨by rw [HN.out],S4.out.below⟩
end Go.Proofs.YtimdepdbcdbikaaGreat
