/-
  The law's own proof of the kept states (chapter 46): the walk.
  The checker's look at a bound.
  The chapter's examples: events and plants.
  The chapter's examples, decided: what the certificates, the bounds and the lassos prove.
  The chapter's examples: known.
  CheckerRefuses: the walk of the law.
-/
import Derived.Test.YtccfcaejlohahaaBas13
import Derived.Test.YtccfcaejlohahaaBas12
import Derived.Test.YtccfcaejlohahaaBas06
import Derived.Test.YtccfcaejlohahaaBas04
import Derived.Test.YtccfcaejlohahaaBas03
import Derived.Deep.RegionHeld3
set_option linter.unusedSimpArgs false
set_option linter.unusedVariables false
namespace Go.Proofs.Ytccfcaejlohahaa
open Go.RowKit
set_option maxRecDepth 100000
theorem ProvS.next {V wx wy : World} {gk gr n : Nat} {kp rp : List Int} (D : ProvS V wx gk gr n kp rp) (hb : Below wx.heap.size wx wy) : ProvS V wy gk gr n kp rp :=
 ⟨D.bk.below hb D.bk.lt,D.br.below hb D.br.lt,D.ne,D.lk,D.lr,D.below.trans (hb.mono D.below.size)⟩
def rmOk0 (n : Nat) (kept : List Int) (rms : List Rm) (j : Nat) : Prop := ∀ r,rms[j]? = some r → 0 ≤ r.st ∧ r.st < n ∧ r.st ∉ kept ∧ (∀ r',0 < j → rms[j-1]? = some r' → r'.st < r.st)

set_option maxHeartbeats 4000000 in
theorem proves46_c (al mr : List Int) (n : Nat) (ed : List Ed) (forb unc : List Int) (p : PrP) (kept dist : List Int) (rms : List Rm) (cp : CeP) (w : World) (hp : PrAt w ⟨al,n,mr,ed⟩ forb unc p) (hc : CeAt w kept dist rms cp) (hq : PrRight ⟨al,n,mr,ed⟩ forb unc) (tk : Int) (hT : ∀ y,y ∈ ed → y.ev ≠ tk) :
 Calls Try.prog 27 #[.agg (tpCells ⟨al,n,mr,ed⟩ forb unc p tk).toArray,.agg (ceList kept dist rms cp).toArray] w (Tells (KeptOk ⟨al,n,mr,ed⟩ forb unc kept dist rms) w) := by
 have HT := Lib.hid hT
 clear hT
 have W0 : Hid (Fro w.heap.size w ((w.alloc (.cells (tpCells ⟨al,n,mr,ed⟩ forb unc p tk).toArray 41)).alloc (.cells (ceList kept dist rms cp).toArray 47))) := ((Fro.here w).alloc _).alloc _
 have C1 : Hid (HasAt w.heap.size (tpCells ⟨al,n,mr,ed⟩ forb unc p tk) ((w.alloc (.cells (tpCells ⟨al,n,mr,ed⟩ forb unc p tk).toArray 41)).alloc (.cells (ceList kept dist rms cp).toArray 47))) := (HasAt.new w _ _ rfl).alloc _
 have C2 : Hid (HasAt (w.heap.size + 1) (ceList kept dist rms cp) ((w.alloc (.cells (tpCells ⟨al,n,mr,ed⟩ forb unc p tk).toArray 41)).alloc (.cells (ceList kept dist rms cp).toArray 47))) := HasAt.new _ _ _ (by simp)
 have HP := Lib.hid hp
 have HC := Lib.hid hc
 have HR := Lib.hid hq
 have lk := hc.lk
 have ld := hc.ld
 have lr := hc.lr
 have ln : (n : Int) ≤ 4096 := hq.ha.n1
 clear hp hc hq
 obtain ⟨⟨A1,c1,A2,c2,A3,c3⟩,AF,cF,AU,cU⟩ := p
 obtain ⟨AK,cK,AD,cD,AR,cR⟩ := cp
 have hmk := make_run (P := Try.prog) 36 3 (.int .i64 0) 8 Try.underlying36 intInfo rfl n (by omega) (by omega)
 dsimp only [tpCells,ceList] at *
 go_enter Try.func27,Try.ntmps27
 go_upto_region 1 with fail
 generalize hW : ((w.alloc (.cells #[.slice A1 al.length c1,.int .i64 n,.slice A2 mr.length c2,.slice A3 ed.length c3,.slice AF forb.length cF,.slice AU unc.length cU,.slice none 0 0,.int .i64 tk] 41)).alloc (.cells #[.slice AK kept.length cK,.slice AD dist.length cD,.slice AR rms.length cR] 47)) = W at *
 clear hW
 have q1 := C1.out.c 1 _ rfl
 have r0 := C2.out.c 0 _ rfl
 have r1 := C2.out.c 1 _ rfl
 have r2 := C2.out.c 2 _ rfl
 have hz0 := C1.out.z
 have hz1 := C2.out.z
 by_cases hlen : kept.length + rms.length = n
 rotate_left
 · have hlen' : ((kept.length : Int) + (rms.length : Int) != (n : Int)) = true := by simp; omega
   go_wp2
   go_ret
   exact Tells.no (fun h => hlen h.dv.len) W0.out.b
 have hlen' : ((kept.length : Int) + (rms.length : Int) != (n : Int)) = false := by simp; omega
 by_cases hld : dist.length = kept.length
 rotate_left
 · have hld' : ((dist.length : Int) != (kept.length : Int)) = true := by simp; omega
   go_wp2
   go_ret
   exact Tells.no (fun h => hld h.ld) W0.out.b
 have hld' : ((dist.length : Int) != (kept.length : Int)) = false := by simp; omega
 have HLEN := Lib.hid hlen
 have HLD := Lib.hid hld
 clear hlen hld
 go_upto_region 4 with fail
 go_cut [6,7] (fun s6 s7 wx => ∃ gk gr,s6 = .slice (some ⟨gk,0,none⟩) n n ∧ s7 = .slice (some ⟨gr,0,none⟩) n n ∧ Hid (ProvS W wx gk gr n (List.replicate n 0) (List.replicate n 0)))
 case first =>
  go_region
  all_goals (go_wp2_with fail; go_meet)
  all_goals first
  | exact ⟨W.heap.size,W.heap.size + 1,rfl,rfl,by unfold BlkAt; rw [repI]; exact (heap2 W _ _).1,by unfold BlkAt; rw [repI]; exact (heap2 W _ _).2,by omega,by omega,by omega,((Below.new W _).alloc (by simp) _).drew⟩
  | exact ⟨W.heap.size + 1,W.heap.size,rfl,rfl,by unfold BlkAt; rw [repI]; exact (heap2 W _ _).2,by unfold BlkAt; rw [repI]; exact (heap2 W _ _).1,by omega,by omega,by omega,((Below.new W _).alloc (by simp) _).drew⟩
 case rest =>
  obtain ⟨gk,gr,rfl,rfl,D⟩ := hcut
  clear hmk q1 r0 r1 r2
  go_wp2_with fail
  go_loopw [8] (fun i wr => ∃ (k : Nat) (kp rp : List Int),k ≤ n ∧ i = .int .i64 k ∧ Hid (ProvS W wr gk gr n kp rp) ∧ kp.length = n ∧ rp.length = n ∧ Hid (∀ j,j < k → kp[j]? = some (-1) ∧ rp[j]? = some (-1))) (fun i _ => n - (intOf i).toNat)
  case atStart => exact ⟨0,_,_,by omega,rfl,D,by simp,by simp,fun j h => absurd h (by omega)⟩
  case round =>
   obtain ⟨k,kp,rp,hk,rfl,D2,l1,l2,M⟩ := hrel
   clear D
   by_cases hlt : k < n
   · obtain ⟨y1,hkp⟩ : ∃ y,kp[k]? = some y := ⟨_,List.getElem?_eq_getElem (by omega)⟩
     obtain ⟨y2,hrp⟩ : ∃ y,rp[k]? = some y := ⟨_,List.getElem?_eq_getElem (by omega)⟩
     have k0 := D2.out.kcell hkp
     have p0 := D2.out.rcell hrp
     have kf := D2.out.bk.free k
     have pf := D2.out.br.free k
     have nkr : ¬ gk = gr := D2.out.ne
     clear hkp hrp
     go_wp2
     go_roundw
     case rel => exact ⟨k + 1,_,_,by omega,by go_num,(D2.out.setK k (-1)).setR k (-1),by simp [l1],by simp [l2],fun j hj => by
      by_cases e : j = k
      · subst e; exact ⟨by rw [List.getElem?_set_self (by omega)],by rw [List.getElem?_set_self (by omega)]⟩
      · rw [List.getElem?_set_ne (by omega),List.getElem?_set_ne (by omega)]; exact M.out j (by omega)⟩
     case measure => simp [intOf]; omega
   obtain rfl : k = n := by omega
   have PK : Hid (PlUp k kept 0 kp) := ⟨l1,fun i hi => .inr ⟨(M.out i hi).1,fun j h => absurd h (by omega)⟩⟩
   have PR : Hid (PlUp k (rms.map (·.st)) 0 rp) := ⟨l2,fun i hi => .inr ⟨(M.out i hi).2,fun j h => absurd h (by omega)⟩⟩
   clear M l1 l2
   go_wp2_with fail
   go_loopw [9] (fun i wx => ∃ (m : Nat) (kp : List Int),m ≤ kept.length ∧ i = .int .i64 m ∧ Hid (ProvS W wx gk gr k kp rp) ∧ Hid (PlUp k kept m kp) ∧ Hid (setOk kept k m)) (fun i _ => kept.length - (intOf i).toNat)
   case atStart => exact ⟨0,_,by omega,rfl,D2,PK,fun i x h => absurd h (by omega)⟩
   case round =>
    obtain ⟨m,kp2,hm,rfl,D3,M,S⟩ := hrel
    clear D2 PK
    have E2 := Lib.hid (C2.out.below D3.out.below)
    have WF := Lib.hid (W0.out.next D3.out.below)
    have r0 := E2.out.c 0 _ rfl
    have hz2 := E2.out.z
    by_cases hlt : m < kept.length
    · obtain ⟨b,off,x,hAK,hb,hx,hcx⟩ := IntsAt.at ((HC.out.below WF.out.b).hk) hlt
      dsimp only at hAK
      subst hAK
      have HX := Lib.hid hx
      clear hx
      by_cases hx0 : x < 0
      · have h1 : decide (x < 0) = true := by simpa using hx0
        go_wp2
        go_ret
        exact Tells.no (fun h => setOk.not1 HX.out hlt (by omega) h.dv.hk) WF.out.b
      have h1 : decide (x < 0) = false := by simpa using hx0
      by_cases hxn : (k : Int) ≤ x
      · have h2 : decide ((k : Int) ≤ x) = true := by simpa using hxn
        go_wp2
        go_ret
        exact Tells.no (fun h => setOk.not1 HX.out hlt (by simp only [Int.toNat_natCast]; omega) h.dv.hk) WF.out.b
      have h2 : decide ((k : Int) ≤ x) = false := by simpa using hxn
      obtain ⟨xi,rfl⟩ := Int.eq_ofNat_of_zero_le (show 0 ≤ x by omega)
      obtain ⟨y1,hkp⟩ : ∃ y,kp2[xi]? = some y := ⟨_,List.getElem?_eq_getElem (by have := M.out.ln; omega)⟩
      have k0 := D3.out.kcell hkp
      have kf := D3.out.bk.free xi
      clear hkp
      by_cases hm0 : m = 0
      · subst hm0
        rw [Nat.add_zero] at hcx
        go_wp2
        go_roundw
        case rel => exact ⟨1,_,by omega,by go_num,D3.out.setK xi 0,M.out.step HX.out (by omega),S.out.step HX.out (by omega) (by omega) (fun y h => absurd h (by omega))⟩
        case measure => simp [intOf]; omega
      · obtain ⟨y,hy,hcy⟩ := IntsAt.more ((HC.out.below WF.out.b).hk) (k := m - 1) (by omega)
        have HY := Lib.hid hy
        clear hy
        have h3 : decide ((0 : Int) < (m : Int)) = true := by simp; omega
        by_cases hxy : (xi : Int) ≤ y
        · have h4 : decide ((xi : Int) ≤ y) = true := by simpa using hxy
          go_wp2
          go_ret
          exact Tells.no (fun h => setOk.not2 HX.out hlt (by omega) HY.out hxy h.dv.hk) WF.out.b
        · have h4 : decide ((xi : Int) ≤ y) = false := by simpa using hxy
          go_wp2
          go_roundw
          case rel => exact ⟨m + 1,_,by omega,by go_num,D3.out.setK xi m,M.out.step HX.out (by omega),S.out.step HX.out (by omega) (by omega) (fun z h hz => by rw [HY.out] at hz; cases hz; omega)⟩
          case measure => simp [intOf]; omega
    · obtain rfl : m = kept.length := by omega
      have PL := Lib.hid (M.out.fin S.out.incr)
      clear M
      go_wp2_with fail
      go_loopw [11] (fun i wx => ∃ (m : Nat) (rp : List Int),m ≤ rms.length ∧ i = .int .i64 m ∧ Hid (ProvS W wx gk gr k kp2 rp) ∧ Hid (PlUp k (rms.map (·.st)) m rp) ∧ Hid (∀ j,j < m → rmOk0 k kept rms j)) (fun i _ => rms.length - (intOf i).toNat)
      case atStart => exact ⟨0,_,by omega,rfl,D3,PR,fun i h => absurd h (by omega)⟩
      case round =>
       obtain ⟨m,rp2,hm,rfl,D4,M,Q⟩ := hrel
       clear D3 PR E2 WF r0 hz2
       have E2 := Lib.hid (C2.out.below D4.out.below)
       have WF := Lib.hid (W0.out.next D4.out.below)
       have r2 := E2.out.c 2 _ rfl
       have hz2 := E2.out.z
       by_cases hlt : m < rms.length
       · obtain ⟨r,hr⟩ : ∃ r,rms[m]? = some r := ⟨_,List.getElem?_eq_getElem hlt⟩
         obtain ⟨b,off,hAR,hb,hc0,_,_,_⟩ := RmsAt.get ((HC.out.below WF.out.b).hr) hr
         dsimp only at hAR
         subst hAR
         obtain ⟨x,rank,reason,ev⟩ := r
         dsimp only at hc0
         have HX := Lib.hid hr
         clear hr
         have bad : Hid (¬ rmOk0 k kept rms m → ¬ KeptOk ⟨al,k,mr,ed⟩ forb unc kept dist rms) := fun h hk => h (fun r hr => by
          have := hk.dv.hr m hlt r hr
          simp only [Int.toNat_natCast] at this
          exact ⟨this.1,this.2.1,this.2.2.1,this.2.2.2.2⟩)
         by_cases hx0 : x < 0
         · have h1 : decide (x < 0) = true := by simpa using hx0
           go_wp2
           go_ret
           exact Tells.no (bad.out fun h => by have := (h _ HX.out).1; simp only at this; omega) WF.out.b
         have h1 : decide (x < 0) = false := by simpa using hx0
         by_cases hxn : (k : Int) ≤ x
         · have h2 : decide ((k : Int) ≤ x) = true := by simpa using hxn
           go_wp2
           go_ret
           exact Tells.no (bad.out fun h => by have := (h _ HX.out).2.1; simp only at this; omega) WF.out.b
         have h2 : decide ((k : Int) ≤ x) = false := by simpa using hxn
         obtain ⟨xi,rfl⟩ := Int.eq_ofNat_of_zero_le (show 0 ≤ x by omega)
         obtain ⟨v,hkp,hv⟩ : ∃ v,kp2[xi]? = some v ∧ (v = -1 ∧ (xi : Int) ∉ kept ∨ 0 ≤ v ∧ (xi : Int) ∈ kept) := by
          rcases PL.out.at_ xi (by omega) with ⟨j,a,b⟩ | ⟨a,b⟩
          · exact ⟨_,a,.inr ⟨by omega,List.mem_of_getElem? b⟩⟩
          · exact ⟨_,a,.inl ⟨rfl,b⟩⟩
         have k0 := D4.out.kcell hkp
         clear hkp
         obtain ⟨y1,hrp⟩ : ∃ y,rp2[xi]? = some y := ⟨_,List.getElem?_eq_getElem (by have := M.out.ln; omega)⟩
         have p0 := D4.out.rcell hrp
         have pf := D4.out.br.free xi
         clear hrp
         have MST : Hid ((rms.map (·.st))[m]? = some (xi : Int)) := st_get.2 ⟨_,HX.out,rfl⟩
         have stepQ : Hid (rmOk0 k kept rms m → ∀ j,j < m + 1 → rmOk0 k kept rms j) := fun h j hj => by
          by_cases e : j = m
          · subst e; exact h
          · exact Q.out j (by omega)
         by_cases hm0 : m = 0
         · subst hm0
           rw [Nat.zero_mul,Nat.add_zero] at hc0
           rcases hv with ⟨rfl,hv⟩ | ⟨h0,hv⟩
           · have HV := Lib.hid hv
             clear hv
             go_wp2
             go_roundw
             case rel => exact ⟨1,_,by omega,by go_num,D4.out.setR xi 0,M.out.step MST.out (by omega),stepQ.out (fun r hr => by rw [HX.out] at hr; cases hr; exact ⟨by simp only; omega,by simp only; omega,HV.out,fun r' h => absurd h (by omega)⟩)⟩
             case measure => simp [intOf]; omega
           · have HV := Lib.hid hv
             clear hv
             have h5 : decide (0 ≤ v) = true := by simpa using h0
             go_wp2
             go_ret
             exact Tells.no (bad.out fun h => (h _ HX.out).2.2.1 HV.out) WF.out.b
         · obtain ⟨r',hr'⟩ : ∃ r',rms[m - 1]? = some r' := ⟨_,List.getElem?_eq_getElem (by omega)⟩
           obtain ⟨b',off',hAR',_,hc1,_,_,_⟩ := RmsAt.get ((HC.out.below WF.out.b).hr) hr'
           cases hAR'
           obtain ⟨y,rank',reason',ev'⟩ := r'
           dsimp only at hc1
           have HY := Lib.hid hr'
           clear hr'
           have h3 : decide ((0 : Int) < (m : Int)) = true := by simp; omega
           by_cases hxy : (xi : Int) ≤ y
           · have h4 : decide ((xi : Int) ≤ y) = true := by simpa using hxy
             go_wp2
             go_ret
             exact Tells.no (bad.out fun h => by have := (h _ HX.out).2.2.2 _ (by omega) HY.out; simp only at this; omega) WF.out.b
           have h4 : decide ((xi : Int) ≤ y) = false := by simpa using hxy
           rcases hv with ⟨rfl,hv⟩ | ⟨h0,hv⟩
           · have HV := Lib.hid hv
             clear hv
             go_wp2
             go_roundw
             case rel => exact ⟨m + 1,_,by omega,by go_num,D4.out.setR xi m,M.out.step MST.out (by omega),stepQ.out (fun r hr => by rw [HX.out] at hr; cases hr; exact ⟨by simp only; omega,by simp only; omega,HV.out,fun r' h hh => by rw [HY.out] at hh; cases hh; simp only; omega⟩)⟩
             case measure => simp [intOf]; omega
           · have HV := Lib.hid hv
             clear hv
             have h5 : decide (0 ≤ v) = true := by simpa using h0
             go_wp2
             go_ret
             exact Tells.no (bad.out fun h => (h _ HX.out).2.2.1 HV.out) WF.out.b
       · obtain rfl : m = rms.length := by omega
         go_wp2_with fail
         go_loopw [13] (fun i wx => ∃ m : Nat,m ≤ kept.length ∧ i = .int .i64 m ∧ Hid (ProvS W wx gk gr k kp2 rp2) ∧ Hid (∀ (j : Nat) (i d : Int),j < m → kept[j]? = some i → dist[j]? = some d → keepsS forb unc mr kept dist (outOf ed i.toNat) i d)) (fun i _ => kept.length - (intOf i).toNat)
         case atStart => exact ⟨0,by omega,rfl,D4,fun j i d h => absurd h (by omega)⟩
         case round =>
          obtain ⟨m,hm,rfl,D5,KS⟩ := hrel
          clear D4
          have E1 := Lib.hid (C1.out.below D5.out.below)
          have E2 := Lib.hid (C2.out.below D5.out.below)
          have WF := Lib.hid (W0.out.next D5.out.below)
          have q0 := E1.out.c 0 _ rfl
          have q1 := E1.out.c 1 _ rfl
          have q2 := E1.out.c 2 _ rfl
          have q3 := E1.out.c 3 _ rfl
          have q4 := E1.out.c 4 _ rfl
          have q5 := E1.out.c 5 _ rfl
          have q6 := E1.out.c 6 _ rfl
          have q7 := E1.out.c 7 _ rfl
          have r0 := E2.out.c 0 _ rfl
          have r1 := E2.out.c 1 _ rfl
          have r2 := E2.out.c 2 _ rfl
          have hz1 := E1.out.z
          have hz2 := E2.out.z
          by_cases hlt : m < kept.length
          · obtain ⟨x,hx⟩ : ∃ x,kept[m]? = some x := ⟨_,List.getElem?_eq_getElem hlt⟩
            obtain ⟨d,hd⟩ : ∃ d,dist[m]? = some d := ⟨_,List.getElem?_eq_getElem (by have := HLD.out; omega)⟩
            obtain ⟨x0,x1,_⟩ := S.out m x hlt hx
            obtain ⟨xi,rfl⟩ := Int.eq_ofNat_of_zero_le x0
            have KC := keeps46_c ⟨al,k,mr,ed⟩ forb unc ⟨⟨A1,c1,A2,c2,A3,c3⟩,AF,cF,AU,cU⟩ kept dist rms ⟨AK,cK,AD,cD,AR,cR⟩ (some ⟨gk,0,none⟩) k kp2 m xi d wr (HP.out.below WF.out.b) (HC.out.below WF.out.b) HR.out.ha (SlAt.of_blk (enc := Value.int .i64) (T := 3) D5.out.bk) PL.out.ok HLD.out hx hd tk HT.out
            rw [PL.out.ln,keeps46_iff PL.out HLD.out (fun y hy => by
             obtain ⟨t,ht,rfl⟩ := List.mem_iff_getElem.1 hy
             have := HR.out.ha.ed t ht _ (List.getElem?_eq_getElem ht)
             exact ⟨this.2.2.1,this.2.2.2.1⟩)] at KC
            dsimp only [tpCells,ceList] at KC
            have HX := Lib.hid hx
            have HD := Lib.hid hd
            have HKC := Lib.hid KC
            clear hx hd KC
            go_wp2_with fail
            refine HKC.out.mono ?_
            intro e w3 hs
            rcases hs.no1 with ⟨rfl,T,B3⟩ | ⟨rfl,T,B3⟩
            · clear hs
              have B4 := Lib.hid (WF.out.b.trans (B3.mono WF.out.b.size))
              clear B3
              go_wp2
              go_ret
              exact Tells.no (fun h => T (by have := h.ks m xi d HX.out HD.out; simpa only [Int.toNat_natCast] using this)) B4.out
            · clear hs
              have D6 := Lib.hid (D5.out.next B3)
              clear B3
              go_wp2
              go_roundw
              case rel => exact ⟨m + 1,by omega,by go_num,D6,fun j i d' hj h1 h2 => by
               by_cases e : j = m
               · subst e; rw [HX.out] at h1; rw [HD.out] at h2; cases h1; cases h2; rw [Int.toNat_natCast]; exact T
               · exact KS.out j i d' (by omega) h1 h2⟩
              case measure => simp [intOf]; omega
          · obtain rfl : m = kept.length := by omega
            have KSF : Hid (∀ (j : Nat) (i d : Int),kept[j]? = some i → dist[j]? = some d → keepsS forb unc mr kept dist (outOf ed i.toNat) i d) := fun j i d h1 h2 => KS.out j i d (List.getElem?_eq_some_iff.1 h1).1 h1 h2
            have SR : setOk (rms.map (·.st)) k (rms.map (·.st)).length := fun i x hi hx => by
             obtain ⟨q,hq,rfl⟩ := st_get.1 hx
             have := Q.out i (by rw [List.length_map] at hi; exact hi) q hq
             exact ⟨this.1,this.2.1,fun y h0 hy => by obtain ⟨q',hq',rfl⟩ := st_get.1 hy; exact this.2.2.2 q' h0 hq'⟩
            have PL2 := Lib.hid (PlUp.fin (l := rms.map (·.st)) (by rw [List.length_map]; exact M.out) SR.incr)
            clear KS SR M q0 q1 q2 q3 q4 q5 q6 q7 r1
            go_wp2_with fail
            go_loopw [14] (fun i wx => ∃ m : Nat,m ≤ rms.length ∧ i = .int .i64 m ∧ Hid (ProvS W wx gk gr k kp2 rp2) ∧ Hid (∀ (j : Nat) (r : Rm),j < m → rms[j]? = some r → 1 ≤ r.rank ∧ removesP forb unc mr rms (outOf ed r.st.toNat) r)) (fun i _ => rms.length - (intOf i).toNat)
            case atStart => exact ⟨0,by omega,rfl,D5,fun j r h => absurd h (by omega)⟩
            case round =>
             obtain ⟨m,hm,rfl,D7,RS⟩ := hrel
             clear D5 E1 E2 WF hz1 hz2 r2 r0
             have E1 := Lib.hid (C1.out.below D7.out.below)
             have E2 := Lib.hid (C2.out.below D7.out.below)
             have WF := Lib.hid (W0.out.next D7.out.below)
             have q0 := E1.out.c 0 _ rfl
             have q1 := E1.out.c 1 _ rfl
             have q2 := E1.out.c 2 _ rfl
             have q3 := E1.out.c 3 _ rfl
             have q4 := E1.out.c 4 _ rfl
             have q5 := E1.out.c 5 _ rfl
             have q6 := E1.out.c 6 _ rfl
             have q7 := E1.out.c 7 _ rfl
             have r0 := E2.out.c 0 _ rfl
             have r1 := E2.out.c 1 _ rfl
             have r2 := E2.out.c 2 _ rfl
             have hz1 := E1.out.z
             have hz2 := E2.out.z
             by_cases hlt : m < rms.length
             · obtain ⟨r,hr⟩ : ∃ r,rms[m]? = some r := ⟨_,List.getElem?_eq_getElem hlt⟩
               have hst := (Q.out m hlt r hr).1
               obtain ⟨xi,hxi⟩ := Int.eq_ofNat_of_zero_le hst
               have KC := removes46_c ⟨al,k,mr,ed⟩ forb unc ⟨⟨A1,c1,A2,c2,A3,c3⟩,AF,cF,AU,cU⟩ kept dist rms ⟨AK,cK,AD,cD,AR,cR⟩ (some ⟨gr,0,none⟩) k rp2 m r wr (HP.out.below WF.out.b) (HC.out.below WF.out.b) HR.out.ha (SlAt.of_blk (enc := Value.int .i64) (T := 3) D7.out.br) (by have := PL2.out.ok; rw [List.length_map] at this; exact this) hr tk HT.out
               rw [PL2.out.ln,rem46_iff PL2.out (fun y hy => by
                obtain ⟨t,ht,rfl⟩ := List.mem_iff_getElem.1 hy
                have := HR.out.ha.ed t ht _ (List.getElem?_eq_getElem ht)
                exact ⟨this.2.2.1,this.2.2.2.1⟩) hxi,show xi = r.st.toNat by omega] at KC
               dsimp only [tpCells,ceList] at KC
               have HX := Lib.hid hr
               have HKC := Lib.hid KC
               clear hr hxi hst KC
               go_wp2_with fail
               refine HKC.out.mono ?_
               intro e w3 hs
               rcases hs.no1 with ⟨rfl,T,B3⟩ | ⟨rfl,T,B3⟩
               · clear hs
                 have B4 := Lib.hid (WF.out.b.trans (B3.mono WF.out.b.size))
                 clear B3
                 go_wp2
                 go_ret
                 exact Tells.no (fun h => T ⟨(h.dv.hr m hlt r HX.out).2.2.2.1,h.rs r (List.mem_of_getElem? HX.out)⟩) B4.out
               · clear hs
                 have D6 := Lib.hid (D7.out.next B3)
                 clear B3
                 go_wp2
                 go_roundw
                 case rel => exact ⟨m + 1,by omega,by go_num,D6,fun j r' hj h1 => by
                  by_cases e : j = m
                  · subst e; rw [HX.out] at h1; cases h1; exact T
                  · exact RS.out j r' (by omega) h1⟩
                 case measure => simp [intOf]; omega
             · obtain rfl : m = rms.length := by omega
               go_wp2
               go_ret
               exact Tells.yes ⟨HR.out,HLD.out,⟨S.out,HLEN.out,fun j hj r hr => ⟨(Q.out j hj r hr).1,(Q.out j hj r hr).2.1,(Q.out j hj r hr).2.2.1,(RS.out j r hj hr).1,(Q.out j hj r hr).2.2.2⟩⟩,KSF.out,fun r hr => by
                obtain ⟨j,hj,rfl⟩ := List.mem_iff_getElem.1 hr
                exact (RS.out j _ hj (List.getElem?_eq_getElem hj)).2⟩ WF.out.b
def pkey (p : Pa) : Int × Int × Int := (p.fst,p.snd,if p.rk = -1 then 0 else 1)
def ranksOf (l : List Pa) (y : Int × Int × Int) : Option Int := (l.find? fun p => decide (pkey p = y)).map (·.rk)
theorem ranksOf_snoc {l : List Pa} {p : Pa} (h : (ranksOf l (pkey p)).isSome = false) (y : Int × Int × Int) : ranksOf (l ++ [p]) y = if y = pkey p then some p.rk else ranksOf l y := by
 by_cases hy : y = pkey p
 · subst hy
   have : l.find? (fun q => decide (pkey q = pkey p)) = none := by
    simp only [ranksOf,Option.isSome_map,Option.isSome_eq_false_iff,Option.isNone_iff_eq_none] at h
    exact h
   simp [ranksOf,List.find?_append,this]
 · have hy' : ¬ pkey p = y := fun h => hy h.symm
   simp [ranksOf,List.find?_append,hy',hy]
structure PaIn (n : Int) (p : Pa) : Prop where
 f0 : 0 ≤ p.fst
 f1 : p.fst < n
 s0 : 0 ≤ p.snd
 s1 : p.snd < n
 r0 : -1 ≤ p.rk
structure BoundOk (evs : List Ev) (au : Au) (class_ bound : Int) (l : List Pa) : Prop where
 pl : PlantOk evs.length au class_
 n0 : au.n ≠ 0
 b0 : 0 ≤ bound
 in_ : ∀ k p,l[k]? = some p → PaIn au.n p ∧ (ranksOf (l.take k) (pkey p)).isSome = false
 st : (ranksOf l (0,0,0)).isSome = true
 pr : ∀ p,p ∈ l → PairOk (ranksOf l) bound class_ evs au.ed p

theorem key_t (f s : Int) (b : Bool) (t : Int) (ht : t = if b then 1 else 0) (w : World) :
 Calls Try.prog 42 #[.int .i64 f,.int .i64 s,.bool b] w fun e w' => e = .returned (.agg #[.int .i64 f,.int .i64 s,.int .i64 t]) ∧ Below w.heap.size w w' :=
 (key_c f s b w).mono fun e w' ⟨h1,h2⟩ => ⟨by rw [h1,ht],h2⟩

set_option maxRecDepth 100000 in
set_option maxHeartbeats 4000000 in
theorem Bound_c (AE : Option Addr) (cE : Nat) (evs : List Ev) (au : Au) (p : AuP) (class_ bound : Int) (AL : Option Addr) (cL : Nat) (l : List Pa) (w : World)
 (hE : EvsAt w AE evs) (hp : Au.At w au p) (hL : PasAt w AL l) (lev : evs.length ≤ 140737488355328) (lL : l.length ≤ 140737488355328) (led : au.ed.length ≤ 1000000) :
 Calls Try.prog 15 #[.slice AE evs.length cE,au.val p,.int .i64 class_,.int .i64 bound,.slice AL l.length cL] w (Tells (BoundOk evs au class_ bound l) w) := by
 have B0 := Lib.hid (Below.new w (.cells #[.slice p.A1 au.al.length p.c1,.int .i64 au.n,.slice p.A2 au.mr.length p.c2,.slice p.A3 au.ed.length p.c3] 39))
 have HA := Lib.hid (plant_c evs.length AE cE au p class_ _ (hp.below B0.out) lev)
 have HE := Lib.hid hE
 have HP := Lib.hid hp
 have HL := Lib.hid hL
 clear hE hp hL
 obtain ⟨al,m,mr,ed⟩ := au
 obtain ⟨A1,c1,A2,c2,A3,c3⟩ := p
 try dsimp only [Au.val] at *
 have hmm := @run_makeMap Try.prog
 go_enter Try.func15,Try.ntmps15
 go_wp2_with fail
 refine HA.out.mono ?_
 intro e w1 hs
 rcases hs.no1 with ⟨rfl,S,hb⟩ | ⟨rfl,S,hb⟩
 · go_wp2
   go_ret
   exact Tells.no (fun h => S.out h.pl) (B0.out.trans (hb.mono B0.out.size))
 clear HA hs
 have q0 : w1.cell? ⟨w.heap.size,0,none⟩ = some (.slice A1 al.length c1) := old_cell hb (new_cell w _ [_,_,_,_] _ 0 rfl) (by simp)
 have q1 : w1.cell? ⟨w.heap.size,1,none⟩ = some (.int .i64 m) := old_cell hb (new_cell w _ [_,_,_,_] _ 1 rfl) (by simp)
 have q2 : w1.cell? ⟨w.heap.size,2,none⟩ = some (.slice A2 mr.length c2) := old_cell hb (new_cell w _ [_,_,_,_] _ 2 rfl) (by simp)
 have q3 : w1.cell? ⟨w.heap.size,3,none⟩ = some (.slice A3 ed.length c3) := old_cell hb (new_cell w _ [_,_,_,_] _ 3 rfl) (by simp)
 have BW1 : Hid (Below w.heap.size w w1) := B0.out.trans (hb.mono B0.out.size)
 have z1 : w.heap.size < w1.heap.size := Nat.lt_of_lt_of_le (by simp) hb.size
 clear hb B0
 obtain ⟨n,rfl⟩ := Int.eq_ofNat_of_zero_le S.out.ha.n0
 have hn : n ≤ 4096 := by have := S.out.ha.n1; simp only at this; omega
 by_cases hn0 : n = 0
 · subst hn0
   go_wp2
   go_ret
   exact Tells.no (fun h => h.n0 rfl) BW1.out
 have hn0' : ((n : Int) == 0) = false := by simp; omega
 by_cases hb0 : bound < 0
 · go_wp2
   go_ret
   exact Tells.no (fun h => by have := h.b0; omega) BW1.out
 have HN0 := Lib.hid hn0
 have HB0 := Lib.hid hb0
 clear hn0
 go_wp2_with fail
 refine (outgoing_c n al mr ed ⟨A1,c1,A2,c2,A3,c3⟩ _ hn (HP.out.ed.below EdE.stays BW1.out) led (fun x hx => ?_)).mono ?_
 · obtain ⟨j,hj,rfl⟩ := List.mem_iff_getElem.1 hx
   have := S.out.ha.ed j hj _ (List.getElem?_eq_getElem hj)
   exact ⟨this.1,this.2.1⟩
 rintro e w3 ⟨bo,rfl,hbo,hrows,hb3⟩
 have BW3 : Hid (Below w.heap.size w w3) := BW1.out.trans (hb3.mono BW1.out.size)
 have ROWS := Lib.hid hrows
 have q1' := old_cell hb3 q1 z1
 have z3 : w.heap.size < w3.heap.size := Nat.lt_of_lt_of_le z1 hb3.size
 clear hrows hb3 q0 q1 q2 q3
 go_wp2
 go_loopw [45] (fun i wr => ∃ k : Nat,k ≤ l.length ∧ i = .int .i64 k ∧ Hid (Below w3.heap.size w3 wr) ∧ Hid (MapAt key3 wr w3.heap.size (ranksOf (l.take k))) ∧ Hid (BlkAt wr (w3.heap.size + 1) 110 [.slice AE evs.length cE,.int .i64 class_,.int .i64 bound,.slice (some ⟨bo,0,none⟩) n n,.map (some w3.heap.size)]) ∧ Hid (∀ (j : Nat) (p : Pa),j < k → l[j]? = some p → PaIn n p ∧ (ranksOf (l.take j) (pkey p)).isSome = false)) (fun i _ => l.length - (intOf i).toNat)
 case atStart =>
  refine ⟨0,by omega,rfl,(Below.new _ _).alloc (by simp) _,Lib.hid (((MapAt.made key3 w3).alloc _).congr (fun x => rfl)),Lib.hid ?_,fun j p h => absurd h (by omega)⟩
  have := BlkAt.new (w3.alloc (.map #[] 0)) 110 [.slice AE evs.length cE,.int .i64 class_,.int .i64 bound,.slice (some ⟨bo,0,none⟩) n n,.map (some w3.heap.size)]
  rw [World.size_alloc] at this
  exact this
 case round =>
  obtain ⟨k,hk,rfl,B3,HM,HT,HIN⟩ := hrel
  have BWR := Lib.hid (BW3.out.trans (B3.out.mono (by omega)))
  have zbm := HM.out.lt
  have zbt := HT.out.lt
  have zh : w.heap.size < wr.heap.size := by omega
  by_cases hlt : k < l.length
  · obtain ⟨x,hx⟩ : ∃ x,l[k]? = some x := ⟨_,List.getElem?_eq_getElem hlt⟩
    obtain ⟨b,off,hAL,hb,e0,e1,e2⟩ := PasAt.get (HL.out.below PaE.stays BWR.out) hx
    subst hAL
    obtain ⟨fst,snd,rk⟩ := x
    dsimp only at e0 e1 e2
    have HX := Lib.hid hx
    clear hx
    have r1 := old_cell B3.out q1' z3
    by_cases hin : PaIn n ⟨fst,snd,rk⟩
    rotate_left
    · have NIN := Lib.hid (show ¬ (0 ≤ fst ∧ fst < n ∧ 0 ≤ snd ∧ snd < n ∧ -1 ≤ rk) from fun ⟨a,b,c,d,e⟩ => hin ⟨a,b,c,d,e⟩)
      have NO := Lib.hid (show ¬ BoundOk evs ⟨al,n,mr,ed⟩ class_ bound l from fun h => hin (h.in_ k _ HX.out).1)
      clear hin
      go_wp2
      any_goals (go_ret; exact Tells.no NO.out (BWR.out.alloc (by omega) _))
      all_goals (exfalso; refine NIN.out ⟨?_,?_,?_,?_,?_⟩ <;> omega)
    obtain ⟨g0,g1,g2,g3,g4⟩ := hin
    simp only at g0 g1 g2 g3 g4
    have GIN := Lib.hid (PaIn.mk (n := n) (p := ⟨fst,snd,rk⟩) g0 g1 g2 g3 g4)
    obtain ⟨t,ht⟩ : ∃ t : Int,t = if rk = -1 then 0 else 1 := ⟨_,rfl⟩
    have HTT := Lib.hid ht
    have ht2 : t = if (rk != -1) = true then 1 else 0 := by rw [ht]; by_cases h : rk = -1 <;> simp [h]
    have HT2 := Lib.hid ht2
    clear ht ht2
    have BX := Lib.hid (Below.new wr (.cells #[.int .i64 fst,.int .i64 snd,.int .i64 rk] 77))
    go_wp2_with fail
    have MX := Lib.hid (HM.out.alloc (.cells #[.int .i64 fst,.int .i64 snd,.int .i64 rk] 77))
    have TX := Lib.hid (HT.out.alloc (.cells #[.int .i64 fst,.int .i64 snd,.int .i64 rk] 77))
    have x2 := new_cell wr 77 [.int .i64 fst,.int .i64 snd,.int .i64 rk] _ 2 rfl
    have zx : wr.heap.size < (wr.alloc (.cells #[.int .i64 fst,.int .i64 snd,.int .i64 rk] 77)).heap.size := by simp
    have B3X := Lib.hid (B3.out.trans (BX.out.mono B3.out.size))
    clear e0 e1 e2 r1
    generalize hWX : wr.alloc (.cells #[.int .i64 fst,.int .i64 snd,.int .i64 rk] 77) = WX at *
    clear hWX
    refine (key_t fst snd (rk != -1) t HT2.out _).mono ?_
    rintro e w4 ⟨rfl,hb4⟩
    have zx4 := Nat.lt_of_lt_of_le zx hb4.size
    have x24 := old_cell hb4 x2 zx
    have M4 := Lib.hid (MX.out.below hb4 MX.out.lt)
    have T4 := Lib.hid (TX.out.below hb4 TX.out.lt)
    have B34 := Lib.hid (B3X.out.trans (hb4.mono B3X.out.size))
    clear hb4 x2 MX TX
    go_wp2_with fail
    have BK := Lib.hid (Below.new w4 (.cells #[.int .i64 fst,.int .i64 snd,.int .i64 t] 111))
    have M5 := Lib.hid (M4.out.alloc (.cells #[.int .i64 fst,.int .i64 snd,.int .i64 t] 111))
    have T5 := Lib.hid (T4.out.alloc (.cells #[.int .i64 fst,.int .i64 snd,.int .i64 t] 111))
    have B35 := Lib.hid (B34.out.trans (BK.out.mono B34.out.size))
    have k0 := new_cell w4 111 [.int .i64 fst,.int .i64 snd,.int .i64 t] _ 0 rfl
    have k1 := new_cell w4 111 [.int .i64 fst,.int .i64 snd,.int .i64 t] _ 1 rfl
    have k2 := new_cell w4 111 [.int .i64 fst,.int .i64 snd,.int .i64 t] _ 2 rfl
    have x25 := old_cell BK.out x24 zx4
    have zx5 : wr.heap.size < (w4.alloc (.cells #[.int .i64 fst,.int .i64 snd,.int .i64 t] 111)).heap.size := by simp; omega
    clear M4 T4 x24
    generalize hW5 : w4.alloc (.cells #[.int .i64 fst,.int .i64 snd,.int .i64 t] 111) = W5 at *
    clear hW5
    have t4 := T5.out.cell 4
    have hl : ∀ q,(Instr.lookup 108 (.map (some w3.heap.size)) (.agg #[.int .i64 fst,.int .i64 snd,.int .i64 t]) true).run Try.prog (W5.drewN q) = .ok (.tuple #[.int .i64 ((ranksOf (l.take k) (fst,snd,t)).getD 0),.bool (ranksOf (l.take k) (fst,snd,t)).isSome]) (W5.drewN q) := fun q =>
     MapAt.look ok3 Try.underlying108 zeroInt (M5.out.below ((Below.refl _ W5).draws q) M5.out.lt) (fst,snd,t)
    go_quiet (fail)
    have PK := Lib.hid (show pkey ⟨fst,snd,rk⟩ = (fst,snd,t) from by simp only [pkey]; rw [HTT.out])
    have BQ := Lib.hid ((Below.refl W5.heap.size W5).draws nq)
    have BWQ := Lib.hid (BW3.out.trans ((B35.out.trans (BQ.out.mono B35.out.size)).mono (by omega)))
    cases hv : (ranksOf (l.take k) (fst,snd,t)).isSome with
    | true =>
      have NO := Lib.hid (show ¬ BoundOk evs ⟨al,n,mr,ed⟩ class_ bound l from fun h => by have := (h.in_ k _ HX.out).2; rw [PK.out,hv] at this; cases this)
      clear hv hl
      go_wp2
      go_ret
      exact Tells.no NO.out BWQ.out
    | false =>
      have NS := Lib.hid (show (ranksOf (l.take k) (pkey ⟨fst,snd,rk⟩)).isSome = false from by rw [PK.out]; exact hv)
      clear hv hl
      go_wp2_with fail
      have M7 := Lib.hid (M5.out.below BQ.out M5.out.lt)
      have T7 := Lib.hid (T5.out.draws nq)
      have B37 := Lib.hid (B35.out.trans (BQ.out.mono B35.out.size))
      have j0 : (W5.drewN nq).cell? ⟨w4.heap.size,0,none⟩ = _ := k0
      have j1 : (W5.drewN nq).cell? ⟨w4.heap.size,1,none⟩ = _ := k1
      have j2 : (W5.drewN nq).cell? ⟨w4.heap.size,2,none⟩ = _ := k2
      have y2 : (W5.drewN nq).cell? ⟨wr.heap.size,2,none⟩ = _ := x25
      clear k0 k1 k2 x25 t4 T5 M5 B35
      generalize hW7 : W5.drewN nq = W7 at *
      clear hW7
      have t4 := T7.out.cell 4
      go_still_tail 7,(by kernel_rfl)
      change wpList _ _ _ _ _ (World.drew _)
      have MQ := Lib.hid (M7.out.below (Below.refl W7.heap.size W7).drew M7.out.lt)
      have TQ : Hid (BlkAt W7.drew (w3.heap.size + 1) 110 _) := T7.out
      have B38 := Lib.hid B37.out.drew
      go_wp2_with (at_mapUpdate; refine wpList_mapUpdate_at _ rfl _ _ _ 108 111 3 rfl _ key3 ok3 Try.underlying108 w3.heap.size (ranksOf (l.take k)) (fst,snd,t) rk rfl MQ.out rfl rfl ?_; intro w6 hm6 hg6; have HM6 := Lib.hid hm6; clear hm6; have HG6 := Lib.hid hg6; clear hg6)
      go_roundw
      case rel =>
       exact ⟨k + 1,by omega,by go_num,B38.out.grown HG6.out B38.out.size (fun j hj => by cases hj; omega),HM6.out.congr (fun y => by
        rw [List.take_add_one,HX.out]
        show ranksOf (l.take k ++ [⟨fst,snd,rk⟩]) y = _
        rw [ranksOf_snoc NS.out,PK.out]),TQ.out.grown HG6.out (by simp),fun j p hj hjp => by
        by_cases e : j = k
        · subst e; rw [HX.out] at hjp; cases hjp; exact ⟨GIN.out,NS.out⟩
        · exact HIN.out j p (by omega) hjp⟩
      case measure => simp [intOf]; omega
  obtain rfl : k = l.length := by omega
  have TW := Lib.hid (TwAt.mk (w := wr) (bt := w3.heap.size + 1) (bm := w3.heap.size) (AE := AE) (cE := cE) (evs := evs) (class_ := class_) (bound := bound) (AO := some ⟨bo,0,none⟩) (cO := n) (n := n) (ed := ed) (f := ranksOf l) (HT.out.cell 0) (HT.out.cell 1) (HT.out.cell 2) (HT.out.cell 3) (HT.out.cell 4)
   (HE.out.below EvE.stays BWR.out) (ROWS.out.below (RowE.stays EdE.stays) B3.out) (by have := HM.out; rwa [List.take_length] at this) HT.out.lt)
  clear HM HT
  obtain ⟨V,rfl⟩ : ∃ V : World,V = wr := ⟨_,rfl⟩
  have d4 := TW.out.c4
  have zt := TW.out.z
  have KW := Lib.hid (fun (w2 : World) (hb : Below V.heap.size V w2) => (show (Instr.lookup 108 (.map (some w3.heap.size)) (.agg #[.int .i64 0,.int .i64 0,.int .i64 0]) true).run Try.prog w2 = .ok (.tuple #[.int .i64 ((ranksOf l (0,0,0)).getD 0),.bool (ranksOf l (0,0,0)).isSome]) w2 from MapAt.look ok3 Try.underlying108 zeroInt (TW.out.mp.below hb TW.out.mp.lt) (0,0,0)))
  go_wp2_with fail
  go_upto_region 15 with fail
  go_cut [17,18] (fun a b wx => a = .int .i64 ((ranksOf l (0,0,0)).getD 0) ∧ b = .bool (ranksOf l (0,0,0)).isSome ∧ Hid (Below V.heap.size V wx))
  case first =>
   go_region_held3 (fun W' => W'.cell? ⟨w3.heap.size + 1,4,none⟩ = some (.map (some w3.heap.size))) (first | exact s4 | go_keep) (
    first | (go_at_call 42
             refine (key_c 0 0 false _).mono ?_
             rintro e w2 ⟨rfl,hb2⟩
             have s4 : w2.cell? ⟨w3.heap.size + 1,4,none⟩ = some (.map (some w3.heap.size)) := old_cell hb2 d4 zt
             have hl := KW.out w2 ((Below.refl _ V).drew.trans hb2)
             have HB2 := Lib.hid ((Below.refl _ V).drew.trans hb2)
             clear hb2))
   all_goals go_wp2_with fail
   all_goals go_meet
   all_goals exact ⟨rfl,rfl,HB2⟩
  case rest =>
   obtain ⟨rfl,rfl,BC⟩ := hcut
   have TC := Lib.hid (TW.out.below BC.out)
   have BWC := Lib.hid (BWR.out.trans (BC.out.mono BWR.out.size))
   clear d4 KW zt
   cases hv : (ranksOf l (0,0,0)).isSome with
   | false =>
     have NO := Lib.hid (show ¬ BoundOk evs ⟨al,n,mr,ed⟩ class_ bound l from fun h => by have := h.st; rw [hv] at this; cases this)
     clear hv
     go_wp2
     go_ret
     exact Tells.no NO.out BWC.out
   | true =>
     have ST := Lib.hid hv
     clear hv
     go_wp2
     go_loopw [115] (fun a wr => ∃ q : Nat,q ≤ l.length ∧ a = .int .i64 q ∧ Hid (Below wc.heap.size wc wr) ∧ Hid (∀ (j : Nat) (p : Pa),j < q → l[j]? = some p → PairOk (ranksOf l) bound class_ evs ed p)) (fun a _ => l.length - (intOf a).toNat)
     case atStart => exact ⟨0,by omega,rfl,Below.refl _ _,fun j p h => absurd h (by omega)⟩
     case round =>
      obtain ⟨q,hq,rfl,BL,HPR⟩ := hrel
      have BWL := Lib.hid (BWC.out.trans (BL.out.mono BWC.out.size))
      by_cases hlt2 : q < l.length
      · obtain ⟨x,hx⟩ : ∃ x,l[q]? = some x := ⟨_,List.getElem?_eq_getElem hlt2⟩
        obtain ⟨b,off,hAL,hb,e0,e1,e2⟩ := PasAt.get (HL.out.below PaE.stays BWL.out) hx
        subst hAL
        have hin := (HIN.out q x hlt2 hx).1
        obtain ⟨fst,snd,rk⟩ := x
        obtain ⟨g0,g1,g2,g3,g4⟩ := hin
        simp only at g0 g1 g2 g3 g4
        obtain ⟨fi,rfl⟩ := Int.eq_ofNat_of_zero_le g0
        obtain ⟨si,rfl⟩ := Int.eq_ofNat_of_zero_le g2
        have hfi : fi < n := by omega
        have hsi : si < n := by omega
        clear g0 g1 g2 g3 g4
        dsimp only at e0 e1 e2
        have HX := Lib.hid hx
        clear hx
        have BX := Lib.hid (Below.new wr (.cells #[.int .i64 (fi : Int),.int .i64 (si : Int),.int .i64 rk] 77))
        have TX := Lib.hid (TC.out.below (BL.out.trans (BX.out.mono BL.out.size)))
        go_wp2_with fail
        refine (pair_c (w3.heap.size + 1) w3.heap.size AE cE evs class_ bound bo n n ed (ranksOf l) fi si rk _ TX.out hfi hsi hn lev (fun x hx => ?_)).mono ?_
        · obtain ⟨j,hj,rfl⟩ := List.mem_iff_getElem.1 hx
          have h1 := (S.out.ha.ed j hj _ (List.getElem?_eq_getElem hj)).2.2.2.2.1
          have h2 := S.out.hev _ h1
          obtain ⟨t,ht,he⟩ := List.mem_iff_getElem.1 h1
          have h3 := S.out.ha.al t _ ht (List.getElem?_eq_getElem ht)
          rw [he] at h3
          exact ⟨h3.1,h2⟩
        intro e w8 hs
        rcases hs.no1 with ⟨rfl,SP,hb8⟩ | ⟨rfl,SP,hb8⟩
        · have NO := Lib.hid (show ¬ BoundOk evs ⟨al,n,mr,ed⟩ class_ bound l from fun h => SP.out (h.pr _ (List.mem_of_getElem? HX.out)))
          have B8 := Lib.hid (BWL.out.trans ((BX.out.trans (hb8.mono BX.out.size)).mono BWL.out.size))
          clear hb8
          go_wp2
          go_ret
          exact Tells.no NO.out B8.out
        · have B8 := Lib.hid (BL.out.trans ((BX.out.trans (hb8.mono BX.out.size)).mono BL.out.size))
          clear hb8
          go_wp2
          go_roundw
          case rel => exact ⟨q + 1,by omega,by go_num,B8,all_step HPR.out HX.out SP.out⟩
          case measure => simp [intOf]; omega
      · go_wp2
        go_ret
        exact Tells.yes ⟨S.out,fun h => HN0.out (by simpa using h),by have := HB0.out; omega,fun k p hkp => HIN.out k p (List.getElem?_eq_some_iff.1 hkp).1 hkp,ST.out,all_get (fun j p hj hp => HPR.out j p (by omega) hp)⟩ BWL.out
def evF : List Ev := [⟨⟨#[102]⟩,false,false,false,1⟩,⟨⟨#[111]⟩,false,true,false,0⟩]
def auF : Bool → Au
 | false => ⟨[0,1],2,[],[⟨0,0,1⟩,⟨1,1,1⟩]⟩
 | true => ⟨[0,1],2,[],[⟨0,0,1⟩,⟨0,1,0⟩,⟨1,1,1⟩]⟩

set_option maxRecDepth 100000 in
def GivesFm (b : Bool) (w : World) (e : Ending) (w' : World) : Prop := ∃ AE cE p,e = .returned (.tuple #[.slice AE 2 cE,(auF b).val p]) ∧ Hid (EvsAt w' AE evF) ∧ Hid (Au.At w' (auF b) p) ∧ Below w.heap.size w w'
set_option maxHeartbeats 1000000 in
theorem faultF_c (w : World) : Calls Try.prog 14 #[.bool false] w (GivesFm false w) := by
 go_enter Try.func14,Try.ntmps14
 go_wp2_with fail
 go_region
 go_wp2
 refine bodyPost_ret (v := .tuple #[.slice (some ⟨w.heap.size + 1,0,none⟩) 2 2,(auF false).val ⟨some ⟨w.heap.size + 1 + 1,0,none⟩,2,none,0,some ⟨w.heap.size + 1 + 1 + 1,0,none⟩,2⟩]) (by simp [results,Try.results14,go_sem,auF]) rfl ?_
 refine ⟨some ⟨w.heap.size + 1,0,none⟩,2,⟨some ⟨w.heap.size + 1 + 1,0,none⟩,2,none,0,some ⟨w.heap.size + 1 + 1 + 1,0,none⟩,2⟩,rfl,Lib.hid (SlAt.blk (enc := Ev.cells) (fun _ => rfl) (T := 105) evF ?_),Lib.hid ⟨IntsAt.blk (T := 3) [0,1] ?_,SlAt.nil,SlAt.blk (enc := Ed.cells) (T := 68) (fun _ => rfl) (auF false).ed ?_,by simp [auF],by simp [auF],by simp [auF]⟩,((((((Below.new w _).alloc (by simp) _).alloc (by simp; omega) _).alloc (by simp; omega) _).alloc (by simp; omega) _)).drew⟩
 · exact ((((BlkAt.newAt (by simp) rfl).alloc _).alloc _).alloc _)
 · exact (((BlkAt.newAt (by simp) rfl).alloc _).alloc _)
 · exact ((BlkAt.newAt (by simp) rfl).alloc _)
set_option maxRecDepth 100000 in
set_option maxHeartbeats 1000000 in
theorem faultT_c (w : World) : Calls Try.prog 14 #[.bool true] w (GivesFm true w) := by
 go_enter Try.func14,Try.ntmps14
 go_wp2_with fail
 go_region
 go_wp2
 refine bodyPost_ret (v := .tuple #[.slice (some ⟨w.heap.size + 1,0,none⟩) 2 2,(auF true).val ⟨some ⟨w.heap.size + 1 + 1,0,none⟩,2,none,0,some ⟨w.heap.size + 1 + 1 + 1 + 1 + 1,0,none⟩,3⟩]) (by simp [results,Try.results14,go_sem,auF]) rfl ?_
 refine ⟨some ⟨w.heap.size + 1,0,none⟩,2,⟨some ⟨w.heap.size + 1 + 1,0,none⟩,2,none,0,some ⟨w.heap.size + 1 + 1 + 1 + 1 + 1,0,none⟩,3⟩,rfl,Lib.hid (SlAt.blk (enc := Ev.cells) (fun _ => rfl) (T := 105) evF ?_),Lib.hid ⟨IntsAt.blk (T := 3) [0,1] ?_,SlAt.nil,SlAt.blk (enc := Ed.cells) (T := 68) (fun _ => rfl) (auF true).ed ?_,by simp [auF],by simp [auF],by simp [auF]⟩,(((((((Below.new w _).alloc (by simp) _).alloc (by simp; omega) _).alloc (by simp; omega) _).alloc (by simp; omega) _)).alloc (by simp; omega) _).drew⟩
 · exact (((((BlkAt.newAt (by simp) rfl).alloc _).alloc _).alloc _).alloc _)
 · exact ((((BlkAt.newAt (by simp) rfl).alloc _).alloc _).alloc _)
 · exact (BlkAt.newAt (by simp) rfl)
theorem nat_lt2 {i : Nat} (h : i < 2) : i = 0 ∨ i = 1 := by omega
theorem nat_lt3 {i : Nat} (h : i < 3) : i = 0 ∨ i = 1 ∨ i = 2 := by omega
theorem setOk_nil (n : Int) : setOk [] n 0 := fun i x h => absurd h (by omega)
theorem setOk_one {a n : Int} (h : 0 ≤ a) (h1 : a < n) : setOk [a] n 1 := fun i x hi hx => by
 obtain rfl : i = 0 := by omega
 simp at hx; subst hx
 exact ⟨h,h1,fun y h => absurd h (by omega)⟩
theorem setOk_two {a b n : Int} (h : 0 ≤ a) (h1 : b < n) (h2 : a < b) : setOk [a,b] n 2 := fun i x hi hx => by
 rcases nat_lt2 hi with rfl | rfl
 · simp at hx; subst hx
   exact ⟨h,by omega,fun y h => absurd h (by omega)⟩
 · simp at hx; subst hx
   exact ⟨by omega,h1,fun y _ hy => by simp at hy; omega⟩

def auK : Au := ⟨[0],2,[1],[⟨0,0,1⟩]⟩
def rmK : List Rm := [⟨0,2,2,0⟩,⟨1,1,1,-1⟩]
theorem auK_right : auK.Right := by
 refine ⟨setOk_one (by omega) (by omega),by decide,by decide,setOk_one (by decide) (by decide),fun i hi x hx => ?_⟩
 obtain rfl : i = 0 := by simp [auK] at hi; omega
 simp [auK] at hx; subst hx
 simp [auK]
theorem auF_right (b : Bool) : (auF b).Right := by
 cases b
 · refine ⟨setOk_two (by omega) (by omega) (by omega),by decide,by decide,setOk_nil _,fun i hi x hx => ?_⟩
   rcases nat_lt2 hi with rfl | rfl
   · simp [auF] at hx; subst hx; simp [auF]
   · simp [auF] at hx; subst hx; simp [auF]
 · refine ⟨setOk_two (by omega) (by omega) (by omega),by decide,by decide,setOk_nil _,fun i hi x hx => ?_⟩
   rcases nat_lt3 hi with rfl | rfl | rfl
   · simp [auF] at hx; subst hx; simp [auF]
   · simp [auF] at hx; subst hx; simp [auF]
   · simp [auF] at hx; subst hx; simp [auF]
theorem keptK : KeptOk auK [1] [0] [] [] rmK := by
 refine ⟨⟨auK_right,setOk_one (by decide) (by decide),setOk_one (by decide) (by decide)⟩,rfl,⟨setOk_nil _,rfl,fun j hj r hr => ?_⟩,fun k i d h => by simp at h,fun r hr => ?_⟩
 · rcases nat_lt2 hj with rfl | rfl
   · simp [rmK] at hr; subst hr; simp [auK]
   · simp [rmK] at hr; subst hr; simp [auK,rmK]
 · simp [rmK] at hr
   rcases hr with rfl | rfl
   · exact .inr (.inl ⟨rfl,by simp,⟨0,0,1⟩,by simp [outOf,auK],rfl,⟨1,1,1,-1⟩,by simp [rmK],rfl,by simp⟩)
   · exact .inl ⟨rfl,rfl,by simp⟩
theorem keptK1 : ¬ KeptOk auK [1] [0] [] [] [⟨0,2,2,0⟩] := fun h => by
 have := h.dv.len
 simp [auK] at this
theorem plantF (b : Bool) : PlantOk 2 (auF b) 1 := ⟨auF_right b,by omega,by omega,fun x hx => by cases b <;> (simp [auF] at hx; omega)⟩
def paF : List Pa := [⟨0,0,-1⟩,⟨1,0,0⟩]
theorem boundF : BoundOk evF (auF false) 1 1 paF := by
 refine ⟨plantF false,by decide,by omega,fun k p hp => ?_,by simp [ranksOf,paF,pkey],fun p hp => ?_⟩
 · have hk : k < 2 := (List.getElem?_eq_some_iff.1 hp).1
   rcases nat_lt2 hk with rfl | rfl
   · simp [paF] at hp; subst hp; exact ⟨⟨by simp,by simp [auF],by simp,by simp [auF],by simp⟩,by simp [ranksOf,paF]⟩
   · simp [paF] at hp; subst hp; exact ⟨⟨by simp,by simp [auF],by simp,by simp [auF],by simp⟩,by simp [ranksOf,paF,pkey]⟩
 · simp [paF] at hp
   rcases hp with rfl | rfl
   · refine ⟨fun x hx => ?_,fun x hx => ?_,fun x hx y hy => ?_⟩
     · simp [outOf,auF] at hx; subst hx
       intro _
       exact ⟨fun _ => ⟨0,by simp [ranksOf,paF,pkey],by omega⟩,fun h => absurd ⟨rfl,rfl,rfl⟩ h⟩
     · simp [outOf,auF] at hx; subst hx
       intro _ h; exact absurd rfl h
     · simp [outOf,auF] at hx; subst hx
       intro _ h; exact absurd h (by simp [evAt,evF])
   · refine ⟨fun x hx => ?_,fun x hx => ?_,fun x hx y hy => ?_⟩
     · simp [outOf,auF] at hx; subst hx
       intro h; exact absurd h (by simp [evAt,evF])
     · simp [outOf,auF] at hx; subst hx
       intro _ h; exact absurd rfl h
     · simp [outOf,auF] at hx hy; subst hx; subst hy
       intro h; simp at h
theorem boundF0 : ¬ BoundOk evF (auF false) 1 0 paF := fun h => by
 have := (h.pr ⟨0,0,-1⟩ (by simp [paF])).m1 ⟨0,0,1⟩ (by simp [outOf,auF])
 obtain ⟨r,hr,hlt⟩ := (this rfl).1 ⟨rfl,rfl,rfl⟩
 simp [ranksOf,paF,pkey] at hr
 omega
def lsF : Ls := ⟨[0],[1],[],[1]⟩
theorem lassoF : LassoOk evF (auF true) 1 lsF :=
 ⟨plantF true,by decide,by simp [lsF],by decide,by decide,by decide,by decide,⟨0,by simp [lsF],rfl⟩,by simp [faultyP,lsF],fun ⟨x,hx,he⟩ => by simp [lsF] at hx; subst hx; simp [evAt,evF] at he,by decide,by decide⟩
theorem lassoF0 : ¬ LassoOk evF (auF false) 1 lsF := fun h => by
 have := h.y1
 revert this
 decide
abbrev knownW (w : World) : World := (((((((w.alloc (.cells #[.int .i64 0] 3)).alloc (.cells #[.int .i64 1] 3)).alloc (.cells #[.int .i64 0,.int .i64 0,.int .i64 1] 68)).alloc (.cells #[.int .i64 1] 3)).alloc (.cells #[.int .i64 0] 3)).alloc
 (.cells #[.slice (some ⟨w.heap.size,0,none⟩) 1 1,.int .i64 2,.slice (some ⟨w.heap.size + 1,0,none⟩) 1 1,.slice (some ⟨w.heap.size + 1 + 1,0,none⟩) 1 1,.slice (some ⟨w.heap.size + 1 + 1 + 1,0,none⟩) 1 1,.slice (some ⟨w.heap.size + 1 + 1 + 1 + 1,0,none⟩) 1 1] 44)).alloc
 (.cells #[.int .i64 0,.int .i64 2,.int .i64 2,.int .i64 0,.int .i64 1,.int .i64 1,.int .i64 1,.int .i64 (-1)] 70)).alloc
 (.cells #[.slice none 0 0,.slice none 0 0,.slice (some ⟨w.heap.size + 1 + 1 + 1 + 1 + 1 + 1,0,none⟩) 2 2] 47)

theorem old_all {w w' : World} (hb : Below w.heap.size w w') {b : Nat} (hlt : b < w.heap.size) {l : List Value} (h : ∀ i u,l[i]? = some u → w.cell? ⟨b,i,none⟩ = some u) : ∀ i u,l[i]? = some u → w'.cell? ⟨b,i,none⟩ = some u := fun i u hi => old_cell hb (h i u hi) hlt

def pK (n : Nat) : PrP := ⟨⟨some ⟨n,0,none⟩,1,some ⟨n + 1,0,none⟩,1,some ⟨n + 1 + 1,0,none⟩,1⟩,some ⟨n + 1 + 1 + 1,0,none⟩,1,some ⟨n + 1 + 1 + 1 + 1,0,none⟩,1⟩
def cK (n r : Nat) : CeP := ⟨none,0,none,0,some ⟨n + 1 + 1 + 1 + 1 + 1 + 1,0,none⟩,r⟩
structure KnownMem (n : Nat) (w : World) : Prop where
 pr : PrAt w auK [1] [0] (pK n)
 ce : CeAt w [] [] rmK (cK n 2)
 cp : ∀ i u,[Value.slice (some ⟨n,0,none⟩) 1 1,.int .i64 2,.slice (some ⟨n + 1,0,none⟩) 1 1,.slice (some ⟨n + 1 + 1,0,none⟩) 1 1,.slice (some ⟨n + 1 + 1 + 1,0,none⟩) 1 1,.slice (some ⟨n + 1 + 1 + 1 + 1,0,none⟩) 1 1][i]? = some u → w.cell? ⟨n + 1 + 1 + 1 + 1 + 1,i,none⟩ = some u
 cc : ∀ i u,[Value.slice none 0 0,.slice none 0 0,.slice (some ⟨n + 1 + 1 + 1 + 1 + 1 + 1,0,none⟩) 2 2][i]? = some u → w.cell? ⟨n + 1 + 1 + 1 + 1 + 1 + 1 + 1,i,none⟩ = some u
 sz : n + 1 + 1 + 1 + 1 + 1 + 1 + 1 < w.heap.size
theorem KnownMem.below {n : Nat} {w w' : World} (h : KnownMem n w) (hb : Below w.heap.size w w') : KnownMem n w' :=
 ⟨h.pr.below hb,h.ce.below hb,old_all hb (by have := h.sz; omega) h.cp,old_all hb h.sz h.cc,Nat.lt_of_lt_of_le h.sz hb.size⟩
theorem blk_cells {w : World} {g : Nat} {T : TypeId} {cs : List Value} (h : BlkAt w g T cs) : ∀ i u,cs[i]? = some u → w.cell? ⟨g,i,none⟩ = some u := fun i u hi => by rw [h.cell,hi]
theorem knownMem (w : World) : KnownMem w.heap.size (knownW w) := by
 refine ⟨⟨⟨IntsAt.blk (T := 3) [0] ?_,IntsAt.blk (T := 3) [1] ?_,SlAt.blk (enc := Ed.cells) (T := 68) (fun _ => rfl) auK.ed ?_,by simp [auK],by simp [auK],by simp [auK]⟩,IntsAt.blk (T := 3) [1] ?_,IntsAt.blk (T := 3) [0] ?_,by simp,by simp⟩,
  ⟨SlAt.nil,SlAt.nil,SlAt.blk (enc := Rm.cells) (T := 70) (fun _ => rfl) rmK ?_,by simp,by simp,by simp [rmK]⟩,blk_cells (T := 44) ?_,blk_cells (T := 47) ?_,by simp⟩
 · exact ((((((((BlkAt.newAt (by simp) rfl).alloc _).alloc _).alloc _).alloc _).alloc _).alloc _).alloc _)
 · exact (((((((BlkAt.newAt (by simp) rfl).alloc _).alloc _).alloc _).alloc _).alloc _).alloc _)
 · exact ((((((BlkAt.newAt (by simp) rfl).alloc _).alloc _).alloc _).alloc _).alloc _)
 · exact (((((BlkAt.newAt (by simp) rfl).alloc _).alloc _).alloc _).alloc _)
 · exact ((((BlkAt.newAt (by simp) rfl).alloc _).alloc _).alloc _)
 · exact ((BlkAt.newAt (by simp) rfl).alloc _)
 · exact (((BlkAt.newAt (by simp) rfl).alloc _).alloc _)
 · exact (BlkAt.newAt (by simp) rfl)

theorem knownBelow (w : World) : Below w.heap.size w (knownW w) :=
 (((((((Below.new w _).alloc (by simp) _).alloc (by simp; omega) _).alloc (by simp; omega) _).alloc (by simp; omega) _).alloc (by simp; omega) _).alloc (by simp; omega) _).alloc (by simp; omega) _


structure Known2 (n b4 : Nat) (AE : Option Addr) (p : AuP) (w : World) : Prop where
 km : KnownMem n w
 fe : EvsAt w AE evF
 fa : Au.At w (auF false) p
 c4 : HasAt b4 (auCells (auF false) p) w
theorem Known2.below {n b4 : Nat} {AE : Option Addr} {p : AuP} {w w' : World} (h : Known2 n b4 AE p w) (hb : Below w.heap.size w w') : Known2 n b4 AE p w' :=
 ⟨h.km.below hb,h.fe.below EvE.stays hb,h.fa.below hb,h.c4.below hb⟩
def lsP (m : Nat) : LsP := ⟨some ⟨m + 1,0,none⟩,1,some ⟨m + 1 + 1,0,none⟩,1,none,0,some ⟨m + 1 + 1 + 1,0,none⟩,1⟩
structure Known3 (n b4 m : Nat) (AE : Option Addr) (p q : AuP) (w : World) : Prop where
 k2 : Known2 n b4 AE p w
 fa : Au.At w (auF true) q
 c6 : HasAt m (auCells (auF true) q) w
 ls : Ls.At w lsF (lsP m)
 c7 : HasAt (m + 1 + 1 + 1 + 1) (lsCells lsF (lsP m)) w
 pa : PasAt w (some ⟨m + 1 + 1 + 1 + 1 + 1,0,none⟩) paF
theorem Known3.below {n b4 m : Nat} {AE : Option Addr} {p q : AuP} {w w' : World} (h : Known3 n b4 m AE p q w) (hb : Below w.heap.size w w') : Known3 n b4 m AE p q w' :=
 ⟨h.k2.below hb,h.fa.below hb,h.c6.below hb,h.ls.below hb,h.c7.below hb,h.pa.below PaE.stays hb⟩
abbrev knownW3 (w : World) (q : AuP) : World := ((((((w.alloc (.cells (auCells (auF true) q).toArray 39)).alloc (.cells #[.int .i64 0] 3)).alloc (.cells #[.int .i64 1] 3)).alloc (.cells #[.int .i64 1] 3)).alloc
 (.cells (lsCells lsF (lsP w.heap.size)).toArray 75)).alloc (.cells #[.int .i64 0,.int .i64 0,.int .i64 (-1),.int .i64 1,.int .i64 0,.int .i64 0] 77))
theorem known3 {n b4 : Nat} {AE : Option Addr} {p q : AuP} {w : World} (h : Known2 n b4 AE p w) (hq : Au.At w (auF true) q) : Known3 n b4 w.heap.size AE p q (knownW3 w q) := by
 have B : Below w.heap.size w (knownW3 w q) := ((((((Below.new w _).alloc (by simp) _).alloc (by simp; omega) _).alloc (by simp; omega) _).alloc (by simp; omega) _).alloc (by simp; omega) _)
 refine ⟨h.below B,hq.below B,?_,⟨IntsAt.blk (T := 3) [0] ?_,IntsAt.blk (T := 3) [1] ?_,SlAt.nil,IntsAt.blk (T := 3) [1] ?_,by simp [lsF],by simp [lsF],by simp [lsF],by simp [lsF]⟩,?_,SlAt.blk (enc := Pa.cells) (T := 77) (fun _ => rfl) paF ?_⟩
 · exact ((((((HasAt.new w _ _ rfl).alloc _).alloc _).alloc _).alloc _).alloc _)
 · exact (((((BlkAt.newAt (by simp) rfl).alloc _).alloc _).alloc _).alloc _)
 · exact ((((BlkAt.newAt (by simp) rfl).alloc _).alloc _).alloc _)
 · exact (((BlkAt.newAt (by simp) rfl).alloc _).alloc _)
 · exact ((HasAt.new _ _ _ (by simp)).alloc _)
 · exact (BlkAt.newAt (by simp) rfl)
structure From (n : Nat) (w W : World) : Prop where
 b : Below n w W
 z : n ≤ W.heap.size
theorem From.next {n : Nat} {w W W' : World} (h : From n w W) (hb : Below W.heap.size W W') : From n w W' := ⟨h.b.trans (hb.mono h.z),Nat.le_trans h.z hb.size⟩
def Yes (b : Bool) (w : World) (e : Ending) (w' : World) : Prop := e = .returned (.bool b) ∧ Below w.heap.size w w'

set_option maxRecDepth 100000 in
set_option maxHeartbeats 4000000 in
theorem known_c (w : World) : Calls Try.prog 5 #[] w (fun e w' => e = .returned (.bool true) ∧ Below w.heap.size w w') := by
 go_enter Try.func5,Try.ntmps5
 go_wp2_with fail
 change Calls _ _ _ (knownW w) _
 have BW : Hid (From w.heap.size w (knownW w)) := ⟨knownBelow w,(knownBelow w).size⟩
 have KM := Lib.hid (knownMem w)
 generalize hW : knownW w = W8 at *
 generalize hn : w.heap.size = n at *
 clear hW
 refine (faultF_c _).mono ?_
 rintro e w1 ⟨AE,cE,p,rfl,hE,hA,hb⟩
 have BW1 := Lib.hid (BW.out.next hb)
 have KM1 := Lib.hid (KM.out.below hb)
 have FE1 := Lib.hid hE.out
 have FA1 := Lib.hid hA.out
 clear BW KM hE hA hb
 go_wp2_with fail
 change Calls _ _ _ (w1.alloc (.cells (auCells (auF false) p).toArray 39)) _
 have K2 : Hid (Known2 n w1.heap.size AE p (w1.alloc (.cells (auCells (auF false) p).toArray 39))) := ⟨KM1.out.below (Below.new _ _),FE1.out.below EvE.stays (Below.new _ _),FA1.out.below (Below.new _ _),HasAt.new w1 _ _ rfl⟩
 have BW2 := Lib.hid (BW1.out.next (Below.new w1 (.cells (auCells (auF false) p).toArray 39)))
 generalize hW : w1.alloc (.cells (auCells (auF false) p).toArray 39) = W2 at *
 generalize hb4 : w1.heap.size = b4 at *
 clear hW KM1 FE1 FA1 hb4 BW1
 refine (faultT_c _).mono ?_
 rintro e w3 ⟨AT,cT,q,rfl,hE,hA,hb⟩
 have K2' := Lib.hid (K2.out.below hb)
 have BW3 := Lib.hid (BW2.out.next hb)
 have FA3 := Lib.hid hA.out
 clear hE hA hb K2 BW2
 go_wp2_with fail
 change Code.wp _ _ _ _ (knownW3 w3 q)
 have K3 := Lib.hid (known3 K2'.out FA3.out)
 have BW4 : Hid (From n w (knownW3 w3 q)) := BW3.out.next ((((((Below.new w3 _).alloc (by simp) _).alloc (by simp; omega) _).alloc (by simp; omega) _).alloc (by simp; omega) _).alloc (by simp; omega) _)
 generalize hW : knownW3 w3 q = W at *
 generalize hm : w3.heap.size = m at *
 have HN := Lib.hid hn
 clear hW hm K2' FA3 BW3 hn
 have H1 : Hid (∀ V,Below W.heap.size W V → Calls Try.prog 8 #[.agg #[.slice (some ⟨n,0,none⟩) 1 1,.int .i64 2,.slice (some ⟨n + 1,0,none⟩) 1 1,.slice (some ⟨n + 1 + 1,0,none⟩) 1 1,.slice (some ⟨n + 1 + 1 + 1,0,none⟩) 1 1,.slice (some ⟨n + 1 + 1 + 1 + 1,0,none⟩) 1 1],.agg #[.slice none 0 0,.slice none 0 0,.slice (some ⟨n + 1 + 1 + 1 + 1 + 1 + 1,0,none⟩) 2 2]] V (Yes true V)) := fun V hb =>
  (Kept_c auK [1] [0] (pK n) [] [] rmK (cK n 2) V ((K3.out.below hb).k2.km.pr) ((K3.out.below hb).k2.km.ce) (by simp [auK])).mono fun _ _ h => h.yes2 keptK
 have HC1 : Hid (∀ V,Below W.heap.size W V → CeAt V [] [] [⟨0,2,2,0⟩] ⟨none,0,none,0,some ⟨n + 1 + 1 + 1 + 1 + 1 + 1,0,none⟩,2⟩) := fun V hb =>
  ⟨SlAt.nil,SlAt.nil,fun _ => by
   obtain ⟨b,off,hA,hlt,hc⟩ := (K3.out.below hb).k2.km.ce.hr (by simp [rmK])
   refine ⟨b,off,hA,hlt,fun i x hx => hc i x ?_⟩
   cases i with
   | zero => simpa [rmK] using hx
   | succ i => simp at hx,by simp,by simp,by simp⟩
 have H2 : Hid (∀ V,Below W.heap.size W V → Calls Try.prog 8 #[.agg #[.slice (some ⟨n,0,none⟩) 1 1,.int .i64 2,.slice (some ⟨n + 1,0,none⟩) 1 1,.slice (some ⟨n + 1 + 1,0,none⟩) 1 1,.slice (some ⟨n + 1 + 1 + 1,0,none⟩) 1 1,.slice (some ⟨n + 1 + 1 + 1 + 1,0,none⟩) 1 1],.agg #[.slice none 0 0,.slice none 0 0,.slice (some ⟨n + 1 + 1 + 1 + 1 + 1 + 1,0,none⟩) 1 2]] V (Yes false V)) := fun V hb =>
  (Kept_c auK [1] [0] (pK n) [] [] [⟨0,2,2,0⟩] ⟨none,0,none,0,some ⟨n + 1 + 1 + 1 + 1 + 1 + 1,0,none⟩,2⟩ V ((K3.out.below hb).k2.km.pr) (HC1.out V hb) (by simp [auK])).mono fun _ _ h => h.no2 keptK1
 have H3 : Hid (∀ (V : World),Below W.heap.size W V → Calls Try.prog 15 #[.slice AE 2 cE,.agg (auCells (auF false) p).toArray,.int .i64 1,.int .i64 1,.slice (some ⟨m + 1 + 1 + 1 + 1 + 1,0,none⟩) 2 2] V (Yes true V)) := fun V hb =>
  (Bound_c AE cE evF (auF false) p 1 1 (some ⟨m + 1 + 1 + 1 + 1 + 1,0,none⟩) 2 paF V (K3.out.below hb).k2.fe (K3.out.below hb).k2.fa (K3.out.below hb).pa (by simp [evF]) (by simp [paF]) (by simp [auF])).mono fun _ _ h => h.yes2 boundF
 have H4 : Hid (∀ (V : World),Below W.heap.size W V → Calls Try.prog 15 #[.slice AE 2 cE,.agg (auCells (auF false) p).toArray,.int .i64 1,.int .i64 0,.slice (some ⟨m + 1 + 1 + 1 + 1 + 1,0,none⟩) 2 2] V (Yes false V)) := fun V hb =>
  (Bound_c AE cE evF (auF false) p 1 0 (some ⟨m + 1 + 1 + 1 + 1 + 1,0,none⟩) 2 paF V (K3.out.below hb).k2.fe (K3.out.below hb).k2.fa (K3.out.below hb).pa (by simp [evF]) (by simp [paF]) (by simp [auF])).mono fun _ _ h => h.no2 boundF0
 have H5 : Hid (∀ (V : World),Below W.heap.size W V → Calls Try.prog 16 #[.slice AE 2 cE,.agg (auCells (auF true) q).toArray,.int .i64 1,.agg (lsCells lsF (lsP m)).toArray] V (Yes true V)) := fun V hb =>
  (Lasso_c AE cE evF (auF true) q 1 lsF (lsP m) V (K3.out.below hb).k2.fe (K3.out.below hb).fa (K3.out.below hb).ls (by simp [evF])).mono fun _ _ h => h.yes2 lassoF
 have H6 : Hid (∀ (V : World),Below W.heap.size W V → Calls Try.prog 16 #[.slice AE 2 cE,.agg (auCells (auF false) p).toArray,.int .i64 1,.agg (lsCells lsF (lsP m)).toArray] V (Yes false V)) := fun V hb =>
  (Lasso_c AE cE evF (auF false) p 1 lsF (lsP m) V (K3.out.below hb).k2.fe (K3.out.below hb).k2.fa (K3.out.below hb).ls (by simp [evF])).mono fun _ _ h => h.no2 lassoF0
 have SC : Hid (∀ V,Below W.heap.size W V → V.cell? ⟨n + 1 + 1 + 1 + 1 + 1,0,none⟩ = some (.slice (some ⟨n,0,none⟩) 1 1) ∧ V.cell? ⟨n + 1 + 1 + 1 + 1 + 1,1,none⟩ = some (.int .i64 2) ∧ V.cell? ⟨n + 1 + 1 + 1 + 1 + 1,2,none⟩ = some (.slice (some ⟨n + 1,0,none⟩) 1 1) ∧ V.cell? ⟨n + 1 + 1 + 1 + 1 + 1,3,none⟩ = some (.slice (some ⟨n + 1 + 1,0,none⟩) 1 1) ∧ V.cell? ⟨n + 1 + 1 + 1 + 1 + 1,4,none⟩ = some (.slice (some ⟨n + 1 + 1 + 1,0,none⟩) 1 1) ∧ V.cell? ⟨n + 1 + 1 + 1 + 1 + 1,5,none⟩ = some (.slice (some ⟨n + 1 + 1 + 1 + 1,0,none⟩) 1 1) ∧ V.cell? ⟨n + 1 + 1 + 1 + 1 + 1 + 1 + 1,0,none⟩ = some (.slice none 0 0) ∧ V.cell? ⟨n + 1 + 1 + 1 + 1 + 1 + 1 + 1,1,none⟩ = some (.slice none 0 0) ∧ V.cell? ⟨n + 1 + 1 + 1 + 1 + 1 + 1 + 1,2,none⟩ = some (.slice (some ⟨n + 1 + 1 + 1 + 1 + 1 + 1,0,none⟩) 2 2) ∧ V.cell? ⟨b4,0,none⟩ = some (.slice p.A1 (auF false).al.length p.c1) ∧ V.cell? ⟨b4,1,none⟩ = some (.int .i64 (auF false).n) ∧ V.cell? ⟨b4,2,none⟩ = some (.slice p.A2 (auF false).mr.length p.c2) ∧ V.cell? ⟨b4,3,none⟩ = some (.slice p.A3 (auF false).ed.length p.c3) ∧ V.cell? ⟨m,0,none⟩ = some (.slice q.A1 (auF true).al.length q.c1) ∧ V.cell? ⟨m,1,none⟩ = some (.int .i64 (auF true).n) ∧ V.cell? ⟨m,2,none⟩ = some (.slice q.A2 (auF true).mr.length q.c2) ∧ V.cell? ⟨m,3,none⟩ = some (.slice q.A3 (auF true).ed.length q.c3) ∧ V.cell? ⟨m + 1 + 1 + 1 + 1,0,none⟩ = some (.slice (lsP m).A1 lsF.fa.length (lsP m).c1) ∧ V.cell? ⟨m + 1 + 1 + 1 + 1,1,none⟩ = some (.slice (lsP m).A2 lsF.fc.length (lsP m).c2) ∧ V.cell? ⟨m + 1 + 1 + 1 + 1,2,none⟩ = some (.slice (lsP m).A3 lsF.no.length (lsP m).c3) ∧ V.cell? ⟨m + 1 + 1 + 1 + 1,3,none⟩ = some (.slice (lsP m).A4 lsF.nc.length (lsP m).c4)) := fun V hb => ⟨(K3.out.below hb).k2.km.cp 0 _ rfl,(K3.out.below hb).k2.km.cp 1 _ rfl,(K3.out.below hb).k2.km.cp 2 _ rfl,(K3.out.below hb).k2.km.cp 3 _ rfl,(K3.out.below hb).k2.km.cp 4 _ rfl,(K3.out.below hb).k2.km.cp 5 _ rfl,(K3.out.below hb).k2.km.cc 0 _ rfl,(K3.out.below hb).k2.km.cc 1 _ rfl,(K3.out.below hb).k2.km.cc 2 _ rfl,(K3.out.below hb).k2.c4.c 0 _ rfl,(K3.out.below hb).k2.c4.c 1 _ rfl,(K3.out.below hb).k2.c4.c 2 _ rfl,(K3.out.below hb).k2.c4.c 3 _ rfl,(K3.out.below hb).c6.c 0 _ rfl,(K3.out.below hb).c6.c 1 _ rfl,(K3.out.below hb).c6.c 2 _ rfl,(K3.out.below hb).c6.c 3 _ rfl,(K3.out.below hb).c7.c 0 _ rfl,(K3.out.below hb).c7.c 1 _ rfl,(K3.out.below hb).c7.c 2 _ rfl,(K3.out.below hb).c7.c 3 _ rfl⟩
 have sc := SC.out W (Below.refl _ W)
 have W0 := Lib.hid (Below.refl W.heap.size W).drew
 go_region_held3 (fun V => V.cell? ⟨n + 1 + 1 + 1 + 1 + 1,0,none⟩ = some (.slice (some ⟨n,0,none⟩) 1 1) ∧ V.cell? ⟨n + 1 + 1 + 1 + 1 + 1,1,none⟩ = some (.int .i64 2) ∧ V.cell? ⟨n + 1 + 1 + 1 + 1 + 1,2,none⟩ = some (.slice (some ⟨n + 1,0,none⟩) 1 1) ∧ V.cell? ⟨n + 1 + 1 + 1 + 1 + 1,3,none⟩ = some (.slice (some ⟨n + 1 + 1,0,none⟩) 1 1) ∧ V.cell? ⟨n + 1 + 1 + 1 + 1 + 1,4,none⟩ = some (.slice (some ⟨n + 1 + 1 + 1,0,none⟩) 1 1) ∧ V.cell? ⟨n + 1 + 1 + 1 + 1 + 1,5,none⟩ = some (.slice (some ⟨n + 1 + 1 + 1 + 1,0,none⟩) 1 1) ∧ V.cell? ⟨n + 1 + 1 + 1 + 1 + 1 + 1 + 1,0,none⟩ = some (.slice none 0 0) ∧ V.cell? ⟨n + 1 + 1 + 1 + 1 + 1 + 1 + 1,1,none⟩ = some (.slice none 0 0) ∧ V.cell? ⟨n + 1 + 1 + 1 + 1 + 1 + 1 + 1,2,none⟩ = some (.slice (some ⟨n + 1 + 1 + 1 + 1 + 1 + 1,0,none⟩) 2 2) ∧ V.cell? ⟨b4,0,none⟩ = some (.slice p.A1 (auF false).al.length p.c1) ∧ V.cell? ⟨b4,1,none⟩ = some (.int .i64 (auF false).n) ∧ V.cell? ⟨b4,2,none⟩ = some (.slice p.A2 (auF false).mr.length p.c2) ∧ V.cell? ⟨b4,3,none⟩ = some (.slice p.A3 (auF false).ed.length p.c3) ∧ V.cell? ⟨m,0,none⟩ = some (.slice q.A1 (auF true).al.length q.c1) ∧ V.cell? ⟨m,1,none⟩ = some (.int .i64 (auF true).n) ∧ V.cell? ⟨m,2,none⟩ = some (.slice q.A2 (auF true).mr.length q.c2) ∧ V.cell? ⟨m,3,none⟩ = some (.slice q.A3 (auF true).ed.length q.c3) ∧ V.cell? ⟨m + 1 + 1 + 1 + 1,0,none⟩ = some (.slice (lsP m).A1 lsF.fa.length (lsP m).c1) ∧ V.cell? ⟨m + 1 + 1 + 1 + 1,1,none⟩ = some (.slice (lsP m).A2 lsF.fc.length (lsP m).c2) ∧ V.cell? ⟨m + 1 + 1 + 1 + 1,2,none⟩ = some (.slice (lsP m).A3 lsF.no.length (lsP m).c3) ∧ V.cell? ⟨m + 1 + 1 + 1 + 1,3,none⟩ = some (.slice (lsP m).A4 lsF.nc.length (lsP m).c4)) (first | exact SC.out _ B6.out | exact SC.out _ B5.out | exact SC.out _ B4.out | exact SC.out _ B3.out | exact SC.out _ B2.out | exact SC.out _ B1.out | exact SC.out _ W0.out | exact SC.out _ (Below.refl _ W) | go_keep) (
  first | (go_at_call 8; ((with_reducible refine (H1.out _ W0.out).mono ?_); rintro e w2 ⟨rfl,hb2⟩; have B1 := Lib.hid ((W0.out).trans (hb2.mono (W0.out).size)); clear hb2))
        | (go_at_call 8; ((with_reducible refine (H2.out _ B1.out).mono ?_); rintro e w2 ⟨rfl,hb2⟩; have B2 := Lib.hid ((B1.out).trans (hb2.mono (B1.out).size)); clear hb2))
        | (go_at_call 15; ((with_reducible refine (H3.out _ B2.out).mono ?_); rintro e w2 ⟨rfl,hb2⟩; have B3 := Lib.hid ((B2.out).trans (hb2.mono (B2.out).size)); clear hb2))
        | (go_at_call 15; ((with_reducible refine (H4.out _ B3.out).mono ?_); rintro e w2 ⟨rfl,hb2⟩; have B4 := Lib.hid ((B3.out).trans (hb2.mono (B3.out).size)); clear hb2))
        | (go_at_call 16; ((with_reducible refine (H5.out _ B4.out).mono ?_); rintro e w2 ⟨rfl,hb2⟩; have B5 := Lib.hid ((B4.out).trans (hb2.mono (B4.out).size)); clear hb2))
        | (go_at_call 16; ((with_reducible refine (H6.out _ B5.out).mono ?_); rintro e w2 ⟨rfl,hb2⟩; have B6 := Lib.hid ((B5.out).trans (hb2.mono (B5.out).size)); clear hb2)))
 go_wp2
 go_ret
 exact ⟨rfl,by rw [HN.out]; exact (BW4.out.next B6.out).b⟩
theorem BlkAt.at_ {w : World} {g : Nat} {T : TypeId} {cs : List Value} (h : BlkAt w g T cs) (i : Nat) (u : Value) (hi : cs[i]? = some u) : w.cell? ⟨g,i,none⟩ = some u := (h.cell i).trans hi

set_option maxHeartbeats 1000000 in
theorem Proves_c (al mr : List Int) (n : Nat) (ed : List Ed) (forb unc : List Int) (p : PrP) (kept dist : List Int) (rms : List Rm) (cp : CeP) (w : World) (hp : PrAt w ⟨al,n,mr,ed⟩ forb unc p) (hc : CeAt w kept dist rms cp) (hq : PrRight ⟨al,n,mr,ed⟩ forb unc) (tk : Int) (hT : ∀ y,y ∈ ed → y.ev ≠ tk) :
 Calls Try.prog 10 #[.agg (tpCells ⟨al,n,mr,ed⟩ forb unc p tk).toArray,.agg (ceList kept dist rms cp).toArray] w (Tells (KeptOk ⟨al,n,mr,ed⟩ forb unc kept dist rms) w) := by
 have W0 : Hid (Fro w.heap.size w ((w.alloc (.cells (tpCells ⟨al,n,mr,ed⟩ forb unc p tk).toArray 41)).alloc (.cells (ceList kept dist rms cp).toArray 47))) := ((Fro.here w).alloc _).alloc _
 have C1 : Hid (HasAt w.heap.size (tpCells ⟨al,n,mr,ed⟩ forb unc p tk) ((w.alloc (.cells (tpCells ⟨al,n,mr,ed⟩ forb unc p tk).toArray 41)).alloc (.cells (ceList kept dist rms cp).toArray 47))) := (HasAt.new w _ _ rfl).alloc _
 have C2 : Hid (HasAt (w.heap.size + 1) (ceList kept dist rms cp) ((w.alloc (.cells (tpCells ⟨al,n,mr,ed⟩ forb unc p tk).toArray 41)).alloc (.cells (ceList kept dist rms cp).toArray 47))) := HasAt.new _ _ _ (by simp)
 have HV := Lib.hid (fun W (hb : Below w.heap.size w W) => proves46_c al mr n ed forb unc p kept dist rms cp W (hp.below hb) (hc.below hb) hq tk hT)
 clear hp hc hq hT
 obtain ⟨⟨A1,c1,A2,c2,A3,c3⟩,AF,cF,AU,cU⟩ := p
 obtain ⟨AK,cK,AD,cD,AR,cR⟩ := cp
 dsimp only [tpCells,ceList] at *
 have q0 := C1.out.c 0 _ rfl
 have q1 := C1.out.c 1 _ rfl
 have q2 := C1.out.c 2 _ rfl
 have q3 := C1.out.c 3 _ rfl
 have q4 := C1.out.c 4 _ rfl
 have q5 := C1.out.c 5 _ rfl
 have q6 := C1.out.c 6 _ rfl
 have q7 := C1.out.c 7 _ rfl
 have r0 := C2.out.c 0 _ rfl
 have r1 := C2.out.c 1 _ rfl
 have r2 := C2.out.c 2 _ rfl
 clear C1 C2
 go_enter Try.func10,Try.ntmps10
 go_wp2_with fail
 refine (HV.out _ W0.out.b).mono ?_
 rintro e w1 ⟨r,rfl,hr,hb⟩
 have R1 := Lib.hid (W0.out.next hb)
 have HR := Lib.hid hr
 clear hr hb
 go_wp2
 go_ret
 exact ⟨r,rfl,HR.out,R1.out.b⟩

theorem ProvesZ_c (au : Au) (forb unc : List Int) (p : PrP) (kept dist : List Int) (rms : List Rm) (cp : CeP) (w : World) (hp : PrAt w au forb unc p) (hc : CeAt w kept dist rms cp) (hq : PrRight au forb unc) (tk : Int) (hT : ∀ y,y ∈ au.ed → y.ev ≠ tk) :
 Calls Try.prog 10 #[.agg (tpCells au forb unc p tk).toArray,.agg (ceList kept dist rms cp).toArray] w (Tells (KeptOk au forb unc kept dist rms) w) := by
 obtain ⟨al,n,mr,ed⟩ := au
 have h0 := hq.ha.n0
 obtain ⟨m,hm⟩ := Int.eq_ofNat_of_zero_le h0
 simp only at hm
 subst hm
 exact Proves_c al mr m ed forb unc p kept dist rms cp w hp hc hq tk hT
end Go.Proofs.Ytccfcaejlohahaa
