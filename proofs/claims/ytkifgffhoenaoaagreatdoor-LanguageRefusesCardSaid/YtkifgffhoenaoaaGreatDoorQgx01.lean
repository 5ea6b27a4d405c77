/-
  automaton.Check: which error.
  The functions of language at wrong automata or kinds: they return the error alone.
  The functions of language at wrong automata or kinds, going on.
-/
import Derived.Test.YtkifgffhoenaoaaGreatDoorBas02
import Derived.Test.YtkifgffhoenaoaaGreatDoorBas14
import Derived.Test.YtkifgffhoenaoaaGreatDoorBas08
set_option linter.unusedSimpArgs false
set_option linter.unusedVariables false
namespace Go.Proofs.YtkifgffhoenaoaaGreatDoor
open Go.RowKit
set_option maxRecDepth 100000
def ErrsX (Q : Int → Prop) (w : World) (e : Ending) (w' : World) : Prop := ∃ r : Int,e = .returned (.int .i64 r) ∧ Q r ∧ w = w'
def ErrsXB (Q : Int → Prop) (w : World) (e : Ending) (w' : World) : Prop := ∃ r : Int,e = .returned (.int .i64 r) ∧ Q r ∧ Below w.heap.size w w'
def SetErr (l : List Int) (n r : Int) : Prop := (r = 0 ∧ setOk l n l.length) ∨ ∃ (k : Nat) (x : Int),k < l.length ∧ setOk l n k ∧ l[k]? = some x ∧ ((r = 2 ∧ (x < 0 ∨ n ≤ x)) ∨ (r = 5 ∧ 0 ≤ x ∧ x < n ∧ 0 < k ∧ ∃ y,l[k - 1]? = some y ∧ x ≤ y))
theorem setOk.less {l : List Int} {n : Int} {j k : Nat} (h : setOk l n k) (hj : j ≤ k) : setOk l n j := fun i x hi => h i x (by omega)
theorem SetErr.zero {l : List Int} {n r : Int} (h : SetErr l n r) : r = 0 ↔ setOk l n l.length := by
 constructor
 · rintro rfl
   rcases h with ⟨_,h⟩ | ⟨_,_,_,_,_,⟨h,_⟩ | ⟨h,_⟩⟩
   · exact h
   · cases h
   · cases h
 · intro hs
   rcases h with ⟨h,_⟩ | ⟨k,x,hk,_,hx,⟨_,h⟩ | ⟨_,_,_,h0,y,hy,h⟩⟩
   · exact h
   · have := hs k x hk hx; omega
   · have := (hs k x hk hx).2.2 y h0 hy; omega
theorem SetErr.uniq {l : List Int} {n r q : Int} (h : SetErr l n r) (g : SetErr l n q) : r = q := by
 have hz := h.zero
 have gz := g.zero
 by_cases h0 : r = 0
 · rw [h0,gz.2 (hz.1 h0)]
 have g0 : q ≠ 0 := fun e => h0 (hz.2 (gz.1 e))
 rcases h with ⟨e,_⟩ | ⟨k,x,hk,hok,hx,hd⟩
 · exact absurd e h0
 rcases g with ⟨e,_⟩ | ⟨j,y,hj,gok,gy,gd⟩
 · exact absurd e g0
 have e : k = j := by
  rcases Nat.lt_trichotomy k j with c | c | c
  · have := gok k x c hx
    rcases hd with ⟨_,hd⟩ | ⟨_,_,_,p0,z,hz,hd⟩
    · omega
    · have := this.2.2 z p0 hz; omega
  · exact c
  · have := hok j y c gy
    rcases gd with ⟨_,gd⟩ | ⟨_,_,_,p0,z,hz,gd⟩
    · omega
    · have := this.2.2 z p0 hz; omega
 subst e
 rw [hx] at gy; cases gy
 rcases hd with ⟨rfl,_⟩ | ⟨rfl,_⟩ <;> rcases gd with ⟨rfl,_⟩ | ⟨rfl,_⟩ <;> first | rfl | (exfalso; omega)
def EdErr (a : Au) (r : Int) : Prop := (r = 0 ∧ ∀ i,i < a.ed.length → edOk a i) ∨ ∃ (k : Nat) (x : Ed),k < a.ed.length ∧ (∀ i,i < k → edOk a i) ∧ a.ed[k]? = some x ∧
 ((r = 2 ∧ ¬ (0 ≤ x.src ∧ x.src < a.n ∧ 0 ≤ x.dst ∧ x.dst < a.n)) ∨ (r = 9 ∧ (0 ≤ x.src ∧ x.src < a.n ∧ 0 ≤ x.dst ∧ x.dst < a.n) ∧ ¬ x.ev ∈ a.al) ∨
  (r = 5 ∧ (0 ≤ x.src ∧ x.src < a.n ∧ 0 ≤ x.dst ∧ x.dst < a.n) ∧ x.ev ∈ a.al ∧ 0 < k ∧ ∃ y,a.ed[k - 1]? = some y ∧ ¬ (y.src < x.src ∨ y.src = x.src ∧ y.ev < x.ev)))
theorem EdErr.not {a : Au} {k : Nat} {x : Ed} {r : Int} (hx : a.ed[k]? = some x) (h : (r = 2 ∧ ¬ (0 ≤ x.src ∧ x.src < a.n ∧ 0 ≤ x.dst ∧ x.dst < a.n)) ∨ (r = 9 ∧ (0 ≤ x.src ∧ x.src < a.n ∧ 0 ≤ x.dst ∧ x.dst < a.n) ∧ ¬ x.ev ∈ a.al) ∨
   (r = 5 ∧ (0 ≤ x.src ∧ x.src < a.n ∧ 0 ≤ x.dst ∧ x.dst < a.n) ∧ x.ev ∈ a.al ∧ 0 < k ∧ ∃ y,a.ed[k - 1]? = some y ∧ ¬ (y.src < x.src ∨ y.src = x.src ∧ y.ev < x.ev))) : ¬ edOk a k := fun g => by
 have g1 := g x hx
 rcases h with ⟨_,h⟩ | ⟨_,_,h⟩ | ⟨_,_,_,p0,y,hy,h⟩
 · exact h ⟨g1.1,g1.2.1,g1.2.2.1,g1.2.2.2.1⟩
 · exact h g1.2.2.2.2.1
 · exact h (g1.2.2.2.2.2 y p0 hy)
theorem EdErr.zero {a : Au} {r : Int} (h : EdErr a r) : r = 0 ↔ ∀ i,i < a.ed.length → edOk a i := by
 rcases h with ⟨h,g⟩ | ⟨k,x,hk,_,hx,hd⟩
 · exact ⟨fun _ => g,fun _ => h⟩
 · have hn := EdErr.not hx hd
   constructor
   · rintro rfl
     rcases hd with ⟨h,_⟩ | ⟨h,_⟩ | ⟨h,_⟩ <;> cases h
   · exact fun h => absurd (h k hk) hn
theorem EdErr.uniq {a : Au} {r q : Int} (h : EdErr a r) (g : EdErr a q) : r = q := by
 have hz := h.zero
 have gz := g.zero
 by_cases h0 : r = 0
 · rw [h0,gz.2 (hz.1 h0)]
 have g0 : q ≠ 0 := fun e => h0 (hz.2 (gz.1 e))
 rcases h with ⟨e,_⟩ | ⟨k,x,hk,hok,hx,hd⟩
 · exact absurd e h0
 rcases g with ⟨e,_⟩ | ⟨j,y,hj,gok,gy,gd⟩
 · exact absurd e g0
 have hn := EdErr.not hx hd
 have gn := EdErr.not gy gd
 have e : k = j := by
  rcases Nat.lt_trichotomy k j with c | c | c
  · exact absurd (gok k c) hn
  · exact c
  · exact absurd (hok j c) gn
 subst e
 rw [hx] at gy; cases gy
 rcases hd with ⟨rfl,h1⟩ | ⟨rfl,h1,h2⟩ | ⟨rfl,h1,h2,_⟩ <;> rcases gd with ⟨rfl,g1⟩ | ⟨rfl,g1,g2⟩ | ⟨rfl,g1,g2,_⟩ <;> first | rfl | exact absurd h1 g1 | exact absurd g1 h1 | exact absurd h2 g2 | exact absurd g2 h2
def ChkErr (a : Au) (r : Int) : Prop := (r ≠ 0 ∧ SetErr a.al 32 r) ∨ (setOk a.al 32 a.al.length ∧ ((r = 2 ∧ a.n < 0) ∨ (r = 3 ∧ 4096 < a.n))) ∨ (setOk a.al 32 a.al.length ∧ (0 ≤ a.n ∧ a.n ≤ 4096) ∧ r ≠ 0 ∧ SetErr a.mr a.n r) ∨
 (setOk a.al 32 a.al.length ∧ (0 ≤ a.n ∧ a.n ≤ 4096) ∧ setOk a.mr a.n a.mr.length ∧ EdErr a r)
theorem ChkErr.zero {a : Au} {r : Int} (h : ChkErr a r) : r = 0 ↔ a.Right := by
 rcases h with ⟨h,g⟩ | ⟨_,⟨rfl,h⟩ | ⟨rfl,h⟩⟩ | ⟨_,_,h,g⟩ | ⟨h1,⟨h2,h3⟩,h4,g⟩
 · exact ⟨fun e => absurd e h,fun e => g.zero.2 e.al⟩
 · exact ⟨fun e => absurd e (by decide),fun e => by have := e.n0; omega⟩
 · exact ⟨fun e => absurd e (by decide),fun e => by have := e.n1; omega⟩
 · exact ⟨fun e => absurd e h,fun e => g.zero.2 e.mr⟩
 · exact g.zero.trans ⟨fun h => ⟨h1,h2,h3,h4,h⟩,fun h => h.ed⟩
theorem ChkErr.uniq {a : Au} {r q : Int} (h : ChkErr a r) (g : ChkErr a q) : r = q := by
 rcases h with ⟨h0,h⟩ | ⟨h1,h⟩ | ⟨h1,h2,h0,h⟩ | ⟨h1,h2,h3,h⟩
 · have hn : ¬ setOk a.al 32 a.al.length := fun e => h0 (h.zero.2 e)
   rcases g with ⟨g0,g⟩ | ⟨g1,_⟩ | ⟨g1,_⟩ | ⟨g1,_⟩
   · exact h.uniq g
   · exact absurd g1 hn
   · exact absurd g1 hn
   · exact absurd g1 hn
 · rcases g with ⟨g0,g⟩ | ⟨g1,g⟩ | ⟨g1,g2,_⟩ | ⟨g1,g2,_⟩
   · exact absurd (g.zero.2 h1) g0
   · rcases h with ⟨rfl,h⟩ | ⟨rfl,h⟩ <;> rcases g with ⟨rfl,g⟩ | ⟨rfl,g⟩ <;> first | rfl | (exfalso; omega)
   · exfalso; rcases h with ⟨_,h⟩ | ⟨_,h⟩ <;> omega
   · exfalso; rcases h with ⟨_,h⟩ | ⟨_,h⟩ <;> omega
 · rcases g with ⟨g0,g⟩ | ⟨g1,g⟩ | ⟨g1,g2,g0,g⟩ | ⟨g1,g2,g3,g⟩
   · exact absurd (g.zero.2 h1) g0
   · exfalso; rcases g with ⟨_,h⟩ | ⟨_,h⟩ <;> omega
   · exact h.uniq g
   · exact absurd (h.zero.2 g3) h0
 · rcases g with ⟨g0,g⟩ | ⟨g1,g⟩ | ⟨g1,g2,g0,g⟩ | ⟨g1,g2,g3,g⟩
   · exact absurd (g.zero.2 h1) g0
   · exfalso; rcases g with ⟨_,h⟩ | ⟨_,h⟩ <;> omega
   · exact absurd (g.zero.2 h3) g0
   · exact h.uniq g
theorem ErrsX.two {Q : Int → Prop} {w w' : World} {e : Ending} (h : ErrsX Q w e w') : (∃ r : Int,e = .returned (.int .i64 r) ∧ (r == 0) = false ∧ Hid (r ≠ 0) ∧ Hid (Q r) ∧ w = w') ∨ (e = .returned (.int .i64 0) ∧ Hid (Q 0) ∧ w = w') := by
 obtain ⟨r,rfl,hr,rfl⟩ := h
 by_cases h0 : r = 0
 · subst h0; exact .inr ⟨rfl,hr,rfl⟩
 · exact .inl ⟨r,rfl,by simpa using h0,h0,hr,rfl⟩
theorem ErrsXB.two {Q : Int → Prop} {w w' : World} {e : Ending} (h : ErrsXB Q w e w') : (∃ r : Int,e = .returned (.int .i64 r) ∧ (r == 0) = false ∧ Hid (r ≠ 0) ∧ Hid (Q r) ∧ Below w.heap.size w w') ∨ (e = .returned (.int .i64 0) ∧ Hid (Q 0) ∧ Below w.heap.size w w') := by
 obtain ⟨r,rfl,hr,hb⟩ := h
 by_cases h0 : r = 0
 · subst h0; exact .inr ⟨rfl,hr,hb⟩
 · exact .inl ⟨r,rfl,by simpa using h0,h0,hr,hb⟩
set_option maxHeartbeats 400000 in
theorem checkSetX_c (A : Option Addr) (c : Nat) (l : List Int) (n : Int) (w : World) (h : IntsAt w A l) (hl : l.length ≤ maxLen) :
 Calls Tryz.prog 61 #[.slice A l.length c,.int .i64 n] w (ErrsX (SetErr l n) w) := by
 unfold maxLen at hl
 go_enter Tryz.func61,Tryz.ntmps61
 go_wp2
 go_loop [5,6,9] (fun a b i => ∃ k : Nat,k ≤ l.length ∧ i = .int .i64 k ∧ Hid (setOk l n k)) (fun _ _ i => l.length - (intOf i).toNat)
 case atStart => exact ⟨0,by omega,rfl,fun i x h => absurd h (by omega)⟩
 case round =>
  obtain ⟨k,hk,rfl,hrel⟩ := hrel
  by_cases hlt : k < l.length
  · obtain ⟨b,off,x,rfl,_,hx,hcx⟩ := IntsAt.at h hlt
    by_cases hk0 : k = 0
    · subst hk0
      rw [Nat.add_zero] at hcx
      go_wp2
      any_goals (go_ret; exact ⟨_,rfl,.inr ⟨0,x,hlt,hrel.out,hx,.inl ⟨rfl,by omega⟩⟩,rfl⟩)
      go_round
      case rel => exact ⟨1,by omega,by go_num,hrel.out.step hx (by omega) (by omega) (fun y h => absurd h (by omega))⟩
      case measure => simp [intOf]; omega
    · obtain ⟨y,hy,hcy⟩ := IntsAt.more h (k := k - 1) (by omega)
      go_wp2
      any_goals (go_ret; first | exact ⟨2,rfl,.inr ⟨k,x,hlt,hrel.out,hx,.inl ⟨rfl,by omega⟩⟩,rfl⟩ | exact ⟨5,rfl,.inr ⟨k,x,hlt,hrel.out,hx,.inr ⟨rfl,by omega,by omega,by omega,y,hy,by omega⟩⟩,rfl⟩)
      go_round
      case rel => exact ⟨k+1,by omega,by go_num,hrel.out.step hx (by omega) (by omega) (fun z h hz => by rw [hy] at hz; cases hz; omega)⟩
      case measure => simp [intOf]; omega
  · obtain rfl : k = l.length := by omega
    go_wp2
    go_ret
    exact ⟨0,rfl,.inl ⟨rfl,hrel.out⟩,rfl⟩
set_option maxHeartbeats 1000000 in
theorem checkEdgesX_c (a : Au) (p : AuP) (w : World) (h : Au.At w a p) :
 Calls Tryz.prog 62 #[a.val p] w (ErrsXB (EdErr a) w) := by
 have B0 : Hid (Below w.heap.size w (w.alloc (.cells (auCells a p).toArray 31))) := Below.new _ _
 have W0 : Hid (Fro (w.heap.size + 1) (w.alloc (.cells (auCells a p).toArray 31)) (w.alloc (.cells (auCells a p).toArray 31))) := Fro.refl (by simp)
 have C0 : Hid (HasAt w.heap.size (auCells a p) (w.alloc (.cells (auCells a p).toArray 31))) := HasAt.new w _ _ rfl
 have HP := Lib.hid h
 have lal := h.lal
 have led := h.led
 clear h
 obtain ⟨al,n,mr,ed⟩ := a
 obtain ⟨A1,c1,A2,c2,A3,c3⟩ := p
 dsimp only [Au.val,auCells] at *
 have q3 := C0.out.c 3 _ rfl
 go_enter Tryz.func62,Tryz.ntmps62
 go_wp2_with fail
 generalize hW : w.alloc (.cells #[.slice A1 al.length c1,.int .i64 n,.slice A2 mr.length c2,.slice A3 ed.length c3] 31) = W at *
 clear hW q3
 go_loopw [3,9] (fun _ i wr => ∃ k : Nat,k ≤ ed.length ∧ i = .int .i64 k ∧ Hid (Fro (w.heap.size + 1) W wr) ∧ Hid (∀ i,i < k → edOk ⟨al,n,mr,ed⟩ i)) (fun _ i _ => ed.length - (intOf i).toNat)
 case atStart => exact ⟨0,by omega,rfl,W0.out,fun i h => absurd h (by omega)⟩
 case round =>
  obtain ⟨k,hk,rfl,BW,HE⟩ := hrel
  have C2 := Lib.hid (C0.out.fro BW.out (Nat.lt_succ_self _))
  have q0 := C2.out.c 0 _ rfl
  have q1 := C2.out.c 1 _ rfl
  have q3 := C2.out.c 3 _ rfl
  have hz := C2.out.z
  have BWW : Hid (Below w.heap.size w wr) := B0.out.trans (BW.out.b.mono (by omega))
  by_cases hlt : k < ed.length
  · obtain ⟨b,off,x,hA3,hb,hx,e0,e1,e2⟩ := EdsAt.at ((HP.out.below BWW.out).ed) hlt
    obtain ⟨src,ev,dst⟩ := x
    dsimp only at hA3 e0 e1 e2
    subst hA3
    have HX := Lib.hid hx
    clear hx
    by_cases hs : 0 ≤ src ∧ src < n ∧ 0 ≤ dst ∧ dst < n
    · obtain ⟨s0,s1,d0,d1⟩ := hs
      have BN : Hid (Fro (w.heap.size + 1) W (wr.alloc (.cells #[.int .i64 src,.int .i64 ev,.int .i64 dst] 67))) := BW.out.alloc _
      have BNN : Hid (Below w.heap.size w (wr.alloc (.cells #[.int .i64 src,.int .i64 ev,.int .i64 dst] 67))) := B0.out.trans (BN.out.b.mono (by omega))
      go_wp2_with fail
      refine (containsV_c A1 c1 al ev _ ((HP.out.below BNN.out).al) lal).mono ?_
      intro e w1 hs; rcases hs.no1 with ⟨rfl,SE,rfl⟩ | ⟨rfl,SE,rfl⟩
      · clear hs
        go_wp2
        go_ret
        exact ⟨9,rfl,.inr ⟨k,_,hlt,HE.out,HX.out,.inr (.inl ⟨rfl,⟨s0,s1,d0,d1⟩,SE.out⟩)⟩,BNN.out⟩
      clear hs
      by_cases hk0 : k = 0
      · subst hk0
        go_wp2
        go_roundw
        case rel => exact ⟨1,by omega,by go_num,BN.out,fun i hi => by
         obtain rfl : i = 0 := by omega
         intro z hz
         rw [HX.out] at hz; cases hz
         exact ⟨s0,s1,d0,d1,SE.out,fun y h => absurd h (by omega)⟩⟩
        case measure => simp [intOf]; omega
      · obtain ⟨y,hy,f0,f1,f2⟩ := EdsAt.more ((HP.out.below BWW.out).ed) (k := k - 1) (by simp only; omega)
        obtain ⟨ysrc,yev,ydst⟩ := y
        dsimp only at f0 f1 f2
        have HY := Lib.hid hy
        clear hy
        have hk1 : 0 < k := by omega
        have hk2 : ((k : Int) == 0) = false := by simpa using hk0
        have BN2 : Hid (Fro (w.heap.size + 1) W ((wr.alloc (.cells #[.int .i64 src,.int .i64 ev,.int .i64 dst] 67)).alloc (.cells #[.int .i64 ysrc,.int .i64 yev,.int .i64 ydst] 67))) := BN.out.alloc _
        have BN2N : Hid (Below w.heap.size w ((wr.alloc (.cells #[.int .i64 src,.int .i64 ev,.int .i64 dst] 67)).alloc (.cells #[.int .i64 ysrc,.int .i64 yev,.int .i64 ydst] 67))) := B0.out.trans (BN2.out.b.mono (by omega))
        by_cases hord : ysrc < src ∨ ysrc = src ∧ yev < ev
        · have HO := Lib.hid hord
          have g1 : decide (src < ysrc) = false := by simp; omega
          by_cases g2 : src = ysrc
          · subst g2
            have g3 : decide (ev ≤ yev) = false := by simp; omega
            have HEV : Hid (yev < ev) := by unfold Hid; omega
            clear hord
            go_wp2
            go_roundw
            case rel => exact ⟨k + 1,by omega,by go_num,BN2.out,fun i hi => by
             by_cases e : i = k
             · subst e
               intro z hz
               rw [HX.out] at hz; cases hz
               exact ⟨s0,s1,d0,d1,SE.out,fun y _ h => by rw [HY.out] at h; cases h; exact .inr ⟨rfl,HEV.out⟩⟩
             · exact HE.out i (by omega)⟩
            case measure => simp [intOf]; omega
          · have g2' : (src == ysrc) = false := by simpa using g2
            clear hord g2
            go_wp2
            go_roundw
            case rel => exact ⟨k + 1,by omega,by go_num,BN2.out,fun i hi => by
             by_cases e : i = k
             · subst e
               intro z hz
               rw [HX.out] at hz; cases hz
               exact ⟨s0,s1,d0,d1,SE.out,fun y _ h => by rw [HY.out] at h; cases h; exact HO.out⟩
             · exact HE.out i (by omega)⟩
            case measure => simp [intOf]; omega
        · have HO := Lib.hid hord
          have NO : Hid (EdErr ⟨al,n,mr,ed⟩ 5) := .inr ⟨k,_,hlt,HE.out,HX.out,.inr (.inr ⟨rfl,⟨s0,s1,d0,d1⟩,SE.out,hk1,_,HY.out,HO.out⟩)⟩
          by_cases g1 : src < ysrc
          · clear hord
            go_wp2
            go_ret
            exact ⟨5,rfl,NO.out,BN2N.out⟩
          · have g1' : decide (src < ysrc) = false := by simpa using g1
            obtain rfl : src = ysrc := by omega
            have g3 : decide (ev ≤ yev) = true := by simp; omega
            clear hord
            go_wp2
            go_ret
            exact ⟨5,rfl,NO.out,BN2N.out⟩
    · go_wp2
      any_goals (go_ret; exact ⟨2,rfl,.inr ⟨k,_,hlt,HE.out,HX.out,.inl ⟨rfl,by simp only; omega⟩⟩,BWW.out.alloc (by omega) _⟩)
  · obtain rfl : k = ed.length := by omega
    go_wp2
    go_ret
    exact ⟨0,rfl,.inl ⟨rfl,HE.out⟩,BWW.out⟩
set_option maxHeartbeats 1000000 in
theorem CheckX_c (a : Au) (p : AuP) (w : World) (h : Au.At w a p) :
 Calls Tryz.prog 19 #[a.val p] w (ErrsXB (ChkErr a) w) := by
 have B0 : Hid (Below w.heap.size w (w.alloc (.cells (auCells a p).toArray 31))) := Below.new _ _
 have C0 : Hid (HasAt w.heap.size (auCells a p) (w.alloc (.cells (auCells a p).toArray 31))) := HasAt.new w _ _ rfl
 have HP := Lib.hid h
 have lal := h.lal
 have lmk := h.lmk
 clear h
 obtain ⟨al,n,mr,ed⟩ := a
 obtain ⟨A1,c1,A2,c2,A3,c3⟩ := p
 dsimp only [Au.val,auCells] at *
 have q0 := C0.out.c 0 _ rfl
 have q1 := C0.out.c 1 _ rfl
 have q2 := C0.out.c 2 _ rfl
 have q3 := C0.out.c 3 _ rfl
 go_enter Tryz.func19,Tryz.ntmps19
 go_wp2_with fail
 generalize hW : w.alloc (.cells #[.slice A1 al.length c1,.int .i64 n,.slice A2 mr.length c2,.slice A3 ed.length c3] 31) = W at *
 clear hW
 refine (checkSetX_c A1 c1 al 32 W ((HP.out.below B0.out).al) (by unfold maxLen; omega)).mono ?_
 intro e w1 hs
 rcases hs.two with ⟨r,rfl,hr,HR,S1,rfl⟩ | ⟨rfl,S1,rfl⟩
 · clear hs
   go_wp2
   go_ret
   exact ⟨r,rfl,.inl ⟨HR.out,S1.out⟩,B0.out⟩
 clear hs
 have S1 := Lib.hid (S1.out.zero.1 rfl)
 by_cases hn0 : n < 0
 · go_wp2
   go_ret
   exact ⟨2,rfl,.inr (.inl ⟨S1.out,.inl ⟨rfl,hn0⟩⟩),B0.out⟩
 by_cases hn1 : 4096 < n
 · go_wp2
   go_ret
   exact ⟨3,rfl,.inr (.inl ⟨S1.out,.inr ⟨rfl,hn1⟩⟩),B0.out⟩
 go_wp2_with fail
 refine (checkSetX_c A2 c2 mr n W ((HP.out.below B0.out).mr) (by unfold maxLen; omega)).mono ?_
 intro e w1 hs
 rcases hs.two with ⟨r,rfl,hr,HR,S2,rfl⟩ | ⟨rfl,S2,rfl⟩
 · clear hs
   go_wp2
   go_ret
   exact ⟨r,rfl,.inr (.inr (.inl ⟨S1.out,⟨by omega,by omega⟩,HR.out,S2.out⟩)),B0.out⟩
 clear hs
 have S2 := Lib.hid (S2.out.zero.1 rfl)
 go_wp2_with fail
 refine (checkEdgesX_c ⟨al,n,mr,ed⟩ ⟨A1,c1,A2,c2,A3,c3⟩ W (HP.out.below B0.out)).mono ?_
 rintro e w2 ⟨r,rfl,hr,hb⟩
 have HR := Lib.hid hr
 have HB := Lib.hid (B0.out.trans (hb.mono B0.out.size))
 clear hr hb
 go_wp2
 go_ret
 exact ⟨r,rfl,.inr (.inr (.inr ⟨S1.out,⟨by omega,by omega⟩,S2.out,HR.out⟩)),HB.out⟩
def ChkLs (kind : Int) (l : List Au) (r : Int) : Prop := (∃ (k : Nat) (a : Au),l[k]? = some a ∧ (∀ j b,j < k → l[j]? = some b → b.Right) ∧ ChkErr a r ∧ r ≠ 0) ∨ ((∀ b,b ∈ l → b.Right) ∧ ((kind = 1 ∨ kind = 2) ∧ r = 0 ∨ ¬ (kind = 1 ∨ kind = 2) ∧ r = 11))
theorem ChkLs.zero' {kind : Int} {l : List Au} {r : Int} (h : ChkLs kind l r) (h0 : r = 0) : (∀ b,b ∈ l → b.Right) ∧ (kind = 1 ∨ kind = 2) := by
 rcases h with ⟨_,_,_,_,_,h⟩ | ⟨h,⟨k,_⟩ | ⟨_,k⟩⟩
 · exact absurd h0 h
 · exact ⟨h,k⟩
 · omega
theorem ChkLs.zero {kind : Int} {l : List Au} {r : Int} (h : ChkLs kind l r) (h0 : r = 0) : (∀ b,b ∈ l → b.Right) ∧ (kind = 1 ∨ kind = 2) := h.zero' h0
theorem ChkLs.two {kind r one two : Int} {a b : Au} (h : ChkLs kind [a,b] r) (h1 : ChkErr a one) (h2 : one = 0 → ChkErr b two) (h3 : one ≠ 0 → two = one) : r = if two = 0 then (if kind = 1 ∨ kind = 2 then 0 else 11) else two := by
 rcases h with ⟨k,x,hx,hj,hc,h0⟩ | ⟨h,hk⟩
 · have hk : k < 2 := by have := (List.getElem?_eq_some_iff.1 hx).1; simpa using this
   obtain rfl | rfl : k = 0 ∨ k = 1 := by omega
   · obtain rfl : a = x := by simpa using hx
     obtain rfl := h1.uniq hc
     rw [h3 h0,if_neg h0]
   · obtain rfl : b = x := by simpa using hx
     have ha : one = 0 := h1.zero.2 (hj 0 a (by omega) rfl)
     obtain rfl := (h2 ha).uniq hc
     rw [if_neg h0]
 · have ha : one = 0 := h1.zero.2 (h a (by simp))
   have hb : two = 0 := (h2 ha).zero.2 (h b (by simp))
   rw [if_pos hb]
   rcases hk with ⟨k,rfl⟩ | ⟨k,rfl⟩
   · rw [if_pos k]
   · rw [if_neg k]
theorem ChkLs.one {kind r one : Int} {a : Au} (h : ChkLs kind [a] r) (h1 : ChkErr a one) : r = if one = 0 then (if kind = 1 ∨ kind = 2 then 0 else 11) else one := by
 rcases h with ⟨k,x,hx,hj,hc,h0⟩ | ⟨h,hk⟩
 · have hk : k < 1 := by have := (List.getElem?_eq_some_iff.1 hx).1; simpa using this
   obtain rfl : k = 0 := by omega
   obtain rfl : a = x := by simpa using hx
   obtain rfl := h1.uniq hc
   rw [if_neg h0]
 · have ha : one = 0 := h1.zero.2 (h a (by simp))
   rw [if_pos ha]
   rcases hk with ⟨k,rfl⟩ | ⟨k,rfl⟩
   · rw [if_pos k]
   · rw [if_neg k]
def GivesX (f : Int → Value) (Q : Int → Prop) (w : World) (e : Ending) (w' : World) : Prop := ∃ r,e = .returned (f r) ∧ r ≠ 0 ∧ Q r ∧ Below w.heap.size w w'
theorem AuE.one (T : TypeId) (a : Au) (p : AuP) (w : World) (ha : Au.At w a p) : SlAt AuE 4 (w.alloc (.cells (auCells a p).toArray T)) (some ⟨w.heap.size,0,none⟩) [a] := fun _ => ⟨w.heap.size,0,rfl,by simp,fun i x hx => by
 have hi := (List.getElem?_eq_some_iff.1 hx).1
 simp only [List.length_cons,List.length_nil] at hi
 obtain rfl : i = 0 := by omega
 obtain rfl : a = x := by simpa using hx
 refine ⟨_,rfl,⟨p,rfl,ha.below (Below.new w _)⟩,fun j v hj => ?_⟩
 have := (new_cell w T _ _ _ rfl).trans hj
 simpa using this⟩
set_option maxHeartbeats 1000000 in
theorem checkX_c (A : Option Addr) (c : Nat) (l : List Au) (kind : Int) (w : World) (h : SlAt AuE 4 w A l) (hl : l.length ≤ 140737488355328) :
 Calls Tryz.prog 45 #[.int .i64 kind,.slice A l.length c] w (ErrsXB (ChkLs kind l) w) := by
 have H := Lib.hid h
 clear h
 go_enter Tryz.func45,Tryz.ntmps45
 go_wp2_with fail
 go_loopw [10] (fun i wr => ∃ k : Nat,k ≤ l.length ∧ i = .int .i64 k ∧ Hid (∀ j b,j < k → l[j]? = some b → b.Right) ∧ Hid (Fro w.heap.size w wr)) (fun i _ => l.length - (intOf i).toNat)
 case atStart => exact ⟨0,by omega,rfl,fun j b h => absurd h (by omega),Fro.here w⟩
 case round =>
  obtain ⟨k,hkl,rfl,HJ,R⟩ := hrel
  by_cases hlt : k < l.length
  · obtain ⟨b,off,a,vs,rfl,hb,ha,hvl,⟨p,hvs,hat⟩,hc⟩ := SlAt.at (H.out.below AuE.stays R.out.b) hlt
    subst hvs
    have q0 : wr.cell? ⟨b,off + k * 4,none⟩ = some (.slice p.A1 a.al.length p.c1) := by simpa using hc 0 _ rfl
    have q1 : wr.cell? ⟨b,off + k * 4 + 1,none⟩ = some (.int .i64 a.n) := hc 1 _ rfl
    have q2 : wr.cell? ⟨b,off + k * 4 + 2,none⟩ = some (.slice p.A2 a.mr.length p.c2) := hc 2 _ rfl
    have q3 : wr.cell? ⟨b,off + k * 4 + 3,none⟩ = some (.slice p.A3 a.ed.length p.c3) := hc 3 _ rfl
    have C := Lib.hid (CheckX_c a p (wr.alloc (.cells #[.slice p.A1 a.al.length p.c1,.int .i64 a.n,.slice p.A2 a.mr.length p.c2,.slice p.A3 a.ed.length p.c3] 31)) (hat.below (Below.new _ _)))
    have HA := Lib.hid ha
    clear ha hc hat hvl
    have R1 : Hid (Fro w.heap.size w (wr.alloc (.cells #[.slice p.A1 a.al.length p.c1,.int .i64 a.n,.slice p.A2 a.mr.length p.c2,.slice p.A3 a.ed.length p.c3] 31))) := R.out.alloc _
    go_wp2_with fail
    refine C.out.mono ?_
    intro e w2 hs
    rcases hs.two with ⟨r,rfl,hr,HR,HC,hb2⟩ | ⟨rfl,HC,hb2⟩
    · have R2 := Lib.hid (R1.out.next hb2)
      clear hs hb2
      go_wp2
      go_ret
      exact ⟨r,rfl,.inl ⟨k,a,HA.out,HJ.out,HC.out,HR.out⟩,R2.out.b⟩
    · have R2 := Lib.hid (R1.out.next hb2)
      clear hs hb2
      go_wp2
      go_roundw
      case rel => exact ⟨k + 1,by omega,by go_num,fun j b hj hb => by
       by_cases e : j = k
       · subst e; rw [HA.out] at hb; cases hb; exact HC.out.zero.1 rfl
       · exact HJ.out j b (by omega) hb,R2.out⟩
      case measure => simp [intOf]; omega
  · obtain rfl : k = l.length := by omega
    have HALL : Hid (∀ b,b ∈ l → b.Right) := fun b hb => by
     obtain ⟨j,hj,e⟩ := List.mem_iff_getElem.1 hb
     exact HJ.out j b hj (by rw [List.getElem?_eq_getElem hj,e])
    by_cases k1 : kind = 1
    · subst k1
      go_wp2
      go_ret
      exact ⟨0,rfl,.inr ⟨HALL.out,.inl ⟨.inl rfl,rfl⟩⟩,R.out.b⟩
    by_cases k2 : kind = 2
    · subst k2
      go_wp2
      go_ret
      exact ⟨0,rfl,.inr ⟨HALL.out,.inl ⟨.inr rfl,rfl⟩⟩,R.out.b⟩
    have e1 : (kind == 1) = false := by simpa using k1
    have e2 : (kind == 2) = false := by simpa using k2
    have e3 : (kind != 1) = true := by simpa using k1
    have e4 : (kind != 2) = true := by simpa using k2
    have HK : Hid (¬ (kind = 1 ∨ kind = 2)) := by rintro (h | h); exact k1 h; exact k2 h
    clear k1 k2
    go_wp2
    go_ret
    exact ⟨11,rfl,.inr ⟨HALL.out,.inr ⟨HK.out,rfl⟩⟩,R.out.b⟩
set_option maxHeartbeats 4000000 in
theorem includedX_c (a : Au) (p : AuP) (b : Au) (q : AuP) (kind : Int) (w : World) (ha : Au.At w a p) (hb : Au.At w b q) (hbad : ¬ (a.Right ∧ b.Right ∧ (kind = 1 ∨ kind = 2))) :
 Calls Tryz.prog 21 #[a.val p,b.val q,.int .i64 kind] w (GivesX (fun r => .tuple #[.slice none 0 0,.bool false,.int .i64 r]) (ChkLs kind [a,b]) w) := by
 have HBAD : Hid (∀ r,ChkLs kind [a,b] r → r ≠ 0) := fun r h h0 => hbad (by have := (h.zero h0); simpa [and_assoc] using this)
 have Ha := Lib.hid ha
 have Hb := Lib.hid hb
 clear hbad ha hb
 obtain ⟨al,n,mr,ed⟩ := a
 obtain ⟨A1,c1,A2,c2,A3,c3⟩ := p
 obtain ⟨bl,m,ms,es⟩ := b
 obtain ⟨B1,d1,B2,d2,B3,d3⟩ := q
 try dsimp only [Au.val] at *
 go_enter Tryz.func21,Tryz.ntmps21
 go_upto_region 1 with fail
 refine wp_world (fun W => Sep w.heap.size w [eBlk (w.heap.size + 2) 3 [.int .i64 kind],eBlk (w.heap.size + 1) 31 [.slice B1 bl.length d1,.int .i64 m,.slice B2 ms.length d2,.slice B3 es.length d3],eBlk w.heap.size 31 [.slice A1 al.length c1,.int .i64 n,.slice A2 mr.length c2,.slice A3 ed.length c3]] W) ?_ fun W S => ?_
 · exact (((Sep.here w).alloc' _ [_,_,_,_] rfl rfl).alloc' _ [_,_,_,_] (g := w.heap.size + 1) rfl (by simp)).alloc' _ [_] (g := w.heap.size + 2) rfl (by simp)
 have S0 := Lib.hid S
 clear S
 have x00 := ckC S0.out 0 rfl 0 rfl
 have x10 := ckC S0.out 1 rfl 0 rfl
 have x11 := ckC S0.out 1 rfl 1 rfl
 have x12 := ckC S0.out 1 rfl 2 rfl
 have x13 := ckC S0.out 1 rfl 3 rfl
 have x20 := ckC S0.out 2 rfl 0 rfl
 have x21 := ckC S0.out 2 rfl 1 rfl
 have x22 := ckC S0.out 2 rfl 2 rfl
 have x23 := ckC S0.out 2 rfl 3 rfl
 have CK : Hid (SlAt AuE 4 (W.alloc (.cells #[.slice A1 al.length c1,.int .i64 n,.slice A2 mr.length c2,.slice A3 ed.length c3,.slice B1 bl.length d1,.int .i64 m,.slice B2 ms.length d2,.slice B3 es.length d3] 31)) (some ⟨W.heap.size,0,none⟩) [(⟨al,n,mr,ed⟩ : Au),(⟨bl,m,ms,es⟩ : Au)]) := AuE.two _ _ _ ⟨A1,c1,A2,c2,A3,c3⟩ ⟨B1,d1,B2,d2,B3,d3⟩ W (Ha.out.below S0.out.below) (Hb.out.below S0.out.below)
 go_wp2_with fail
 refine (checkX_c (some ⟨W.heap.size,0,none⟩) 2 [(⟨al,n,mr,ed⟩ : Au),(⟨bl,m,ms,es⟩ : Au)] kind _ CK.out (by simp)).mono ?_
 rintro e w1 ⟨r,rfl,hr,hb⟩
 have hr0 := HBAD.out r hr
 have hrb : (r == 0) = false := by simpa using hr0
 have HR := Lib.hid hr
 have HR0 := Lib.hid hr0
 have S1 : Hid (Sep w.heap.size w [eBlk (w.heap.size + 2) 3 [.int .i64 kind],eBlk (w.heap.size + 1) 31 [.slice B1 bl.length d1,.int .i64 m,.slice B2 ms.length d2,.slice B3 es.length d3],eBlk w.heap.size 31 [.slice A1 al.length c1,.int .i64 n,.slice A2 mr.length c2,.slice A3 ed.length c3]] w1) := (S0.out.next (Below.new W _)).next hb
 clear S0 hb hr hr0 CK HBAD x00 x10 x11 x12 x13 x20 x21 x22 x23
 go_wp2_with fail
 refine bodyPost_ret (v := .tuple #[.slice none 0 0,.bool false,.int .i64 r]) (by simp [results,Tryz.results21,go_sem]) rfl ?_
 exact ⟨r,rfl,HR0.out,HR.out,S1.out.below⟩
set_option maxHeartbeats 4000000 in
theorem equalX_c (a : Au) (p : AuP) (b : Au) (q : AuP) (kind : Int) (w : World) (ha : Au.At w a p) (hb : Au.At w b q) (hbad : ¬ (a.Right ∧ b.Right ∧ (kind = 1 ∨ kind = 2))) :
 Calls Tryz.prog 22 #[a.val p,b.val q,.int .i64 kind] w (GivesX (fun r => .tuple #[.slice none 0 0,.bool false,.int .i64 r]) (ChkLs kind [a,b]) w) := by
 have HBAD : Hid (∀ r,ChkLs kind [a,b] r → r ≠ 0) := fun r h h0 => hbad (by have := (h.zero h0); simpa [and_assoc] using this)
 have Ha := Lib.hid ha
 have Hb := Lib.hid hb
 clear hbad ha hb
 obtain ⟨al,n,mr,ed⟩ := a
 obtain ⟨A1,c1,A2,c2,A3,c3⟩ := p
 obtain ⟨bl,m,ms,es⟩ := b
 obtain ⟨B1,d1,B2,d2,B3,d3⟩ := q
 try dsimp only [Au.val] at *
 go_enter Tryz.func22,Tryz.ntmps22
 go_upto_region 1 with fail
 refine wp_world (fun W => Sep w.heap.size w [eBlk (w.heap.size + 2) 3 [.int .i64 kind],eBlk (w.heap.size + 1) 31 [.slice B1 bl.length d1,.int .i64 m,.slice B2 ms.length d2,.slice B3 es.length d3],eBlk w.heap.size 31 [.slice A1 al.length c1,.int .i64 n,.slice A2 mr.length c2,.slice A3 ed.length c3]] W) ?_ fun W S => ?_
 · exact (((Sep.here w).alloc' _ [_,_,_,_] rfl rfl).alloc' _ [_,_,_,_] (g := w.heap.size + 1) rfl (by simp)).alloc' _ [_] (g := w.heap.size + 2) rfl (by simp)
 have S0 := Lib.hid S
 clear S
 have x00 := ckC S0.out 0 rfl 0 rfl
 have x10 := ckC S0.out 1 rfl 0 rfl
 have x11 := ckC S0.out 1 rfl 1 rfl
 have x12 := ckC S0.out 1 rfl 2 rfl
 have x13 := ckC S0.out 1 rfl 3 rfl
 have x20 := ckC S0.out 2 rfl 0 rfl
 have x21 := ckC S0.out 2 rfl 1 rfl
 have x22 := ckC S0.out 2 rfl 2 rfl
 have x23 := ckC S0.out 2 rfl 3 rfl
 have CK : Hid (SlAt AuE 4 (W.alloc (.cells #[.slice A1 al.length c1,.int .i64 n,.slice A2 mr.length c2,.slice A3 ed.length c3,.slice B1 bl.length d1,.int .i64 m,.slice B2 ms.length d2,.slice B3 es.length d3] 31)) (some ⟨W.heap.size,0,none⟩) [(⟨al,n,mr,ed⟩ : Au),(⟨bl,m,ms,es⟩ : Au)]) := AuE.two _ _ _ ⟨A1,c1,A2,c2,A3,c3⟩ ⟨B1,d1,B2,d2,B3,d3⟩ W (Ha.out.below S0.out.below) (Hb.out.below S0.out.below)
 go_wp2_with fail
 refine (checkX_c (some ⟨W.heap.size,0,none⟩) 2 [(⟨al,n,mr,ed⟩ : Au),(⟨bl,m,ms,es⟩ : Au)] kind _ CK.out (by simp)).mono ?_
 rintro e w1 ⟨r,rfl,hr,hb⟩
 have hr0 := HBAD.out r hr
 have hrb : (r == 0) = false := by simpa using hr0
 have HR := Lib.hid hr
 have HR0 := Lib.hid hr0
 have S1 : Hid (Sep w.heap.size w [eBlk (w.heap.size + 2) 3 [.int .i64 kind],eBlk (w.heap.size + 1) 31 [.slice B1 bl.length d1,.int .i64 m,.slice B2 ms.length d2,.slice B3 es.length d3],eBlk w.heap.size 31 [.slice A1 al.length c1,.int .i64 n,.slice A2 mr.length c2,.slice A3 ed.length c3]] w1) := (S0.out.next (Below.new W _)).next hb
 clear S0 hb hr hr0 CK HBAD x00 x10 x11 x12 x13 x20 x21 x22 x23
 go_wp2_with fail
 refine bodyPost_ret (v := .tuple #[.slice none 0 0,.bool false,.int .i64 r]) (by simp [results,Tryz.results22,go_sem]) rfl ?_
 exact ⟨r,rfl,HR0.out,HR.out,S1.out.below⟩
set_option maxHeartbeats 4000000 in
theorem leastX_c (a : Au) (p : AuP) (kind : Int) (w : World) (ha : Au.At w a p) (hbad : ¬ (a.Right ∧ (kind = 1 ∨ kind = 2))) :
 Calls Tryz.prog 25 #[a.val p,.int .i64 kind] w (GivesX (fun r => .tuple #[.slice none 0 0,.bool false,.int .i64 r]) (ChkLs kind [a]) w) := by
 have HBAD : Hid (∀ r,ChkLs kind [a] r → r ≠ 0) := fun r h h0 => hbad (by have := (h.zero h0); simpa [and_assoc] using this)
 have Ha := Lib.hid ha
 clear hbad ha
 obtain ⟨al,n,mr,ed⟩ := a
 obtain ⟨A1,c1,A2,c2,A3,c3⟩ := p
 try dsimp only [Au.val] at *
 go_enter Tryz.func25,Tryz.ntmps25
 go_upto_region 1 with fail
 refine wp_world (fun W => Sep w.heap.size w [eBlk (w.heap.size + 1) 3 [.int .i64 kind],eBlk w.heap.size 31 [.slice A1 al.length c1,.int .i64 n,.slice A2 mr.length c2,.slice A3 ed.length c3]] W) ?_ fun W S => ?_
 · exact ((Sep.here w).alloc' _ [_,_,_,_] rfl rfl).alloc' _ [_] (g := w.heap.size + 1) rfl (by simp)
 have S0 := Lib.hid S
 clear S
 have x00 := ckC S0.out 0 rfl 0 rfl
 have x10 := ckC S0.out 1 rfl 0 rfl
 have x11 := ckC S0.out 1 rfl 1 rfl
 have x12 := ckC S0.out 1 rfl 2 rfl
 have x13 := ckC S0.out 1 rfl 3 rfl
 have CK : Hid (SlAt AuE 4 (W.alloc (.cells #[.slice A1 al.length c1,.int .i64 n,.slice A2 mr.length c2,.slice A3 ed.length c3] 31)) (some ⟨W.heap.size,0,none⟩) [(⟨al,n,mr,ed⟩ : Au)]) := AuE.one _ _ ⟨A1,c1,A2,c2,A3,c3⟩ W (Ha.out.below S0.out.below)
 go_wp2_with fail
 refine (checkX_c (some ⟨W.heap.size,0,none⟩) 1 [(⟨al,n,mr,ed⟩ : Au)] kind _ CK.out (by simp)).mono ?_
 rintro e w1 ⟨r,rfl,hr,hb⟩
 have hr0 := HBAD.out r hr
 have hrb : (r == 0) = false := by simpa using hr0
 have HR := Lib.hid hr
 have HR0 := Lib.hid hr0
 have S1 : Hid (Sep w.heap.size w [eBlk (w.heap.size + 1) 3 [.int .i64 kind],eBlk w.heap.size 31 [.slice A1 al.length c1,.int .i64 n,.slice A2 mr.length c2,.slice A3 ed.length c3]] w1) := (S0.out.next (Below.new W _)).next hb
 clear S0 hb hr hr0 CK HBAD x00 x10 x11 x12 x13
 go_wp2_with fail
 refine bodyPost_ret (v := .tuple #[.slice none 0 0,.bool false,.int .i64 r]) (by simp [results,Tryz.results25,go_sem]) rfl ?_
 exact ⟨r,rfl,HR0.out,HR.out,S1.out.below⟩
set_option maxHeartbeats 4000000 in
theorem combineX_c (a : Au) (p : AuP) (b : Au) (q : AuP) (F : FuncId) (w : World) (ha : Au.At w a p) (hb : Au.At w b q) (hbad : ¬ (a.Right ∧ b.Right)) :
 Calls Tryz.prog 67 #[a.val p,b.val q,.func (.func F) #[] #[]] w (GivesX (fun r => .tuple #[.agg #[.slice none 0 0,.int .i64 0,.slice none 0 0,.slice none 0 0],.int .i64 r]) (ChkLs 2 [a,b]) w) := by
 have HBAD : Hid (∀ r,ChkLs 2 [a,b] r → r ≠ 0) := fun r h h0 => hbad (by have := (h.zero h0); simpa [and_assoc] using this)
 have Ha := Lib.hid ha
 have Hb := Lib.hid hb
 clear hbad ha hb
 obtain ⟨al,n,mr,ed⟩ := a
 obtain ⟨A1,c1,A2,c2,A3,c3⟩ := p
 obtain ⟨bl,m,ms,es⟩ := b
 obtain ⟨B1,d1,B2,d2,B3,d3⟩ := q
 try dsimp only [Au.val] at *
 go_enter Tryz.func67,Tryz.ntmps67
 go_upto_region 1 with fail
 refine wp_world (fun W => Sep w.heap.size w [eBlk (w.heap.size + 3) 31 [.slice none 0 0,.int .i64 0,.slice none 0 0,.slice none 0 0],eBlk (w.heap.size + 2) 113 [.func (.func F) #[] #[]],eBlk (w.heap.size + 1) 31 [.slice B1 bl.length d1,.int .i64 m,.slice B2 ms.length d2,.slice B3 es.length d3],eBlk w.heap.size 31 [.slice A1 al.length c1,.int .i64 n,.slice A2 mr.length c2,.slice A3 ed.length c3]] W) ?_ fun W S => ?_
 · exact ((((Sep.here w).alloc' _ [_,_,_,_] rfl rfl).alloc' _ [_,_,_,_] (g := w.heap.size + 1) rfl (by simp)).alloc' _ [_] (g := w.heap.size + 2) rfl (by simp)).alloc' _ [_,_,_,_] (g := w.heap.size + 3) rfl (by simp)
 have S0 := Lib.hid S
 clear S
 have x00 := ckC S0.out 0 rfl 0 rfl
 have x01 := ckC S0.out 0 rfl 1 rfl
 have x02 := ckC S0.out 0 rfl 2 rfl
 have x03 := ckC S0.out 0 rfl 3 rfl
 have x10 := ckC S0.out 1 rfl 0 rfl
 have x20 := ckC S0.out 2 rfl 0 rfl
 have x21 := ckC S0.out 2 rfl 1 rfl
 have x22 := ckC S0.out 2 rfl 2 rfl
 have x23 := ckC S0.out 2 rfl 3 rfl
 have x30 := ckC S0.out 3 rfl 0 rfl
 have x31 := ckC S0.out 3 rfl 1 rfl
 have x32 := ckC S0.out 3 rfl 2 rfl
 have x33 := ckC S0.out 3 rfl 3 rfl
 have CK : Hid (SlAt AuE 4 (W.alloc (.cells #[.slice A1 al.length c1,.int .i64 n,.slice A2 mr.length c2,.slice A3 ed.length c3,.slice B1 bl.length d1,.int .i64 m,.slice B2 ms.length d2,.slice B3 es.length d3] 31)) (some ⟨W.heap.size,0,none⟩) [(⟨al,n,mr,ed⟩ : Au),(⟨bl,m,ms,es⟩ : Au)]) := AuE.two _ _ _ ⟨A1,c1,A2,c2,A3,c3⟩ ⟨B1,d1,B2,d2,B3,d3⟩ W (Ha.out.below S0.out.below) (Hb.out.below S0.out.below)
 go_wp2_with fail
 refine (checkX_c (some ⟨W.heap.size,0,none⟩) 2 [(⟨al,n,mr,ed⟩ : Au),(⟨bl,m,ms,es⟩ : Au)] 2 _ CK.out (by simp)).mono ?_
 rintro e w1 ⟨r,rfl,hr,hb⟩
 have hr0 := HBAD.out r hr
 have hrb : (r == 0) = false := by simpa using hr0
 have HR := Lib.hid hr
 have HR0 := Lib.hid hr0
 have S1 : Hid (Sep w.heap.size w [eBlk (w.heap.size + 3) 31 [.slice none 0 0,.int .i64 0,.slice none 0 0,.slice none 0 0],eBlk (w.heap.size + 2) 113 [.func (.func F) #[] #[]],eBlk (w.heap.size + 1) 31 [.slice B1 bl.length d1,.int .i64 m,.slice B2 ms.length d2,.slice B3 es.length d3],eBlk w.heap.size 31 [.slice A1 al.length c1,.int .i64 n,.slice A2 mr.length c2,.slice A3 ed.length c3]] w1) := (S0.out.next (Below.new W _)).next hb
 clear S0 hb hr hr0 CK HBAD x00 x01 x02 x03 x10 x20 x21 x22 x23 x30 x31 x32 x33
 have c0' := ckC S1.out 0 rfl 0 rfl
 have f0' := BlkAt.free (S1.out.get 0 rfl) 0
 have c1' := ckC S1.out 0 rfl 1 rfl
 have f1' := BlkAt.free (S1.out.get 0 rfl) 1
 have c2' := ckC S1.out 0 rfl 2 rfl
 have f2' := BlkAt.free (S1.out.get 0 rfl) 2
 have c3' := ckC S1.out 0 rfl 3 rfl
 have f3' := BlkAt.free (S1.out.get 0 rfl) 3
 have S2 : Hid (Sep w.heap.size w [eBlk (w.heap.size + 3) 31 [.slice none 0 0,.int .i64 0,.slice none 0 0,.slice none 0 0],eBlk (w.heap.size + 2) 113 [.func (.func F) #[] #[]],eBlk (w.heap.size + 1) 31 [.slice B1 bl.length d1,.int .i64 m,.slice B2 ms.length d2,.slice B3 es.length d3],eBlk w.heap.size 31 [.slice A1 al.length c1,.int .i64 n,.slice A2 mr.length c2,.slice A3 ed.length c3]] _) := (((S1.out.set 0 rfl 0 (.slice none 0 0)).set 0 rfl 1 (.int .i64 0)).set 0 rfl 2 (.slice none 0 0)).set 0 rfl 3 (.slice none 0 0)
 have r0' := ckC S2.out 0 rfl 0 rfl
 have r1' := ckC S2.out 0 rfl 1 rfl
 have r2' := ckC S2.out 0 rfl 2 rfl
 have r3' := ckC S2.out 0 rfl 3 rfl
 go_wp2_with fail
 refine bodyPost_ret (v := .tuple #[.agg #[.slice none 0 0,.int .i64 0,.slice none 0 0,.slice none 0 0],.int .i64 r]) (by simp [results,Tryz.results67,go_sem, *]) rfl ?_
 exact ⟨r,rfl,HR0.out,HR.out,S2.out.below⟩
set_option maxHeartbeats 4000000 in
theorem concatX_c (a : Au) (p : AuP) (b : Au) (q : AuP) (w : World) (ha : Au.At w a p) (hb : Au.At w b q) (hbad : ¬ (a.Right ∧ b.Right)) :
 Calls Tryz.prog 16 #[a.val p,b.val q] w (GivesX (fun r => .tuple #[.agg #[.slice none 0 0,.int .i64 0,.slice none 0 0,.slice none 0 0],.int .i64 r]) (ChkLs 2 [a,b]) w) := by
 have HBAD : Hid (∀ r,ChkLs 2 [a,b] r → r ≠ 0) := fun r h h0 => hbad (by have := (h.zero h0); simpa [and_assoc] using this)
 have Ha := Lib.hid ha
 have Hb := Lib.hid hb
 clear hbad ha hb
 obtain ⟨al,n,mr,ed⟩ := a
 obtain ⟨A1,c1,A2,c2,A3,c3⟩ := p
 obtain ⟨bl,m,ms,es⟩ := b
 obtain ⟨B1,d1,B2,d2,B3,d3⟩ := q
 try dsimp only [Au.val] at *
 go_enter Tryz.func16,Tryz.ntmps16
 go_upto_region 1 with fail
 refine wp_world (fun W => Sep w.heap.size w [eBlk (w.heap.size + 2) 31 [.slice none 0 0,.int .i64 0,.slice none 0 0,.slice none 0 0],eBlk (w.heap.size + 1) 31 [.slice B1 bl.length d1,.int .i64 m,.slice B2 ms.length d2,.slice B3 es.length d3],eBlk w.heap.size 31 [.slice A1 al.length c1,.int .i64 n,.slice A2 mr.length c2,.slice A3 ed.length c3]] W) ?_ fun W S => ?_
 · exact (((Sep.here w).alloc' _ [_,_,_,_] rfl rfl).alloc' _ [_,_,_,_] (g := w.heap.size + 1) rfl (by simp)).alloc' _ [_,_,_,_] (g := w.heap.size + 2) rfl (by simp)
 have S0 := Lib.hid S
 clear S
 have x00 := ckC S0.out 0 rfl 0 rfl
 have x01 := ckC S0.out 0 rfl 1 rfl
 have x02 := ckC S0.out 0 rfl 2 rfl
 have x03 := ckC S0.out 0 rfl 3 rfl
 have x10 := ckC S0.out 1 rfl 0 rfl
 have x11 := ckC S0.out 1 rfl 1 rfl
 have x12 := ckC S0.out 1 rfl 2 rfl
 have x13 := ckC S0.out 1 rfl 3 rfl
 have x20 := ckC S0.out 2 rfl 0 rfl
 have x21 := ckC S0.out 2 rfl 1 rfl
 have x22 := ckC S0.out 2 rfl 2 rfl
 have x23 := ckC S0.out 2 rfl 3 rfl
 have CK : Hid (SlAt AuE 4 (W.alloc (.cells #[.slice A1 al.length c1,.int .i64 n,.slice A2 mr.length c2,.slice A3 ed.length c3,.slice B1 bl.length d1,.int .i64 m,.slice B2 ms.length d2,.slice B3 es.length d3] 31)) (some ⟨W.heap.size,0,none⟩) [(⟨al,n,mr,ed⟩ : Au),(⟨bl,m,ms,es⟩ : Au)]) := AuE.two _ _ _ ⟨A1,c1,A2,c2,A3,c3⟩ ⟨B1,d1,B2,d2,B3,d3⟩ W (Ha.out.below S0.out.below) (Hb.out.below S0.out.below)
 go_wp2_with fail
 refine (checkX_c (some ⟨W.heap.size,0,none⟩) 2 [(⟨al,n,mr,ed⟩ : Au),(⟨bl,m,ms,es⟩ : Au)] 2 _ CK.out (by simp)).mono ?_
 rintro e w1 ⟨r,rfl,hr,hb⟩
 have hr0 := HBAD.out r hr
 have hrb : (r == 0) = false := by simpa using hr0
 have HR := Lib.hid hr
 have HR0 := Lib.hid hr0
 have S1 : Hid (Sep w.heap.size w [eBlk (w.heap.size + 2) 31 [.slice none 0 0,.int .i64 0,.slice none 0 0,.slice none 0 0],eBlk (w.heap.size + 1) 31 [.slice B1 bl.length d1,.int .i64 m,.slice B2 ms.length d2,.slice B3 es.length d3],eBlk w.heap.size 31 [.slice A1 al.length c1,.int .i64 n,.slice A2 mr.length c2,.slice A3 ed.length c3]] w1) := (S0.out.next (Below.new W _)).next hb
 clear S0 hb hr hr0 CK HBAD x00 x01 x02 x03 x10 x11 x12 x13 x20 x21 x22 x23
 have c0' := ckC S1.out 0 rfl 0 rfl
 have f0' := BlkAt.free (S1.out.get 0 rfl) 0
 have c1' := ckC S1.out 0 rfl 1 rfl
 have f1' := BlkAt.free (S1.out.get 0 rfl) 1
 have c2' := ckC S1.out 0 rfl 2 rfl
 have f2' := BlkAt.free (S1.out.get 0 rfl) 2
 have c3' := ckC S1.out 0 rfl 3 rfl
 have f3' := BlkAt.free (S1.out.get 0 rfl) 3
 have S2 : Hid (Sep w.heap.size w [eBlk (w.heap.size + 2) 31 [.slice none 0 0,.int .i64 0,.slice none 0 0,.slice none 0 0],eBlk (w.heap.size + 1) 31 [.slice B1 bl.length d1,.int .i64 m,.slice B2 ms.length d2,.slice B3 es.length d3],eBlk w.heap.size 31 [.slice A1 al.length c1,.int .i64 n,.slice A2 mr.length c2,.slice A3 ed.length c3]] _) := (((S1.out.set 0 rfl 0 (.slice none 0 0)).set 0 rfl 1 (.int .i64 0)).set 0 rfl 2 (.slice none 0 0)).set 0 rfl 3 (.slice none 0 0)
 have r0' := ckC S2.out 0 rfl 0 rfl
 have r1' := ckC S2.out 0 rfl 1 rfl
 have r2' := ckC S2.out 0 rfl 2 rfl
 have r3' := ckC S2.out 0 rfl 3 rfl
 go_wp2_with fail
 refine bodyPost_ret (v := .tuple #[.agg #[.slice none 0 0,.int .i64 0,.slice none 0 0,.slice none 0 0],.int .i64 r]) (by simp [results,Tryz.results16,go_sem, *]) rfl ?_
 exact ⟨r,rfl,HR0.out,HR.out,S2.out.below⟩
set_option maxHeartbeats 4000000 in
theorem intersectX_c (a : Au) (p : AuP) (b : Au) (q : AuP) (w : World) (ha : Au.At w a p) (hb : Au.At w b q) (hbad : ¬ (a.Right ∧ b.Right)) :
 Calls Tryz.prog 26 #[a.val p,b.val q] w (GivesX (fun r => .tuple #[.agg #[.slice none 0 0,.int .i64 0,.slice none 0 0,.slice none 0 0],.int .i64 r]) (ChkLs 2 [a,b]) w) := by
 have HBAD := Lib.hid hbad
 have Ha := Lib.hid ha
 have Hb := Lib.hid hb
 clear hbad ha hb
 obtain ⟨al,n,mr,ed⟩ := a
 obtain ⟨A1,c1,A2,c2,A3,c3⟩ := p
 obtain ⟨bl,m,ms,es⟩ := b
 obtain ⟨B1,d1,B2,d2,B3,d3⟩ := q
 try dsimp only [Au.val] at *
 go_enter Tryz.func26,Tryz.ntmps26
 go_upto_region 1 with fail
 refine wp_world (fun W => Sep w.heap.size w [eBlk (w.heap.size + 2) 31 [.slice none 0 0,.int .i64 0,.slice none 0 0,.slice none 0 0],eBlk (w.heap.size + 1) 31 [.slice B1 bl.length d1,.int .i64 m,.slice B2 ms.length d2,.slice B3 es.length d3],eBlk w.heap.size 31 [.slice A1 al.length c1,.int .i64 n,.slice A2 mr.length c2,.slice A3 ed.length c3]] W) ?_ fun W S => ?_
 · exact (((Sep.here w).alloc' _ [_,_,_,_] rfl rfl).alloc' _ [_,_,_,_] (g := w.heap.size + 1) rfl (by simp)).alloc' _ [_,_,_,_] (g := w.heap.size + 2) rfl (by simp)
 have S0 := Lib.hid S
 clear S
 have x00 := ckC S0.out 0 rfl 0 rfl
 have x01 := ckC S0.out 0 rfl 1 rfl
 have x02 := ckC S0.out 0 rfl 2 rfl
 have x03 := ckC S0.out 0 rfl 3 rfl
 have x10 := ckC S0.out 1 rfl 0 rfl
 have x11 := ckC S0.out 1 rfl 1 rfl
 have x12 := ckC S0.out 1 rfl 2 rfl
 have x13 := ckC S0.out 1 rfl 3 rfl
 have x20 := ckC S0.out 2 rfl 0 rfl
 have x21 := ckC S0.out 2 rfl 1 rfl
 have x22 := ckC S0.out 2 rfl 2 rfl
 have x23 := ckC S0.out 2 rfl 3 rfl
 go_wp2_with fail
 refine (combineX_c ⟨al,n,mr,ed⟩ ⟨A1,c1,A2,c2,A3,c3⟩ ⟨bl,m,ms,es⟩ ⟨B1,d1,B2,d2,B3,d3⟩ _ W (Ha.out.below S0.out.below) (Hb.out.below S0.out.below) HBAD.out).mono ?_
 rintro e w1 ⟨r,rfl,hr0,hr,hb⟩
 have hrb : (r == 0) = false := by simpa using hr0
 have HR := Lib.hid hr
 have HR0 := Lib.hid hr0
 have S1 := Lib.hid (S0.out.next hb)
 clear S0 hb hr hr0 HBAD x00 x01 x02 x03 x10 x11 x12 x13 x20 x21 x22 x23
 have c0' := ckC S1.out 0 rfl 0 rfl
 have f0' := BlkAt.free (S1.out.get 0 rfl) 0
 have c1' := ckC S1.out 0 rfl 1 rfl
 have f1' := BlkAt.free (S1.out.get 0 rfl) 1
 have c2' := ckC S1.out 0 rfl 2 rfl
 have f2' := BlkAt.free (S1.out.get 0 rfl) 2
 have c3' := ckC S1.out 0 rfl 3 rfl
 have f3' := BlkAt.free (S1.out.get 0 rfl) 3
 have S2 : Hid (Sep w.heap.size w [eBlk (w.heap.size + 2) 31 [.slice none 0 0,.int .i64 0,.slice none 0 0,.slice none 0 0],eBlk (w.heap.size + 1) 31 [.slice B1 bl.length d1,.int .i64 m,.slice B2 ms.length d2,.slice B3 es.length d3],eBlk w.heap.size 31 [.slice A1 al.length c1,.int .i64 n,.slice A2 mr.length c2,.slice A3 ed.length c3]] _) := (((S1.out.set 0 rfl 0 (.slice none 0 0)).set 0 rfl 1 (.int .i64 0)).set 0 rfl 2 (.slice none 0 0)).set 0 rfl 3 (.slice none 0 0)
 have r0' := ckC S2.out 0 rfl 0 rfl
 have r1' := ckC S2.out 0 rfl 1 rfl
 have r2' := ckC S2.out 0 rfl 2 rfl
 have r3' := ckC S2.out 0 rfl 3 rfl
 go_wp2_with fail
 refine bodyPost_ret (v := .tuple #[.agg #[.slice none 0 0,.int .i64 0,.slice none 0 0,.slice none 0 0],.int .i64 r]) (by simp [results,Tryz.results26,go_sem, *]) rfl ?_
 exact ⟨r,rfl,HR0.out,HR.out,S2.out.below⟩
set_option maxHeartbeats 4000000 in
theorem unionX_c (a : Au) (p : AuP) (b : Au) (q : AuP) (w : World) (ha : Au.At w a p) (hb : Au.At w b q) (hbad : ¬ (a.Right ∧ b.Right)) :
 Calls Tryz.prog 27 #[a.val p,b.val q] w (GivesX (fun r => .tuple #[.agg #[.slice none 0 0,.int .i64 0,.slice none 0 0,.slice none 0 0],.int .i64 r]) (ChkLs 2 [a,b]) w) := by
 have HBAD := Lib.hid hbad
 have Ha := Lib.hid ha
 have Hb := Lib.hid hb
 clear hbad ha hb
 obtain ⟨al,n,mr,ed⟩ := a
 obtain ⟨A1,c1,A2,c2,A3,c3⟩ := p
 obtain ⟨bl,m,ms,es⟩ := b
 obtain ⟨B1,d1,B2,d2,B3,d3⟩ := q
 try dsimp only [Au.val] at *
 go_enter Tryz.func27,Tryz.ntmps27
 go_upto_region 1 with fail
 refine wp_world (fun W => Sep w.heap.size w [eBlk (w.heap.size + 2) 31 [.slice none 0 0,.int .i64 0,.slice none 0 0,.slice none 0 0],eBlk (w.heap.size + 1) 31 [.slice B1 bl.length d1,.int .i64 m,.slice B2 ms.length d2,.slice B3 es.length d3],eBlk w.heap.size 31 [.slice A1 al.length c1,.int .i64 n,.slice A2 mr.length c2,.slice A3 ed.length c3]] W) ?_ fun W S => ?_
 · exact (((Sep.here w).alloc' _ [_,_,_,_] rfl rfl).alloc' _ [_,_,_,_] (g := w.heap.size + 1) rfl (by simp)).alloc' _ [_,_,_,_] (g := w.heap.size + 2) rfl (by simp)
 have S0 := Lib.hid S
 clear S
 have x00 := ckC S0.out 0 rfl 0 rfl
 have x01 := ckC S0.out 0 rfl 1 rfl
 have x02 := ckC S0.out 0 rfl 2 rfl
 have x03 := ckC S0.out 0 rfl 3 rfl
 have x10 := ckC S0.out 1 rfl 0 rfl
 have x11 := ckC S0.out 1 rfl 1 rfl
 have x12 := ckC S0.out 1 rfl 2 rfl
 have x13 := ckC S0.out 1 rfl 3 rfl
 have x20 := ckC S0.out 2 rfl 0 rfl
 have x21 := ckC S0.out 2 rfl 1 rfl
 have x22 := ckC S0.out 2 rfl 2 rfl
 have x23 := ckC S0.out 2 rfl 3 rfl
 go_wp2_with fail
 refine (combineX_c ⟨al,n,mr,ed⟩ ⟨A1,c1,A2,c2,A3,c3⟩ ⟨bl,m,ms,es⟩ ⟨B1,d1,B2,d2,B3,d3⟩ _ W (Ha.out.below S0.out.below) (Hb.out.below S0.out.below) HBAD.out).mono ?_
 rintro e w1 ⟨r,rfl,hr0,hr,hb⟩
 have hrb : (r == 0) = false := by simpa using hr0
 have HR := Lib.hid hr
 have HR0 := Lib.hid hr0
 have S1 := Lib.hid (S0.out.next hb)
 clear S0 hb hr hr0 HBAD x00 x01 x02 x03 x10 x11 x12 x13 x20 x21 x22 x23
 have c0' := ckC S1.out 0 rfl 0 rfl
 have f0' := BlkAt.free (S1.out.get 0 rfl) 0
 have c1' := ckC S1.out 0 rfl 1 rfl
 have f1' := BlkAt.free (S1.out.get 0 rfl) 1
 have c2' := ckC S1.out 0 rfl 2 rfl
 have f2' := BlkAt.free (S1.out.get 0 rfl) 2
 have c3' := ckC S1.out 0 rfl 3 rfl
 have f3' := BlkAt.free (S1.out.get 0 rfl) 3
 have S2 : Hid (Sep w.heap.size w [eBlk (w.heap.size + 2) 31 [.slice none 0 0,.int .i64 0,.slice none 0 0,.slice none 0 0],eBlk (w.heap.size + 1) 31 [.slice B1 bl.length d1,.int .i64 m,.slice B2 ms.length d2,.slice B3 es.length d3],eBlk w.heap.size 31 [.slice A1 al.length c1,.int .i64 n,.slice A2 mr.length c2,.slice A3 ed.length c3]] _) := (((S1.out.set 0 rfl 0 (.slice none 0 0)).set 0 rfl 1 (.int .i64 0)).set 0 rfl 2 (.slice none 0 0)).set 0 rfl 3 (.slice none 0 0)
 have r0' := ckC S2.out 0 rfl 0 rfl
 have r1' := ckC S2.out 0 rfl 1 rfl
 have r2' := ckC S2.out 0 rfl 2 rfl
 have r3' := ckC S2.out 0 rfl 3 rfl
 go_wp2_with fail
 refine bodyPost_ret (v := .tuple #[.agg #[.slice none 0 0,.int .i64 0,.slice none 0 0,.slice none 0 0],.int .i64 r]) (by simp [results,Tryz.results27,go_sem, *]) rfl ?_
 exact ⟨r,rfl,HR0.out,HR.out,S2.out.below⟩
set_option maxHeartbeats 4000000 in
theorem differenceX_c (a : Au) (p : AuP) (b : Au) (q : AuP) (w : World) (ha : Au.At w a p) (hb : Au.At w b q) (hbad : ¬ (a.Right ∧ b.Right)) :
 Calls Tryz.prog 28 #[a.val p,b.val q] w (GivesX (fun r => .tuple #[.agg #[.slice none 0 0,.int .i64 0,.slice none 0 0,.slice none 0 0],.int .i64 r]) (ChkLs 2 [a,b]) w) := by
 have HBAD := Lib.hid hbad
 have Ha := Lib.hid ha
 have Hb := Lib.hid hb
 clear hbad ha hb
 obtain ⟨al,n,mr,ed⟩ := a
 obtain ⟨A1,c1,A2,c2,A3,c3⟩ := p
 obtain ⟨bl,m,ms,es⟩ := b
 obtain ⟨B1,d1,B2,d2,B3,d3⟩ := q
 try dsimp only [Au.val] at *
 go_enter Tryz.func28,Tryz.ntmps28
 go_upto_region 1 with fail
 refine wp_world (fun W => Sep w.heap.size w [eBlk (w.heap.size + 2) 31 [.slice none 0 0,.int .i64 0,.slice none 0 0,.slice none 0 0],eBlk (w.heap.size + 1) 31 [.slice B1 bl.length d1,.int .i64 m,.slice B2 ms.length d2,.slice B3 es.length d3],eBlk w.heap.size 31 [.slice A1 al.length c1,.int .i64 n,.slice A2 mr.length c2,.slice A3 ed.length c3]] W) ?_ fun W S => ?_
 · exact (((Sep.here w).alloc' _ [_,_,_,_] rfl rfl).alloc' _ [_,_,_,_] (g := w.heap.size + 1) rfl (by simp)).alloc' _ [_,_,_,_] (g := w.heap.size + 2) rfl (by simp)
 have S0 := Lib.hid S
 clear S
 have x00 := ckC S0.out 0 rfl 0 rfl
 have x01 := ckC S0.out 0 rfl 1 rfl
 have x02 := ckC S0.out 0 rfl 2 rfl
 have x03 := ckC S0.out 0 rfl 3 rfl
 have x10 := ckC S0.out 1 rfl 0 rfl
 have x11 := ckC S0.out 1 rfl 1 rfl
 have x12 := ckC S0.out 1 rfl 2 rfl
 have x13 := ckC S0.out 1 rfl 3 rfl
 have x20 := ckC S0.out 2 rfl 0 rfl
 have x21 := ckC S0.out 2 rfl 1 rfl
 have x22 := ckC S0.out 2 rfl 2 rfl
 have x23 := ckC S0.out 2 rfl 3 rfl
 go_wp2_with fail
 refine (combineX_c ⟨al,n,mr,ed⟩ ⟨A1,c1,A2,c2,A3,c3⟩ ⟨bl,m,ms,es⟩ ⟨B1,d1,B2,d2,B3,d3⟩ _ W (Ha.out.below S0.out.below) (Hb.out.below S0.out.below) HBAD.out).mono ?_
 rintro e w1 ⟨r,rfl,hr0,hr,hb⟩
 have hrb : (r == 0) = false := by simpa using hr0
 have HR := Lib.hid hr
 have HR0 := Lib.hid hr0
 have S1 := Lib.hid (S0.out.next hb)
 clear S0 hb hr hr0 HBAD x00 x01 x02 x03 x10 x11 x12 x13 x20 x21 x22 x23
 have c0' := ckC S1.out 0 rfl 0 rfl
 have f0' := BlkAt.free (S1.out.get 0 rfl) 0
 have c1' := ckC S1.out 0 rfl 1 rfl
 have f1' := BlkAt.free (S1.out.get 0 rfl) 1
 have c2' := ckC S1.out 0 rfl 2 rfl
 have f2' := BlkAt.free (S1.out.get 0 rfl) 2
 have c3' := ckC S1.out 0 rfl 3 rfl
 have f3' := BlkAt.free (S1.out.get 0 rfl) 3
 have S2 : Hid (Sep w.heap.size w [eBlk (w.heap.size + 2) 31 [.slice none 0 0,.int .i64 0,.slice none 0 0,.slice none 0 0],eBlk (w.heap.size + 1) 31 [.slice B1 bl.length d1,.int .i64 m,.slice B2 ms.length d2,.slice B3 es.length d3],eBlk w.heap.size 31 [.slice A1 al.length c1,.int .i64 n,.slice A2 mr.length c2,.slice A3 ed.length c3]] _) := (((S1.out.set 0 rfl 0 (.slice none 0 0)).set 0 rfl 1 (.int .i64 0)).set 0 rfl 2 (.slice none 0 0)).set 0 rfl 3 (.slice none 0 0)
 have r0' := ckC S2.out 0 rfl 0 rfl
 have r1' := ckC S2.out 0 rfl 1 rfl
 have r2' := ckC S2.out 0 rfl 2 rfl
 have r3' := ckC S2.out 0 rfl 3 rfl
 go_wp2_with fail
 refine bodyPost_ret (v := .tuple #[.agg #[.slice none 0 0,.int .i64 0,.slice none 0 0,.slice none 0 0],.int .i64 r]) (by simp [results,Tryz.results28,go_sem, *]) rfl ?_
 exact ⟨r,rfl,HR0.out,HR.out,S2.out.below⟩
def zAu : Au := ⟨[],0,[],[]⟩
theorem zeroRight : zAu.Right := ⟨fun i x hi => by simp [zAu] at hi,Int.le_refl _,by show (0 : Int) ≤ 4096; decide,fun i x hi => by simp [zAu] at hi,fun i hi => by simp [zAu] at hi⟩
theorem zeroAt (w : World) : Au.At w zAu ⟨none,0,none,0,none,0⟩ := ⟨SlAt.nil,SlAt.nil,SlAt.nil,by simp [zAu],by simp [zAu],by simp [zAu]⟩
theorem ChkLs.just {a : Au} {r : Int} (h : ChkLs 2 [a,zAu] r) (h0 : r ≠ 0) : ChkErr a r := by
 rcases h with ⟨k,x,hx,hj,hc,_⟩ | ⟨_,⟨_,h⟩ | ⟨h,_⟩⟩
 · have hk : k < 2 := by have := (List.getElem?_eq_some_iff.1 hx).1; simpa using this
   obtain rfl | rfl : k = 0 ∨ k = 1 := by omega
   · obtain rfl : a = x := by simpa using hx
     exact hc
   · obtain rfl : zAu = x := by simpa using hx
     exact absurd (hc.zero.2 zeroRight) h0
 · exact absurd h h0
 · exact absurd (.inr rfl) h
set_option maxHeartbeats 4000000 in
theorem complementX_c (a : Au) (p : AuP) (w : World) (ha : Au.At w a p) (hbad : ¬ (a.Right)) :
 Calls Tryz.prog 29 #[a.val p] w (GivesX (fun r => .tuple #[.agg #[.slice none 0 0,.int .i64 0,.slice none 0 0,.slice none 0 0],.int .i64 r]) (ChkErr a) w) := by
 have HBAD := Lib.hid hbad
 have Ha := Lib.hid ha
 clear hbad ha
 obtain ⟨al,n,mr,ed⟩ := a
 obtain ⟨A1,c1,A2,c2,A3,c3⟩ := p
 try dsimp only [Au.val] at *
 go_enter Tryz.func29,Tryz.ntmps29
 go_upto_region 1 with fail
 refine wp_world (fun W => Sep w.heap.size w [eBlk (w.heap.size + 1) 31 [.slice none 0 0,.int .i64 0,.slice none 0 0,.slice none 0 0],eBlk w.heap.size 31 [.slice A1 al.length c1,.int .i64 n,.slice A2 mr.length c2,.slice A3 ed.length c3]] W) ?_ fun W S => ?_
 · exact ((Sep.here w).alloc' _ [_,_,_,_] rfl rfl).alloc' _ [_,_,_,_] (g := w.heap.size + 1) rfl (by simp)
 have S0 := Lib.hid S
 clear S
 have x00 := ckC S0.out 0 rfl 0 rfl
 have x01 := ckC S0.out 0 rfl 1 rfl
 have x02 := ckC S0.out 0 rfl 2 rfl
 have x03 := ckC S0.out 0 rfl 3 rfl
 have x10 := ckC S0.out 1 rfl 0 rfl
 have x11 := ckC S0.out 1 rfl 1 rfl
 have x12 := ckC S0.out 1 rfl 2 rfl
 have x13 := ckC S0.out 1 rfl 3 rfl
 go_wp2_with fail
 refine (combineX_c ⟨al,n,mr,ed⟩ ⟨A1,c1,A2,c2,A3,c3⟩ zAu ⟨none,0,none,0,none,0⟩ _ W (Ha.out.below S0.out.below) (zeroAt W) (fun h => HBAD.out h.1)).mono ?_
 rintro e w1 ⟨r,rfl,hr0,hr,hb⟩
 have hr := hr.just hr0
 have hrb : (r == 0) = false := by simpa using hr0
 have HR := Lib.hid hr
 have HR0 := Lib.hid hr0
 have S1 := Lib.hid (S0.out.next hb)
 clear S0 hb hr hr0 HBAD x00 x01 x02 x03 x10 x11 x12 x13
 have c0' := ckC S1.out 0 rfl 0 rfl
 have f0' := BlkAt.free (S1.out.get 0 rfl) 0
 have c1' := ckC S1.out 0 rfl 1 rfl
 have f1' := BlkAt.free (S1.out.get 0 rfl) 1
 have c2' := ckC S1.out 0 rfl 2 rfl
 have f2' := BlkAt.free (S1.out.get 0 rfl) 2
 have c3' := ckC S1.out 0 rfl 3 rfl
 have f3' := BlkAt.free (S1.out.get 0 rfl) 3
 have S2 : Hid (Sep w.heap.size w [eBlk (w.heap.size + 1) 31 [.slice none 0 0,.int .i64 0,.slice none 0 0,.slice none 0 0],eBlk w.heap.size 31 [.slice A1 al.length c1,.int .i64 n,.slice A2 mr.length c2,.slice A3 ed.length c3]] _) := (((S1.out.set 0 rfl 0 (.slice none 0 0)).set 0 rfl 1 (.int .i64 0)).set 0 rfl 2 (.slice none 0 0)).set 0 rfl 3 (.slice none 0 0)
 have r0' := ckC S2.out 0 rfl 0 rfl
 have r1' := ckC S2.out 0 rfl 1 rfl
 have r2' := ckC S2.out 0 rfl 2 rfl
 have r3' := ckC S2.out 0 rfl 3 rfl
 go_wp2_with fail
 refine bodyPost_ret (v := .tuple #[.agg #[.slice none 0 0,.int .i64 0,.slice none 0 0,.slice none 0 0],.int .i64 r]) (by simp [results,Tryz.results29,go_sem, *]) rfl ?_
 exact ⟨r,rfl,HR0.out,HR.out,S2.out.below⟩
set_option maxHeartbeats 4000000 in
theorem emptyX_c (a : Au) (p : AuP) (kind : Int) (w : World) (ha : Au.At w a p) (hbad : ¬ (a.Right ∧ (kind = 1 ∨ kind = 2))) :
 Calls Tryz.prog 23 #[a.val p,.int .i64 kind] w (GivesX (fun r => .tuple #[.bool false,.int .i64 r]) (ChkLs kind [a]) w) := by
 have HBAD := Lib.hid hbad
 have Ha := Lib.hid ha
 clear hbad ha
 obtain ⟨al,n,mr,ed⟩ := a
 obtain ⟨A1,c1,A2,c2,A3,c3⟩ := p
 try dsimp only [Au.val] at *
 go_enter Tryz.func23,Tryz.ntmps23
 go_upto_region 1 with fail
 refine wp_world (fun W => Sep w.heap.size w [eBlk w.heap.size 31 [.slice A1 al.length c1,.int .i64 n,.slice A2 mr.length c2,.slice A3 ed.length c3]] W) ?_ fun W S => ?_
 · exact (Sep.here w).alloc' _ [_,_,_,_] rfl rfl
 have S0 := Lib.hid S
 clear S
 have x00 := ckC S0.out 0 rfl 0 rfl
 have x01 := ckC S0.out 0 rfl 1 rfl
 have x02 := ckC S0.out 0 rfl 2 rfl
 have x03 := ckC S0.out 0 rfl 3 rfl
 go_wp2_with fail
 refine (leastX_c ⟨al,n,mr,ed⟩ ⟨A1,c1,A2,c2,A3,c3⟩ kind W (Ha.out.below S0.out.below) HBAD.out).mono ?_
 rintro e w1 ⟨r,rfl,hr0,hr,hb⟩
 have hrb : (r == 0) = false := by simpa using hr0
 have HR := Lib.hid hr
 have HR0 := Lib.hid hr0
 have S1 := Lib.hid (S0.out.next hb)
 clear S0 hb hr hr0 HBAD x00 x01 x02 x03
 go_wp2_with fail
 refine bodyPost_ret (v := .tuple #[.bool false,.int .i64 r]) (by simp [results,Tryz.results23,go_sem, *]) rfl ?_
 exact ⟨r,rfl,HR0.out,HR.out,S1.out.below⟩
set_option maxHeartbeats 4000000 in
theorem coreachableX_c (a : Au) (p : AuP) (w : World) (ha : Au.At w a p) (hbad : ¬ (a.Right)) :
 Calls Tryz.prog 76 #[a.val p] w (GivesX (fun r => .tuple #[.slice none 0 0,.int .i64 r]) (ChkErr a) w) := by
 have HBAD := Lib.hid hbad
 have Ha := Lib.hid ha
 clear hbad ha
 obtain ⟨al,n,mr,ed⟩ := a
 obtain ⟨A1,c1,A2,c2,A3,c3⟩ := p
 try dsimp only [Au.val] at *
 go_enter Tryz.func76,Tryz.ntmps76
 go_upto_region 1 with fail
 refine wp_world (fun W => Sep w.heap.size w [eBlk w.heap.size 31 [.slice A1 al.length c1,.int .i64 n,.slice A2 mr.length c2,.slice A3 ed.length c3]] W) ?_ fun W S => ?_
 · exact (Sep.here w).alloc' _ [_,_,_,_] rfl rfl
 have S0 := Lib.hid S
 clear S
 have x00 := ckC S0.out 0 rfl 0 rfl
 have x01 := ckC S0.out 0 rfl 1 rfl
 have x02 := ckC S0.out 0 rfl 2 rfl
 have x03 := ckC S0.out 0 rfl 3 rfl
 go_wp2_with fail
 refine (CheckX_c ⟨al,n,mr,ed⟩ ⟨A1,c1,A2,c2,A3,c3⟩ W (Ha.out.below S0.out.below)).mono ?_
 rintro e w1 ⟨r,rfl,hr,hb⟩
 have hr0 : r ≠ 0 := fun h => HBAD.out (hr.zero.1 h)
 have hrb : (r == 0) = false := by simpa using hr0
 have HR := Lib.hid hr
 have HR0 := Lib.hid hr0
 have S1 := Lib.hid (S0.out.next hb)
 clear S0 hb hr hr0 HBAD x00 x01 x02 x03
 go_wp2_with fail
 refine bodyPost_ret (v := .tuple #[.slice none 0 0,.int .i64 r]) (by simp [results,Tryz.results76,go_sem, *]) rfl ?_
 exact ⟨r,rfl,HR0.out,HR.out,S1.out.below⟩
set_option maxHeartbeats 4000000 in
theorem trimX_c (a : Au) (p : AuP) (w : World) (ha : Au.At w a p) (hbad : ¬ (a.Right)) :
 Calls Tryz.prog 34 #[a.val p] w (GivesX (fun r => .tuple #[.agg #[.slice none 0 0,.int .i64 0,.slice none 0 0,.slice none 0 0],.int .i64 r]) (ChkErr a) w) := by
 have HBAD := Lib.hid hbad
 have Ha := Lib.hid ha
 clear hbad ha
 obtain ⟨al,n,mr,ed⟩ := a
 obtain ⟨A1,c1,A2,c2,A3,c3⟩ := p
 try dsimp only [Au.val] at *
 go_enter Tryz.func34,Tryz.ntmps34
 go_upto_region 1 with fail
 refine wp_world (fun W => Sep w.heap.size w [eBlk (w.heap.size + 1) 31 [.slice none 0 0,.int .i64 0,.slice none 0 0,.slice none 0 0],eBlk w.heap.size 31 [.slice A1 al.length c1,.int .i64 n,.slice A2 mr.length c2,.slice A3 ed.length c3]] W) ?_ fun W S => ?_
 · exact ((Sep.here w).alloc' _ [_,_,_,_] rfl rfl).alloc' _ [_,_,_,_] (g := w.heap.size + 1) rfl (by simp)
 have S0 := Lib.hid S
 clear S
 have x00 := ckC S0.out 0 rfl 0 rfl
 have x01 := ckC S0.out 0 rfl 1 rfl
 have x02 := ckC S0.out 0 rfl 2 rfl
 have x03 := ckC S0.out 0 rfl 3 rfl
 have x10 := ckC S0.out 1 rfl 0 rfl
 have x11 := ckC S0.out 1 rfl 1 rfl
 have x12 := ckC S0.out 1 rfl 2 rfl
 have x13 := ckC S0.out 1 rfl 3 rfl
 go_wp2_with fail
 refine (coreachableX_c ⟨al,n,mr,ed⟩ ⟨A1,c1,A2,c2,A3,c3⟩ W (Ha.out.below S0.out.below) HBAD.out).mono ?_
 rintro e w1 ⟨r,rfl,hr0,hr,hb⟩
 have hrb : (r == 0) = false := by simpa using hr0
 have HR := Lib.hid hr
 have HR0 := Lib.hid hr0
 have S1 := Lib.hid (S0.out.next hb)
 clear S0 hb hr hr0 HBAD x00 x01 x02 x03 x10 x11 x12 x13
 have c0' := ckC S1.out 0 rfl 0 rfl
 have f0' := BlkAt.free (S1.out.get 0 rfl) 0
 have c1' := ckC S1.out 0 rfl 1 rfl
 have f1' := BlkAt.free (S1.out.get 0 rfl) 1
 have c2' := ckC S1.out 0 rfl 2 rfl
 have f2' := BlkAt.free (S1.out.get 0 rfl) 2
 have c3' := ckC S1.out 0 rfl 3 rfl
 have f3' := BlkAt.free (S1.out.get 0 rfl) 3
 have S2 : Hid (Sep w.heap.size w [eBlk (w.heap.size + 1) 31 [.slice none 0 0,.int .i64 0,.slice none 0 0,.slice none 0 0],eBlk w.heap.size 31 [.slice A1 al.length c1,.int .i64 n,.slice A2 mr.length c2,.slice A3 ed.length c3]] _) := (((S1.out.set 0 rfl 0 (.slice none 0 0)).set 0 rfl 1 (.int .i64 0)).set 0 rfl 2 (.slice none 0 0)).set 0 rfl 3 (.slice none 0 0)
 have r0' := ckC S2.out 0 rfl 0 rfl
 have r1' := ckC S2.out 0 rfl 1 rfl
 have r2' := ckC S2.out 0 rfl 2 rfl
 have r3' := ckC S2.out 0 rfl 3 rfl
 go_wp2_with fail
 refine bodyPost_ret (v := .tuple #[.agg #[.slice none 0 0,.int .i64 0,.slice none 0 0,.slice none 0 0],.int .i64 r]) (by simp [results,Tryz.results34,go_sem, *]) rfl ?_
 exact ⟨r,rfl,HR0.out,HR.out,S2.out.below⟩
set_option maxHeartbeats 4000000 in
theorem closureX_c (a : Au) (p : AuP) (w : World) (ha : Au.At w a p) (hbad : ¬ (a.Right)) :
 Calls Tryz.prog 9 #[a.val p] w (GivesX (fun r => .tuple #[.agg #[.slice none 0 0,.int .i64 0,.slice none 0 0,.slice none 0 0],.int .i64 r]) (ChkErr a) w) := by
 have HBAD := Lib.hid hbad
 have Ha := Lib.hid ha
 clear hbad ha
 obtain ⟨al,n,mr,ed⟩ := a
 obtain ⟨A1,c1,A2,c2,A3,c3⟩ := p
 try dsimp only [Au.val] at *
 go_enter Tryz.func9,Tryz.ntmps9
 go_upto_region 1 with fail
 refine wp_world (fun W => Sep w.heap.size w [eBlk (w.heap.size + 1) 31 [.slice none 0 0,.int .i64 0,.slice none 0 0,.slice none 0 0],eBlk w.heap.size 31 [.slice A1 al.length c1,.int .i64 n,.slice A2 mr.length c2,.slice A3 ed.length c3]] W) ?_ fun W S => ?_
 · exact ((Sep.here w).alloc' _ [_,_,_,_] rfl rfl).alloc' _ [_,_,_,_] (g := w.heap.size + 1) rfl (by simp)
 have S0 := Lib.hid S
 clear S
 have x00 := ckC S0.out 0 rfl 0 rfl
 have x01 := ckC S0.out 0 rfl 1 rfl
 have x02 := ckC S0.out 0 rfl 2 rfl
 have x03 := ckC S0.out 0 rfl 3 rfl
 have x10 := ckC S0.out 1 rfl 0 rfl
 have x11 := ckC S0.out 1 rfl 1 rfl
 have x12 := ckC S0.out 1 rfl 2 rfl
 have x13 := ckC S0.out 1 rfl 3 rfl
 go_wp2_with fail
 refine (trimX_c ⟨al,n,mr,ed⟩ ⟨A1,c1,A2,c2,A3,c3⟩ W (Ha.out.below S0.out.below) HBAD.out).mono ?_
 rintro e w1 ⟨r,rfl,hr0,hr,hb⟩
 have hrb : (r == 0) = false := by simpa using hr0
 have HR := Lib.hid hr
 have HR0 := Lib.hid hr0
 have S1 := Lib.hid (S0.out.next hb)
 clear S0 hb hr hr0 HBAD x00 x01 x02 x03 x10 x11 x12 x13
 obtain ⟨tt,htt⟩ : ∃ g,g = w1.heap.size := ⟨_,rfl⟩
 go_upto_region 2 with fail
 rw [← htt]
 refine wp_world (fun V => Sep w.heap.size w [eBlk tt 31 [.slice none 0 0,.int .i64 0,.slice none 0 0,.slice none 0 0],eBlk (w.heap.size + 1) 31 [.slice none 0 0,.int .i64 0,.slice none 0 0,.slice none 0 0],eBlk w.heap.size 31 [.slice A1 al.length c1,.int .i64 n,.slice A2 mr.length c2,.slice A3 ed.length c3]] V) (S1.out.alloc' _ [_,_,_,_] rfl htt) fun W2 S' => ?_
 have S1b := Lib.hid S'
 clear S' S1 htt
 have c0' := ckC S1b.out 1 rfl 0 rfl
 have f0' := BlkAt.free (S1b.out.get 1 rfl) 0
 have c1' := ckC S1b.out 1 rfl 1 rfl
 have f1' := BlkAt.free (S1b.out.get 1 rfl) 1
 have c2' := ckC S1b.out 1 rfl 2 rfl
 have f2' := BlkAt.free (S1b.out.get 1 rfl) 2
 have c3' := ckC S1b.out 1 rfl 3 rfl
 have f3' := BlkAt.free (S1b.out.get 1 rfl) 3
 have S2 : Hid (Sep w.heap.size w [eBlk tt 31 [.slice none 0 0,.int .i64 0,.slice none 0 0,.slice none 0 0],eBlk (w.heap.size + 1) 31 [.slice none 0 0,.int .i64 0,.slice none 0 0,.slice none 0 0],eBlk w.heap.size 31 [.slice A1 al.length c1,.int .i64 n,.slice A2 mr.length c2,.slice A3 ed.length c3]] _) := (((S1b.out.set 1 rfl 0 (.slice none 0 0)).set 1 rfl 1 (.int .i64 0)).set 1 rfl 2 (.slice none 0 0)).set 1 rfl 3 (.slice none 0 0)
 have r0' := ckC S2.out 1 rfl 0 rfl
 have r1' := ckC S2.out 1 rfl 1 rfl
 have r2' := ckC S2.out 1 rfl 2 rfl
 have r3' := ckC S2.out 1 rfl 3 rfl
 go_wp2_with fail
 refine bodyPost_ret (v := .tuple #[.agg #[.slice none 0 0,.int .i64 0,.slice none 0 0,.slice none 0 0],.int .i64 r]) (by simp [results,Tryz.results9,go_sem, *]) rfl ?_
 exact ⟨r,rfl,HR0.out,HR.out,S2.out.below⟩
set_option maxHeartbeats 4000000 in
theorem isClosedX_c (a : Au) (p : AuP) (w : World) (ha : Au.At w a p) (hbad : ¬ (a.Right)) :
 Calls Tryz.prog 10 #[a.val p] w (GivesX (fun r => .tuple #[.slice none 0 0,.bool false,.int .i64 r]) (ChkErr a) w) := by
 have HBAD := Lib.hid hbad
 have Ha := Lib.hid ha
 clear hbad ha
 obtain ⟨al,n,mr,ed⟩ := a
 obtain ⟨A1,c1,A2,c2,A3,c3⟩ := p
 try dsimp only [Au.val] at *
 go_enter Tryz.func10,Tryz.ntmps10
 go_upto_region 1 with fail
 refine wp_world (fun W => Sep w.heap.size w [eBlk w.heap.size 31 [.slice A1 al.length c1,.int .i64 n,.slice A2 mr.length c2,.slice A3 ed.length c3]] W) ?_ fun W S => ?_
 · exact (Sep.here w).alloc' _ [_,_,_,_] rfl rfl
 have S0 := Lib.hid S
 clear S
 have x00 := ckC S0.out 0 rfl 0 rfl
 have x01 := ckC S0.out 0 rfl 1 rfl
 have x02 := ckC S0.out 0 rfl 2 rfl
 have x03 := ckC S0.out 0 rfl 3 rfl
 go_wp2_with fail
 refine (trimX_c ⟨al,n,mr,ed⟩ ⟨A1,c1,A2,c2,A3,c3⟩ W (Ha.out.below S0.out.below) HBAD.out).mono ?_
 rintro e w1 ⟨r,rfl,hr0,hr,hb⟩
 have hrb : (r == 0) = false := by simpa using hr0
 have HR := Lib.hid hr
 have HR0 := Lib.hid hr0
 have S1 := Lib.hid (S0.out.next hb)
 clear S0 hb hr hr0 HBAD x00 x01 x02 x03
 obtain ⟨tt,htt⟩ : ∃ g,g = w1.heap.size := ⟨_,rfl⟩
 go_upto_region 2 with fail
 rw [← htt]
 refine wp_world (fun V => Sep w.heap.size w [eBlk tt 31 [.slice none 0 0,.int .i64 0,.slice none 0 0,.slice none 0 0],eBlk w.heap.size 31 [.slice A1 al.length c1,.int .i64 n,.slice A2 mr.length c2,.slice A3 ed.length c3]] V) (S1.out.alloc' _ [_,_,_,_] rfl htt) fun W2 S' => ?_
 have S1b := Lib.hid S'
 clear S' S1 htt
 go_wp2_with fail
 refine bodyPost_ret (v := .tuple #[.slice none 0 0,.bool false,.int .i64 r]) (by simp [results,Tryz.results10,go_sem, *]) rfl ?_
 exact ⟨r,rfl,HR0.out,HR.out,S1b.out.below⟩
set_option maxHeartbeats 4000000 in
theorem countX_c (a : Au) (p : AuP) (kind len : Int) (w : World) (ha : Au.At w a p) (hbad : ¬ (a.Right ∧ (kind = 1 ∨ kind = 2))) :
 Calls Tryz.prog 24 #[a.val p,.int .i64 kind,.int .i64 len] w (GivesX (fun r => .tuple #[.slice none 0 0,.int .i64 r]) (ChkLs kind [a]) w) := by
 have HBAD : Hid (∀ r,ChkLs kind [a] r → r ≠ 0) := fun r h h0 => hbad (by have := (h.zero h0); simpa [and_assoc] using this)
 have Ha := Lib.hid ha
 clear hbad ha
 obtain ⟨al,n,mr,ed⟩ := a
 obtain ⟨A1,c1,A2,c2,A3,c3⟩ := p
 try dsimp only [Au.val] at *
 refine calls_marks Tryz.func24 rfl ?_
 simp only [Tryz.ntmps24,List.size_toArray,List.length_cons,List.length_nil,Nat.reduceAdd,Nat.reduceSub,Array.replicate_succ,Array.replicate_zero,List.push_toArray,List.append_toArray,List.nil_append,List.cons_append]
 go_upto_region 1 with fail
 refine wp_world (fun W => Sep w.heap.size w [eBlk (w.heap.size + 4) 34 [.int .i64 0],eBlk (w.heap.size + 3) 28 [.slice none 0 0],eBlk (w.heap.size + 2) 3 [.int .i64 len],eBlk (w.heap.size + 1) 3 [.int .i64 kind],eBlk w.heap.size 31 [.slice A1 al.length c1,.int .i64 n,.slice A2 mr.length c2,.slice A3 ed.length c3]] W) ?_ fun W S => ?_
 · exact (((((Sep.here w).alloc' _ [_,_,_,_] rfl rfl).alloc' _ [_] (g := w.heap.size + 1) rfl (by simp)).alloc' _ [_] (g := w.heap.size + 2) rfl (by simp)).alloc' _ [_] (g := w.heap.size + 3) rfl (by simp)).alloc' _ [_] (g := w.heap.size + 4) rfl (by simp)
 have S0 := Lib.hid S
 clear S
 have k0 := ckC S0.out 3 rfl 0 rfl
 have a0 := ckC S0.out 4 rfl 0 rfl
 have a1 := ckC S0.out 4 rfl 1 rfl
 have a2 := ckC S0.out 4 rfl 2 rfl
 have a3 := ckC S0.out 4 rfl 3 rfl
 have CK : Hid (SlAt AuE 4 (W.alloc (.cells #[.slice A1 al.length c1,.int .i64 n,.slice A2 mr.length c2,.slice A3 ed.length c3] 31)) (some ⟨W.heap.size,0,none⟩) [(⟨al,n,mr,ed⟩ : Au)]) := AuE.one _ _ ⟨A1,c1,A2,c2,A3,c3⟩ W (Ha.out.below S0.out.below)
 go_wp2_with fail
 refine (checkX_c (some ⟨W.heap.size,0,none⟩) 1 [(⟨al,n,mr,ed⟩ : Au)] kind _ CK.out (by simp)).mono ?_
 rintro e w1 ⟨r,rfl,hr,hb⟩
 have hr0 := HBAD.out r hr
 have hrb : (r == 0) = false := by simpa using hr0
 have HR := Lib.hid hr
 have HR0 := Lib.hid hr0
 have S1 : Hid (Sep w.heap.size w [eBlk (w.heap.size + 4) 34 [.int .i64 0],eBlk (w.heap.size + 3) 28 [.slice none 0 0],eBlk (w.heap.size + 2) 3 [.int .i64 len],eBlk (w.heap.size + 1) 3 [.int .i64 kind],eBlk w.heap.size 31 [.slice A1 al.length c1,.int .i64 n,.slice A2 mr.length c2,.slice A3 ed.length c3]] w1) := (S0.out.next (Below.new W _)).next hb
 clear S0 hb hr hr0 CK HBAD k0 a0 a1 a2 a3
 have q6 := ckC S1.out 1 rfl 0 rfl
 have q7 := ckC S1.out 0 rfl 0 rfl
 have f6 := BlkAt.free (S1.out.get 1 rfl) 0
 have f7 := BlkAt.free (S1.out.get 0 rfl) 0
 have S2 : Hid (Sep w.heap.size w [eBlk (w.heap.size + 4) 34 [.int .i64 r],eBlk (w.heap.size + 3) 28 [.slice none 0 0],eBlk (w.heap.size + 2) 3 [.int .i64 len],eBlk (w.heap.size + 1) 3 [.int .i64 kind],eBlk w.heap.size 31 [.slice A1 al.length c1,.int .i64 n,.slice A2 mr.length c2,.slice A3 ed.length c3]] _) := (S1.out.set 1 rfl 0 (.slice none 0 0)).set 0 rfl 0 (.int .i64 r)
 have r6 := ckC S2.out 1 rfl 0 rfl
 have r7 := ckC S2.out 0 rfl 0 rfl
 go_wp2_with fail
 refine ret_nomarks ⟨.tuple #[.slice none 0 0,.int .i64 r],by simp [results,Tryz.results24,go_sem, *],r,rfl,HR0.out,HR.out,S2.out.below⟩
end Go.Proofs.YtkifgffhoenaoaaGreatDoor
