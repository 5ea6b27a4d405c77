/-
  automaton.Check: which error.
  minimal.Minimize of a right automaton.
  minimal.Minimize of a right automaton, with the classes of its states.
  minimal: Classes, Minimize, IsMinimal of any automaton: results and errors.
  minimal.consistent.
-/
import Derived.Test.YtjjifefanjnghaaBas01
import Derived.Test.YtjjifefanjnghaaBas02
import Derived.Test.YtjjifefanjnghaaBas07
import Derived.Test.YtjjifefanjnghaaBas08
import Derived.Test.YtjjifefanjnghaaBas03
set_option linter.unusedSimpArgs false
set_option linter.unusedVariables false
namespace Go.Proofs.Ytjjifefanjnghaa
open Go.RowKit
set_option maxRecDepth 100000
def ErrsX (Q : Int → Prop) (w : World) (e : Ending) (w' : World) : Prop := ∃ r : Int,e = .returned (.int .i64 r) ∧ Q r ∧ w = w'
def ErrsXB (Q : Int → Prop) (w : World) (e : Ending) (w' : World) : Prop := ∃ r : Int,e = .returned (.int .i64 r) ∧ Q r ∧ Below w.heap.size w w'
def SetErr (l : List Int) (n r : Int) : Prop := (r = 0 ∧ setOk l n l.length) ∨ ∃ (k : Nat) (x : Int),k < l.length ∧ setOk l n k ∧ l[k]? = some x ∧ ((r = 2 ∧ (x < 0 ∨ n ≤ x)) ∨ (r = 5 ∧ 0 ≤ x ∧ x < n ∧ 0 < k ∧ ∃ y,l[k - 1]? = some y ∧ x ≤ y))
theorem setOk.less {l : List Int} {n : Int} {j k : Nat} (h : setOk l n k) (hj : j ≤ k) : setOk l n j := fun i x hi => h i x (by omega)
theorem SetErr.zero {l : List Int} {n r : Int} (h : SetErr l n r) : r = 0 ↔ setOk l n l.length := by
 constructor
 · rintro rfl
   rcases h with ⟨_,h⟩ | ⟨_,_,_,_,_,⟨h,_⟩ | ⟨h,_⟩⟩
   · exact h
   · cases h
   · cases h
 · intro hs
   rcases h with ⟨h,_⟩ | ⟨k,x,hk,_,hx,⟨_,h⟩ | ⟨_,_,_,h0,y,hy,h⟩⟩
   · exact h
   · have := hs k x hk hx; omega
   · have := (hs k x hk hx).2.2 y h0 hy; omega
theorem SetErr.uniq {l : List Int} {n r q : Int} (h : SetErr l n r) (g : SetErr l n q) : r = q := by
 have hz := h.zero
 have gz := g.zero
 by_cases h0 : r = 0
 · rw [h0,gz.2 (hz.1 h0)]
 have g0 : q ≠ 0 := fun e => h0 (hz.2 (gz.1 e))
 rcases h with ⟨e,_⟩ | ⟨k,x,hk,hok,hx,hd⟩
 · exact absurd e h0
 rcases g with ⟨e,_⟩ | ⟨j,y,hj,gok,gy,gd⟩
 · exact absurd e g0
 have e : k = j := by
  rcases Nat.lt_trichotomy k j with c | c | c
  · have := gok k x c hx
    rcases hd with ⟨_,hd⟩ | ⟨_,_,_,p0,z,hz,hd⟩
    · omega
    · have := this.2.2 z p0 hz; omega
  · exact c
  · have := hok j y c gy
    rcases gd with ⟨_,gd⟩ | ⟨_,_,_,p0,z,hz,gd⟩
    · omega
    · have := this.2.2 z p0 hz; omega
 subst e
 rw [hx] at gy; cases gy
 rcases hd with ⟨rfl,_⟩ | ⟨rfl,_⟩ <;> rcases gd with ⟨rfl,_⟩ | ⟨rfl,_⟩ <;> first | rfl | (exfalso; omega)
def EdErr (a : Au) (r : Int) : Prop := (r = 0 ∧ ∀ i,i < a.ed.length → edOk a i) ∨ ∃ (k : Nat) (x : Ed),k < a.ed.length ∧ (∀ i,i < k → edOk a i) ∧ a.ed[k]? = some x ∧
 ((r = 2 ∧ ¬ (0 ≤ x.src ∧ x.src < a.n ∧ 0 ≤ x.dst ∧ x.dst < a.n)) ∨ (r = 9 ∧ (0 ≤ x.src ∧ x.src < a.n ∧ 0 ≤ x.dst ∧ x.dst < a.n) ∧ ¬ x.ev ∈ a.al) ∨
  (r = 5 ∧ (0 ≤ x.src ∧ x.src < a.n ∧ 0 ≤ x.dst ∧ x.dst < a.n) ∧ x.ev ∈ a.al ∧ 0 < k ∧ ∃ y,a.ed[k - 1]? = some y ∧ ¬ (y.src < x.src ∨ y.src = x.src ∧ y.ev < x.ev)))
theorem EdErr.not {a : Au} {k : Nat} {x : Ed} {r : Int} (hx : a.ed[k]? = some x) (h : (r = 2 ∧ ¬ (0 ≤ x.src ∧ x.src < a.n ∧ 0 ≤ x.dst ∧ x.dst < a.n)) ∨ (r = 9 ∧ (0 ≤ x.src ∧ x.src < a.n ∧ 0 ≤ x.dst ∧ x.dst < a.n) ∧ ¬ x.ev ∈ a.al) ∨
   (r = 5 ∧ (0 ≤ x.src ∧ x.src < a.n ∧ 0 ≤ x.dst ∧ x.dst < a.n) ∧ x.ev ∈ a.al ∧ 0 < k ∧ ∃ y,a.ed[k - 1]? = some y ∧ ¬ (y.src < x.src ∨ y.src = x.src ∧ y.ev < x.ev))) : ¬ edOk a k := fun g => by
 have g1 := g x hx
 rcases h with ⟨_,h⟩ | ⟨_,_,h⟩ | ⟨_,_,_,p0,y,hy,h⟩
 · exact h ⟨g1.1,g1.2.1,g1.2.2.1,g1.2.2.2.1⟩
 · exact h g1.2.2.2.2.1
 · exact h (g1.2.2.2.2.2 y p0 hy)
theorem EdErr.zero {a : Au} {r : Int} (h : EdErr a r) : r = 0 ↔ ∀ i,i < a.ed.length → edOk a i := by
 rcases h with ⟨h,g⟩ | ⟨k,x,hk,_,hx,hd⟩
 · exact ⟨fun _ => g,fun _ => h⟩
 · have hn := EdErr.not hx hd
   constructor
   · rintro rfl
     rcases hd with ⟨h,_⟩ | ⟨h,_⟩ | ⟨h,_⟩ <;> cases h
   · exact fun h => absurd (h k hk) hn
theorem EdErr.uniq {a : Au} {r q : Int} (h : EdErr a r) (g : EdErr a q) : r = q := by
 have hz := h.zero
 have gz := g.zero
 by_cases h0 : r = 0
 · rw [h0,gz.2 (hz.1 h0)]
 have g0 : q ≠ 0 := fun e => h0 (hz.2 (gz.1 e))
 rcases h with ⟨e,_⟩ | ⟨k,x,hk,hok,hx,hd⟩
 · exact absurd e h0
 rcases g with ⟨e,_⟩ | ⟨j,y,hj,gok,gy,gd⟩
 · exact absurd e g0
 have hn := EdErr.not hx hd
 have gn := EdErr.not gy gd
 have e : k = j := by
  rcases Nat.lt_trichotomy k j with c | c | c
  · exact absurd (gok k c) hn
  · exact c
  · exact absurd (hok j c) gn
 subst e
 rw [hx] at gy; cases gy
 rcases hd with ⟨rfl,h1⟩ | ⟨rfl,h1,h2⟩ | ⟨rfl,h1,h2,_⟩ <;> rcases gd with ⟨rfl,g1⟩ | ⟨rfl,g1,g2⟩ | ⟨rfl,g1,g2,_⟩ <;> first | rfl | exact absurd h1 g1 | exact absurd g1 h1 | exact absurd h2 g2 | exact absurd g2 h2
def ChkErr (a : Au) (r : Int) : Prop := (r ≠ 0 ∧ SetErr a.al 32 r) ∨ (setOk a.al 32 a.al.length ∧ ((r = 2 ∧ a.n < 0) ∨ (r = 3 ∧ 4096 < a.n))) ∨ (setOk a.al 32 a.al.length ∧ (0 ≤ a.n ∧ a.n ≤ 4096) ∧ r ≠ 0 ∧ SetErr a.mr a.n r) ∨
 (setOk a.al 32 a.al.length ∧ (0 ≤ a.n ∧ a.n ≤ 4096) ∧ setOk a.mr a.n a.mr.length ∧ EdErr a r)
theorem ChkErr.zero {a : Au} {r : Int} (h : ChkErr a r) : r = 0 ↔ a.Right := by
 rcases h with ⟨h,g⟩ | ⟨_,⟨rfl,h⟩ | ⟨rfl,h⟩⟩ | ⟨_,_,h,g⟩ | ⟨h1,⟨h2,h3⟩,h4,g⟩
 · exact ⟨fun e => absurd e h,fun e => g.zero.2 e.al⟩
 · exact ⟨fun e => absurd e (by decide),fun e => by have := e.n0; omega⟩
 · exact ⟨fun e => absurd e (by decide),fun e => by have := e.n1; omega⟩
 · exact ⟨fun e => absurd e h,fun e => g.zero.2 e.mr⟩
 · exact g.zero.trans ⟨fun h => ⟨h1,h2,h3,h4,h⟩,fun h => h.ed⟩
theorem ChkErr.uniq {a : Au} {r q : Int} (h : ChkErr a r) (g : ChkErr a q) : r = q := by
 rcases h with ⟨h0,h⟩ | ⟨h1,h⟩ | ⟨h1,h2,h0,h⟩ | ⟨h1,h2,h3,h⟩
 · have hn : ¬ setOk a.al 32 a.al.length := fun e => h0 (h.zero.2 e)
   rcases g with ⟨g0,g⟩ | ⟨g1,_⟩ | ⟨g1,_⟩ | ⟨g1,_⟩
   · exact h.uniq g
   · exact absurd g1 hn
   · exact absurd g1 hn
   · exact absurd g1 hn
 · rcases g with ⟨g0,g⟩ | ⟨g1,g⟩ | ⟨g1,g2,_⟩ | ⟨g1,g2,_⟩
   · exact absurd (g.zero.2 h1) g0
   · rcases h with ⟨rfl,h⟩ | ⟨rfl,h⟩ <;> rcases g with ⟨rfl,g⟩ | ⟨rfl,g⟩ <;> first | rfl | (exfalso; omega)
   · exfalso; rcases h with ⟨_,h⟩ | ⟨_,h⟩ <;> omega
   · exfalso; rcases h with ⟨_,h⟩ | ⟨_,h⟩ <;> omega
 · rcases g with ⟨g0,g⟩ | ⟨g1,g⟩ | ⟨g1,g2,g0,g⟩ | ⟨g1,g2,g3,g⟩
   · exact absurd (g.zero.2 h1) g0
   · exfalso; rcases g with ⟨_,h⟩ | ⟨_,h⟩ <;> omega
   · exact h.uniq g
   · exact absurd (h.zero.2 g3) h0
 · rcases g with ⟨g0,g⟩ | ⟨g1,g⟩ | ⟨g1,g2,g0,g⟩ | ⟨g1,g2,g3,g⟩
   · exact absurd (g.zero.2 h1) g0
   · exfalso; rcases g with ⟨_,h⟩ | ⟨_,h⟩ <;> omega
   · exact absurd (g.zero.2 h3) g0
   · exact h.uniq g
theorem ErrsX.two {Q : Int → Prop} {w w' : World} {e : Ending} (h : ErrsX Q w e w') : (∃ r : Int,e = .returned (.int .i64 r) ∧ (r == 0) = false ∧ Hid (r ≠ 0) ∧ Hid (Q r) ∧ w = w') ∨ (e = .returned (.int .i64 0) ∧ Hid (Q 0) ∧ w = w') := by
 obtain ⟨r,rfl,hr,rfl⟩ := h
 by_cases h0 : r = 0
 · subst h0; exact .inr ⟨rfl,hr,rfl⟩
 · exact .inl ⟨r,rfl,by simpa using h0,h0,hr,rfl⟩
theorem ErrsXB.two {Q : Int → Prop} {w w' : World} {e : Ending} (h : ErrsXB Q w e w') : (∃ r : Int,e = .returned (.int .i64 r) ∧ (r == 0) = false ∧ Hid (r ≠ 0) ∧ Hid (Q r) ∧ Below w.heap.size w w') ∨ (e = .returned (.int .i64 0) ∧ Hid (Q 0) ∧ Below w.heap.size w w') := by
 obtain ⟨r,rfl,hr,hb⟩ := h
 by_cases h0 : r = 0
 · subst h0; exact .inr ⟨rfl,hr,hb⟩
 · exact .inl ⟨r,rfl,by simpa using h0,h0,hr,hb⟩
set_option maxHeartbeats 400000 in
theorem checkSetX_c (A : Option Addr) (c : Nat) (l : List Int) (n : Int) (w : World) (h : IntsAt w A l) (hl : l.length ≤ maxLen) :
 Calls Try.prog 36 #[.slice A l.length c,.int .i64 n] w (ErrsX (SetErr l n) w) := by
 unfold maxLen at hl
 go_enter Try.func36,Try.ntmps36
 go_wp2
 go_loop [5,6,9] (fun a b i => ∃ k : Nat,k ≤ l.length ∧ i = .int .i64 k ∧ Hid (setOk l n k)) (fun _ _ i => l.length - (intOf i).toNat)
 case atStart => exact ⟨0,by omega,rfl,fun i x h => absurd h (by omega)⟩
 case round =>
  obtain ⟨k,hk,rfl,hrel⟩ := hrel
  by_cases hlt : k < l.length
  · obtain ⟨b,off,x,rfl,_,hx,hcx⟩ := IntsAt.at h hlt
    by_cases hk0 : k = 0
    · subst hk0
      rw [Nat.add_zero] at hcx
      go_wp2
      any_goals (go_ret; exact ⟨_,rfl,.inr ⟨0,x,hlt,hrel.out,hx,.inl ⟨rfl,by omega⟩⟩,rfl⟩)
      go_round
      case rel => exact ⟨1,by omega,by go_num,hrel.out.step hx (by omega) (by omega) (fun y h => absurd h (by omega))⟩
      case measure => simp [intOf]; omega
    · obtain ⟨y,hy,hcy⟩ := IntsAt.more h (k := k - 1) (by omega)
      go_wp2
      any_goals (go_ret; first | exact ⟨2,rfl,.inr ⟨k,x,hlt,hrel.out,hx,.inl ⟨rfl,by omega⟩⟩,rfl⟩ | exact ⟨5,rfl,.inr ⟨k,x,hlt,hrel.out,hx,.inr ⟨rfl,by omega,by omega,by omega,y,hy,by omega⟩⟩,rfl⟩)
      go_round
      case rel => exact ⟨k+1,by omega,by go_num,hrel.out.step hx (by omega) (by omega) (fun z h hz => by rw [hy] at hz; cases hz; omega)⟩
      case measure => simp [intOf]; omega
  · obtain rfl : k = l.length := by omega
    go_wp2
    go_ret
    exact ⟨0,rfl,.inl ⟨rfl,hrel.out⟩,rfl⟩
set_option maxHeartbeats 1000000 in
theorem checkEdgesX_c (a : Au) (p : AuP) (w : World) (h : Au.At w a p) :
 Calls Try.prog 37 #[a.val p] w (ErrsXB (EdErr a) w) := by
 have B0 : Hid (Below w.heap.size w (w.alloc (.cells (auCells a p).toArray 25))) := Below.new _ _
 have W0 : Hid (Fro (w.heap.size + 1) (w.alloc (.cells (auCells a p).toArray 25)) (w.alloc (.cells (auCells a p).toArray 25))) := Fro.refl (by simp)
 have C0 : Hid (HasAt w.heap.size (auCells a p) (w.alloc (.cells (auCells a p).toArray 25))) := HasAt.new w _ _ rfl
 have HP := Lib.hid h
 have lal := h.lal
 have led := h.led
 clear h
 obtain ⟨al,n,mr,ed⟩ := a
 obtain ⟨A1,c1,A2,c2,A3,c3⟩ := p
 dsimp only [Au.val,auCells] at *
 have q3 := C0.out.c 3 _ rfl
 go_enter Try.func37,Try.ntmps37
 go_wp2_with fail
 generalize hW : w.alloc (.cells #[.slice A1 al.length c1,.int .i64 n,.slice A2 mr.length c2,.slice A3 ed.length c3] 25) = W at *
 clear hW q3
 go_loopw [3,9] (fun _ i wr => ∃ k : Nat,k ≤ ed.length ∧ i = .int .i64 k ∧ Hid (Fro (w.heap.size + 1) W wr) ∧ Hid (∀ i,i < k → edOk ⟨al,n,mr,ed⟩ i)) (fun _ i _ => ed.length - (intOf i).toNat)
 case atStart => exact ⟨0,by omega,rfl,W0.out,fun i h => absurd h (by omega)⟩
 case round =>
  obtain ⟨k,hk,rfl,BW,HE⟩ := hrel
  have C2 := Lib.hid (C0.out.fro BW.out (Nat.lt_succ_self _))
  have q0 := C2.out.c 0 _ rfl
  have q1 := C2.out.c 1 _ rfl
  have q3 := C2.out.c 3 _ rfl
  have hz := C2.out.z
  have BWW : Hid (Below w.heap.size w wr) := B0.out.trans (BW.out.b.mono (by omega))
  by_cases hlt : k < ed.length
  · obtain ⟨b,off,x,hA3,hb,hx,e0,e1,e2⟩ := EdsAt.at ((HP.out.below BWW.out).ed) hlt
    obtain ⟨src,ev,dst⟩ := x
    dsimp only at hA3 e0 e1 e2
    subst hA3
    have HX := Lib.hid hx
    clear hx
    by_cases hs : 0 ≤ src ∧ src < n ∧ 0 ≤ dst ∧ dst < n
    · obtain ⟨s0,s1,d0,d1⟩ := hs
      have BN : Hid (Fro (w.heap.size + 1) W (wr.alloc (.cells #[.int .i64 src,.int .i64 ev,.int .i64 dst] 70))) := BW.out.alloc _
      have BNN : Hid (Below w.heap.size w (wr.alloc (.cells #[.int .i64 src,.int .i64 ev,.int .i64 dst] 70))) := B0.out.trans (BN.out.b.mono (by omega))
      go_wp2_with fail
      refine (containsV_c A1 c1 al ev _ ((HP.out.below BNN.out).al) lal).mono ?_
      intro e w1 hs; rcases hs.no1 with ⟨rfl,SE,rfl⟩ | ⟨rfl,SE,rfl⟩
      · clear hs
        go_wp2
        go_ret
        exact ⟨9,rfl,.inr ⟨k,_,hlt,HE.out,HX.out,.inr (.inl ⟨rfl,⟨s0,s1,d0,d1⟩,SE.out⟩)⟩,BNN.out⟩
      clear hs
      by_cases hk0 : k = 0
      · subst hk0
        go_wp2
        go_roundw
        case rel => exact ⟨1,by omega,by go_num,BN.out,fun i hi => by
         obtain rfl : i = 0 := by omega
         intro z hz
         rw [HX.out] at hz; cases hz
         exact ⟨s0,s1,d0,d1,SE.out,fun y h => absurd h (by omega)⟩⟩
        case measure => simp [intOf]; omega
      · obtain ⟨y,hy,f0,f1,f2⟩ := EdsAt.more ((HP.out.below BWW.out).ed) (k := k - 1) (by simp only; omega)
        obtain ⟨ysrc,yev,ydst⟩ := y
        dsimp only at f0 f1 f2
        have HY := Lib.hid hy
        clear hy
        have hk1 : 0 < k := by omega
        have hk2 : ((k : Int) == 0) = false := by simpa using hk0
        have BN2 : Hid (Fro (w.heap.size + 1) W ((wr.alloc (.cells #[.int .i64 src,.int .i64 ev,.int .i64 dst] 70)).alloc (.cells #[.int .i64 ysrc,.int .i64 yev,.int .i64 ydst] 70))) := BN.out.alloc _
        have BN2N : Hid (Below w.heap.size w ((wr.alloc (.cells #[.int .i64 src,.int .i64 ev,.int .i64 dst] 70)).alloc (.cells #[.int .i64 ysrc,.int .i64 yev,.int .i64 ydst] 70))) := B0.out.trans (BN2.out.b.mono (by omega))
        by_cases hord : ysrc < src ∨ ysrc = src ∧ yev < ev
        · have HO := Lib.hid hord
          have g1 : decide (src < ysrc) = false := by simp; omega
          by_cases g2 : src = ysrc
          · subst g2
            have g3 : decide (ev ≤ yev) = false := by simp; omega
            have HEV : Hid (yev < ev) := by unfold Hid; omega
            clear hord
            go_wp2
            go_roundw
            case rel => exact ⟨k + 1,by omega,by go_num,BN2.out,fun i hi => by
             by_cases e : i = k
             · subst e
               intro z hz
               rw [HX.out] at hz; cases hz
               exact ⟨s0,s1,d0,d1,SE.out,fun y _ h => by rw [HY.out] at h; cases h; exact .inr ⟨rfl,HEV.out⟩⟩
             · exact HE.out i (by omega)⟩
            case measure => simp [intOf]; omega
          · have g2' : (src == ysrc) = false := by simpa using g2
            clear hord g2
            go_wp2
            go_roundw
            case rel => exact ⟨k + 1,by omega,by go_num,BN2.out,fun i hi => by
             by_cases e : i = k
             · subst e
               intro z hz
               rw [HX.out] at hz; cases hz
               exact ⟨s0,s1,d0,d1,SE.out,fun y _ h => by rw [HY.out] at h; cases h; exact HO.out⟩
             · exact HE.out i (by omega)⟩
            case measure => simp [intOf]; omega
        · have HO := Lib.hid hord
          have NO : Hid (EdErr ⟨al,n,mr,ed⟩ 5) := .inr ⟨k,_,hlt,HE.out,HX.out,.inr (.inr ⟨rfl,⟨s0,s1,d0,d1⟩,SE.out,hk1,_,HY.out,HO.out⟩)⟩
          by_cases g1 : src < ysrc
          · clear hord
            go_wp2
            go_ret
            exact ⟨5,rfl,NO.out,BN2N.out⟩
          · have g1' : decide (src < ysrc) = false := by simpa using g1
            obtain rfl : src = ysrc := by omega
            have g3 : decide (ev ≤ yev) = true := by simp; omega
            clear hord
            go_wp2
            go_ret
            exact ⟨5,rfl,NO.out,BN2N.out⟩
    · go_wp2
      any_goals (go_ret; exact ⟨2,rfl,.inr ⟨k,_,hlt,HE.out,HX.out,.inl ⟨rfl,by simp only; omega⟩⟩,BWW.out.alloc (by omega) _⟩)
  · obtain rfl : k = ed.length := by omega
    go_wp2
    go_ret
    exact ⟨0,rfl,.inl ⟨rfl,HE.out⟩,BWW.out⟩
set_option maxHeartbeats 1000000 in
theorem CheckX_c (a : Au) (p : AuP) (w : World) (h : Au.At w a p) :
 Calls Try.prog 13 #[a.val p] w (ErrsXB (ChkErr a) w) := by
 have B0 : Hid (Below w.heap.size w (w.alloc (.cells (auCells a p).toArray 25))) := Below.new _ _
 have C0 : Hid (HasAt w.heap.size (auCells a p) (w.alloc (.cells (auCells a p).toArray 25))) := HasAt.new w _ _ rfl
 have HP := Lib.hid h
 have lal := h.lal
 have lmk := h.lmk
 clear h
 obtain ⟨al,n,mr,ed⟩ := a
 obtain ⟨A1,c1,A2,c2,A3,c3⟩ := p
 dsimp only [Au.val,auCells] at *
 have q0 := C0.out.c 0 _ rfl
 have q1 := C0.out.c 1 _ rfl
 have q2 := C0.out.c 2 _ rfl
 have q3 := C0.out.c 3 _ rfl
 go_enter Try.func13,Try.ntmps13
 go_wp2_with fail
 generalize hW : w.alloc (.cells #[.slice A1 al.length c1,.int .i64 n,.slice A2 mr.length c2,.slice A3 ed.length c3] 25) = W at *
 clear hW
 refine (checkSetX_c A1 c1 al 32 W ((HP.out.below B0.out).al) (by unfold maxLen; omega)).mono ?_
 intro e w1 hs
 rcases hs.two with ⟨r,rfl,hr,HR,S1,rfl⟩ | ⟨rfl,S1,rfl⟩
 · clear hs
   go_wp2
   go_ret
   exact ⟨r,rfl,.inl ⟨HR.out,S1.out⟩,B0.out⟩
 clear hs
 have S1 := Lib.hid (S1.out.zero.1 rfl)
 by_cases hn0 : n < 0
 · go_wp2
   go_ret
   exact ⟨2,rfl,.inr (.inl ⟨S1.out,.inl ⟨rfl,hn0⟩⟩),B0.out⟩
 by_cases hn1 : 4096 < n
 · go_wp2
   go_ret
   exact ⟨3,rfl,.inr (.inl ⟨S1.out,.inr ⟨rfl,hn1⟩⟩),B0.out⟩
 go_wp2_with fail
 refine (checkSetX_c A2 c2 mr n W ((HP.out.below B0.out).mr) (by unfold maxLen; omega)).mono ?_
 intro e w1 hs
 rcases hs.two with ⟨r,rfl,hr,HR,S2,rfl⟩ | ⟨rfl,S2,rfl⟩
 · clear hs
   go_wp2
   go_ret
   exact ⟨r,rfl,.inr (.inr (.inl ⟨S1.out,⟨by omega,by omega⟩,HR.out,S2.out⟩)),B0.out⟩
 clear hs
 have S2 := Lib.hid (S2.out.zero.1 rfl)
 go_wp2_with fail
 refine (checkEdgesX_c ⟨al,n,mr,ed⟩ ⟨A1,c1,A2,c2,A3,c3⟩ W (HP.out.below B0.out)).mono ?_
 rintro e w2 ⟨r,rfl,hr,hb⟩
 have HR := Lib.hid hr
 have HB := Lib.hid (B0.out.trans (hb.mono B0.out.size))
 clear hr hb
 go_wp2
 go_ret
 exact ⟨r,rfl,.inr (.inr (.inr ⟨S1.out,⟨by omega,by omega⟩,S2.out,HR.out⟩)),HB.out⟩
theorem mini_of {a m : Au} {c : List Int} (hr : a.Right) (hl : c.length = a.n.toNat) (hc : ∀ i j : Nat,i < c.length → j < c.length → (c[i]? = c[j]? ↔ Eqv a i j))
 (h : m.al = a.al ∧ ((a.n = 0 ∧ m = ⟨a.al,0,[],[]⟩) ∨ ∃ fs,Built (clsV c) (outK a fun _ => true) 0 m fs ∧ (∀ v,v ∈ fs → 0 ≤ v ∧ v < a.n) ∧ ∀ d : Nat,(d : Int) ∈ m.mr ↔ ∃ v,fs[d]? = some v ∧ v ∈ a.mr)) : Mini a m := by
 obtain ⟨hal,⟨h0,rfl⟩ | ⟨fs,B,hfs,hm⟩⟩ := h
 · have hst : a.st = -1 := if_pos h0
   have hr1 : ∀ w,rn a w = -1 := fun w => by unfold rn; rw [hst,runV_neg _ (by omega)]
   have hr2 : ∀ w,rn (⟨a.al,0,[],[]⟩ : Au) w = -1 := fun w => by unfold rn; rw [show (⟨a.al,0,[],[]⟩ : Au).st = -1 from rfl,runV_neg _ (by omega)]
   refine ⟨rfl,⟨hr.al,Int.le_refl _,by show (0 : Int) ≤ 4096; decide,fun i x hi => by simp at hi,fun i hi => by simp at hi⟩,fun k h1 h2 => by simp only at h2; omega,fun w => by rw [hr1,hr2],fun w => ?_,fun i j i0 i1 => by simp only at i1; omega⟩
   rw [hr1,hr2]
   exact ⟨fun h => by simp at h,fun h => by have := (hr.mem h).1; omega⟩
 · rcases Int.lt_or_le 0 a.n with hn | hn
   · exact B.mini hr hn hl hc hfs hal hm
   · have hz := List.mem_of_getElem? B.z
     have := hfs 0 hz
     omega
def GivesMini (a : Au) (w : World) (e : Ending) (w' : World) : Prop := ∃ m p',e = .returned (.tuple #[m.val p',.int .i64 0]) ∧ Hid (Sep w.heap.size w (eAu m p') w') ∧ Hid (Lens m) ∧ Hid (Mini a m)
def Mrg (a : Au) (c : List Int) (m : Au) : Prop := m.al = a.al ∧ ((a.n = 0 ∧ m = ⟨a.al,0,[],[]⟩) ∨ ∃ fs,Built (clsV c) (outK a fun _ => true) 0 m fs ∧ (∀ v,v ∈ fs → 0 ≤ v ∧ v < a.n) ∧ ∀ d : Nat,(d : Int) ∈ m.mr ↔ ∃ v,fs[d]? = some v ∧ v ∈ a.mr)
def MinB (a m : Au) : Prop := ∃ c k,c.length = a.n.toNat ∧ Canon c k ∧ (∀ i j : Nat,i < c.length → j < c.length → (c[i]? = c[j]? ↔ Eqv a i j)) ∧ Mrg a c m
theorem MinB.mini {a m : Au} (h : MinB a m) (hr : a.Right) : Mini a m := by
 obtain ⟨c,k,h1,_,h2,h3⟩ := h
 exact mini_of hr h1 h2 h3
def GivesMB (a : Au) (w : World) (e : Ending) (w' : World) : Prop := ∃ m p',e = .returned (.tuple #[m.val p',.int .i64 0]) ∧ Hid (Sep w.heap.size w (eAu m p') w') ∧ Hid (Lens m) ∧ Hid (MinB a m)
set_option maxHeartbeats 4000000 in
theorem minimizeB_c (a : Au) (p : AuP) (w : World) (hr : a.Right) (hc : Caps a p) (hA : Au.At w a p) :
 Calls Try.prog 15 #[a.val p] w (GivesMB a w) := by
 have HR := Lib.hid hr
 have HA := Lib.hid hA
 have HC := Lib.hid hc
 obtain ⟨al,n,mr,ed⟩ := a
 obtain ⟨A1,c1,A2,c2,A3,c3⟩ := p
 dsimp only [Au.val]
 clear hr hA hc
 go_enter Try.func15,Try.ntmps15
 go_wp2_with fail
 refine calls_world (fun W => Sep w.heap.size w [eBlk (w.heap.size + 1) 25 [.slice none 0 0,.int .i64 0,.slice none 0 0,.slice none 0 0],eBlk w.heap.size 25 [.slice A1 al.length c1,.int .i64 n,.slice A2 mr.length c2,.slice A3 ed.length c3]] W) ?_ fun W S => ?_
 · exact ((Sep.here w).alloc' _ [_,_,_,_] rfl rfl).alloc' _ [_,_,_,_] rfl (by simp)
 refine (Check_c ⟨al,n,mr,ed⟩ ⟨A1,c1,A2,c2,A3,c3⟩ W (HA.out.below S.below)).mono ?_
 intro e w1 hs
 rcases hs.two with ⟨r,rfl,hr,_,HN,_⟩ | ⟨rfl,_,hb⟩
 · exact absurd HR.out HN.out
 clear hs
 have S0 := Lib.hid (S.next hb)
 clear S hb
 go_wp2_with fail
 refine wp_world (fun W => Sep w.heap.size w [eBlk (w.heap.size + 1) 25 [.slice none 0 0,.int .i64 0,.slice none 0 0,.slice none 0 0],eBlk w.heap.size 25 [.slice A1 al.length c1,.int .i64 n,.slice A2 mr.length c2,.slice A3 ed.length c3]] W) S0.out fun W2 S => ?_
 have S0 := Lib.hid S
 clear S
 have S1 := Lib.hid S0.out.drew
 refine wp_region_held_drew (S := (fun V => Sep w.heap.size w [eBlk w.heap.size 25 [.slice A1 al.length c1,.int .i64 n,.slice A2 mr.length c2,.slice A3 ed.length c3]] V)) (by kernel_rfl) ?_ (fun hHeld => ?_)
 · exact S1.out.pick [1] (by decide)
 generalize hwz : W2.drew = w1 at *
 clear hwz
 refine tkH 0 rfl (v := ?_) (by kernel_rfl) ?_ hHeld ?_
 rotate_left
 · intro V hSw
   have b0 := ckC hSw 0 rfl 0 rfl
   have b1 := ckC hSw 0 rfl 1 rfl
   have b2 := ckC hSw 0 rfl 2 rfl
   have b3 := ckC hSw 0 rfl 3 rfl
   clear hSw
   first | (go_simp; done) | (go_simp; with_reducible rfl)
 try simp only [sx]
 refine tkH 1 rfl (v := ?_) (by kernel_rfl) ?_ hHeld ?_
 rotate_left
 · intro V hSw
   have b0 := ckC hSw 0 rfl 0 rfl
   have b1 := ckC hSw 0 rfl 1 rfl
   have b2 := ckC hSw 0 rfl 2 rfl
   have b3 := ckC hSw 0 rfl 3 rfl
   clear hSw
   first | (go_simp; done) | (go_simp; with_reducible rfl)
 try simp only [sx]
 refine rdH 2 rfl fun K hK => ?_
 go_simp
 refine (classes_c ⟨al,n,mr,ed⟩ ⟨A1,c1,A2,c2,A3,c3⟩ w1 HR.out HC.out (HA.out.below S1.out.below)).mono ?_
 rintro e w2 ⟨gc,c,m,rfl,T,HCL⟩
 have S2 := ckN S1.out T.out
 clear T
 refine hK.out _ _ ?_ (fun hHeld => ?_)
 · exact S2.out.pick [2] (by decide)
 clear hK K
 try simp only [sx]
 refine rdH 3 rfl fun K hK => ?_
 go_simp
 refine (merge_min_c ⟨al,n,mr,ed⟩ ⟨A1,c1,A2,c2,A3,c3⟩ (some ⟨gc,0,none⟩) n.toNat c w2 HR.out HC.out (HA.out.below S2.out.below) (IntsAt.blk c (S2.out.get 0 rfl)) HCL.out.1).mono ?_
 rintro e w3 ⟨⟨al1,n1,mr1,ed1⟩,⟨D1,d1,D2,d2,D3,d3⟩,rfl,T,LN1,FACT⟩
 have S3 := ckN S2.out T.out
 clear T
 refine hK.out _ _ ?_ (fun hHeld => ?_)
 · exact S3.out.pick [5] (by decide)
 clear hK K
 try simp only [sx]
 refine rdH 4 rfl fun K hK => ?_
 have sc0 := ckC S3.out 4 rfl 0 rfl
 have sf0 := BlkAt.free (S3.out.get 4 rfl) 0
 have sc1 := ckC S3.out 4 rfl 1 rfl
 have sf1 := BlkAt.free (S3.out.get 4 rfl) 1
 have sc2 := ckC S3.out 4 rfl 2 rfl
 have sf2 := BlkAt.free (S3.out.get 4 rfl) 2
 have sc3 := ckC S3.out 4 rfl 3 rfl
 have sf3 := BlkAt.free (S3.out.get 4 rfl) 3
 try dsimp only [Au.val] at *
 go_simp
 obtain ⟨w4,hw4⟩ : ∃ v,v = ((((w3.setCell ⟨w.heap.size + 1,0,none⟩ (.slice D1 al1.length d1)).setCell ⟨w.heap.size + 1,1,none⟩ (.int .i64 n1)).setCell ⟨w.heap.size + 1,2,none⟩ (.slice D2 mr1.length d2)).setCell ⟨w.heap.size + 1,3,none⟩ (.slice D3 ed1.length d3)) := ⟨_,rfl⟩
 rw [← hw4]
 have S4 : Hid (Sep w.heap.size w [eInts al1 (.slice D1 al1.length d1),eInts mr1 (.slice D2 mr1.length d2),eEds ed1 (.slice D3 ed1.length d3),eBlk gc 3 (c.map (Value.int .i64)),eBlk (w.heap.size + 1) 25 [.slice D1 al1.length d1,.int .i64 n1,.slice D2 mr1.length d2,.slice D3 ed1.length d3],eBlk w.heap.size 25 [.slice A1 al.length c1,.int .i64 n,.slice A2 mr.length c2,.slice A3 ed.length c3]] w4) := by rw [hw4]; exact ((((S3.out.set 4 rfl 0 (.slice D1 al1.length d1)).set 4 rfl 1 (.int .i64 n1)).set 4 rfl 2 (.slice D2 mr1.length d2)).set 4 rfl 3 (.slice D3 ed1.length d3))
 clear hw4 sc0 sc1 sc2 sc3 sf0 sf1 sf2 sf3
 refine hK.out _ _ ?_ (fun hHeld => ?_)
 · exact S4.out.pick [5] (by decide)
 clear hK K
 try simp only [sx]
 refine tkP 5 rfl hHeld ?_
 try simp only [sx]
 refine wpAnyH_done (by kernel_rfl) ?_ _
 have r0 := ckC S4.out 4 rfl 0 rfl
 have r1 := ckC S4.out 4 rfl 1 rfl
 have r2 := ckC S4.out 4 rfl 2 rfl
 have r3 := ckC S4.out 4 rfl 3 rfl
 have SF : Hid (Sep w.heap.size w (eAu ⟨al1,n1,mr1,ed1⟩ ⟨D1,d1,D2,d2,D3,d3⟩) w4) := S4.out.pick [0,1,2] (by decide)
 go_wp2_with fail
 refine bodyPost_ret (v := .tuple #[.agg #[.slice D1 al1.length d1,.int .i64 n1,.slice D2 mr1.length d2,.slice D3 ed1.length d3],.int .i64 0]) (by simp [results,Try.results15,go_sem, *]) rfl ?_
 exact ⟨⟨al1,n1,mr1,ed1⟩,⟨D1,d1,D2,d2,D3,d3⟩,rfl,SF.out,LN1.out,c,m,HCL.out.1,HCL.out.2.1,HCL.out.2.2,FACT.out⟩
theorem ChkErr.of_right {a : Au} (h : a.Right) : ChkErr a 0 := .inr (.inr (.inr ⟨h.al,⟨h.n0,h.n1⟩,h.mr,.inl ⟨rfl,h.ed⟩⟩))
def GivesKX (a : Au) (w : World) (e : Ending) (w' : World) : Prop := ∃ r : Int,ChkErr a r ∧ ((r ≠ 0 ∧ e = .returned (.tuple #[.slice none 0 0,.int .i64 r]) ∧ Below w.heap.size w w') ∨ (r = 0 ∧ ∃ g c m,e = .returned (.tuple #[.slice (some ⟨g,0,none⟩) a.n.toNat a.n.toNat,.int .i64 0]) ∧ Hid (Sep w.heap.size w [eBlk g 3 (c.map (Value.int .i64))] w') ∧ Hid (c.length = a.n.toNat ∧ Canon c m ∧ ∀ i j : Nat,i < c.length → j < c.length → (c[i]? = c[j]? ↔ Eqv a i j))))
set_option maxHeartbeats 1000000 in
theorem classesX_c (a : Au) (p : AuP) (w : World) (hc : a.Right → Caps a p) (hA : Au.At w a p) :
 Calls Try.prog 14 #[a.val p] w (GivesKX a w) := by
 have HA := Lib.hid hA
 have HC := Lib.hid hc
 obtain ⟨al,n,mr,ed⟩ := a
 obtain ⟨A1,c1,A2,c2,A3,c3⟩ := p
 dsimp only [Au.val]
 clear hA hc
 go_enter Try.func14,Try.ntmps14
 go_wp2_with fail
 refine calls_world (fun W => Sep w.heap.size w [eBlk w.heap.size 25 [.slice A1 al.length c1,.int .i64 n,.slice A2 mr.length c2,.slice A3 ed.length c3]] W) ?_ fun W S => ?_
 · exact (Sep.here w).alloc' _ [_,_,_,_] rfl rfl
 refine (CheckX_c ⟨al,n,mr,ed⟩ ⟨A1,c1,A2,c2,A3,c3⟩ W (HA.out.below S.below)).mono ?_
 rintro e w1 ⟨r,rfl,hr,hb⟩
 have S0 := Lib.hid (S.next hb)
 have CR := Lib.hid hr
 clear S hb hr
 have a0 := BlkAt.cell (S0.out.get 0 rfl) 0; have a1 := BlkAt.cell (S0.out.get 0 rfl) 1; have a2 := BlkAt.cell (S0.out.get 0 rfl) 2; have a3 := BlkAt.cell (S0.out.get 0 rfl) 3; simp only [List.getElem?_cons_succ,List.getElem?_cons_zero] at a0 a1 a2 a3
 by_cases h0 : r = 0
 · subst h0
   have HR := Lib.hid (CR.out.zero.1 rfl)
   go_wp2_with fail
   refine (classes_c ⟨al,n,mr,ed⟩ ⟨A1,c1,A2,c2,A3,c3⟩ w1 HR.out (HC.out HR.out) (HA.out.below S0.out.below)).mono ?_
   rintro e w2 ⟨g,c,m,rfl,T,HK⟩
   have S2 := Lib.hid (S0.out.news T.out)
   clear T a0 a1 a2 a3
   go_wp2_with fail
   refine bodyPost_ret (v := .tuple #[.slice (some ⟨g,0,none⟩) n.toNat n.toNat,.int .i64 0]) (by simp [results,Try.results14,go_sem]) rfl ?_
   exact ⟨0,CR.out,.inr ⟨rfl,g,c,m,rfl,S2.out.first,HK.out⟩⟩
 · have hne : (r != 0) = true := by simp [h0]
   clear a0 a1 a2 a3
   go_wp2_with fail
   refine bodyPost_ret (v := .tuple #[.slice none 0 0,.int .i64 r]) (by simp [results,Try.results14,go_sem]) rfl ?_
   exact ⟨r,CR.out,.inl ⟨h0,rfl,S0.out.below⟩⟩
def GivesMX (a : Au) (w : World) (e : Ending) (w' : World) : Prop := ∃ r : Int,ChkErr a r ∧ ((r ≠ 0 ∧ e = .returned (.tuple #[.agg #[.slice none 0 0,.int .i64 0,.slice none 0 0,.slice none 0 0],.int .i64 r]) ∧ Below w.heap.size w w') ∨ (r = 0 ∧ GivesMB a w e w'))
set_option maxHeartbeats 1000000 in
theorem minimizeX_c (a : Au) (p : AuP) (w : World) (hc : a.Right → Caps a p) (hA : Au.At w a p) :
 Calls Try.prog 15 #[a.val p] w (GivesMX a w) := by
 by_cases hR : a.Right
 · refine (minimizeB_c a p w hR (hc hR) hA).mono fun e w' h => ?_
   exact ⟨0,ChkErr.of_right hR,.inr ⟨rfl,h⟩⟩
 have HA := Lib.hid hA
 have HN := Lib.hid hR
 obtain ⟨al,n,mr,ed⟩ := a
 obtain ⟨A1,c1,A2,c2,A3,c3⟩ := p
 dsimp only [Au.val]
 clear hA hc hR
 go_enter Try.func15,Try.ntmps15
 go_wp2_with fail
 refine calls_world (fun W => Sep w.heap.size w [eBlk (w.heap.size + 1) 25 [.slice none 0 0,.int .i64 0,.slice none 0 0,.slice none 0 0],eBlk w.heap.size 25 [.slice A1 al.length c1,.int .i64 n,.slice A2 mr.length c2,.slice A3 ed.length c3]] W) ?_ fun W S => ?_
 · exact ((Sep.here w).alloc' _ [_,_,_,_] rfl rfl).alloc' _ [_,_,_,_] rfl (by simp)
 refine (CheckX_c ⟨al,n,mr,ed⟩ ⟨A1,c1,A2,c2,A3,c3⟩ W (HA.out.below S.below)).mono ?_
 rintro e w1 ⟨r,rfl,hr,hb⟩
 have S0 := Lib.hid (S.next hb)
 have CR := Lib.hid hr
 clear S hb hr
 have h0 : r ≠ 0 := fun h => HN.out (CR.out.zero.1 h)
 have hne : (r != 0) = true := by simp [h0]
 have a0 := BlkAt.cell (S0.out.get 0 rfl) 0; have a1 := BlkAt.cell (S0.out.get 0 rfl) 1; have a2 := BlkAt.cell (S0.out.get 0 rfl) 2; have a3 := BlkAt.cell (S0.out.get 0 rfl) 3; have af0 := BlkAt.free (S0.out.get 0 rfl) 0; have af1 := BlkAt.free (S0.out.get 0 rfl) 1; have af2 := BlkAt.free (S0.out.get 0 rfl) 2; have af3 := BlkAt.free (S0.out.get 0 rfl) 3; simp only [List.getElem?_cons_succ,List.getElem?_cons_zero] at a0 a1 a2 a3
 have S1 := Lib.hid ((((S0.out.set 0 rfl 0 (.slice none 0 0)).set 0 rfl 1 (.int .i64 0)).set 0 rfl 2 (.slice none 0 0)).set 0 rfl 3 (.slice none 0 0))
 have t0 := BlkAt.cell (S1.out.get 0 rfl) 0
 have t1 := BlkAt.cell (S1.out.get 0 rfl) 1
 have t2 := BlkAt.cell (S1.out.get 0 rfl) 2
 have t3 := BlkAt.cell (S1.out.get 0 rfl) 3
 simp only [List.set_cons_succ,List.set_cons_zero,List.getElem?_cons_succ,List.getElem?_cons_zero] at t0 t1 t2 t3
 go_wp2_with fail
 refine bodyPost_ret (v := .tuple #[.agg #[.slice none 0 0,.int .i64 0,.slice none 0 0,.slice none 0 0],.int .i64 r]) (by simp [results,Try.results15,go_sem, *]) rfl ?_
 exact ⟨r,CR.out,.inl ⟨h0,rfl,S1.out.below⟩⟩
def GivesIM (a : Au) (w : World) (e : Ending) (w' : World) : Prop := ∃ (r : Int) (f : Bool),ChkErr a r ∧ e = .returned (.tuple #[.bool f,.int .i64 r]) ∧ Below w.heap.size w w' ∧ ((r ≠ 0 ∧ f = false) ∨ (r = 0 ∧ ∃ m,MinB a m ∧ (f = true ↔ a = m)))
set_option maxHeartbeats 1000000 in
theorem isMinX_c (a : Au) (p : AuP) (w : World) (hc : a.Right → Caps a p) (hA : Au.At w a p) :
 Calls Try.prog 16 #[a.val p] w (GivesIM a w) := by
 have HA := Lib.hid hA
 have HC := Lib.hid hc
 obtain ⟨al,n,mr,ed⟩ := a
 obtain ⟨A1,c1,A2,c2,A3,c3⟩ := p
 dsimp only [Au.val]
 clear hA hc
 go_enter Try.func16,Try.ntmps16
 go_wp2_with fail
 refine calls_world (fun W => Sep w.heap.size w [eBlk w.heap.size 25 [.slice A1 al.length c1,.int .i64 n,.slice A2 mr.length c2,.slice A3 ed.length c3]] W) ?_ fun W S => ?_
 · exact (Sep.here w).alloc' _ [_,_,_,_] rfl rfl
 refine (minimizeX_c ⟨al,n,mr,ed⟩ ⟨A1,c1,A2,c2,A3,c3⟩ W HC.out (HA.out.below S.below)).mono ?_
 rintro e w1 ⟨r,hr,⟨h0,rfl,hb⟩ | ⟨rfl,m,q,rfl,T,LN,MI⟩⟩
 · have CR := Lib.hid hr
   have S1 := Lib.hid (S.next hb)
   have hne : (r == 0) = false := by simp [h0]
   clear S hb hr
   go_wp2_with fail
   refine bodyPost_ret (v := .tuple #[.bool false,.int .i64 r]) (by simp [results,Try.results16,go_sem]) rfl ?_
   exact ⟨r,false,CR.out,rfl,(S1.out.below.alloc (by have := S1.out.fro.z; omega) _),.inl ⟨h0,rfl⟩⟩
 · have CR := Lib.hid hr
   obtain ⟨ml,mn,mm,me⟩ := m
   obtain ⟨D1,d1,D2,d2,D3,d3⟩ := q
   dsimp only [Au.val]
   have S1 := Lib.hid (S.news T.out)
   clear S hr T
   obtain ⟨b5,h5⟩ : ∃ b5,b5 = w1.heap.size := ⟨_,rfl⟩
   go_upto_region 2 with fail
   rw [← h5]
   refine wp_world (fun V => Sep w.heap.size w [eBlk b5 25 [.slice D1 ml.length d1,.int .i64 mn,.slice D2 mm.length d2,.slice D3 me.length d3],eInts ml (.slice D1 ml.length d1),eInts mm (.slice D2 mm.length d2),eEds me (.slice D3 me.length d3),eBlk w.heap.size 25 [.slice A1 al.length c1,.int .i64 n,.slice A2 mr.length c2,.slice A3 ed.length c3]] V) (S1.out.alloc' 25 [.slice D1 ml.length d1,.int .i64 mn,.slice D2 mm.length d2,.slice D3 me.length d3] rfl h5) fun W2 S' => ?_
   have S2 := Lib.hid S'
   clear S' S1 h5
   have a0 := BlkAt.cell (S2.out.get 0 rfl) 0; have a1 := BlkAt.cell (S2.out.get 0 rfl) 1; have a2 := BlkAt.cell (S2.out.get 0 rfl) 2; have a3 := BlkAt.cell (S2.out.get 0 rfl) 3; simp only [List.getElem?_cons_succ,List.getElem?_cons_zero] at a0 a1 a2 a3
   have b0 := BlkAt.cell (S2.out.get 4 rfl) 0; have b1 := BlkAt.cell (S2.out.get 4 rfl) 1; have b2 := BlkAt.cell (S2.out.get 4 rfl) 2; have b3 := BlkAt.cell (S2.out.get 4 rfl) 3; simp only [List.getElem?_cons_succ,List.getElem?_cons_zero] at b0 b1 b2 b3
   have AM : Au.At W2 ⟨ml,mn,mm,me⟩ ⟨D1,d1,D2,d2,D3,d3⟩ := (S2.out.pick [1,2,3] (by decide)).au LN.out
   have EQ := Lib.hid (autoEq_c ⟨al,n,mr,ed⟩ ⟨ml,mn,mm,me⟩ ⟨A1,c1,A2,c2,A3,c3⟩ ⟨D1,d1,D2,d2,D3,d3⟩ W2 (HA.out.below S2.out.below) AM)
   clear AM
   go_wp2_with fail
   refine EQ.out.mono ?_
   rintro e w3 ⟨f,rfl,hf,hb⟩
   have R3 := Lib.hid (S2.out.next hb).below
   have HE := Lib.hid hf
   clear hb hf a0 a1 a2 a3 b0 b1 b2 b3 EQ
   go_wp2_with fail
   refine bodyPost_ret (v := .tuple #[.bool f,.int .i64 0]) (by simp [results,Try.results16,go_sem]) rfl ?_
   exact ⟨0,f,CR.out,rfl,R3.out,.inr ⟨rfl,_,MI.out,HE.out⟩⟩
theorem beq_dec (u v : Int) : (u == v) = decide (u = v) := by by_cases h : u = v <;> simp [h]
theorem cons1_c (x y : Ed) (bc : Nat) (AC : Option Addr) (cC : Nat) (c : List Int) (w : World) (hC : IntsAt w AC c) (hb : BlkAt w bc 22 [.slice AC c.length cC]) (hx : 0 ≤ x.dst ∧ x.dst < c.length) (hy : 0 ≤ y.dst ∧ y.dst < c.length) :
 Calls Try.prog 72 #[.agg #[.int .i64 x.src,.int .i64 x.ev,.int .i64 x.dst],.agg #[.int .i64 y.src,.int .i64 y.ev,.int .i64 y.dst],.pointer (some ⟨bc,0,none⟩)] w (Ret (.bool (decide (x.ev = y.ev) && decide (clsV c x.dst = clsV c y.dst))) w) := by
 obtain ⟨x1,x2,x3⟩ := x
 obtain ⟨y1,y2,y3⟩ := y
 dsimp only at *
 obtain ⟨i,rfl⟩ := Int.eq_ofNat_of_zero_le hx.1
 obtain ⟨j,rfl⟩ := Int.eq_ofNat_of_zero_le hy.1
 have hi : i < c.length := by omega
 have hj : j < c.length := by omega
 obtain ⟨b,off,u,hA,hlt,hu,cu⟩ := IntsAt.at hC hi
 obtain ⟨b',off',v,hA',_,hv,cv⟩ := IntsAt.at hC hj
 rw [hA] at hA'; cases hA'
 subst hA
 have e1 : clsV c (i : Int) = u := by unfold clsV; rw [Int.toNat_natCast]; exact getD_some hu 0
 have e2 : clsV c (j : Int) = v := by unfold clsV; rw [Int.toNat_natCast]; exact getD_some hv 0
 rw [e1,e2]
 obtain ⟨W1,hW1⟩ : ∃ W,W = w.alloc (.cells #[.int .i64 x1,.int .i64 x2,.int .i64 (i : Int)] 70) := ⟨_,rfl⟩
 have B1 : Below w.heap.size w W1 := by rw [hW1]; exact Below.new w _
 have z1 : W1.heap.size = w.heap.size + 1 := by rw [hW1]; simp
 have p0 : W1.cell? ⟨w.heap.size,1,none⟩ = some (.int .i64 x2) := by rw [hW1]; exact new_cell w _ [_,_,_] _ 1 rfl
 have p1 : W1.cell? ⟨w.heap.size,2,none⟩ = some (.int .i64 (i : Int)) := by rw [hW1]; exact new_cell w _ [_,_,_] _ 2 rfl
 obtain ⟨W2,hW2⟩ : ∃ W,W = W1.alloc (.cells #[.int .i64 y1,.int .i64 y2,.int .i64 (j : Int)] 70) := ⟨_,rfl⟩
 have B2 : Below W1.heap.size W1 W2 := by rw [hW2]; exact Below.new W1 _
 have q0 : W2.cell? ⟨w.heap.size,1,none⟩ = some (.int .i64 x2) := old_cell B2 p0 (by omega)
 have q1 : W2.cell? ⟨w.heap.size,2,none⟩ = some (.int .i64 (i : Int)) := old_cell B2 p1 (by omega)
 have q2 : W2.cell? ⟨w.heap.size + 1,1,none⟩ = some (.int .i64 y2) := by rw [hW2,← z1]; exact new_cell W1 _ [_,_,_] _ 1 rfl
 have q3 : W2.cell? ⟨w.heap.size + 1,2,none⟩ = some (.int .i64 (j : Int)) := by rw [hW2,← z1]; exact new_cell W1 _ [_,_,_] _ 2 rfl
 have BB : Below w.heap.size w W2 := B1.trans (B2.mono (by omega))
 have q4 : W2.cell? ⟨bc,0,none⟩ = some (.slice (some ⟨b,off,none⟩) c.length cC) := old_cell BB (hb.cell 0) hb.lt
 have q5 : W2.cell? ⟨b,off + i,none⟩ = some (.int .i64 u) := old_cell BB cu hlt
 have q6 : W2.cell? ⟨b,off + j,none⟩ = some (.int .i64 v) := old_cell BB cv hlt
 have BH := Lib.hid BB
 clear p0 p1 z1 B1 B2 cu cv hu hv e1 e2 hC hb hlt hx hy
 by_cases he : x2 = y2
 · have e1 : (x2 == y2) = true := by simpa using he
   have hd : decide (x2 = y2) = true := by simpa using he
   rw [hd]
   clear he hd
   go_enter Try.func72,Try.ntmps72
   go_upto_region 1 with fail
   rw [← hW1,← hW2]
   clear hW1 hW2
   go_quiet (fail)
   go_wp2_with fail
   go_ret
   exact ⟨by simp [beq_dec],BH.out.draws _⟩
 · have e1 : (x2 == y2) = false := by simpa using he
   have hd : decide (x2 = y2) = false := by simpa using he
   rw [hd]
   clear he hd
   go_enter Try.func72,Try.ntmps72
   go_upto_region 1 with fail
   rw [← hW1,← hW2]
   clear hW1 hW2
   go_quiet (fail)
   go_wp2_with fail
   go_ret
   exact ⟨by simp,BH.out.draws _⟩
theorem EdE.cells3 {w : World} {A : Option Addr} {l : List Ed} (h : EdsAt w A l) {k : Nat} (hk : k < l.length) : ∃ b off x,A = some ⟨b,off,none⟩ ∧ b < w.heap.size ∧ l[k]? = some x ∧ w.cell? ⟨b,off + k * 3,none⟩ = some (.int .i64 x.src) ∧ w.cell? ⟨b,off + k * 3 + 1,none⟩ = some (.int .i64 x.ev) ∧ w.cell? ⟨b,off + k * 3 + 2,none⟩ = some (.int .i64 x.dst) := by
 obtain ⟨b,off,x,h1,h2,h3,h4,h5,h6⟩ := EdsAt.at h hk
 exact ⟨b,off,x,h1,h2,h3,h4,h5,h6⟩
set_option maxHeartbeats 2000000 in
theorem eqFunc_c (g : Nat) (lb : Array Value) (eg : ∀ args w,(callFunc g args).run Try.prog w = .ok (.enter g args) w) (rel : Ed → Ed → Bool) (A B : Option Addr) (c d : Nat) (l m : List Ed) (w : World) (hA : EdsAt w A l) (hB : EdsAt w B m) (n1 : l.length ≤ 1000000)
 (hP : ∀ V x y,Below w.heap.size w V → x ∈ l → y ∈ m → Calls Try.prog g (#[.agg #[.int .i64 x.src,.int .i64 x.ev,.int .i64 x.dst],.agg #[.int .i64 y.src,.int .i64 y.ev,.int .i64 y.dst]] ++ lb) V (Ret (.bool (rel x y)) V)) :
 Calls Try.prog 71 #[.slice A l.length c,.slice B m.length d,.func (.func g) #[] lb] w (Tells (l.length = m.length ∧ ∀ (i : Nat) x y,l[i]? = some x → m[i]? = some y → rel x y = true) w) := by
 have HA := Lib.hid hA
 have HB := Lib.hid hB
 have HP := Lib.hid hP
 clear hA hB hP
 go_enter Try.func71,Try.ntmps71
 by_cases hlen : l.length = m.length
 · have e0 : ((l.length : Int) != (m.length : Int)) = false := by simp [hlen]
   have HLE := Lib.hid hlen
   clear hlen
   go_wp2_with fail
   go_loopw [17] (fun v wr => ∃ k : Nat,v = .int .i64 (k : Int) ∧ k ≤ l.length ∧ Hid (∀ (i : Nat) x y,i < k → l[i]? = some x → m[i]? = some y → rel x y = true) ∧ Hid (Below w.heap.size w wr)) (fun v _ => l.length - (intOf v).toNat)
   case atStart => exact ⟨0,rfl,Nat.zero_le _,fun i x y h => absurd h (by omega),Below.refl _ _⟩
   case round =>
    obtain ⟨k,rfl,hk,HK,HW⟩ := hrel
    by_cases hlt : k < l.length
    · obtain ⟨b,off,x,rfl,hb,hx,x0,x1,x2⟩ := EdE.cells3 (HA.out.below EdE.stays HW.out) hlt
      obtain ⟨b',off',y,rfl,hb',hy,y0,y1,y2⟩ := EdE.cells3 (HB.out.below EdE.stays HW.out) (k := k) (by have := HLE.out; omega)
      have HX := Lib.hid hx
      have HY := Lib.hid hy
      clear hx hy
      have hkm : k < m.length := by have := HLE.out; omega
      obtain ⟨x,x',x''⟩ := x
      obtain ⟨y,y',y''⟩ := y
      dsimp only at x0 x1 x2 y0 y1 y2
      obtain ⟨W1,hW1⟩ : ∃ W,W = wr.alloc (.cells #[.int .i64 x,.int .i64 x',.int .i64 x''] 70) := ⟨_,rfl⟩
      have B1 : Below wr.heap.size wr W1 := by rw [hW1]; exact Below.new wr _
      have z1 : W1.heap.size = wr.heap.size + 1 := by rw [hW1]; simp
      have p0 : W1.cell? ⟨wr.heap.size,0,none⟩ = some (.int .i64 x) := by rw [hW1]; exact new_cell wr _ [_,_,_] _ 0 rfl
      have p1 : W1.cell? ⟨wr.heap.size,1,none⟩ = some (.int .i64 x') := by rw [hW1]; exact new_cell wr _ [_,_,_] _ 1 rfl
      have p2 : W1.cell? ⟨wr.heap.size,2,none⟩ = some (.int .i64 x'') := by rw [hW1]; exact new_cell wr _ [_,_,_] _ 2 rfl
      have y0 := old_cell B1 y0 hb'
      have y1 := old_cell B1 y1 hb'
      have y2 := old_cell B1 y2 hb'
      go_upto_region 6 with fail
      rw [← hW1]
      obtain ⟨W2,hW2⟩ : ∃ W,W = W1.alloc (.cells #[.int .i64 y,.int .i64 y',.int .i64 y''] 70) := ⟨_,rfl⟩
      have B2 : Below W1.heap.size W1 W2 := by rw [hW2]; exact Below.new W1 _
      have q0 : W2.cell? ⟨wr.heap.size,0,none⟩ = some (.int .i64 x) := old_cell B2 p0 (by omega)
      have q1 : W2.cell? ⟨wr.heap.size,1,none⟩ = some (.int .i64 x') := old_cell B2 p1 (by omega)
      have q2 : W2.cell? ⟨wr.heap.size,2,none⟩ = some (.int .i64 x'') := old_cell B2 p2 (by omega)
      have q3 : W2.cell? ⟨W1.heap.size,0,none⟩ = some (.int .i64 y) := by rw [hW2]; exact new_cell W1 _ [_,_,_] _ 0 rfl
      have q4 : W2.cell? ⟨W1.heap.size,1,none⟩ = some (.int .i64 y') := by rw [hW2]; exact new_cell W1 _ [_,_,_] _ 1 rfl
      have q5 : W2.cell? ⟨W1.heap.size,2,none⟩ = some (.int .i64 y'') := by rw [hW2]; exact new_cell W1 _ [_,_,_] _ 2 rfl
      have H2 := Lib.hid (HW.out.trans ((B1.trans (B2.mono (by omega))).mono HW.out.size))
      have HC := Lib.hid (HP.out W2 ⟨x,x',x''⟩ ⟨y,y',y''⟩ H2.out (List.mem_of_getElem? HX.out) (List.mem_of_getElem? HY.out))
      clear p0 p1 p2 z1 B1 hW1 x0 x1 x2
      go_upto_region 7 with fail
      rw [← hW2]
      clear hW2 y0 y1 y2 B2
      obtain ⟨f,hf⟩ : ∃ f,f = rel ⟨x,x',x''⟩ ⟨y,y',y''⟩ := ⟨_,rfl⟩
      rw [← hf] at HC
      have HF := Lib.hid hf
      clear hf
      go_wp2_with fail
      refine HC.out.mono ?_
      rintro e w3 ⟨rfl,hb3⟩
      have W3 := Lib.hid (H2.out.trans (hb3.mono H2.out.size))
      clear HC hb3 q0 q1 q2 q3 q4 q5
      cases f
      · go_wp2_with fail
        go_ret
        exact Tells.no (fun h => by have := h.2 k _ _ HX.out HY.out; rw [← HF.out] at this; cases this) W3.out
      · go_wp2_with fail
        go_roundw
        case rel => exact ⟨k + 1,by go_num,by omega,(fun i u v hi hu hv => by
         by_cases e : i = k
         · subst e
           rw [HX.out] at hu; cases hu
           rw [HY.out] at hv; cases hv
           exact HF.out.symm
         · exact HK.out i u v (by omega) hu hv),W3.out⟩
        case measure => simp [intOf]; omega
    · obtain rfl : k = l.length := by omega
      go_wp2
      go_ret
      exact Tells.yes ⟨HLE.out,fun i x y hx hy => HK.out i x y (List.getElem?_eq_some_iff.1 hx).1 hx hy⟩ HW.out
 · have e0 : ((l.length : Int) != (m.length : Int)) = true := by simp; omega
   go_wp2_with fail
   go_ret
   exact Tells.no (fun h => hlen h.1) (Below.refl _ _)
theorem map_eq_iff {α β : Type} (f : α → β) (rel : α → α → Bool) (hrel : ∀ x y,rel x y = true ↔ f x = f y) (l m : List α) : (l.length = m.length ∧ ∀ (i : Nat) x y,l[i]? = some x → m[i]? = some y → rel x y = true) ↔ l.map f = m.map f := by
 constructor
 · rintro ⟨h1,h2⟩
   apply List.ext_getElem?
   intro i
   rw [List.getElem?_map,List.getElem?_map]
   by_cases hi : i < l.length
   · have h3 := h2 i l[i] (m[i]'(by omega)) (List.getElem?_eq_getElem hi) (List.getElem?_eq_getElem (by omega))
     rw [List.getElem?_eq_getElem hi,List.getElem?_eq_getElem (show i < m.length by omega),Option.map_some,Option.map_some,(hrel _ _).1 h3]
   · rw [List.getElem?_eq_none (by omega),List.getElem?_eq_none (by omega)]
 · intro h
   refine ⟨by simpa using congrArg List.length h,fun i x y hx hy => (hrel x y).2 ?_⟩
   have := congrArg (·[i]?) h
   simp only [List.getElem?_map,hx,hy,Option.map_some,Option.some.injEq] at this
   exact this
def fstF (c : List Int) (k : Nat) (u : Int) : Option Int := if u ∈ c.take k then some ((idxK c u : Nat) : Int) else none
theorem fstF_zero (c : List Int) : fstF c 0 = fun _ => none := by funext u; simp [fstF]
theorem idxK_fst {c : List Int} {k : Nat} {y : Int} (hy : c[k]? = some y) (h : ¬ y ∈ c.take k) : idxK c y = k := by
 have hm : y ∈ c := List.mem_of_getElem? hy
 have hg := idxK_get hm
 have hlt := (List.getElem?_eq_some_iff.1 hy).1
 rcases Nat.lt_trichotomy (idxK c y) k with g | g | g
 · refine absurd ?_ h
   refine List.mem_iff_getElem?.2 ⟨idxK c y,?_⟩
   rw [List.getElem?_take_of_lt g,hg]
 · exact g
 · have := List.not_of_lt_findIdx (p := fun z => decide (z = y)) (xs := c) g
   have hh := (List.getElem?_eq_some_iff.1 hy).2
   simp [hh] at this
theorem fstF_new {c : List Int} {k : Nat} {y : Int} (hy : c[k]? = some y) (h : ¬ y ∈ c.take k) (u : Int) : fstF c (k + 1) u = if u = y then some (k : Int) else fstF c k u := by
 have ht : c.take (k + 1) = c.take k ++ [y] := by rw [List.take_add_one,hy]; rfl
 unfold fstF
 rw [ht]
 by_cases e : u = y
 · subst e; rw [if_pos (by simp),if_pos rfl,idxK_fst hy h]
 · simp [e]
theorem fstF_old {c : List Int} {k : Nat} {y : Int} (hy : c[k]? = some y) (h : y ∈ c.take k) : fstF c (k + 1) = fstF c k := by
 have ht : c.take (k + 1) = c.take k ++ [y] := by rw [List.take_add_one,hy]; rfl
 funext u
 unfold fstF
 rw [ht]
 by_cases e : u = y
 · subst e; simp [h]
 · simp [e]
theorem fst_lt {c : List Int} {k : Nat} {y : Int} (h : y ∈ c.take k) : idxK c y < k ∧ c[idxK c y]? = some y := by
 have hm := List.mem_of_mem_take h
 refine ⟨?_,idxK_get hm⟩
 obtain ⟨i,hi⟩ := List.mem_iff_getElem?.1 h
 have hik : i < k := by have := (List.getElem?_eq_some_iff.1 hi).1; rw [List.length_take] at this; omega
 rw [List.getElem?_take_of_lt hik] at hi
 refine Nat.lt_of_le_of_lt ?_ hik
 refine Nat.le_of_not_lt fun g => ?_
 have := List.not_of_lt_findIdx (p := fun z => decide (z = y)) (xs := c) g
 have hh := (List.getElem?_eq_some_iff.1 hi).2
 simp [hh] at this
def Same1 (a : Au) (c : List Int) (i j : Nat) : Prop := ((i : Int) ∈ a.mr ↔ (j : Int) ∈ a.mr) ∧ (sigV a c i).2 = (sigV a c j).2
def ConsV (a : Au) (c : List Int) : Prop := ∀ i j : Nat,i < c.length → j < c.length → c[i]? = c[j]? → Same1 a c i j
theorem ConsV.of_first {a : Au} {c : List Int} (h : ∀ (s : Nat) y,s < c.length → c[s]? = some y → Same1 a c s (idxK c y)) : ConsV a c := by
 intro i j hi hj he
 have h1 := h i c[i] hi (List.getElem?_eq_getElem hi)
 have h2 := h j c[j] hj (List.getElem?_eq_getElem hj)
 have : c[i] = c[j] := by rw [List.getElem?_eq_getElem hi,List.getElem?_eq_getElem hj] at he; exact Option.some.inj he
 rw [this] at h1
 exact ⟨h1.1.trans h2.1.symm,h1.2.trans h2.2.symm⟩
set_option maxHeartbeats 8000000 in
theorem consistent_c (a : Au) (p : AuP) (AC : Option Addr) (cC : Nat) (c : List Int) (w : World) (ha : a.Right) (ca : Caps a p) (hA : Au.At w a p) (hC : IntsAt w AC c) (hl : (c.length : Int) = a.n) :
 Calls Try.prog 47 #[a.val p,.slice AC c.length cC] w (Tells (ConsV a c) w) := by
 have n0 := ha.n0
 have hn := ha.n1
 have HMA : Hid (∀ x,x ∈ a.mr → 0 ≤ x ∧ x < a.n) := fun x hx => ha.mem hx
 have RA := Lib.hid ha
 have CA := Lib.hid ca
 have HA := Lib.hid hA
 have HC := Lib.hid hC
 obtain ⟨al,n,mr,ed⟩ := a
 obtain ⟨A1,c1,A2,c2,A3,c3⟩ := p
 obtain ⟨n,rfl⟩ := Int.eq_ofNat_of_zero_le n0
 try dsimp only [Au.val] at *
 have HL : Hid (c.length = n) := by simp only [Hid]; omega
 have hl3 : c.length ≤ 4096 := by omega
 clear ha ca hA hC n0 hl
 have hmm := @run_makeMap Try.prog
 go_enter Try.func47,Try.ntmps47
 go_upto_region 1 with fail
 refine wp_world (fun W => Sep w.heap.size w [eBlk (w.heap.size + 1) 22 [.slice AC c.length cC],eBlk w.heap.size 25 [.slice A1 al.length c1,.int .i64 (n : Int),.slice A2 mr.length c2,.slice A3 ed.length c3]] W) ?_ fun W S => ?_
 · exact ((Sep.here w).alloc' _ [_,_,_,_] rfl rfl).alloc' _ [_] (g := w.heap.size + 1) rfl (by simp)
 have S0 := Lib.hid S
 clear S
 go_cut [5,6] (fun v5 v6 wx => ∃ g1 h1 us,v5 = .slice (some ⟨h1,0,none⟩) n n ∧ v6 = .slice (some ⟨g1,0,none⟩) n n ∧ Hid (∀ V,EdsAt V A3 ed → EdgRow V ed n us) ∧ Hid (Sep w.heap.size w [eBlk h1 23 us,eBlk g1 4 (mkB n fun s => decide ((s : Int) ∈ mr)),eBlk (w.heap.size + 1) 22 [.slice AC c.length cC],eBlk w.heap.size 25 [.slice A1 al.length c1,.int .i64 (n : Int),.slice A2 mr.length c2,.slice A3 ed.length c3]] wx))
 case first =>
  have S1 := Lib.hid S0.out.drew
  refine wp_region_held_drew (S := (fun V => Sep w.heap.size w [eBlk w.heap.size 25 [.slice A1 al.length c1,.int .i64 (n : Int),.slice A2 mr.length c2,.slice A3 ed.length c3]] V)) (by kernel_rfl) ?_ (fun hHeld => ?_)
  · exact S1.out.pick [1] (by decide)
  generalize hwz : W.drew = w1 at *
  clear hwz
  refine tkH 0 rfl (v := ?_) (by kernel_rfl) ?_ hHeld ?_
  rotate_left
  · intro V hSw
    have a0 := ckC hSw 0 rfl 0 rfl
    have a1 := ckC hSw 0 rfl 1 rfl
    have a2 := ckC hSw 0 rfl 2 rfl
    have a3 := ckC hSw 0 rfl 3 rfl
    clear hSw
    first | (go_simp; done) | (go_simp; with_reducible rfl)
  try simp only [sx]
  refine tkH 2 rfl (v := ?_) (by kernel_rfl) ?_ hHeld ?_
  rotate_left
  · intro V hSw
    have a0 := ckC hSw 0 rfl 0 rfl
    have a1 := ckC hSw 0 rfl 1 rfl
    have a2 := ckC hSw 0 rfl 2 rfl
    have a3 := ckC hSw 0 rfl 3 rfl
    clear hSw
    first | (go_simp; done) | (go_simp; with_reducible rfl)
  try simp only [sx]
  refine rdH 1 rfl fun K hK => ?_
  go_simp
  refine (edges_c ⟨al,(n : Int),mr,ed⟩ ⟨A1,c1,A2,c2,A3,c3⟩ w1 RA.out CA.out (HA.out.below S1.out.below)).mono ?_
  rintro e w2 ⟨h1,us,rfl,T,HU⟩
  have S2 := ckN S1.out T.out
  clear T
  refine hK.out _ _ ?_ (fun hHeld => ?_)
  · exact S2.out.pick [2] (by decide)
  clear hK K
  try simp only [sx]
  refine rdH 3 rfl fun K hK => ?_
  go_simp
  refine (marks_c ⟨al,(n : Int),mr,ed⟩ ⟨A1,c1,A2,c2,A3,c3⟩ w2 HMA.out (Int.natCast_nonneg _) hn (HA.out.below S2.out.below)).mono ?_
  rintro e w3 ⟨g1,rfl,T⟩
  have S3 := ckN S2.out T.out
  clear T
  refine hK.out _ _ ?_ (fun hHeld => ?_)
  · exact S3.out.pick [3] (by decide)
  clear hK K
  try simp only [sx]
  refine tkP 4 rfl hHeld ?_
  try simp only [sx]
  refine tkP 5 rfl hHeld ?_
  try simp only [sx]
  refine wpAnyH_done (by kernel_rfl) ?_ _
  go_wp2_with fail
  go_meet
  exact ⟨g1,h1,us,rfl,rfl,HU.out,S3.out.pick [1,0,2,3] (by decide)⟩
 case rest =>
  obtain ⟨g1,h1,us,rfl,rfl,HU,S1⟩ := hcut
  clear S0
  have s0 := BlkAt.cell (S1.out.get 2 rfl) 0
  simp only [List.getElem?_cons_zero] at s0
  obtain ⟨mp,hmp⟩ : ∃ mp,mp = wc.heap.size := ⟨_,rfl⟩
  go_upto_region 3 with fail
  rw [← hmp]
  refine wp_world (fun V => Sep w.heap.size w [eMap keyI veI mp (fstF c 0),eBlk h1 23 us,eBlk g1 4 (mkB n fun s => decide ((s : Int) ∈ mr)),eBlk (w.heap.size + 1) 22 [.slice AC c.length cC],eBlk w.heap.size 25 [.slice A1 al.length c1,.int .i64 (n : Int),.slice A2 mr.length c2,.slice A3 ed.length c3]] V) (by rw [hmp,fstF_zero]; exact S1.out.allocMap keyI veI rfl) fun W3 S' => ?_
  have S3 := Lib.hid S'
  clear S' S1 hmp s0 hmm
  have s0 := BlkAt.cell (S3.out.get 3 rfl) 0
  simp only [List.getElem?_cons_zero] at s0
  go_wp2_with fail
  clear s0
  go_loopw [19] (fun v wr => ∃ k : Nat,v = .int .i64 (k : Int) ∧ k ≤ c.length ∧ Hid (∀ (s : Nat) y,s < k → c[s]? = some y → Same1 ⟨al,(n : Int),mr,ed⟩ c s (idxK c y)) ∧ Hid (Sep w.heap.size w [eMap keyI veI mp (fstF c k),eBlk h1 23 us,eBlk g1 4 (mkB n fun s => decide ((s : Int) ∈ mr)),eBlk (w.heap.size + 1) 22 [.slice AC c.length cC],eBlk w.heap.size 25 [.slice A1 al.length c1,.int .i64 (n : Int),.slice A2 mr.length c2,.slice A3 ed.length c3]] wr)) (fun v _ => c.length - (intOf v).toNat)
  case atStart => exact ⟨0,rfl,Nat.zero_le _,fun s y h => absurd h (by omega),S3.out⟩
  case round =>
   clear S3
   obtain ⟨k,rfl,hk,HK,S⟩ := hrel
   by_cases hlt : k < c.length
   · obtain ⟨b,off,y,hAC,hb,hy,cy⟩ := IntsAt.at (HC.out.below IntE.stays S.out.below) hlt
     subst hAC
     have HY := Lib.hid hy
     have HLT := Lib.hid hlt
     have HKN : Hid (k < n) := by have := HL.out; simp only [Hid]; omega
     clear hy hb
     obtain ⟨W4,hW4⟩ : ∃ W,W = wr := ⟨_,rfl⟩
     by_cases hm : y ∈ c.take k
     · obtain ⟨t,ht⟩ : ∃ t,t = idxK c y := ⟨_,rfl⟩
       have hlk := (MapG.look okI Try.underlying97 zeroI (S.out.get 0 rfl) y).1
       rw [fstF,if_pos hm,← ht] at hlk
       simp only [keyI,veI,Option.getD_some,Option.isSome_some] at hlk
       have FL := fst_lt hm
       rw [← ht] at FL
       have HTN : Hid (t < n) := by have := FL.1; have := HL.out; simp only [Hid]; omega
       have HT := Lib.hid ht
       have HF2 := Lib.hid FL
       have HM := Lib.hid hm
       clear hW4 hm ht FL
       go_upto_region 9 with fail
       clear hlk cy
       refine wp_world (fun V => Hid (Sep w.heap.size w [eMap keyI veI mp (fstF c k),eBlk h1 23 us,eBlk g1 4 (mkB n fun s => decide ((s : Int) ∈ mr)),eBlk (w.heap.size + 1) 22 [.slice (some ⟨b,off,none⟩) c.length cC],eBlk w.heap.size 25 [.slice A1 al.length c1,.int .i64 (n : Int),.slice A2 mr.length c2,.slice A3 ed.length c3]] V)) S fun W9 S5 => ?_
       clear S
       obtain ⟨R1,t1,hr1,_,_⟩ := (HU.out W9 (HA.out.ed.below EdE.stays S5.out.below)).row k HKN.out
       obtain ⟨R2,t2,hr2,_,_⟩ := (HU.out W9 (HA.out.ed.below EdE.stays S5.out.below)).row t HTN.out
       have HR1 := Lib.hid hr1
       have HR2 := Lib.hid hr2
       have EQC : Hid (∀ V,Below w.heap.size w V → BlkAt V (w.heap.size + 1) 22 [.slice (some ⟨b,off,none⟩) c.length cC] → Calls Try.prog 71 #[.slice R1 (outOf ed k).length t1,.slice R2 (outOf ed t).length t2,.func (.func 72) #[] #[.pointer (some ⟨w.heap.size + 1,0,none⟩)]] V (Tells ((sigV ⟨al,(n : Int),mr,ed⟩ c k).2 = (sigV ⟨al,(n : Int),mr,ed⟩ c t).2) V)) := fun V hb hk => by
        obtain ⟨R,t3,g1,g2,_⟩ := (HU.out V (HA.out.ed.below EdE.stays hb)).row k HKN.out
        rw [hr1] at g1; cases g1
        obtain ⟨R',t4,g3,g4,_⟩ := (HU.out V (HA.out.ed.below EdE.stays hb)).row t HTN.out
        rw [hr2] at g3; cases g3
        have hle : (outOf ed k).length ≤ 1000000 := Nat.le_trans (List.length_filter_le _ _) (Nat.le_trans (ed_len RA.out) (by decide))
        have hd : ∀ (s : Nat) (x : Ed),x ∈ outOf ed s → 0 ≤ x.dst ∧ x.dst < c.length := fun s x hx => by
         have := edge_next RA.out (mem_outOf.1 hx).1
         have := HL.out
         simp only at *; omega
        have := eqFunc_c 72 #[.pointer (some ⟨w.heap.size + 1,0,none⟩)] (fun args w => by rfl) (fun x y => decide (x.ev = y.ev) && decide (clsV c x.dst = clsV c y.dst)) R1 R2 t1 t2 (outOf ed k) (outOf ed t) V g2 g4 hle
         (fun V' x y hb' hx hy => cons1_c x y _ _ cC c V' ((HC.out.below IntE.stays hb).below IntE.stays hb') (hk.below hb' hk.lt) (hd _ _ hx) (hd _ _ hy))
        rw [map_eq_iff (fun x : Ed => (x.ev,clsV c x.dst)) _ (fun x y => by simp)] at this
        exact this
       clear hr1 hr2
       obtain ⟨d1,hd1⟩ : ∃ d : Bool,d = decide ((k : Int) ∈ mr) := ⟨_,rfl⟩
       obtain ⟨d2,hd2⟩ : ∃ d : Bool,d = decide ((t : Int) ∈ mr) := ⟨_,rfl⟩
       have D1 := Lib.hid hd1.symm
       have D2 := Lib.hid hd2.symm
       clear hd1 hd2
       have hkn := HKN.out
       have htn := HTN.out
       go_cut [56] (fun v wx => ∃ f : Bool,v = .bool f ∧ Hid (f = false ↔ Same1 ⟨al,(n : Int),mr,ed⟩ c k t) ∧ Hid (Sep w.heap.size w [eMap keyI veI mp (fstF c k),eBlk h1 23 us,eBlk g1 4 (mkB n fun s => decide ((s : Int) ∈ mr)),eBlk (w.heap.size + 1) 22 [.slice (some ⟨b,off,none⟩) c.length cC],eBlk w.heap.size 25 [.slice A1 al.length c1,.int .i64 (n : Int),.slice A2 mr.length c2,.slice A3 ed.length c3]] wx))
       case first =>
        by_cases hd : d1 = d2
        · have hq : (d1 != d2) = false := by simp [hd]
          have hq' : (!(d1 == d2)) = false := by simp [hd]
          have SDT : Hid ((k : Int) ∈ mr ↔ (t : Int) ∈ mr) := by
           have h1 := D1.out; have h2 := D2.out
           rw [← hd] at h2
           rw [← h1] at h2
           simp only [Hid]
           simpa using h2.symm
          clear hd
          try dsimp only at *
          have S4 := Lib.hid S5.out.drew
          refine wp_region_held_drew (S := (fun V => Sep w.heap.size w [eBlk h1 23 us,eBlk g1 4 (mkB n fun s => decide ((s : Int) ∈ mr))] V)) (by kernel_rfl) ?_ (fun hHeld => ?_)
          · exact S4.out.pick [1,2] (by decide)
          generalize hwz : W9.drew = w4 at *
          clear hwz
          refine tkP 0 rfl hHeld ?_
          try simp only [sx]
          refine tkP 1 rfl hHeld ?_
          try simp only [sx]
          refine tkP 2 rfl hHeld ?_
          try simp only [sx]
          refine tkH 3 rfl (v := ?_) (by kernel_rfl) ?_ hHeld ?_
          rotate_left
          · intro V hSw
            have y0 := BlkAt.cell (Sep.get (show Sep w.heap.size w _ V from hSw) 1 rfl) k
            rw [mkB_get HKN.out] at y0
            rw [D1.out] at y0
            clear hSw
            first | (go_simp; done) | (go_simp; with_reducible rfl)
          try simp only [sx]
          refine tkP 4 rfl hHeld ?_
          try simp only [sx]
          refine tkP 5 rfl hHeld ?_
          try simp only [sx]
          refine tkP 6 rfl hHeld ?_
          try simp only [sx]
          refine tkH 7 rfl (v := ?_) (by kernel_rfl) ?_ hHeld ?_
          rotate_left
          · intro V hSw
            have y1 := BlkAt.cell (Sep.get (show Sep w.heap.size w _ V from hSw) 1 rfl) t
            rw [mkB_get HTN.out] at y1
            rw [D2.out] at y1
            clear hSw
            first | (go_simp; done) | (go_simp; with_reducible rfl)
          try simp only [sx]
          refine tkP 8 rfl hHeld ?_
          try simp only [sx]
          refine tkP 9 rfl hHeld ?_
          try simp only [sx]
          refine tkP 10 rfl hHeld ?_
          try simp only [sx]
          refine tkP 11 rfl hHeld ?_
          try simp only [sx]
          refine tkP 12 rfl hHeld ?_
          try simp only [sx]
          refine tkH 13 rfl (v := ?_) (by kernel_rfl) ?_ hHeld ?_
          rotate_left
          · intro V hSw
            have z0 := BlkAt.cell (Sep.get (show Sep w.heap.size w _ V from hSw) 0 rfl) k
            rw [HR1.out] at z0
            clear hSw
            first | (go_simp; done) | (go_simp; with_reducible rfl)
          try simp only [sx]
          refine tkP 14 rfl hHeld ?_
          try simp only [sx]
          refine tkP 15 rfl hHeld ?_
          try simp only [sx]
          refine tkP 16 rfl hHeld ?_
          try simp only [sx]
          refine tkH 17 rfl (v := ?_) (by kernel_rfl) ?_ hHeld ?_
          rotate_left
          · intro V hSw
            have z1 := BlkAt.cell (Sep.get (show Sep w.heap.size w _ V from hSw) 0 rfl) t
            rw [HR2.out] at z1
            clear hSw
            first | (go_simp; done) | (go_simp; with_reducible rfl)
          try simp only [sx]
          refine tkP 18 rfl hHeld ?_
          try simp only [sx]
          refine rdH 19 rfl fun K hK => ?_
          go_simp
          refine (EQC.out w4 S4.out.below (S4.out.get 3 rfl)).mono ?_
          rintro e w5 ⟨f,rfl,hf,hb⟩
          have HF := Lib.hid hf
          have S5 := Lib.hid (S4.out.next hb)
          clear hb hf
          refine hK.out _ _ ?_ (fun hHeld => ?_)
          · exact S5.out.pick [1,2] (by decide)
          clear hK K
          try simp only [sx]
          refine tkP 20 rfl hHeld ?_
          try simp only [sx]
          refine tkP 21 rfl hHeld ?_
          try simp only [sx]
          refine wpAnyH_done (by kernel_rfl) ?_ _
          have FX : Hid ((!f) = false ↔ Same1 ⟨al,(n : Int),mr,ed⟩ c k t) := by
           constructor
           · intro h; exact ⟨SDT.out,HF.out.1 (by simpa using h)⟩
           · intro h; have := HF.out.2 h.2; simpa using this
          go_wp2_with fail
          go_meet
          exact ⟨!f,rfl,FX.out,S5.out⟩
        · have hq : (d1 != d2) = true := by simp [hd]
          have hq' : (!(d1 == d2)) = true := by simp [hd]
          have SDF : Hid (¬ ((k : Int) ∈ mr ↔ (t : Int) ∈ mr)) := fun h => hd (by rw [← D1.out,← D2.out]; simp [h])
          clear hd
          have S6 := Lib.hid S5.out.drew
          refine wp_region_held_drew (S := (fun V => Sep w.heap.size w [eBlk h1 23 us,eBlk g1 4 (mkB n fun s => decide ((s : Int) ∈ mr))] V)) (by kernel_rfl) ?_ (fun hHeld => ?_)
          · exact S6.out.pick [1,2] (by decide)
          generalize hwz : W9.drew = w6 at *
          clear hwz
          refine tkP 0 rfl hHeld ?_
          try simp only [sx]
          refine tkP 1 rfl hHeld ?_
          try simp only [sx]
          refine tkP 2 rfl hHeld ?_
          try simp only [sx]
          refine tkH 3 rfl (v := ?_) (by kernel_rfl) ?_ hHeld ?_
          rotate_left
          · intro V hSw
            have y0 := BlkAt.cell (Sep.get (show Sep w.heap.size w _ V from hSw) 1 rfl) k
            rw [mkB_get HKN.out] at y0
            rw [D1.out] at y0
            clear hSw
            first | (go_simp; done) | (go_simp; with_reducible rfl)
          try simp only [sx]
          refine tkP 4 rfl hHeld ?_
          try simp only [sx]
          refine tkP 5 rfl hHeld ?_
          try simp only [sx]
          refine tkP 6 rfl hHeld ?_
          try simp only [sx]
          refine tkH 7 rfl (v := ?_) (by kernel_rfl) ?_ hHeld ?_
          rotate_left
          · intro V hSw
            have y1 := BlkAt.cell (Sep.get (show Sep w.heap.size w _ V from hSw) 1 rfl) t
            rw [mkB_get HTN.out] at y1
            rw [D2.out] at y1
            clear hSw
            first | (go_simp; done) | (go_simp; with_reducible rfl)
          try simp only [sx]
          refine tkP 8 rfl hHeld ?_
          try simp only [sx]
          refine tkP 9 rfl hHeld ?_
          try simp only [sx]
          refine wpAnyH_take (i := 10) (v := undef) rfl (by kernel_rfl) (by kernel_rfl) (by kernel_rfl) (fun _ _ _ h => h) (Or.inr ⟨?_,rfl⟩) hHeld ?_
          · kernel_rfl
          try simp only [sx]
          refine wpAnyH_take (i := 11) (v := undef) rfl (by kernel_rfl) (by kernel_rfl) (by kernel_rfl) (fun _ _ _ h => h) (Or.inr ⟨?_,rfl⟩) hHeld ?_
          · kernel_rfl
          try simp only [sx]
          refine wpAnyH_take (i := 12) (v := undef) rfl (by kernel_rfl) (by kernel_rfl) (by kernel_rfl) (fun _ _ _ h => h) (Or.inr ⟨?_,rfl⟩) hHeld ?_
          · kernel_rfl
          try simp only [sx]
          refine wpAnyH_take (i := 13) (v := undef) rfl (by kernel_rfl) (by kernel_rfl) (by kernel_rfl) (fun _ _ _ h => h) (Or.inr ⟨?_,rfl⟩) hHeld ?_
          · kernel_rfl
          try simp only [sx]
          refine wpAnyH_take (i := 14) (v := undef) rfl (by kernel_rfl) (by kernel_rfl) (by kernel_rfl) (fun _ _ _ h => h) (Or.inr ⟨?_,rfl⟩) hHeld ?_
          · kernel_rfl
          try simp only [sx]
          refine wpAnyH_take (i := 15) (v := undef) rfl (by kernel_rfl) (by kernel_rfl) (by kernel_rfl) (fun _ _ _ h => h) (Or.inr ⟨?_,rfl⟩) hHeld ?_
          · kernel_rfl
          try simp only [sx]
          refine wpAnyH_take (i := 16) (v := undef) rfl (by kernel_rfl) (by kernel_rfl) (by kernel_rfl) (fun _ _ _ h => h) (Or.inr ⟨?_,rfl⟩) hHeld ?_
          · kernel_rfl
          try simp only [sx]
          refine wpAnyH_take (i := 17) (v := undef) rfl (by kernel_rfl) (by kernel_rfl) (by kernel_rfl) (fun _ _ _ h => h) (Or.inr ⟨?_,rfl⟩) hHeld ?_
          · kernel_rfl
          try simp only [sx]
          refine wpAnyH_take (i := 18) (v := undef) rfl (by kernel_rfl) (by kernel_rfl) (by kernel_rfl) (fun _ _ _ h => h) (Or.inr ⟨?_,rfl⟩) hHeld ?_
          · kernel_rfl
          try simp only [sx]
          refine wpAnyH_take (i := 19) (v := undef) rfl (by kernel_rfl) (by kernel_rfl) (by kernel_rfl) (fun _ _ _ h => h) (Or.inr ⟨?_,rfl⟩) hHeld ?_
          · kernel_rfl
          try simp only [sx]
          refine wpAnyH_take (i := 20) (v := undef) rfl (by kernel_rfl) (by kernel_rfl) (by kernel_rfl) (fun _ _ _ h => h) (Or.inr ⟨?_,rfl⟩) hHeld ?_
          · kernel_rfl
          try simp only [sx]
          refine tkP 21 rfl hHeld ?_
          try simp only [sx]
          refine wpAnyH_done (by kernel_rfl) ?_ _
          have FX : Hid (true = false ↔ Same1 ⟨al,(n : Int),mr,ed⟩ c k t) := by
           constructor
           · intro h; cases h
           · intro h; exact absurd h.1 SDF.out
          go_wp2_with fail
          go_meet
          exact ⟨true,rfl,FX.out,S6.out⟩
       case rest =>
        obtain ⟨f,rfl,HF,S6⟩ := hcut
        clear S5
        cases f
        · have HS : Hid (Same1 ⟨al,(n : Int),mr,ed⟩ c k t) := HF.out.1 rfl
          have HY2 := HY.out
          go_wp2_with fail
          go_roundw
          case rel => exact ⟨k + 1,by go_num,HLT.out,(fun s y' hs hy' => by
           by_cases e : s = k
           · subst e
             rw [HY.out] at hy'; cases hy'
             rw [← HT.out]; exact HS.out
           · exact HK.out s y' (by omega) hy'),by rw [fstF_old HY.out HM.out]; exact S6.out⟩
          case measure => have := HLT.out; simp [intOf]; omega
        · have HS : Hid (¬ Same1 ⟨al,(n : Int),mr,ed⟩ c k t) := fun h => by have := HF.out.2 h; cases this
          go_wp2_with fail
          go_ret
          exact Tells.no (fun h => HS.out (h k t (by exact HLT.out) (by have := HF2.out.1; have := HLT.out; omega) (by rw [HY.out,HF2.out.2]))) S6.out.below
     · have hlk := (MapG.look okI Try.underlying97 zeroI (S.out.get 0 rfl) y).1
       rw [fstF,if_neg hm] at hlk
       simp only [keyI,veI,Option.getD_none,Option.isSome_none] at hlk
       have HM := Lib.hid hm
       clear hW4 hm
       go_wp2_with (at_mapUpdate; refine wpList_mapUpdateS rfl _ _ _ 97 3 3 rfl S.out 0 rfl okI Try.underlying97 y (k : Int) rfl rfl rfl ?_)
       intro w7 S7' _
       have S7 : Hid (Sep w.heap.size w [eMap keyI veI mp (fstF c (k + 1)),eBlk h1 23 us,eBlk g1 4 (mkB n fun s => decide ((s : Int) ∈ mr)),eBlk (w.heap.size + 1) 22 [.slice (some ⟨b,off,none⟩) c.length cC],eBlk w.heap.size 25 [.slice A1 al.length c1,.int .i64 (n : Int),.slice A2 mr.length c2,.slice A3 ed.length c3]] w7) := S7'.mapAs 0 rfl (fstF c (k + 1)) (fun u => fstF_new HY.out HM.out u)
       clear S7' hlk cy
       go_wp2_with fail
       go_roundw
       case rel => exact ⟨k + 1,by go_num,HLT.out,(fun s y' hs hy' => by
        by_cases e : s = k
        · subst e
          rw [HY.out] at hy'; cases hy'
          rw [idxK_fst HY.out HM.out]; exact ⟨Iff.rfl,rfl⟩
        · exact HK.out s y' (by omega) hy'),S7.out⟩
       case measure => have := HLT.out; simp [intOf]; omega
   · obtain rfl : k = c.length := by omega
     go_wp2
     go_ret
     exact Tells.yes (ConsV.of_first fun s y hs hy => HK.out s y hs hy) S.out.below
end Go.Proofs.Ytjjifefanjnghaa
