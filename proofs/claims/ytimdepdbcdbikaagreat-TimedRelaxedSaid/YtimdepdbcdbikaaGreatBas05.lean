/-
  automaton.Check: which error.
  minimal.Minimize of a right automaton.
  minimal.Minimize of a right automaton, with the classes of its states.
  minimal: Classes, Minimize, IsMinimal of any automaton: results and errors.
  minimal.consistent.
  slices.ContainsFunc of ints; minimal.Merge of any automaton.
  minimal: Distinguish and Equivalent of any automata: results and errors.
  overseerlaw08: same, equal, few, example.
  Plain: two states that some word tells apart are told apart by a word that is shorter than the number of states.
  Plain: the automaton of the examples of the chapter on minimal automata.
  overseerlaw08: the examples of the chapter.
  Plain: what the search for a least word within permitted edges has done.
  Words for memory: blocks of ints told by a function; rows of lists.
-/
import Derived.Test.YtimdepdbcdbikaaGreatBas02
import Derived.Test.YtimdepdbcdbikaaGreatBas04
import Derived.Test.YtimdepdbcdbikaaGreatBas03
set_option linter.unusedSimpArgs false
set_option linter.unusedVariables false
namespace Go.Proofs.YtimdepdbcdbikaaGreat
open Go.RowKit
set_option maxRecDepth 100000
def ErrsX (Q : Int → Prop) (w : World) (e : Ending) (w' : World) : Prop := ∃ r : Int,e = .returned (.int .i64 r) ∧ Q r ∧ w = w'
def ErrsXB (Q : Int → Prop) (w : World) (e : Ending) (w' : World) : Prop := ∃ r : Int,e = .returned (.int .i64 r) ∧ Q r ∧ Below w.heap.size w w'
def SetErr (l : List Int) (n r : Int) : Prop := (r = 0 ∧ setOk l n l.length) ∨ ∃ (k : Nat) (x : Int),k < l.length ∧ setOk l n k ∧ l[k]? = some x ∧ ((r = 2 ∧ (x < 0 ∨ n ≤ x)) ∨ (r = 5 ∧ 0 ≤ x ∧ x < n ∧ 0 < k ∧ ∃ y,l[k - 1]? = some y ∧ x ≤ y))
theorem setOk.less {l : List Int} {n : Int} {j k : Nat} (h : setOk l n k) (hj : j ≤ k) : setOk l n j := fun i x hi => h i x (by omega)
theorem SetErr.zero {l : List Int} {n r : Int} (h : SetErr l n r) : r = 0 ↔ setOk l n l.length := by
 constructor
 · rintro rfl
   rcases h with ⟨_,h⟩ | ⟨_,_,_,_,_,⟨h,_⟩ | ⟨h,_⟩⟩
   · exact h
   · cases h
   · cases h
 · intro hs
   rcases h with ⟨h,_⟩ | ⟨k,x,hk,_,hx,⟨_,h⟩ | ⟨_,_,_,h0,y,hy,h⟩⟩
   · exact h
   · have := hs k x hk hx; omega
   · have := (hs k x hk hx).2.2 y h0 hy; omega
theorem SetErr.uniq {l : List Int} {n r q : Int} (h : SetErr l n r) (g : SetErr l n q) : r = q := by
 have hz := h.zero
 have gz := g.zero
 by_cases h0 : r = 0
 · rw [h0,gz.2 (hz.1 h0)]
 have g0 : q ≠ 0 := fun e => h0 (hz.2 (gz.1 e))
 rcases h with ⟨e,_⟩ | ⟨k,x,hk,hok,hx,hd⟩
 · exact absurd e h0
 rcases g with ⟨e,_⟩ | ⟨j,y,hj,gok,gy,gd⟩
 · exact absurd e g0
 have e : k = j := by
  rcases Nat.lt_trichotomy k j with c | c | c
  · have := gok k x c hx
    rcases hd with ⟨_,hd⟩ | ⟨_,_,_,p0,z,hz,hd⟩
    · omega
    · have := this.2.2 z p0 hz; omega
  · exact c
  · have := hok j y c gy
    rcases gd with ⟨_,gd⟩ | ⟨_,_,_,p0,z,hz,gd⟩
    · omega
    · have := this.2.2 z p0 hz; omega
 subst e
 rw [hx] at gy; cases gy
 rcases hd with ⟨rfl,_⟩ | ⟨rfl,_⟩ <;> rcases gd with ⟨rfl,_⟩ | ⟨rfl,_⟩ <;> first | rfl | (exfalso; omega)
def EdErr (a : Au) (r : Int) : Prop := (r = 0 ∧ ∀ i,i < a.ed.length → edOk a i) ∨ ∃ (k : Nat) (x : Ed),k < a.ed.length ∧ (∀ i,i < k → edOk a i) ∧ a.ed[k]? = some x ∧
 ((r = 2 ∧ ¬ (0 ≤ x.src ∧ x.src < a.n ∧ 0 ≤ x.dst ∧ x.dst < a.n)) ∨ (r = 9 ∧ (0 ≤ x.src ∧ x.src < a.n ∧ 0 ≤ x.dst ∧ x.dst < a.n) ∧ ¬ x.ev ∈ a.al) ∨
  (r = 5 ∧ (0 ≤ x.src ∧ x.src < a.n ∧ 0 ≤ x.dst ∧ x.dst < a.n) ∧ x.ev ∈ a.al ∧ 0 < k ∧ ∃ y,a.ed[k - 1]? = some y ∧ ¬ (y.src < x.src ∨ y.src = x.src ∧ y.ev < x.ev)))
theorem EdErr.not {a : Au} {k : Nat} {x : Ed} {r : Int} (hx : a.ed[k]? = some x) (h : (r = 2 ∧ ¬ (0 ≤ x.src ∧ x.src < a.n ∧ 0 ≤ x.dst ∧ x.dst < a.n)) ∨ (r = 9 ∧ (0 ≤ x.src ∧ x.src < a.n ∧ 0 ≤ x.dst ∧ x.dst < a.n) ∧ ¬ x.ev ∈ a.al) ∨
   (r = 5 ∧ (0 ≤ x.src ∧ x.src < a.n ∧ 0 ≤ x.dst ∧ x.dst < a.n) ∧ x.ev ∈ a.al ∧ 0 < k ∧ ∃ y,a.ed[k - 1]? = some y ∧ ¬ (y.src < x.src ∨ y.src = x.src ∧ y.ev < x.ev))) : ¬ edOk a k := fun g => by
 have g1 := g x hx
 rcases h with ⟨_,h⟩ | ⟨_,_,h⟩ | ⟨_,_,_,p0,y,hy,h⟩
 · exact h ⟨g1.1,g1.2.1,g1.2.2.1,g1.2.2.2.1⟩
 · exact h g1.2.2.2.2.1
 · exact h (g1.2.2.2.2.2 y p0 hy)
theorem EdErr.zero {a : Au} {r : Int} (h : EdErr a r) : r = 0 ↔ ∀ i,i < a.ed.length → edOk a i := by
 rcases h with ⟨h,g⟩ | ⟨k,x,hk,_,hx,hd⟩
 · exact ⟨fun _ => g,fun _ => h⟩
 · have hn := EdErr.not hx hd
   constructor
   · rintro rfl
     rcases hd with ⟨h,_⟩ | ⟨h,_⟩ | ⟨h,_⟩ <;> cases h
   · exact fun h => absurd (h k hk) hn
theorem EdErr.uniq {a : Au} {r q : Int} (h : EdErr a r) (g : EdErr a q) : r = q := by
 have hz := h.zero
 have gz := g.zero
 by_cases h0 : r = 0
 · rw [h0,gz.2 (hz.1 h0)]
 have g0 : q ≠ 0 := fun e => h0 (hz.2 (gz.1 e))
 rcases h with ⟨e,_⟩ | ⟨k,x,hk,hok,hx,hd⟩
 · exact absurd e h0
 rcases g with ⟨e,_⟩ | ⟨j,y,hj,gok,gy,gd⟩
 · exact absurd e g0
 have hn := EdErr.not hx hd
 have gn := EdErr.not gy gd
 have e : k = j := by
  rcases Nat.lt_trichotomy k j with c | c | c
  · exact absurd (gok k c) hn
  · exact c
  · exact absurd (hok j c) gn
 subst e
 rw [hx] at gy; cases gy
 rcases hd with ⟨rfl,h1⟩ | ⟨rfl,h1,h2⟩ | ⟨rfl,h1,h2,_⟩ <;> rcases gd with ⟨rfl,g1⟩ | ⟨rfl,g1,g2⟩ | ⟨rfl,g1,g2,_⟩ <;> first | rfl | exact absurd h1 g1 | exact absurd g1 h1 | exact absurd h2 g2 | exact absurd g2 h2
def ChkErr (a : Au) (r : Int) : Prop := (r ≠ 0 ∧ SetErr a.al 32 r) ∨ (setOk a.al 32 a.al.length ∧ ((r = 2 ∧ a.n < 0) ∨ (r = 3 ∧ 4096 < a.n))) ∨ (setOk a.al 32 a.al.length ∧ (0 ≤ a.n ∧ a.n ≤ 4096) ∧ r ≠ 0 ∧ SetErr a.mr a.n r) ∨
 (setOk a.al 32 a.al.length ∧ (0 ≤ a.n ∧ a.n ≤ 4096) ∧ setOk a.mr a.n a.mr.length ∧ EdErr a r)
theorem ChkErr.zero {a : Au} {r : Int} (h : ChkErr a r) : r = 0 ↔ a.Right := by
 rcases h with ⟨h,g⟩ | ⟨_,⟨rfl,h⟩ | ⟨rfl,h⟩⟩ | ⟨_,_,h,g⟩ | ⟨h1,⟨h2,h3⟩,h4,g⟩
 · exact ⟨fun e => absurd e h,fun e => g.zero.2 e.al⟩
 · exact ⟨fun e => absurd e (by decide),fun e => by have := e.n0; omega⟩
 · exact ⟨fun e => absurd e (by decide),fun e => by have := e.n1; omega⟩
 · exact ⟨fun e => absurd e h,fun e => g.zero.2 e.mr⟩
 · exact g.zero.trans ⟨fun h => ⟨h1,h2,h3,h4,h⟩,fun h => h.ed⟩
theorem ChkErr.uniq {a : Au} {r q : Int} (h : ChkErr a r) (g : ChkErr a q) : r = q := by
 rcases h with ⟨h0,h⟩ | ⟨h1,h⟩ | ⟨h1,h2,h0,h⟩ | ⟨h1,h2,h3,h⟩
 · have hn : ¬ setOk a.al 32 a.al.length := fun e => h0 (h.zero.2 e)
   rcases g with ⟨g0,g⟩ | ⟨g1,_⟩ | ⟨g1,_⟩ | ⟨g1,_⟩
   · exact h.uniq g
   · exact absurd g1 hn
   · exact absurd g1 hn
   · exact absurd g1 hn
 · rcases g with ⟨g0,g⟩ | ⟨g1,g⟩ | ⟨g1,g2,_⟩ | ⟨g1,g2,_⟩
   · exact absurd (g.zero.2 h1) g0
   · rcases h with ⟨rfl,h⟩ | ⟨rfl,h⟩ <;> rcases g with ⟨rfl,g⟩ | ⟨rfl,g⟩ <;> first | rfl | (exfalso; omega)
   · exfalso; rcases h with ⟨_,h⟩ | ⟨_,h⟩ <;> omega
   · exfalso; rcases h with ⟨_,h⟩ | ⟨_,h⟩ <;> omega
 · rcases g with ⟨g0,g⟩ | ⟨g1,g⟩ | ⟨g1,g2,g0,g⟩ | ⟨g1,g2,g3,g⟩
   · exact absurd (g.zero.2 h1) g0
   · exfalso; rcases g with ⟨_,h⟩ | ⟨_,h⟩ <;> omega
   · exact h.uniq g
   · exact absurd (h.zero.2 g3) h0
 · rcases g with ⟨g0,g⟩ | ⟨g1,g⟩ | ⟨g1,g2,g0,g⟩ | ⟨g1,g2,g3,g⟩
   · exact absurd (g.zero.2 h1) g0
   · exfalso; rcases g with ⟨_,h⟩ | ⟨_,h⟩ <;> omega
   · exact absurd (g.zero.2 h3) g0
   · exact h.uniq g
theorem ErrsX.two {Q : Int → Prop} {w w' : World} {e : Ending} (h : ErrsX Q w e w') : (∃ r : Int,e = .returned (.int .i64 r) ∧ (r == 0) = false ∧ Hid (r ≠ 0) ∧ Hid (Q r) ∧ w = w') ∨ (e = .returned (.int .i64 0) ∧ Hid (Q 0) ∧ w = w') := by
 obtain ⟨r,rfl,hr,rfl⟩ := h
 by_cases h0 : r = 0
 · subst h0; exact .inr ⟨rfl,hr,rfl⟩
 · exact .inl ⟨r,rfl,by simpa using h0,h0,hr,rfl⟩
theorem ErrsXB.two {Q : Int → Prop} {w w' : World} {e : Ending} (h : ErrsXB Q w e w') : (∃ r : Int,e = .returned (.int .i64 r) ∧ (r == 0) = false ∧ Hid (r ≠ 0) ∧ Hid (Q r) ∧ Below w.heap.size w w') ∨ (e = .returned (.int .i64 0) ∧ Hid (Q 0) ∧ Below w.heap.size w w') := by
 obtain ⟨r,rfl,hr,hb⟩ := h
 by_cases h0 : r = 0
 · subst h0; exact .inr ⟨rfl,hr,hb⟩
 · exact .inl ⟨r,rfl,by simpa using h0,h0,hr,hb⟩
set_option maxHeartbeats 400000 in
theorem checkSetX_c (A : Option Addr) (c : Nat) (l : List Int) (n : Int) (w : World) (h : IntsAt w A l) (hl : l.length ≤ maxLen) :
 Calls Tryz.prog 59 #[.slice A l.length c,.int .i64 n] w (ErrsX (SetErr l n) w) := by
 unfold maxLen at hl
 go_enter Tryz.func59,Tryz.ntmps59
 go_wp2
 go_loop [5,6,9] (fun a b i => ∃ k : Nat,k ≤ l.length ∧ i = .int .i64 k ∧ Hid (setOk l n k)) (fun _ _ i => l.length - (intOf i).toNat)
 case atStart => exact ⟨0,by omega,rfl,fun i x h => absurd h (by omega)⟩
 case round =>
  obtain ⟨k,hk,rfl,hrel⟩ := hrel
  by_cases hlt : k < l.length
  · obtain ⟨b,off,x,rfl,_,hx,hcx⟩ := IntsAt.at h hlt
    by_cases hk0 : k = 0
    · subst hk0
      rw [Nat.add_zero] at hcx
      go_wp2
      any_goals (go_ret; exact ⟨_,rfl,.inr ⟨0,x,hlt,hrel.out,hx,.inl ⟨rfl,by omega⟩⟩,rfl⟩)
      go_round
      case rel => exact ⟨1,by omega,by go_num,hrel.out.step hx (by omega) (by omega) (fun y h => absurd h (by omega))⟩
      case measure => simp [intOf]; omega
    · obtain ⟨y,hy,hcy⟩ := IntsAt.more h (k := k - 1) (by omega)
      go_wp2
      any_goals (go_ret; first | exact ⟨2,rfl,.inr ⟨k,x,hlt,hrel.out,hx,.inl ⟨rfl,by omega⟩⟩,rfl⟩ | exact ⟨5,rfl,.inr ⟨k,x,hlt,hrel.out,hx,.inr ⟨rfl,by omega,by omega,by omega,y,hy,by omega⟩⟩,rfl⟩)
      go_round
      case rel => exact ⟨k+1,by omega,by go_num,hrel.out.step hx (by omega) (by omega) (fun z h hz => by rw [hy] at hz; cases hz; omega)⟩
      case measure => simp [intOf]; omega
  · obtain rfl : k = l.length := by omega
    go_wp2
    go_ret
    exact ⟨0,rfl,.inl ⟨rfl,hrel.out⟩,rfl⟩
set_option maxHeartbeats 1000000 in
theorem checkEdgesX_c (a : Au) (p : AuP) (w : World) (h : Au.At w a p) :
 Calls Tryz.prog 60 #[a.val p] w (ErrsXB (EdErr a) w) := by
 have B0 : Hid (Below w.heap.size w (w.alloc (.cells (auCells a p).toArray 34))) := Below.new _ _
 have W0 : Hid (Fro (w.heap.size + 1) (w.alloc (.cells (auCells a p).toArray 34)) (w.alloc (.cells (auCells a p).toArray 34))) := Fro.refl (by simp)
 have C0 : Hid (HasAt w.heap.size (auCells a p) (w.alloc (.cells (auCells a p).toArray 34))) := HasAt.new w _ _ rfl
 have HP := Lib.hid h
 have lal := h.lal
 have led := h.led
 clear h
 obtain ⟨al,n,mr,ed⟩ := a
 obtain ⟨A1,c1,A2,c2,A3,c3⟩ := p
 dsimp only [Au.val,auCells] at *
 have q3 := C0.out.c 3 _ rfl
 go_enter Tryz.func60,Tryz.ntmps60
 go_wp2_with fail
 generalize hW : w.alloc (.cells #[.slice A1 al.length c1,.int .i64 n,.slice A2 mr.length c2,.slice A3 ed.length c3] 34) = W at *
 clear hW q3
 go_loopw [3,9] (fun _ i wr => ∃ k : Nat,k ≤ ed.length ∧ i = .int .i64 k ∧ Hid (Fro (w.heap.size + 1) W wr) ∧ Hid (∀ i,i < k → edOk ⟨al,n,mr,ed⟩ i)) (fun _ i _ => ed.length - (intOf i).toNat)
 case atStart => exact ⟨0,by omega,rfl,W0.out,fun i h => absurd h (by omega)⟩
 case round =>
  obtain ⟨k,hk,rfl,BW,HE⟩ := hrel
  have C2 := Lib.hid (C0.out.fro BW.out (Nat.lt_succ_self _))
  have q0 := C2.out.c 0 _ rfl
  have q1 := C2.out.c 1 _ rfl
  have q3 := C2.out.c 3 _ rfl
  have hz := C2.out.z
  have BWW : Hid (Below w.heap.size w wr) := B0.out.trans (BW.out.b.mono (by omega))
  by_cases hlt : k < ed.length
  · obtain ⟨b,off,x,hA3,hb,hx,e0,e1,e2⟩ := EdsAt.at ((HP.out.below BWW.out).ed) hlt
    obtain ⟨src,ev,dst⟩ := x
    dsimp only at hA3 e0 e1 e2
    subst hA3
    have HX := Lib.hid hx
    clear hx
    by_cases hs : 0 ≤ src ∧ src < n ∧ 0 ≤ dst ∧ dst < n
    · obtain ⟨s0,s1,d0,d1⟩ := hs
      have BN : Hid (Fro (w.heap.size + 1) W (wr.alloc (.cells #[.int .i64 src,.int .i64 ev,.int .i64 dst] 76))) := BW.out.alloc _
      have BNN : Hid (Below w.heap.size w (wr.alloc (.cells #[.int .i64 src,.int .i64 ev,.int .i64 dst] 76))) := B0.out.trans (BN.out.b.mono (by omega))
      go_wp2_with fail
      refine (containsV_c A1 c1 al ev _ ((HP.out.below BNN.out).al) lal).mono ?_
      intro e w1 hs; rcases hs.no1 with ⟨rfl,SE,rfl⟩ | ⟨rfl,SE,rfl⟩
      · clear hs
        go_wp2
        go_ret
        exact ⟨9,rfl,.inr ⟨k,_,hlt,HE.out,HX.out,.inr (.inl ⟨rfl,⟨s0,s1,d0,d1⟩,SE.out⟩)⟩,BNN.out⟩
      clear hs
      by_cases hk0 : k = 0
      · subst hk0
        go_wp2
        go_roundw
        case rel => exact ⟨1,by omega,by go_num,BN.out,fun i hi => by
         obtain rfl : i = 0 := by omega
         intro z hz
         rw [HX.out] at hz; cases hz
         exact ⟨s0,s1,d0,d1,SE.out,fun y h => absurd h (by omega)⟩⟩
        case measure => simp [intOf]; omega
      · obtain ⟨y,hy,f0,f1,f2⟩ := EdsAt.more ((HP.out.below BWW.out).ed) (k := k - 1) (by simp only; omega)
        obtain ⟨ysrc,yev,ydst⟩ := y
        dsimp only at f0 f1 f2
        have HY := Lib.hid hy
        clear hy
        have hk1 : 0 < k := by omega
        have hk2 : ((k : Int) == 0) = false := by simpa using hk0
        have BN2 : Hid (Fro (w.heap.size + 1) W ((wr.alloc (.cells #[.int .i64 src,.int .i64 ev,.int .i64 dst] 76)).alloc (.cells #[.int .i64 ysrc,.int .i64 yev,.int .i64 ydst] 76))) := BN.out.alloc _
        have BN2N : Hid (Below w.heap.size w ((wr.alloc (.cells #[.int .i64 src,.int .i64 ev,.int .i64 dst] 76)).alloc (.cells #[.int .i64 ysrc,.int .i64 yev,.int .i64 ydst] 76))) := B0.out.trans (BN2.out.b.mono (by omega))
        by_cases hord : ysrc < src ∨ ysrc = src ∧ yev < ev
        · have HO := Lib.hid hord
          have g1 : decide (src < ysrc) = false := by simp; omega
          by_cases g2 : src = ysrc
          · subst g2
            have g3 : decide (ev ≤ yev) = false := by simp; omega
            have HEV : Hid (yev < ev) := by unfold Hid; omega
            clear hord
            go_wp2
            go_roundw
            case rel => exact ⟨k + 1,by omega,by go_num,BN2.out,fun i hi => by
             by_cases e : i = k
             · subst e
               intro z hz
               rw [HX.out] at hz; cases hz
               exact ⟨s0,s1,d0,d1,SE.out,fun y _ h => by rw [HY.out] at h; cases h; exact .inr ⟨rfl,HEV.out⟩⟩
             · exact HE.out i (by omega)⟩
            case measure => simp [intOf]; omega
          · have g2' : (src == ysrc) = false := by simpa using g2
            clear hord g2
            go_wp2
            go_roundw
            case rel => exact ⟨k + 1,by omega,by go_num,BN2.out,fun i hi => by
             by_cases e : i = k
             · subst e
               intro z hz
               rw [HX.out] at hz; cases hz
               exact ⟨s0,s1,d0,d1,SE.out,fun y _ h => by rw [HY.out] at h; cases h; exact HO.out⟩
             · exact HE.out i (by omega)⟩
            case measure => simp [intOf]; omega
        · have HO := Lib.hid hord
          have NO : Hid (EdErr ⟨al,n,mr,ed⟩ 5) := .inr ⟨k,_,hlt,HE.out,HX.out,.inr (.inr ⟨rfl,⟨s0,s1,d0,d1⟩,SE.out,hk1,_,HY.out,HO.out⟩)⟩
          by_cases g1 : src < ysrc
          · clear hord
            go_wp2
            go_ret
            exact ⟨5,rfl,NO.out,BN2N.out⟩
          · have g1' : decide (src < ysrc) = false := by simpa using g1
            obtain rfl : src = ysrc := by omega
            have g3 : decide (ev ≤ yev) = true := by simp; omega
            clear hord
            go_wp2
            go_ret
            exact ⟨5,rfl,NO.out,BN2N.out⟩
    · go_wp2
      any_goals (go_ret; exact ⟨2,rfl,.inr ⟨k,_,hlt,HE.out,HX.out,.inl ⟨rfl,by simp only; omega⟩⟩,BWW.out.alloc (by omega) _⟩)
  · obtain rfl : k = ed.length := by omega
    go_wp2
    go_ret
    exact ⟨0,rfl,.inl ⟨rfl,HE.out⟩,BWW.out⟩
set_option maxHeartbeats 1000000 in
theorem CheckX_c (a : Au) (p : AuP) (w : World) (h : Au.At w a p) :
 Calls Tryz.prog 33 #[a.val p] w (ErrsXB (ChkErr a) w) := by
 have B0 : Hid (Below w.heap.size w (w.alloc (.cells (auCells a p).toArray 34))) := Below.new _ _
 have C0 : Hid (HasAt w.heap.size (auCells a p) (w.alloc (.cells (auCells a p).toArray 34))) := HasAt.new w _ _ rfl
 have HP := Lib.hid h
 have lal := h.lal
 have lmk := h.lmk
 clear h
 obtain ⟨al,n,mr,ed⟩ := a
 obtain ⟨A1,c1,A2,c2,A3,c3⟩ := p
 dsimp only [Au.val,auCells] at *
 have q0 := C0.out.c 0 _ rfl
 have q1 := C0.out.c 1 _ rfl
 have q2 := C0.out.c 2 _ rfl
 have q3 := C0.out.c 3 _ rfl
 go_enter Tryz.func33,Tryz.ntmps33
 go_wp2_with fail
 generalize hW : w.alloc (.cells #[.slice A1 al.length c1,.int .i64 n,.slice A2 mr.length c2,.slice A3 ed.length c3] 34) = W at *
 clear hW
 refine (checkSetX_c A1 c1 al 32 W ((HP.out.below B0.out).al) (by unfold maxLen; omega)).mono ?_
 intro e w1 hs
 rcases hs.two with ⟨r,rfl,hr,HR,S1,rfl⟩ | ⟨rfl,S1,rfl⟩
 · clear hs
   go_wp2
   go_ret
   exact ⟨r,rfl,.inl ⟨HR.out,S1.out⟩,B0.out⟩
 clear hs
 have S1 := Lib.hid (S1.out.zero.1 rfl)
 by_cases hn0 : n < 0
 · go_wp2
   go_ret
   exact ⟨2,rfl,.inr (.inl ⟨S1.out,.inl ⟨rfl,hn0⟩⟩),B0.out⟩
 by_cases hn1 : 4096 < n
 · go_wp2
   go_ret
   exact ⟨3,rfl,.inr (.inl ⟨S1.out,.inr ⟨rfl,hn1⟩⟩),B0.out⟩
 go_wp2_with fail
 refine (checkSetX_c A2 c2 mr n W ((HP.out.below B0.out).mr) (by unfold maxLen; omega)).mono ?_
 intro e w1 hs
 rcases hs.two with ⟨r,rfl,hr,HR,S2,rfl⟩ | ⟨rfl,S2,rfl⟩
 · clear hs
   go_wp2
   go_ret
   exact ⟨r,rfl,.inr (.inr (.inl ⟨S1.out,⟨by omega,by omega⟩,HR.out,S2.out⟩)),B0.out⟩
 clear hs
 have S2 := Lib.hid (S2.out.zero.1 rfl)
 go_wp2_with fail
 refine (checkEdgesX_c ⟨al,n,mr,ed⟩ ⟨A1,c1,A2,c2,A3,c3⟩ W (HP.out.below B0.out)).mono ?_
 rintro e w2 ⟨r,rfl,hr,hb⟩
 have HR := Lib.hid hr
 have HB := Lib.hid (B0.out.trans (hb.mono B0.out.size))
 clear hr hb
 go_wp2
 go_ret
 exact ⟨r,rfl,.inr (.inr (.inr ⟨S1.out,⟨by omega,by omega⟩,S2.out,HR.out⟩)),HB.out⟩
def GivesMini (a : Au) (w : World) (e : Ending) (w' : World) : Prop := ∃ m p',e = .returned (.tuple #[m.val p',.int .i64 0]) ∧ Hid (Sep w.heap.size w (eAu m p') w') ∧ Hid (Lens m) ∧ Hid (Mini a m)
def Mrg (a : Au) (c : List Int) (m : Au) : Prop := m.al = a.al ∧ ((a.n = 0 ∧ m = ⟨a.al,0,[],[]⟩) ∨ ∃ fs,Built (clsV c) (outK a fun _ => true) 0 m fs ∧ (∀ v,v ∈ fs → 0 ≤ v ∧ v < a.n) ∧ ∀ d : Nat,(d : Int) ∈ m.mr ↔ ∃ v,fs[d]? = some v ∧ v ∈ a.mr)
def MinB (a m : Au) : Prop := ∃ c k,c.length = a.n.toNat ∧ Canon c k ∧ (∀ i j : Nat,i < c.length → j < c.length → (c[i]? = c[j]? ↔ Eqv a i j)) ∧ Mrg a c m
def GivesMB (a : Au) (w : World) (e : Ending) (w' : World) : Prop := ∃ m p',e = .returned (.tuple #[m.val p',.int .i64 0]) ∧ Hid (Sep w.heap.size w (eAu m p') w') ∧ Hid (Lens m) ∧ Hid (MinB a m)
theorem ChkErr.of_right {a : Au} (h : a.Right) : ChkErr a 0 := .inr (.inr (.inr ⟨h.al,⟨h.n0,h.n1⟩,h.mr,.inl ⟨rfl,h.ed⟩⟩))
def GivesKX (a : Au) (w : World) (e : Ending) (w' : World) : Prop := ∃ r : Int,ChkErr a r ∧ ((r ≠ 0 ∧ e = .returned (.tuple #[.slice none 0 0,.int .i64 r]) ∧ Below w.heap.size w w') ∨ (r = 0 ∧ ∃ g c m,e = .returned (.tuple #[.slice (some ⟨g,0,none⟩) a.n.toNat a.n.toNat,.int .i64 0]) ∧ Hid (Sep w.heap.size w [eBlk g 3 (c.map (Value.int .i64))] w') ∧ Hid (c.length = a.n.toNat ∧ Canon c m ∧ ∀ i j : Nat,i < c.length → j < c.length → (c[i]? = c[j]? ↔ Eqv a i j))))
def GivesMX (a : Au) (w : World) (e : Ending) (w' : World) : Prop := ∃ r : Int,ChkErr a r ∧ ((r ≠ 0 ∧ e = .returned (.tuple #[.agg #[.slice none 0 0,.int .i64 0,.slice none 0 0,.slice none 0 0],.int .i64 r]) ∧ Below w.heap.size w w') ∨ (r = 0 ∧ GivesMB a w e w'))
def GivesIM (a : Au) (w : World) (e : Ending) (w' : World) : Prop := ∃ (r : Int) (f : Bool),ChkErr a r ∧ e = .returned (.tuple #[.bool f,.int .i64 r]) ∧ Below w.heap.size w w' ∧ ((r ≠ 0 ∧ f = false) ∨ (r = 0 ∧ ∃ m,MinB a m ∧ (f = true ↔ a = m)))
theorem beq_dec (u v : Int) : (u == v) = decide (u = v) := by by_cases h : u = v <;> simp [h]
theorem EdE.cells3 {w : World} {A : Option Addr} {l : List Ed} (h : EdsAt w A l) {k : Nat} (hk : k < l.length) : ∃ b off x,A = some ⟨b,off,none⟩ ∧ b < w.heap.size ∧ l[k]? = some x ∧ w.cell? ⟨b,off + k * 3,none⟩ = some (.int .i64 x.src) ∧ w.cell? ⟨b,off + k * 3 + 1,none⟩ = some (.int .i64 x.ev) ∧ w.cell? ⟨b,off + k * 3 + 2,none⟩ = some (.int .i64 x.dst) := by
 obtain ⟨b,off,x,h1,h2,h3,h4,h5,h6⟩ := EdsAt.at h hk
 exact ⟨b,off,x,h1,h2,h3,h4,h5,h6⟩
def fstF (c : List Int) (k : Nat) (u : Int) : Option Int := if u ∈ c.take k then some ((idxK c u : Nat) : Int) else none
def Same1 (a : Au) (c : List Int) (i j : Nat) : Prop := ((i : Int) ∈ a.mr ↔ (j : Int) ∈ a.mr) ∧ (sigV a c i).2 = (sigV a c j).2
def ConsV (a : Au) (c : List Int) : Prop := ∀ i j : Nat,i < c.length → j < c.length → c[i]? = c[j]? → Same1 a c i j
def PredOn {α : Type} (P : Program) (g : Nat) (lb : Array Value) (enc : α → Value) (p : α → Prop) (l : List α) (w : World) : Prop :=
 ∀ (W : World) (x : α),x ∈ l → Below w.heap.size w W → Calls P g (#[enc x] ++ lb) W (Tells (p x) W)

def Indexes {α : Type} (p : α → Prop) (l : List α) (w : World) (e : Ending) (w' : World) : Prop :=
 ∃ r : Int,e = .returned (.int .i64 r) ∧ (r = -1 ∧ (∀ x,x ∈ l → ¬ p x) ∨ ∃ k x,r = (k : Nat) ∧ l[k]? = some x ∧ p x ∧ ∀ j y,j < k → l[j]? = some y → ¬ p y) ∧ Below w.heap.size w w'

def Ed.enc (x : Ed) : Value := .agg #[.int .i64 x.src,.int .i64 x.ev,.int .i64 x.dst]

theorem Indexes.some_iff {α : Type} {p : α → Prop} {l : List α} {r : Int} (h : r = -1 ∧ (∀ x,x ∈ l → ¬ p x) ∨ ∃ k x,r = (k : Nat) ∧ l[k]? = some x ∧ p x ∧ ∀ j y,j < k → l[j]? = some y → ¬ p y) : 0 ≤ r ↔ ∃ x,x ∈ l ∧ p x := by
 rcases h with ⟨rfl,h⟩ | ⟨k,x,rfl,hx,hp,_⟩
 · exact ⟨fun h => absurd h (by omega),fun ⟨x,hx,hp⟩ => absurd hp (h x hx)⟩
 · exact ⟨fun _ => ⟨x,List.mem_of_getElem? hx,hp⟩,fun _ => by omega⟩

set_option maxHeartbeats 400000 in
theorem indexI_c (g : Nat) (lb : Array Value) (eg : ∀ args w,(callFunc g args).run Tryz.prog w = .ok (.enter g args) w) (p : Int → Prop) (A : Option Addr) (c : Nat) (l : List Int) (w : World)
 (hA : IntsAt w A l) (hl : l.length ≤ 140737488355328) (hp : PredOn Tryz.prog g lb (Value.int .i64) p l w) :
 Calls Tryz.prog 69 #[.slice A l.length c,.func (.func g) #[] lb] w (Indexes p l w) := by
 have HA := Lib.hid hA; clear hA
 have HP := Lib.hid hp; clear hp
 go_enter Tryz.func69,Tryz.ntmps69
 go_wp2
 go_loopw [8] (fun i wr => ∃ k : Nat,k ≤ l.length ∧ i = .int .i64 k ∧ Hid (Below w.heap.size w wr) ∧ Hid (∀ j y,j < k → l[j]? = some y → ¬ p y)) (fun i _ => l.length - (intOf i).toNat)
 case atStart => exact ⟨0,by omega,rfl,Below.refl _ _,fun j y h => absurd h (by omega)⟩
 case round =>
  obtain ⟨k,hk,rfl,BW,HN⟩ := hrel
  by_cases hlt : k < l.length
  · obtain ⟨b,off,x,rfl,hb,hx,e0⟩ := IntsAt.at (HA.out.below IntE.stays BW.out) hlt
    have hm : x ∈ l := List.mem_of_getElem? hx
    have hc := Lib.hid (HP.out wr x hm BW.out)
    clear hm
    go_wp2_with fail
    refine hc.out.mono ?_
    intro e w1 hs
    rcases hs.yes1 with ⟨rfl,S,hb1⟩ | ⟨rfl,S,hb1⟩
    · go_wp2
      go_ret
      exact ⟨k,rfl,.inr ⟨k,_,rfl,hx,S.out,HN.out⟩,BW.out.trans (hb1.mono BW.out.size)⟩
    · go_wp2
      go_roundw
      case rel => exact ⟨k + 1,by omega,by go_num,BW.out.trans (hb1.mono BW.out.size),fun j y hj hy => by
       by_cases h : j = k
       · subst h; rw [hx] at hy; cases hy; exact S.out
       · exact HN.out j y (by omega) hy⟩
      case measure => simp [intOf]; omega
  · obtain rfl : k = l.length := by omega
    go_wp2
    go_ret
    refine ⟨-1,rfl,.inl ⟨rfl,fun x hx => ?_⟩,BW.out⟩
    obtain ⟨j,hj,rfl⟩ := List.mem_iff_getElem.1 hx
    exact HN.out j _ hj (List.getElem?_eq_getElem hj)

def MgErr (a : Au) (c : List Int) (r : Int) : Prop := ChkErr a r ∨ (a.Right ∧ (((c.length : Int) ≠ a.n ∧ r = 4) ∨ ((c.length : Int) = a.n ∧ (∃ x,x ∈ c ∧ (x < 0 ∨ a.n ≤ x)) ∧ r = 2) ∨ ((c.length : Int) = a.n ∧ ¬ (∃ x,x ∈ c ∧ (x < 0 ∨ a.n ≤ x)) ∧ ¬ ConsV a c ∧ r = 13)))
def DistW (a b : Au) (x y : Int) (f : Bool) (l : List Int) : Prop := f = true ∧ LeastW (LeadsTo (stp2 a b) (x,y) (unionS a.al b.al) (fun q => pdV a b q = true)) l ∨ f = false ∧ l = [] ∧ ∀ u,¬ LeadsTo (stp2 a b) (x,y) (unionS a.al b.al) (fun q => pdV a b q = true) u
def InSt (a : Au) (x y : Int) : Prop := (0 ≤ x ∧ x < a.n) ∧ (0 ≤ y ∧ y < a.n)
def GivesDX (a : Au) (x y : Int) (w : World) (e : Ending) (w' : World) : Prop := ∃ (A : Option Addr) (c : Nat) (l : List Int) (f : Bool) (r : Int),e = .returned (.tuple #[.slice A l.length c,.bool f,.int .i64 r]) ∧ Hid (IntsAt w' A l) ∧ Below w.heap.size w w' ∧
 Hid ((r ≠ 0 ∧ l = [] ∧ f = false ∧ (ChkErr a r ∨ a.Right ∧ r = 2 ∧ ¬ InSt a x y)) ∨ (r = 0 ∧ a.Right ∧ InSt a x y ∧ DistW a a x y f l))
def GivesQX (a b : Au) (w : World) (e : Ending) (w' : World) : Prop := ∃ (A : Option Addr) (c : Nat) (l : List Int) (f : Bool) (r : Int),e = .returned (.tuple #[.bool f,.slice A l.length c,.int .i64 r]) ∧ Hid (IntsAt w' A l) ∧ Below w.heap.size w w' ∧
 Hid ((r ≠ 0 ∧ l = [] ∧ f = false ∧ (ChkErr a r ∨ a.Right ∧ ChkErr b r)) ∨ (r = 0 ∧ a.Right ∧ b.Right ∧ (((a.n = 0 ∨ b.n = 0) ∧ l = [] ∧ f = decide (a.n = b.n)) ∨ (0 < a.n ∧ 0 < b.n ∧ ∃ g,f = !g ∧ DistW a b 0 0 g l))))
set_option maxHeartbeats 400000 in
theorem same4_c (A1 A2 : Option Addr) (c1 c2 : Nat) (l1 l2 : List Int) (w : World) (h1 : IntsAt w A1 l1) (h2 : IntsAt w A2 l2) (n1 : l1.length ≤ 140737488355328) (n2 : l2.length ≤ 140737488355328) :
 Calls Tryz.prog 86 #[.slice A1 l1.length c1,.slice A2 l2.length c2] w (Tells (l1 = l2) w) := by
 have H1 := Lib.hid h1
 have H2 := Lib.hid h2
 clear h1 h2
 by_cases hl : l1.length = l2.length
 · go_enter Tryz.func86,Tryz.ntmps86
   have HL := Lib.hid hl
   rw [← hl]
   clear hl n2
   go_wp2
   go_loopw [5] (fun i wr => ∃ k : Nat,k ≤ l1.length ∧ i = .int .i64 k ∧ Hid (Below w.heap.size w wr) ∧ Hid (l1.take k = l2.take k)) (fun i _ => l1.length - (intOf i).toNat)
   case atStart => exact ⟨0,by omega,rfl,Below.refl _ _,rfl⟩
   case round =>
    obtain ⟨k,hk,rfl,BW,HN⟩ := hrel
    by_cases hlt : k < l1.length
    · obtain ⟨b,off,x,rfl,hb,hx,e0⟩ := IntsAt.at (H1.out.below IntE.stays BW.out) hlt
      obtain ⟨b2,off2,y,rfl,hb2,hy,g0⟩ := IntsAt.at (H2.out.below IntE.stays BW.out) (HL.out ▸ hlt)
      have HX := Lib.hid hx
      have HY := Lib.hid hy
      clear hx hy
      by_cases hxy : x = y
      · subst hxy
        go_wp2_with fail
        go_quiet (fail)
        go_wp2
        go_roundw
        case rel => exact ⟨k + 1,by omega,by go_num,BW.out.draws _,Lib.hid (by rw [List.take_add_one,List.take_add_one,HN.out,HX.out,HY.out])⟩
        case measure => simp [intOf]; omega
      · have hne : (x == y) = false := by simpa using hxy
        go_wp2_with fail
        go_quiet (fail)
        go_wp2
        go_ret
        exact Tells.no (fun h => by subst h; have := HX.out; rw [HY.out] at this; cases this; exact hxy rfl) (BW.out.draws _)
    · obtain rfl : k = l1.length := by omega
      go_wp2
      go_ret
      exact Tells.yes (by have := HN.out; rw [List.take_length,HL.out,List.take_length] at this; exact this) BW.out
 · have hne : ((l1.length : Int) == (l2.length : Int)) = false := by rw [beq_eq_false_iff_ne]; omega
   go_enter Tryz.func86,Tryz.ntmps86
   go_wp2
   go_ret
   exact Tells.no (fun h => hl (by rw [h])) (Below.refl _ _)

def FewV (a : Au) : Prop := a.al.length ≤ 6 ∧ a.mr.length ≤ 8 ∧ a.ed.length ≤ 12 ∧ (a.n ≤ 8 ∨ 4096 < a.n)
section

def EqK (a : Au) (k : Nat) (i j : Int) : Prop := ∀ w : List Int,w.length ≤ k → (0 ≤ runV a.ed i w ↔ 0 ≤ runV a.ed j w) ∧ (runV a.ed i w ∈ a.mr ↔ runV a.ed j w ∈ a.mr)
section
variable {a : Au} {k : Nat}
theorem EqK.refl (k : Nat) (i : Int) : EqK a k i i := fun _ _ => ⟨Iff.rfl,Iff.rfl⟩
theorem EqK.symm {i j : Int} (h : EqK a k i j) : EqK a k j i := fun w hw => ⟨(h w hw).1.symm,(h w hw).2.symm⟩
theorem EqK.trans {i j l : Int} (h : EqK a k i j) (g : EqK a k j l) : EqK a k i l := fun w hw => ⟨(h w hw).1.trans (g w hw).1,(h w hw).2.trans (g w hw).2⟩
theorem EqK.less {i j : Int} {m : Nat} (h : EqK a k i j) (hm : m ≤ k) : EqK a m i j := fun w hw => h w (by omega)
theorem runV_cons {l : List Ed} {s e : Int} (h : 0 ≤ s) (r : List Int) : runV l s (e :: r) = runV l (nextV l s e) r := by simp [runV,h]
theorem EqK.next {i j : Int} (h : EqK a (k + 1) i j) (hi : 0 ≤ i) (hj : 0 ≤ j) (e : Int) : EqK a k (nextV a.ed i e) (nextV a.ed j e) := fun w hw => by
 have := h (e :: w) (by simp; omega)
 rw [runV_cons hi,runV_cons hj] at this
 exact this
theorem EqK.stable (hr : a.Right) (hs : ∀ i j : Int,0 ≤ i → i < a.n → 0 ≤ j → j < a.n → EqK a k i j → EqK a (k + 1) i j) : ∀ (w : List Int) (i j : Int),0 ≤ i → i < a.n → 0 ≤ j → j < a.n → EqK a k i j → (0 ≤ runV a.ed i w ↔ 0 ≤ runV a.ed j w) ∧ (runV a.ed i w ∈ a.mr ↔ runV a.ed j w ∈ a.mr)
 | [],i,j,_,_,_,_,h => h [] (by simp)
 | e :: w,i,j,i0,i1,j0,j1,h => by
   have h1 := hs i j i0 i1 j0 j1 h
   have hn := h1.next i0 j0 e
   rw [runV_cons i0,runV_cons j0]
   have hz := (hn [] (by simp)).1
   simp only [runV] at hz
   rcases hr.next_cases i e with g | ⟨g0,g1,_⟩ <;> rcases hr.next_cases j e with k' | ⟨k0,k1,_⟩
   · rw [g,k']; exact ⟨Iff.rfl,Iff.rfl⟩
   · rw [g] at hz; exact absurd (hz.2 k0) (by decide)
   · rw [k'] at hz; exact absurd (hz.1 g0) (by decide)
   · exact EqK.stable hr hs w _ _ g0 g1 k0 k1 hn
open Classical in
noncomputable def reps (a : Au) (n k : Nat) : List Nat := (List.range n).filter fun s => decide (∀ t : Nat,t < s → ¬ EqK a k t s)
theorem mem_reps {n s : Nat} : s ∈ reps a n k ↔ s < n ∧ ∀ t : Nat,t < s → ¬ EqK a k t s := by simp [reps]
theorem reps_nodup (n : Nat) : (reps a n k).Nodup := List.Pairwise.filter _ List.nodup_range
theorem reps_len (n : Nat) : (reps a n k).length ≤ n := Nat.le_trans (List.length_filter_le _ _) (by simp)
theorem least_nat {P : Nat → Prop} (h : ∃ n,P n) : ∃ n,P n ∧ ∀ m,m < n → ¬ P m := by
 obtain ⟨n,hn⟩ := h
 induction n using Nat.strongRecOn with
 | ind n ih =>
   by_cases g : ∃ m,m < n ∧ P m
   · obtain ⟨m,hm,hp⟩ := g
     exact ih m hm hp
   · exact ⟨n,hn,fun m hm hp => g ⟨m,hm,hp⟩⟩
theorem reps_more {n p q : Nat} (hp : p < n) (hq : q < n) (h1 : EqK a k p q) (h2 : ¬ EqK a (k + 1) p q) : (reps a n k).length + 1 ≤ (reps a n (k + 1)).length := by
 obtain ⟨r,hr,hrm⟩ := least_nat (P := fun t => EqK a k t p) ⟨p,EqK.refl _ _⟩
 have hrp : r ≤ p := Nat.le_of_not_lt fun h => hrm p h (EqK.refl _ _)
 obtain ⟨s,⟨hs1,hs2⟩,hsm⟩ := least_nat (P := fun t => EqK a k t p ∧ ¬ EqK a (k + 1) r t) (by
  by_cases g : EqK a (k + 1) r p
  · exact ⟨q,h1.symm,fun h => h2 (g.symm.trans h)⟩
  · exact ⟨p,EqK.refl _ _,g⟩)
 have hsn : s < n := by
  by_cases g : EqK a (k + 1) r p
  · have : s ≤ q := Nat.le_of_not_lt fun h => hsm q h ⟨h1.symm,fun h => h2 (g.symm.trans h)⟩
    omega
  · have : s ≤ p := Nat.le_of_not_lt fun h => hsm p h ⟨EqK.refl _ _,g⟩
    omega
 have hrs : r < s := by
  rcases Nat.lt_trichotomy r s with g | g | g
  · exact g
  · subst g; exact absurd (EqK.refl _ _) hs2
  · exact absurd hs1 (hrm s g)
 have hnew : s ∈ reps a n (k + 1) := mem_reps.2 ⟨hsn,fun t ht h => by
  have h' : EqK a k t p := (h.less (Nat.le_succ k)).trans hs1
  by_cases g : EqK a (k + 1) r t
  · exact hs2 (g.trans h)
  · exact hsm t ht ⟨h',g⟩⟩
 have hold : ¬ s ∈ reps a n k := fun h => (mem_reps.1 h).2 r hrs (hr.trans hs1.symm)
 have := sub_len (s :: reps a n k) (reps a n (k + 1)) (List.nodup_cons.2 ⟨hold,reps_nodup n⟩) (fun x hx => by
  rcases List.mem_cons.1 hx with g | g
  · rw [g]; exact hnew
  · obtain ⟨h1,h2⟩ := mem_reps.1 g
    exact mem_reps.2 ⟨h1,fun t ht h => h2 t ht (h.less (Nat.le_succ k))⟩)
 simpa using this
theorem Eqv.of_bound (hr : a.Right) {i j : Int} (i0 : 0 ≤ i) (i1 : i < a.n) (j0 : 0 ≤ j) (j1 : j < a.n) (h : ∀ w : List Int,(w.length : Int) < a.n → (0 ≤ runV a.ed i w ↔ 0 ≤ runV a.ed j w) ∧ (runV a.ed i w ∈ a.mr ↔ runV a.ed j w ∈ a.mr)) : Eqv a i j := by
 obtain ⟨n,hn⟩ := Int.eq_ofNat_of_zero_le hr.n0
 have hE : EqK a (n - 1) i j := fun w hw => h w (by omega)
 refine Classical.byContradiction fun hne => ?_
 have hns : ∀ k,k < n → ¬ (∀ i j : Int,0 ≤ i → i < a.n → 0 ≤ j → j < a.n → EqK a k i j → EqK a (k + 1) i j) := fun k hk hs =>
  hne fun w => EqK.stable hr hs w i j i0 i1 j0 j1 (hE.less (by omega))
 have hc : ∀ k,k ≤ n → k + 1 ≤ (reps a n k).length := by
  intro k
  induction k with
  | zero =>
    intro _
    have : 0 ∈ reps a n 0 := mem_reps.2 ⟨by omega,fun t ht => by omega⟩
    exact List.length_pos_of_mem this
  | succ k ih =>
    intro hk
    have h1 := ih (by omega)
    have h2 := hns k (by omega)
    refine Classical.byContradiction fun hlt => h2 fun i j i0 i1 j0 j1 hij => Classical.byContradiction fun hno => hlt ?_
    obtain ⟨p,rfl⟩ := Int.eq_ofNat_of_zero_le i0
    obtain ⟨q,rfl⟩ := Int.eq_ofNat_of_zero_le j0
    have := reps_more (n := n) (p := p) (q := q) (by omega) (by omega) hij hno
    omega
 have h1 := hc n (Nat.le_refl _)
 have h2 := reps_len (a := a) (k := n) n
 omega
end
end
theorem Canon.uniq {c d : List Int} {m k : Nat} (hc : Canon c m) (hd : Canon d k) (hl : c.length = d.length) (h : ∀ i j : Nat,i < c.length → j < c.length → (c[i]? = c[j]? ↔ d[i]? = d[j]?)) : c = d := by
 have key : ∀ i : Nat,i < c.length → c[i]? = d[i]? := by
  intro i
  induction i using Nat.strongRecOn with
  | ind i ih =>
    intro hi
    have hid : i < d.length := by omega
    by_cases hj : ∃ j,j < i ∧ c[j]? = c[i]?
    · obtain ⟨j,hji,hje⟩ := hj
      rw [← hje,ih j hji (by omega)]
      exact (h j i (by omega) hi).1 hje
    · have hx : c[i]? = some c[i] := List.getElem?_eq_getElem hi
      have hy : d[i]? = some d[i] := List.getElem?_eq_getElem hid
      have r1 := hc.rg i _ hx
      have r2 := hd.rg i _ hy
      rw [hx,hy]
      rcases Int.lt_trichotomy c[i] d[i] with g | g | g
      · obtain ⟨t,ht,htd⟩ := hd.cn i _ hy c[i].toNat (by omega)
        refine absurd ⟨t,ht,?_⟩ hj
        rw [ih t ht (by omega),htd,hx]
        congr 1; omega
      · rw [g]
      · obtain ⟨t,ht,htd⟩ := hc.cn i _ hx d[i].toNat (by omega)
        refine absurd ⟨t,ht,?_⟩ hj
        refine (h t i (by omega) hi).2 ?_
        rw [← ih t ht (by omega),htd,hy]
        congr 1; omega
 apply List.ext_getElem?
 intro i
 by_cases hi : i < c.length
 · exact key i hi
 · rw [List.getElem?_eq_none (by omega),List.getElem?_eq_none (by omega)]
def exA : Au := ⟨[0,1],4,[3],[⟨0,0,1⟩,⟨0,1,2⟩,⟨1,0,3⟩,⟨2,0,3⟩]⟩
theorem Eqv.refl (a : Au) (i : Int) : Eqv a i i := fun _ => ⟨Iff.rfl,Iff.rfl⟩
def exC : List Int := [0,1,1,2]
theorem ints_new (w : World) (l : List Int) : IntsAt (w.alloc (.cells (l.map (Value.int .i64)).toArray 3)) (some ⟨w.heap.size,0,none⟩) l := IntsAt.blk l (BlkAt.new w 3 (l.map (Value.int .i64)))
def GivesEx (w : World) (e : Ending) (w' : World) : Prop := ∃ X1 x1 X2 x2 X3 x3,e = .returned (.agg #[.slice X1 2 x1,.int .i64 4,.slice X2 1 x2,.slice X3 4 x3]) ∧ Hid (Sep w.heap.size w [eInts [0,1] (.slice X1 2 x1),eInts [3] (.slice X2 1 x2),eEds exA.ed (.slice X3 4 x3)] w')
section

def stpP (a : Au) (pm : Ed → Bool) (v e : Int) : Int := ((a.ed.find? fun x => decide (x.src = v) && decide (x.ev = e)).bind fun x => if pm x = true then some x.dst else none).getD (-1)
def ev32 : List Int := (List.range 32).map fun k : Nat => (k : Int)
theorem ev32_len : ev32.length = 32 := by simp [ev32]
theorem ev32_get {k : Nat} (h : k < 32) : ev32[k]? = some (k : Int) := by simp [ev32,h]
theorem ev32_incr : incr ev32 := fun i j x y hij hx hy => by
 have h1 := (List.getElem?_eq_some_iff.1 hx).1
 have h2 := (List.getElem?_eq_some_iff.1 hy).1
 rw [ev32_len] at h1 h2
 rw [ev32_get h1] at hx; rw [ev32_get h2] at hy
 cases hx; cases hy; omega
theorem stpP_edge {a : Au} (hr : a.Right) (pm : Ed → Bool) {x : Ed} (hx : x ∈ a.ed) : stpP a pm x.src x.ev = if pm x = true then x.dst else -1 := by
 unfold stpP
 cases hf : a.ed.find? fun y => decide (y.src = x.src) && decide (y.ev = x.ev) with
 | none =>
   have := List.find?_eq_none.1 hf x hx
   simp at this
 | some y =>
   have h1 := List.mem_of_find?_eq_some hf
   have h2 := List.find?_some hf
   simp only [Bool.and_eq_true,decide_eq_true_eq] at h2
   obtain rfl := hr.uniq h1 hx h2.1 h2.2
   by_cases g : pm y = true <;> simp [g]
theorem stpP_none {a : Au} (pm : Ed → Bool) {v e : Int} (h : ∀ x,x ∈ a.ed → x.src = v → x.ev ≠ e) : stpP a pm v e = -1 := by
 unfold stpP
 rw [List.find?_eq_none.2 (fun x hx => by
  simp only [Bool.and_eq_true,decide_eq_true_eq,not_and]
  exact h x hx)]
 rfl
theorem stpP_dead {a : Au} (hr : a.Right) (pm : Ed → Bool) (s e : Int) (h : s = -1) : stpP a pm s e = -1 := stpP_none pm fun x hx hs => by
 have := edge_next hr hx
 omega
structure Ps where
 s : Int
 b : Int
 e : Int
def Ps.cells (v : Ps) : List Value := [.int .i64 v.s,.int .i64 v.b,.int .i64 v.e]
theorem psOne (x : Ps) : ∀ u ∈ Ps.cells x,u.oneCell' = true := fun u hu => by simp [Ps.cells] at hu; rcases hu with rfl | rfl | rfl <;> rfl
def PsE : Reading Ps := fun _ x vs => vs = Ps.cells x
theorem PsE.get {w : World} {A : Option Addr} {l : List Ps} (h : SlAt PsE 3 w A l) {k : Nat} {v : Ps} (hx : l[k]? = some v) : ∃ b off,A = some ⟨b,off,none⟩ ∧ b < w.heap.size ∧
 w.cell? ⟨b,off + k * 3,none⟩ = some (.int .i64 v.s) ∧ w.cell? ⟨b,off + k * 3 + 1,none⟩ = some (.int .i64 v.b) ∧ w.cell? ⟨b,off + k * 3 + 2,none⟩ = some (.int .i64 v.e) := by
 obtain ⟨b,off,y,vs,hA,hlt,hy,_,hE,hc⟩ := SlAt.at h (List.getElem?_eq_some_iff.1 hx).1
 obtain rfl : vs = Ps.cells y := hE
 rw [hx] at hy; cases hy
 exact ⟨b,off,hA,hlt,by simpa using hc 0 _ rfl,hc 1 _ rfl,hc 2 _ rfl⟩
structure PInv (a : Au) (pm : Ed → Bool) (s0 : Int) (wt : Int → Bool) (i k t : Nat) (fs : List Ps) (ws : List (List Int)) : Prop where
 bfs : Bfs (stpP a pm) s0 (fun v => v = -1) ev32 i k (fs.map Ps.s) ws
 lk : Link (fs.map fun v => (v.b,v.e)) ws
 nd : (fs.map Ps.s).Nodup
 rg : ∀ v,v ∈ fs → 0 ≤ v.s ∧ v.s < a.n
 no : ∀ (j : Nat) v,j < t → (fs.map Ps.s)[j]? = some v → wt v = false
section
variable {a : Au} {pm : Ed → Bool} {s0 : Int} {wt : Int → Bool} {i k t : Nat} {fs : List Ps} {ws : List (List Int)}
theorem PInv.start (pm : Ed → Bool) (wt : Int → Bool) (h0 : 0 ≤ s0) (h1 : s0 < a.n) : PInv a pm s0 wt 0 0 0 [⟨s0,-1,-1⟩] [[]] :=
 ⟨Bfs.start,⟨rfl,fun j q hq => by
  have := (List.getElem?_eq_some_iff.1 hq).1
  obtain rfl : j = 0 := by simp at this; omega
  simp at hq; subst hq
  exact ⟨fun _ => rfl,fun h => absurd h (by omega)⟩⟩,by simp,fun v hv => by
  simp at hv; subst hv; exact ⟨h0,h1⟩,fun j v h => absurd h (by omega)⟩
theorem PInv.len (h : PInv a pm s0 wt i k t fs ws) : fs.length ≤ a.n.toNat := by
 have := nodup_lenN a.n.toNat ((fs.map Ps.s).map Int.toNat) (by
  rw [List.nodup_iff_pairwise_ne,List.pairwise_map]
  refine List.Pairwise.imp_of_mem ?_ (List.nodup_iff_pairwise_ne.1 h.nd)
  intro p q hp hq hne hc
  obtain ⟨v,hv,rfl⟩ := List.mem_map.1 hp
  obtain ⟨u,hu,rfl⟩ := List.mem_map.1 hq
  have := h.rg v hv
  have := h.rg u hu
  omega) (fun x hx => by
  obtain ⟨q,hq,rfl⟩ := List.mem_map.1 hx
  obtain ⟨v,hv,rfl⟩ := List.mem_map.1 hq
  have := h.rg v hv
  omega)
 simpa using this
theorem PInv.skip (h : PInv a pm s0 wt i k t fs ws) {v : Ps} (hv : fs[i]? = some v) (hk : k < 32) (hs : stpP a pm v.s k = -1 ∨ stpP a pm v.s k ∈ fs.map Ps.s) : PInv a pm s0 wt i (k + 1) t fs ws :=
 ⟨h.bfs.skip ev32_incr (v := v.s) (by rw [List.getElem?_map,hv]; rfl) (ev32_get hk) (by
  rcases hs with g | g
  · exact .inl g
  · obtain ⟨j,hj,e⟩ := List.mem_iff_getElem.1 g
    exact .inr ⟨j,by rw [List.getElem?_eq_getElem hj,e]⟩),h.lk,h.nd,h.rg,h.no⟩
theorem PInv.skips (h : PInv a pm s0 wt i k t fs ws) {v : Ps} (hv : fs[i]? = some v) : ∀ k' : Nat,k ≤ k' → k' ≤ 32 → (∀ e : Nat,k ≤ e → e < k' → stpP a pm v.s e = -1) → PInv a pm s0 wt i k' t fs ws := by
 intro k'
 induction k' with
 | zero =>
   intro h1 _ _
   have e : k = 0 := by omega
   rw [e] at h; exact h
 | succ k' ih =>
   intro h1 h2 h3
   by_cases g : k ≤ k'
   · exact (ih g (by omega) fun e g1 g2 => h3 e g1 (by omega)).skip hv (by omega) (.inl (h3 k' g (by omega)))
   · obtain rfl : k = k' + 1 := by omega
     exact h
theorem PInv.push (h : PInv a pm s0 wt i k t fs ws) (ht : t ≤ fs.length) {v : Ps} (hv : fs[i]? = some v) (hk : k < 32) {d : Int} (hs : stpP a pm v.s k = d) (hd : 0 ≤ d ∧ d < a.n) (hm : ¬ d ∈ fs.map Ps.s) :
 ∃ ws',PInv a pm s0 wt i (k + 1) t (fs ++ [⟨d,i,k⟩]) ws' := by
 have hv' : (fs.map Ps.s)[i]? = some v.s := by rw [List.getElem?_map,hv]; rfl
 obtain ⟨wi,hwi⟩ := h.bfs.word hv'
 refine ⟨ws ++ [wi ++ [(k : Int)]],?_,?_,?_,fun u hu => ?_,fun j u hj hu => ?_⟩
 · rw [List.map_append]
   have := h.bfs.push ev32_incr hv' (ev32_get hk) hwi
   rw [hs] at this
   exact this
 · rw [List.map_append]
   exact h.lk.push (k : Int) hwi
 · rw [List.map_append]
   exact List.nodup_append.2 ⟨h.nd,by simp,fun p hp q hq => by
    simp at hq
    rintro rfl
    exact hm (by rw [← hq]; exact hp)⟩
 · rcases List.mem_append.1 hu with g | g
   · exact h.rg u g
   · simp at g; subst g; exact hd
 · rw [List.map_append,List.getElem?_append_left (by simp; omega)] at hu
   exact h.no j u hj hu
theorem PInv.next (h : PInv a pm s0 wt i 32 t fs ws) : PInv a pm s0 wt (i + 1) 0 t fs ws := ⟨by have h1 := h.bfs; rw [← ev32_len] at h1; exact h1.next,h.lk,h.nd,h.rg,h.no⟩
theorem PInv.test (h : PInv a pm s0 wt i k i fs ws) {v : Ps} (hv : fs[i]? = some v) (hp : wt v.s = false) : PInv a pm s0 wt i k (i + 1) fs ws :=
 ⟨h.bfs,h.lk,h.nd,h.rg,fun j u hj hu => by
  by_cases e : j = i
  · subst e
    rw [List.getElem?_map,hv] at hu
    cases hu; exact hp
  · exact h.no j u (by omega) hu⟩
def PEd (a : Au) (pm : Ed → Bool) (s0 : Int) (wt : Int → Bool) (i t : Nat) (s : Nat) (fs : List Ps) (ws : List (List Int)) : Prop :=
 ∃ k,k ≤ 32 ∧ PInv a pm s0 wt i k (i + 1) fs ws ∧ (∀ (q : Nat) x,t ≤ q → (outOf a.ed s)[q]? = some x → (k : Int) ≤ x.ev) ∧ ∀ (q : Nat) x,q < t → (outOf a.ed s)[q]? = some x → x.ev < k
theorem PEd.start (hr : a.Right) {s : Nat} (h : PInv a pm s0 wt i 0 (i + 1) fs ws) : PEd a pm s0 wt i 0 s fs ws :=
 ⟨0,by omega,h,fun q x _ hx => (hr.ev (mem_outOf.1 (List.mem_of_getElem? hx)).1).1,fun q x hq => absurd hq (by omega)⟩
theorem PEd.at (hr : a.Right) {s : Nat} (h : PEd a pm s0 wt i t s fs ws) {v : Ps} (hv : fs[i]? = some v) (hs : v.s = s) {x : Ed} (hx : (outOf a.ed s)[t]? = some x) : PInv a pm s0 wt i x.ev.toNat (i + 1) fs ws ∧ x.ev.toNat < 32 ∧ (x.ev.toNat : Int) = x.ev := by
 obtain ⟨k,hk,h1,h2,h3⟩ := h
 have he := hr.ev (mem_outOf.1 (List.mem_of_getElem? hx)).1
 have hkx := h2 t x (Nat.le_refl _) hx
 have hR := outOf_rises hr s
 refine ⟨h1.skips hv _ (by omega) (by omega) fun e g1 g2 => ?_,by omega,by omega⟩
 refine stpP_none pm fun y hy hys hye => ?_
 have hm : y ∈ outOf a.ed s := mem_outOf.2 ⟨hy,hys.trans hs⟩
 obtain ⟨q,hq,rfl⟩ := List.mem_iff_getElem.1 hm
 have hqg : (outOf a.ed s)[q]? = some (outOf a.ed s)[q] := List.getElem?_eq_getElem hq
 rcases Nat.lt_trichotomy q t with g | g | g
 · have := h3 q _ g hqg; omega
 · subst g; rw [hx] at hqg; have := Option.some.inj hqg; rw [← this] at hye; omega
 · have := hR t q _ _ g hx hqg; omega
theorem PEd.step (hr : a.Right) {s : Nat} {x : Ed} (hx : (outOf a.ed s)[t]? = some x) (h : PInv a pm s0 wt i (x.ev.toNat + 1) (i + 1) fs ws) : PEd a pm s0 wt i (t + 1) s fs ws := by
 have he := hr.ev (mem_outOf.1 (List.mem_of_getElem? hx)).1
 have hR := outOf_rises hr s
 refine ⟨x.ev.toNat + 1,by omega,h,fun q y hq hy => ?_,fun q y hq hy => ?_⟩
 · have := hR t q _ _ (by omega) hx hy; omega
 · by_cases e : q = t
   · subst e; rw [hx] at hy; cases hy; omega
   · have := hR q t _ _ (by omega) hy hx; omega
theorem PEd.old (hr : a.Right) {s : Nat} (h : PEd a pm s0 wt i t s fs ws) {v : Ps} (hv : fs[i]? = some v) (hs : v.s = s) {x : Ed} (hx : (outOf a.ed s)[t]? = some x) (hno : x.dst ∈ fs.map Ps.s ∨ pm x = false) : PEd a pm s0 wt i (t + 1) s fs ws := by
 obtain ⟨h1,h2,h3⟩ := h.at hr hv hs hx
 obtain ⟨m1,m2⟩ := mem_outOf.1 (List.mem_of_getElem? hx)
 have he := stpP_edge hr pm m1
 refine PEd.step hr hx (h1.skip hv h2 ?_)
 rw [h3,hs,← m2,he]
 rcases hno with g | g
 · by_cases e : pm x = true
   · rw [if_pos e]; exact .inr g
   · rw [if_neg e]; exact .inl rfl
 · rw [if_neg (by simp [g])]; exact .inl rfl
theorem PEd.new (hr : a.Right) {s : Nat} (h : PEd a pm s0 wt i t s fs ws) {v : Ps} (hv : fs[i]? = some v) (hs : v.s = s) {x : Ed} (hx : (outOf a.ed s)[t]? = some x) (hm : ¬ x.dst ∈ fs.map Ps.s) (hp : pm x = true) : ∃ ws',PEd a pm s0 wt i (t + 1) s (fs ++ [⟨x.dst,i,x.ev⟩]) ws' := by
 obtain ⟨h1,h2,h3⟩ := h.at hr hv hs hx
 obtain ⟨m1,m2⟩ := mem_outOf.1 (List.mem_of_getElem? hx)
 have he := stpP_edge hr pm m1
 rw [if_pos hp] at he
 have hd := edge_next hr m1
 obtain ⟨ws',h4⟩ := h1.push (by have := (List.getElem?_eq_some_iff.1 hv).1; omega) hv h2 (d := x.dst) (by rw [h3,hs,← m2,he]) ⟨hd.2.2.2.1,hd.2.2.2.2⟩ hm
 rw [h3] at h4
 exact ⟨ws',PEd.step hr hx h4⟩
theorem PEd.fin (hr : a.Right) {s : Nat} (h : PEd a pm s0 wt i (outOf a.ed s).length s fs ws) {v : Ps} (hv : fs[i]? = some v) (hs : v.s = s) : PInv a pm s0 wt (i + 1) 0 (i + 1) fs ws := by
 obtain ⟨k,hk,h1,h2,h3⟩ := h
 refine PInv.next (h1.skips hv 32 hk (Nat.le_refl _) fun e g1 g2 => ?_)
 refine stpP_none pm fun y hy hys hye => ?_
 have hm : y ∈ outOf a.ed s := mem_outOf.2 ⟨hy,hys.trans hs⟩
 obtain ⟨q,hq,rfl⟩ := List.mem_iff_getElem.1 hm
 have := h3 q _ hq (List.getElem?_eq_getElem hq)
 omega
end
def PthW (a : Au) (pm : Ed → Bool) (s0 : Int) (wt : Int → Bool) (f : Bool) (l : List Int) : Prop :=
 f = true ∧ LeastW (LeadsTo (stpP a pm) s0 ev32 (fun v => 0 ≤ v ∧ wt v = true)) l ∨ f = false ∧ l = [] ∧ ∀ u,¬ LeadsTo (stpP a pm) s0 ev32 (fun v => 0 ≤ v ∧ wt v = true) u
theorem PInv.least {a : Au} {pm : Ed → Bool} {s0 : Int} {wt : Int → Bool} {i k : Nat} {fs : List Ps} {ws : List (List Int)} (hr : a.Right) (h : PInv a pm s0 wt i k i fs ws) {v : Ps} {w : List Int} (hv : fs[i]? = some v) (hw : ws[i]? = some w) (hp : wt v.s = true) : LeastW (LeadsTo (stpP a pm) s0 ev32 (fun v => 0 ≤ v ∧ wt v = true)) w :=
 h.bfs.least (fun s e hs => stpP_dead hr pm s e hs) (fun s hs hq => by omega) (fun j u hj hu hq => by rw [h.no j u hj hu] at hq; cases hq.2) (by rw [List.getElem?_map,hv]; rfl) hw ⟨(h.rg v (List.mem_of_getElem? hv)).1,hp⟩
theorem PInv.none_ {a : Au} {pm : Ed → Bool} {s0 : Int} {wt : Int → Bool} {k : Nat} {fs : List Ps} {ws : List (List Int)} (hr : a.Right) (h : PInv a pm s0 wt fs.length k fs.length fs ws) (u : List Int) : ¬ LeadsTo (stpP a pm) s0 ev32 (fun v => 0 ≤ v ∧ wt v = true) u :=
 h.bfs.none_ (fun s e hs => stpP_dead hr pm s e hs) (fun s hs hq => by omega) (by simp) (fun j u hu hq => by
  have hj := (List.getElem?_eq_some_iff.1 hu).1
  rw [h.no j u (by simpa using hj) hu] at hq; cases hq.2) u
end
def mkI (n : Nat) (f : Nat → Int) : List Value := (List.range n).map fun s => .int .i64 (f s)
theorem mkI_get {n : Nat} {f : Nat → Int} {s : Nat} (h : s < n) : (mkI n f)[s]? = some (.int .i64 (f s)) := by simp [mkI,h]
theorem mkI_rep (n : Nat) (x : Int) : List.replicate n (Value.int .i64 x) = mkI n fun _ => x := by
 apply List.ext_getElem?
 intro i
 by_cases h : i < n
 · rw [mkI_get h,List.getElem?_replicate,if_pos h]
 · simp [mkI,h]
theorem mkI_set {n : Nat} {f : Nat → Int} (s : Nat) (x : Int) : (mkI n f).set s (.int .i64 x) = mkI n fun t => if t = s then x else f t := by
 apply List.ext_getElem?
 intro i
 rw [List.getElem?_set]
 by_cases h : i < n
 · rw [mkI_get (f := fun t => if t = s then x else f t) h]
   by_cases e : s = i
   · subst e
     rw [if_pos rfl,if_pos (by simpa [mkI] using h),if_pos rfl]
   · rw [if_neg e,mkI_get h,if_neg (fun g => e g.symm)]
 · have h1 : ∀ q : Nat → Int,(mkI n q)[i]? = none := fun q => by simp [mkI]; omega
   rw [h1,h1]
   split
   · rw [if_neg (by simp [mkI]; omega)]
   · rfl
theorem mkI_congr {n : Nat} {f g : Nat → Int} (h : ∀ s,s < n → f s = g s) : mkI n f = mkI n g := by
 unfold mkI
 refine List.map_congr_left fun s hs => ?_
 rw [h s (by simpa using hs)]

def rowsE (n : Nat) (ls : Nat → List Int) (vs : Nat → Value) : List Ent := (List.range n).map fun s => eInts (ls s) (vs s)
def upd {α : Type} (f : Nat → α) (s : Nat) (x : α) : Nat → α := fun t => if t = s then x else f t
theorem upd_same {α : Type} (f : Nat → α) (s : Nat) (x : α) : upd f s x s = x := if_pos rfl
theorem upd_other {α : Type} {f : Nat → α} {s t : Nat} {x : α} (h : t ≠ s) : upd f s x t = f t := if_neg h
theorem rowsE_get {A : List Ent} {n : Nat} {ls : Nat → List Int} {vs : Nat → Value} {s : Nat} (h : s < n) : (A ++ rowsE n ls vs)[A.length + s]? = some (eInts (ls s) (vs s)) := by
 rw [List.getElem?_append_right (by omega),Nat.add_sub_cancel_left]
 simp [rowsE,h]
theorem rowsE_set {A : List Ent} {n : Nat} {ls : Nat → List Int} {vs : Nat → Value} {s : Nat} (h : s < n) (l : List Int) (v : Value) :
 (A ++ rowsE n ls vs).set (A.length + s) (eInts l v) = A ++ rowsE n (upd ls s l) (upd vs s v) := by
 rw [List.set_append_right _ _ (by omega),Nat.add_sub_cancel_left]
 congr 1
 apply List.ext_getElem?
 intro i
 rw [List.getElem?_set]
 unfold rowsE
 by_cases e : s = i
 · subst e
   rw [if_pos rfl,if_pos (by simpa using h)]
   simp [h,upd]
 · rw [if_neg e]
   have e' : i ≠ s := fun g => e g.symm
   by_cases hi : i < n
   · simp [hi,upd,e']
   · simp [hi]
theorem rowsV_set {n : Nat} {vs : Nat → Value} {s : Nat} (h : s < n) (v : Value) : ((List.range n).map vs).set s v = (List.range n).map (upd vs s v) := by
 apply List.ext_getElem?
 intro i
 rw [List.getElem?_set]
 by_cases e : s = i
 · subst e
   rw [if_pos rfl,if_pos (by simpa using h)]
   simp [h,upd]
 · rw [if_neg e]
   have e' : i ≠ s := fun g => e g.symm
   by_cases hi : i < n
   · simp [hi,upd,e']
   · simp [hi]
theorem rowsV_get {n : Nat} {vs : Nat → Value} {s : Nat} (h : s < n) : ((List.range n).map vs)[s]? = some (vs s) := by simp [h]
theorem rowsV_rep (n : Nat) (v : Value) : List.replicate n v = (List.range n).map fun _ => v := by
 apply List.ext_getElem?
 intro i
 by_cases h : i < n
 · rw [rowsV_get h,List.getElem?_replicate,if_pos h]
 · simp [h]
theorem Sep.rows {n : Nat} {w0 w : World} {es : List Ent} (S : Sep n w0 es w) (k : Nat) : Sep n w0 (es ++ rowsE k (fun _ => []) (fun _ => .slice none 0 0)) w := by
 have hf : ∀ e,e ∈ rowsE k (fun _ => []) (fun _ => .slice none 0 0) → e = eInts [] (.slice none 0 0) := fun e he => by
  obtain ⟨s,_,rfl⟩ := List.mem_map.1 he; rfl
 refine ⟨S.fro,fun e he => ?_,fun e he g hg => ?_,List.pairwise_append.2 ⟨S.ap,?_,fun a ha b hb g h1 h2 => ?_⟩⟩
 · rcases List.mem_append.1 he with h | h
   · exact S.ok e h
   · rw [hf e h]; exact Own.nil w
 · rcases List.mem_append.1 he with h | h
   · exact S.ge e h g hg
   · rw [hf e h] at hg; simp [eOwn,Value.ownBlock] at hg
 · refine List.Pairwise.imp_of_mem (R := fun _ _ => True) (fun {a b} ha hb _ g h1 => ?_) (List.pairwise_of_forall (by simp))
   rw [hf a ha] at h1; simp [eOwn,Value.ownBlock] at h1
 · rw [hf b hb] at h2; simp [eOwn,Value.ownBlock] at h2
theorem Sep.left {n : Nat} {w0 w : World} {es es' : List Ent} (S : Sep n w0 (es ++ es') w) : Sep n w0 es w := S.app.1
end Go.Proofs.YtimdepdbcdbikaaGreat
