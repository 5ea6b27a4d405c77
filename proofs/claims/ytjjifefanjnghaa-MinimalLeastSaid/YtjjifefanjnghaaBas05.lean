/-
  minimal.edges: the edges of each state.
  minimal.classes: its two keys.
-/
import Derived.Test.YtjjifefanjnghaaBas01
import Derived.Test.YtjjifefanjnghaaBas04
import Derived.StillTailTactics
import Derived.Deep.DeepCutAuto
import Derived.Deep.CutBlock
import Derived.Laws.BytesArg
set_option linter.unusedSimpArgs false
set_option linter.unusedVariables false
namespace Go.Proofs.Ytjjifefanjnghaa
open Go.RowKit
set_option maxRecDepth 100000
theorem SlAt.sub {α : Type} {E : Reading α} {k : Nat} {w : World} {b off : Nat} {l : List α} (h : SlAt E k w (some ⟨b,off,none⟩) l) (i j : Nat) : SlAt E k w (some ⟨b,off + i * k,none⟩) ((l.take j).drop i) := by
 intro hne
 have hne' : l ≠ [] := by rintro rfl; simp at hne
 obtain ⟨b',o',e,hb,hr⟩ := h hne'
 cases e
 refine ⟨b,off + i * k,rfl,hb,fun t x hx => ?_⟩
 rw [List.getElem?_drop] at hx
 have hx' : l[i + t]? = some x := by
  rw [List.getElem?_take] at hx
  split at hx
  · exact hx
  · cases hx
 obtain ⟨vs,h1,h2,h3⟩ := hr (i + t) x hx'
 refine ⟨vs,h1,h2,fun q v hq => ?_⟩
 have := h3 q v hq
 rw [show off + i * k + t * k + q = off + (i + t) * k + q by rw [Nat.add_mul]; omega]
 exact this
structure EdgRow (w : World) (l : List Ed) (n : Nat) (vs : List Value) : Prop where
 len : vs.length = n
 row : ∀ s,s < n → ∃ A c,vs[s]? = some (.slice A (outOf l s).length c) ∧ EdsAt w A (outOf l s) ∧ (outOf l s).length ≤ c
theorem EdgRow.nil (w : World) (n : Nat) : EdgRow w [] n (List.replicate n (.slice none 0 0)) :=
 ⟨by simp,fun s hs => ⟨none,0,by rw [List.getElem?_replicate,if_pos hs]; rfl,SlAt.nil,by simp [outOf]⟩⟩
def Brk (ed : List Ed) (k : Nat) : Prop := ∀ (i j : Nat) x y,i < k → k ≤ j → ed[i]? = some x → ed[j]? = some y → x.src < y.src
theorem outOf_take {ed : List Ed} {k t s : Nat} (hk : k ≤ t) (hb : Brk ed k) (hk2 : ∃ x,ed[k]? = some x ∧ x.src = (s : Int)) (hs : ∀ i x,k ≤ i → i < t → ed[i]? = some x → x.src = (s : Int)) (u : Nat) :
 outOf (ed.take t) u = if u = s then (ed.take t).drop k else outOf (ed.take k) u := by
 have e1 : ed.take t = ed.take k ++ (ed.take t).drop k := by
  conv => lhs; rw [← List.take_append_drop k (ed.take t)]
  rw [List.take_take,Nat.min_eq_left hk]
 have m1 : ∀ x,x ∈ (ed.take t).drop k → x.src = (s : Int) := fun x hx => by
  obtain ⟨i,hi,rfl⟩ := List.mem_iff_getElem.1 hx
  have hi' : (ed.take t)[k + i]? = some ((ed.take t).drop k)[i] := by
   rw [← List.getElem?_drop]; exact List.getElem?_eq_getElem hi
  rw [List.getElem?_take] at hi'
  split at hi'
  · rename_i h; exact hs (k + i) _ (by omega) h hi'
  · cases hi'
 have m2 : ∀ x,x ∈ ed.take k → x.src < (s : Int) := fun x hx => by
  obtain ⟨i,hi,rfl⟩ := List.mem_iff_getElem.1 hx
  have hil : i < k := by rw [List.length_take] at hi; omega
  obtain ⟨y,hy,hys⟩ := hk2
  have hi' : ed[i]? = some (ed.take k)[i] := by
   have := List.getElem?_eq_getElem hi
   rw [List.getElem?_take,if_pos hil] at this
   exact this
  have := hb i k _ y hil (Nat.le_refl _) hi' hy
  omega
 rw [e1]
 unfold outOf
 rw [List.filter_append]
 by_cases hu : u = s
 · subst hu
   rw [if_pos rfl,List.filter_eq_nil_iff.2 (fun x hx => by have := m2 x hx; simp; omega),List.nil_append,List.filter_eq_self.2 (fun x hx => by simpa using m1 x hx)]
   rw [← e1]
 · have m3 : ((ed.take t).drop k).filter (fun x => decide (x.src = (u : Int))) = [] := List.filter_eq_nil_iff.2 (fun x hx => by have := m1 x hx; simp; omega)
   rw [if_neg hu,m3,List.append_nil]
theorem Brk.next {ed : List Ed} (hl : ∀ (i j : Nat) x y,i < j → ed[i]? = some x → ed[j]? = some y → x.src ≤ y.src) {k t : Nat} {s : Int} (hb : Brk ed k) (hk2 : ∃ x,ed[k]? = some x ∧ x.src = s) (hkt : k < t) (hs : ∀ i x,k ≤ i → i < t → ed[i]? = some x → x.src = s)
 (he : t = ed.length ∨ ∃ y,ed[t]? = some y ∧ y.src ≠ s) : Brk ed t := by
 intro i j x y hi hj hx hy
 have hjl := (List.getElem?_eq_some_iff.1 hy).1
 rcases he with rfl | ⟨z,hz,hzs⟩
 · omega
 · obtain ⟨q,hq,hqs⟩ := hk2
   have h1 : x.src ≤ s := by
    by_cases h : i < k
    · have := hb i k x q h (Nat.le_refl _) hx hq; omega
    · exact Int.le_of_eq (hs i x (by omega) hi hx)
   have h2 : s < z.src := by
    have := hl k t q z hkt hq hz; omega
   have h3 : z.src ≤ y.src := by
    by_cases h : t = j
    · subst h; rw [hz] at hy; cases hy; exact Int.le_refl _
    · exact hl t j z y (by omega) hz hy
   omega
theorem EdgRow.set {w : World} {ed : List Ed} {n : Nat} {vs : List Value} {k t s : Nat} (h : EdgRow w (ed.take k) n vs) (hkt : k < t) (htl : t ≤ ed.length) (hb : Brk ed k) (hk2 : ∃ x,ed[k]? = some x ∧ x.src = (s : Int)) (hs : ∀ i x,k ≤ i → i < t → ed[i]? = some x → x.src = (s : Int))
 {b off c : Nat} (hE : EdsAt w (some ⟨b,off,none⟩) ed) (hc : ed.length ≤ c) : EdgRow w (ed.take t) n (vs.set s (.slice (some ⟨b,off + k * 3,none⟩) (t - k) (c - k))) := by
 refine ⟨by simp [h.len],fun u hu => ?_⟩
 rw [outOf_take (by omega) hb hk2 hs u]
 by_cases e : u = s
 · subst e
   rw [if_pos rfl,List.getElem?_set_self (by rw [h.len]; exact hu)]
   have hl : ((ed.take t).drop k).length = t - k := by rw [List.length_drop,List.length_take]; omega
   exact ⟨_,_,by rw [hl],hE.sub k t,by rw [hl]; omega⟩
 · rw [if_neg e,List.getElem?_set_ne (fun g => e g.symm)]
   exact h.row u hu
theorem rowsInfo : (Try.prog.info? 23).map (fun i => (i.zero,i.size,i.bytes)) = some (some (.slice none 0 0),1,24) := by kernel_rfl
def GivesE (a : Au) (p : AuP) (n : Nat) (w : World) (e : Ending) (w' : World) : Prop := ∃ g vs,e = .returned (.slice (some ⟨g,0,none⟩) n n) ∧ Hid (Sep w.heap.size w [eBlk g 23 vs] w') ∧ Hid (∀ V,EdsAt V p.A3 a.ed → EdgRow V a.ed n vs)
set_option maxHeartbeats 2000000 in
theorem edges_c (a : Au) (p : AuP) (w : World) (hr : a.Right) (hc : Caps a p) (hA : Au.At w a p) :
 Calls Try.prog 58 #[a.val p] w (GivesE a p a.n.toNat w) := by
 have HSR : Hid (∀ (i : Nat) x,a.ed[i]? = some x → 0 ≤ x.src ∧ x.src < a.n) := fun i x hx => ⟨(hr.edge hx).1,(hr.edge hx).2.1⟩
 have HLE : Hid (∀ (i j : Nat) x y,i < j → a.ed[i]? = some x → a.ed[j]? = some y → x.src ≤ y.src) := fun i j x y hij hx hy => by rcases hr.lex i j x y hij hx hy with h | h <;> omega
 have h0 := hr.n0
 have hn := hr.n1
 obtain ⟨al,n,mr,ed⟩ := a
 obtain ⟨A1,c1,A2,c2,A3,c3⟩ := p
 obtain ⟨N,rfl⟩ := Int.eq_ofNat_of_zero_le h0
 have HA := Lib.hid hA.ed
 have hel := hA.led
 have hcap := hc.c3
 dsimp only at HSR HLE hel hn h0 HA hcap ⊢
 have hmk := make_run (P := Try.prog) 89 23 (.slice none 0 0) 24 Try.underlying89 rowsInfo rfl N (by omega) (by omega)
 clear hr hA h0 hc
 rw [Int.toNat_natCast]
 go_enter Try.func58,Try.ntmps58
 go_wp2_with fail
 refine wp_world (fun W => Sep w.heap.size w [eBlk (w.heap.size + 1) 23 (List.replicate N (.slice none 0 0)),eBlk w.heap.size 25 [.slice A1 al.length c1,.int .i64 N,.slice A2 mr.length c2,.slice A3 ed.length c3]] W) ?_ fun W S0 => ?_
 · exact ((Sep.here w).alloc' _ [_,_,_,_] rfl rfl).alloc' _ _ rfl (by simp)
 clear hmk
 go_loopw [4] (fun i wr => ∃ (k : Nat) (vs : List Value),i = .int .i64 k ∧ k ≤ ed.length ∧ Hid (Brk ed k) ∧ Hid (∀ V,EdsAt V A3 ed → EdgRow V (ed.take k) N vs) ∧ Hid (Sep w.heap.size w [eBlk (w.heap.size + 1) 23 vs,eBlk w.heap.size 25 [.slice A1 al.length c1,.int .i64 N,.slice A2 mr.length c2,.slice A3 ed.length c3]] wr)) (fun i _ => ed.length - (intOf i).toNat)
 case atStart => exact ⟨0,_,rfl,Nat.zero_le _,fun i j x y hi => by omega,fun V _ => EdgRow.nil V N,S0⟩
 case round =>
  clear S0
  obtain ⟨k,vs,rfl,hk,HB,HV,S⟩ := hrel
  have b3 := ckC S.out 1 rfl 3 rfl
  by_cases hlt : k < ed.length
  · obtain ⟨b,off,x,hAe,hb,hx,k0,_,_⟩ := EdsAt.at (HA.out.below EdE.stays S.out.below) hlt
    subst hAe
    obtain ⟨s,src0⟩ := Int.eq_ofNat_of_zero_le (HSR.out k x hx).1
    have hsN : s < N := by have := (HSR.out k x hx).2; omega
    have HK : Hid (∃ x,ed[k]? = some x ∧ x.src = (s : Int)) := ⟨x,hx,src0⟩
    rw [src0] at k0
    clear hx src0 hb
    go_upto_block 2 with fail
    go_cut [5] (fun v wx => ∃ t : Nat,v = .int .i64 t ∧ k < t ∧ t ≤ ed.length ∧ Hid (∀ i x,k ≤ i → i < t → ed[i]? = some x → x.src = (s : Int)) ∧ Hid (t = ed.length ∨ ∃ y,ed[t]? = some y ∧ y.src ≠ (s : Int)) ∧ Hid (Sep w.heap.size w [eBlk (w.heap.size + 1) 23 vs,eBlk w.heap.size 25 [.slice A1 al.length c1,.int .i64 N,.slice A2 mr.length c2,.slice (some ⟨b,off,none⟩) ed.length c3]] wx))
    case first =>
     go_wp2_with fail
     go_loopw [5] (fun i wx => ∃ t : Nat,i = .int .i64 t ∧ k ≤ t ∧ t ≤ ed.length ∧ Hid (∀ i x,k ≤ i → i < t → ed[i]? = some x → x.src = (s : Int)) ∧ Hid (Sep w.heap.size w [eBlk (w.heap.size + 1) 23 vs,eBlk w.heap.size 25 [.slice A1 al.length c1,.int .i64 N,.slice A2 mr.length c2,.slice (some ⟨b,off,none⟩) ed.length c3]] wx)) (fun i _ => ed.length - (intOf i).toNat)
     case atStart => exact ⟨k,rfl,Nat.le_refl _,hk,fun i x h1 h2 => by omega,S.out⟩
     case round =>
      clear b3 k0
      obtain ⟨t,rfl,hkt,htl,HT,S2⟩ := hrel
      have b3 := ckC S2.out 1 rfl 3 rfl
      obtain ⟨x,hx,k0,_,_⟩ := EdsAt.more (HA.out.below EdE.stays S2.out.below) hlt
      obtain ⟨y,hy,hys⟩ := HK.out
      rw [hx] at hy; cases hy
      rw [hys] at k0
      clear hx hys
      by_cases htt : t < ed.length
      · obtain ⟨y,hy,t0,_,_⟩ := EdsAt.more (HA.out.below EdE.stays S2.out.below) htt
        obtain ⟨u,hu⟩ := Int.eq_ofNat_of_zero_le (HSR.out t y hy).1
        rw [hu] at t0
        by_cases hus : u = s
        · subst hus
          have HT2 : Hid (∀ i x,k ≤ i → i < t + 1 → ed[i]? = some x → x.src = (u : Int)) := fun i z h1 h2 hz => by
           by_cases e : i = t
           · subst e; rw [hy] at hz; cases hz; exact hu
           · exact HT.out i z h1 (by omega) hz
          clear hy hu
          go_wp2_with fail
          go_quiet (fail)
          go_wp2_with fail
          go_roundw
          case rel => exact ⟨t + 1,by go_num,by omega,by omega,HT2.out,S2.out.draws _⟩
          case measure => simp [intOf]; omega
        · have KT : Hid (k < t) := by
           rcases Nat.lt_or_eq_of_le hkt with h | h
           · exact h
           · subst h
             obtain ⟨z,hz,hzs⟩ := HK.out
             rw [hy] at hz; cases hz
             omega
          have HE : Hid (t = ed.length ∨ ∃ y,ed[t]? = some y ∧ y.src ≠ (s : Int)) := .inr ⟨y,hy,by omega⟩
          have hus' : ((u : Int) == (s : Int)) = false := by simp; omega
          clear hy hu
          go_wp2_with fail
          go_quiet (fail)
          go_wp2_with fail
          go_meet
          exact ⟨t,rfl,KT.out,htl,HT.out,HE.out,S2.out.draws _⟩
      · have KT : Hid (k < t) := by simp only [Hid]; omega
        have HE : Hid (t = ed.length ∨ ∃ y,ed[t]? = some y ∧ y.src ≠ (s : Int)) := .inl (by omega)
        have htt' : decide ((t : Int) < (ed.length : Int)) = false := by simp; omega
        go_wp2_with fail
        go_quiet (fail)
        go_wp2_with fail
        go_meet
        exact ⟨t,rfl,KT.out,htl,HT.out,HE.out,S2.out.draws _⟩
    case rest =>
     clear b3 k0 S
     obtain ⟨t,rfl,hkt,htl,HT,HE,S4⟩ := hcut
     have HB2 := Lib.hid (HB.out.next HLE.out HK.out hkt HT.out HE.out)
     have HV2 : Hid (∀ V,EdsAt V (some ⟨b,off,none⟩) ed → EdgRow V (ed.take t) N (vs.set s (.slice (some ⟨b,off + k * 3,none⟩) (t - k) (c3 - k)))) := fun V hV => (HV.out V hV).set hkt htl HB.out HK.out HT.out hV hcap
     obtain ⟨ov,hov⟩ : ∃ ov,vs[s]? = some ov := ⟨_,List.getElem?_eq_getElem (by rw [(HV.out w HA.out).len]; exact hsN)⟩
     have HOV := Lib.hid hov
     have hcc : ¬ c3 = k := by omega
     have hk1 : k ≤ t := by omega
     have hk2 : t ≤ c3 := by omega
     clear hov HB HV HT HE
     go_wp2_with fail
     have S1 := Lib.hid S4.out.drew
     refine wp_region_held_drew (S := (fun V => Sep w.heap.size w [eBlk w.heap.size 25 [.slice A1 al.length c1,.int .i64 N,.slice A2 mr.length c2,.slice (some ⟨b,off,none⟩) ed.length c3]] V)) (by kernel_rfl) ?_ (fun hHeld => ?_)
     · exact S1.out.pick [1] (by decide)
     generalize hwz : wc.drew = w1 at *
     clear hwz
     refine tkP 0 rfl hHeld ?_
     try simp only [sx]
     refine tkP 1 rfl hHeld ?_
     try simp only [sx]
     refine tkH 2 rfl (v := ?_) (by kernel_rfl) ?_ hHeld ?_
     rotate_left
     · intro V hSw
       have b3 := ckC hSw 0 rfl 3 rfl
       clear hSw
       first | (go_simp; done) | (go_simp; with_reducible rfl)
     try simp only [sx]
     refine tkP 3 rfl hHeld ?_
     try simp only [sx]
     refine tkP 4 rfl hHeld ?_
     try simp only [sx]
     refine tkP 5 rfl hHeld ?_
     try simp only [sx]
     refine tkH 6 rfl (v := ?_) (by kernel_rfl) ?_ hHeld ?_
     rotate_left
     · intro V hSw
       obtain ⟨x,hx,k0,_,_⟩ := EdsAt.more (HA.out.below EdE.stays (Sep.below (show Sep w.heap.size w _ V from hSw))) hlt
       obtain ⟨z,hz,hzs⟩ := HK.out
       rw [hx] at hz; cases hz
       rw [hzs] at k0
       clear hSw
       first | (go_simp; done) | (go_simp; with_reducible rfl)
     try simp only [sx]
     refine tkP 7 rfl hHeld ?_
     try simp only [sx]
     refine tkH 8 rfl (v := ?_) (by kernel_rfl) ?_ hHeld ?_
     rotate_left
     · intro V hSw
       have b3 := ckC hSw 0 rfl 3 rfl
       clear hSw
       first | (go_simp; done) | (go_simp; with_reducible rfl)
     try simp only [sx]
     refine tkP 9 rfl hHeld ?_
     try simp only [sx]
     refine tkP 10 rfl hHeld ?_
     try simp only [sx]
     refine tkP 11 rfl hHeld ?_
     try simp only [sx]
     refine tkP 12 rfl hHeld ?_
     try simp only [sx]
     refine rdH 13 rfl fun K hK => ?_
     have sc := BlkAt.cell (S1.out.get 0 rfl) s
     rw [HOV.out] at sc
     have sf := BlkAt.free (S1.out.get 0 rfl) s
     go_simp
     obtain ⟨w2,hw2⟩ : ∃ v,v = w1.setCell ⟨(w.heap.size + 1),s,none⟩ (.slice (some ⟨b,off + k * 3,none⟩) (t - k) (c3 - k)) := ⟨_,rfl⟩
     rw [← hw2]
     have S2 : Hid (Sep w.heap.size w [eBlk (w.heap.size + 1) 23 (vs.set s (.slice (some ⟨b,off + k * 3,none⟩) (t - k) (c3 - k))),eBlk w.heap.size 25 [.slice A1 al.length c1,.int .i64 N,.slice A2 mr.length c2,.slice (some ⟨b,off,none⟩) ed.length c3]] w2) := by rw [hw2]; exact S1.out.set 0 rfl s (.slice (some ⟨b,off + k * 3,none⟩) (t - k) (c3 - k))
     clear hw2 sc sf
     refine hK.out _ _ ?_ (fun hHeld => ?_)
     · exact S2.out.pick [1] (by decide)
     clear hK K
     try simp only [sx]
     refine wpAnyH_done (by kernel_rfl) ?_ _
     go_wp2_with fail
     go_roundw
     case rel => exact ⟨t,_,by go_num,by omega,HB2.out,HV2.out,S2.out⟩
     case measure => simp [intOf]; omega
  · obtain rfl : k = ed.length := by omega
    have HV3 : Hid (∀ V,EdsAt V A3 ed → EdgRow V ed N vs) := by have h := HV.out; rw [List.take_length] at h; exact h
    go_wp2_with fail
    go_ret
    exact ⟨_,vs,rfl,S.out.first,HV3.out⟩
theorem strOfNums_inj {xs ys : List Int} (hx : ∀ x,x ∈ xs → 0 ≤ x ∧ x < 256) (hy : ∀ x,x ∈ ys → 0 ≤ x ∧ x < 256) (h : strOfNums xs = strOfNums ys) : xs = ys := by
 have e : (xs.map fun n => UInt8.ofNat n.toNat).toArray = (ys.map fun n => UInt8.ofNat n.toNat).toArray := congrArg ByteArray.data h
 have e2 := congrArg Array.toList e
 simp only [List.toList_toArray] at e2
 have hl : xs.length = ys.length := by simpa using congrArg List.length e2
 apply List.ext_getElem hl
 intro i h1 h2
 have e3 := congrArg (fun l : List UInt8 => l[i]?) e2
 simp only [List.getElem?_map,List.getElem?_eq_getElem h1,List.getElem?_eq_getElem h2,Option.map_some,Option.some.injEq] at e3
 have b1 := hx _ (List.getElem_mem h1)
 have b2 := hy _ (List.getElem_mem h2)
 have e4 := congrArg UInt8.toNat e3
 rw [UInt8.toNat_ofNat',UInt8.toNat_ofNat',Nat.mod_eq_of_lt (by omega),Nat.mod_eq_of_lt (by omega)] at e4
 omega
def sigB (q : Int × List (Int × Int)) : List Int := two q.1 ++ q.2.flatMap fun x => two x.1 ++ two x.2
theorem two_rg {x : Int} (h0 : 0 ≤ x) (h1 : x < 65536) : ∀ y,y ∈ two x → 0 ≤ y ∧ y < 256 := by
 intro y hy
 simp only [two,List.mem_cons,List.not_mem_nil,or_false] at hy
 rcases hy with rfl | rfl <;> omega
theorem sigB_tail : ∀ {l m : List (Int × Int)},(l.flatMap fun x => two x.1 ++ two x.2) = (m.flatMap fun x => two x.1 ++ two x.2) → l = m
 | [],[],_ => rfl
 | [],y :: m,h => by simp [two] at h
 | x :: l,[],h => by simp [two] at h
 | (a,b) :: l,(c,d) :: m,h => by
   simp only [List.flatMap_cons,two,List.cons_append,List.nil_append,List.cons.injEq] at h
   obtain ⟨h1,h2,h3,h4,h5⟩ := h
   rw [sigB_tail h5,show a = c by omega,show b = d by omega]
theorem sigB_inj {p q : Int × List (Int × Int)} (h : sigB p = sigB q) : p = q := by
 obtain ⟨a,l⟩ := p
 obtain ⟨b,m⟩ := q
 simp only [sigB,two,List.cons_append,List.nil_append,List.cons.injEq] at h
 obtain ⟨h1,h2,h3⟩ := h
 rw [sigB_tail h3,show a = b by omega]
def keyOne (mr : List Int) (s : Nat) : ByteArray := if (s : Int) ∈ mr then ⟨#[109]⟩ else ⟨#[]⟩
def keyTwo (a : Au) (c : List Int) (s : Nat) : ByteArray := strOfNums (sigB (sigV a c s))

theorem key1_c (mr : List Int) (n s : Nat) (bm g : Nat) (T : TypeId) (w : World) (hs : s < n) (h1 : BlkAt w bm T [.slice (some ⟨g,0,none⟩) n n]) (h2 : BlkAt w g 4 (mkB n fun s => decide ((s : Int) ∈ mr))) :
 Calls Try.prog 60 #[.int .i64 (s : Int),.pointer (some ⟨bm,0,none⟩)] w (Ret (.string (keyOne mr s)) w) := by
 have c0 := h1.cell 0
 have c1 := (h2.cell s).trans (mkB_get hs)
 simp only [List.getElem?_cons_zero] at c0
 unfold keyOne
 clear h1 h2
 by_cases hm : (s : Int) ∈ mr
 · rw [decide_eq_true hm] at c1
   rw [if_pos hm]
   clear hm
   go_enter Try.func60,Try.ntmps60
   go_wp2
   go_ret
   exact ⟨rfl,Below.refl _ _⟩
 · rw [decide_eq_false hm] at c1
   rw [if_neg hm]
   clear hm
   go_enter Try.func60,Try.ntmps60
   go_wp2
   go_ret
   exact ⟨rfl,Below.refl _ _⟩
theorem rises_len {n : Nat} {l : List Int} (h : Rises (fun x y : Int => x < y) l) (hr : ∀ x,x ∈ l → 0 ≤ x ∧ x < n) : l.length ≤ n := by
 have key : ∀ (i : Nat) x,l[i]? = some x → (i : Int) ≤ x := by
  intro i
  induction i with
  | zero => intro x hx; exact (hr x (List.mem_of_getElem? hx)).1
  | succ i ih =>
    intro x hx
    have hi := (List.getElem?_eq_some_iff.1 hx).1
    have h1 := ih _ (List.getElem?_eq_getElem (show i < l.length by omega))
    have h2 := h i (i + 1) _ x (by omega) (List.getElem?_eq_getElem (show i < l.length by omega)) hx
    omega
 rcases Nat.eq_zero_or_pos l.length with e | e
 · omega
 · have h1 := key (l.length - 1) _ (List.getElem?_eq_getElem (by omega))
   have h2 := hr _ (List.getElem_mem (show l.length - 1 < l.length by omega))
   omega
theorem Au.Right.ev {a : Au} (hr : a.Right) {x : Ed} (hx : x ∈ a.ed) : 0 ≤ x.ev ∧ x.ev < 32 := by
 obtain ⟨p,hp,hpx⟩ := List.mem_iff_getElem.1 hx
 have := (hr.edge (p := p) (by rw [List.getElem?_eq_getElem hp,hpx])).2.2.2.2
 obtain ⟨i,hi,hix⟩ := List.mem_iff_getElem.1 this
 have := hr.al i _ hi (List.getElem?_eq_getElem hi)
 rw [hix] at this
 exact ⟨this.1,this.2.1⟩
theorem outOf_32 {a : Au} (hr : a.Right) (s : Nat) : (outOf a.ed s).length ≤ 32 := by
 have := rises_len (n := 32) (l := (outOf a.ed s).map (·.ev)) (fun i j x y hij hx hy => by
  rw [List.getElem?_map,Option.map_eq_some_iff] at hx hy
  obtain ⟨u,hu,rfl⟩ := hx
  obtain ⟨v,hv,rfl⟩ := hy
  exact outOf_rises hr s i j u v hij hu hv) (fun x hx => by
  obtain ⟨u,hu,rfl⟩ := List.mem_map.1 hx
  exact hr.ev (mem_outOf.1 hu).1)
 simpa using this
def sgL (c : List Int) (l : List Ed) : List Int := l.flatMap fun x => two x.ev ++ two (clsV c x.dst)
theorem sgL_len (c : List Int) (l : List Ed) : (sgL c l).length = l.length * 4 := by
 induction l with
 | nil => rfl
 | cons a l ih => simp only [sgL,List.flatMap_cons,List.length_append,List.length_cons] at ih ⊢; rw [ih]; simp [two]; omega
theorem sgL_snoc (c : List Int) (l : List Ed) (x : Ed) : sgL c (l ++ [x]) = sgL c l ++ two x.ev ++ two (clsV c x.dst) := by simp [sgL]
theorem sigB_sig (a : Au) (c : List Int) (s : Nat) : sigB (sigV a c s) = two (c.getD s 0) ++ sgL c (outOf a.ed s) := by simp [sigB,sigV,sgL,List.flatMap_map]
set_option maxHeartbeats 4000000 in
theorem key2_c (a : Au) (c : List Int) (n s : Nat) (bC gC bO gO : Nat) (TC TO : TypeId) (vs : List Value) (w : World) (hr : a.Right) (hn : a.n = n) (hs : s < n) (hl : c.length = n) (hc : ∀ x,x ∈ c → 0 ≤ x ∧ x < 4096)
 (h1 : BlkAt w bC TC [.slice (some ⟨gC,0,none⟩) n n]) (h2 : BlkAt w gC 3 (c.map (Value.int .i64))) (h3 : BlkAt w bO TO [.slice (some ⟨gO,0,none⟩) n n]) (h4 : BlkAt w gO 23 vs) (h5 : EdgRow w a.ed n vs) :
 Calls Try.prog 61 #[.int .i64 (s : Int),.pointer (some ⟨bC,0,none⟩),.pointer (some ⟨bO,0,none⟩)] w (Ret (.string (keyTwo a c s)) w) := by
 obtain ⟨A,cA,hv,hE,hcap⟩ := h5.row s hs
 obtain ⟨L,hL⟩ : ∃ L,L = outOf a.ed s := ⟨_,rfl⟩
 rw [← hL] at hv hE hcap
 have hLl : L.length ≤ 32 := by rw [hL]; exact outOf_32 hr s
 have HX : Hid (∀ x,x ∈ L → (0 ≤ x.ev ∧ x.ev < 32) ∧ 0 ≤ x.dst ∧ x.dst < n) := fun x hx => by
  rw [hL] at hx
  have hm := (mem_outOf.1 hx).1
  have := edge_next hr hm
  exact ⟨hr.ev hm,this.2.2.2.1,by omega⟩
 obtain ⟨x,hx⟩ : ∃ x,c[s]? = some x := ⟨_,List.getElem?_eq_getElem (by omega)⟩
 have hxr := hc x (List.mem_of_getElem? hx)
 have HK : Hid (keyTwo a c s = strOfNums (two x ++ sgL c L)) := by
  rw [Hid,keyTwo,sigB_sig,← hL,getD_some hx]
 have HC : Hid (∀ d : Nat,d < n → ∃ y,c[d]? = some y ∧ clsV c d = y ∧ 0 ≤ y ∧ y < 4096) := fun d hd => by
  have hdl : d < c.length := by omega
  refine ⟨c[d],List.getElem?_eq_getElem hdl,?_,hc _ (List.getElem_mem hdl)⟩
  unfold clsV
  rw [Int.toNat_natCast,getD_lt _ hdl]
 have HE := Lib.hid hE
 have H1 := Lib.hid h1
 have H2 := Lib.hid h2
 have a1 := h1.cell 0
 have a2 := h2.cell s
 have a3 := h3.cell 0
 have a4 := h4.cell s
 rw [List.getElem?_map,hx] at a2
 rw [hv] at a4
 simp only [List.getElem?_cons_zero,Option.map_some] at a1 a2 a3
 have H3 := Lib.hid h3
 have H4 := Lib.hid h4
 have HV := Lib.hid hv
 clear h1 h2 h3 h4 h5 hE hv hx hL
 rw [HK.out]
 have hc' := True.intro
 clear hc
 go_enter Try.func61,Try.ntmps61
 go_wp2_with fail
 refine (appendInt_c w.heap.size w _ 0 [] (.slice none 0 0) x w ((Sep.here w).nilOwn encB 1 5) rfl hxr.1 (by omega) (by simp)).mono ?_
 rintro e w2 ⟨A2,c2,rfl,S2⟩
 have S3 : Hid (Sep w.heap.size w [eBytes (two x ++ sgL c (L.take 0)) (.slice A2 (two x ++ sgL c (L.take 0)).length c2)] w2) := by simpa [sgL] using S2
 have O3 := (H3.out.below S3.out.below H3.out.lt).cell 0
 have O4 := (H4.out.below S3.out.below H4.out.lt).cell s
 rw [HV.out] at O4
 simp only [List.getElem?_cons_zero] at O3
 clear S2 a1 a2 a3 a4
 go_wp2_with fail
 go_loopw [5,18] (fun v i wr => ∃ (k : Nat) (A' : Option Addr) (c' : Nat),i = .int .i64 k ∧ k ≤ L.length ∧ v = .slice A' (two x ++ sgL c (L.take k)).length c' ∧ Hid (Sep w.heap.size w [eBytes (two x ++ sgL c (L.take k)) (.slice A' (two x ++ sgL c (L.take k)).length c')] wr)) (fun _ i _ => L.length - (intOf i).toNat)
 case atStart => exact ⟨0,A2,c2,rfl,Nat.zero_le _,rfl,S3.out⟩
 case round =>
  clear S3 O3 O4
  obtain ⟨k,A',c',rfl,hk,rfl,S⟩ := hrel
  obtain ⟨l,hl'⟩ : ∃ l,l = two x ++ sgL c (L.take k) := ⟨_,rfl⟩
  have hll : l.length ≤ 1000 := by rw [hl',List.length_append,sgL_len,List.length_take]; simp [two]; omega
  rw [← hl'] at S ⊢
  have HLL := Lib.hid hl'
  clear hl'
  by_cases hlt : k < L.length
  · obtain ⟨b,off,y,hAe,hb,hy,y0,y1,y2⟩ := EdsAt.at (HE.out.below EdE.stays S.out.below) hlt
    subst hAe
    obtain ⟨hev,hd0,hd1⟩ := HX.out y (List.mem_of_getElem? hy)
    obtain ⟨d,hd⟩ := Int.eq_ofNat_of_zero_le hd0
    have HY : Hid (two x ++ sgL c (L.take (k + 1)) = l ++ two y.ev ++ two (clsV c d)) := by
     rw [Hid,List.take_add_one,hy,Option.toList_some,sgL_snoc,HLL.out,hd]
     simp only [List.append_assoc]
    obtain ⟨ye,hye⟩ : ∃ z,z = y.ev := ⟨_,rfl⟩
    rw [← hye] at y1 hev HY
    rw [hd] at y2 hd1
    obtain ⟨z,hz,hzc,hz0,hz1⟩ := HC.out d (by omega)
    rw [hzc] at HY
    have HZ := Lib.hid hz
    clear hy hd0 hye hzc hd hz
    go_wp2_with fail
    refine (appendInt_c w.heap.size w _ 1 l _ ye _ (S.out.alloc' 70 [.int .i64 y.src,.int .i64 ye,.int .i64 (d : Int)] rfl rfl) rfl hev.1 (by omega) (by omega)).mono ?_
    rintro e w3 ⟨A3,c3,rfl,S4⟩
    obtain ⟨l2,hl2⟩ : ∃ l2,l2 = l ++ two ye := ⟨_,rfl⟩
    rw [← hl2] at S4 ⊢ HY
    have hll2 : l2.length ≤ 1100 := by rw [hl2,List.length_append]; simp [two]; omega
    clear hl2
    have S5 : Hid (Sep w.heap.size w [eBlk wr.heap.size 70 [.int .i64 y.src,.int .i64 ye,.int .i64 (d : Int)],eBytes l2 (.slice A3 l2.length c3)] w3) := S4
    have b2 := BlkAt.cell (S5.out.get 0 rfl) 2
    have a1 := (H1.out.below S5.out.below H1.out.lt).cell 0
    have a2 := (H2.out.below S5.out.below H2.out.lt).cell d
    rw [List.getElem?_map,HZ.out] at a2
    simp only [List.getElem?_cons_zero,List.getElem?_cons_succ,Option.map_some] at a1 a2 b2
    clear S4 S y0 y1 y2
    go_wp2_with fail
    refine (appendInt_c w.heap.size w _ 1 l2 _ z _ S5.out rfl hz0 (by omega) (by omega)).mono ?_
    rintro e w4 ⟨A4,c4,rfl,S6⟩
    have S7 : Hid (Sep w.heap.size w [eBytes (two x ++ sgL c (L.take (k + 1))) (.slice A4 (two x ++ sgL c (L.take (k + 1))).length c4)] w4) := by
     rw [HY.out]; exact S6.drop1
    rw [← HY.out]
    clear S6 S5 b2 a1 a2
    go_wp2_with fail
    go_roundw
    case rel => exact ⟨k + 1,A4,c4,by go_num,by omega,by rw [List.length_append],S7.out⟩
    case measure => simp [intOf]; omega
  · obtain rfl : k = L.length := by omega
    have hR := Own.reads (enc := encB) (k := 1) (T := 5) (B := 0) (fun _ => rfl) (S.out.get 0 rfl)
    obtain ⟨b,off,y,vs',hAe,hb,hy,_,hEE,hcc⟩ := SlAt.at hR (show 0 < l.length by rw [HLL.out]; simp [two])
    subst hAe
    have hcv := run_convert_bytes_arg (P := Try.prog) wr 94 5 Try.underlying94 Try.underlying5 b off l.length c' l rfl (fun i hi => by
     obtain ⟨b',off',y',vs'',hA2,_,hy',_,hE',hc'⟩ := SlAt.at hR hi
     cases hA2
     subst hE'
     have := hc' 0 _ rfl
     rw [Nat.mul_one,Nat.add_zero] at this
     rw [this,List.getD_eq_getElem?_getD,hy']
     rfl) 9 Try.underlying9
    have HB := Lib.hid S.out.below
    have HF : Hid (strOfNums l = strOfNums (two x ++ sgL c L)) := by rw [Hid,HLL.out,List.take_length]
    clear hR hy hEE hcc S
    go_wp2_with fail
    go_ret
    exact ⟨by rw [← HF.out]; rfl,HB.out⟩
end Go.Proofs.Ytjjifefanjnghaa
