import Derived.Test.YtlbokicainimnaaGreatDoorQBM
set_option maxRecDepth 100000
namespace Go.Proofs.YtlbokicainimnaaGreatDoor
open Go.RowKit
def PL (w : World) (a : Dc) (W : World) : Prop:=
 W.heap[w.heap.size]? = some (.cells #[.bool a.neg,.string (bs a.s),.int .i64 a.e] 35 (0,0)) ∧ W.heap[w.heap.size + 1]? = some (.cells #[.bool false,.string ⟨#[]⟩,.int .i64 0] 35 (0,0)) ∧ Below w.heap.size w W
theorem PL.below {w : World} {a : Dc} {W W' : World} (h : PL w a W) (hb : Below W.heap.size W W') : PL w a W':=
 ⟨hb.blk h.1 (blk_lt h.1),hb.blk h.2.1 (blk_lt h.2.1),h.2.2.thru hb⟩
theorem PL.put {w : World} {a : Dc} {W : World} (h : PL w a W) {g : Nat} (hg : w.heap.size + 2 ≤ g) (u v : Value) : PL w a ((W.setCell ⟨g,0,none⟩ u).setCell ⟨g,1,none⟩ v):=
 ⟨row2_other h.1 (by omega) _ _,row2_other h.2.1 (by omega) _ _,below_row h.2.2 (by omega) _ _⟩
def GP (w : World) (a : Dc) (g9 g11 k : Nat) (W : World) : Prop:=PL w a W ∧ IntRow W g9 ∧ IR W g11 (10 ^ k) ∧ IR W (g11 + 1) 0
theorem GP.below {w : World} {a : Dc} {g9 g11 k : Nat} {W W' : World} (h : GP w a g9 g11 k W) (hb : Below W.heap.size W W') : GP w a g9 g11 k W':=
 ⟨h.1.below hb,h.2.1.below hb,h.2.2.1.below hb,h.2.2.2.below hb⟩
theorem PL.set {w : World} {a : Dc} {W : World} (h : PL w a W) {g : Nat} (hg : w.heap.size + 2 ≤ g) (cs : Array Value) : PL w a (W.setRow g cs):=
 ⟨(setRow_other W g _ _ (by omega)).trans h.1,(setRow_other W g _ _ (by omega)).trans h.2.1,below_setRow h.2.2 (by omega) _⟩
theorem GP.set {w : World} {a : Dc} {g9 g11 k : Nat} {W : World} (h : GP w a g9 g11 k W) (hg : w.heap.size + 2 ≤ g9) (hn : g9 < g11) {cs : Array Value} {N : Nat} (hs : IR (W.setRow g9 cs) g9 N) : GP w a g9 g11 k (W.setRow g9 cs):=
 ⟨h.1.set hg _,hs.row,h.2.2.1.set h.2.1 (by omega),h.2.2.2.set h.2.1 (by omega)⟩
theorem unit_bits {a : Dc} (hl : a.s.length ≤ 8192) (hd : allDig a.s) {bb : Nat} (h : 4 * 8192 + 1 ≤ bb) : dval a.s < 2 ^ bb:=by
 have h1:=dval_lt a.s hd
 exact Nat.lt_trans h1 (ten_lt hl h)
theorem unit_far {a : Dc} {k : Nat} (hd : allDig a.s) (h : a.s.length < k) : dval a.s / 10 ^ k = 0 ∧ ncmp (2 * (dval a.s % 10 ^ k)) (10 ^ k) = -1:=by
 have h1:=dval_lt a.s hd
 have h2 : 10 ^ (a.s.length + 1) ≤ 10 ^ k:=Nat.pow_le_pow_right (by decide) h
 rw [Nat.pow_succ] at h2
 have h3 : dval a.s < 10 ^ k:=by omega
 rw [Nat.div_eq_of_lt h3,Nat.mod_eq_of_lt h3]
 refine ⟨rfl,?_⟩
 unfold ncmp
 rw [if_pos (by omega)]
theorem odd_v (v : Value) (N : Nat) (w : World) (h : WideI w v (N : Int)) : Calls Tryz.prog 165 #[v] w fun e w'=>e = .returned (.bool (N % 2 == 1)) ∧ Below w.heap.size w w':=by
 obtain ⟨a,m,c,rfl,hn⟩:=h.nat
 have HN : Hid (Num .u64 18446744073709551616 (w.alloc (.cells #[.bool false,.slice a m c] 123)) (.slice a m c) N):=hn.below (Nat.le_refl _) ((Below.refl _ _).alloc (Nat.le_refl _) _)
 have HB : Hid (Below w.heap.size w (w.alloc (.cells #[.bool false,.slice a m c] 123))):=(Below.refl _ _).alloc (Nat.le_refl _) _
 clear h hn
 go_enter Tryz.func165,Tryz.ntmps165
 go_wp2_with fail
 refine (low_n _ N _ (.mk HN.out)).mono ?_
 rintro e w' ⟨rfl,hb⟩
 have HB2 : Hid (Below w.heap.size w w'):=HB.out.thru hb
 obtain ⟨L,hL⟩ : ∃ L,L = N % 18446744073709551616:=⟨_,rfl⟩
 rw [← hL]
 have k0:=and_one L (by omega)
 have k1 : (((L : Int) % 2) == 1) = (N % 2 == 1):=by
  rw [Bool.eq_iff_iff,beq_iff_eq,beq_iff_eq]; omega
 clear hb hL
 go_wp2
 go_ret
 exact ⟨rfl,HB2.out⟩
set_option maxHeartbeats 8000000 in
theorem places_v (a : Dc) (n m : Int) (w : World) (hl : a.s.length ≤ 8192) (hdg : allDig a.s) (hs : a.s ≠ []) (he : -20000 ≤ a.e ∧ a.e ≤ 20000) (hn : -100000 ≤ n ∧ n ≤ 100000) (hm : 1 ≤ m ∧ m ≤ 6) (htab : Tab w) :
  Calls Tryz.prog 108 #[.agg #[.bool a.neg,.string (bs a.s),.int .i64 a.e],.int .i64 n,.int .i64 m] w (DcQ (placesC a n m).1 (placesC a n m).2 w):=by
 obtain ⟨D,hD⟩ : ∃ D,D = (placesC a n m).1:=⟨_,rfl⟩
 obtain ⟨X,hX⟩ : ∃ X,X = (placesC a n m).2:=⟨_,rfl⟩
 rw [← hD,← hX]
 obtain ⟨w1,hw1⟩ : ∃ W,W = ((w.alloc (.cells #[.bool a.neg,.string (bs a.s),.int .i64 a.e] 35)).alloc (.cells #[.bool false,.string ⟨#[]⟩,.int .i64 0] 35)):=⟨_,rfl⟩
 have hpl : PL w a w1:=by
  rw [hw1]
  exact ⟨heap_alloc2_old w _ _,heap_alloc2_new w _ _,((Below.refl _ _).alloc (Nat.le_refl _) _).alloc (by simp) _⟩
 have hsz : w1.heap.size = w.heap.size + 2:=by rw [hw1]; simp
 have HPL1 : Hid (PL w a w1):=hpl
 have HSZ : Hid (w1.heap.size = w.heap.size + 2):=hsz
 have HA : Hid (a.s.length ≤ 8192 ∧ allDig a.s ∧ a.s ≠ []):=⟨hl,hdg,hs⟩
 have HM : Hid (1 ≤ m ∧ m ≤ 6):=hm
 have HT : Hid (Tab w):=htab
 have i1 : IntKind.i64.wrap (-n) = -n:=IntWalk.i64_in _ (by omega)
 obtain ⟨d,hd⟩ : ∃ d : Int,d = -n - a.e:=⟨_,rfl⟩
 have i2 : IntKind.i64.wrap (-n - a.e) = d:=by rw [hd]; exact IntWalk.i64_in _ (by omega)
 have HDN : Hid (d = -n - a.e):=hd
 have HNN : Hid (-100000 ≤ n ∧ n ≤ 100000 ∧ -20000 ≤ a.e ∧ a.e ≤ 20000):=⟨hn.1,hn.2,he.1,he.2⟩
 obtain ⟨a0,a1,a2⟩ : w1.cell? ⟨w.heap.size,0,none⟩ = some (.bool a.neg) ∧ w1.cell? ⟨w.heap.size,1,none⟩ = some (.string (bs a.s)) ∧ w1.cell? ⟨w.heap.size,2,none⟩ = some (.int .i64 a.e):=⟨cell_of_row w1 w.heap.size 0 _ _ _ hpl.1,cell_of_row w1 w.heap.size 1 _ _ _ hpl.1,cell_of_row w1 w.heap.size 2 _ _ _ hpl.1⟩
 clear hpl hsz hl hdg hs hm htab he hn
 go_enter Tryz.func108,Tryz.ntmps108
 go_upto_region 1 with fail
 rw [← hw1]
 clear hw1
 by_cases h0 : d ≤ 0
 ·have h0' : -n - a.e ≤ 0:=by omega
  obtain ⟨f0,c0,f1,c1,f2,c2,r3⟩:=rw3 HPL1.out.2.1
  have HR : Hid _:=r3
  have hDX : D = a ∧ X = 0:=by
   rw [hD,hX]; unfold placesC; rw [if_pos h0']; exact ⟨rfl,rfl⟩
  obtain ⟨rfl,rfl⟩:=hDX
  clear r3 hD hX hd
  go_wp2
  exact dc_end rfl rfl rfl (HR.out _ _ _) rfl rfl (below_row3 HPL1.out.2.2 (Nat.le_add_right _ 1) _ _ _)
 ·have h0' : ¬ (-n - a.e ≤ 0):=by omega
  obtain ⟨k,hk⟩ : ∃ k : Nat,d = k:=⟨d.toNat,by omega⟩
  have hkt : (-n - a.e).toNat = k:=by omega
  obtain ⟨N,hN⟩ : ∃ N,N = unitK a n m:=⟨_,rfl⟩
  have HDX : Hid (D = ⟨madeS a.neg N (-n),madeL N (-n),madeE N (-n)⟩ ∧ X = madeX N (-n)):=by
   show _ ∧ _
   rw [hD,hX,hN]; unfold placesC; rw [if_neg h0']; exact ⟨rfl,rfl⟩
  obtain ⟨Q,hQ⟩ : ∃ Q,Q = dval a.s / 10 ^ k:=⟨_,rfl⟩
  obtain ⟨h,hh⟩ : ∃ h,h = ncmp (2 * (dval a.s % 10 ^ k)) (10 ^ k):=⟨_,rfl⟩
  obtain ⟨uu,huu⟩ : ∃ u,u = upW m a.neg (Q % 2 == 1) h:=⟨_,rfl⟩
  have HQ : Hid (Q = dval a.s / 10 ^ k):=hQ
  have HH : Hid (h = ncmp (2 * (dval a.s % 10 ^ k)) (10 ^ k)):=hh
  have HUU : Hid (uu = upW m a.neg (Q % 2 == 1) h):=huu
  have HN : Hid (N = if uu = true then Q + 1 else Q):=by
   show _ = _
   rw [hN,huu,hQ,hh]; unfold unitK kW; rw [hkt]; rfl
  obtain ⟨bb,hbb⟩ : ∃ bb : Nat,bb = 40000:=⟨_,rfl⟩
  have HQB : Hid (Q < 2 ^ bb ∧ Q + 1 < 2 ^ (bb + 1) ∧ dval a.s < 2 ^ bb ∧ 40000 = bb):=by
   have h1:=unit_bits HA.out.1 HA.out.2.1 (bb:=bb) (by omega)
   have h2 : Q ≤ dval a.s:=by rw [hQ]; exact Nat.div_le_self _ _
   show _ ∧ _ < 2 ^ (bb + 1) ∧ _ ∧ _
   rw [Nat.pow_succ]
   omega
  have HK : Hid (0 < k ∧ d = k):=⟨by omega,hk⟩
  subst hk
  clear hD hX hN hQ hh huu hkt h0' hbb hd
  go_upto_region 5 with fail
  have hpl:=HPL1.out
  obtain ⟨w2,hw2⟩ : ∃ W,W = w1.alloc (.cells #[.bool false,.slice none 0 0] 123):=⟨_,rfl⟩
  have HP2 : Hid (PL w a w2):=by rw [hw2]; exact hpl.below ((Below.refl _ _).alloc (Nat.le_refl _) _)
  obtain ⟨g9,hg9⟩ : ∃ g,g = w1.heap.size:=⟨_,rfl⟩
  have HG9 : Hid (w.heap.size + 2 ≤ g9):=by show _ ≤ _; have:=HSZ.out; omega
  have HI9 : Hid (IR w2 g9 0):=by rw [hw2,hg9]; exact .new (.mk (num_zero _))
  rw [← hw2,← hg9]
  clear hpl hw2 hg9 HPL1 HSZ a0 a1 a2
  have b1:=cell_of_row w2 w.heap.size 1 _ _ _ HP2.out.1
  go_upto_if 26 with fail
  clear b1
  go_cut [10] (fun hv wx=>hv = .int .i64 h ∧ IR wx g9 Q ∧ PL w a wx)
  case first=>as_aux_lemma=>
   by_cases hlk : k ≤ a.s.length
   ·have hif : ((k : Int) ≤ (bs a.s).size):=by show _ ≤ ((a.s.length : Nat) : Int); omega
    have HLK : Hid (k ≤ a.s.length):=hlk
    have HT1 : Hid (∀ W,Calls Tryz.prog 160 #[.int .i64 (k : Nat)] W (WideR ((10 ^ k : Nat) : Int) W)):=fun W=>ten_n k W (by have:=HA.out.1; omega)
    have HPS : Hid (∀ W,Calls Tryz.prog 161 #[.string (bs a.s)] W (WideR ((dval a.s : Nat) : Int) W)):=fun W=>iparse_v (bs a.s) W HA.out.2.1 (by have:=HA.out.1; show a.s.length ≤ _; omega)
    clear hlk
    go_wp2_with fail
    refine (HT1.out _).mono ?_
    rintro e w3 ⟨v,rfl,hv,hb3⟩
    obtain ⟨ta,tm,tc,rfl,ht⟩:=hv.nat
    have hi11 : IR (w3.alloc (.cells #[.bool false,.slice ta tm tc] 123)) w3.heap.size (10 ^ k):=.new hv
    have hb4 : Below w2.heap.size w2 (w3.alloc (.cells #[.bool false,.slice ta tm tc] 123)):=hb3.alloc hb3.size _
    obtain ⟨w5,hw5⟩ : ∃ W,W = (w3.alloc (.cells #[.bool false,.slice ta tm tc] 123)).alloc (.cells #[.bool false,.slice none 0 0] 123):=⟨_,rfl⟩
    obtain ⟨g11,hg11⟩ : ∃ g,g = w3.heap.size:=⟨_,rfl⟩
    have h12 : (w3.alloc (.cells #[.bool false,.slice ta tm tc] 123)).heap.size = g11 + 1:=by rw [hg11]; simp
    have hb5 : Below w2.heap.size w2 w5:=by rw [hw5]; exact hb4.alloc hb4.size _
    have HI11 : Hid (IR w5 g11 (10 ^ k)):=by rw [hw5,hg11]; exact hi11.below ((Below.refl _ _).alloc (Nat.le_refl _) _)
    have HI12 : Hid (IR w5 (g11 + 1) 0):=by rw [hw5,← h12]; exact .new (.mk (num_zero _))
    have HI95 : Hid (IR w5 g9 0):=HI9.out.below hb5
    have HP5 : Hid (PL w a w5):=HP2.out.below hb5
    have HNE : Hid (g9 < g11):=by
     show _ < _
     have h1:=HI9.out.lt
     have h2:=hb3.size
     omega
    clear hv ht hi11 hb4 hb3 hb5
    go_upto_region 8 with fail
    rw [← hw5,← hg11]
    clear h12 hg11 hw5 HT1
    obtain ⟨R,hR⟩ : ∃ R,R = dval a.s % 10 ^ k:=⟨_,rfl⟩
    have HR : Hid (R = dval a.s % 10 ^ k):=hR
    have HQU : Hid (∀ W u v,WideI W u ((dval a.s : Nat) : Int) → WideI W v ((10 ^ k : Nat) : Int) → Calls Tryz.prog 162 #[u,v] W (WideR2 Q R W)):=fun W u v hu hv=>by
     rw [HQ.out,hR]; exact quo_n u v _ _ W hu hv HQB.out.2.2.1 (by have:=HQB.out.2.2.2; omega)
    have HGP : Hid (GP w a g9 g11 k w5.drew):=(show GP w a g9 g11 k w5 from ⟨HP5.out,HI95.out.row,HI11.out,HI12.out⟩).below ((Below.refl _ _).drew)
    clear hR
    have h1 : once [(31,0),(32,1),(33,2),(34,3),(35,4),(30,5),(36,6),(37,7)] = true:=by kernel_rfl
    have h2 : within [(31,0),(32,1),(33,2),(34,3),(35,4),(30,5),(36,6),(37,7)] 64 = true:=by kernel_rfl
    let S : Nat → (Nat → Value) → World → Prop:=fun i xs W=>match i with
     | 0=>xs 0 = .pointer (some ⟨w.heap.size,1,none⟩)
     | 1=>xs 1 = .string (bs a.s)
     | 2=>WideI W (xs 2) ((dval a.s : Nat) : Int)
     | 3=>WideI W (xs 3) ((10 ^ k : Nat) : Int)
     | 4=>∃ u1 u2,(xs 4) = .tuple #[u1,u2] ∧ WideI W u1 ((Q : Nat) : Int) ∧ WideI W u2 ((R : Nat) : Int)
     | 5=>∃ u1 u2,(xs 5) = .tuple #[u1,u2] ∧ WideI W u1 ((Q : Nat) : Int) ∧ WideI W u2 ((R : Nat) : Int)
     | 6=>WideI W (xs 6) ((Q : Nat) : Int)
     | 7=>WideI W (xs 7) ((R : Nat) : Int)
     | 8=>IR W g9 Q
     | _=>True
    have hstab : ∀ j ys W W',S j ys W → Below W.heap.size W W' → S j ys W':=by
     intro j ys W W' h hb
     match j,h with
     | 0,h=>exact h
     | 1,h=>exact h
     | 2,h=>exact h.below hb
     | 3,h=>exact h.below hb
     | 4,⟨u1,u2,e1,r1,r2⟩=>exact ⟨u1,u2,e1,r1.below hb,r2.below hb⟩
     | 5,⟨u1,u2,e1,r1,r2⟩=>exact ⟨u1,u2,e1,r1.below hb,r2.below hb⟩
     | 6,h=>exact h.below hb
     | 7,h=>exact h.below hb
     | 8,h=>exact h.below hb
     | _ + 9,h=>exact trivial
    refine wp_region_flow3T 9 10 4 [(31,0),(32,1),(33,2),(34,3),(35,4),(30,5),(36,6),(37,7)] [] S (fun _ W=>(GP w a g9 g11 k) W) HGP.out (by kernel_rfl) (by kernel_rfl) (by kernel_rfl) (by decide) (by kernel_rfl) h1 (by kernel_rfl) ?_ ?_ ?_ ?_
    ·exact fun j hj=>by cases hj
    ·intro j xs ys W e h
     match j,e,h with
     | 0,e,h=>exact c_ (e 0 (.inl rfl)) h
     | 1,e,h=>exact c_ (e 1 (.inl rfl)) h
     | 2,e,h=>exact (congrArg (fun z=>WideI W z _) (e 2 (.inl rfl))).mp h
     | 3,e,h=>exact (congrArg (fun z=>WideI W z _) (e 3 (.inl rfl))).mp h
     | 4,e,⟨u1,u2,e1,r⟩=>exact ⟨u1,u2,(e 4 (.inl rfl)).symm.trans e1,r⟩
     | 5,e,⟨u1,u2,e1,r⟩=>exact ⟨u1,u2,(e 5 (.inl rfl)).symm.trans e1,r⟩
     | 6,e,h=>exact (congrArg (fun z=>WideI W z _) (e 6 (.inl rfl))).mp h
     | 7,e,h=>exact (congrArg (fun z=>WideI W z _) (e 7 (.inl rfl))).mp h
     | 8,e,h=>exact h
     | _ + 9,e,h=>exact trivial
    ·refine ⟨⟨⟨⟨⟨⟨⟨⟨⟨trivial,?_⟩,?_⟩,?_⟩,?_⟩,?_⟩,?_⟩,?_⟩,?_⟩,?_⟩
     ·refine flow3_step _ (some 31) rfl rfl rfl h1 h2 (fun D W _ h=>h) (fun D W W' h hb=>h.below hb) hstab fun ac xs W Dn he hni hG hS K hK=>?_
      have e0 : ac.eval (.tmp 3) = .pointer (some ⟨w.heap.size,0,none⟩):=he 3
      refine op_any (.fieldAddr 35 (.tmp 3) 1) rfl (.pointer (some ⟨w.heap.size,1,none⟩)) (fun o' ho'=>?_) (hK _ _ rfl bR nA)
      simp only [execOp,ho',e0]
      go_simp
     ·refine flow3_step _ (some 32) rfl rfl rfl h1 h2 (fun D W _ h=>h) (fun D W W' h hb=>h.below hb) hstab fun ac xs W Dn he hni hG hS K hK=>?_
      have e0:=(he 31).trans (hS 0 (by kernel_rfl))
      refine op_any (.load 9 (.tmp 31)) rfl (.string (bs a.s)) (fun o' ho'=>?_) (hK _ _ rfl bR nA)
      simp only [execOp,ho',e0]
      have hc:=cell_of_row W w.heap.size 1 _ _ _ hG.1.1
      go_simp
     ·refine flow3_step _ (some 33) rfl rfl rfl h1 h2 (fun D W _ h=>h) (fun D W W' h hb=>h.below hb) hstab fun ac xs W Dn he hni hG hS K hK=>?_
      have e0:=(he 32).trans (hS 1 (by kernel_rfl))
      refine op_call 161 _ _ rfl _ (by simp only [List.map,e0]) (by go_simp) (HPS.out W) ?_
      rintro e' W' ⟨u,rfl,hi',hb'⟩
      exact ⟨_,rfl,hK _ _ hi' hb' nA⟩
     ·refine flow3_step _ (some 34) rfl rfl rfl h1 h2 (fun D W _ h=>h) (fun D W W' h hb=>h.below hb) hstab fun ac xs W Dn he hni hG hS K hK=>?_
      obtain ⟨ra,rm,rc,hrow,hval⟩:=(hG.2.2.1).val
      exact wp_load_row 123 (.tmp 11) rfl g11 (he 11) _ _ _ _ hrow Tryz.underlying123 rfl (by kernel_rfl) (hK _ _ hval bR nA)
     ·refine flow3_step _ (some 35) rfl rfl rfl h1 h2 (fun D W _ h=>h) (fun D W W' h hb=>h.below hb) hstab fun ac xs W Dn he hni hG hS K hK=>?_
      have e0 : ac.eval (.tmp 33) = xs 2:=he 33
      have e1 : ac.eval (.tmp 34) = xs 3:=he 34
      refine op_call 162 _ _ rfl _ (by simp only [List.map,e0,e1]) (by go_simp) (HQU.out W _ _ (hS 2 (by kernel_rfl)) (hS 3 (by kernel_rfl))) ?_
      rintro e' W' ⟨u1,u2,rfl,r1,r2,hb'⟩
      exact ⟨_,rfl,hK _ _ ⟨u1,u2,rfl,r1,r2⟩ hb' nA⟩
     ·refine flow3_step _ (some 30) rfl rfl rfl h1 h2 (fun D W _ h=>h) (fun D W W' h hb=>h.below hb) hstab fun ac xs W Dn he hni hG hS K hK=>?_
      obtain ⟨u1,u2,e1,r1,r2⟩:=hS 4 (by kernel_rfl)
      exact op_move (.tmp 35) (.inl rfl) (hK _ _ ⟨u1,u2,(he 35).trans e1,r1,r2⟩ bR nA)
     ·refine flow3_step _ (some 36) rfl rfl rfl h1 h2 (fun D W _ h=>h) (fun D W W' h hb=>h.below hb) hstab fun ac xs W Dn he hni hG hS K hK=>?_
      obtain ⟨u1,u2,e1,r1,r2⟩:=hS 5 (by kernel_rfl)
      have e0:=(he 30).trans e1
      refine op_any (.extract (.tmp 30) 0) rfl u1 (fun o' ho'=>?_) (hK _ _ r1 bR nA)
      simp only [execOp,ho',e0]
      go_simp
     ·refine flow3_step _ (some 37) rfl rfl rfl h1 h2 (fun D W _ h=>h) (fun D W W' h hb=>h.below hb) hstab fun ac xs W Dn he hni hG hS K hK=>?_
      obtain ⟨u1,u2,e1,r1,r2⟩:=hS 5 (by kernel_rfl)
      have e0:=(he 30).trans e1
      refine op_any (.extract (.tmp 30) 1) rfl u2 (fun o' ho'=>?_) (hK _ _ r2 bR nA)
      simp only [execOp,ho',e0]
      go_simp
     ·refine flow3_store _ rfl rfl rfl h1 h2 (by decide) fun ac xs W Dn he hni hG hS K hK=>?_
      have hrow0:=hG.2.1
      have hi0 : WideI W (xs 6) ((Q : Nat) : Int):=hS 6 (by kernel_rfl)
      obtain ⟨ya,ym,yc,ey,-⟩:=hi0.nat
      have hvy : ac.eval (.tmp 36) = .agg #[.bool false,.slice ya ym yc]:=(he 36).trans ey
      obtain ⟨z1,z2,z3,z4,s4⟩:=id hrow0
      refine wp_store_row 123 (.tmp 9) (.tmp 36) rfl g9 #[.bool false,.slice ya ym yc] (he 9) hvy _ _ s4 (by kernel_rfl) rfl (by simp [Value.oneCell']) ?_
      have hself : IR (W.setRow g9 #[.bool false,.slice ya ym yc]) g9 Q:=.self hrow0 (by rw [← ey]; exact hi0)
      have hG2:=hG.set HG9.out HNE.out hself
      refine hK _ hself hG2 ?_
      intro j ys h
      match j,h with
      | 0,h=>exact h
      | 1,h=>exact h
      | 2,h=>exact h.set hrow0
      | 3,h=>exact h.set hrow0
      | 4,⟨u1,u2,e1,r1,r2⟩=>exact ⟨u1,u2,e1,r1.set hrow0,r2.set hrow0⟩
      | 5,⟨u1,u2,e1,r1,r2⟩=>exact ⟨u1,u2,e1,r1.set hrow0,r2.set hrow0⟩
      | 6,h=>exact h.set hrow0
      | 7,h=>exact h.set hrow0
      | 8,_=>exact hself
      | _ + 9,h=>exact trivial
    ·intro xs W7 Dn hall hG hS hD
     have s7 : WideI W7 (xs 7) ((R : Nat) : Int):=hS 7 (by decide)
     have s8 : IR W7 g9 Q:=hS 8 (by decide)
     obtain ⟨ya,ym,yc,ey,ny⟩:=s7.nat
     obtain ⟨xa,xm,xc,r12,-⟩:=hG.2.2.2
     obtain ⟨f0,f1,c0,c1,f2,c2⟩:=row2 r12
     have hir : IntRow W7 (g11 + 1):=hG.2.2.2.row
     have HI12b : Hid (IR ((W7.setCell ⟨g11 + 1,0,none⟩ (.bool false)).setCell ⟨g11 + 1,1,none⟩ (.slice ya ym yc)) (g11 + 1) R):=.put hir ny
     have HI9b : Hid (IR ((W7.setCell ⟨g11 + 1,0,none⟩ (.bool false)).setCell ⟨g11 + 1,1,none⟩ (.slice ya ym yc)) g9 Q):=s8.off hir (by have:=HNE.out; omega) false
     have HI11b : Hid (IR ((W7.setCell ⟨g11 + 1,0,none⟩ (.bool false)).setCell ⟨g11 + 1,1,none⟩ (.slice ya ym yc)) g11 (10 ^ k)):=hG.2.2.1.off hir (by omega) false
     have HP7 : Hid (PL w a ((W7.setCell ⟨g11 + 1,0,none⟩ (.bool false)).setCell ⟨g11 + 1,1,none⟩ (.slice ya ym yc))):=hG.1.put (by have:=HNE.out; have:=HG9.out; omega) _ _
     obtain ⟨w8,hw8⟩ : ∃ W,W = (W7.setCell ⟨g11 + 1,0,none⟩ (.bool false)).setCell ⟨g11 + 1,1,none⟩ (.slice ya ym yc):=⟨_,rfl⟩
     generalize xs 0 = x0 at *
     generalize xs 1 = x1 at *
     generalize xs 2 = x2 at *
     generalize xs 3 = x3 at *
     generalize xs 4 = x4 at *
     generalize xs 5 = x5 at *
     generalize xs 6 = x6 at *
     simp only [layAll,ey,List.setIfInBounds_toArray,List.set_cons_succ,List.set_cons_zero]
     clear hS hD hall hstab S hG s7 s8 ny r12 hir HGP HQU HI12 HI11 HI95 HP5 h1 h2
     go_upto_region 9 with fail
     rw [← hw8] at HI12b HI9b HI11b HP7 ⊢
     clear hw8 f0 f1 c0 c1 f2 c2
     have hh9 : ncmp (R * 2 ^ 1) (10 ^ k) = h:=by rw [HH.out,← HR.out,Nat.pow_one,Nat.mul_comm]
     have HH9 : Hid (ncmp (R * 2 ^ 1) (10 ^ k) = h):=hh9
     have HRB : Hid (R < 2 ^ bb ∧ R * 2 ^ 1 < 2 ^ (bb + 1) ∧ 10 ^ k < 2 ^ (bb + 1)):=by
      have h1 : R < 2 ^ bb:=by rw [HR.out]; exact Nat.lt_of_le_of_lt (Nat.mod_le _ _) HQB.out.2.2.1
      have h2 : 10 ^ k < 2 ^ bb:=ten_lt (Nat.le_trans HLK.out HA.out.1) (by have:=HQB.out.2.2.2; omega)
      show _ ∧ _ ∧ _
      rw [Nat.pow_succ 2 bb]
      omega
     have HL : Hid (∀ W v,WideI W v ((R : Nat) : Int) → Calls Tryz.prog 104 #[v,.int .i64 1] W (WideR ((R * 2 ^ 1 : Nat) : Int) W)):=fun W v hv=>left_n v R 1 W hv HRB.out.1 (by have:=HQB.out.2.2.2; omega) (by decide)
     have HC : Hid (∀ W u v,WideI W u ((R * 2 ^ 1 : Nat) : Int) → WideI W v ((10 ^ k : Nat) : Int) → Calls Tryz.prog 163 #[u,v] W fun e w'=>e = .returned (.int .i64 h) ∧ Below W.heap.size W w'):=fun W u v hu hv=>by
      rw [← HH9.out]; exact cmp_n u v _ _ W hu hv HRB.out.2.1 HRB.out.2.2 (by have:=HQB.out.2.2.2; omega)
     clear hh9
     have h1 : once [(38,0),(39,1),(40,2),(41,3)] = true:=by kernel_rfl
     have h2 : within [(38,0),(39,1),(40,2),(41,3)] 64 = true:=by kernel_rfl
     let S : Nat → (Nat → Value) → World → Prop:=fun i xs W=>match i with
      | 0=>WideI W (xs 0) ((R : Nat) : Int)
      | 1=>WideI W (xs 1) ((R * 2 ^ 1 : Nat) : Int)
      | 2=>WideI W (xs 2) ((10 ^ k : Nat) : Int)
      | 3=>xs 3 = .int .i64 h
      | _=>True
     have hstab : ∀ j ys W W',S j ys W → Below W.heap.size W W' → S j ys W':=by
      intro j ys W W' h hb
      match j,h with
      | 0,h=>exact h.below hb
      | 1,h=>exact h.below hb
      | 2,h=>exact h.below hb
      | 3,h=>exact h
      | _ + 4,h=>exact trivial
     refine wp_region_flow3T 4 5 4 [(38,0),(39,1),(40,2),(41,3)] [] S (fun _ W=>(fun W=>Below w8.heap.size w8 W) W) ((Below.refl _ _).drew) (by kernel_rfl) (by kernel_rfl) (by kernel_rfl) (by decide) (by kernel_rfl) h1 (by kernel_rfl) ?_ ?_ ?_ ?_
     ·exact fun j hj=>by cases hj
     ·intro j xs ys W e h
      match j,e,h with
      | 0,e,h=>exact (congrArg (fun z=>WideI W z _) (e 0 (.inl rfl))).mp h
      | 1,e,h=>exact (congrArg (fun z=>WideI W z _) (e 1 (.inl rfl))).mp h
      | 2,e,h=>exact (congrArg (fun z=>WideI W z _) (e 2 (.inl rfl))).mp h
      | 3,e,h=>exact c_ (e 3 (.inl rfl)) h
      | _ + 4,e,h=>exact trivial
     ·refine ⟨⟨⟨⟨trivial,?_⟩,?_⟩,?_⟩,?_⟩
      ·refine flow3_step _ (some 38) rfl rfl rfl h1 h2 gI gB hstab fun ac xs W Dn he hni hb hS K hK=>?_
       obtain ⟨ra,rm,rc,hrow,hval⟩:=((HI12b.out.below hb)).val
       exact wp_load_row 123 (.tmp 12) rfl (g11 + 1) (he 12) _ _ _ _ hrow Tryz.underlying123 rfl (by kernel_rfl) (hK _ _ hval bR nA)
      ·refine flow3_step _ (some 39) rfl rfl rfl h1 h2 gI gB hstab fun ac xs W Dn he hni hb hS K hK=>?_
       have e0 : ac.eval (.tmp 38) = xs 0:=he 38
       refine op_call 104 _ _ rfl _ (by simp only [List.map,eval_const,e0]) (by go_simp) (HL.out W _ (hS 0 (by kernel_rfl))) ?_
       rintro e' W' ⟨u,rfl,hi',hb'⟩
       exact ⟨_,rfl,hK _ _ hi' hb' nA⟩
      ·refine flow3_step _ (some 40) rfl rfl rfl h1 h2 gI gB hstab fun ac xs W Dn he hni hb hS K hK=>?_
       obtain ⟨ra,rm,rc,hrow,hval⟩:=((HI11b.out.below hb)).val
       exact wp_load_row 123 (.tmp 11) rfl g11 (he 11) _ _ _ _ hrow Tryz.underlying123 rfl (by kernel_rfl) (hK _ _ hval bR nA)
      ·refine flow3_step _ (some 41) rfl rfl rfl h1 h2 gI gB hstab fun ac xs W Dn he hni hb hS K hK=>?_
       have e0 : ac.eval (.tmp 39) = xs 1:=he 39
       have e1 : ac.eval (.tmp 40) = xs 2:=he 40
       refine op_call 163 _ _ rfl _ (by simp only [List.map,e0,e1]) (by go_simp) (HC.out W _ _ (hS 1 (by kernel_rfl)) (hS 2 (by kernel_rfl))) ?_
       rintro e' W' ⟨rfl,hb'⟩
       exact ⟨_,rfl,hK _ _ (rfl) hb' nA⟩
     ·intro xs W9 Dn hall hb hS hD
      have s3 : xs 3 = _:=hS 3 (by decide)
      have HI9c : Hid (IR W9 g9 Q):=HI9b.out.below hb
      have HP9 : Hid (PL w a W9):=HP7.out.below hb
      simp only [layAll,s3,List.setIfInBounds_toArray,List.set_cons_succ,List.set_cons_zero]
      clear hS hD hall hstab S hb s3 h1 h2
      go_wp2
      go_meet
      exact ⟨rfl,HI9c.out,HP9.out⟩
   ·obtain ⟨e1,e2⟩:=unit_far HA.out.2.1 (show a.s.length < k by omega)
    have hif : ¬ ((k : Int) ≤ (bs a.s).size):=by show ¬ _ ≤ ((a.s.length : Nat) : Int); omega
    have hh1 : h = -1:=by rw [HH.out]; exact e2
    have hq0 : Q = 0:=by rw [HQ.out]; exact e1
    subst hh1
    subst hq0
    clear e1 e2
    go_wp2
    go_meet
    exact ⟨rfl,HI9.out,HP2.out⟩
  case rest=>
  obtain ⟨rfl,hi9,hp9⟩:=hcut
  obtain ⟨wb,hwb⟩ : ∃ W,W = wc:=⟨_,rfl⟩
  rw [← hwb] at hi9 hp9 ⊢
  have HI : Hid (IR wb g9 Q):=hi9
  have HP : Hid (PL w a wb):=hp9
  have hh3 : h = -1 ∨ h = 0 ∨ h = 1:=by
   rw [HH.out]; unfold ncmp; split
   ·exact .inl rfl
   ·split
    ·exact .inr (.inr rfl)
    ·exact .inr (.inl rfl)
  have HH3 : Hid _:=hh3
  clear hwb hi9 hp9 HI9 HP2 hh3
  go_upto_region 10 with fail
  go_cut [51] (fun v wx=>v = .bool uu ∧ Below wb.heap.size wb wx)
  case first=>as_aux_lemma=>
   have h1 : once [(42,0),(43,1),(44,2),(45,3),(46,4),(47,5),(48,6),(49,7),(50,8),(51,9)] = true:=by kernel_rfl
   have h2 : within [(42,0),(43,1),(44,2),(45,3),(46,4),(47,5),(48,6),(49,7),(50,8),(51,9)] 64 = true:=by kernel_rfl
   let S : Nat → (Nat → Value) → World → Prop:=fun i xs W=>match i with
    | 0=>∃ g1 g2,(xs 0) = waysV g1 g2 ∧ W.cell? ⟨g1,0,none⟩ = some (.bool false) ∧ W.cell? ⟨g2,0,none⟩ = some (.bool true)
    | 1=>xs 1 = .int .i64 m
    | 2=>∃ g1 g2,(xs 2) = wayF m g1 g2 ∧ W.cell? ⟨g1,0,none⟩ = some (.bool false) ∧ W.cell? ⟨g2,0,none⟩ = some (.bool true)
    | 3=>xs 3 = .int .i64 h
    | 4=>WideI W (xs 4) ((Q : Nat) : Int)
    | 5=>xs 5 = .bool (Q % 2 == 1)
    | 6=>xs 6 = .pointer (some ⟨w.heap.size,0,none⟩)
    | 7=>xs 7 = .bool a.neg
    | 8=>xs 8 = leftV h (Q % 2 == 1) a.neg
    | 9=>xs 9 = .bool uu
    | _=>True
   have hstab : ∀ j ys W W',S j ys W → Below W.heap.size W W' → S j ys W':=by
    intro j ys W W' h hb
    match j,h with
    | 0,⟨g1,g2,e1,k1,k2⟩=>exact ⟨g1,g2,e1,(hb.cell (cellA_lt k1)).trans k1,(hb.cell (cellA_lt k2)).trans k2⟩
    | 1,h=>exact h
    | 2,⟨g1,g2,e1,k1,k2⟩=>exact ⟨g1,g2,e1,(hb.cell (cellA_lt k1)).trans k1,(hb.cell (cellA_lt k2)).trans k2⟩
    | 3,h=>exact h
    | 4,h=>exact h.below hb
    | 5,h=>exact h
    | 6,h=>exact h
    | 7,h=>exact h
    | 8,h=>exact h
    | 9,h=>exact h
    | _ + 10,h=>exact trivial
   refine wp_region_flow3 10 10 [(42,0),(43,1),(44,2),(45,3),(46,4),(47,5),(48,6),(49,7),(50,8),(51,9)] [] S (fun _ W=>(fun W=>Below wb.heap.size wb W) W) ((Below.refl _ _).drew) (by kernel_rfl) (by kernel_rfl) (by kernel_rfl) (by decide) (by kernel_rfl) h1 (by kernel_rfl) (fun j hj=>by cases hj) ?_ ?_ ?_
   ·intro j xs ys W e h
    match j,e,h with
    | 0,e,⟨g1,g2,e1,r⟩=>exact ⟨g1,g2,(e 0 (.inl rfl)).symm.trans e1,r⟩
    | 1,e,h=>exact c_ (e 1 (.inl rfl)) h
    | 2,e,⟨g1,g2,e1,r⟩=>exact ⟨g1,g2,(e 2 (.inl rfl)).symm.trans e1,r⟩
    | 3,e,h=>exact c_ (e 3 (.inl rfl)) h
    | 4,e,h=>exact (congrArg (fun z=>WideI W z _) (e 4 (.inl rfl))).mp h
    | 5,e,h=>exact c_ (e 5 (.inl rfl)) h
    | 6,e,h=>exact c_ (e 6 (.inl rfl)) h
    | 7,e,h=>exact c_ (e 7 (.inl rfl)) h
    | 8,e,h=>exact c_ (e 8 (.inl rfl)) h
    | 9,e,h=>exact c_ (e 9 (.inl rfl)) h
    | _ + 10,e,h=>exact trivial
   ·refine ⟨⟨⟨⟨⟨⟨⟨⟨⟨⟨trivial,?_⟩,?_⟩,?_⟩,?_⟩,?_⟩,?_⟩,?_⟩,?_⟩,?_⟩,?_⟩
    ·refine flow3_step _ (some 42) rfl rfl rfl h1 h2 gI gB hstab fun ac xs W Dn he hni hG hS K hK=>?_
     refine op_call 164 [] _ rfl [] rfl (by go_simp) (ways_v W) ?_
     rintro e' W' ⟨g1,g2,rfl,k1,k2,hb'⟩
     exact ⟨_,rfl,hK _ _ ⟨g1,g2,rfl,k1,k2⟩ hb' nA⟩
    ·refine flow3_step _ (some 43) rfl rfl rfl h1 h2 gI gB hstab fun ac xs W Dn he hni hG hS K hK=>?_
     exact op_move (.tmp 2) (.inl rfl) (hK _ _ (he 2) bR nA)
    ·refine flow3_step _ (some 44) rfl rfl rfl h1 h2 gI gB hstab fun ac xs W Dn he hni hG hS K hK=>?_
     obtain ⟨g1,g2,s1,k1,k2⟩:=hS 0 (by kernel_rfl)
     have e0:=(he 42).trans s1
     have e1:=(he 43).trans (hS 1 (by kernel_rfl))
     refine op_any (.index 196 (.tmp 42) (.tmp 43)) rfl (wayF m g1 g2) (fun o' ho'=>?_) (hK _ _ ⟨g1,g2,rfl,k1,k2⟩ bR nA)
     simp only [execOp,ho',e0,e1]
     have hwi:=way_index m HM.out g1 g2 W
     go_simp
    ·refine flow3_step _ (some 45) rfl rfl rfl h1 h2 gI gB hstab fun ac xs W Dn he hni hG hS K hK=>?_
     exact op_move (.tmp 10) (.inl rfl) (hK _ _ (he 10) bR nA)
    ·refine flow3_step _ (some 46) rfl rfl rfl h1 h2 gI gB hstab fun ac xs W Dn he hni hG hS K hK=>?_
     obtain ⟨ra,rm,rc,hrow,hval⟩:=((HI.out.below (Below.drew hG))).val
     exact wp_load_row 123 (.tmp 9) rfl g9 (he 9) _ _ _ _ hrow Tryz.underlying123 rfl (by kernel_rfl) (hK _ _ hval bR nA)
    ·refine flow3_step _ (some 47) rfl rfl rfl h1 h2 gI gB hstab fun ac xs W Dn he hni hG hS K hK=>?_
     have e0 : ac.eval (.tmp 46) = xs 4:=he 46
     refine op_call 165 _ _ rfl _ (by simp only [List.map,e0]) (by go_simp) (odd_v _ Q W (hS 4 (by kernel_rfl))) ?_
     rintro e' W' ⟨rfl,hb'⟩
     exact ⟨_,rfl,hK _ _ (rfl) hb' nA⟩
    ·refine flow3_step _ (some 48) rfl rfl rfl h1 h2 gI gB hstab fun ac xs W Dn he hni hG hS K hK=>?_
     have e0 : ac.eval (.tmp 3) = .pointer (some ⟨w.heap.size,0,none⟩):=he 3
     refine op_any (.fieldAddr 35 (.tmp 3) 0) rfl (.pointer (some ⟨w.heap.size,0,none⟩)) (fun o' ho'=>?_) (hK _ _ rfl bR nA)
     simp only [execOp,ho',e0]
     go_simp
    ·refine flow3_step _ (some 49) rfl rfl rfl h1 h2 gI gB hstab fun ac xs W Dn he hni hG hS K hK=>?_
     have k0:=cell_of_row W w.heap.size 0 _ _ _ (HP.out.below hG).1
     have e0:=(he 48).trans (hS 6 (by kernel_rfl))
     refine op_any (.load 4 (.tmp 48)) rfl (.bool a.neg) (fun o' ho'=>?_) (hK _ _ rfl bR nA)
     simp only [execOp,ho',e0]
     go_simp
    ·refine flow3_step _ (some 50) rfl rfl rfl h1 h2 gI gB hstab fun ac xs W Dn he hni hG hS K hK=>?_
     refine op_any (.build 199 #[(0,.tmp 45),(1,.tmp 47),(2,.tmp 49)]) rfl (leftV h (Q % 2 == 1) a.neg) (fun o' ho'=>?_) (hK _ _ rfl bR nA)
     simp only [execOp,ho']
     have f0 : ac.tmps[45]?.getD undef = .int .i64 h:=by rw [← Array.getD_eq_getD_getElem?]; exact (he 45).trans (hS 3 (by kernel_rfl))
     have f1 : ac.tmps[47]?.getD undef = .bool (Q % 2 == 1):=by rw [← Array.getD_eq_getD_getElem?]; exact (he 47).trans (hS 5 (by kernel_rfl))
     have f2 : ac.tmps[49]?.getD undef = .bool a.neg:=by rw [← Array.getD_eq_getD_getElem?]; exact (he 49).trans (hS 7 (by kernel_rfl))
     unfold leftV
     go_simp
    ·refine flow3_step _ (some 51) rfl rfl rfl h1 h2 gI gB hstab fun ac xs W Dn he hni hG hS K hK=>?_
     obtain ⟨g1,g2,s1,k1,k2⟩:=hS 2 (by kernel_rfl)
     refine op_way 44 50 _ rfl m HM.out g1 g2 h (Q % 2 == 1) a.neg HH3.out ((he 44).trans s1) ((he 50).trans (hS 8 (by kernel_rfl))) k1 k2 fun W' hb'=>hK _ _ ?_ hb' nA
     show Value.bool _ = _
     rw [HUU.out]
   ·intro xs W3 Dn hall hG hS hD
    have s9 : xs 9 = _:=hS 9 (by decide)
    have HBG : Hid (Below wb.heap.size wb W3):=hG
    simp only [layAll,s9,List.setIfInBounds_toArray,List.set_cons_succ,List.set_cons_zero]
    clear hS hD hall hstab S s9 hG h1 h2
    show wpList Tryz.prog _ _ [] _ _
    repeat (first | go_values | go_skip | go_guarded | go_step | go_upon | go_in | go_back)
    go_meet
    exact ⟨rfl,HBG.out⟩
  case rest=>
  obtain ⟨rfl,hb10⟩:=hcut
  obtain ⟨wd,hwd⟩ : ∃ W,W = wc:=⟨_,rfl⟩
  rw [← hwd] at hb10 ⊢
  have HID : Hid (IR wd g9 Q):=HI.out.below hb10
  have HPD : Hid (PL w a wd):=HP.out.below hb10
  clear hwd hb10 HI HP
  go_upto_if 51 with fail
  go_cut [] (fun wx=>IR wx g9 N ∧ PL w a wx)
  case first=>as_aux_lemma=>
   cases uu
   ·have hn : N = Q:=HN.out
    subst hn
    go_wp2
    go_meet
    exact ⟨HID.out,HPD.out⟩
   ·have hn : N = Q + 1:=HN.out
    subst hn
    have HW1 : Hid (∀ W,Calls Tryz.prog 103 #[.int .u64 1] W (WideR ((1 : Nat) : Int) W)):=fun W=>word_v 1 W (by decide)
    have HAD : Hid (∀ W u v,WideI W u ((Q : Nat) : Int) → WideI W v ((1 : Nat) : Int) → Calls Tryz.prog 166 #[u,v] W (WideR ((Q + 1 : Nat) : Int) W)):=fun W u v hu hv=>add_n u v Q 1 W hu hv HQB.out.1 (by have:=HQB.out.2.2.2; exact Nat.one_lt_two_pow (by omega)) (by have:=HQB.out.2.2.2; omega)
    go_upto_region 11 with fail
    have h1 : once [(52,0),(53,1),(54,2)] = true:=by kernel_rfl
    have h2 : within [(52,0),(53,1),(54,2)] 64 = true:=by kernel_rfl
    let S : Nat → (Nat → Value) → World → Prop:=fun i xs W=>match i with
     | 0=>WideI W (xs 0) ((Q : Nat) : Int)
     | 1=>WideI W (xs 1) ((1 : Nat) : Int)
     | 2=>WideI W (xs 2) ((Q + 1 : Nat) : Int)
     | _=>True
    have hstab : ∀ j ys W W',S j ys W → Below W.heap.size W W' → S j ys W':=by
     intro j ys W W' h hb
     match j,h with
     | 0,h=>exact h.below hb
     | 1,h=>exact h.below hb
     | 2,h=>exact h.below hb
     | _ + 3,h=>exact trivial
    refine wp_region_flow3T 3 4 4 [(52,0),(53,1),(54,2)] [] S (fun _ W=>(fun W=>Below wd.heap.size wd W) W) ((Below.refl _ _).drew) (by kernel_rfl) (by kernel_rfl) (by kernel_rfl) (by decide) (by kernel_rfl) h1 (by kernel_rfl) ?_ ?_ ?_ ?_
    ·exact fun j hj=>by cases hj
    ·intro j xs ys W e h
     match j,e,h with
     | 0,e,h=>exact (congrArg (fun z=>WideI W z _) (e 0 (.inl rfl))).mp h
     | 1,e,h=>exact (congrArg (fun z=>WideI W z _) (e 1 (.inl rfl))).mp h
     | 2,e,h=>exact (congrArg (fun z=>WideI W z _) (e 2 (.inl rfl))).mp h
     | _ + 3,e,h=>exact trivial
    ·refine ⟨⟨⟨trivial,?_⟩,?_⟩,?_⟩
     ·refine flow3_step _ (some 52) rfl rfl rfl h1 h2 gI gB hstab fun ac xs W Dn he hni hb hS K hK=>?_
      obtain ⟨ra,rm,rc,hrow,hval⟩:=((HID.out.below hb)).val
      exact wp_load_row 123 (.tmp 9) rfl g9 (he 9) _ _ _ _ hrow Tryz.underlying123 rfl (by kernel_rfl) (hK _ _ hval bR nA)
     ·refine flow3_step _ (some 53) rfl rfl rfl h1 h2 gI gB hstab fun ac xs W Dn he hni hb hS K hK=>?_
      refine op_call 103 _ _ rfl _ (by simp only [List.map,eval_const]) (by go_simp) (HW1.out W) ?_
      rintro e' W' ⟨u,rfl,hi',hb'⟩
      exact ⟨_,rfl,hK _ _ hi' hb' nA⟩
     ·refine flow3_step _ (some 54) rfl rfl rfl h1 h2 gI gB hstab fun ac xs W Dn he hni hb hS K hK=>?_
      have e0 : ac.eval (.tmp 52) = xs 0:=he 52
      have e1 : ac.eval (.tmp 53) = xs 1:=he 53
      refine op_call 166 _ _ rfl _ (by simp only [List.map,e0,e1]) (by go_simp) (HAD.out W _ _ (hS 0 (by kernel_rfl)) (hS 1 (by kernel_rfl))) ?_
      rintro e' W' ⟨u,rfl,hi',hb'⟩
      exact ⟨_,rfl,hK _ _ hi' hb' nA⟩
    ·intro xs W2 Dn hall hb hS hD
     have s2 : WideI W2 (xs 2) ((Q + 1 : Nat) : Int):=hS 2 (by decide)
     obtain ⟨ya,ym,yc,ey,ny⟩:=s2.nat
     have hi:=HID.out.below hb
     obtain ⟨xa,xm,xc,r12,-⟩:=id hi
     obtain ⟨f0,f1,c0,c1,f2,c2⟩:=row2 r12
     have HIE : Hid (IR ((W2.setCell ⟨g9,0,none⟩ (.bool false)).setCell ⟨g9,1,none⟩ (.slice ya ym yc)) g9 (Q + 1)):=.put hi.row ny
     have HPE : Hid (PL w a ((W2.setCell ⟨g9,0,none⟩ (.bool false)).setCell ⟨g9,1,none⟩ (.slice ya ym yc))):=(HPD.out.below hb).put HG9.out _ _
     generalize xs 0 = x0 at *
     generalize xs 1 = x1 at *
     simp only [layAll,ey,List.setIfInBounds_toArray,List.set_cons_succ,List.set_cons_zero]
     clear hS hD hall hstab S hb s2 ny r12 h1 h2 hi
     go_wp2
     go_meet
     exact ⟨HIE.out,HPE.out⟩
  case rest=>
  obtain ⟨hie,hpe⟩:=hcut
  obtain ⟨we,hwe⟩ : ∃ W,W = wc:=⟨_,rfl⟩
  rw [← hwe] at hie hpe ⊢
  have HIE : Hid (IR we g9 N):=hie
  have HPE : Hid (PL w a we):=hpe
  have HNB : Hid (N < 2 ^ (bb + 1)):=by
   show _ < _
   have h1:=HQB.out.1
   have h2:=HQB.out.2.1
   rw [HN.out]
   split
   ·exact h2
   ·omega
  have HTX : Hid (∀ W v,Below w.heap.size w W → WideI W v ((N : Nat) : Int) → Calls Tryz.prog 105 #[v] W fun e w'=>e = .returned (.string (bs (Lib.decDigits N))) ∧ Below W.heap.size W w'):=fun W v hW hv=>by
   obtain ⟨a',m',c',rfl,hn⟩:=hv.nat
   exact itext_any _ N W hn HNB.out (by have:=HQB.out.2.2.2; omega) (HT.out.below hW)
  have HMD : Hid (∀ W,Calls Tryz.prog 167 #[.bool a.neg,.string (bs (Lib.decDigits N)),.int .i64 (-n)] W fun e w'=>e = .returned (.tuple #[dcV D,.int .i64 X]) ∧ Below W.heap.size W w'):=fun W=>by
   have hd : allDig (bl (bs (Lib.decDigits N))):=dec_all _
   have hs : (bs (Lib.decDigits N)).size ≤ 4611686018427387904:=by
    show (Lib.decDigits N).length ≤ _
    by_cases h0 : N = 0
    ·rw [h0,Go.Lib.decDigits,dif_pos (by decide)]; decide
    ·rw [dec_bare (by omega)]
     have:=bare_len_bits HNB.out
     have:=HQB.out.2.2.2
     omega
   refine (Made_any a.neg (bs (Lib.decDigits N)) (-n) W hd hs).mono ?_
   rintro en w' ⟨rfl,hb⟩
   refine ⟨?_,hb⟩
   rw [bl_bs,dval_dec,HDX.out.1,HDX.out.2]
   rfl
  have i1 : IntKind.i64.wrap (-n) = -n:=IntWalk.i64_in _ (by have:=HNN.out; omega)
  have HI1 : Hid (IntKind.i64.wrap (-n) = -n):=i1
  clear hwe hie hpe i2
  go_upto_region 12 with fail
  have h1 : once [(55,0),(56,1),(57,2),(58,3),(59,4),(60,5),(61,6),(62,7),(63,8)] = true:=by kernel_rfl
  have h2 : within [(55,0),(56,1),(57,2),(58,3),(59,4),(60,5),(61,6),(62,7),(63,8)] 64 = true:=by kernel_rfl
  let S : Nat → (Nat → Value) → World → Prop:=fun i xs W=>match i with
   | 0=>xs 0 = .pointer (some ⟨w.heap.size,0,none⟩)
   | 1=>xs 1 = .bool a.neg
   | 2=>WideI W (xs 2) ((N : Nat) : Int)
   | 3=>xs 3 = .string (bs (Lib.decDigits N))
   | 4=>xs 4 = .int .i64 n
   | 5=>xs 5 = .int .i64 (-n)
   | 6=>xs 6 = .tuple #[dcV D,.int .i64 X]
   | 7=>xs 7 = dcV D
   | 8=>xs 8 = .int .i64 X
   | _=>True
  have hstab : ∀ j ys W W',S j ys W → Below W.heap.size W W' → S j ys W':=by
   intro j ys W W' h hb
   match j,h with
   | 0,h=>exact h
   | 1,h=>exact h
   | 2,h=>exact h.below hb
   | 3,h=>exact h
   | 4,h=>exact h
   | 5,h=>exact h
   | 6,h=>exact h
   | 7,h=>exact h
   | 8,h=>exact h
   | _ + 9,h=>exact trivial
  refine wp_region_flow3T 9 11 4 [(55,0),(56,1),(57,2),(58,3),(59,4),(60,5),(61,6),(62,7),(63,8)] [] S (fun _ W=>(fun W=>Below we.heap.size we W) W) ((Below.refl _ _).drew) (by kernel_rfl) (by kernel_rfl) (by kernel_rfl) (by decide) (by kernel_rfl) h1 (by kernel_rfl) ?_ ?_ ?_ ?_
  ·exact fun j hj=>by cases hj
  ·intro j xs ys W e h
   match j,e,h with
   | 0,e,h=>exact c_ (e 0 (.inl rfl)) h
   | 1,e,h=>exact c_ (e 1 (.inl rfl)) h
   | 2,e,h=>exact (congrArg (fun z=>WideI W z _) (e 2 (.inl rfl))).mp h
   | 3,e,h=>exact c_ (e 3 (.inl rfl)) h
   | 4,e,h=>exact c_ (e 4 (.inl rfl)) h
   | 5,e,h=>exact c_ (e 5 (.inl rfl)) h
   | 6,e,h=>exact c_ (e 6 (.inl rfl)) h
   | 7,e,h=>exact c_ (e 7 (.inl rfl)) h
   | 8,e,h=>exact c_ (e 8 (.inl rfl)) h
   | _ + 9,e,h=>exact trivial
  ·refine ⟨⟨⟨⟨⟨⟨⟨⟨⟨trivial,?_⟩,?_⟩,?_⟩,?_⟩,?_⟩,?_⟩,?_⟩,?_⟩,?_⟩
   ·refine flow3_step _ (some 55) rfl rfl rfl h1 h2 gI gB hstab fun ac xs W Dn he hni hb hS K hK=>?_
    have e0 : ac.eval (.tmp 3) = .pointer (some ⟨w.heap.size,0,none⟩):=he 3
    refine op_any (.fieldAddr 35 (.tmp 3) 0) rfl (.pointer (some ⟨w.heap.size,0,none⟩)) (fun o' ho'=>?_) (hK _ _ rfl bR nA)
    simp only [execOp,ho',e0]
    go_simp
   ·refine flow3_step _ (some 56) rfl rfl rfl h1 h2 gI gB hstab fun ac xs W Dn he hni hb hS K hK=>?_
    have e0:=(he 55).trans (hS 0 (by kernel_rfl))
    refine op_any (.load 4 (.tmp 55)) rfl (.bool a.neg) (fun o' ho'=>?_) (hK _ _ rfl bR nA)
    simp only [execOp,ho',e0]
    have hc:=cell_of_row W w.heap.size 0 _ _ _ (HPE.out.below hb).1
    go_simp
   ·refine flow3_step _ (some 57) rfl rfl rfl h1 h2 gI gB hstab fun ac xs W Dn he hni hb hS K hK=>?_
    obtain ⟨ra,rm,rc,hrow,hval⟩:=((HIE.out.below hb)).val
    exact wp_load_row 123 (.tmp 9) rfl g9 (he 9) _ _ _ _ hrow Tryz.underlying123 rfl (by kernel_rfl) (hK _ _ hval bR nA)
   ·refine flow3_step _ (some 58) rfl rfl rfl h1 h2 gI gB hstab fun ac xs W Dn he hni hb hS K hK=>?_
    have e0 : ac.eval (.tmp 57) = xs 2:=he 57
    refine op_call 105 _ _ rfl _ (by simp only [List.map,e0]) (by go_simp) (HTX.out W _ (HPE.out.below hb).2.2 (hS 2 (by kernel_rfl))) ?_
    rintro e' W' ⟨rfl,hb'⟩
    exact ⟨_,rfl,hK _ _ (rfl) hb' nA⟩
   ·refine flow3_step _ (some 59) rfl rfl rfl h1 h2 gI gB hstab fun ac xs W Dn he hni hb hS K hK=>?_
    exact op_move (.tmp 1) (.inl rfl) (hK _ _ (he 1) bR nA)
   ·refine flow3_step _ (some 60) rfl rfl rfl h1 h2 gI gB hstab fun ac xs W Dn he hni hb hS K hK=>?_
    have k0:=HI1.out
    have e0:=(he 59).trans (hS 4 (by kernel_rfl))
    refine op_any (.unOp .neg 3 (.tmp 59)) rfl (.int .i64 (-n)) (fun o' ho'=>?_) (hK _ _ rfl bR nA)
    simp only [execOp,ho',e0]
    go_simp
   ·refine flow3_step _ (some 61) rfl rfl rfl h1 h2 gI gB hstab fun ac xs W Dn he hni hb hS K hK=>?_
    have e0:=(he 56).trans (hS 1 (by kernel_rfl))
    have e1:=(he 58).trans (hS 3 (by kernel_rfl))
    have e2:=(he 60).trans (hS 5 (by kernel_rfl))
    refine op_call 167 _ _ rfl _ (by simp only [List.map,e0,e1,e2]) (by go_simp) (HMD.out W) ?_
    rintro e' W' ⟨rfl,hb'⟩
    exact ⟨_,rfl,hK _ _ (rfl) hb' nA⟩
   ·refine flow3_step _ (some 62) rfl rfl rfl h1 h2 gI gB hstab fun ac xs W Dn he hni hb hS K hK=>?_
    have e0:=(he 61).trans (hS 6 (by kernel_rfl))
    refine op_any (.extract (.tmp 61) 0) rfl (dcV D) (fun o' ho'=>?_) (hK _ _ rfl bR nA)
    simp only [execOp,ho',e0]
    go_simp
   ·refine flow3_step _ (some 63) rfl rfl rfl h1 h2 gI gB hstab fun ac xs W Dn he hni hb hS K hK=>?_
    have e0:=(he 61).trans (hS 6 (by kernel_rfl))
    refine op_any (.extract (.tmp 61) 1) rfl (.int .i64 X) (fun o' ho'=>?_) (hK _ _ rfl bR nA)
    simp only [execOp,ho',e0]
    go_simp
  ·intro xs WL Dn hall hb hS hD
   have s7 : xs 7 = _:=hS 7 (by decide)
   have s8 : xs 8 = _:=hS 8 (by decide)
   obtain ⟨f0,c0,f1,c1,f2,c2,r3⟩:=rw3 (HPE.out.below hb).2.1
   have HR : Hid _:=r3
   have HBB : Hid (Below w.heap.size w WL):=(HPE.out.below hb).2.2
   simp only [layAll,s7,s8,List.setIfInBounds_toArray,List.set_cons_succ,List.set_cons_zero]
   clear hS hD hall hstab S hb r3 s7 s8 h1 h2
   simp only [dcV]
   go_wp2
   exact dc_end rfl rfl rfl (HR.out _ _ _) rfl rfl (below_row3 HBB.out (Nat.le_add_right _ 1) _ _ _)
set_option maxHeartbeats 4000000 in
theorem rplaces_v (a : Dc) (n m : Int) (w : World) (htab : Tab w) (hsa : a.s.length ≤ 9223372036854775807) :
  Calls Tryz.prog 48 #[.agg #[.bool a.neg,.string (bs a.s),.int .i64 a.e],.int .i64 n,.int .i64 m] w (DcQ (placesA a n m).1 (placesA a n m).2 w):=by
 obtain ⟨R,hR⟩ : ∃ R,R = placesA a n m:=⟨_,rfl⟩
 rw [← hR]
 have HR : Hid (R = placesA a n m):=hR
 obtain ⟨w4,hw4⟩ : ∃ W,W = ((w.alloc (.cells #[.bool a.neg,.string (bs a.s),.int .i64 a.e] 35)).alloc (.cells #[.bool false,.string ⟨#[]⟩,.int .i64 0] 35)).alloc (.cells #[.bool a.neg,.string (bs a.s),.int .i64 a.e] 35):=⟨_,rfl⟩
 have hba : Below w.heap.size w w4:=by rw [hw4]; exact (((Below.refl _ _).alloc (Nat.le_refl _) _).alloc (by simp) _).alloc (by simp; omega) _
 have hsz : w4.heap.size = w.heap.size + 3:=by rw [hw4]; simp
 have q0 : w4.heap[w.heap.size]? = some (.cells #[.bool a.neg,.string (bs a.s),.int .i64 a.e] 35 (0,0)):=by rw [hw4]; exact (heap_alloc_old _ _ (by simp; omega)).trans (heap_alloc2_old w _ _)
 have q1 : w4.heap[w.heap.size + 1]? = some (.cells #[.bool false,.string ⟨#[]⟩,.int .i64 0] 35 (0,0)):=by rw [hw4]; exact (heap_alloc_old _ _ (by simp)).trans (heap_alloc2_new w _ _)
 have HX : Hid (∀ W,Below w4.heap.size w4 W → W.heap[w.heap.size]? = some (.cells #[.bool a.neg,.string (bs a.s),.int .i64 a.e] 35 (0,0)) ∧ W.heap[w.heap.size + 1]? = some (.cells #[.bool false,.string ⟨#[]⟩,.int .i64 0] 35 (0,0)) ∧ Below w.heap.size w W):=fun W hW=>
  ⟨hW.blk q0 (by omega),hW.blk q1 (by omega),hba.trans (hW.mono hba.size)⟩
 have HSZ : Hid (w4.heap.size = w.heap.size + 3):=hsz
 obtain ⟨p,hp⟩ : ∃ p,p = ([a].all (fun d=>d.okB) && decide (1 ≤ m ∧ m ≤ 6)):=⟨_,rfl⟩
 have q3 : w4.heap[w.heap.size + 2]? = some (.cells #[.bool a.neg,.string (bs a.s),.int .i64 a.e] 35 (0,0)):=by
  rw [hw4]
  have:=heap_alloc_new ((w.alloc (.cells #[.bool a.neg,.string (bs a.s),.int .i64 a.e] 35)).alloc (.cells #[.bool false,.string ⟨#[]⟩,.int .i64 0] 35)) (.cells #[.bool a.neg,.string (bs a.s),.int .i64 a.e] 35)
  simpa using this
 have HM : Hid (Calls Tryz.prog 107 #[.int .i64 m,.slice (some ⟨w.heap.size + 2,0,none⟩) 1 1] w4 fun e w'=>e = .returned (.bool p) ∧ Below w4.heap.size w4 w'):=by
  have:=may_v m [a] (w.heap.size + 2) 1 w4 (by omega) (decs_one q3) (by simp) (by omega) (by simp; exact hsa)
  rw [← hp] at this
  exact this
 have HP : Hid (p = true ↔ (a.ok ∧ 1 ≤ m ∧ m ≤ 6)):=by
  show _ ↔ _
  rw [hp]
  simp [okB_iff]
 have HTB : Hid (Tab w):=htab
 clear hR hba hsz q0 q1 q3 hp htab
 go_enter Tryz.func48,Tryz.ntmps48
 go_wp2_with fail
 rw [← hw4]
 clear hw4
 refine Calls.mono HM.out ?_
 rintro e w5 ⟨rfl,hb5⟩
 have HB5 : Hid (Below w4.heap.size w4 w5):=hb5
 obtain ⟨f0,c0,f1,c1,f2,c2,r3⟩:=rw3 (HX.out w5 hb5).2.1
 have HR3 : Hid _:=r3
 have HBW : Hid (Below w.heap.size w w5):=(HX.out w5 hb5).2.2
 have ka0:=cell_of_row w5 w.heap.size 0 _ _ _ (HX.out w5 hb5).1
 have ka1:=cell_of_row w5 w.heap.size 1 _ _ _ (HX.out w5 hb5).1
 have ka2:=cell_of_row w5 w.heap.size 2 _ _ _ (HX.out w5 hb5).1
 clear hb5 r3 HM
 by_cases hall : p = true ∧ -20000 ≤ n ∧ n ≤ 20000
 ·obtain ⟨rfl,l1,l2⟩:=hall
  obtain ⟨oa,m1,m2⟩:=HP.out.1 rfl
  have g1 : ¬ n < -20000:=by omega
  have g2 : ¬ 20000 < n:=by omega
  have HOA : Hid a.ok:=oa
  have HLN : Hid (-20000 ≤ n ∧ n ≤ 20000 ∧ 1 ≤ m ∧ m ≤ 6):=⟨l1,l2,m1,m2⟩
  have HRN : Hid (R = if a.s = [] then (a,0) else placesC a (n) m):=by
   show _ = _
   rw [HR.out]; unfold placesA
   rw [if_neg (fun h=>h ⟨oa,m1,m2,l1,l2⟩)]
  clear HP HR oa m1 m2 l1 l2 hsa
  by_cases ha0 : a.s = []
  ·have HRM : Hid (R = (a,0)):=by show _ = _; rw [HRN.out,if_pos ha0]
   have hf:=emp_slice ha0
   clear ha0 HRN
   go_wp2
   rw [HRM.out]
   exact dc_end rfl rfl rfl (HR3.out _ _ _) rfl rfl (below_row3 HBW.out (Nat.le_add_right _ 1) _ _ _)
  ·have hf:=emp_not ha0
   have HOE : Hid (allDig a.s ∧ a.s.length ≤ 8192 ∧ -20000 ≤ a.e ∧ a.e ≤ 20000):=by
    rcases HOA.out with h | h
    ·exact absurd (by rw [h]; rfl) ha0
    ·exact ⟨h.1,h.2.1,h.2.2.2.2.2.1,h.2.2.2.2.2.2⟩
   have HRM : Hid (R = placesC a (n) m):=by show _ = _; rw [HRN.out,if_neg ha0]
   have HPC : Hid (Calls Tryz.prog 108 #[.agg #[.bool a.neg,.string (bs a.s),.int .i64 a.e],.int .i64 (n),.int .i64 m] w5 (DcQ R.1 R.2 w5)):=by
    rw [HRM.out]
    exact places_v a (n) m w5 HOE.out.2.1 HOE.out.1 ha0 HOE.out.2.2 (by have:=HOE.out; have:=HLN.out; omega) HLN.out.2.2 (HTB.out.below HBW.out)
   clear ha0 HRN f0 c0 f1 c1 f2 c2 HR3
   go_wp2_with fail
   refine Calls.mono HPC.out ?_
   rintro e w6 ⟨rfl,hb6⟩
   obtain ⟨f0,c0,f1,c1,f2,c2,r3⟩:=rw3 (HX.out w6 (HB5.out.thru hb6)).2.1
   have HR3 : Hid _:=r3
   have HB6 : Hid (Below w.heap.size w w6):=(HX.out w6 (HB5.out.thru hb6)).2.2
   obtain ⟨D,X⟩:=R
   simp only [dcV]
   clear hb6 r3 ka0 ka1 ka2
   go_wp2
   exact dc_end rfl rfl rfl (HR3.out _ _ _) rfl rfl (below_row3 HB6.out (Nat.le_add_right _ 1) _ _ _)
 ·have HRM : Hid (R = (Dc.none, 1)) := by
   show _ = _
   rw [HR.out]; unfold placesA
   rw [if_pos (fun h=>hall ⟨HP.out.2 ⟨h.1,h.2.1,h.2.2.1⟩,h.2.2.2.1,h.2.2.2.2⟩)]
  have hpq : p = true → ¬ (-20000 ≤ n ∧ n ≤ 20000):=fun h h'=>hall ⟨h,h'⟩
  clear HP HR hsa hall
  have hrm:=HRM.out
  clear HRM
  subst hrm
  clear ka0 ka1 ka2
  cases p
  ·clear hpq
   go_wp2
   exact dc_end rfl rfl rfl (HR3.out _ _ _) rfl rfl (below_row3 HBW.out (Nat.le_add_right _ 1) _ _ _)
  ·have hc : n < -20000 ∨ (¬ n < -20000 ∧ 20000 < n) := by
    have:=hpq rfl
    omega
   clear hpq
   rcases hc with g1 | ⟨g1,g2⟩
   ·go_wp2
    exact dc_end rfl rfl rfl (HR3.out _ _ _) rfl rfl (below_row3 HBW.out (Nat.le_add_right _ 1) _ _ _)
   ·go_wp2
    exact dc_end rfl rfl rfl (HR3.out _ _ _) rfl rfl (below_row3 HBW.out (Nat.le_add_right _ 1) _ _ _)
end Go.Proofs.YtlbokicainimnaaGreatDoor
