import Derived.Test.YtlbokicainimnaaGreatDoorQRH
import Derived.Test.YtlbokicainimnaaGreatDoorQIA
set_option maxRecDepth 100000
namespace Go.Proofs.YtlbokicainimnaaGreatDoor
open Go Go.RowKit
open Go.Lib hiding intOf
set_option maxHeartbeats 8000000 in
theorem rbetween9_v (a b M : Nat) (e : Int) (f : Dc) (av : Option Addr) (mm cc : Nat) (w : World) (ha : W64 a) (hb : W64 b) (hM : Num .u32 4294967296 w (.slice av mm cc) M) (hM0 : M ≠ 0) (he : -1074 ≤ e ∧ e ≤ 0) (hr : M * 2 ^ (e + LP).toNat < 2 ^ LP) (hf : Rep f ((M * 2 ^ (e + LP).toNat * 5 ^ LP : Nat) : Int) (-(LP : Int))) :
  Calls Tryz.prog 66 #[.int .u64 (a : Nat),.int .u64 (b : Nat),.slice av mm cc,.int .i64 e] w fun en w'=>en = .returned (.int .u64 (btwA a b f : Nat)) ∧ Below w.heap.size w w':=by
 have HSM : Hid (∀ W,Calls Tryz.prog 89 #[.int .u64 (a : Nat),.int .u64 (b : Nat)] W fun e w'=>e = .returned (.bool (keyB a == keyB b)) ∧ W = w'):=fun W=>ref_same a b W ha hb
 have HNA : Hid (∀ W,Calls Tryz.prog 34 #[.int .u64 (a : Nat)] W fun e w'=>e = .returned (.bool (nanB a)) ∧ W = w'):=fun W=>ref_isnan a W ha
 have HNB : Hid (∀ W,Calls Tryz.prog 34 #[.int .u64 (b : Nat)] W fun e w'=>e = .returned (.bool (nanB b)) ∧ W = w'):=fun W=>ref_isnan b W hb
 have e5 : ((mm : Int) == 0) = false:=by
  have h1:=hM.len (by decide)
  have h2 : mm ≠ 0:=fun h=>hM0 (h1.2 h)
  rw [beq_eq_false_iff_ne]; omega
 have HA : Hid (W64 a ∧ W64 b):=⟨ha,hb⟩
 have x1:=w_andNot_sign a ha
 have x2:=w_andNot_sign b hb
 obtain ⟨T,hT⟩ : ∃ T,T = btwA a b f:=⟨_,rfl⟩
 rw [← hT]
 by_cases hk : keyB a = keyB b
 ·have ht : T = a:=by rw [hT]; unfold btwA; rw [if_pos hk]
  rw [show (keyB a == keyB b) = true by rw [hk]; simp] at HSM
  subst ht
  clear hT hk hf hr hM hM0 he x1 x2 ha hb
  go_enter Tryz.func66,Tryz.ntmps66
  go_wp2_with (first | (go_at_call 89; with_reducible refine (HSM.out _).mono ?_; rintro e w' ⟨rfl,rfl⟩) | (go_at_call 34; with_reducible refine (HNA.out _).mono ?_; rintro e w' ⟨rfl,rfl⟩) | (go_at_call 34; with_reducible refine (HNB.out _).mono ?_; rintro e w' ⟨rfl,rfl⟩))
  go_ret
  exact ⟨rfl,Below.refl _ _⟩
 rw [show (keyB a == keyB b) = false by rw [beq_eq_false_iff_ne]; exact hk] at HSM
 cases na : nanB a
 ·rw [na] at HNA
  cases nb : nanB b
  ·rw [nb] at HNB
   cases hia : infB a
   ·have hni : ninfB a = false := by
     cases h : ninfB a
     ·rfl
     ·have h1 : a = 18442240474082181120:=of_decide_eq_true h
      rw [h1] at hia
      exact absurd hia (by decide)
    have e1:=hni
    have e3:=hia
    cases hib : infB b
    ·have e4:=hib
     have fa : finB a = true:=by rw [finB_eq,na,hia]; rfl
     have fb : finB b = true:=by rw [finB_eq,nb,hib]; rfl
     obtain ⟨r,hr2⟩ : ∃ r,r = M * 2 ^ (e + LP).toNat:=⟨_,rfl⟩
     rw [← hr2] at hr hf
     obtain ⟨R,hN⟩:=near_ex 52 (btT a b r).natAbs (2 ^ LP) (Nat.two_pow_pos _)
     have hT2:=btwA_fin fa fb hr hf hN
     rw [if_neg hk,← hT] at hT2
     have hR:=btw_room fa fb hr hN
     have q1:=spE_range a
     have q2:=spE_range b
     obtain ⟨G1,hG1⟩ : ∃ G,min (spE b) (spE a) = G:=⟨_,rfl⟩
     obtain ⟨X1,hX1⟩ : ∃ X,X = spM b * 2 ^ (spE b - G1).toNat:=⟨_,rfl⟩
     obtain ⟨Y1,hY1⟩ : ∃ X,X = spM a * 2 ^ (spE a - G1).toNat:=⟨_,rfl⟩
     have v1:=sum_val1 fa fb hG1
     rw [← hX1,← hY1] at v1
     obtain ⟨K,hK⟩ : ∃ K : Nat,K = 5000:=⟨_,rfl⟩
     have sX1 : X1 < 2 ^ (53 + K):=by rw [hX1]; exact term_small (spM_lt b) (by omega)
     have sY1 : Y1 < 2 ^ (53 + K):=by rw [hY1]; exact term_small (spM_lt a) (by omega)
     have sM1:=sumM_small (spS b) (!spS a) sX1 sY1
     have HS1 : Hid (∀ W v v',Term W v (spS b) (spM b) (spE b) → Term W v' (!spS a) (spM a) (spE a) → Calls Tryz.prog 131 #[v,v'] W (TermQ (sumS (spS b) (!spS a) X1 Y1) (sumM (spS b) (!spS a) X1 Y1) G1 W)):=fun W v v' h h'=>by
      have:=r7_sum v v' _ _ _ _ _ _ _ W h h' (bb:=53) (spM_lt b) (spM_lt a) (by decide) (by omega) (by omega) hG1
      rw [← hX1,← hY1] at this
      exact this
     obtain ⟨s1,hs1⟩ : ∃ s,s = sumS (spS b) (!spS a) X1 Y1:=⟨_,rfl⟩
     obtain ⟨M1,hM1⟩ : ∃ m,m = sumM (spS b) (!spS a) X1 Y1:=⟨_,rfl⟩
     rw [← hs1,← hM1] at v1 HS1
     rw [← hM1] at sM1
     have sM : M < 2 ^ LP:=by
      refine Nat.lt_of_le_of_lt ?_ hr
      rw [hr2]
      exact Nat.le_mul_of_pos_right _ (Nat.two_pow_pos _)
     have hl:=LP_eq
     have sM1b : M1 < 2 ^ (53 + K + 1 + LP):=Nat.lt_of_lt_of_le sM1 (Nat.pow_le_pow_right (by decide) (by omega))
     have sMb : M < 2 ^ (53 + K + 1 + LP):=Nat.lt_of_lt_of_le sM (Nat.pow_le_pow_right (by decide) (by omega))
     have HPR : Hid (∀ W v v',Term W v s1 M1 G1 → Term W v' false M e → Calls Tryz.prog 132 #[v,v'] W (TermQ s1 (M1 * M) (G1 + e) W)):=fun W v v' h h'=>by
      have:=r7_product v v' _ _ _ _ _ _ W h h' (bb:=53 + K + 1 + LP) sM1b sMb (by omega) (by omega) (by omega)
      rw [show (s1 != false) = s1 by cases s1 <;> rfl] at this
      exact this
     obtain ⟨P,hP⟩ : ∃ P,P = M1 * M:=⟨_,rfl⟩
     have sP : P < 2 ^ (53 + K + 1 + LP):=by
      rw [hP,Nat.pow_add]
      exact Nat.mul_lt_mul_of_lt_of_le sM1 (Nat.le_of_lt sM) (Nat.two_pow_pos _)
     obtain ⟨E2,hE2⟩ : ∃ E,E = G1 + e:=⟨_,rfl⟩
     rw [← hP,← hE2] at HPR
     obtain ⟨G2,hG2⟩ : ∃ G,min (spE a) E2 = G:=⟨_,rfl⟩
     obtain ⟨X2,hX2⟩ : ∃ X,X = spM a * 2 ^ (spE a - G2).toNat:=⟨_,rfl⟩
     obtain ⟨Y2,hY2⟩ : ∃ X,X = P * 2 ^ (E2 - G2).toNat:=⟨_,rfl⟩
     have v2:=sum_val2 (X:=X2) (Y:=Y2) (b:=b) (M:=M) (G1:=G1) (s1:=s1) (M1:=M1) fa he (by omega) v1 (by rw [← hE2]; exact hG2) hX2 (by rw [hY2,hP,hE2])
     have HS2 : Hid (∀ W v v',Term W v (spS a) (spM a) (spE a) → Term W v' s1 P E2 → Calls Tryz.prog 131 #[v,v'] W (TermQ (sumS (spS a) s1 X2 Y2) (sumM (spS a) s1 X2 Y2) G2 W)):=fun W v v' h h'=>by
      have:=r7_sum v v' _ _ _ _ _ _ _ W h h' (bb:=53 + K + 1 + LP) (Nat.lt_of_lt_of_le (spM_lt a) (by rw [show (9007199254740992 : Nat) = 2 ^ 53 from rfl]; exact Nat.pow_le_pow_right (by decide) (by omega))) sP (by omega) (by omega) (by omega) hG2
      rw [← hX2,← hY2] at this
      exact this
     have sX2 : X2 < 2 ^ (53 + K + 1 + LP + K):=by
      rw [hX2]
      exact Nat.lt_of_lt_of_le (term_small (K:=K) (spM_lt a) (by omega)) (Nat.pow_le_pow_right (by decide) (by omega))
     have sY2 : Y2 < 2 ^ (53 + K + 1 + LP + K):=by
      rw [hY2,Nat.pow_add]
      exact Nat.mul_lt_mul_of_lt_of_le sP (Nat.pow_le_pow_right (by decide) (by omega)) (Nat.two_pow_pos _)
     have sM2:=sumM_small (spS a) s1 sX2 sY2
     obtain ⟨s2,hs2⟩ : ∃ s,s = sumS (spS a) s1 X2 Y2:=⟨_,rfl⟩
     obtain ⟨M2,hM2⟩ : ∃ m,m = sumM (spS a) s1 X2 Y2:=⟨_,rfl⟩
     rw [← hs2,← hM2] at v2 HS2
     rw [← hM2] at sM2
     rw [← hr2] at v2
     obtain ⟨n1,n2,n3⟩:=sum_near9 (by omega) v2 hN
     have HTO : Hid (∀ W v,Term W v s2 M2 G2 → Calls Tryz.prog 133 #[v,.int .u64 0] W fun en w'=>(∃ x,en = .returned (.tuple #[.int .u64 (T : Nat),.int .i64 x])) ∧ Below W.heap.size W w'):=fun W v h=>by
      have:=told_any s2 v M2 0 G2 W h sM2 (by omega) (by omega) (by omega) (by omega) n1
      unfold ToldQ at this
      have et : (if M2 = 0 then 0 else resB s2 R) = T:=by
       rw [hT2]
       unfold nearK
       by_cases h0 : M2 = 0
       ·rw [if_pos h0,if_pos (n2.1 h0)]
       ·rw [if_neg h0,if_neg (mt n2.2 h0),n3 h0]
        unfold resB
        rw [if_pos hR]
      rw [et] at this
      refine this.mono ?_
      rintro en w' ⟨rfl,hb⟩
      exact ⟨⟨_,rfl⟩,hb⟩
     have HMN : Hid (Num .u32 4294967296 w (.slice av mm cc) M):=hM
     clear hT hT2 hk hf hr hM hM0 he hr2 hN hR q1 q2 hG1 hX1 hY1 v1 hK sX1 sY1 sM1 hs1 hM1 sM hl sM1b sMb hP sP hE2 hG2 hX2 hY2 v2 sX2 sY2 sM2 hs2 hM2 n1 n2 n3 fa fb na nb hia hib hni ha hb
     go_enter Tryz.func66,Tryz.ntmps66
     go_upto_region 12 with (first | (go_at_call 89; with_reducible refine (HSM.out _).mono ?_; rintro e w' ⟨rfl,rfl⟩) | (go_at_call 34; with_reducible refine (HNA.out _).mono ?_; rintro e w' ⟨rfl,rfl⟩) | (go_at_call 34; with_reducible refine (HNB.out _).mono ?_; rintro e w' ⟨rfl,rfl⟩))
     go_wp2_with fail
     refine (r7_of a _ HA.out.1).mono ?_
     rintro en w1 ⟨v,rfl,⟨sl,rfl,hn1⟩,hb1⟩
     obtain ⟨x3,x4,x5,rfl⟩:=hn1.shape
     go_upto_region 14 with fail
     obtain ⟨w3,hw3⟩ : ∃ W,W = w1.alloc (.cells #[.bool (!spS a),.slice x3 x4 x5,.int .i64 (spE a)] 160):=⟨_,rfl⟩
     rw [← hw3]
     have hb2 : Below w1.heap.size w1 w3:=by rw [hw3]; exact (Below.refl _ _).alloc (Nat.le_refl _) _
     have HB3 : Hid (Below w.heap.size w w3):=hb1.thru hb2
     have HL3 : Hid (w3.heap[w1.heap.size]? = some (.cells #[.bool (!spS a),.slice x3 x4 x5,.int .i64 (spE a)] 160 (0,0))):=by rw [hw3]; exact new_blk w1 _
     have HT3 : Hid (Term w3 (.agg #[.bool (!spS a),.slice x3 x4 x5,.int .i64 (spE a)]) (!spS a) (spM a) (spE a)):=⟨_,rfl,hn1.below (Nat.le_refl _) hb2⟩
     clear hn1 hb1 hb2 hw3
     have h1 : once [(60,0),(61,1),(62,2),(63,3),(13,4)] = true:=by kernel_rfl
     have h2 : within [(60,0),(61,1),(62,2),(63,3),(13,4)] 78 = true:=by kernel_rfl
     refine wp_region_flow 5 6 [(60,0),(61,1),(62,2),(63,3),(13,4)] [4] (fun ix v W=>match ix with
      | 0=>v = .int .u64 (b : Nat)
      | 1=>Term W v (spS b) (spM b) (spE b)
      | 2=>v = .agg #[.bool (!spS a),.slice x3 x4 x5,.int .i64 (spE a)]
      | 3=>Term W v s1 M1 G1
      | _=>∃ g,v = .pointer (some ⟨g,0,none⟩) ∧ w3.heap.size ≤ g ∧ g < W.heap.size ∧ W.heap[g]? = some (.cells #[.bool false,.slice none 0 0,.int .i64 0] 160 (0,0))) w3.heap.size (Nat.le_refl _) (by kernel_rfl) (by kernel_rfl) (by kernel_rfl) (by decide) (by kernel_rfl) h1 (by kernel_rfl) ?_ ?_ ?_ ?_
     ·intro j v W W' h hb
      match j,h with
      | 0,h=>exact h
      | 1,h=>exact h.below (Nat.le_refl _) hb
      | 2,h=>exact h
      | 3,h=>exact h.below (Nat.le_refl _) hb
      | _ + 4,⟨g,s1,s2,s3,s4⟩=>exact ⟨g,s1,s2,Nat.lt_of_lt_of_le s3 hb.size,hb.blk s4 s3⟩
     ·intro j hj v W h
      simp only [List.mem_cons,List.not_mem_nil,or_false] at hj
      rcases hj with rfl
      ·obtain ⟨g,s1,s2,s3,s4⟩:=h; exact ⟨g,s1,s3⟩
     ·refine ⟨⟨⟨⟨⟨trivial,?_⟩,?_⟩,?_⟩,?_⟩,?_⟩
      ·refine flow_step _ 60 rfl rfl (fun d h=>by simpa using h) h1 h2 fun ac xs W he hb hS K hK=>?_
       exact op_move (.tmp 1) (.inl rfl) (hK _ _ (he 1) bR (fun h=>absurd h (by decide)))
      ·refine flow_step _ 61 rfl rfl (fun d h=>by simpa using h) h1 h2 fun ac xs W he hb hS K hK=>?_
       have e0:=(he 60).trans (hS 0 (by kernel_rfl))
       refine op_call 130 _ _ rfl _ (by simp only [List.map,e0]) (by go_simp) (r7_of b W HA.out.2) ?_
       rintro e' W' ⟨v1,rfl,ht,hb'⟩
       exact ⟨_,rfl,hK _ _ (ht) hb' (fun h=>absurd h (by decide))⟩
      ·refine flow_step _ 62 rfl rfl (fun d h=>by simpa using h) h1 h2 fun ac xs W he hb hS K hK=>?_
       exact wp_load_row 160 (.tmp 12) rfl w1.heap.size (he 12) _ _ _ _ ((hb.blk HL3.out (blk_lt HL3.out))) Tryz.underlying160 rfl (by kernel_rfl) (hK _ _ rfl bR (fun h=>absurd h (by decide)))
      ·refine flow_step _ 63 rfl rfl (fun d h=>by simpa using h) h1 h2 fun ac xs W he hb hS K hK=>?_
       have e0 : ac.eval (.tmp 61) = xs 1:=he 61
       have e1:=(he 62).trans (hS 2 (by kernel_rfl))
       refine op_call 131 _ _ rfl _ (by simp only [List.map,e0,e1]) (by go_simp) (HS1.out W (xs 1) _ (hS 1 (by kernel_rfl)) (HT3.out.below (Nat.le_refl _) hb)) ?_
       rintro e' W' ⟨v1,rfl,ht,hb'⟩
       exact ⟨_,rfl,hK _ _ (ht) hb' (fun h=>absurd h (by decide))⟩
      ·refine flow_step _ 13 rfl rfl (fun d h=>by simpa using h) h1 h2 fun ac xs W he hb hS K hK=>?_
       have hsz:=hb.size
       refine op_anyw (.alloc 160) rfl (.pointer (some ⟨W.heap.size,0,none⟩)) (W.alloc (.cells #[.bool false,.slice none 0 0,.int .i64 0] 160)) ?_ ?_
       ·intro o' ho'
        simp only [execOp,ho']
        go_simp
       ·exact hK _ _ ⟨_,rfl,by omega,by simp,heap_alloc_new _ _⟩ (bR.alloc (Nat.le_refl _) _) (fun _=>rfl)
     ·intro xs w4 hb hS hD
      obtain ⟨sl,e6,hn4⟩ : Term w4 (xs 3) s1 M1 G1:=hS 3 (by decide)
      obtain ⟨g9,s4,s5,s6,s7⟩:=hS 4 (by decide)
      obtain ⟨y3,y4,y5,rfl⟩:=hn4.shape
      have HN4 : Hid (Num .u32 4294967296 w4 (.slice y3 y4 y5) M1):=hn4
      have HB4 : Hid (Below w3.heap.size w3 w4):=hb
      have HR4 : Hid (w4.heap[g9]? = some (.cells #[.bool false,.slice none 0 0,.int .i64 0] 160 (0,0))):=s7
      have HG9 : Hid (w3.heap.size ≤ g9):=s5
      generalize xs 0 = z0 at *
      generalize xs 1 = z1 at *
      generalize xs 2 = z2 at *
      simp only [layAll,e6,s4]
      clear hS hD e6 s4 hn4 hb s5 s6
      obtain ⟨f0,c0,f1,c1,f2,c2,-⟩:=rw3 s7
      clear s7
      go_upto_region 15 with fail
      obtain ⟨w5,hw5⟩ : ∃ W,W = ((w4.setCell ⟨g9,0,none⟩ (.bool s1)).setCell ⟨g9,1,none⟩ (.slice y3 y4 y5)).setCell ⟨g9,2,none⟩ (.int .i64 G1):=⟨_,rfl⟩
      rw [← hw5]
      have h5 : w5.heap[g9]? = some (.cells #[.bool s1,.slice y3 y4 y5,.int .i64 G1] 160 (0,0)):=by rw [hw5]; exact (rw3 HR4.out).2.2.2.2.2.2 _ _ _
      have HT5 : Hid (Term w5 (.agg #[.bool s1,.slice y3 y4 y5,.int .i64 G1]) s1 M1 G1):=⟨_,rfl,by rw [hw5]; exact Num.set3 HN4.out HR4.out _ _ _⟩
      have HB5 : Hid (Below w3.heap.size w3 w5):=by show Below _ _ _; rw [hw5]; exact below_row3 HB4.out HG9.out _ _ _
      have HM5 : Hid (Term w5 (.agg #[.bool false,.slice av mm cc,.int .i64 e]) false M e):=⟨_,rfl,HMN.out.below (Nat.le_refl _) (HB3.out.thru HB5.out)⟩
      have HR5 : Hid _:=h5
      clear f0 c0 f1 c1 f2 c2 hw5 HN4 HR4 HB4
      have d0:=cell_of_row w5 g9 0 _ _ _ h5
      have d1:=cell_of_row w5 g9 1 _ _ _ h5
      have d2:=cell_of_row w5 g9 2 _ _ _ h5
      clear h5
      go_wp2_with fail
      refine (HPR.out w5 _ _ HT5.out HM5.out).mono ?_
      rintro en w6 ⟨v,rfl,⟨sl,rfl,hn6⟩,hb6⟩
      obtain ⟨z3,z4,z5,rfl⟩:=hn6.shape
      have h6:=hb6.blk HR5.out (blk_lt HR5.out)
      have HR6 : Hid _:=h6
      have HN6 : Hid (Num .u32 4294967296 w6 (.slice z3 z4 z5) P):=hn6
      have HB6 : Hid (Below w3.heap.size w3 w6):=HB5.out.thru hb6
      clear d0 d1 d2 hb6 hn6 HT5 HM5 HR5 HB5
      obtain ⟨f0,c0,f1,c1,f2,c2,-⟩:=rw3 h6
      clear h6
      go_upto_region 16 with fail
      obtain ⟨w7,hw7⟩ : ∃ W,W = ((w6.setCell ⟨g9,0,none⟩ (.bool s1)).setCell ⟨g9,1,none⟩ (.slice z3 z4 z5)).setCell ⟨g9,2,none⟩ (.int .i64 E2):=⟨_,rfl⟩
      rw [← hw7]
      have HL7 : Hid (w7.heap[g9]? = some (.cells #[.bool s1,.slice z3 z4 z5,.int .i64 E2] 160 (0,0))):=by show _ = _; rw [hw7]; exact (rw3 HR6.out).2.2.2.2.2.2 _ _ _
      have HT7 : Hid (Term w7 (.agg #[.bool s1,.slice z3 z4 z5,.int .i64 E2]) s1 P E2):=⟨_,rfl,by rw [hw7]; exact Num.set3 HN6.out HR6.out _ _ _⟩
      have HB7 : Hid (Below w.heap.size w w7):=HB3.out.thru (by rw [hw7]; exact below_row3 HB6.out HG9.out _ _ _)
      clear f0 c0 f1 c1 f2 c2 hw7 HN6 HR6 HB6
      have h1 : once [(70,0),(71,1),(72,2),(73,3),(74,4),(69,5),(75,6),(76,7),(14,8)] = true:=by kernel_rfl
      have h2 : within [(70,0),(71,1),(72,2),(73,3),(74,4),(69,5),(75,6),(76,7),(14,8)] 78 = true:=by kernel_rfl
      refine wp_region_flow 9 10 [(70,0),(71,1),(72,2),(73,3),(74,4),(69,5),(75,6),(76,7),(14,8)] [] (fun ix v W=>match ix with
       | 0=>v = .int .u64 (a : Nat)
       | 1=>Term W v (spS a) (spM a) (spE a)
       | 2=>v = .agg #[.bool s1,.slice z3 z4 z5,.int .i64 E2]
       | 3=>Term W v s2 M2 G2
       | 4=>∃ x,v = .tuple #[.int .u64 (T : Nat),.int .i64 x]
       | 5=>∃ x,v = .tuple #[.int .u64 (T : Nat),.int .i64 x]
       | 6=>v = .int .u64 (T : Nat)
       | 7=>True
       | _=>v = .int .u64 (T : Nat)) w7.heap.size (Nat.le_refl _) (by kernel_rfl) (by kernel_rfl) (by kernel_rfl) (by decide) (by kernel_rfl) h1 (by kernel_rfl) ?_ ?_ ?_ ?_
      ·intro j v W W' h hb
       match j,h with
       | 0,h=>exact h
       | 1,h=>exact h.below (Nat.le_refl _) hb
       | 2,h=>exact h
       | 3,h=>exact h.below (Nat.le_refl _) hb
       | 4,h=>exact h
       | 5,h=>exact h
       | 6,h=>exact h
       | 7,h=>exact h
       | _ + 8,h=>exact h
      ·exact fun j hj=>by cases hj
      ·refine ⟨⟨⟨⟨⟨⟨⟨⟨⟨trivial,?_⟩,?_⟩,?_⟩,?_⟩,?_⟩,?_⟩,?_⟩,?_⟩,?_⟩
       ·refine flow_step _ 70 rfl rfl (fun d h=>by simpa using h) h1 h2 fun ac xs W he hb hS K hK=>?_
        exact op_move (.tmp 0) (.inl rfl) (hK _ _ (he 0) bR nA)
       ·refine flow_step _ 71 rfl rfl (fun d h=>by simpa using h) h1 h2 fun ac xs W he hb hS K hK=>?_
        have e0:=(he 70).trans (hS 0 (by kernel_rfl))
        refine op_call 130 _ _ rfl _ (by simp only [List.map,e0]) (by go_simp) (r7_of a W HA.out.1) ?_
        rintro e' W' ⟨v1,rfl,ht,hb'⟩
        exact ⟨_,rfl,hK _ _ (ht) hb' nA⟩
       ·refine flow_step _ 72 rfl rfl (fun d h=>by simpa using h) h1 h2 fun ac xs W he hb hS K hK=>?_
        exact wp_load_row 160 (.tmp 13) rfl g9 (he 13) _ _ _ _ ((hb.blk HL7.out (blk_lt HL7.out))) Tryz.underlying160 rfl (by kernel_rfl) (hK _ _ rfl bR nA)
       ·refine flow_step _ 73 rfl rfl (fun d h=>by simpa using h) h1 h2 fun ac xs W he hb hS K hK=>?_
        have e0 : ac.eval (.tmp 71) = xs 1:=he 71
        have e1:=(he 72).trans (hS 2 (by kernel_rfl))
        refine op_call 131 _ _ rfl _ (by simp only [List.map,e0,e1]) (by go_simp) (HS2.out W (xs 1) _ (hS 1 (by kernel_rfl)) (HT7.out.below (Nat.le_refl _) hb)) ?_
        rintro e' W' ⟨v1,rfl,ht,hb'⟩
        exact ⟨_,rfl,hK _ _ (ht) hb' nA⟩
       ·refine flow_step _ 74 rfl rfl (fun d h=>by simpa using h) h1 h2 fun ac xs W he hb hS K hK=>?_
        have e0 : ac.eval (.tmp 73) = xs 3:=he 73
        refine op_call 133 _ _ rfl _ (by simp only [List.map,eval_const,e0]) (by go_simp) (HTO.out W (xs 3) (hS 3 (by kernel_rfl))) ?_
        rintro e' W' ⟨⟨x,rfl⟩,hb'⟩
        exact ⟨_,rfl,hK _ _ (⟨_,rfl⟩) hb' nA⟩
       ·refine flow_step _ 69 rfl rfl (fun d h=>by simpa using h) h1 h2 fun ac xs W he hb hS K hK=>?_
        obtain ⟨x,s4⟩:=hS 4 (by kernel_rfl)
        exact op_move (.tmp 74) (.inl rfl) (hK _ _ ⟨x,(he 74).trans s4⟩ bR nA)
       ·refine flow_step _ 75 rfl rfl (fun d h=>by simpa using h) h1 h2 fun ac xs W he hb hS K hK=>?_
        obtain ⟨x,s5⟩:=hS 5 (by kernel_rfl)
        have e0:=(he 69).trans s5
        refine op_any (.extract (.tmp 69) 0) rfl (.int .u64 (T : Nat)) (fun o' ho'=>?_) (hK _ _ rfl bR nA)
        simp only [execOp,ho',e0]
        go_simp
       ·refine flow_step _ 76 rfl rfl (fun d h=>by simpa using h) h1 h2 fun ac xs W he hb hS K hK=>?_
        obtain ⟨x,s5⟩:=hS 5 (by kernel_rfl)
        have e0:=(he 69).trans s5
        refine op_any (.extract (.tmp 69) 1) rfl (.int .i64 x) (fun o' ho'=>?_) (hK _ _ trivial bR nA)
        simp only [execOp,ho',e0]
        go_simp
       ·refine flow_step _ 14 rfl rfl (fun d h=>by simpa using h) h1 h2 fun ac xs W he hb hS K hK=>?_
        exact op_move (.tmp 75) (.inr rfl) (hK _ _ ((he 75).trans (hS 6 (by kernel_rfl))) bR nA)
      ·intro xs w8 hb hS hD
       have s8 : xs 8 = _:=hS 8 (by decide)
       generalize xs 0 = z0 at *
       generalize xs 1 = z1 at *
       generalize xs 2 = z2 at *
       generalize xs 3 = z3 at *
       generalize xs 4 = z4 at *
       generalize xs 5 = z5 at *
       generalize xs 6 = z6 at *
       generalize xs 7 = z7 at *
       simp only [layAll,s8]
       have HB8 : Hid (Below w.heap.size w w8):=HB7.out.thru hb
       clear hS hD s8 hb
       go_wp2
       go_ret
       exact ⟨rfl,HB8.out⟩
    ·have e4:=hib
     have ht : T = b:=by
      rw [hT]; unfold btwA
      rw [if_neg hk,if_neg (by rw [na]; decide),if_neg (by rw [nb]; decide),if_neg (by rw [hni]; intro h; exact absurd h.1 (by decide)),if_neg (by rw [hia]; decide),if_pos hib]
     subst ht
     clear hT hk hf hr hM hM0 he na nb hia hib hni ha hb
     go_enter Tryz.func66,Tryz.ntmps66
     go_wp2_with (first | (go_at_call 89; with_reducible refine (HSM.out _).mono ?_; rintro e w' ⟨rfl,rfl⟩) | (go_at_call 34; with_reducible refine (HNA.out _).mono ?_; rintro e w' ⟨rfl,rfl⟩) | (go_at_call 34; with_reducible refine (HNB.out _).mono ?_; rintro e w' ⟨rfl,rfl⟩))
     go_ret
     exact ⟨rfl,Below.refl _ _⟩
   ·have e3:=hia
    by_cases hi : ninfB a = true ∧ pinfB b = true
    ·have ht : T = theNaN:=by rw [hT]; unfold btwA; rw [if_neg hk,if_neg (by rw [na]; decide),if_neg (by rw [nb]; decide),if_pos hi]
     have e1:=hi.1
     have e2:=hi.2
     subst ht
     clear hT hk hf hr hM hM0 he na nb hia hi ha hb
     go_enter Tryz.func66,Tryz.ntmps66
     go_wp2_with (first | (go_at_call 89; with_reducible refine (HSM.out _).mono ?_; rintro e w' ⟨rfl,rfl⟩) | (go_at_call 34; with_reducible refine (HNA.out _).mono ?_; rintro e w' ⟨rfl,rfl⟩) | (go_at_call 34; with_reducible refine (HNB.out _).mono ?_; rintro e w' ⟨rfl,rfl⟩))
     go_ret
     exact ⟨rfl,Below.refl _ _⟩
    ·have ht : T = a := by
      rw [hT]; unfold btwA
      rw [if_neg hk,if_neg (by rw [na]; decide),if_neg (by rw [nb]; decide),if_neg hi,if_pos hia]
     have hnp : ninfB a = false ∨ (ninfB a = true ∧ pinfB b = false):=by
      cases h1 : ninfB a
      ·exact .inl rfl
      ·cases h2 : pinfB b
       ·exact .inr ⟨rfl,rfl⟩
       ·exact absurd ⟨h1,h2⟩ hi
     subst ht
     clear hT hk hf hr hM hM0 he na nb hia hi ha hb
     rcases hnp with h1 | ⟨h1,h2⟩
     ·have e1:=h1
      clear h1
      go_enter Tryz.func66,Tryz.ntmps66
      go_wp2_with (first | (go_at_call 89; with_reducible refine (HSM.out _).mono ?_; rintro e w' ⟨rfl,rfl⟩) | (go_at_call 34; with_reducible refine (HNA.out _).mono ?_; rintro e w' ⟨rfl,rfl⟩) | (go_at_call 34; with_reducible refine (HNB.out _).mono ?_; rintro e w' ⟨rfl,rfl⟩))
      go_ret
      exact ⟨rfl,Below.refl _ _⟩
     ·have e1:=h1
      have e2:=h2
      clear h1 h2
      go_enter Tryz.func66,Tryz.ntmps66
      go_wp2_with (first | (go_at_call 89; with_reducible refine (HSM.out _).mono ?_; rintro e w' ⟨rfl,rfl⟩) | (go_at_call 34; with_reducible refine (HNA.out _).mono ?_; rintro e w' ⟨rfl,rfl⟩) | (go_at_call 34; with_reducible refine (HNB.out _).mono ?_; rintro e w' ⟨rfl,rfl⟩))
      go_ret
      exact ⟨rfl,Below.refl _ _⟩
  ·rw [nb] at HNB
   have ht : T = theNaN:=by rw [hT]; unfold btwA; rw [if_neg hk,if_neg (by rw [na]; decide),if_pos nb]
   subst ht
   clear hT hk hf hr hM hM0 he na nb ha hb
   go_enter Tryz.func66,Tryz.ntmps66
   go_wp2_with (first | (go_at_call 89; with_reducible refine (HSM.out _).mono ?_; rintro e w' ⟨rfl,rfl⟩) | (go_at_call 34; with_reducible refine (HNA.out _).mono ?_; rintro e w' ⟨rfl,rfl⟩) | (go_at_call 34; with_reducible refine (HNB.out _).mono ?_; rintro e w' ⟨rfl,rfl⟩))
   go_ret
   exact ⟨rfl,Below.refl _ _⟩
 ·rw [na] at HNA
  have ht : T = theNaN:=by rw [hT]; unfold btwA; rw [if_neg hk,if_pos na]
  subst ht
  clear hT hk hf hr hM hM0 he na ha hb
  go_enter Tryz.func66,Tryz.ntmps66
  go_wp2_with (first | (go_at_call 89; with_reducible refine (HSM.out _).mono ?_; rintro e w' ⟨rfl,rfl⟩) | (go_at_call 34; with_reducible refine (HNA.out _).mono ?_; rintro e w' ⟨rfl,rfl⟩) | (go_at_call 34; with_reducible refine (HNB.out _).mono ?_; rintro e w' ⟨rfl,rfl⟩))
  go_ret
  exact ⟨rfl,Below.refl _ _⟩
set_option maxHeartbeats 8000000 in
theorem rshare9_v {a : Option Addr} {n c : Nat} {l : List Nat} (p : Nat) (w : World) (hn : l.length = n) (hmax : n * 8 ≤ 140737488355328) (hl : ∀ x ∈ l, W64 x) (hcell : UIn w a n l) (hp : W64 p) :
  Calls Tryz.prog 22 #[.slice a n c,.int .u64 (p : Nat)] w fun e w'=>e = .returned (.tuple #[.int .u64 ((shareA l p).1 : Nat),.int .i64 (shareA l p).2]) ∧ Below w.heap.size w w':=by
 by_cases h0 : n = 0
 ·subst h0
  have ht : shareA l p = (0,4):=by unfold shareA; rw [if_pos hn]
  rw [ht]
  clear hcell hl
  go_enter Tryz.func22,Tryz.ntmps22
  go_wp2
  go_ret2
  exact ⟨rfl,Below.refl _ _⟩
 have HNO : Hid (∀ W,Calls Tryz.prog 64 #[.int .u64 (p : Nat)] W fun e w'=>e = .returned (.bool (zeroB p)) ∧ W = w'):=fun W=>ref_nought p W hp
 have HSO : Hid (Calls Tryz.prog 36 #[.slice a n c] w fun e w'=>(∃ v,e = .returned v ∧ UOn w' w.heap.size v n (ordL l)) ∧ Below w.heap.size w w'):=rsorted9_v w hn hmax hl hcell
 obtain ⟨s,hs⟩ : ∃ s,s = ordL l:=⟨_,rfl⟩
 have hsl : s.length = n:=by rw [hs,ordL_len,hn]
 have hson : ∀ x ∈ s,Oned x:=by rw [hs]; exact ordL_oned hl
 have hso : ∀ j,j < n → W64 (s.getD j 0):=fun j hj=>by
  rw [List.getD_eq_getElem?_getD,List.getElem?_eq_getElem (by omega)]
  exact (hson _ (List.getElem_mem _)).1
 rw [← hs] at HSO
 have x1:=w_and_sign p hp
 have hsn:=w_sgn p
 have n0 : (0 : Int) < n:=by omega
 have p2 : (0 : Int) < 2 ^ LP:=Int.pow_pos (by decide)
 have hvn:=val_natAbs9 p
 cases hz : zeroB p
 ·rw [hz] at HNO
  have hz0 : absB p ≠ 0:=of_decide_eq_false hz
  obtain ⟨vl1,vl2⟩:=val_lt9 p
  by_cases hbad : sgnB p = true ∨ (sgnB p = false ∧ 4607182418800017408 < p)
  ·have ht : shareA l p = (0, 1) := by
    unfold shareA
    rw [if_neg (by omega),if_neg]
    rintro ⟨g1,g2,g3⟩
    rcases hbad with h | ⟨h,h'⟩
    ·have:=vl1.2 ⟨h,hz0⟩
     omega
    ·have hab : absB p = p := by
      have:=split_B p hp
      unfold sgnW at this
      rw [h] at this
      simp at this
      omega
     have h1 : rv 52 4607182418800017408 < rv 52 p:=rv_lt h'
     rw [rv_one9] at h1
     rw [hab] at hvn
     have e2 : ((2 ^ LP : Nat) : Int) = 2 ^ LP:=by rw [Int.natCast_pow]; rfl
     omega
   rw [ht]
   clear hcell hl hn hsl hso hson HSO hs ht hvn vl1 vl2 p2
   rcases hbad with h | ⟨h,h'⟩
   ·go_enter Tryz.func22,Tryz.ntmps22
    go_wp2_with (go_at_call 64; with_reducible refine (HNO.out _).mono ?_; rintro e w' ⟨rfl,rfl⟩)
    go_ret2
    exact ⟨rfl,Below.refl _ _⟩
   ·have h2 : (4607182418800017408 : Int) < (p : Int):=by omega
    go_enter Tryz.func22,Tryz.ntmps22
    go_wp2_with (go_at_call 64; with_reducible refine (HNO.out _).mono ?_; rintro e w' ⟨rfl,rfl⟩)
    go_ret2
    exact ⟨rfl,Below.refl _ _⟩
  ·have hsg : sgnB p = false := by
    cases h : sgnB p
    ·rfl
    ·exact absurd (.inl h) hbad
   have hle : p ≤ 4607182418800017408:=Nat.le_of_not_lt fun h=>hbad (.inr ⟨hsg,h⟩)
   have hab : absB p = p:=by
    have:=split_B p hp
    unfold sgnW at this
    rw [hsg] at this
    simp at this
    omega
   have fp : finB p = true:=by unfold finB; rw [hab,decide_eq_true_iff]; omega
   have np : nanB p = false:=by unfold nanB; rw [hab,decide_eq_false_iff_not]; omega
   obtain ⟨V,hV⟩ : ∃ V : Nat,valB p = V:=by
    refine ⟨(valB p).natAbs,?_⟩
    have : ¬ valB p < 0:=fun h=>by have:=(vl1.1 h).1; rw [hsg] at this; cases this
    omega
   have hVle : V ≤ 2 ^ LP:=by
    have h1 : rv 52 p ≤ rv 52 4607182418800017408:=rv_le hle
    rw [rv_one9] at h1
    rw [hab,hV] at hvn
    omega
   have hVt : (valB p).toNat = V:=by rw [hV]; rfl
   have e2 : ((2 ^ LP : Nat) : Int) = 2 ^ LP:=by rw [Int.natCast_pow]; rfl
   obtain ⟨K,hK⟩ : ∃ K : Nat,K = n - 1:=⟨_,rfl⟩
   obtain ⟨xx1,oo1,xx2,xx3,rF,q1,q2⟩:=share_facts (K:=K) fp hV hVle (by omega)
   obtain ⟨d,hd,d1,d2,hdq,hdr⟩:=share_doc (K:=K) fp hz hV hVle
   obtain ⟨q,hq⟩ : ∃ q,q = V * K / 2 ^ LP:=⟨_,rfl⟩
   obtain ⟨r,hr⟩ : ∃ r,r = V * K % 2 ^ LP:=⟨_,rfl⟩
   have hrl : r < 2 ^ LP:=by rw [hr]; exact Nat.mod_lt _ (Nat.two_pow_pos _)
   rw [← hq] at xx2 xx3 rF q1 q2 hdq
   rw [← hr] at rF q2 hdr
   have eQ : shQ l p = q:=by unfold shQ; rw [hVt,hn,← hK,hq]
   have eR : shR l p = r:=by unfold shR; rw [hVt,hn,← hK,hr]
   obtain ⟨F,hF⟩ : ∃ F,F = shF l p:=⟨_,rfl⟩
   have eF : F = addD (mulD (ofD p) (mkD ((K : Nat) : Int) 0)) (negD (mkD ((q : Nat) : Int) 0)):=by rw [hF]; unfold shF; rw [eQ,hn,← hK]
   rw [← eF] at rF
   obtain ⟨T,hT⟩ : ∃ T,T = shB s q r F:=⟨_,rfl⟩
   have ht : shareA l p = (T,0):=by unfold shareA; rw [if_neg (by omega),if_pos ⟨np,by omega,by omega⟩,eQ,eR,← hF,← hs,hT]
   rw [ht]
   have hM:=spM_lt p
   obtain ⟨M,hM2⟩ : ∃ M,M = spM p:=⟨_,rfl⟩
   rw [← hM2] at hM hdq hdr
   obtain ⟨r2,hr2⟩ : ∃ r2,r2 = M * K % 2 ^ d:=⟨_,rfl⟩
   rw [← hr2] at hdr
   have hMK : M * K < 2 ^ 106:=Nat.lt_of_lt_of_le (Nat.mul_lt_mul_of_lt_of_le hM (show K ≤ 9007199254740992 by omega) (by decide)) (by decide)
   have HSP : Hid (∀ W,Calls Tryz.prog 53 #[.int .u64 (p : Nat)] W fun e w'=>e = .returned (.tuple #[.bool (spS p),.int .u64 (M : Nat),.int .i64 (spE p),.int .i64 (spX p)]) ∧ W = w'):=fun W=>by rw [hM2]; exact ref_split p W hp
   rw [hd] at HSP
   have HO1 : Hid (∀ W,Calls Tryz.prog 54 #[.int .u64 (M : Nat)] W (NatQ M W)):=fun W=>of_any M W (Nat.lt_trans hM (by decide))
   have HO2 : Hid (∀ W,Calls Tryz.prog 54 #[.int .u64 (K : Nat)] W (NatQ K W)):=fun W=>of_any K W (by omega)
   have HO3 : Hid (∀ W,Calls Tryz.prog 54 #[.int .u64 1] W (NatQ 1 W)):=fun W=>of_any 1 W (by decide)
   have HML : Hid (∀ W u v,Num .u32 4294967296 W u M → Num .u32 4294967296 W v K → Calls Tryz.prog 56 #[u,v] W (NatQ (M * K) W)):=fun W u v h h'=>nmul_any u v M K W h h' (bb:=53) hM (Nat.lt_of_lt_of_le (show K < 9007199254740992 by omega) (by decide)) (by decide)
   have HLE : Hid (∀ W u,Num .u32 4294967296 W u 1 → Calls Tryz.prog 55 #[u,.int .i64 (d : Nat)] W (NatQ (2 ^ d) W)):=fun W u h=>by
    have:=nleft_n u 1 d W h (bb:=1) (by decide) (by decide) (by omega)
    rwa [Nat.one_mul] at this
   obtain ⟨b12,hb12⟩ : ∃ b : Nat,b = 1200:=⟨_,rfl⟩
   have HQU : Hid (∀ W u v,Num .u32 4294967296 W u (M * K) → Num .u32 4294967296 W v (2 ^ d) → Calls Tryz.prog 65 #[u,v] W (NQuoQ q r2 W)):=fun W u v h h'=>by
    have:=nquo_any u v (M * K) (2 ^ d) W h h' (bb:=b12) (Nat.lt_of_lt_of_le hMK (Nat.pow_le_pow_right (by decide) (by omega))) (Nat.pow_lt_pow_right (by decide) (by omega)) (by omega) (Nat.two_pow_pos _) (by rw [hdq]; omega)
    rw [hdq,← hr2] at this
    exact this
   obtain ⟨MK,hMK2⟩ : ∃ x,x = M * K:=⟨_,rfl⟩
   rw [← hMK2] at HML HQU
   obtain ⟨D,hD⟩ : ∃ x,x = 2 ^ d:=⟨_,rfl⟩
   rw [← hD] at HLE HQU
   have hw1 : IntKind.i64.wrap ((n : Int) - 1) = (K : Int):=by rw [IntWalk.i64_in _ (by omega)]; omega
   have hw2 : IntKind.u64.wrap (K : Int) = (K : Int):=IntWalk.u64_in _ (by omega)
   have hw3 : IntKind.i64.wrap (d : Int) = (d : Int):=IntWalk.i64_in _ (by omega)
   have hr0 : r2 = 0 ↔ r = 0:=by
    rw [← hdr,Nat.mul_eq_zero]
    have:=Nat.two_pow_pos (spE p + LP).toNat
    omega
   have HT0 : Hid (r2 = 0 → T = s.getD q 0):=fun h=>by rw [hT]; unfold shB; rw [if_pos (hr0.1 h)]
   have HT1 : Hid (r2 ≠ 0 → T = btwA (s.getD q 0) (s.getD (q + 1) 0) F ∧ q + 1 < n):=fun h=>by
    have h2 : r ≠ 0:=mt hr0.2 h
    refine ⟨by rw [hT]; unfold shB; rw [if_neg h2],?_⟩
    have:=q2 h2
    omega
   have HBW : Hid (r2 ≠ 0 → ∀ W x y z,Num .u32 4294967296 W (.slice x y z) r2 → Calls Tryz.prog 66 #[.int .u64 (s.getD q 0 : Nat),.int .u64 (s.getD (q + 1) 0 : Nat),.slice x y z,.int .i64 (-(d : Int))] W fun e w'=>e = .returned (.int .u64 (T : Nat)) ∧ Below W.heap.size W w'):=fun h W x y z hN=>by
    obtain ⟨t1,t2⟩:=HT1.out h
    have:=rbetween9_v (s.getD q 0) (s.getD (q + 1) 0) r2 (spE p) F x y z W (hso q (by omega)) (hso (q + 1) t2) hN h (by omega) (by rw [hdr]; exact hrl) (by rw [hdr]; exact rF)
    rw [hd,← t1] at this
    exact this
   have hqn : q < n:=by omega
   clear hb12 b12 hT hcell hl hn hs hsl hso hson rF xx1 oo1 xx2 xx3 q1 q2 hq hr hrl eQ eR eF hF hV hVt e2 np fp ht hp hK V hvn vl1 vl2 p2 hab hbad hz hz0 hM hM2 hMK hMK2 hD hdq hdr hr2 hVle hd
   go_enter Tryz.func22,Tryz.ntmps22
   go_wp2_with (go_at_call 64; with_reducible refine (HNO.out _).mono ?_; rintro e w' ⟨rfl,rfl⟩)
   refine Calls.mono HSO.out ?_
   rintro e w1 ⟨⟨v,rfl,hv⟩,hb1⟩
   obtain ⟨g,cp,rfl,-⟩:=own_some9 hv (by omega)
   have HF : Hid (∀ W,Below w1.heap.size w1 W → ∀ j,j < n → W.cell? ⟨g,j,none⟩ = some (.int .u64 (s.getD j 0 : Nat))):=fun W hW j hj=>(hW.cell (p:=⟨g,j,none⟩) hv.lt.2).trans (hv.cell hj)
   have HB1 : Hid (Below w.heap.size w w1):=hb1
   clear hv hb1 HSO
   go_wp2_with (go_at_call 53; with_reducible refine (HSP.out _).mono ?_; rintro e w' ⟨rfl,rfl⟩)
   refine (HO1.out _).mono ?_
   rintro e w2 ⟨u1,rfl,hu1,hb2⟩
   go_wp2_with fail
   refine (HO2.out _).mono ?_
   rintro e w3 ⟨u2,rfl,hu2,hb3⟩
   go_wp2_with fail
   refine (HML.out _ _ _ (hu1.below (Nat.le_refl _) hb3) hu2).mono ?_
   rintro e w4 ⟨u3,rfl,hu3,hb4⟩
   have hb4' : Below w1.heap.size w1 w4:=(hb2.thru hb3).thru hb4
   clear hu1 hu2 hb2 hb3 hb4 HO1 HO2 HML
   go_wp2_with fail
   refine (HO3.out _).mono ?_
   rintro e w5 ⟨u4,rfl,hu4,hb5⟩
   go_wp2_with fail
   refine (HLE.out _ _ hu4).mono ?_
   rintro e w6 ⟨u5,rfl,hu5,hb6⟩
   go_wp2_with fail
   refine (HQU.out _ _ _ ((hu3.below (Nat.le_refl _) hb5).below (Nat.le_refl _) hb6) hu5).mono ?_
   rintro e w7 ⟨u6,rfl,hu6,hb7⟩
   obtain ⟨x6,y6,z6,rfl⟩:=hu6.shape
   have hle6:=hu6.len (by decide)
   have HU6 : Hid (Num .u32 4294967296 w7 (.slice x6 y6 z6) r2):=hu6
   have HB7 : Hid (Below w1.heap.size w1 w7):=((hb4'.thru hb5).thru hb6).thru hb7
   clear hu3 hu4 hu5 hu6 hb4' hb5 hb6 hb7 HO3 HLE HQU
   by_cases hf0 : r2 = 0
   ·obtain rfl : y6 = 0:=hle6.1 hf0
    have hT:=HT0.out hf0
    have hc1:=HF.out w7 HB7.out q hqn
    have g1 : (q : Int) < n:=by omega
    have g2 : (0 : Int) ≤ (q : Int):=by omega
    rw [← hT] at hc1
    clear hf0 hle6 hT
    go_wp2_with fail
    go_ret2
    exact ⟨rfl,HB1.out.thru HB7.out⟩
   ·have hy : ((y6 : Int) == 0) = false:=by rw [beq_eq_false_iff_ne]; have:=mt hle6.2 hf0; omega
    have HQ2 : Hid (q + 1 < n):=(HT1.out hf0).2
    have HBT : Hid _:=HBW.out hf0
    have g1 : (q : Int) < n:=by omega
    have g2 : (0 : Int) ≤ (q : Int):=by omega
    have g3 : (q : Int) + 1 < n:=by have:=HQ2.out; omega
    have g4 : (0 : Int) ≤ (q : Int) + 1:=by omega
    have g5 : ((q : Int) + 1).toNat = q + 1:=by omega
    have hw4 : IntKind.u64.wrap ((q : Int) + 1) = ((q + 1 : Nat) : Int):=by rw [IntWalk.u64_in _ (by omega)]; omega
    obtain ⟨A1,hA1⟩ : ∃ x,x = s.getD q 0:=⟨_,rfl⟩
    obtain ⟨A2,hA2⟩ : ∃ x,x = s.getD (q + 1) 0:=⟨_,rfl⟩
    rw [← hA1,← hA2] at HBT
    have HA : Hid (A1 = s.getD q 0 ∧ A2 = s.getD (q + 1) 0):=⟨hA1,hA2⟩
    clear hA1 hA2 hf0 hle6 HT0 HT1 HBW
    go_upto_region 14 with fail
    have h1 : once [(68,0),(69,1),(70,2),(71,3),(72,4),(73,5),(74,6),(75,7),(76,8),(77,9),(78,10),(79,11)] = true:=by kernel_rfl
    have h2 : within [(68,0),(69,1),(70,2),(71,3),(72,4),(73,5),(74,6),(75,7),(76,8),(77,9),(78,10),(79,11)] 80 = true:=by kernel_rfl
    refine wp_region_flow 12 14 [(68,0),(69,1),(70,2),(71,3),(72,4),(73,5),(74,6),(75,7),(76,8),(77,9),(78,10),(79,11)] [] (fun ix v W=>match ix with
     | 0=>v = .slice (some ⟨g,0,none⟩) n cp
     | 1=>v = .int .u64 (q : Nat)
     | 2=>v = .pointer (some ⟨g,q,none⟩)
     | 3=>v = .int .u64 (A1 : Nat)
     | 4=>v = .slice (some ⟨g,0,none⟩) n cp
     | 5=>v = .int .u64 (q : Nat)
     | 6=>v = .int .u64 ((q + 1 : Nat) : Int)
     | 7=>v = .pointer (some ⟨g,q + 1,none⟩)
     | 8=>v = .int .u64 (A2 : Nat)
     | 9=>v = .slice x6 y6 z6
     | 10=>v = .int .i64 (-(d : Int))
     | _=>v = .int .u64 (T : Nat)) w7.heap.size (Nat.le_refl _) (by kernel_rfl) (by kernel_rfl) (by kernel_rfl) (by decide) (by kernel_rfl) h1 (by kernel_rfl) ?_ ?_ ?_ ?_
    ·intro j v W W' h hb
     match j,h with
     | 0,h=>exact h
     | 1,h=>exact h
     | 2,h=>exact h
     | 3,h=>exact h
     | 4,h=>exact h
     | 5,h=>exact h
     | 6,h=>exact h
     | 7,h=>exact h
     | 8,h=>exact h
     | 9,h=>exact h
     | 10,h=>exact h
     | _ + 11,h=>exact h
    ·exact fun j hj=>by cases hj
    ·refine ⟨⟨⟨⟨⟨⟨⟨⟨⟨⟨⟨⟨trivial,?_⟩,?_⟩,?_⟩,?_⟩,?_⟩,?_⟩,?_⟩,?_⟩,?_⟩,?_⟩,?_⟩,?_⟩
     ·refine flow_step _ 68 rfl rfl (fun d h=>by simpa using h) h1 h2 fun ac xs W he hb hS K hK=>?_
      exact op_move (.tmp 7) (.inl rfl) (hK _ _ (he 7) bR nA)
     ·refine flow_step _ 69 rfl rfl (fun d h=>by simpa using h) h1 h2 fun ac xs W he hb hS K hK=>?_
      exact op_move (.tmp 13) (.inl rfl) (hK _ _ (he 13) bR nA)
     ·refine flow_step _ 70 rfl rfl (fun d h=>by simpa using h) h1 h2 fun ac xs W he hb hS K hK=>?_
      have e0:=(he 68).trans (hS 0 (by kernel_rfl))
      have e1:=(he 69).trans (hS 1 (by kernel_rfl))
      refine op_any (.indexAddr 39 (.tmp 68) (.tmp 69)) rfl (.pointer (some ⟨g,q,none⟩)) (fun o' ho'=>?_) (hK _ _ rfl bR nA)
      simp only [execOp,ho',e0,e1]
      go_simp
     ·refine flow_step _ 71 rfl rfl (fun d h=>by simpa using h) h1 h2 fun ac xs W he hb hS K hK=>?_
      have hc:=(HF.out W (HB7.out.thru hb) q hqn).trans (by rw [← HA.out.1])
      have e0:=(he 70).trans (hS 2 (by kernel_rfl))
      refine op_any (.load 22 (.tmp 70)) rfl (.int .u64 (A1 : Nat)) (fun o' ho'=>?_) (hK _ _ rfl bR nA)
      simp only [execOp,ho',e0]
      go_simp
     ·refine flow_step _ 72 rfl rfl (fun d h=>by simpa using h) h1 h2 fun ac xs W he hb hS K hK=>?_
      exact op_move (.tmp 7) (.inl rfl) (hK _ _ (he 7) bR nA)
     ·refine flow_step _ 73 rfl rfl (fun d h=>by simpa using h) h1 h2 fun ac xs W he hb hS K hK=>?_
      exact op_move (.tmp 13) (.inl rfl) (hK _ _ (he 13) bR nA)
     ·refine flow_step _ 74 rfl rfl (fun d h=>by simpa using h) h1 h2 fun ac xs W he hb hS K hK=>?_
      have e0:=(he 73).trans (hS 5 (by kernel_rfl))
      refine op_any (.binOp .add 22 (.tmp 73) (.const (.int .u64 1)) 22) rfl (.int .u64 ((q + 1 : Nat) : Int)) (fun o' ho'=>?_) (hK _ _ rfl bR nA)
      simp only [execOp,ho',e0]
      go_simp
     ·refine flow_step _ 75 rfl rfl (fun d h=>by simpa using h) h1 h2 fun ac xs W he hb hS K hK=>?_
      have e0:=(he 72).trans (hS 4 (by kernel_rfl))
      have e1:=(he 74).trans (hS 6 (by kernel_rfl))
      refine op_any (.indexAddr 39 (.tmp 72) (.tmp 74)) rfl (.pointer (some ⟨g,q + 1,none⟩)) (fun o' ho'=>?_) (hK _ _ rfl bR nA)
      simp only [execOp,ho',e0,e1]
      go_simp
     ·refine flow_step _ 76 rfl rfl (fun d h=>by simpa using h) h1 h2 fun ac xs W he hb hS K hK=>?_
      have hc:=(HF.out W (HB7.out.thru hb) (q + 1) HQ2.out).trans (by rw [← HA.out.2])
      have e0:=(he 75).trans (hS 7 (by kernel_rfl))
      refine op_any (.load 22 (.tmp 75)) rfl (.int .u64 (A2 : Nat)) (fun o' ho'=>?_) (hK _ _ rfl bR nA)
      simp only [execOp,ho',e0]
      go_simp
     ·refine flow_step _ 77 rfl rfl (fun d h=>by simpa using h) h1 h2 fun ac xs W he hb hS K hK=>?_
      exact op_move (.tmp 14) (.inl rfl) (hK _ _ (he 14) bR nA)
     ·refine flow_step _ 78 rfl rfl (fun d h=>by simpa using h) h1 h2 fun ac xs W he hb hS K hK=>?_
      exact op_move (.tmp 10) (.inl rfl) (hK _ _ (he 10) bR nA)
     ·refine flow_step _ 79 rfl rfl (fun d h=>by simpa using h) h1 h2 fun ac xs W he hb hS K hK=>?_
      have e0:=(he 71).trans (hS 3 (by kernel_rfl))
      have e1:=(he 76).trans (hS 8 (by kernel_rfl))
      have e2:=(he 77).trans (hS 9 (by kernel_rfl))
      have e3:=(he 78).trans (hS 10 (by kernel_rfl))
      refine op_call 66 _ _ rfl _ (by simp only [List.map,e0,e1,e2,e3]) (by go_simp) (HBT.out W _ _ _ (HU6.out.below (Nat.le_refl _) hb)) ?_
      rintro e' W' ⟨rfl,hb'⟩
      exact ⟨_,rfl,hK _ _ (rfl) hb' nA⟩
    ·intro xs w8 hb hS hD
     have s11 : xs 11 = _:=hS 11 (by decide)
     generalize xs 0 = y0 at *
     generalize xs 1 = y1 at *
     generalize xs 2 = y2 at *
     generalize xs 3 = y3 at *
     generalize xs 4 = y4 at *
     generalize xs 5 = y5 at *
     generalize xs 6 = y6 at *
     generalize xs 7 = y7 at *
     generalize xs 8 = y8 at *
     generalize xs 9 = y9 at *
     generalize xs 10 = y10 at *
     simp only [layAll,s11]
     have HB8 : Hid (Below w.heap.size w w8):=HB1.out.thru (HB7.out.thru hb)
     clear hS hD s11 hb
     go_wp2
     go_ret2
     exact ⟨rfl,HB8.out⟩
 ·rw [hz] at HNO
  have hz0 : absB p = 0:=of_decide_eq_true hz
  have hv0 : valB p = 0:=(val_lt9 p).2.2 hz0
  have np : nanB p = false:=by unfold nanB; rw [hz0]; decide
  have ht : shareA l p = (s.getD 0 0,0):=by
   unfold shareA shQ shR
   rw [if_neg (by omega),if_pos ⟨np,by omega,by omega⟩,hv0,← hs]
   rw [show ((0 : Int).toNat * (l.length - 1)) = 0 by rw [show (0 : Int).toNat = 0 from rfl,Nat.zero_mul],Nat.zero_div,Nat.zero_mod]
   unfold shB
   rw [if_pos rfl]
  rw [ht]
  clear ht hv0 hz0 np hl hcell hn hs hso hson hsl hvn p2
  go_enter Tryz.func22,Tryz.ntmps22
  go_wp2_with (go_at_call 64; with_reducible refine (HNO.out _).mono ?_; rintro e w' ⟨rfl,rfl⟩)
  refine Calls.mono HSO.out ?_
  rintro e w1 ⟨⟨v,rfl,hv⟩,hb1⟩
  obtain ⟨g,cp,rfl,-⟩:=own_some9 hv (by omega)
  have hc1:=hv.cell (show 0 < n by omega)
  have HB1 : Hid (Below w.heap.size w w1):=hb1
  clear hv hb1
  go_wp2_with fail
  go_ret2
  exact ⟨rfl,HB1.out⟩
theorem rmiddle9_v {a : Option Addr} {n c : Nat} {l : List Nat} (w : World) (hn : l.length = n) (hmax : n * 8 ≤ 140737488355328) (hl : ∀ x ∈ l, W64 x) (hcell : UIn w a n l) :
  Calls Tryz.prog 23 #[.slice a n c] w fun e w'=>e = .returned (.tuple #[.int .u64 ((shareA l 4602678819172646912).1 : Nat),.int .i64 (shareA l 4602678819172646912).2]) ∧ Below w.heap.size w w':=by
 have HS : Hid (Calls Tryz.prog 22 #[.slice a n c,.int .u64 4602678819172646912] w fun e w'=>e = .returned (.tuple #[.int .u64 ((shareA l 4602678819172646912).1 : Nat),.int .i64 (shareA l 4602678819172646912).2]) ∧ Below w.heap.size w w'):=rshare9_v 4602678819172646912 w hn hmax hl hcell (by unfold W64; decide)
 generalize shareA l 4602678819172646912 = X at *
 clear hcell hl
 go_enter Tryz.func23,Tryz.ntmps23
 go_wp2_with fail
 refine Calls.mono HS.out ?_
 rintro e w1 ⟨rfl,hb⟩
 have HB : Hid (Below w.heap.size w w1):=hb
 clear hb
 go_wp2
 go_ret2
 exact ⟨rfl,HB.out⟩
end Go.Proofs.YtlbokicainimnaaGreatDoor
