import Derived.Test.YtlbokicainimnaaGreatDoorQQV
set_option maxRecDepth 100000
namespace Go.Proofs.YtlbokicainimnaaGreatDoor
open Go.RowKit
theorem ten_lt {i k bb : Nat} (h : i ≤ k) (hk : 4 * k + 1 ≤ bb) : 10 ^ i < 2 ^ bb:=by
 have h1 : (10 : Nat) ^ i ≤ 10 ^ k:=Nat.pow_le_pow_right (by decide) h
 have h2 : (10 : Nat) ^ k ≤ (2 ^ 4) ^ k:=Nat.pow_le_pow_left (by decide) k
 rw [← Nat.pow_mul] at h2
 have h3 : (2 : Nat) ^ (4 * k + 1) ≤ 2 ^ bb:=Nat.pow_le_pow_right (by decide) hk
 rw [Nat.pow_succ] at h3
 have h4 : 0 < (2 : Nat) ^ (4 * k):=Nat.pow_pos (by decide)
 omega
theorem bl_extract (t : ByteArray) (i j : Nat) : bl (t.extract i j) = ((bl t).take j).drop i:=by
 unfold bl; simp [ByteArray.data_extract,List.drop_take]
set_option maxHeartbeats 2000000 in
theorem iparse_v (s : ByteArray) (w : World) (hd : allDig (bl s)) (hs : s.size ≤ 100000) : Calls Tryz.prog 161 #[.string s] w (WideR (dval (bl s)) w):=by
 obtain ⟨N,hN⟩ : ∃ N,N = dval (bl s):=⟨_,rfl⟩
 rw [← hN]
 have HN : Hid (N = dval (bl s)):=hN
 have hb0 : Below w.heap.size w ((w.alloc (.cells #[.bool false,.slice none 0 0] 123)).alloc (.cells #[.bool false,.slice none 0 0] 123)):=((Below.refl _ _).alloc (Nat.le_refl _) _).alloc (by simp) _
 have q0:=heap_alloc2_old w (.cells #[.bool false,.slice none 0 0] 123) (.cells #[.bool false,.slice none 0 0] 123)
 have q1:=heap_alloc2_new w (.cells #[.bool false,.slice none 0 0] 123) (.cells #[.bool false,.slice none 0 0] 123)
 have HB0 : Hid _:=hb0
 have HQ0 : Hid _:=q0
 have HQ1 : Hid _:=q1
 clear hN hb0 q0 q1
 go_enter Tryz.func161,Tryz.ntmps161
 go_wp2
 go_loopw [0] (fun r wr=>∃ (t : ByteArray) (X : Nat) (a : Option Addr) (m c : Nat),r = .string t ∧ t.size ≤ s.size ∧ allDig (bl t) ∧ N = X * 10 ^ t.size + dval (bl t) ∧ X < 10 ^ (s.size - t.size) ∧
  wr.heap[w.heap.size + 1]? = some (.cells #[.bool false,.slice a m c] 123 (0,0)) ∧ Num .u64 18446744073709551616 wr (.slice a m c) X ∧
  wr.heap[w.heap.size]? = some (.cells #[.bool false,.slice none 0 0] 123 (0,0)) ∧ Below w.heap.size w wr) (fun r _=>match r with | .string t=>t.size | _=>0)
 case atStart=>
  refine ⟨s,0,none,0,0,rfl,Nat.le_refl _,hd,by rw [HN.out,Nat.zero_mul,Nat.zero_add],Nat.pow_pos (by decide),HQ1.out,?_,HQ0.out,HB0.out⟩
  exact ⟨[],⟨none,0,0,rfl,rfl,Nat.le_refl _,by decide,(fun x hx=>by cases hx),fun h=>by omega⟩,rfl,.inl rfl⟩
 case round=>
  obtain ⟨t,X,a,m,c,rfl,ht,hdt,hX,hX2,hrow,hnum,hrow0,hb⟩:=hrel
  have HR : Hid _:=hrow
  have HR0 : Hid _:=hrow0
  have HNU : Hid (Num .u64 18446744073709551616 wr (.slice a m c) X):=hnum
  have HB : Hid (Below w.heap.size w wr):=hb
  have HX : Hid (N = X * 10 ^ t.size + dval (bl t) ∧ X < 10 ^ (s.size - t.size)):=⟨hX,hX2⟩
  have HD : Hid (allDig (bl t)):=hdt
  clear hrow hrow0 hnum hb hX hX2 hdt hd
  by_cases h0 : t.size = 0
  ·have hd0 : dval (bl t) = 0 := by
    have : bl t = []:=List.eq_nil_of_length_eq_zero (by rw [bl_len]; exact h0)
    rw [this]; rfl
   have HE : Hid (X = N):=by
    have:=HX.out.1
    rw [h0,hd0,Nat.pow_zero,Nat.mul_one,Nat.add_zero] at this
    exact this.symm
   obtain ⟨f0,f1,c0,c1,-,-⟩:=row2 HR.out
   obtain ⟨g0,g1,d0,d1,g2,d2⟩:=row2 HR0.out
   clear hd0
   go_wp2
   refine wide_endV (p:=2) rfl rfl HR0.out (V:=(N : Int)) (by simpa [HE.out] using HNU.out) HB.out (Nat.le_refl _) (by rw [decide_eq_false (by omega)])
  ·have hp : (0 : Int) < (t.size : Int):=by omega
   obtain ⟨k,hk⟩ : ∃ k,k = min t.size 18:=⟨_,rfl⟩
   have hkt : k ≤ t.size:=by omega
   have hk18 : k ≤ 18:=by omega
   have hk0 : 0 < k:=by omega
   have hsz : (t.extract k t.size).size = t.size - k:=by rw [ByteArray.size_extract]; omega
   have hb1 : bl (t.extract k t.size) = (bl t).drop k:=by
    rw [bl_extract,List.take_of_length_le (by rw [bl_len]; exact Nat.le_refl _)]
   have hb2 : bl (t.extract 0 k) = (bl t).take k:=by rw [bl_extract,List.drop_zero]
   have htk : allDig ((bl t).take k):=fun x hx=>HD.out x (List.mem_of_mem_take hx)
   have hlk : ((bl t).take k).length = k:=by rw [List.length_take,bl_len]; omega
   obtain ⟨n,hn⟩ : ∃ n,n = dval ((bl t).take k):=⟨_,rfl⟩
   have hnb : n < 10 ^ k:=by rw [hn]; have:=dval_lt _ htk; rwa [hlk] at this
   have hval : dval (bl t) = n * 10 ^ (t.size - k) + dval ((bl t).drop k):=by
    have:=dval_append ((bl t).take k) ((bl t).drop k)
    rw [List.take_append_drop,List.length_drop,bl_len] at this
    rw [this,hn]
   have hpw : 10 ^ t.size = 10 ^ k * 10 ^ (t.size - k):=by rw [← Nat.pow_add]; congr 1; omega
   have HK : Hid ((X * 10 ^ t.size + (n * 10 ^ (t.size - k) + dval ((bl t).drop k)) = (X * 10 ^ k + n) * 10 ^ (t.size - k) + dval ((bl t).drop k)) ∧ dval (bl t) = n * 10 ^ (t.size - k) + dval ((bl t).drop k) ∧ k ≤ t.size ∧ (t.extract k t.size).size = t.size - k ∧ bl (t.extract k t.size) = (bl t).drop k):=
    ⟨by rw [hpw,Nat.add_mul,Nat.mul_assoc]; omega,hval,hkt,hsz,hb1⟩
   have HNB : Hid (n < 10 ^ k):=hnb
   have HK0 : Hid (0 < k):=hk0
   have HPU : Hid (Calls Tryz.prog 214 #[.string (t.extract 0 k),.int .i64 10,.int .i64 64] wr fun e w'=>e = .returned (.tuple #[.int .u64 n,.nilIface]) ∧ Below wr.heap.size wr w'):=by
    refine (Tryz.strconv_ParseUint_10_at64_ok (t.extract 0 k) (by rw [ByteArray.size_extract]; omega) n ?_ wr).mono ?_
    ·have:=parse_short ((bl t).take k) htk (by intro e; rw [e] at hlk; simp at hlk; omega) (by rw [hlk]; exact hk18)
     rw [hn,← hb2] at *
     exact this
    ·rintro e w' ⟨rfl,h | h⟩
     ·rw [h]; exact ⟨rfl,Below.refl _ _⟩
     ·rw [h]; exact ⟨rfl,Lib.bytesWorld_below _ _ _⟩
   obtain ⟨bb,hbb,hbb2⟩ : ∃ bb,400001 ≤ bb ∧ bb ≤ 4294967296:=⟨400001,by decide,by decide⟩
   have hs' : 4 * s.size + 1 ≤ bb:=by omega
   have hXb : X < 2 ^ bb:=Nat.lt_of_lt_of_le (Nat.lt_of_lt_of_le HX.out.2 (Nat.pow_le_pow_right (show 0 < 10 by decide) (show s.size - t.size ≤ s.size by omega))) (Nat.le_of_lt (ten_lt (Nat.le_refl s.size) (by omega)))
   have hXk : X * 10 ^ k + n < 2 ^ bb:=by
    have h8:=Nat.mul_le_mul_right (10 ^ k) (show X + 1 ≤ 10 ^ (s.size - t.size) from HX.out.2)
    rw [Nat.add_mul,Nat.one_mul,← Nat.pow_add] at h8
    have h9:=ten_lt (bb:=bb) (show s.size - t.size + k ≤ s.size by omega) (by omega)
    omega
   have h18 : n < 18446744073709551616:=by
    have : (10 : Nat) ^ k ≤ 10 ^ 18:=Nat.pow_le_pow_right (by decide) hk18
    have e : (10 : Nat) ^ 18 = 1000000000000000000:=rfl
    omega
   have hXm : X * 10 ^ k < 2 ^ bb:=by omega
   have hnb2 : n < 2 ^ bb:=by omega
   have HPW : Hid (∀ W,Calls Tryz.prog 99 #[.int .u64 10,.int .i64 (k : Nat)] W (WideR ((10 ^ k : Nat) : Int) W)):=fun W=>power_v 10 k W (by decide) (bb:=bb) (fun i hi=>ten_lt hi (by omega)) (by omega) (by omega)
   have HML : Hid (∀ W v,Below wr.heap.size wr W → WideI W v ((10 ^ k : Nat) : Int) → Calls Tryz.prog 106 #[.agg #[.bool false,.slice a m c],v] W (WideR ((X * 10 ^ k : Nat) : Int) W)):=fun W v hW hv=>by
    rw [Int.natCast_mul]
    exact imul_v _ v (X : Int) _ W ⟨a,m,c,by rw [decide_eq_false (by omega)],(by simpa using HNU.out.below (Nat.le_refl _) hW)⟩ hv (bb:=bb) (by rw [Int.natAbs_natCast]; exact hXb) (by rw [Int.natAbs_natCast]; exact ten_lt (Nat.le_refl _) (by omega)) (by omega)
   have HWD : Hid (∀ W,Calls Tryz.prog 103 #[.int .u64 (n : Nat)] W (WideR (n : Int) W)):=fun W=>word_v n W h18
   have HAD : Hid (∀ W u v,WideI W u ((X * 10 ^ k : Nat) : Int) → WideI W v (n : Int) → Calls Tryz.prog 166 #[u,v] W (WideR ((X * 10 ^ k + n : Nat) : Int) W)):=fun W u v hu hv=>by
    rw [Int.natCast_add]
    exact iadd_v u v _ _ W hu hv (bb:=bb) (by rw [Int.natAbs_natCast]; exact hXm) (by rw [Int.natAbs_natCast]; exact hnb2) (by omega)
   clear hbb hbb2 hkt hk18 hk0 hsz hb1 hb2 htk hlk hn hnb hval hpw hXb hXk h18 hXm hnb2
   have hkm : min (t.size : Int) 18 = (k : Int):=by omega
   clear hk
   go_wp2_with fail
   with_reducible refine HPU.out.mono ?_
   rintro e w2 ⟨rfl,hb2⟩
   have HB2 : Hid (Below wr.heap.size wr w2):=hb2
   have HR2 : Hid _:=hb2.blk HR.out (blk_lt HR.out)
   have HR02 : Hid _:=hb2.blk HR0.out (blk_lt HR0.out)
   clear hb2
   go_upto_region 5 with fail
   have h1 : once [(21,0),(22,1),(23,2),(24,3),(25,4),(26,5),(27,6)] = true:=by kernel_rfl
   have h2 : within [(21,0),(22,1),(23,2),(24,3),(25,4),(26,5),(27,6)] 32 = true:=by kernel_rfl
   refine wp_region_flow 7 8 [(21,0),(22,1),(23,2),(24,3),(25,4),(26,5),(27,6)] [] (fun i v W=>match i with
    | 0=>v = .agg #[.bool false,.slice a m c]
    | 1=>v = .int .i64 (k : Nat)
    | 2=>WideI W v ((10 ^ k : Nat) : Int)
    | 3=>WideI W v ((X * 10 ^ k : Nat) : Int)
    | 4=>v = .int .u64 (n : Nat)
    | 5=>WideI W v (n : Int)
    | _=>WideI W v ((X * 10 ^ k + n : Nat) : Int)) w2.heap.size (Nat.le_refl _) (by kernel_rfl) (by kernel_rfl) (by kernel_rfl) (by decide) (by kernel_rfl) h1 (by kernel_rfl) ?_ ?_ ?_ ?_
   ·intro j v W W' h hb
    match j,h with
    | 0,h=>exact h
    | 1,h=>exact h
    | 2,h=>exact WideI.below h hb
    | 3,h=>exact WideI.below h hb
    | 4,h=>exact h
    | 5,h=>exact WideI.below h hb
    | _ + 6,h=>exact WideI.below h hb
   ·exact fun j hj=>by cases hj
   ·refine ⟨⟨⟨⟨⟨⟨⟨trivial,?_⟩,?_⟩,?_⟩,?_⟩,?_⟩,?_⟩,?_⟩
    ·refine flow_step _ 21 rfl rfl (fun d h=>by simpa using h) h1 h2 fun ac xs W he hb hS K hK=>?_
     exact wp_load_row 123 (.tmp 3) rfl (w.heap.size + 1) (he 3) _ _ _ _ (hb.blk HR2.out (blk_lt HR2.out)) Tryz.underlying123 rfl (by kernel_rfl) (hK _ _ rfl bR nA)
    ·refine flow_step _ 22 rfl rfl (fun d h=>by simpa using h) h1 h2 fun ac xs W he hb hS K hK=>?_
     exact op_move (.tmp 4) (.inl rfl) (hK _ _ (he 4) bR nA)
    ·refine flow_step _ 23 rfl rfl (fun d h=>by simpa using h) h1 h2 fun ac xs W he hb hS K hK=>?_
     have e0:=(he 22).trans (hS 1 (by kernel_rfl))
     refine op_call 99 _ _ rfl _ (by simp only [List.map,eval_const,e0]) (by go_simp) (HPW.out W) ?_
     rintro e' W' ⟨v,rfl,hi,hb'⟩
     exact ⟨_,rfl,hK _ _ (hi) hb' nA⟩
    ·refine flow_step _ 24 rfl rfl (fun d h=>by simpa using h) h1 h2 fun ac xs W he hb hS K hK=>?_
     have x2 : xs 2 = xs 2:=rfl
     have e0:=(he 21).trans (hS 0 (by kernel_rfl))
     have e1:=(he 23).trans x2
     refine op_call 106 _ _ rfl _ (by simp only [List.map,e0,e1]) (by go_simp) (HML.out W _ (HB2.out.thru hb) (hS 2 (by kernel_rfl))) ?_
     rintro e' W' ⟨v,rfl,hi,hb'⟩
     exact ⟨_,rfl,hK _ _ (hi) hb' nA⟩
    ·refine flow_step _ 25 rfl rfl (fun d h=>by simpa using h) h1 h2 fun ac xs W he hb hS K hK=>?_
     exact op_move (.tmp 5) (.inl rfl) (hK _ _ (he 5) bR nA)
    ·refine flow_step _ 26 rfl rfl (fun d h=>by simpa using h) h1 h2 fun ac xs W he hb hS K hK=>?_
     have e0:=(he 25).trans (hS 4 (by kernel_rfl))
     refine op_call 103 _ _ rfl _ (by simp only [List.map,e0]) (by go_simp) (HWD.out W) ?_
     rintro e' W' ⟨v,rfl,hi,hb'⟩
     exact ⟨_,rfl,hK _ _ (hi) hb' nA⟩
    ·refine flow_step _ 27 rfl rfl (fun d h=>by simpa using h) h1 h2 fun ac xs W he hb hS K hK=>?_
     have x3 : xs 3 = xs 3:=rfl
     have x5 : xs 5 = xs 5:=rfl
     have e0:=(he 24).trans x3
     have e1:=(he 26).trans x5
     refine op_call 166 _ _ rfl _ (by simp only [List.map,e0,e1]) (by go_simp) (HAD.out W _ _ (hS 3 (by kernel_rfl)) (hS 5 (by kernel_rfl))) ?_
     rintro e' W' ⟨v,rfl,hi,hb'⟩
     exact ⟨_,rfl,hK _ _ (hi) hb' nA⟩
   ·intro xs W hb hS hD
    obtain ⟨ra,rm,rc,s6,hnm⟩ : ∃ ra rm rc,xs 6 = .agg #[.bool false,.slice ra rm rc] ∧ Num .u64 18446744073709551616 W (.slice ra rm rc) (X * 10 ^ k + n):=by
     obtain ⟨ra,rm,rc,h3,h4⟩:=hS 6 (by decide)
     rw [Int.natAbs_natCast] at h4
     exact ⟨ra,rm,rc,by rw [h3,decide_eq_false (by omega)],h4⟩
    have s0 : xs 0 = _:=hS 0 (by decide)
    have s1 : xs 1 = _:=hS 1 (by decide)
    have s4 : xs 4 = _:=hS 4 (by decide)
    have hrow:=hb.blk HR2.out (blk_lt HR2.out)
    have hrow0:=hb.blk HR02.out (blk_lt HR02.out)
    obtain ⟨f0,f1,c0,c1,f2,c2⟩:=row2 hrow
    have HRW : Hid _:=hrow
    have HRW0 : Hid _:=hrow0
    have HNM : Hid (Num .u64 18446744073709551616 W (.slice ra rm rc) (X * 10 ^ k + n)):=hnm
    have HBB : Hid (Below w.heap.size w W):=(HB.out.thru HB2.out).thru hb
    generalize xs 2 = x2 at *
    generalize xs 3 = x3 at *
    generalize xs 5 = x5 at *
    simp only [layAll,s0,s1,s4,s6]
    clear s0 s1 s4 s6 hS hD hb hrow hrow0 hnm
    go_simp
    go_wp2
    go_roundw
    case rel=>
     refine ⟨t.extract k t.size,X * 10 ^ k + n,_,_,_,rfl,?_,?_,?_,?_,row2_set HRW.out _ _,HNM.out.row HRW.out _ _,row2_other HRW0.out (by omega) _ _,below_row HBB.out (by omega) _ _⟩
     ·rw [HK.out.2.2.2.1]; have:=HK.out.2.2.1; omega
     ·rw [HK.out.2.2.2.2]; intro x hx; exact HD.out x (List.mem_of_mem_drop hx)
     ·rw [HK.out.2.2.2.1,HX.out.1,HK.out.2.2.2.2,HK.out.2.1]; exact HK.out.1
     ·rw [HK.out.2.2.2.1]
      have h5:=HX.out.2
      have h6:=HK.out.2.2.1
      have e : s.size - (t.size - k) = (s.size - t.size) + k:=by omega
      rw [e,Nat.pow_add]
      have h7:=HNB.out
      have h8:=Nat.mul_le_mul_right (10 ^ k) (show X + 1 ≤ 10 ^ (s.size - t.size) from h5)
      rw [Nat.add_mul,Nat.one_mul] at h8
      omega
    case measure=>
     have h7:=HK.out.2.2.2.1
     have h6:=HK.out.2.2.1
     have h8:=HK0.out
     simp [h7]
     omega
theorem signed_v (d : Dc) (w : World) (hd : allDig d.s) (hs : d.s.length ≤ 100000) : Calls Tryz.prog 121 #[dcV d] w (WideR d.v w):=by
 obtain ⟨ng,l,e⟩:=d
 obtain ⟨s,hse⟩ : ∃ s,s = bs l:=⟨_,rfl⟩
 show Calls Tryz.prog 121 #[.agg #[.bool ng,.string (bs l),.int .i64 e]] w (WideR (sg ng (dval l)) w)
 have HP : Hid (∀ W,Calls Tryz.prog 161 #[.string s] W (WideR (dval l) W)):=fun W=>by rw [hse]; exact iparse_v (bs l) W hd hs
 rw [← hse]
 obtain ⟨V,hV⟩ : ∃ V,V = sg ng (dval l):=⟨_,rfl⟩
 rw [← hV]
 have HV : Hid (V = sg ng (dval l)):=hV
 have hb0 : Below w.heap.size w ((w.alloc (.cells #[.bool ng,.string s,.int .i64 e] 35)).alloc (.cells #[.bool false,.slice none 0 0] 123)):=((Below.refl _ _).alloc (Nat.le_refl _) _).alloc (by simp) _
 have q0:=heap_alloc2_old w (.cells #[.bool ng,.string s,.int .i64 e] 35) (.cells #[.bool false,.slice none 0 0] 123)
 have q1:=heap_alloc2_new w (.cells #[.bool ng,.string s,.int .i64 e] 35) (.cells #[.bool false,.slice none 0 0] 123)
 have HB0 : Hid _:=hb0
 have HQ0 : Hid _:=q0
 have HQ1 : Hid _:=q1
 have c1:=cell_of_row _ _ 1 _ _ _ q0
 clear hd hs hse hV hb0 q0 q1
 go_enter Tryz.func121,Tryz.ntmps121
 go_wp2_with fail
 refine (HP.out _).mono ?_
 rintro e' w1 ⟨v,rfl,hi,hb⟩
 have hi2:=hi
 obtain ⟨a,m,c,rfl,-⟩:=hi2
 have r0:=hb.blk HQ0.out (by simp; omega)
 have r1:=hb.blk HQ1.out (by simp)
 have HI : Hid (WideI w1 (.agg #[.bool (decide ((dval l : Int) < 0)),.slice a m c]) (dval l)):=hi
 have HB1 : Hid (Below w.heap.size w w1):=HB0.out.thru hb
 have HR0 : Hid _:=r0
 have HR1 : Hid _:=r1
 have a0:=((Below.refl w1.heap.size w1).alloc (Nat.le_refl _) (.cells #[.bool (decide ((dval l : Int) < 0)),.slice a m c] 123)).blk HR0.out (blk_lt HR0.out)
 have a1:=((Below.refl w1.heap.size w1).alloc (Nat.le_refl _) (.cells #[.bool (decide ((dval l : Int) < 0)),.slice a m c] 123)).blk HR1.out (blk_lt HR1.out)
 have d0:=cell_of_row _ _ 0 _ _ _ a0
 obtain ⟨y0,y1,y2,y3,y4,y5⟩:=row2 a1
 have HA1 : Hid _:=a1
 clear hi r0 r1 a0 a1 hb c1
 cases ng
 ·go_wp2
  refine wide_endV (p:=2) rfl rfl HA1.out ?_ (HB1.out.alloc HB1.out.size _) (Nat.le_succ _) (by rw [HV.out]; rfl)
  obtain ⟨_,_,_,e,h⟩:=HI.out
  cases e
  have:=h.below (Nat.le_refl _) ((Below.refl w1.heap.size w1).alloc (Nat.le_refl _) (.cells #[.bool (decide ((dval l : Int) < 0)),.slice a m c] 123))
  rw [HV.out]; exact this
 ·have HNG : Hid (∀ W,Below w1.heap.size w1 W → Calls Tryz.prog 179 #[.agg #[.bool (decide ((dval l : Int) < 0)),.slice a m c]] W (WideR (-(dval l : Int)) W)):=fun W hW=>ineg_v _ _ W (HI.out.below hW)
  go_wp2_with fail
  refine (HNG.out _ ((Below.refl _ _).alloc (Nat.le_refl _) _)).mono ?_
  rintro e' w2 hq
  obtain ⟨a',m',c',rfl,hn,hb⟩:=hq.shape
  have r1:=hb.blk HA1.out (blk_lt HA1.out)
  obtain ⟨z0,z1,z2,z3,z4,z5⟩:=row2 r1
  have HN : Hid (Num .u64 18446744073709551616 w2 (.slice a' m' c') (-(dval l : Int)).natAbs):=hn
  have HR2 : Hid _:=r1
  have HB2 : Hid (Below w.heap.size w w2):=(HB1.out.alloc HB1.out.size _).thru hb
  clear hn r1 hb y0 y1 y2 y3 y4 y5
  go_wp2
  refine wide_endV (p:=2) rfl rfl HR2.out ?_ HB2.out (Nat.le_succ _) ?_
  ·rw [HV.out]; exact HN.out
  ·rw [HV.out]; unfold sg; rw [if_pos rfl,Bool.eq_iff_iff]; simp
theorem byte_ne (c : UInt8) : (((c.toNat : Nat) : Int) != 48) = !(c == 48):=by
 rw [Bool.eq_iff_iff]
 simp only [bne_iff_ne,Bool.not_eq_true',beq_eq_false_iff_ne,ne_eq]
 constructor
 ·intro h e; subst e; exact h rfl
 ·intro h e
  exact h (UInt8.toNat_inj.1 (by have : (48 : UInt8).toNat = 48:=rfl; omega))
theorem head_get : ∀ (l : List UInt8) (h : 0 < l.length),l.headD 0 = l[0]'h
 | _ :: _,_=>rfl
theorem okB_nil (ng : Bool) (e : Int) : (⟨ng,[],e⟩ : Dc).okB = (!ng && decide (e = 0)):=rfl
theorem okB_cons (ng : Bool) (l : List UInt8) (e : Int) (h : l ≠ []) : (⟨ng,l,e⟩ : Dc).okB = (decide (l.length ≤ 8192) && (l.all isDig && (!(l.headD 0 == 48) && (!(l.getLastD 0 == 48) && (decide (-20000 ≤ e) && decide (e ≤ 20000)))))):=by
 unfold Dc.okB; rw [if_neg h]
theorem valid_any (ng : Bool) (s : ByteArray) (e : Int) (w : World) (hs : s.size ≤ 9223372036854775807) :
  Calls Tryz.prog 119 #[.agg #[.bool ng,.string s,.int .i64 e]] w fun en w'=>en = .returned (.bool (⟨ng,bl s,e⟩ : Dc).okB) ∧ Below w.heap.size w w':=by
 obtain ⟨r,hr⟩ : ∃ r,r = (⟨ng,bl s,e⟩ : Dc).okB:=⟨_,rfl⟩
 rw [← hr]
 have hb0 : Below w.heap.size w (w.alloc (.cells #[.bool ng,.string s,.int .i64 e] 35)):=(Below.refl _ _).alloc (Nat.le_refl _) _
 have q0:=new_blk w (.cells #[.bool ng,.string s,.int .i64 e] 35)
 have HB0 : Hid _:=hb0
 have HQ0 : Hid _:=q0
 have c0:=cell_of_row _ _ 0 _ _ _ q0
 have c1:=cell_of_row _ _ 1 _ _ _ q0
 have c2:=cell_of_row _ _ 2 _ _ _ q0
 clear hb0 q0
 by_cases h0 : s.size = 0
 ·have hl : bl s = []:=List.eq_nil_of_length_eq_zero (by rw [bl_len]; exact h0)
  rw [hl,okB_nil] at hr
  have he : s = ⟨#[]⟩:=bl_inj hl
  subst he
  have HR : Hid _:=hr
  clear hr hl h0 hs
  cases ng
  ·by_cases he : e = 0
   ·subst he
    go_enter Tryz.func119,Tryz.ntmps119
    go_wp2
    go_ret
    exact ⟨by rw [HR.out]; rfl,HB0.out⟩
   ·have HE : Hid (¬ e = 0):=he
    go_enter Tryz.func119,Tryz.ntmps119
    go_wp2
    go_ret
    exact ⟨by rw [HR.out,decide_eq_false HE.out]; rfl,HB0.out⟩
  ·go_enter Tryz.func119,Tryz.ntmps119
   go_wp2
   go_ret
   exact ⟨by rw [HR.out]; rfl,HB0.out⟩
 ·have hl : bl s ≠ []:=fun e=>h0 (by rw [← bl_len,e]; rfl)
  have hp : 0 < s.size:=by omega
  have he : s.toList.isEmpty = false:=by
   obtain ⟨x,y,hxy⟩ : ∃ x y,bl s = x :: y:=by
    cases g : bl s with
    | nil=>exact absurd g hl
    | cons x y=>exact ⟨x,y,rfl⟩
   have : s = ⟨(x :: y).toArray⟩:=bl_inj hxy
   rw [this,ByteArray.toList_mk]; rfl
  rw [okB_cons _ _ _ hl,bl_len] at hr
  have HNB : Hid (∀ W,Calls Tryz.prog 177 #[.string s] W fun e' w'=>e' = .returned (.bool ((bl s).all isDig)) ∧ Below W.heap.size W w'):=fun W=>number_any s W hs
  have hh : (bl s).headD 0 = s[0]'hp:=by
   rw [bl_get s 0 hp]; exact head_get _ _
  have hla : (bl s).getLastD 0 = s[s.size - 1]'(by omega):=by
   rw [bl_get s _ (by omega),List.getLastD_eq_getLast?,List.getLast?_eq_getElem?]
   have : (bl s).length - 1 < (bl s).length:=by rw [bl_len]; omega
   rw [List.getElem?_eq_getElem this]; rfl
  rw [hh,hla] at hr
  have hw : IntKind.i64.wrap ((s.size : Int) - 1) = ((s.size - 1 : Nat) : Int):=by rw [IntWalk.i64_in _ (by omega)]; omega
  have hq1 : s.size - 1 < s.size:=by omega
  obtain ⟨q0,hq0⟩ : ∃ q,q = (s[0]'hp == 48):=⟨_,rfl⟩
  obtain ⟨q1,hq1e⟩ : ∃ q,q = (s[s.size - 1]'hq1 == 48):=⟨_,rfl⟩
  obtain ⟨al,hal⟩ : ∃ q,q = (bl s).all isDig:=⟨_,rfl⟩
  rw [← hq0,← hq1e,← hal] at hr
  rw [← hal] at HNB
  have hi0 : ((((s[0]'hp).toNat : Nat) : Int) != 48) = !q0:=by
   rw [hq0]; exact byte_ne _
  have hi1 : ((((s[s.size - 1]'hq1).toNat : Nat) : Int) != 48) = !q1:=by
   rw [hq1e]; exact byte_ne _
  have HR : Hid _:=hr
  clear hr hh hla hl hq0 hq1e hal h0
  by_cases k1 : s.size ≤ 8192
  case neg=>
   have k1' : ¬ (s.size : Int) ≤ 8192:=by omega
   have K1 : Hid (¬ s.size ≤ 8192):=k1
   clear k1
   go_enter Tryz.func119,Tryz.ntmps119
   go_wp2
   go_ret
   exact ⟨by rw [HR.out,decide_eq_false K1.out]; simp,HB0.out⟩
  case pos=>
   have k1' : (s.size : Int) ≤ 8192:=by omega
   have K1 : Hid (s.size ≤ 8192):=k1
   clear k1
   cases al
   case false=>
    go_enter Tryz.func119,Tryz.ntmps119
    go_wp2_with (go_at_call 177; refine (HNB.out _).mono ?_; rintro e' w' ⟨rfl,hb'⟩; have hr':=hb'.blk HQ0.out (by simp); have d1 : w'.cell? ⟨w.heap.size,1,none⟩ = some (.string s):=cell_of_row _ _ 1 _ _ _ hr'; have d2 : w'.cell? ⟨w.heap.size,2,none⟩ = some (.int .i64 e):=cell_of_row _ _ 2 _ _ _ hr'; have HB' : Hid (Below w.heap.size w w'):=HB0.out.thru hb'; clear hb' hr')
    go_ret
    exact ⟨by rw [HR.out]; simp,HB'.out⟩
   case true=>
    cases q0
    case true=>
     go_enter Tryz.func119,Tryz.ntmps119
     go_wp2_with (go_at_call 177; refine (HNB.out _).mono ?_; rintro e' w' ⟨rfl,hb'⟩; have hr':=hb'.blk HQ0.out (by simp); have d1 : w'.cell? ⟨w.heap.size,1,none⟩ = some (.string s):=cell_of_row _ _ 1 _ _ _ hr'; have d2 : w'.cell? ⟨w.heap.size,2,none⟩ = some (.int .i64 e):=cell_of_row _ _ 2 _ _ _ hr'; have HB' : Hid (Below w.heap.size w w'):=HB0.out.thru hb'; clear hb' hr')
     go_ret
     exact ⟨by rw [HR.out]; simp,HB'.out⟩
    case false=>
     cases q1
     case true=>
      go_enter Tryz.func119,Tryz.ntmps119
      go_wp2_with (go_at_call 177; refine (HNB.out _).mono ?_; rintro e' w' ⟨rfl,hb'⟩; have hr':=hb'.blk HQ0.out (by simp); have d1 : w'.cell? ⟨w.heap.size,1,none⟩ = some (.string s):=cell_of_row _ _ 1 _ _ _ hr'; have d2 : w'.cell? ⟨w.heap.size,2,none⟩ = some (.int .i64 e):=cell_of_row _ _ 2 _ _ _ hr'; have HB' : Hid (Below w.heap.size w w'):=HB0.out.thru hb'; clear hb' hr')
      go_ret
      exact ⟨by rw [HR.out]; simp,HB'.out⟩
     case false=>
      by_cases k2 : -20000 ≤ e
      case neg=>
       have K2 : Hid (decide (-20000 ≤ e) = false):=decide_eq_false k2
       go_enter Tryz.func119,Tryz.ntmps119
       go_wp2_with (go_at_call 177; refine (HNB.out _).mono ?_; rintro e' w' ⟨rfl,hb'⟩; have hr':=hb'.blk HQ0.out (by simp); have d1 : w'.cell? ⟨w.heap.size,1,none⟩ = some (.string s):=cell_of_row _ _ 1 _ _ _ hr'; have d2 : w'.cell? ⟨w.heap.size,2,none⟩ = some (.int .i64 e):=cell_of_row _ _ 2 _ _ _ hr'; have HB' : Hid (Below w.heap.size w w'):=HB0.out.thru hb'; clear hb' hr')
       go_ret
       exact ⟨by rw [HR.out,K2.out]; simp,HB'.out⟩
      case pos=>
       have K2 : Hid (decide (-20000 ≤ e) = true):=decide_eq_true k2
       by_cases k3 : e ≤ 20000
       case neg=>
        have K3 : Hid (decide (e ≤ 20000) = false):=decide_eq_false k3
        go_enter Tryz.func119,Tryz.ntmps119
        go_wp2_with (go_at_call 177; refine (HNB.out _).mono ?_; rintro e' w' ⟨rfl,hb'⟩; have hr':=hb'.blk HQ0.out (by simp); have d1 : w'.cell? ⟨w.heap.size,1,none⟩ = some (.string s):=cell_of_row _ _ 1 _ _ _ hr'; have d2 : w'.cell? ⟨w.heap.size,2,none⟩ = some (.int .i64 e):=cell_of_row _ _ 2 _ _ _ hr'; have HB' : Hid (Below w.heap.size w w'):=HB0.out.thru hb'; clear hb' hr')
        go_ret
        exact ⟨by rw [HR.out,K3.out]; simp,HB'.out⟩
       case pos=>
        have K3 : Hid (decide (e ≤ 20000) = true):=decide_eq_true k3
        go_enter Tryz.func119,Tryz.ntmps119
        go_wp2_with (go_at_call 177; refine (HNB.out _).mono ?_; rintro e' w' ⟨rfl,hb'⟩; have hr':=hb'.blk HQ0.out (by simp); have d1 : w'.cell? ⟨w.heap.size,1,none⟩ = some (.string s):=cell_of_row _ _ 1 _ _ _ hr'; have d2 : w'.cell? ⟨w.heap.size,2,none⟩ = some (.int .i64 e):=cell_of_row _ _ 2 _ _ _ hr'; have HB' : Hid (Below w.heap.size w w'):=HB0.out.thru hb'; clear hb' hr')
        go_ret
        exact ⟨by rw [HR.out,decide_eq_true K1.out,K2.out,K3.out]; simp,HB'.out⟩
theorem valid_v (d : Dc) (w : World) (hs : d.s.length ≤ 9223372036854775807) : Calls Tryz.prog 119 #[dcV d] w fun en w'=>en = .returned (.bool d.okB) ∧ Below w.heap.size w w':=
 valid_any d.neg (bs d.s) d.e w hs
theorem dcV_none : dcV Dc.none = .agg #[.bool false,.string ⟨#[]⟩,.int .i64 0]:=rfl
theorem neg_bad (d : Dc) (w : World) (hs : d.s.length ≤ 9223372036854775807) (hb : d.okB = false) : Calls Tryz.prog 123 #[dcV d] w (DcQ Dc.none 1 w):=by
 obtain ⟨ng,l,e⟩:=d
 obtain ⟨s,hse⟩ : ∃ s,s = bs l:=⟨_,rfl⟩
 show Calls Tryz.prog 123 #[.agg #[.bool ng,.string (bs l),.int .i64 e]] w _
 have HV : Hid (∀ W,Calls Tryz.prog 119 #[.agg #[.bool ng,.string s,.int .i64 e]] W fun en w'=>en = .returned (.bool false) ∧ Below W.heap.size W w'):=fun W=>by
  rw [← hb,hse]; exact valid_v ⟨ng,l,e⟩ W hs
 rw [← hse]
 have HB0 : Hid (Below w.heap.size w ((w.alloc (.cells #[.bool ng,.string s,.int .i64 e] 35)).alloc (.cells #[.bool false,.string ⟨#[]⟩,.int .i64 0] 35))):=((Below.refl _ _).alloc (Nat.le_refl _) _).alloc (by simp) _
 have HQ1 : Hid _:=heap_alloc2_new w (.cells #[.bool ng,.string s,.int .i64 e] 35) (.cells #[.bool false,.string ⟨#[]⟩,.int .i64 0] 35)
 clear hs hb hse
 go_enter Tryz.func123,Tryz.ntmps123
 go_wp2_with fail
 refine (HV.out _).mono ?_
 rintro e' w1 ⟨rfl,hb⟩
 have r1:=hb.blk HQ1.out (blk_lt HQ1.out)
 obtain ⟨f0,c0,f1,c1,f2,c2,r3⟩:=rw3 r1
 have HR : Hid _:=r3
 have HBB : Hid (Below w.heap.size w w1):=HB0.out.thru hb
 clear r1 r3 hb
 go_wp2
 exact dc_end rfl rfl rfl (HR.out _ _ _) rfl rfl (below_row3 HBB.out (Nat.le_add_right _ 1) _ _ _)
theorem neg_ok (d : Dc) (w : World) (hok : d.ok) : Calls Tryz.prog 123 #[dcV d] w (DcQ (negD d) 0 w):=by
 have HVV : Hid (∀ W,Calls Tryz.prog 119 #[dcV d] W fun en w'=>en = .returned (.bool true) ∧ Below W.heap.size W w'):=fun W=>by
  rw [← okB_ok hok]; exact valid_v d W (by have:=ok_len hok; omega)
 by_cases h0 : d.s = []
 ·have:=ok_nil hok h0
  subst this
  have HV : Hid (∀ W,Calls Tryz.prog 119 #[.agg #[.bool false,.string ⟨#[]⟩,.int .i64 0]] W fun en w'=>en = .returned (.bool true) ∧ Below W.heap.size W w'):=HVV.out
  show Calls Tryz.prog 123 #[.agg #[.bool false,.string ⟨#[]⟩,.int .i64 0]] w (DcQ Dc.none 0 w)
  clear hok h0 HVV
  have HB0 : Hid (Below w.heap.size w ((w.alloc (.cells #[.bool false,.string ⟨#[]⟩,.int .i64 0] 35)).alloc (.cells #[.bool false,.string ⟨#[]⟩,.int .i64 0] 35))):=((Below.refl _ _).alloc (Nat.le_refl _) _).alloc (by simp) _
  have HQ0 : Hid _:=heap_alloc2_old w (.cells #[.bool false,.string ⟨#[]⟩,.int .i64 0] 35) (.cells #[.bool false,.string ⟨#[]⟩,.int .i64 0] 35)
  have HQ1 : Hid _:=heap_alloc2_new w (.cells #[.bool false,.string ⟨#[]⟩,.int .i64 0] 35) (.cells #[.bool false,.string ⟨#[]⟩,.int .i64 0] 35)
  go_enter Tryz.func123,Tryz.ntmps123
  go_wp2_with fail
  refine (HV.out _).mono ?_
  rintro e' w1 ⟨rfl,hb⟩
  have r0:=hb.blk HQ0.out (blk_lt HQ0.out)
  have r1:=hb.blk HQ1.out (blk_lt HQ1.out)
  obtain ⟨g0,d0,g1,d1,g2,d2,-⟩:=rw3 r0
  obtain ⟨f0,c0,f1,c1,f2,c2,r3⟩:=rw3 r1
  have k1:=cell_of_row _ _ 1 _ _ _ r0
  have k2:=cell_of_row _ _ 2 _ _ _ r0
  have HR : Hid _:=r3
  have HBB : Hid (Below w.heap.size w w1):=HB0.out.thru hb
  clear r1 r3 hb
  go_wp2
  exact dc_end rfl rfl rfl (HR.out _ _ _) rfl rfl (below_row3 HBB.out (Nat.le_add_right _ 1) _ _ _)
 ·obtain ⟨ng,l,e⟩:=d
  obtain ⟨s,hse⟩ : ∃ s,s = bs l:=⟨_,rfl⟩
  have hne : negD ⟨ng,l,e⟩ = ⟨!ng,l,e⟩:=by unfold negD; rw [if_neg h0]
  rw [hne]
  have hl : l ≠ []:=h0
  obtain ⟨x,y,hxy⟩ : ∃ x y,l = x :: y:=by
   cases g : l with
   | nil=>exact absurd g hl
   | cons x y=>exact ⟨x,y,rfl⟩
  have he : s.toList.isEmpty = false:=by rw [hse,hxy]; show (ByteArray.mk _).toList.isEmpty = false; rw [ByteArray.toList_mk]; rfl
  have HV : Hid (∀ W,Calls Tryz.prog 119 #[.agg #[.bool ng,.string s,.int .i64 e]] W fun en w'=>en = .returned (.bool true) ∧ Below W.heap.size W w'):=by rw [hse]; exact HVV.out
  show Calls Tryz.prog 123 #[.agg #[.bool ng,.string (bs l),.int .i64 e]] w _
  rw [← hse]
  obtain ⟨k,hk⟩ : ∃ k,(!ng) = k:=⟨_,rfl⟩
  rw [hk]
  have HS : Hid (s = bs l):=hse
  clear hok h0 HVV hxy hl hse hne
  have HB0 : Hid (Below w.heap.size w ((w.alloc (.cells #[.bool ng,.string s,.int .i64 e] 35)).alloc (.cells #[.bool false,.string ⟨#[]⟩,.int .i64 0] 35))):=((Below.refl _ _).alloc (Nat.le_refl _) _).alloc (by simp) _
  have HQ0 : Hid _:=heap_alloc2_old w (.cells #[.bool ng,.string s,.int .i64 e] 35) (.cells #[.bool false,.string ⟨#[]⟩,.int .i64 0] 35)
  have HQ1 : Hid _:=heap_alloc2_new w (.cells #[.bool ng,.string s,.int .i64 e] 35) (.cells #[.bool false,.string ⟨#[]⟩,.int .i64 0] 35)
  go_enter Tryz.func123,Tryz.ntmps123
  go_wp2_with fail
  refine (HV.out _).mono ?_
  rintro e' w1 ⟨rfl,hb⟩
  have r0:=hb.blk HQ0.out (blk_lt HQ0.out)
  have r1:=hb.blk HQ1.out (blk_lt HQ1.out)
  obtain ⟨g0,d0,g1,d1,g2,d2,-⟩:=rw3 r0
  have k1:=cell_of_row _ _ 1 _ _ _ r0
  have k2:=cell_of_row _ _ 2 _ _ _ r0
  have s0:=heap_setCell_same w1 w.heap.size 0 _ _ (.bool k) r0
  have s1 : (w1.setCell ⟨w.heap.size,0,none⟩ (.bool k)).heap[w.heap.size + 1]? = some (.cells #[.bool false,.string ⟨#[]⟩,.int .i64 0] 35 (0,0)):=(heap_setCell_other w1 _ _ _ (show w.heap.size + 1 ≠ w.heap.size by omega)).trans r1
  have m0:=cell_of_row _ _ 0 _ _ _ s0
  have m1:=cell_of_row _ _ 1 _ _ _ s0
  have m2:=cell_of_row _ _ 2 _ _ _ s0
  obtain ⟨f0,c0,f1,c1,f2,c2,r3⟩:=rw3 s1
  have HR : Hid _:=r3
  have HBB : Hid (Below w.heap.size w w1):=HB0.out.thru hb
  clear r0 r1 r3 hb s0 s1
  go_wp2
  exact dc_end rfl rfl rfl (HR.out _ _ _) (by rw [HS.out]; rfl) rfl (below_row3 (HBB.out.setCell (Nat.le_refl _) _) (Nat.le_add_right _ 1) _ _ _)
theorem dec_one {fn : Func} {p : Tmp} (h : fn.results = #[.cell p 35]) (tmps : Array Value) (w : World) (g : Nat) (a b c : Value)
  (hp : tmps.getD p undef = .pointer (some ⟨g,0,none⟩)) (hg : w.heap[g]? = some (.cells #[a,b,c] 35 (0,0))) : (results fn tmps).run Tryz.prog w = .ok (.agg #[a,b,c]) w:=
 results_cell_row h tmps w g _ _ _ _ hp hg Tryz.underlying35 rfl (by kernel_rfl)
theorem int_v (n : Int) (w : World) (h0 : -9223372036854775808 ≤ n) (h1 : n ≤ 9223372036854775807) (htab : Tab w) :
  Calls Tryz.prog 61 #[.int .i64 n] w fun e w'=>e = .returned (dcV (mkD n 0)) ∧ Below w.heap.size w w':=by
 have HO : Hid (∀ W,Calls Tryz.prog 122 #[.int .i64 n] W (WideR n W)):=fun W=>iof_v n W h0 h1
 have HW : Hid (∀ W v,Below w.heap.size w W → WideI W v n → Calls Tryz.prog 120 #[v,.int .i64 0] W (DcQ (mkD n 0) (mkX n 0) W)):=fun W v hW hv=>whole_any v n 0 W hv (bb:=64) (by omega) (by decide) (htab.below hW)
 have HB0 : Hid (Below w.heap.size w (w.alloc (.cells #[.bool false,.string ⟨#[]⟩,.int .i64 0] 35))):=(Below.refl _ _).alloc (Nat.le_refl _) _
 have HQ : Hid _:=new_blk w (.cells #[.bool false,.string ⟨#[]⟩,.int .i64 0] 35)
 obtain ⟨D,hD⟩ : ∃ D,D = mkD n 0:=⟨_,rfl⟩
 rw [← hD] at HW ⊢
 generalize mkX n 0 = X at *
 clear h0 h1 htab hD
 go_enter Tryz.func61,Tryz.ntmps61
 go_wp2_with fail
 refine (HO.out _).mono ?_
 rintro e w1 hq
 obtain ⟨v,rfl,hi,hb⟩:=hq
 have HB1 : Hid (Below w.heap.size w w1):=HB0.out.thru hb
 have HQ1 : Hid _:=hb.blk HQ.out (blk_lt HQ.out)
 have HI : Hid (WideI w1 v n):=hi
 clear hb hi
 go_wp2_with fail
 refine (HW.out _ v HB1.out HI.out).mono ?_
 rintro e w2 ⟨rfl,hb⟩
 have HB2 : Hid (Below w.heap.size w w2):=HB1.out.thru hb
 have HQ2 : Hid _:=hb.blk HQ1.out (blk_lt HQ1.out)
 have a1:=((Below.refl w2.heap.size w2).alloc (Nat.le_refl _) (.cells #[.bool D.neg,.string (bs D.s),.int .i64 D.e] 35)).blk HQ2.out (blk_lt HQ2.out)
 obtain ⟨f0,c0,f1,c1,f2,c2,r3⟩:=rw3 a1
 have HR : Hid _:=r3
 clear hb a1 r3
 simp only [dcV]
 go_wp2
 exact bodyPost_ret (dec_one rfl _ _ w.heap.size _ _ _ rfl (HR.out _ _ _)) rfl ⟨rfl,below_row3 (HB2.out.alloc HB2.out.size _) (Nat.le_refl _) _ _ _⟩
end Go.Proofs.YtlbokicainimnaaGreatDoor
