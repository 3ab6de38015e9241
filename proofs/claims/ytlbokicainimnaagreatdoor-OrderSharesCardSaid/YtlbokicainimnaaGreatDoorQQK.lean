import Derived.Test.YtlbokicainimnaaGreatDoorQQE
import Derived.Test.YtlbokicainimnaaGreatDoorQQD
import Derived.Test.YtlbokicainimnaaGreatDoorQQF
import Derived.Deep.CutBlock
import Derived.Deep.DeepCutAuto
set_option maxRecDepth 100000
namespace Go.Proofs.YtlbokicainimnaaGreatDoor
open Go.RowKit
theorem lz_any (x : Nat) (w : World) (hx : W64 x) :
  Calls Tryz.prog 216 #[.int .u64 x] w fun e w'=>e = .returned (.int .i64 ((64 - blen x : Nat) : Int)) ∧ w = w':=by
 have hle : blen x ≤ 64:=blen_le (by unfold W64 at hx; simpa using hx)
 obtain ⟨l,hl⟩ : ∃ l,l = blen x:=⟨_,rfl⟩
 rw [← hl] at hle ⊢
 have HL : Hid (l = blen x):=hl
 have HX : Hid (W64 x):=hx
 clear hl hx
 go_enter Tryz.func216,Tryz.ntmps216
 go_wp2_with (go_at_call 192; refine (len_any x _ HX.out).mono ?_; rw [← HL.out]; rintro e w' ⟨rfl,rfl⟩)
 go_ret
 rw [show ((64 - l : Nat) : Int) = 64 - (l : Int) by omega]
 exact ⟨rfl,rfl⟩
theorem dq_wrap {q r y0 t : Nat} (hq : q < 4294967296) (hr : r < 4294967296) (h0 : y0 < 4294967296) (ht : t < 4294967296) :
  IntKind.u64.wrap ((q : Int) * y0) = ((q * y0 : Nat) : Int) ∧ IntKind.u64.wrap (4294967296 * (r : Int)) = ((4294967296 * r : Nat) : Int) ∧ IntKind.u64.wrap (((4294967296 * r : Nat) : Int) + t) = ((4294967296 * r + t : Nat) : Int):=by
 have a : q * y0 ≤ 4294967295 * 4294967295:=Nat.mul_le_mul (by omega) (by omega)
 refine ⟨?_,?_,?_⟩
 ·rw [← Int.natCast_mul,wrapN _ (by omega)]
 ·rw [IntKind.wrap_u64]; omega
 ·rw [IntKind.wrap_u64]; omega
def divW (hi : Nat) (w : World) : World:=if hi = 0 then w.drew else w
theorem divW_zero (w : World) : divW 0 w = w.drew:=rfl
theorem divW_pos {hi : Nat} (h : hi ≠ 0) (w : World) : divW hi w = w:=if_neg h
set_option maxHeartbeats 4000000 in
theorem div64_w (hi lo y : Nat) (w : World) (hlo : lo < 18446744073709551616) (hy : y < 18446744073709551616) (hlt : hi < y) :
  Calls Tryz.prog 207 #[.int .u64 hi,.int .u64 lo,.int .u64 y] w fun e w'=>
   e = .returned (.tuple #[.int .u64 ((hi * 18446744073709551616 + lo) / y : Nat),.int .u64 ((hi * 18446744073709551616 + lo) % y : Nat)]) ∧ divW hi w = w':=by
 by_cases h0 : hi = 0
 ·subst h0
  rw [Nat.zero_mul,Nat.zero_add]
  obtain ⟨Q,hQ⟩ : ∃ Q : Nat,(lo : Int) / y = Q:=⟨lo / y,by rw [Int.natCast_ediv]⟩
  obtain ⟨R,hR⟩ : ∃ R : Nat,(lo : Int) % y = R:=⟨lo % y,by rw [Int.natCast_emod]⟩
  have hQ' : lo / y = Q:=by rw [← Int.natCast_ediv] at hQ; omega
  have hR' : lo % y = R:=by rw [← Int.natCast_emod] at hR; omega
  rw [hQ',hR']
  have hy0 : ((y : Int) == 0) = false:=by simp; omega
  have hy1 : (y : Int) ≠ 0:=by omega
  have hQb : Q < 18446744073709551616:=by rw [← hQ']; exact Nat.lt_of_le_of_lt (Nat.div_le_self _ _) hlo
  have hRb : R < 18446744073709551616:=by rw [← hR']; exact Nat.lt_of_le_of_lt (Nat.mod_le _ _) hlo
  clear hQ' hR'
  go_enter Tryz.func207,Tryz.ntmps207
  go_wp2
  go_region
  go_wp2
  go_ret2
  exact ⟨by rw [← hR]; rfl,divW_zero _⟩
 ·have hh0 : ((hi : Int) == 0) = false:=by simp; omega
  have hy0 : ((y : Int) == 0) = false:=by simp; omega
  have hyh : ¬ (y : Int) ≤ hi:=by omega
  obtain ⟨s,hs⟩ : ∃ s,s = 64 - blen y:=⟨_,rfl⟩
  obtain ⟨p1,p2,p3⟩:=blen_pos (n:=y) (by omega)
  have hb64 : blen y ≤ 64:=blen_le (by simpa using hy)
  have hs63 : s ≤ 63:=by omega
  obtain ⟨Y,hY⟩ : ∃ Y,Y = y * 2 ^ s:=⟨_,rfl⟩
  have hY1 : 9223372036854775808 ≤ Y:=by
   have:=Nat.mul_le_mul_right (2 ^ s) p1
   rw [← Nat.pow_add,show blen y - 1 + s = 63 by omega] at this
   rw [hY]; simpa using this
  have hY2 : Y < 18446744073709551616:=by
   have:=Nat.mul_lt_mul_of_pos_right p2 (Nat.two_pow_pos s)
   rw [← Nat.pow_add,show blen y + s = 64 by omega] at this
   rw [hY]; simpa using this
  have hW : W64 y:=hy
  have HLZ : Hid (∀ w,Calls Tryz.prog 216 #[.int .u64 y] w fun e w'=>e = .returned (.int .i64 (s : Nat)) ∧ w = w'):=by
   intro w
   rw [hs]
   exact lz_any y w hW
  obtain ⟨N,hN⟩ : ∃ N,N = hi * 18446744073709551616 + lo:=⟨_,rfl⟩
  obtain ⟨u,hu⟩ : ∃ u,u = N * 2 ^ s / 18446744073709551616:=⟨_,rfl⟩
  obtain ⟨L,hL⟩ : ∃ L,L = N * 2 ^ s % 18446744073709551616:=⟨_,rfl⟩
  have h2s : 2 ^ s ≤ 9223372036854775808:=by
   have : 2 ^ s ≤ 2 ^ 63:=Nat.pow_le_pow_right (by decide) hs63
   simpa using this
  have huY : u < Y:=by
   rw [hu,Nat.div_lt_iff_lt_mul (by decide),hY,Nat.mul_right_comm]
   exact Nat.mul_lt_mul_of_pos_right (by omega) (Nat.two_pow_pos s)
  have hLb : L < 18446744073709551616:=by rw [hL]; exact Nat.mod_lt _ (by decide)
  have e2s : 2 ^ s * 2 ^ (64 - s) = 18446744073709551616:=by rw [← Nat.pow_add,show s + (64 - s) = 64 by omega]
  have hu2 : u = hi * 2 ^ s + lo / 2 ^ (64 - s):=by
   rw [hu,hN,Nat.add_mul,Nat.mul_right_comm,Nat.mul_comm (hi * 2 ^ s),Nat.mul_add_div (by decide)]
   congr 1
   conv=>lhs; rw [← e2s,Nat.mul_comm (2 ^ s)]
   exact Nat.mul_div_mul_right _ _ (Nat.two_pow_pos s)
  have hL2 : L = lo * 2 ^ s % 18446744073709551616:=by
   rw [hL,hN,Nat.add_mul,Nat.mul_right_comm,Nat.mul_add_mod_self_right]
  have hlot : lo / 2 ^ (64 - s) < 2 ^ s:=by rw [Nat.div_lt_iff_lt_mul (Nat.two_pow_pos _),e2s]; exact hlo
  have hhis : hi * 2 ^ s < 18446744073709551616:=by
   have:=Nat.mul_le_mul_right (2 ^ s) (Nat.le_of_lt hlt)
   omega
  have f1 : IntKind.u64.wrap ((y : Int) * 2 ^ s) = (Y : Int):=by
   rw [show (y : Int) * 2 ^ s = ((y * 2 ^ s : Nat) : Int) by simp only [Int.natCast_mul,Int.natCast_pow]; rfl,← hY]; exact wrapN _ hY2
  have f4 : bits BinOp.or IntKind.u64 (IntKind.u64.wrap ((hi : Int) * 2 ^ s)) ((lo : Int) / 2 ^ (64 - s)) = (u : Int):=by
   rw [show (hi : Int) * 2 ^ s = ((hi * 2 ^ s : Nat) : Int) by simp only [Int.natCast_mul,Int.natCast_pow]; rfl,wrapN _ hhis,
    show (lo : Int) / 2 ^ (64 - s) = ((lo / 2 ^ (64 - s) : Nat) : Int) by simp only [Int.natCast_ediv,Int.natCast_pow]; rfl,u64_or_nat _ _ hhis (by omega),Nat.or_comm,
    or_add hlot (Nat.mul_mod_left _ _),Nat.add_comm,← hu2]
  have f5 : IntKind.u64.wrap ((lo : Int) * 2 ^ s) = (L : Int):=by
   rw [show (lo : Int) * 2 ^ s = ((lo * 2 ^ s : Nat) : Int) by simp only [Int.natCast_mul,Int.natCast_pow]; rfl,wrapM,← hL2]
  obtain ⟨y1,hy1⟩ : ∃ y1,y1 = Y / 4294967296:=⟨_,rfl⟩
  obtain ⟨y0,hy0'⟩ : ∃ y0,y0 = Y % 4294967296:=⟨_,rfl⟩
  obtain ⟨a,ha⟩ : ∃ a,a = L / 4294967296:=⟨_,rfl⟩
  obtain ⟨b,hb⟩ : ∃ b,b = L % 4294967296:=⟨_,rfl⟩
  have f2 : (Y : Int) / 4294967296 = (y1 : Int):=by rw [divN,hy1]
  have f3 : bits .and .u64 (Y : Int) 4294967295 = (y0 : Int):=by rw [maskN _ hY2,hy0']
  have f6 : (L : Int) / 4294967296 = (a : Int):=by rw [divN,ha]
  have f7 : bits .and .u64 (L : Int) 4294967295 = (b : Int):=by rw [maskN _ hLb,hb]
  have hYe : Y = y1 * 4294967296 + y0:=by omega
  have hy1b : 2147483648 ≤ y1 ∧ y1 < 4294967296:=by omega
  have hy0b : y0 < 4294967296:=by omega
  have hab : a < 4294967296:=by omega
  have hbb : b < 4294967296:=by omega
  have hub : u < 18446744073709551616:=by omega
  have hy1z : (y1 : Int) ≠ 0:=by omega
  have hd:=dq_start (y0:=y0) (u:=u) (t:=a) (by omega : 0 < y1) hab
  have hr0 : u % y1 < y1:=Nat.mod_lt _ (by omega)
  obtain ⟨qa,hqa⟩ : ∃ qa,qa = u / y1:=⟨_,rfl⟩
  obtain ⟨ra,hra⟩ : ∃ ra,ra = u % y1:=⟨_,rfl⟩
  have f8 : (u : Int) / y1 = (qa : Int):=by rw [hqa,Int.natCast_ediv]
  have f9 : IntKind.u64.wrap ((u : Int) - IntKind.u64.wrap ((qa : Int) * y1)) = (ra : Int):=by
   have e:=Nat.div_add_mod u y1
   rw [← hqa,← hra,Nat.mul_comm] at e
   rw [← Int.natCast_mul,wrapN _ (by omega),show (u : Int) - ((qa * y1 : Nat) : Int) = (ra : Int) by omega]
   exact wrapN _ (by omega)
  rw [← hqa,← hra] at hd
  rw [← hra] at hr0
  have HD1 : Hid (DQ y1 y0 u a qa ra):=hd
  rw [← hN]
  obtain ⟨Q,eQ⟩ : ∃ Q,Q = N / y:=⟨_,rfl⟩
  obtain ⟨R,eR⟩ : ∃ R,R = N % y:=⟨_,rfl⟩
  rw [← eQ,← eR]
  have HQQ : Hid (Q = N / y):=eQ
  have HRR : Hid (R = N % y):=eR
  have HY : Hid (Y = y * 2 ^ s):=hY
  have HU : Hid (u = N * 2 ^ s / 18446744073709551616):=hu
  have HL : Hid (L = N * 2 ^ s % 18446744073709551616):=hL
  have HYE : Hid (Y = y1 * 4294967296 + y0):=hYe
  have HUY : Hid (u < y1 * 4294967296 + y0):=by show u < _; omega
  have HA : Hid (a = L / 4294967296 ∧ b = L % 4294967296):=⟨ha,hb⟩
  have hqab : qa < 18446744073709551616:=by rw [hqa]; exact Nat.lt_of_le_of_lt (Nat.div_le_self _ _) hub
  have hrab : ra < 4294967296:=by omega
  clear eQ eR hYe hr0 hs p1 p2 p3 hb64 hW hN hu hL hu2 hL2 hlot hhis e2s h2s hY hqa hra hd hy1 hy0' ha hb
  go_enter Tryz.func207,Tryz.ntmps207
  go_upto_block 0 with (go_at_call 216; refine (HLZ.out _).mono ?_; rintro e w' ⟨rfl,rfl⟩)
  obtain ⟨q1,hq1⟩ : ∃ q1,q1 = (u * 4294967296 + a) / Y:=⟨_,rfl⟩
  have HQ1 : Hid (q1 = (u * 4294967296 + a) / Y):=hq1
  clear hq1 f8 f9
  go_cut [15,16] (fun q r wx=>q = .int .u64 (q1 : Nat) ∧ w = wx)
  case first=>as_aux_lemma=>
   go_wp2_with fail
   go_loop [15,16] (fun q r=>∃ qq rr : Nat,q = .int .u64 (qq : Nat) ∧ r = .int .u64 (rr : Nat) ∧ qq < 18446744073709551616 ∧ rr < 4294967296 ∧ Hid (DQ y1 y0 u a qq rr)) (fun q _=>(intOf q).toNat)
   case atStart=>exact ⟨qa,ra,rfl,rfl,hqab,hrab,HD1⟩
   case round=>
    obtain ⟨qq,rr,rfl,rfl,hqq,hrr,hdq⟩:=hrel
    by_cases hbig : 4294967296 ≤ qq
    ·have hlt2 : (u * 4294967296 + a) / (y1 * 4294967296 + y0) < qq:=dq_big HUY.out hab hbig
     have hbigI : (4294967296 : Int) ≤ qq:=by omega
     have hdn:=dq_next hdq.out hlt2
     have HDN : Hid (DQ y1 y0 u a (qq - 1) (rr + y1)):=hdn
     obtain ⟨q2,hq2⟩ : ∃ q2,q2 = qq - 1:=⟨_,rfl⟩
     obtain ⟨r2,hr2⟩ : ∃ r2,r2 = rr + y1:=⟨_,rfl⟩
     rw [← hq2,← hr2] at HDN
     have hq2I : (qq : Int) - 1 = (q2 : Int):=by omega
     have hr2I : (rr : Int) + y1 = (r2 : Int):=by omega
     have hq2b : q2 < 18446744073709551616:=by omega
     have hr2b : r2 < 18446744073709551616:=by omega
     have hlt3 : q2 < qq:=by omega
     clear hq2 hr2 hlt2 hdn hdq
     by_cases hbr : 4294967296 ≤ r2
     ·obtain ⟨b1,b2⟩:=dq_break HDN.out (by omega) HUY.out hy0b hbr
      rw [← HYE.out,← HQ1.out] at b2
      subst b2
      have hbrI : (4294967296 : Int) ≤ r2:=by omega
      go_wp2
      go_meet
      exact ⟨rfl,rfl⟩
     ·have hbrI : ¬ (4294967296 : Int) ≤ r2:=by omega
      go_wp2
      go_round
      case rel=>exact ⟨q2,r2,rfl,rfl,hq2b,by omega,HDN⟩
      case measure=>simp [intOf]; omega
    ·have hbigI : ¬ (4294967296 : Int) ≤ qq:=by omega
     obtain ⟨hw1,-,-⟩:=dq_wrap (q:=qq) (r:=rr) (y0:=y0) (t:=a) (by omega) hrr hy0b hab
     by_cases hprod : 4294967296 * rr + a < qq * y0
     ·have hlt2:=dq_prod hdq.out (by omega) hprod
      obtain ⟨pp,hpp⟩ : ∃ pp,pp = qq * y0:=⟨_,rfl⟩
      rw [← hpp] at hw1 hprod
      have hprodI : 4294967296 * (rr : Int) + a < pp:=by omega
      have hq0 : 0 < qq:=by
       rcases Nat.eq_zero_or_pos qq with z | z
       ·subst z; omega
       ·exact z
      clear hpp
      have hdn:=dq_next hdq.out hlt2
      have HDN : Hid (DQ y1 y0 u a (qq - 1) (rr + y1)):=hdn
      obtain ⟨q2,hq2⟩ : ∃ q2,q2 = qq - 1:=⟨_,rfl⟩
      obtain ⟨r2,hr2⟩ : ∃ r2,r2 = rr + y1:=⟨_,rfl⟩
      rw [← hq2,← hr2] at HDN
      have hq2I : (qq : Int) - 1 = (q2 : Int):=by omega
      have hr2I : (rr : Int) + y1 = (r2 : Int):=by omega
      have hq2b : q2 < 18446744073709551616:=by omega
      have hr2b : r2 < 18446744073709551616:=by omega
      have hlt3 : q2 < qq:=by omega
      clear hq2 hr2 hlt2 hdn hdq
      by_cases hbr : 4294967296 ≤ r2
      ·obtain ⟨b1,b2⟩:=dq_break HDN.out (by omega) HUY.out hy0b hbr
       rw [← HYE.out,← HQ1.out] at b2
       subst b2
       have hbrI : (4294967296 : Int) ≤ r2:=by omega
       go_wp2
       go_meet
       exact ⟨rfl,rfl⟩
      ·have hbrI : ¬ (4294967296 : Int) ≤ r2:=by omega
       go_wp2
       go_round
       case rel=>exact ⟨q2,r2,rfl,rfl,hq2b,by omega,HDN⟩
       case measure=>simp [intOf]; omega
     ·have hst:=dq_stop hdq.out (by omega) (by omega)
      rw [← HYE.out,← HQ1.out] at hst
      obtain ⟨pp,hpp⟩ : ∃ pp,pp = qq * y0:=⟨_,rfl⟩
      rw [← hpp] at hw1 hprod
      have hprodI : ¬ 4294967296 * (rr : Int) + a < pp:=by omega
      clear hpp
      subst hst
      go_wp2
      go_meet
      exact ⟨rfl,rfl⟩
  case rest=>
  obtain ⟨rfl,rfl⟩:=hcut
  obtain ⟨g1,g2,g3⟩:=dq_rest (y1:=y1) (y0:=y0) (u:=u) (t:=a) (q:=q1) (by rw [HQ1.out,HYE.out]) HUY.out hab
  rw [← HYE.out] at g2 g3
  obtain ⟨m1,hm1⟩ : ∃ m1,m1 = (u * 4294967296 + a) % Y:=⟨_,rfl⟩
  rw [← hm1] at g2 g3
  have HG2 : Hid (q1 * Y + m1 = u * 4294967296 + a):=g2
  have f10 : IntKind.u64.wrap (IntKind.u64.wrap (IntKind.u64.wrap ((u : Int) * 4294967296) + a) - IntKind.u64.wrap ((q1 : Int) * Y)) = (m1 : Int):=by
   rw [← Int.natCast_mul]
   simp only [IntKind.wrap_u64]
   omega
  have hm1b : m1 < 18446744073709551616:=by omega
  have hd:=dq_start (y0:=y0) (u:=m1) (t:=b) (by omega : 0 < y1) hbb
  have hr0 : m1 % y1 < y1:=Nat.mod_lt _ (by omega)
  obtain ⟨qb,hqb⟩ : ∃ qb,qb = m1 / y1:=⟨_,rfl⟩
  obtain ⟨rb,hrb⟩ : ∃ rb,rb = m1 % y1:=⟨_,rfl⟩
  have f8 : (m1 : Int) / y1 = (qb : Int):=by rw [hqb,Int.natCast_ediv]
  have f9 : IntKind.u64.wrap ((m1 : Int) - IntKind.u64.wrap ((qb : Int) * y1)) = (rb : Int):=by
   have e:=Nat.div_add_mod m1 y1
   rw [← hqb,← hrb,Nat.mul_comm] at e
   rw [← Int.natCast_mul,wrapN _ (by omega),show (m1 : Int) - ((qb * y1 : Nat) : Int) = (rb : Int) by omega]
   exact wrapN _ (by omega)
  rw [← hqb,← hrb] at hd
  rw [← hrb] at hr0
  have HD2 : Hid (DQ y1 y0 m1 b qb rb):=hd
  have HUM : Hid (m1 < y1 * 4294967296 + y0):=by show m1 < _; rw [← HYE.out]; exact g3
  have hqbb : qb < 18446744073709551616:=by rw [hqb]; exact Nat.lt_of_le_of_lt (Nat.div_le_self _ _) hm1b
  have hrbb : rb < 4294967296:=by omega
  clear g2 g3 hm1 hqb hrb hr0 hd
  go_upto_block 2 with fail
  obtain ⟨q0,hq0⟩ : ∃ q0,q0 = (m1 * 4294967296 + b) / Y:=⟨_,rfl⟩
  have HQ0 : Hid (q0 = (m1 * 4294967296 + b) / Y):=hq0
  clear hq0 f8 f9 f10
  go_cut [16,18] (fun r q wx=>q = .int .u64 (q0 : Nat) ∧ w = wx)
  case first=>as_aux_lemma=>
   go_wp2_with fail
   go_loop [16,18] (fun r q=>∃ qq rr : Nat,q = .int .u64 (qq : Nat) ∧ r = .int .u64 (rr : Nat) ∧ qq < 18446744073709551616 ∧ rr < 4294967296 ∧ Hid (DQ y1 y0 m1 b qq rr)) (fun _ q=>(intOf q).toNat)
   case atStart=>exact ⟨qb,rb,rfl,rfl,hqbb,hrbb,HD2⟩
   case round=>
    obtain ⟨qq,rr,rfl,rfl,hqq,hrr,hdq⟩:=hrel
    by_cases hbig : 4294967296 ≤ qq
    ·have hlt2 : (m1 * 4294967296 + b) / (y1 * 4294967296 + y0) < qq:=dq_big HUM.out hbb hbig
     have hbigI : (4294967296 : Int) ≤ qq:=by omega
     have hdn:=dq_next hdq.out hlt2
     have HDN : Hid (DQ y1 y0 m1 b (qq - 1) (rr + y1)):=hdn
     obtain ⟨q2,hq2⟩ : ∃ q2,q2 = qq - 1:=⟨_,rfl⟩
     obtain ⟨r2,hr2⟩ : ∃ r2,r2 = rr + y1:=⟨_,rfl⟩
     rw [← hq2,← hr2] at HDN
     have hq2I : (qq : Int) - 1 = (q2 : Int):=by omega
     have hr2I : (rr : Int) + y1 = (r2 : Int):=by omega
     have hq2b : q2 < 18446744073709551616:=by omega
     have hr2b : r2 < 18446744073709551616:=by omega
     have hlt3 : q2 < qq:=by omega
     clear hq2 hr2 hlt2 hdn hdq
     by_cases hbr : 4294967296 ≤ r2
     ·obtain ⟨b1,b2⟩:=dq_break HDN.out (by omega) HUM.out hy0b hbr
      rw [← HYE.out,← HQ0.out] at b2
      subst b2
      have hbrI : (4294967296 : Int) ≤ r2:=by omega
      go_wp2
      go_meet
      exact ⟨rfl,rfl⟩
     ·have hbrI : ¬ (4294967296 : Int) ≤ r2:=by omega
      go_wp2
      go_round
      case rel=>exact ⟨q2,r2,rfl,rfl,hq2b,by omega,HDN⟩
      case measure=>simp [intOf]; omega
    ·have hbigI : ¬ (4294967296 : Int) ≤ qq:=by omega
     obtain ⟨hw1,-,-⟩:=dq_wrap (q:=qq) (r:=rr) (y0:=y0) (t:=b) (by omega) hrr hy0b hbb
     by_cases hprod : 4294967296 * rr + b < qq * y0
     ·have hlt2:=dq_prod hdq.out (by omega) hprod
      obtain ⟨pp,hpp⟩ : ∃ pp,pp = qq * y0:=⟨_,rfl⟩
      rw [← hpp] at hw1 hprod
      have hprodI : 4294967296 * (rr : Int) + b < pp:=by omega
      have hq0 : 0 < qq:=by
       rcases Nat.eq_zero_or_pos qq with z | z
       ·subst z; omega
       ·exact z
      clear hpp
      have hdn:=dq_next hdq.out hlt2
      have HDN : Hid (DQ y1 y0 m1 b (qq - 1) (rr + y1)):=hdn
      obtain ⟨q2,hq2⟩ : ∃ q2,q2 = qq - 1:=⟨_,rfl⟩
      obtain ⟨r2,hr2⟩ : ∃ r2,r2 = rr + y1:=⟨_,rfl⟩
      rw [← hq2,← hr2] at HDN
      have hq2I : (qq : Int) - 1 = (q2 : Int):=by omega
      have hr2I : (rr : Int) + y1 = (r2 : Int):=by omega
      have hq2b : q2 < 18446744073709551616:=by omega
      have hr2b : r2 < 18446744073709551616:=by omega
      have hlt3 : q2 < qq:=by omega
      clear hq2 hr2 hlt2 hdn hdq
      by_cases hbr : 4294967296 ≤ r2
      ·obtain ⟨b1,b2⟩:=dq_break HDN.out (by omega) HUM.out hy0b hbr
       rw [← HYE.out,← HQ0.out] at b2
       subst b2
       have hbrI : (4294967296 : Int) ≤ r2:=by omega
       go_wp2
       go_meet
       exact ⟨rfl,rfl⟩
      ·have hbrI : ¬ (4294967296 : Int) ≤ r2:=by omega
       go_wp2
       go_round
       case rel=>exact ⟨q2,r2,rfl,rfl,hq2b,by omega,HDN⟩
       case measure=>simp [intOf]; omega
     ·have hst:=dq_stop hdq.out (by omega) (by omega)
      rw [← HYE.out,← HQ0.out] at hst
      obtain ⟨pp,hpp⟩ : ∃ pp,pp = qq * y0:=⟨_,rfl⟩
      rw [← hpp] at hw1 hprod
      have hprodI : ¬ 4294967296 * (rr : Int) + b < pp:=by omega
      clear hpp
      subst hst
      go_wp2
      go_meet
      exact ⟨rfl,rfl⟩
  case rest=>
  obtain ⟨rfl,rfl⟩:=hcut
  obtain ⟨k1,k2,k3⟩:=dq_rest (y1:=y1) (y0:=y0) (u:=m1) (t:=b) (q:=q0) (by rw [HQ0.out,HYE.out]) HUM.out hbb
  rw [← HYE.out] at k2 k3
  obtain ⟨m2,hm2⟩ : ∃ m2,m2 = (m1 * 4294967296 + b) % Y:=⟨_,rfl⟩
  rw [← hm2] at k2 k3
  have f10 : IntKind.u64.wrap (IntKind.u64.wrap (IntKind.u64.wrap ((m1 : Int) * 4294967296) + b) - IntKind.u64.wrap ((q0 : Int) * Y)) = (m2 : Int):=by
   rw [← Int.natCast_mul]
   simp only [IntKind.wrap_u64]
   omega
  have hall : u * 18446744073709551616 + a * 4294967296 + b = N * 2 ^ s:=by
   have e:=Nat.div_add_mod (N * 2 ^ s) 18446744073709551616
   have e1:=HU.out
   have e2:=HL.out
   obtain ⟨e3,e4⟩:=HA.out
   rw [← e1,← e2] at e
   omega
  obtain ⟨r1,r2⟩:=dq_both HG2.out m2 k2 k3
  rw [hall,HY.out] at r1 r2
  rw [(div_shift N y s).1] at r1
  rw [(div_shift N y s).2] at r2
  have f11 : (m2 : Int) / 2 ^ s = ((N % y : Nat) : Int):=by
   rw [show (m2 : Int) / 2 ^ s = ((m2 / 2 ^ s : Nat) : Int) by simp only [Int.natCast_ediv,Int.natCast_pow]; rfl,r2,Nat.mul_div_cancel _ (Nat.two_pow_pos s)]
  have f12 : (q1 : Int) * 4294967296 + q0 = ((N / y : Nat) : Int):=by omega
  rw [← HQQ.out] at f12
  rw [← HRR.out] at f11
  have hm2b : m2 < 18446744073709551616:=by omega
  clear k2 k3 hm2 hall r1 r2
  go_wp2
  go_ret2
  exact ⟨rfl,divW_pos h0 _⟩
theorem div64_any (hi lo y : Nat) (w : World) (hlo : lo < 18446744073709551616) (hy : y < 18446744073709551616) (hlt : hi < y) :
  Calls Tryz.prog 207 #[.int .u64 hi,.int .u64 lo,.int .u64 y] w fun e w'=>
   e = .returned (.tuple #[.int .u64 ((hi * 18446744073709551616 + lo) / y : Nat),.int .u64 ((hi * 18446744073709551616 + lo) % y : Nat)]) ∧ Below w.heap.size w w':=by
 refine (div64_w hi lo y w hlo hy hlt).mono ?_
 rintro e w' ⟨rfl,rfl⟩
 refine ⟨rfl,?_⟩
 unfold divW
 split
 ·exact (Below.refl _ _).drew
 ·exact Below.refl _ _
end Go.Proofs.YtlbokicainimnaaGreatDoor
