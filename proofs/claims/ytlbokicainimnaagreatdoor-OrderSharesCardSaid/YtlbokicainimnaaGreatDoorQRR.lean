import Derived.Test.YtlbokicainimnaaGreatDoorQQC
import Derived.Lib.BitFns
import Derived.Lib.Hide
import Derived.Lib.Slices
import Derived.Lib.Small
import Derived.Lib.Strings
import Derived.Lib.Walk
namespace Go.Proofs.YtlbokicainimnaaGreatDoor
open Go.RowKit
@[go_sem] theorem w_nan (b : Nat) : decide ((9218868437227405312 : Int) < ((absB b : Nat) : Int)) = nanB b:=by unfold nanB; rw [decide_eq_decide]; omega
@[go_sem] theorem w_fin (b : Nat) : decide (((absB b : Nat) : Int) < (9218868437227405312 : Int)) = finB b:=by unfold finB; rw [decide_eq_decide]; omega
@[go_sem] theorem w_inf (b : Nat) : (((absB b : Nat) : Int) == (9218868437227405312 : Int)) = infB b:=by unfold infB; rw [Bool.eq_iff_iff]; simp; omega
@[go_sem] theorem w_zero (b : Nat) : (((absB b : Nat) : Int) == (0 : Int)) = zeroB b:=by unfold zeroB; rw [Bool.eq_iff_iff]; simp
@[go_sem] theorem w_low (b : Nat) : decide (((absB b : Nat) : Int) ≤ (4503599627370495 : Int)) = lowB b:=by unfold lowB; rw [decide_eq_decide]; omega
@[go_sem] theorem w_sgn (b : Nat) : (((sgnW b : Nat) : Int) != (0 : Int)) = sgnB b:=by unfold sgnW; cases sgnB b <;> rfl
@[go_sem] theorem w_pinf (b : Nat) : ((b : Int) == (9218868437227405312 : Int)) = pinfB b:=by unfold pinfB; rw [Bool.eq_iff_iff]; simp; omega
@[go_sem] theorem pinf_abs (b : Nat) : pinfB (absB b) = infB b:=rfl
@[go_sem] theorem w_ninf (b : Nat) : ((b : Int) == (18442240474082181120 : Int)) = ninfB b:=by unfold ninfB; rw [Bool.eq_iff_iff]; simp; omega
theorem ref_isnan (b : Nat) (w : World) (hb : W64 b) :
  Calls Tryz.prog 34 #[.int .u64 b] w fun e w'=>e = .returned (.bool (nanB b)) ∧ w = w':=by
 go_enter Tryz.func34,Tryz.ntmps34
 go_wp2
 go_ret
 exact ⟨rfl,rfl⟩
theorem ref_finite (b : Nat) (w : World) (hb : W64 b) :
  Calls Tryz.prog 16 #[.int .u64 b] w fun e w'=>e = .returned (.bool (finB b)) ∧ w = w':=by
 go_enter Tryz.func16,Tryz.ntmps16
 go_wp2
 go_ret
 exact ⟨rfl,rfl⟩
theorem ref_nought (b : Nat) (w : World) (hb : W64 b) :
  Calls Tryz.prog 64 #[.int .u64 b] w fun e w'=>e = .returned (.bool (zeroB b)) ∧ w = w':=by
 go_enter Tryz.func64,Tryz.ntmps64
 go_wp2
 go_ret
 exact ⟨rfl,rfl⟩
theorem ref_one (b : Nat) (w : World) (hb : W64 b) :
  Calls Tryz.prog 85 #[.int .u64 b] w fun e w'=>e = .returned (.int .u64 (oneB b : Nat)) ∧ w = w':=by
 unfold oneB
 cases h : nanB b
 all_goals
  go_enter Tryz.func85,Tryz.ntmps85
  go_wp2_with (go_at_call 34; refine (ref_isnan _ _ (by assumption)).mono ?_; rintro e w' ⟨rfl,rfl⟩)
  go_ret
  exact ⟨rfl,rfl⟩
theorem ref_split (b : Nat) (w : World) (hb : W64 b) :
  Calls Tryz.prog 53 #[.int .u64 b] w fun e w'=>e = .returned (.tuple #[.bool (spS b),.int .u64 (spM b),.int .i64 (spE b),.int .i64 (spX b)]) ∧ w = w':=by
 have he:=expB_le b
 cases hf : finB b
 ·obtain ⟨e1,e2,e3,e4⟩:=sp_not b hf
  rw [e1,e2,e3,e4]; clear e1 e2 e3 e4
  go_enter Tryz.func53,Tryz.ntmps53
  go_wp2_with (go_at_call 16; refine (ref_finite _ _ (by assumption)).mono ?_; rintro e w' ⟨rfl,rfl⟩)
  (try simp only [Exit.inBlock,Exit.then])
  exact bodyPost_ret (results_tmp4 rfl _ _ _) rfl ⟨rfl,rfl⟩
 cases hl : lowB b
 ·obtain ⟨e1,e2,e3,e4,hx⟩:=sp_norm b hf hl
  rw [e1,e2,e3,e4]; clear e1 e2 e3 e4
  go_enter Tryz.func53,Tryz.ntmps53
  go_wp2_with (go_at_call 16; refine (ref_finite _ _ (by assumption)).mono ?_; rintro e w' ⟨rfl,rfl⟩)
  (try simp only [Exit.inBlock,Exit.then])
  exact bodyPost_ret (results_tmp4 rfl _ _ _) rfl ⟨rfl,rfl⟩
 cases hz : zeroB b
 ·obtain ⟨e1,e2,e3,e4,hx,hy⟩:=sp_sub b hf hl hz
  rw [e1,e2,e3,e4]; clear e1 e2 e3 e4
  go_enter Tryz.func53,Tryz.ntmps53
  go_wp2_with (go_at_call 16; refine (ref_finite _ _ (by assumption)).mono ?_; rintro e w' ⟨rfl,rfl⟩)
  (try simp only [Exit.inBlock,Exit.then])
  exact bodyPost_ret (results_tmp4 rfl _ _ _) rfl ⟨rfl,rfl⟩
 ·obtain ⟨e1,e2,e3,e4,hx,hy⟩:=sp_nought b hf hl hz
  rw [e1,e2,e3,e4]; clear e1 e2 e3 e4
  go_enter Tryz.func53,Tryz.ntmps53
  go_wp2_with (go_at_call 16; refine (ref_finite _ _ (by assumption)).mono ?_; rintro e w' ⟨rfl,rfl⟩)
  (try simp only [Exit.inBlock,Exit.then])
  exact bodyPost_ret (results_tmp4 rfl _ _ _) rfl ⟨rfl,rfl⟩
theorem ref_key (b : Nat) (w : World) (hb : W64 b) :
  Calls Tryz.prog 137 #[.int .u64 b] w fun e w'=>e = .returned (.int .i64 (keyB b)) ∧ w = w':=by
 unfold keyB
 have ha : (absB b : Int) ≤ 9223372036854775807:=by have:=absB_lt b; omega
 cases h : nanB b <;> cases hs : sgnB b
 all_goals
  go_enter Tryz.func137,Tryz.ntmps137
  go_wp2_with (go_at_call 34; refine (ref_isnan _ _ (by assumption)).mono ?_; rintro e w' ⟨rfl,rfl⟩)
  go_ret
  exact ⟨rfl,rfl⟩
theorem ref_order (a b : Nat) (w : World) (ha : W64 a) (hb : W64 b) :
  Calls Tryz.prog 86 #[.int .u64 a,.int .u64 b] w fun e w'=>e = .returned (.int .i64 (orderB a b)) ∧ w = w':=by
 unfold orderB
 rcases Int.lt_trichotomy (keyB a) (keyB b) with h | h | h
 ·rw [if_pos h]
  go_enter Tryz.func86,Tryz.ntmps86
  go_wp2_with (go_at_call 137; refine (ref_key _ _ (by assumption)).mono ?_; rintro e w' ⟨rfl,rfl⟩)
  go_ret
  exact ⟨rfl,rfl⟩
 ·rw [if_neg (by omega),if_neg (by omega)]
  have h1 : ¬ keyB a < keyB b:=by omega
  have h2 : ¬ keyB b < keyB a:=by omega
  clear h
  go_enter Tryz.func86,Tryz.ntmps86
  go_wp2_with (go_at_call 137; refine (ref_key _ _ (by assumption)).mono ?_; rintro e w' ⟨rfl,rfl⟩)
  go_ret
  exact ⟨rfl,rfl⟩
 ·rw [if_neg (by omega),if_pos h]
  have h1 : ¬ keyB a < keyB b:=by omega
  go_enter Tryz.func86,Tryz.ntmps86
  go_wp2_with (go_at_call 137; refine (ref_key _ _ (by assumption)).mono ?_; rintro e w' ⟨rfl,rfl⟩)
  go_ret
  exact ⟨rfl,rfl⟩
theorem ref_same (a b : Nat) (w : World) (ha : W64 a) (hb : W64 b) :
  Calls Tryz.prog 89 #[.int .u64 a,.int .u64 b] w fun e w'=>e = .returned (.bool (keyB a == keyB b)) ∧ w = w':=by
 rw [← orderB_zero]
 go_enter Tryz.func89,Tryz.ntmps89
 go_wp2_with (go_at_call 86; refine (ref_order _ _ _ (by assumption) (by assumption)).mono ?_; rintro e w' ⟨rfl,rfl⟩)
 go_ret
 exact ⟨rfl,rfl⟩
end Go.Proofs.YtlbokicainimnaaGreatDoor
set_option maxRecDepth 100000
namespace Go.Proofs.YtlbokicainimnaaGreatDoor
open Go.RowKit
theorem rjoin_zero (neg : Bool) (e : Int) (w : World) :
  Calls Tryz.prog 176 #[.bool neg,.int .u64 (0 : Nat),.int .i64 e] w fun e' w'=>e' = .returned (.tuple #[.int .u64 (sgW neg : Nat),.int .i64 0]) ∧ w = w':=by
 cases neg
 all_goals
  go_enter Tryz.func176,Tryz.ntmps176
  go_wp2
  go_ret2
  exact ⟨rfl,rfl⟩
theorem rjoin_far (neg : Bool) (m : Nat) (e : Int) (w : World) (h0 : m ≠ 0) (hb : 3000 < e ∨ e < -3000) :
  Calls Tryz.prog 176 #[.bool neg,.int .u64 m,.int .i64 e] w fun e' w'=>e' = .returned (.tuple #[.int .u64 (0 : Nat),.int .i64 11]) ∧ w = w':=by
 have hn : ((m : Int) == 0) = false:=by simp; omega
 rcases hb with b | b
 all_goals
  cases neg
  all_goals
   go_enter Tryz.func176,Tryz.ntmps176
   go_wp2
   go_ret2
   exact ⟨rfl,rfl⟩
def JoDown (m : Nat) (e : Int) (v u : Value) : Prop:=∃ (i M : Nat) (E : Int),v = .int .u64 M ∧ u = .int .i64 E ∧ M = joO m * 2^i ∧ E = e + joZ m - i ∧ i ≤ joZ m
def JoUp (m : Nat) (e : Int) (v u : Value) : Prop:=∃ (i : Nat) (M E : Int),v = .int .u64 M ∧ u = .int .i64 E ∧ M = ((joO m * 2^i : Nat) : Int) ∧ E = e + joZ m - i ∧ (i = 0 ∨ (joO m * 2^(i-1) < 4503599627370496 ∧ -1074 ≤ E))
set_option maxHeartbeats 1000000 in
theorem rjoin_near_false (m : Nat) (e : Int) (w : World) (hm : W64 m) (h0 : m ≠ 0) (b1 : -3000 ≤ e) (b2 : e ≤ 3000) :
  Calls Tryz.prog 176 #[.bool false,.int .u64 m,.int .i64 e] w fun e' w'=>e' = .returned (.tuple #[.int .u64 (joinB false m e : Nat),.int .i64 (joinX m e)]) ∧ w = w':=by
 obtain ⟨p1,p2,p3,p4⟩:=join_parts m hm h0
 have hn : ((m : Int) == 0) = false:=by simp; omega
 have P1:=Lib.hid p1; clear p1
 have P2:=Lib.hid p2; clear p2
 have P4:=Lib.hid p4; clear p4
 go_enter Tryz.func176,Tryz.ntmps176
 go_wp2
 go_loop [1,2] (JoDown m e) (fun v _=>(intOf v).toNat)
 case atStart=>exact ⟨joZ m,m,e,rfl,rfl,P1.out,by omega,Nat.le_refl _⟩
 case round=>
  obtain ⟨i,M,E,rfl,rfl,hM,hE,hi⟩:=hrel
  have HM:=Lib.hid hM; clear hM
  have HE:=Lib.hid hE; clear hE
  have hE1 : -3000 ≤ E:=by have:=HE.out; omega
  have hE2 : E ≤ 4000:=by have:=HE.out; omega
  cases i with
  | succ j =>
    have h1 : M = 2 * (joO m * 2^j):=by rw [HM.out,Nat.pow_succ,← Nat.mul_assoc,Nat.mul_comm]
    have h2 : ((M : Int) % 2 == 0) = true:=by rw [h1]; simp
    have h3 : (M : Int) / 2 = ((joO m * 2^j : Nat) : Int):=by omega
    have h5 : 0 < joO m * 2^j:=Nat.mul_pos (by have:=P2.out; omega) (Nat.two_pow_pos _)
    have hMW : (M : Int) ≤ 18446744073709551615:=by
     have h1:=HM.out; have h2:=P1.out; unfold W64 at hm
     have : joO m * 2^(j+1) ≤ joO m * 2^joZ m:=Nat.mul_le_mul_left _ (Nat.pow_le_pow_right (by decide) hi)
     omega
    have H1:=Lib.hid h1; clear h1
    have H3:=Lib.hid h3; clear h3
    go_wp2
    go_round
    case rel=>exact ⟨j,joO m * 2^j,E + 1,by rw [H3.out],rfl,rfl,by have:=HE.out; omega,by omega⟩
    case measure=>have:=H1.out; simp [intOf]; omega
  | zero =>
    have h1 : M = joO m:=by rw [HM.out,Nat.pow_zero,Nat.mul_one]
    have h2 : ((M : Int) % 2 == 0) = false:=by have:=P2.out; simp; omega
    clear HM
    subst h1
    have h3 : ((joO m : Nat) : Int) ≤ 18446744073709551615:=by have:=P4.out; unfold W64 at hm; omega
    go_wp2
    clear h2 h3
    go_loop [1,2] (JoUp m e) (fun _ u=>(intOf u + 1074).toNat)
    case atStart=>exact ⟨0,(joO m : Nat),E,rfl,rfl,by simp,HE.out,.inl rfl⟩
    case round=>
     clear hE1 hE2 HE hi
     obtain ⟨i,M,E,rfl,rfl,hM,hE,hi⟩:=hrel
     have HM:=Lib.hid hM; clear hM
     have HE:=Lib.hid hE; clear hE
     have HI:=Lib.hid hi; clear hi
     have hE1 : -4000 ≤ E:=by have:=HE.out; rcases HI.out with z | z <;> omega
     have hE2 : E ≤ 4000:=by have:=HE.out; omega
     by_cases c1 : M < 4503599627370496
     ·have c6 : M < 9007199254740992:=by omega
      have c7 : 0 ≤ M:=by have:=HM.out; omega
      by_cases c2 : -1074 < E
      ·go_wp2
       go_round
       case rel=>exact ⟨i + 1,2 * M,E - 1,rfl,rfl,by rw [HM.out,Nat.pow_succ,← Nat.mul_assoc]; omega,by have:=HE.out; omega,.inr ⟨by rw [Nat.add_sub_cancel]; have:=HM.out; omega,by omega⟩⟩
       case measure=>simp [intOf]; omega
      ·obtain ⟨N,hN⟩ : ∃ N : Nat,N = joO m * 2^i:=⟨_,rfl⟩
       have hMN : M = (N : Int):=by rw [HM.out,hN]
       have c2' : E ≤ -1074:=by omega
       by_cases c3 : E < -1074
       ·obtain ⟨j1,j2⟩:=join_ref_bad false m e hm h0 N i E hN HE.out (.inr c2') HI.out (.inr (.inl c3))
        clear hN hMN
        have J1:=Lib.hid j1; clear j1
        have J2:=Lib.hid j2; clear j2
        go_wp2
        go_ret2
        exact ⟨ret_two (by rw [J1.out]; rfl) J2.out.symm,rfl⟩
       ·have c4 : E = -1074:=by omega
        obtain ⟨j1,j2⟩:=join_ref_low false m e hm h0 N i E hN HE.out (.inr c2') HI.out (by omega) c4
        rw [← hMN] at j1
        clear hN hMN
        have J2:=Lib.hid j2; clear j2
        have j3 : bits .or .u64 0 M = ((joinB false m e : Nat) : Int):=j1
        clear j1 c4
        go_wp2
        go_ret2
        exact ⟨ret_two rfl J2.out.symm,rfl⟩
     ·obtain ⟨N,hN⟩ : ∃ N : Nat,N = joO m * 2^i:=⟨_,rfl⟩
      have hMN : M = (N : Int):=by rw [HM.out,hN]
      by_cases c3 : 9007199254740992 ≤ M
      ·obtain ⟨j1,j2⟩:=join_ref_bad false m e hm h0 N i E hN HE.out (.inl (by omega)) HI.out (.inl (by omega))
       clear hN hMN
       have J1:=Lib.hid j1; clear j1
       have J2:=Lib.hid j2; clear j2
       go_wp2
       all_goals
        go_ret2
        exact ⟨ret_two (by rw [J1.out]; rfl) J2.out.symm,rfl⟩
      ·have c6 : M < 9007199254740992:=by omega
       by_cases c4 : E < -1074
       ·obtain ⟨j1,j2⟩:=join_ref_bad false m e hm h0 N i E hN HE.out (.inl (by omega)) HI.out (.inr (.inl c4))
        clear hN hMN
        have J1:=Lib.hid j1; clear j1
        have J2:=Lib.hid j2; clear j2
        go_wp2
        all_goals
         go_ret2
         exact ⟨ret_two (by rw [J1.out]; rfl) J2.out.symm,rfl⟩
       by_cases c5 : 971 < E
       ·obtain ⟨j1,j2⟩:=join_ref_bad false m e hm h0 N i E hN HE.out (.inl (by omega)) HI.out (.inr (.inr c5))
        clear hN hMN
        have J1:=Lib.hid j1; clear j1
        have J2:=Lib.hid j2; clear j2
        go_wp2
        all_goals
         go_ret2
         exact ⟨ret_two (by rw [J1.out]; rfl) J2.out.symm,rfl⟩
       ·have c4' : -1074 ≤ E:=by omega
        have c5' : E ≤ 971:=by omega
        obtain ⟨j1,j2⟩:=join_ref_high false m e hm h0 N i E hN HE.out (.inl (by omega)) HI.out (by omega) (by omega) c4' c5'
        rw [← hMN] at j1
        clear hN hMN
        have J2:=Lib.hid j2; clear j2
        have j3 : bits .or .u64 (bits .or .u64 0 ((E + 1075) * 4503599627370496)) (bits .and .u64 M 4503599627370495) = ((joinB false m e : Nat) : Int):=j1
        clear j1
        go_wp2
        go_ret2
        exact ⟨ret_two rfl J2.out.symm,rfl⟩
set_option maxHeartbeats 1000000 in
theorem rjoin_near_true (m : Nat) (e : Int) (w : World) (hm : W64 m) (h0 : m ≠ 0) (b1 : -3000 ≤ e) (b2 : e ≤ 3000) :
  Calls Tryz.prog 176 #[.bool true,.int .u64 m,.int .i64 e] w fun e' w'=>e' = .returned (.tuple #[.int .u64 (joinB true m e : Nat),.int .i64 (joinX m e)]) ∧ w = w':=by
 obtain ⟨p1,p2,p3,p4⟩:=join_parts m hm h0
 have hn : ((m : Int) == 0) = false:=by simp; omega
 have P1:=Lib.hid p1; clear p1
 have P2:=Lib.hid p2; clear p2
 have P4:=Lib.hid p4; clear p4
 go_enter Tryz.func176,Tryz.ntmps176
 go_wp2
 go_loop [1,2] (JoDown m e) (fun v _=>(intOf v).toNat)
 case atStart=>exact ⟨joZ m,m,e,rfl,rfl,P1.out,by omega,Nat.le_refl _⟩
 case round=>
  obtain ⟨i,M,E,rfl,rfl,hM,hE,hi⟩:=hrel
  have HM:=Lib.hid hM; clear hM
  have HE:=Lib.hid hE; clear hE
  have hE1 : -3000 ≤ E:=by have:=HE.out; omega
  have hE2 : E ≤ 4000:=by have:=HE.out; omega
  cases i with
  | succ j =>
    have h1 : M = 2 * (joO m * 2^j):=by rw [HM.out,Nat.pow_succ,← Nat.mul_assoc,Nat.mul_comm]
    have h2 : ((M : Int) % 2 == 0) = true:=by rw [h1]; simp
    have h3 : (M : Int) / 2 = ((joO m * 2^j : Nat) : Int):=by omega
    have h5 : 0 < joO m * 2^j:=Nat.mul_pos (by have:=P2.out; omega) (Nat.two_pow_pos _)
    have hMW : (M : Int) ≤ 18446744073709551615:=by
     have h1:=HM.out; have h2:=P1.out; unfold W64 at hm
     have : joO m * 2^(j+1) ≤ joO m * 2^joZ m:=Nat.mul_le_mul_left _ (Nat.pow_le_pow_right (by decide) hi)
     omega
    have H1:=Lib.hid h1; clear h1
    have H3:=Lib.hid h3; clear h3
    go_wp2
    go_round
    case rel=>exact ⟨j,joO m * 2^j,E + 1,by rw [H3.out],rfl,rfl,by have:=HE.out; omega,by omega⟩
    case measure=>have:=H1.out; simp [intOf]; omega
  | zero =>
    have h1 : M = joO m:=by rw [HM.out,Nat.pow_zero,Nat.mul_one]
    have h2 : ((M : Int) % 2 == 0) = false:=by have:=P2.out; simp; omega
    clear HM
    subst h1
    have h3 : ((joO m : Nat) : Int) ≤ 18446744073709551615:=by have:=P4.out; unfold W64 at hm; omega
    go_wp2
    clear h2 h3
    go_loop [1,2] (JoUp m e) (fun _ u=>(intOf u + 1074).toNat)
    case atStart=>exact ⟨0,(joO m : Nat),E,rfl,rfl,by simp,HE.out,.inl rfl⟩
    case round=>
     clear hE1 hE2 HE hi
     obtain ⟨i,M,E,rfl,rfl,hM,hE,hi⟩:=hrel
     have HM:=Lib.hid hM; clear hM
     have HE:=Lib.hid hE; clear hE
     have HI:=Lib.hid hi; clear hi
     have hE1 : -4000 ≤ E:=by have:=HE.out; rcases HI.out with z | z <;> omega
     have hE2 : E ≤ 4000:=by have:=HE.out; omega
     by_cases c1 : M < 4503599627370496
     ·have c6 : M < 9007199254740992:=by omega
      have c7 : 0 ≤ M:=by have:=HM.out; omega
      by_cases c2 : -1074 < E
      ·go_wp2
       go_round
       case rel=>exact ⟨i + 1,2 * M,E - 1,rfl,rfl,by rw [HM.out,Nat.pow_succ,← Nat.mul_assoc]; omega,by have:=HE.out; omega,.inr ⟨by rw [Nat.add_sub_cancel]; have:=HM.out; omega,by omega⟩⟩
       case measure=>simp [intOf]; omega
      ·obtain ⟨N,hN⟩ : ∃ N : Nat,N = joO m * 2^i:=⟨_,rfl⟩
       have hMN : M = (N : Int):=by rw [HM.out,hN]
       have c2' : E ≤ -1074:=by omega
       by_cases c3 : E < -1074
       ·obtain ⟨j1,j2⟩:=join_ref_bad true m e hm h0 N i E hN HE.out (.inr c2') HI.out (.inr (.inl c3))
        clear hN hMN
        have J1:=Lib.hid j1; clear j1
        have J2:=Lib.hid j2; clear j2
        go_wp2
        go_ret2
        exact ⟨ret_two (by rw [J1.out]; rfl) J2.out.symm,rfl⟩
       ·have c4 : E = -1074:=by omega
        obtain ⟨j1,j2⟩:=join_ref_low true m e hm h0 N i E hN HE.out (.inr c2') HI.out (by omega) c4
        rw [← hMN] at j1
        clear hN hMN
        have J2:=Lib.hid j2; clear j2
        have j3 : bits .or .u64 9223372036854775808 M = ((joinB true m e : Nat) : Int):=j1
        clear j1 c4
        go_wp2
        go_ret2
        exact ⟨ret_two rfl J2.out.symm,rfl⟩
     ·obtain ⟨N,hN⟩ : ∃ N : Nat,N = joO m * 2^i:=⟨_,rfl⟩
      have hMN : M = (N : Int):=by rw [HM.out,hN]
      by_cases c3 : 9007199254740992 ≤ M
      ·obtain ⟨j1,j2⟩:=join_ref_bad true m e hm h0 N i E hN HE.out (.inl (by omega)) HI.out (.inl (by omega))
       clear hN hMN
       have J1:=Lib.hid j1; clear j1
       have J2:=Lib.hid j2; clear j2
       go_wp2
       all_goals
        go_ret2
        exact ⟨ret_two (by rw [J1.out]; rfl) J2.out.symm,rfl⟩
      ·have c6 : M < 9007199254740992:=by omega
       by_cases c4 : E < -1074
       ·obtain ⟨j1,j2⟩:=join_ref_bad true m e hm h0 N i E hN HE.out (.inl (by omega)) HI.out (.inr (.inl c4))
        clear hN hMN
        have J1:=Lib.hid j1; clear j1
        have J2:=Lib.hid j2; clear j2
        go_wp2
        all_goals
         go_ret2
         exact ⟨ret_two (by rw [J1.out]; rfl) J2.out.symm,rfl⟩
       by_cases c5 : 971 < E
       ·obtain ⟨j1,j2⟩:=join_ref_bad true m e hm h0 N i E hN HE.out (.inl (by omega)) HI.out (.inr (.inr c5))
        clear hN hMN
        have J1:=Lib.hid j1; clear j1
        have J2:=Lib.hid j2; clear j2
        go_wp2
        all_goals
         go_ret2
         exact ⟨ret_two (by rw [J1.out]; rfl) J2.out.symm,rfl⟩
       ·have c4' : -1074 ≤ E:=by omega
        have c5' : E ≤ 971:=by omega
        obtain ⟨j1,j2⟩:=join_ref_high true m e hm h0 N i E hN HE.out (.inl (by omega)) HI.out (by omega) (by omega) c4' c5'
        rw [← hMN] at j1
        clear hN hMN
        have J2:=Lib.hid j2; clear j2
        have j3 : bits .or .u64 (bits .or .u64 9223372036854775808 ((E + 1075) * 4503599627370496)) (bits .and .u64 M 4503599627370495) = ((joinB true m e : Nat) : Int):=j1
        clear j1
        go_wp2
        go_ret2
        exact ⟨ret_two rfl J2.out.symm,rfl⟩
theorem rjoin_any (neg : Bool) (m : Nat) (e : Int) (w : World) (hm : W64 m) :
  Calls Tryz.prog 176 #[.bool neg,.int .u64 m,.int .i64 e] w fun e' w'=>e' = .returned (.tuple #[.int .u64 (joinB neg m e : Nat),.int .i64 (joinX m e)]) ∧ w = w':=by
 by_cases z : m = 0
 ·subst z; exact rjoin_zero neg e w
 ·by_cases b : 3000 < e ∨ e < -3000
  ·have hb : joBad m e:=by unfold joBad; omega
   have:=rjoin_far neg m e w z b
   unfold joinB joinX; rw [if_neg z,if_pos hb,if_neg z,if_pos hb]; exact this
  ·cases neg
   ·exact rjoin_near_false m e w hm z (by omega) (by omega)
   ·exact rjoin_near_true m e w hm z (by omega) (by omega)
theorem kind_row {fn : Func} {p : Tmp} (h : fn.results = #[.cell p 144]) (tmps : Array Value) (w : World) (g : Nat) (a b c : Value)
  (hp : tmps.getD p undef = .pointer (some ⟨g,0,none⟩)) (hg : w.heap[g]? = some (.cells #[a,b,c] 144 (0,0))) : (results fn tmps).run Tryz.prog w = .ok (.agg #[a,b,c]) w:=
 results_cell_row h tmps w g _ _ _ _ hp hg Tryz.underlying144 rfl (by kernel_rfl)
theorem sixty_any (w : World) : Calls Tryz.prog 115 #[] w fun e w'=>e = .returned (.agg #[.int .i64 53,.int .i64 (-1074),.int .i64 1023]) ∧ Below w.heap.size w w':=by
 go_enter Tryz.func115,Tryz.ntmps115
 go_wp2
 exact bodyPost_ret (kind_row rfl _ _ w.heap.size _ _ _ rfl (heap_alloc_new _ _)) rfl ⟨rfl,(Below.refl _ _).alloc (Nat.le_refl _) _⟩
theorem join_fit (neg : Bool) (m : Nat) (x : Int) (R : Nat) (hm : m < 9007199254740992) (h1 : -1074 ≤ x) (h2 : x ≤ 971) (h3 : x = -1074 ∨ 4503599627370496 ≤ m) (hR : (R : Int) = (x + 1074) * 4503599627370496 + m) : joinB neg m x = sgW neg + R:=by
 by_cases h0 : m = 0
 ·unfold joinB
  rw [if_pos h0]
  omega
 ·have hw : W64 m:=by unfold W64; omega
  obtain ⟨p1,p2,p3,p4⟩:=join_parts m hw h0
  have h2' : joZ m = 0 ∨ (joO m * 2^(joZ m - 1) < 4503599627370496 ∧ -1074 ≤ x):=by
   rcases Nat.eq_zero_or_pos (joZ m) with z | z
   ·exact .inl z
   ·refine .inr ⟨?_,h1⟩
    have e : joO m * 2^(joZ m - 1) * 2 = m:=by
     rw [Nat.mul_assoc,← Nat.pow_succ,Nat.succ_eq_add_one,Nat.sub_add_cancel z]
     exact p1.symm
    omega
  have:=(join_ref_ok neg m x hw h0 m (joZ m) x p1 (by omega) (by omega) h2' (by omega)).1
  rw [this]
  omega
theorem bits64_any (neg : Bool) (m : Nat) (x : Int) (R : Nat) (w : World) (hm : m < 9007199254740992) (h1 : -1074 ≤ x) (h2 : x ≤ 971) (h3 : x = -1074 ∨ 4503599627370496 ≤ m) (hR : (R : Int) = (x + 1074) * 4503599627370496 + m) :
  Calls Tryz.prog 116 #[.agg #[.bool neg,.bool false,.int .u64 m,.int .i64 x]] w fun e w'=>e = .returned (.int .u64 (sgW neg + R : Nat)) ∧ Below w.heap.size w w':=by
 have HJ : Hid (joinB neg m x = sgW neg + R):=join_fit neg m x R hm h1 h2 h3 hR
 have HW : Hid (W64 m):=(by unfold W64; omega : W64 m)
 have HB : Hid (∀ F,Below w.heap.size w (w.alloc F)):=fun F=>(Below.refl _ _).alloc (Nat.le_refl _) _
 clear hR hm h1 h2 h3
 go_enter Tryz.func116,Tryz.ntmps116
 go_wp2_with (go_at_call 176; refine (rjoin_any neg m x _ HW.out).mono ?_; rintro e w' ⟨rfl,rfl⟩)
 go_ret
 exact ⟨by rw [HJ.out]; rfl,HB.out _⟩
end Go.Proofs.YtlbokicainimnaaGreatDoor
