import Derived.Test.YtlbokicainimnaaGreatDoorQQB
import Derived.Test.YtlbokicainimnaaGreatDoorQQC
namespace Go.Proofs.YtlbokicainimnaaGreatDoor
open Go.RowKit
theorem bitLen_blen (x : Nat) (hx : W64 x) : Lib.bitLen x = blen x:=by
 unfold W64 at hx
 unfold blen
 by_cases h : x = 0
 ·subst h; rfl
 ·rw [if_neg h]
  have h1 : 2^x.log2 ≤ x:=Nat.log2_self_le h
  have h2 : x < 2^(x.log2+1):=Nat.lt_log2_self
  rw [Lib.bitLen_shift x.log2 x h1 hx]
  have : x / 2^x.log2 = 1:=by
   have p:=Nat.two_pow_pos x.log2
   rw [Nat.pow_succ] at h2
   exact Nat.div_eq_of_lt_le (by omega) (by omega)
  rw [this]; rfl
theorem len_any (x : Nat) (w : World) (hx : W64 x) :
  Calls Tryz.prog 192 #[.int .u64 x] w fun e w'=>e = .returned (.int .i64 (blen x : Nat)) ∧ w = w':=
 (len_core x w (by omega) (by unfold W64 at hx; omega)).mono fun e w' ⟨h1,h2⟩=>⟨by rw [h1,Int.toNat_natCast,bitLen_blen x hx],h2.symm⟩
theorem isinf_any (b : Nat) (w : World) (hb : W64 b) :
  Calls Tryz.prog 90 #[.float .f64 b,.int .i64 0] w fun e w'=>e = .returned (.bool (infB b)) ∧ w = w':=by
 go_enter Tryz.func90,Tryz.ntmps90
 go_wp2_with (go_at_call 82; refine (abs_any _ _ hb).mono ?_; rintro e w' ⟨rfl,rfl⟩)
 go_ret
 exact ⟨rfl,rfl⟩
theorem isnan_any (b : Nat) (w : World) :
  Calls Tryz.prog 255 #[.float .f64 b] w fun e w'=>e = .returned (.bool (nanB b)) ∧ w = w':=by
 go_enter Tryz.func255,Tryz.ntmps255
 go_wp2
 go_ret
 exact ⟨rfl,rfl⟩
theorem inf_one (w : World) :
  Calls Tryz.prog 141 #[.int .i64 1] w fun e w'=>e = .returned (.float .f64 9218868437227405312) ∧ w = w':=by
 go_enter Tryz.func141,Tryz.ntmps141
 go_wp2
 go_ret
 exact ⟨rfl,rfl⟩
theorem norm_any (b : Nat) (w : World) (hb : W64 b) (hl : lowB b = false) :
  Calls Tryz.prog 256 #[.float .f64 b] w fun e w'=>e = .returned (.tuple #[.float .f64 b,.int .i64 0]) ∧ w = w':=by
 go_enter Tryz.func256,Tryz.ntmps256
 go_wp2_with (go_at_call 82; refine (abs_any _ _ hb).mono ?_; rintro e w' ⟨rfl,rfl⟩)
 go_ret2
 exact ⟨rfl,rfl⟩
section
variable (b K q m : Nat) (e X : Int) (w : World) (h : KQ b K q) (hm : m * 2^LP = K * 2^q) (hX : X = e + q - 1022)
include h hm hX
set_option maxHeartbeats 1000000 in
theorem ldexp_norm (c1 : -1022 ≤ X) (c2 : X ≤ 1023) :
  Calls Tryz.prog 237 #[.float .f64 b,.int .i64 e] w fun e' w'=>e' = .returned (.float .f64 (Ieee.double.nearest false m e)) ∧ w = w':=by
 obtain ⟨hk,hr⟩:=ld_norm m K q b e X h hm hX c1 c2
 have hE:=h.exp
 rw [hr]; clear hr
 have he : e = X + 1023 - expB b:=by omega
 clear hm hX
 obtain ⟨t,ht⟩ : ∃ t,t = (X + 1023).toNat * 4503599627370496 + (K - 4503599627370496):=⟨_,rfl⟩
 rw [← ht] at hk ⊢
 have ho:=h.or (X + 1023 - (expB b : Int) + ((expB b : Int) - 1023) + 1023) (X + 1023) t (by omega) (by omega) (by omega) ht
 have hq:=fun (w : World)=>run_float_arith (P:=Tryz.prog) w .mul 24 .f64 _ _ _ (mul_one _ _ _ hk)
 clear hk ht
 have hW:=h.W
 have h1:=h.zero
 have h2:=h.inf
 have h3:=h.nan
 have h4:=h.low
 have h5:=expB_le b
 have h6 : (b : Int) / 4503599627370496 ≤ 4095:=by have:=h.lt; omega
 have h7 : 0 ≤ (b : Int) / 4503599627370496:=by omega
 clear h hE
 subst he
 go_enter Tryz.func237,Tryz.ntmps237
 go_wp2_with (first | (go_at_call 90; refine (isinf_any _ _ (by assumption)).mono ?_; rintro e w' ⟨rfl,rfl⟩) | (go_at_call 255; refine (isnan_any _ _).mono ?_; rintro e w' ⟨rfl,rfl⟩) | (go_at_call 256; refine (norm_any _ _ (by assumption) (by assumption)).mono ?_; rintro e w' ⟨rfl,rfl⟩))
 go_ret
 exact ⟨rfl,rfl⟩
set_option maxHeartbeats 1000000 in
theorem ldexp_low (c1 : -1075 ≤ X) (c2 : X < -1022) :
  Calls Tryz.prog 237 #[.float .f64 b,.int .i64 e] w fun e' w'=>e' = .returned (.float .f64 (Ieee.double.nearest false m e)) ∧ w = w':=by
 obtain ⟨hk,hr⟩:=ld_low m K q b e X h hm hX c1 c2
 have hE:=h.exp
 obtain ⟨r,hr'⟩ : ∃ r,r = Ieee.double.nearest false m e:=⟨_,rfl⟩
 rw [← hr'] at hr ⊢; clear hr'
 have he : e = X + 1023 - expB b:=by omega
 clear hm hX
 obtain ⟨t,ht⟩ : ∃ t,t = (X + 53 + 1023).toNat * 4503599627370496 + (K - 4503599627370496):=⟨_,rfl⟩
 rw [← ht] at hr
 have ho:=h.or (X + 1023 - (expB b : Int) + ((expB b : Int) - 1023) + 53 + 1023) (X + 53 + 1023) t (by omega) (by omega) (by omega) ht
 have hq:=fun (w : World)=>run_float_arith (P:=Tryz.prog) w .mul 24 .f64 _ _ _ hr
 clear hk ht hr
 have hW:=h.W
 have h1:=h.zero
 have h2:=h.inf
 have h3:=h.nan
 have h4:=h.low
 have h5:=expB_le b
 have h6 : (b : Int) / 4503599627370496 ≤ 4095:=by have:=h.lt; omega
 have h7 : 0 ≤ (b : Int) / 4503599627370496:=by omega
 clear h hE
 subst he
 go_enter Tryz.func237,Tryz.ntmps237
 go_wp2_with (first | (go_at_call 90; refine (isinf_any _ _ (by assumption)).mono ?_; rintro e w' ⟨rfl,rfl⟩) | (go_at_call 255; refine (isnan_any _ _).mono ?_; rintro e w' ⟨rfl,rfl⟩) | (go_at_call 256; refine (norm_any _ _ (by assumption) (by assumption)).mono ?_; rintro e w' ⟨rfl,rfl⟩))
 go_ret
 exact ⟨rfl,rfl⟩
set_option maxHeartbeats 1000000 in
theorem ldexp_under (c1 : X < -1075) (c2 : -1000000 ≤ e) :
  Calls Tryz.prog 237 #[.float .f64 b,.int .i64 e] w fun e' w'=>e' = .returned (.float .f64 (Ieee.double.nearest false m e)) ∧ w = w':=by
 rw [ld_under m K q b e X h hm hX c1]
 have hE:=h.exp
 have he : e = X + 1023 - expB b:=by omega
 have hs : sgnW b + absB 0 = 0:=by unfold sgnW; rw [h.sgn]; rfl
 have hlow : -2000000 ≤ X:=by have:=h.top; omega
 clear hm hX c2
 have h0 : W64 0:=by unfold W64; decide
 have hW:=h.W
 have h1:=h.zero
 have h2:=h.inf
 have h3:=h.nan
 have h4:=h.low
 have h5:=expB_le b
 have h6 : (b : Int) / 4503599627370496 ≤ 4095:=by have:=h.lt; omega
 have h7 : 0 ≤ (b : Int) / 4503599627370496:=by omega
 clear h hE
 subst he
 go_enter Tryz.func237,Tryz.ntmps237
 go_wp2_with (first | (go_at_call 90; refine (isinf_any _ _ (by assumption)).mono ?_; rintro e w' ⟨rfl,rfl⟩) | (go_at_call 255; refine (isnan_any _ _).mono ?_; rintro e w' ⟨rfl,rfl⟩) | (go_at_call 256; refine (norm_any _ _ (by assumption) (by assumption)).mono ?_; rintro e w' ⟨rfl,rfl⟩) | (go_at_call 50; refine (copysign_any _ _ _ h0 (by assumption)).mono ?_; rintro e w' ⟨rfl,rfl⟩))
 go_ret
 exact ⟨rfl,rfl⟩
set_option maxHeartbeats 1000000 in
theorem ldexp_over (c1 : 1023 < X) (c2 : e ≤ 1000000) :
  Calls Tryz.prog 237 #[.float .f64 b,.int .i64 e] w fun e' w'=>e' = .returned (.float .f64 (Ieee.double.nearest false m e)) ∧ w = w':=by
 rw [ld_over m K q b e X h hm hX c1]
 have hE:=h.exp
 have he : e = X + 1023 - expB b:=by omega
 have hlow : X ≤ 2000000:=by have:=h.top; omega
 clear hm hX c2
 have hW:=h.W
 have h1:=h.zero
 have h2:=h.inf
 have h3:=h.nan
 have h4:=h.low
 have h8:=h.neg
 have h5:=expB_le b
 have h6 : (b : Int) / 4503599627370496 ≤ 4095:=by have:=h.lt; omega
 have h7 : 0 ≤ (b : Int) / 4503599627370496:=by omega
 clear h hE
 subst he
 go_enter Tryz.func237,Tryz.ntmps237
 go_wp2_with (first | (go_at_call 90; refine (isinf_any _ _ (by assumption)).mono ?_; rintro e w' ⟨rfl,rfl⟩) | (go_at_call 255; refine (isnan_any _ _).mono ?_; rintro e w' ⟨rfl,rfl⟩) | (go_at_call 256; refine (norm_any _ _ (by assumption) (by assumption)).mono ?_; rintro e w' ⟨rfl,rfl⟩) | (go_at_call 141; refine (inf_one _).mono ?_; rintro e w' ⟨rfl,rfl⟩))
 go_ret
 exact ⟨rfl,rfl⟩
end
theorem ldexp_zero (e : Int) (w : World) :
  Calls Tryz.prog 237 #[.float .f64 0,.int .i64 e] w fun e' w'=>e' = .returned (.float .f64 0) ∧ w = w':=by
 have h0 : W64 0:=by unfold W64; decide
 have h1 : zeroB 0 = true:=by decide
 go_enter Tryz.func237,Tryz.ntmps237
 go_wp2
 go_ret
 exact ⟨rfl,rfl⟩
theorem ldexp_any (m : Nat) (e : Int) (w : World) (hm : m ≤ 9007199254740992) (h1 : -1000000 ≤ e) (h2 : e ≤ 1000000) :
  Calls Tryz.prog 198 #[.float .f64 (floatOfInt .f64 m),.int .i64 e] w fun e' w'=>e' = .returned (.float .f64 (Ieee.double.nearest false m e)) ∧ w = w':=by
 have core : Calls Tryz.prog 237 #[.float .f64 (floatOfInt .f64 m),.int .i64 e] w fun e' w'=>e' = .returned (.float .f64 (Ieee.double.nearest false m e)) ∧ w = w':=by
  by_cases z : m = 0
  ·subst z; rw [nearest_zero]; exact ldexp_zero e w
  ·obtain ⟨K,q,hk,hv,hq⟩:=ofInt_kq m (by omega) hm
   obtain ⟨X,hX⟩ : ∃ X,X = e + (q : Int) - 1022:=⟨_,rfl⟩
   by_cases a : X < -1075
   ·exact ldexp_under _ K q m e X w hk hv hX a h1
   by_cases b : X < -1022
   ·exact ldexp_low _ K q m e X w hk hv hX (by omega) b
   by_cases c : X ≤ 1023
   ·exact ldexp_norm _ K q m e X w hk hv hX (by omega) c
   ·exact ldexp_over _ K q m e X w hk hv hX (by omega) h2
 go_enter Tryz.func198,Tryz.ntmps198
 go_wp2_with (go_at_call 237; refine core.mono ?_; rintro e w' ⟨rfl,rfl⟩)
 go_ret
 exact ⟨rfl,rfl⟩
end Go.Proofs.YtlbokicainimnaaGreatDoor
