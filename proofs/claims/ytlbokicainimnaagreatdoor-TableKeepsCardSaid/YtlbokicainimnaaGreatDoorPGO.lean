import Derived.Test.YtlbokicainimnaaGreatDoorPRG
import Derived.Laws.IdiomStrings
namespace Go.Proofs.YtlbokicainimnaaGreatDoor
open Go.RowKit
theorem own_pad {zs : List Nat} {n P : Nat} (hn : zs.length = n) (h : ∀ p, p < n → zs.getD (n - 1 - p) 0 = 48 + dg P p) : bytesN zs = padK n P := by
 refine eq_padK _ _ _ (by rw [bytesN_len, hn]) fun i hi => ?_
 have e := h i hi
 have hg := bytesN_get zs (n - 1 - i) (by rw [bytesN_len]; omega) (by rw [e]; have := dg_lt P i; omega)
 rw [e] at hg
 apply UInt8.toNat_inj.1
 rw [hg]
 have := dg_lt P i
 simp; omega
theorem bare_len_ge (N n : Nat) (h : 10 ^ n ≤ N) : n < (bareD N).length := by
 have h1 := dval_lt (bareD N) (bare_all N)
 rw [dval_bare] at h1
 have h2 : 10 ^ n < 10 ^ (bareD N).length := Nat.lt_of_le_of_lt h h1
 exact (Nat.pow_lt_pow_iff_right (by decide)).1 h2
section
end
end Go.Proofs.YtlbokicainimnaaGreatDoor
