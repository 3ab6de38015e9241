import Derived.Test.YtlbokicainimnaaGreatDoorPAA
import Derived.Test.YtlbokicainimnaaGreatDoorPBY
namespace Go.Proofs.YtlbokicainimnaaGreatDoor
open Go Go.RowKit
theorem outG_le {neg : Bool} {m : Int} {g : Mag} (hg : g.Ok) : (outG 53 (-1074) 971 neg m g).rung 53 (-1074) 971 ≤ 9218868437227405312 := by
 rcases out_range (b := 53) (L := -1074) (T := 971) (neg := neg) (mode := m) (by decide) (by decide) hg with h | ⟨h1, h2, h3, h4, h5⟩
 ·unfold Out.rung
  rw [if_pos h]; decide
 ·unfold Out.rung
  rw [if_neg (by rw [h1]; decide)]
  omega
theorem rung64_le (a : Dc) (m : Int) : rung64 a m ≤ 9218868437227405312 := by
 unfold rung64
 split
 ·decide
 ·exact outG_le (quoG_ok oneD_ok oneD_s)
theorem placesC_len {a : Dc} {n m : Int} (ha : a.ok) : (placesC a n m).1.s.length ≤ 8192 := by
 unfold placesC
 split
 ·exact ok_len ha
 ·have := ok_len (mkD_ok (sg a.neg (unitK a n m)) (-n))
  rw [(mkD_sg _ _ _).1] at this
  exact this
theorem placesA_len {a : Dc} {n m : Int} (ha : a.ok) : (placesA a n m).1.s.length ≤ 8192 := by
 unfold placesA
 split
 ·decide
 ·split
  ·exact ok_len ha
  ·exact placesC_len ha
end Go.Proofs.YtlbokicainimnaaGreatDoor
