/- Parts Tm of the proof, in one text. -/
import Derived.Test.YtiimjbpfdidgcaaGreatDoorJC
import Derived.Test.YtiimjbpfdidgcaaGreatDoorIP
import Derived.Test.YtiimjbpfdidgcaaGreatDoorID

/- Walks: Percent, the law TableParts. -/
namespace Go.Proofs.YtiimjbpfdidgcaaGreatDoor
open Go.RowKit

theorem divR (a b : Nat) (ha : W64 a) (hb : W64 b) : ∃ R, finB a = true → finB b = true → zeroB b = false → Near 52 (rv 52 (absB a) * 2^LP) (rv 52 (absB b)) R := by
  by_cases h : finB a = true ∧ finB b = true ∧ zeroB b = false
  · obtain ⟨R, h1, -⟩ := div_D a b ha hb h.1 h.2.1 h.2.2
    exact ⟨R, fun _ _ _ => h1⟩
  · exact ⟨0, fun h1 h2 h3 => absurd ⟨h1, h2, h3⟩ h⟩
theorem modR (a b : Nat) : ∃ r R, finB a = true → finB b = true → zeroB b = false → ModR a b r R := by
  by_cases h : finB a = true ∧ finB b = true ∧ zeroB b = false
  · obtain ⟨r, R, h1⟩ := mod_ex2 a b h.1 h.2.1 h.2.2
    exact ⟨r, R, fun _ _ _ => h1⟩
  · exact ⟨0, 0, fun h1 h2 h3 => absurd ⟨h1, h2, h3⟩ h⟩
theorem rootR_ex (a : Nat) (ha : W64 a) : ∃ S, finB a = true → zeroB a = false → sgnB a = false → RootR a S := by
  by_cases h : finB a = true ∧ zeroB a = false ∧ sgnB a = false
  · obtain ⟨n, w, H, R, h1⟩ := sqrt_D a ha h.1 h.2.2 h.2.1
    exact ⟨R, fun _ _ _ => ⟨n, w, H, h1⟩⟩
  · exact ⟨0, fun h1 h2 h3 => absurd ⟨h1, h2, h3⟩ h⟩

theorem hun_W : W64 4636737291354636288 := by unfold W64; decide

theorem tpercent_any (a R : Nat) (w : World) (ha : W64 a) (hT : Tab9 w 1 quoZ) (hR : finB a = true → finB 4636737291354636288 = true → zeroB 4636737291354636288 = false → Near 52 (rv 52 (absB a) * 2^LP) (rv 52 (absB 4636737291354636288)) R) :
    Calls Tryz.prog 10 #[.float .f64 a] w fun e w' => e = .returned (.tuple #[.float .f64 (divB a 4636737291354636288 R), .int .i64 (divX a 4636737291354636288 R)]) ∧ Below w.heap.size w w' := by
  have HD : Hid (Calls Tryz.prog 6 #[.float .f64 a, .float .f64 4636737291354636288] w fun e w' => e = .returned (.tuple #[.float .f64 (divB a 4636737291354636288 R), .int .i64 (divX a 4636737291354636288 R)]) ∧ Below w.heap.size w w') := tdiv_any a _ R w ha hun_W hT hR
  clear hT hR ha
  generalize divB a 4636737291354636288 R = r1 at *
  generalize divX a 4636737291354636288 R = r2 at *
  go_enter Tryz.func10, Tryz.ntmps10
  go_wp2_with fail
  refine HD.out.mono ?_
  rintro e w1 ⟨rfl, hb1⟩
  go_wp2
  go_ret2
  exact ⟨rfl, hb1⟩
theorem r7_percent (a R : Nat) (w : World) (ha : W64 a) (hR : finB a = true → finB 4636737291354636288 = true → zeroB 4636737291354636288 = false → Near 52 (rv 52 (absB a) * 2^LP) (rv 52 (absB 4636737291354636288)) R) :
    Calls Tryz.prog 11 #[.int .u64 a] w fun e w' => e = .returned (.tuple #[.int .u64 (divB a 4636737291354636288 R : Nat), .int .i64 (divX a 4636737291354636288 R)]) ∧ Below w.heap.size w w' := by
  have HD : Hid (Calls Tryz.prog 7 #[.int .u64 a, .int .u64 4636737291354636288] w fun e w' => e = .returned (.tuple #[.int .u64 (divB a 4636737291354636288 R : Nat), .int .i64 (divX a 4636737291354636288 R)]) ∧ Below w.heap.size w w') := r7_div a 4636737291354636288 R w ha hun_W hR
  clear hR ha
  generalize divB a 4636737291354636288 R = r1 at *
  generalize divX a 4636737291354636288 R = r2 at *
  go_enter Tryz.func11, Tryz.ntmps11
  go_wp2_with fail
  refine HD.out.mono ?_
  rintro e w1 ⟨rfl, hb1⟩
  go_wp2
  go_ret2
  exact ⟨rfl, hb1⟩

set_option maxHeartbeats 1000000 in
set_option maxRecDepth 100000 in
theorem law_parts (a b : Nat) (w : World) (ha : W64 a) (hb : W64 b) (hT : Tab9 w 3 totZ) (hQ : Tab9 w 1 quoZ) (hE : Tab9 w 2 restZ) :
    Calls Tryz.prog 3 #[.int .u64 (a : Nat), .int .u64 (b : Nat)] w fun e w' => e = .returned (.bool true) ∧ Below w.heap.size w w' := by
  have HAW : Hid (Calls Tryz.prog 4 #[] w fun e w' => e = .returned (.bool true) ∧ Below w.heap.size w w') := awake7_any w hT hQ
  obtain ⟨R, hR⟩ := divR a b ha hb
  obtain ⟨r, S, hS⟩ := modR a b
  obtain ⟨P, hP⟩ := divR a 4636737291354636288 ha hun_W
  obtain ⟨Z, hZ⟩ := rootR_ex a ha
  obtain ⟨d1, hd1⟩ : ∃ x, x = divB a b R := ⟨_, rfl⟩
  obtain ⟨d2, hd2⟩ : ∃ x, x = divX a b R := ⟨_, rfl⟩
  obtain ⟨m1, hm1⟩ : ∃ x, x = mdB a b r S := ⟨_, rfl⟩
  obtain ⟨m2, hm2⟩ : ∃ x, x = mdX a b := ⟨_, rfl⟩
  obtain ⟨p1, hp1⟩ : ∃ x, x = divB a 4636737291354636288 P := ⟨_, rfl⟩
  obtain ⟨p2, hp2⟩ : ∃ x, x = divX a 4636737291354636288 P := ⟨_, rfl⟩
  obtain ⟨z1, hz1⟩ : ∃ x, x = rootB a Z := ⟨_, rfl⟩
  obtain ⟨z2, hz2⟩ : ∃ x, x = rootX a Z := ⟨_, rfl⟩
  have H1 : Hid (∀ W, Below w.heap.size w W → Calls Tryz.prog 6 #[.float .f64 a, .float .f64 b] W fun e w' => e = .returned (.tuple #[.float .f64 d1, .int .i64 d2]) ∧ Below W.heap.size W w') := fun W hW => by rw [hd1, hd2]; exact tdiv_any a b R W ha hb (hQ.below (Nat.le_refl _) hW) hR
  have H2 : Hid (∀ W, Calls Tryz.prog 7 #[.int .u64 a, .int .u64 b] W fun e w' => e = .returned (.tuple #[.int .u64 (d1 : Nat), .int .i64 d2]) ∧ Below W.heap.size W w') := fun W => by rw [hd1, hd2]; exact r7_div a b R W ha hb hR
  have H3 : Hid (∀ W, Below w.heap.size w W → Calls Tryz.prog 8 #[.float .f64 a, .float .f64 b] W fun e w' => e = .returned (.tuple #[.float .f64 m1, .int .i64 m2]) ∧ Below W.heap.size W w') := fun W hW => by rw [hm1, hm2]; exact tmod_any a b r S W ha hb (hE.below (Nat.le_refl _) hW) hS
  have H4 : Hid (∀ W, Calls Tryz.prog 9 #[.int .u64 a, .int .u64 b] W fun e w' => e = .returned (.tuple #[.int .u64 (m1 : Nat), .int .i64 m2]) ∧ Below W.heap.size W w') := fun W => by rw [hm1, hm2]; exact r7_mod a b r S W ha hb hS
  have H5 : Hid (∀ W, Below w.heap.size w W → Calls Tryz.prog 10 #[.float .f64 a] W fun e w' => e = .returned (.tuple #[.float .f64 p1, .int .i64 p2]) ∧ Below W.heap.size W w') := fun W hW => by rw [hp1, hp2]; exact tpercent_any a P W ha (hQ.below (Nat.le_refl _) hW) hP
  have H6 : Hid (∀ W, Calls Tryz.prog 11 #[.int .u64 a] W fun e w' => e = .returned (.tuple #[.int .u64 (p1 : Nat), .int .i64 p2]) ∧ Below W.heap.size W w') := fun W => by rw [hp1, hp2]; exact r7_percent a P W ha hP
  have H7 : Hid (∀ W, Calls Tryz.prog 12 #[.float .f64 a] W fun e w' => e = .returned (.tuple #[.float .f64 z1, .int .i64 z2]) ∧ Below W.heap.size W w') := fun W => by rw [hz1, hz2]; exact troot_any a Z W ha hZ
  have H8 : Hid (∀ W, Calls Tryz.prog 13 #[.int .u64 a] W fun e w' => e = .returned (.tuple #[.int .u64 (z1 : Nat), .int .i64 z2]) ∧ Below W.heap.size W w') := fun W => by rw [hz1, hz2]; exact r7_root a Z W ha hZ
  have HIS : Hid (∀ c W, Calls Tryz.prog 14 #[.float .f64 c, .int .u64 (c : Nat)] W fun e w' => e = .returned (.bool true) ∧ W = w') := fun c W => by have := is7_any c c W; simpa using this
  clear hR hS hP hZ hd1 hd2 hm1 hm2 hp1 hp2 hz1 hz2 hT hQ hE ha hb
  go_enter Tryz.func3, Tryz.ntmps3
  go_wp2_with fail
  refine HAW.out.mono ?_
  rintro e w1 ⟨rfl, hb1⟩
  go_wp2_with fail
  refine (H1.out _ hb1).mono ?_
  rintro e w2 ⟨rfl, hb2⟩
  have c2 := hb1.thru hb2
  go_wp2_with fail
  refine (H2.out _).mono ?_
  rintro e w3 ⟨rfl, hb3⟩
  have c3 := c2.thru hb3
  go_wp2_with fail
  refine (H3.out _ c3).mono ?_
  rintro e w4 ⟨rfl, hb4⟩
  have c4 := c3.thru hb4
  go_wp2_with fail
  refine (H4.out _).mono ?_
  rintro e w5 ⟨rfl, hb5⟩
  have c5 := c4.thru hb5
  go_wp2_with fail
  refine (H5.out _ c5).mono ?_
  rintro e w6 ⟨rfl, hb6⟩
  have c6 := c5.thru hb6
  go_wp2_with fail
  refine (H6.out _).mono ?_
  rintro e w7 ⟨rfl, hb7⟩
  have c7 := c6.thru hb7
  go_wp2_with fail
  refine (H7.out _).mono ?_
  rintro e w8 ⟨rfl, hb8⟩
  have c8 := c7.thru hb8
  go_wp2_with fail
  refine (H8.out _).mono ?_
  rintro e w9 ⟨rfl, hb9⟩
  have c9 := c8.thru hb9
  go_wp2_with (go_at_call 14; with_reducible refine (HIS.out _ _).mono ?_; rintro e w' ⟨rfl, rfl⟩)
  go_ret
  exact ⟨rfl, c9⟩
end Go.Proofs.YtiimjbpfdidgcaaGreatDoor
