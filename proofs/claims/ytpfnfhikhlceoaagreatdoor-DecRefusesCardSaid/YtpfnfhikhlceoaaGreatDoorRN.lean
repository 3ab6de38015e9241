/- Parts Gn of the proof, in one text. -/
import Derived.Test.YtpfnfhikhlceoaaGreatDoorRM

/- Walks: the law DecRefuses. -/
namespace Go.Proofs.YtpfnfhikhlceoaaGreatDoor
open Go.RowKit
set_option maxHeartbeats 8000000 in
set_option maxRecDepth 100000 in
theorem decRefuses_walk (g0 : Bool) (s0 : ByteArray) (x0 : Int) (p0 q0 : Int) (w : World) (z0 : s0.size ≤ 9223372036854775807) (l0 : -9223372036854775808 ≤ x0) (u0 : x0 ≤ 9223372036854775807) (lp0 : -9223372036854775808 ≤ p0) (up0 : p0 ≤ 9223372036854775807) (lq0 : -9223372036854775808 ≤ q0) (uq0 : q0 ≤ 9223372036854775807) (htab : Tab w) : Calls Tryz.prog 12 #[.agg #[.bool g0, .string s0, .int .i64 x0], .int .i64 p0, .int .i64 q0] w fun e w' => e = .returned (.bool true) ∧ Below w.heap.size w w' := by
  have T0 : Hid _ := tame_c g0 s0 x0 100 100 z0 (by decide) l0 u0 (by decide) (by decide)
  have HTAB : Hid (Tab w) := htab
  have HK0 : Hid (Kept _ (w.alloc (.cells #[.bool g0, .string s0, .int .i64 x0] 38))) := (Kept.nil w).push (rowO g0 s0 x0)
  have HB0 : Hid (Below w.heap.size w (w.alloc (.cells #[.bool g0, .string s0, .int .i64 x0] 38))) := (Below.refl _ _).alloc (Nat.le_refl _) _
  obtain ⟨p, hp, PK10⟩ : ∃ p : Nat, p < 10 ∧ Hid (∀ W, Calls Tryz.prog 22 #[.int .i64 p0, .int .i64 10] W fun e w' => e = .returned (.int .i64 (p : Nat)) ∧ w' = W) := pick_nat p0 10 lp0 up0 (by decide) (by decide)
  obtain ⟨a3, ha3, PK30⟩ : ∃ p : Nat, p < 30 ∧ Hid (∀ W, Calls Tryz.prog 22 #[.int .i64 q0, .int .i64 30] W fun e w' => e = .returned (.int .i64 (p : Nat)) ∧ w' = W) := pick_nat q0 30 lq0 uq0 (by decide) (by decide)
  obtain ⟨j6, hj6, PK60⟩ : ∃ p : Nat, p < 60 ∧ Hid (∀ W, Calls Tryz.prog 22 #[.int .i64 q0, .int .i64 60] W fun e w' => e = .returned (.int .i64 (p : Nat)) ∧ w' = W) := pick_nat q0 60 lq0 uq0 (by decide) (by decide)
  have PB60 : Hid (∀ W, Calls Tryz.prog 22 #[.int .i64 q0, .int .i64 60] W fun e w' => e = .returned (.int .i64 (j6 : Nat)) ∧ Below W.heap.size W w') := fun W => by
    refine (PK60.out W).mono ?_
    rintro e w' ⟨rfl, rfl⟩
    exact ⟨rfl, Below.refl _ _⟩
  obtain ⟨k2, hk2, PK25⟩ : ∃ p : Nat, p < 25 ∧ Hid (∀ W, Calls Tryz.prog 22 #[.int .i64 q0, .int .i64 25] W fun e w' => e = .returned (.int .i64 (p : Nat)) ∧ w' = W) := pick_nat q0 25 lq0 uq0 (by decide) (by decide)
  have PB25 : Hid (∀ W, Calls Tryz.prog 22 #[.int .i64 q0, .int .i64 25] W fun e w' => e = .returned (.int .i64 (k2 : Nat)) ∧ Below W.heap.size W w') := fun W => by
    refine (PK25.out W).mono ?_
    rintro e w' ⟨rfl, rfl⟩
    exact ⟨rfl, Below.refl _ _⟩
  have KN : Hid (∀ W, Below w.heap.size w W → Calls Tryz.prog 14 #[] W fun e w' => e = .returned (.bool true) ∧ Below W.heap.size W w') := fun W hW => known_any W (HTAB.out.below hW)
  clear htab z0 l0 u0 lp0 up0 lq0 uq0
  go_enter Tryz.func12, Tryz.ntmps12
  obtain ⟨a0, a1, a2⟩ := HK0.out.rows (.head _)
  go_wp2_with fail
  refine (T0.out _).mono ?_
  rintro e v1 ⟨da, V0, e0, rfl, ta0, hb⟩
  have HK1 : Hid (Kept _ (v1.alloc (.cells #[.bool da.neg, .string (bs da.s), .int .i64 da.e] 25))) := (HK0.out.below hb).dec da
  have HB1 : Hid (Below w.heap.size w (v1.alloc (.cells #[.bool da.neg, .string (bs da.s), .int .i64 da.e] 25))) := (HB0.out.thru hb).alloc (HB0.out.thru hb).size _
  clear hb HK0 HB0 a0 a1 a2
  have OK : Hid da.ok := ta0.rep.ok
  clear ta0 T0
  obtain ⟨hbo, hbl⟩ := bad_ok p
  have hgz : (v1.alloc (.cells #[.bool da.neg, .string (bs da.s), .int .i64 da.e] 25)).heap.size = v1.heap.size + 1 := by simp
  obtain ⟨y0, y1, y2⟩ := bad_cells ((v1.alloc (.cells #[.bool da.neg, .string (bs da.s), .int .i64 da.e] 25)).alloc (.cells badA 25)) (v1.heap.size + 1) 25 (by have := new_blk (v1.alloc (.cells #[.bool da.neg, .string (bs da.s), .int .i64 da.e] 25)) (.cells badA 25); rw [hgz] at this; exact this) p hp
  obtain ⟨db, hdb⟩ : ∃ b, b = badD p := ⟨_, rfl⟩
  rw [← hdb] at hbo hbl y0 y1 y2
  have hk := ((HK1.out.more (.cells badA 25)).more (.cells #[.bool db.neg, .string (bs db.s), .int .i64 db.e] 25)).cons (g := v1.heap.size + 1 + 1) (o := decO db) (by have := new_blk ((v1.alloc (.cells #[.bool da.neg, .string (bs da.s), .int .i64 da.e] 25)).alloc (.cells badA 25)) (.cells #[.bool db.neg, .string (bs db.s), .int .i64 db.e] 25); rw [show ((v1.alloc (.cells #[.bool da.neg, .string (bs da.s), .int .i64 da.e] 25)).alloc (.cells badA 25)).heap.size = v1.heap.size + 1 + 1 by simp] at this; exact this)
  have hb2 := HB1.out.alloc HB1.out.size (.cells badA 25)
  have hb3 := hb2.alloc hb2.size (.cells #[.bool db.neg, .string (bs db.s), .int .i64 db.e] 25)
  unfold badA at y0 y1 y2
  have HK2 : Hid (Kept [(v1.heap.size + 1 + 1, decO db), (v1.heap.size, decO da), (w.heap.size, rowO g0 s0 x0)] (((v1.alloc (.cells #[.bool da.neg, .string (bs da.s), .int .i64 da.e] 25)).alloc (.cells #[.bool false, .string ⟨#[49, 48]⟩, .int .i64 0, .bool false, .string ⟨#[48, 49]⟩, .int .i64 0, .bool false, .string ⟨#[49, 120]⟩, .int .i64 0, .bool true, .string ⟨#[]⟩, .int .i64 0, .bool false, .string ⟨#[]⟩, .int .i64 1, .bool false, .string ⟨#[49]⟩, .int .i64 20001, .bool false, .string ⟨#[49]⟩, .int .i64 (-20001), .bool false, .string ⟨#[48]⟩, .int .i64 0, .bool false, .string ⟨#[45, 49]⟩, .int .i64 0, .bool false, .string ⟨#[49, 46, 53]⟩, .int .i64 0] 25)).alloc (.cells #[.bool db.neg, .string (bs db.s), .int .i64 db.e] 25))) := hk
  have HB2 : Hid (Below w.heap.size w (((v1.alloc (.cells #[.bool da.neg, .string (bs da.s), .int .i64 da.e] 25)).alloc (.cells #[.bool false, .string ⟨#[49, 48]⟩, .int .i64 0, .bool false, .string ⟨#[48, 49]⟩, .int .i64 0, .bool false, .string ⟨#[49, 120]⟩, .int .i64 0, .bool true, .string ⟨#[]⟩, .int .i64 0, .bool false, .string ⟨#[]⟩, .int .i64 1, .bool false, .string ⟨#[49]⟩, .int .i64 20001, .bool false, .string ⟨#[49]⟩, .int .i64 (-20001), .bool false, .string ⟨#[48]⟩, .int .i64 0, .bool false, .string ⟨#[45, 49]⟩, .int .i64 0, .bool false, .string ⟨#[49, 46, 53]⟩, .int .i64 0] 25)).alloc (.cells #[.bool db.neg, .string (bs db.s), .int .i64 db.e] 25))) := hb3
  have hla := ok_len OK.out
  have C1 : Hid _ := add_bad hla hbo hbl w HTAB.out
  have C2 : Hid _ := sub_bad hla hbo hbl w HTAB.out
  have C3 : Hid _ := mul_bad hla hbo hbl w HTAB.out
  have C4 : Hid _ := cmp_bad hla hbo hbl w
  have C5 : Hid (∀ W, Calls Tryz.prog 24 #[.agg #[.bool db.neg, .string (bs db.s), .int .i64 db.e]] W fun e w' => e = .returned (.tuple #[.string ⟨#[]⟩, .int .i64 1]) ∧ Below W.heap.size W w') := fun W => text_bad db W (by omega) hbo
  have C6 : Hid (∀ W, Calls Tryz.prog 27 #[.agg #[.bool db.neg, .string (bs db.s), .int .i64 db.e]] W fun e w' => e = .returned (.tuple #[.agg #[.bool false, .string ⟨#[]⟩, .int .i64 0], .int .i64 1]) ∧ Below W.heap.size W w') := fun W => neg_bad db W (by omega) hbo
  have C7 : Hid (∀ W, Calls Tryz.prog 25 #[.agg #[.bool db.neg, .string (bs db.s), .int .i64 db.e]] W fun e w' => e = .returned (.bool false) ∧ Below W.heap.size W w') := fun W => by
    have := valid_v db W (by omega)
    rw [hbo] at this; exact this
  obtain ⟨F, hF⟩ : ∃ F, F = 20000 - (a3 : Int) := ⟨_, rfl⟩
  obtain ⟨up, hup⟩ : ∃ u, u = F + (j6 : Int) := ⟨_, rfl⟩
  obtain ⟨F1, hF1⟩ : ∃ F1, F1 = F - 8181 := ⟨_, rfl⟩
  obtain ⟨L, hL⟩ : ∃ L, L = F1 - (k2 : Int) := ⟨_, rfl⟩
  have kF : Hid (IntKind.i64.wrap (20000 - (a3 : Int)) = F) := by show _ = _; rw [← hF]; exact IntWalk.i64_in _ (by omega)
  have kU : Hid (IntKind.i64.wrap (F + (j6 : Int)) = up) := by show _ = _; rw [← hup]; exact IntWalk.i64_in _ (by omega)
  have kG : Hid (IntKind.i64.wrap (F - 8181) = F1) := by show _ = _; rw [← hF1]; exact IntWalk.i64_in _ (by omega)
  have kL : Hid (IntKind.i64.wrap (F1 - (k2 : Int)) = L) := by show _ = _; rw [← hL]; exact IntWalk.i64_in _ (by omega)
  have kD : Hid (IntKind.i64.wrap (F - L) = 8181 + (k2 : Int)) := by show _ = _; rw [IntWalk.i64_in _ (by omega)]; omega
  have kE : Hid (IntKind.i64.wrap (8181 + (k2 : Int) + 1) = 8182 + (k2 : Int)) := by show _ = _; rw [IntWalk.i64_in _ (by omega)]; omega
  obtain ⟨D1, hD1⟩ : ∃ D, D = mulD ⟨false, [51], F⟩ ⟨false, [51], j6⟩ := ⟨_, rfl⟩
  obtain ⟨X1, hX1⟩ : ∃ X, X = mulX ⟨false, [51], F⟩ ⟨false, [51], j6⟩ := ⟨_, rfl⟩
  obtain ⟨D2, hD2⟩ : ∃ D, D = addD ⟨false, [51], F⟩ ⟨false, [55], L⟩ := ⟨_, rfl⟩
  obtain ⟨X2, hX2⟩ : ∃ X, X = addX ⟨false, [51], F⟩ ⟨false, [55], L⟩ := ⟨_, rfl⟩
  have o1 := one_ok (c := 51) (e := F) rfl (by decide) (by omega) (by omega)
  have o2 := one_ok (c := 51) (e := (j6 : Int)) rfl (by decide) (by omega) (by omega)
  have o3 := one_ok (c := 55) (e := L) rfl (by decide) (by omega) (by omega)
  have C8 : Hid (∀ W, Below w.heap.size w W → Calls Tryz.prog 33 #[.agg #[.bool false, .string ⟨#[51]⟩, .int .i64 F], .agg #[.bool false, .string ⟨#[51]⟩, .int .i64 (j6 : Nat)]] W fun e w' => e = .returned (.tuple #[.agg #[.bool D1.neg, .string (bs D1.s), .int .i64 D1.e], .int .i64 X1]) ∧ Below W.heap.size W w') := fun W hW => by
    have := mul_v ⟨false, [51], F⟩ ⟨false, [51], j6⟩ W (by show 1 ≤ _; decide) (by show 1 ≤ _; decide) (HTAB.out.below hW)
    rw [okB_ok o1, okB_ok o2] at this
    rw [hD1, hX1]; exact this
  have C9 : Hid (∀ W, Below w.heap.size w W → Calls Tryz.prog 32 #[.agg #[.bool false, .string ⟨#[51]⟩, .int .i64 F], .agg #[.bool false, .string ⟨#[55]⟩, .int .i64 L]] W fun e w' => e = .returned (.tuple #[.agg #[.bool D2.neg, .string (bs D2.s), .int .i64 D2.e], .int .i64 X2]) ∧ Below W.heap.size W w') := fun W hW => by
    have := add_v ⟨false, [51], F⟩ ⟨false, [55], L⟩ W (by show 1 ≤ _; decide) (by show 1 ≤ _; decide) (HTAB.out.below hW)
    rw [okB_ok o1, okB_ok o3] at this
    rw [hD2, hX2]; exact this
  have M1 : Hid ((up ≤ 20000 → D1 = ⟨false, [57], up⟩ ∧ X1 = 0) ∧ (20000 < up → D1 = Dc.none ∧ X1 = 11)) := by
    have := far_mul (F := F) (j := (j6 : Int)) (by omega) (by omega) (by omega) (by omega)
    rw [hup, hD1, hX1]; exact this
  have M2 : Hid ((8182 + k2 ≤ 8192 → X2 = 0) ∧ (8192 < 8182 + k2 → X2 = 12 ∧ D2 = Dc.none)) := by
    have := far_add (F := F) (L := L) (n := 8181 + k2) (by omega) (by omega) (by omega) (by omega) (by omega)
    rw [hD2, hX2]
    refine ⟨fun h => this.1 (by omega), fun h => this.2 (by omega)⟩
  clear hdb hgz hk hb2 hb3 hla hbo hbl hF hup hF1 hL hD1 hX1 hD2 hX2 o1 o2 o3 HK1 HB1 HTAB
  go_wp2_with fail
  refine (PK10.out _).mono ?_
  rintro e w' ⟨rfl, hw⟩
  subst hw
  obtain ⟨a0, a1, a2⟩ := HK2.out.decs (.tail _ (.head _))
  obtain ⟨b0, b1, b2⟩ := HK2.out.decs (.head _)
  go_wp2_with fail
  refine (C1.out _ HB2.out).mono ?_
  rintro e v3 ⟨rfl, hb⟩
  have HK3 : Hid (Kept _ (v3.alloc (.cells #[.bool false, .string ⟨#[]⟩, .int .i64 0] 25))) := (HK2.out.below hb).nought
  have HB3 : Hid (Below w.heap.size w (v3.alloc (.cells #[.bool false, .string ⟨#[]⟩, .int .i64 0] 25))) := (HB2.out.thru hb).alloc (HB2.out.thru hb).size _
  clear hb HK2 HB2 a0 a1 a2 b0 b1 b2
  clear y0 y1 y2
  obtain ⟨a0, a1, a2⟩ := HK3.out.decs (.tail _ (.head _))
  obtain ⟨b0, b1, b2⟩ := HK3.out.decs (.tail _ (.tail _ (.head _)))
  go_wp2_with fail
  refine (C2.out _ HB3.out).mono ?_
  rintro e v4 ⟨rfl, hb⟩
  have HK4 : Hid (Kept _ (v4.alloc (.cells #[.bool false, .string ⟨#[]⟩, .int .i64 0] 25))) := (HK3.out.below hb).nought
  have HB4 : Hid (Below w.heap.size w (v4.alloc (.cells #[.bool false, .string ⟨#[]⟩, .int .i64 0] 25))) := (HB3.out.thru hb).alloc (HB3.out.thru hb).size _
  clear hb HK3 HB3 a0 a1 a2 b0 b1 b2
  obtain ⟨a0, a1, a2⟩ := HK4.out.decs (.tail _ (.tail _ (.tail _ (.head _))))
  obtain ⟨b0, b1, b2⟩ := HK4.out.decs (.tail _ (.tail _ (.head _)))
  go_wp2_with fail
  refine (C3.out _ HB4.out).mono ?_
  rintro e v5 ⟨rfl, hb⟩
  have HK5 : Hid (Kept _ (v5.alloc (.cells #[.bool false, .string ⟨#[]⟩, .int .i64 0] 25))) := (HK4.out.below hb).nought
  have HB5 : Hid (Below w.heap.size w (v5.alloc (.cells #[.bool false, .string ⟨#[]⟩, .int .i64 0] 25))) := (HB4.out.thru hb).alloc (HB4.out.thru hb).size _
  clear hb HK4 HB4 a0 a1 a2 b0 b1 b2
  obtain ⟨a0, a1, a2⟩ := HK5.out.decs (.tail _ (.tail _ (.tail _ (.head _))))
  obtain ⟨b0, b1, b2⟩ := HK5.out.decs (.tail _ (.tail _ (.tail _ (.tail _ (.head _)))))
  go_wp2_with fail
  refine (C4.out _ HB5.out).mono ?_
  rintro e v6 ⟨rfl, hb⟩
  have HK6 : Hid (Kept _ v6) := HK5.out.below hb
  have HB6 : Hid (Below w.heap.size w v6) := HB5.out.thru hb
  clear hb HK5 HB5 a0 a1 a2 b0 b1 b2
  obtain ⟨a0, a1, a2⟩ := HK6.out.decs (.tail _ (.tail _ (.tail _ (.head _))))
  go_wp2_with fail
  refine (C5.out _).mono ?_
  rintro e v7 ⟨rfl, hb⟩
  have HK7 : Hid (Kept _ v7) := HK6.out.below hb
  have HB7 : Hid (Below w.heap.size w v7) := HB6.out.thru hb
  clear hb HK6 HB6 a0 a1 a2
  obtain ⟨a0, a1, a2⟩ := HK7.out.decs (.tail _ (.tail _ (.tail _ (.head _))))
  go_wp2_with fail
  refine (C6.out _).mono ?_
  rintro e v8 ⟨rfl, hb⟩
  have HK8 : Hid (Kept _ (v8.alloc (.cells #[.bool false, .string ⟨#[]⟩, .int .i64 0] 25))) := (HK7.out.below hb).nought
  have HB8 : Hid (Below w.heap.size w (v8.alloc (.cells #[.bool false, .string ⟨#[]⟩, .int .i64 0] 25))) := (HB7.out.thru hb).alloc (HB7.out.thru hb).size _
  clear hb HK7 HB7 a0 a1 a2
  obtain ⟨a0, a1, a2⟩ := HK8.out.nones (.tail _ (.tail _ (.tail _ (.head _))))
  obtain ⟨b0, b1, b2⟩ := HK8.out.nones (.tail _ (.tail _ (.head _)))
  obtain ⟨c0, c1, c2⟩ := HK8.out.nones (.tail _ (.head _))
  obtain ⟨d0, d1, d2⟩ := HK8.out.nones (.head _)
  obtain ⟨f0, f1, f2⟩ := HK8.out.decs (.tail _ (.tail _ (.tail _ (.tail _ (.head _)))))
  go_wp2_with fail
  refine (C7.out _).mono ?_
  rintro e v9 ⟨rfl, hb⟩
  have HK9 : Hid (Kept _ v9) := HK8.out.below hb
  have HB9 : Hid (Below w.heap.size w v9) := HB8.out.thru hb
  clear hb HK8 HB8 a0 a1 a2 b0 b1 b2 c0 c1 c2 d0 d1 d2 f0 f1 f2
  have q1 := kF.out
  go_wp2_with fail
  refine (PK30.out _).mono ?_
  rintro e w' ⟨rfl, hw⟩
  have hw := hw.symm
  subst hw
  go_upto_region 13 with fail
  clear q1 C1 C2 C3 C4 C5 C6 C7
  have HK10 : Hid (Kept _ (v9.alloc (.cells #[.bool false, .string ⟨#[51]⟩, .int .i64 F] 25))) := HK9.out.push (.cells #[.bool false, .string ⟨#[51]⟩, .int .i64 F] 25)
  have HB10 : Hid (Below w.heap.size w (v9.alloc (.cells #[.bool false, .string ⟨#[51]⟩, .int .i64 F] 25))) := HB9.out.alloc HB9.out.size (.cells #[.bool false, .string ⟨#[51]⟩, .int .i64 F] 25)
  clear HK9 HB9
  obtain ⟨w110, hw⟩ : ∃ X, X = v9.alloc (.cells #[.bool false, .string ⟨#[51]⟩, .int .i64 F] 25) := ⟨_, rfl⟩
  rw [← hw] at HK10 HB10 ⊢
  clear hw
  have HA : Hid (w110.heap[v9.heap.size]? = some (.cells #[.bool false, .string ⟨#[51]⟩, .int .i64 F] 25 (0, 0))) := HK10.out _ (.head _)
  have h1 : once [(148, 0), (149, 1), (150, 2), (151, 3), (152, 4), (147, 5), (153, 6), (154, 7), (23, 8)] = true := by kernel_rfl
  have h2 : within [(148, 0), (149, 1), (150, 2), (151, 3), (152, 4), (147, 5), (153, 6), (154, 7), (23, 8)] 224 = true := by kernel_rfl
  have hstab : ∀ j (ys : Nat → Value) W W', (fun (i : Nat) (xs : Nat → Value) (W : World) => match i with
    | 0 => (xs 0) = .agg #[.bool false, .string ⟨#[51]⟩, .int .i64 F]
    | 1 => (xs 1) = .int .i64 q0
    | 2 => (xs 2) = .int .i64 (j6 : Nat)
    | 3 => (xs 3) = .agg #[.bool false, .string ⟨#[51]⟩, .int .i64 (j6 : Nat)]
    | 4 => (xs 4) = .tuple #[.agg #[.bool D1.neg, .string (bs D1.s), .int .i64 D1.e], .int .i64 X1]
    | 5 => (xs 5) = .tuple #[.agg #[.bool D1.neg, .string (bs D1.s), .int .i64 D1.e], .int .i64 X1]
    | 6 => (xs 6) = .agg #[.bool D1.neg, .string (bs D1.s), .int .i64 D1.e]
    | 7 => (xs 7) = .int .i64 X1
    | 8 => ∃ g x y z, xs 8 = .pointer (some ⟨g, 0, none⟩) ∧ w110.heap.size ≤ g ∧ g < W.heap.size ∧ W.heap[g]? = some (.cells #[x, y, z] 25 (0, 0))
    | 9 => ∃ g, xs 8 = .pointer (some ⟨g, 0, none⟩) ∧ w110.heap.size ≤ g ∧ W.heap[g]? = some (.cells #[.bool D1.neg, .string (bs D1.s), .int .i64 D1.e] 25 (0, 0))
    | _ => True) j ys W → Below W.heap.size W W' → (fun (i : Nat) (xs : Nat → Value) (W : World) => match i with
    | 0 => (xs 0) = .agg #[.bool false, .string ⟨#[51]⟩, .int .i64 F]
    | 1 => (xs 1) = .int .i64 q0
    | 2 => (xs 2) = .int .i64 (j6 : Nat)
    | 3 => (xs 3) = .agg #[.bool false, .string ⟨#[51]⟩, .int .i64 (j6 : Nat)]
    | 4 => (xs 4) = .tuple #[.agg #[.bool D1.neg, .string (bs D1.s), .int .i64 D1.e], .int .i64 X1]
    | 5 => (xs 5) = .tuple #[.agg #[.bool D1.neg, .string (bs D1.s), .int .i64 D1.e], .int .i64 X1]
    | 6 => (xs 6) = .agg #[.bool D1.neg, .string (bs D1.s), .int .i64 D1.e]
    | 7 => (xs 7) = .int .i64 X1
    | 8 => ∃ g x y z, xs 8 = .pointer (some ⟨g, 0, none⟩) ∧ w110.heap.size ≤ g ∧ g < W.heap.size ∧ W.heap[g]? = some (.cells #[x, y, z] 25 (0, 0))
    | 9 => ∃ g, xs 8 = .pointer (some ⟨g, 0, none⟩) ∧ w110.heap.size ≤ g ∧ W.heap[g]? = some (.cells #[.bool D1.neg, .string (bs D1.s), .int .i64 D1.e] 25 (0, 0))
    | _ => True) j ys W' := by
    intro j ys W W' h hb
    match j, h with
    | 0, h => exact h
    | 1, h => exact h
    | 2, h => exact h
    | 3, h => exact h
    | 4, h => exact h
    | 5, h => exact h
    | 6, h => exact h
    | 7, h => exact h
    | 8, ⟨g, x, y, z, s1, s2, s3, s4⟩ => exact ⟨g, x, y, z, s1, s2, Nat.lt_of_lt_of_le s3 hb.size, hb.blk s4 s3⟩
    | 9, ⟨g, s1, s2, s4⟩ => exact ⟨g, s1, s2, hb.blk s4 (blk_lt s4)⟩
    | _ + 10, h => exact trivial
  refine wp_region_flow3 10 11 [(148, 0), (149, 1), (150, 2), (151, 3), (152, 4), (147, 5), (153, 6), (154, 7), (23, 8)] [8] (fun (i : Nat) (xs : Nat → Value) (W : World) => match i with
    | 0 => (xs 0) = .agg #[.bool false, .string ⟨#[51]⟩, .int .i64 F]
    | 1 => (xs 1) = .int .i64 q0
    | 2 => (xs 2) = .int .i64 (j6 : Nat)
    | 3 => (xs 3) = .agg #[.bool false, .string ⟨#[51]⟩, .int .i64 (j6 : Nat)]
    | 4 => (xs 4) = .tuple #[.agg #[.bool D1.neg, .string (bs D1.s), .int .i64 D1.e], .int .i64 X1]
    | 5 => (xs 5) = .tuple #[.agg #[.bool D1.neg, .string (bs D1.s), .int .i64 D1.e], .int .i64 X1]
    | 6 => (xs 6) = .agg #[.bool D1.neg, .string (bs D1.s), .int .i64 D1.e]
    | 7 => (xs 7) = .int .i64 X1
    | 8 => ∃ g x y z, xs 8 = .pointer (some ⟨g, 0, none⟩) ∧ w110.heap.size ≤ g ∧ g < W.heap.size ∧ W.heap[g]? = some (.cells #[x, y, z] 25 (0, 0))
    | 9 => ∃ g, xs 8 = .pointer (some ⟨g, 0, none⟩) ∧ w110.heap.size ≤ g ∧ W.heap[g]? = some (.cells #[.bool D1.neg, .string (bs D1.s), .int .i64 D1.e] 25 (0, 0))
    | _ => True) (fun _ W => Below w110.heap.size w110 W) ((Below.refl _ _).drew) (by kernel_rfl) (by kernel_rfl) (by kernel_rfl) (by decide) (by kernel_rfl) h1 (by kernel_rfl) ?_ ?_ ?_ ?_
  · intro j hj xs W h
    simp only [List.mem_cons, List.not_mem_nil, or_false] at hj
    subst hj
    obtain ⟨g, _, _, _, s1, _, s3, _⟩ := h; exact ⟨g, s1, s3⟩
  · intro j xs ys W e h
    match j, e, h with
    | 0, e, h => exact (e 0 (.inl rfl)).symm.trans h
    | 1, e, h => exact (e 1 (.inl rfl)).symm.trans h
    | 2, e, h => exact (e 2 (.inl rfl)).symm.trans h
    | 3, e, h => exact (e 3 (.inl rfl)).symm.trans h
    | 4, e, h => exact (e 4 (.inl rfl)).symm.trans h
    | 5, e, h => exact (e 5 (.inl rfl)).symm.trans h
    | 6, e, h => exact (e 6 (.inl rfl)).symm.trans h
    | 7, e, h => exact (e 7 (.inl rfl)).symm.trans h
    | 8, e, ⟨g, x, y, z, s1, r⟩ => exact ⟨g, x, y, z, (e 8 (.inl rfl)).symm.trans s1, r⟩
    | 9, e, ⟨g, s1, r⟩ => exact ⟨g, (e 8 (.inr (by kernel_rfl))).symm.trans s1, r⟩
    | _ + 10, e, h => exact trivial
  · refine ⟨⟨⟨⟨⟨⟨⟨⟨⟨⟨trivial, ?_⟩, ?_⟩, ?_⟩, ?_⟩, ?_⟩, ?_⟩, ?_⟩, ?_⟩, ?_⟩, ?_⟩
    · refine flow3_step _ (some 148) rfl rfl rfl h1 h2 (fun D W _ h => h) (fun D W W' h hb => h.thru hb) hstab fun ac xs W D he hni hb hS K hK => ?_
      exact wp_load_row 25 (.tmp 22) rfl v9.heap.size (he 22) _ _ _ _ (hb.blk HA.out (blk_lt HA.out)) Tryz.underlying25 rfl (by kernel_rfl) (hK _ _ rfl (Below.refl _ _) (fun h => absurd h (by decide)))
    · refine flow3_step _ (some 149) rfl rfl rfl h1 h2 (fun D W _ h => h) (fun D W W' h hb => h.thru hb) hstab fun ac xs W D he hni hb hS K hK => ?_
      exact op_move (.tmp 2) (.inl rfl) (hK _ _ (he 2) (Below.refl _ _) (fun h => absurd h (by decide)))
    · refine flow3_step _ (some 150) rfl rfl rfl h1 h2 (fun D W _ h => h) (fun D W W' h hb => h.thru hb) hstab fun ac xs W D he hni hb hS K hK => ?_
      have e0 : ac.eval (.tmp 149) = _ := (he 149).trans (hS 1 (by kernel_rfl))
      refine op_call 22 _ _ rfl _ (by simp only [List.map, eval_const, e0]) (by go_simp) (PB60.out W) ?_
      rintro e' W' ⟨rfl, hb'⟩
      exact ⟨_, rfl, hK _ _ (rfl) hb' (fun h => absurd h (by decide))⟩
    · refine flow3_step _ (some 151) rfl rfl rfl h1 h2 (fun D W _ h => h) (fun D W W' h hb => h.thru hb) hstab fun ac xs W D he hni hb hS K hK => ?_
      have e0 : ac.eval (.tmp 150) = _ := (he 150).trans (hS 2 (by kernel_rfl))
      refine op_any (.build 25 #[(1, .const (.string ⟨#[51]⟩)), (2, .tmp 150)]) rfl (.agg #[.bool false, .string ⟨#[51]⟩, .int .i64 (j6 : Nat)]) (fun o' ho' => ?_) (hK _ _ rfl (Below.refl _ _) (fun h => absurd h (by decide)))
      simp only [execOp, ho']
      have f1 : ac.tmps[150]?.getD undef = .int .i64 (j6 : Nat) := by rw [← Array.getD_eq_getD_getElem?]; exact e0
      clear e0
      go_simp
    · refine flow3_step _ (some 152) rfl rfl rfl h1 h2 (fun D W _ h => h) (fun D W W' h hb => h.thru hb) hstab fun ac xs W D he hni hb hS K hK => ?_
      have e0 : ac.eval (.tmp 148) = _ := (he 148).trans (hS 0 (by kernel_rfl))
      have e1 : ac.eval (.tmp 151) = _ := (he 151).trans (hS 3 (by kernel_rfl))
      refine op_call 33 _ _ rfl _ (by simp only [List.map, e0, e1]) (by go_simp) (C8.out W (HB10.out.thru hb)) ?_
      rintro e' W' ⟨rfl, hb'⟩
      exact ⟨_, rfl, hK _ _ (rfl) hb' (fun h => absurd h (by decide))⟩
    · refine flow3_step _ (some 147) rfl rfl rfl h1 h2 (fun D W _ h => h) (fun D W W' h hb => h.thru hb) hstab fun ac xs W D he hni hb hS K hK => ?_
      exact op_move (.tmp 152) (.inl rfl) (hK _ _ ((he 152).trans (hS 4 (by kernel_rfl))) (Below.refl _ _) (fun h => absurd h (by decide)))
    · refine flow3_step _ (some 153) rfl rfl rfl h1 h2 (fun D W _ h => h) (fun D W W' h hb => h.thru hb) hstab fun ac xs W D he hni hb hS K hK => ?_
      have e0 : ac.eval (.tmp 147) = _ := (he 147).trans (hS 5 (by kernel_rfl))
      refine op_any (.extract (.tmp 147) 0) rfl (.agg #[.bool D1.neg, .string (bs D1.s), .int .i64 D1.e]) (fun o' ho' => ?_) (hK _ _ rfl (Below.refl _ _) (fun h => absurd h (by decide)))
      simp only [execOp, ho', e0]
      go_simp
    · refine flow3_step _ (some 154) rfl rfl rfl h1 h2 (fun D W _ h => h) (fun D W W' h hb => h.thru hb) hstab fun ac xs W D he hni hb hS K hK => ?_
      have e0 : ac.eval (.tmp 147) = _ := (he 147).trans (hS 5 (by kernel_rfl))
      refine op_any (.extract (.tmp 147) 1) rfl (.int .i64 X1) (fun o' ho' => ?_) (hK _ _ rfl (Below.refl _ _) (fun h => absurd h (by decide)))
      simp only [execOp, ho', e0]
      go_simp
    · refine flow3_step _ (some 23) rfl rfl rfl h1 h2 (fun D W _ h => h) (fun D W W' h hb => h.thru hb) hstab fun ac xs W D he hni hb hS K hK => ?_
      have hsz := hb.size
      refine op_anyw (.alloc 25) rfl (.pointer (some ⟨W.heap.size, 0, none⟩)) (W.alloc (.cells #[.bool false, .string ⟨#[]⟩, .int .i64 0] 25)) ?_ ?_
      · intro o' ho'
        simp only [execOp, ho']
        go_simp
      · exact hK _ _ ⟨_, _, _, _, rfl, by omega, by simp, heap_alloc_new _ _⟩ ((Below.refl _ _).alloc (Nat.le_refl _) _) (fun _ => rfl)
    · refine flow3_store _ rfl rfl rfl h1 h2 (by decide) fun ac xs W D he hni hb hS K hK => ?_
      obtain ⟨g, z1, z2, z3, s1, s2, s3, s4⟩ := hS 8 (by kernel_rfl)
      have hvy : ac.eval (.tmp 153) = .agg #[.bool D1.neg, .string (bs D1.s), .int .i64 D1.e] := (he 153).trans (hS 6 (by kernel_rfl))
      refine wp_store_row 25 (.tmp 23) (.tmp 153) rfl g #[.bool D1.neg, .string (bs D1.s), .int .i64 D1.e] ((he 23).trans s1) hvy _ _ s4 (by kernel_rfl) rfl (by simp [Value.oneCell']) ?_
      have hself := setRow_heap W g _ #[.bool D1.neg, .string (bs D1.s), .int .i64 D1.e] 25 (0, 0) s4
      refine hK _ ⟨g, s1, s2, hself⟩ (below_setRow hb s2 _) ?_
      intro j ys h
      match j, h with
      | 0, h => exact h
      | 1, h => exact h
      | 2, h => exact h
      | 3, h => exact h
      | 4, h => exact h
      | 5, h => exact h
      | 6, h => exact h
      | 7, h => exact h
      | 8, ⟨g1, x, y, z, u1, u2, u3, u4⟩ =>
        by_cases hg : g1 = g
        · subst hg; exact ⟨g1, _, _, _, u1, u2, by rw [setRow_size]; exact u3, hself⟩
        · exact ⟨g1, x, y, z, u1, u2, by rw [setRow_size]; exact u3, (setRow_other W g g1 _ hg).trans u4⟩
      | 9, ⟨g1, u1, u2, u4⟩ =>
        by_cases hg : g1 = g
        · subst hg; exact ⟨g1, u1, u2, hself⟩
        · exact ⟨g1, u1, u2, (setRow_other W g g1 _ hg).trans u4⟩
      | _ + 10, h => exact trivial
  · intro xs w111 D hall hb hS hD
    have s6 : xs 6 = _ := hS 6 (by decide)
    have s7 : xs 7 = _ := hS 7 (by decide)
    obtain ⟨g, s8, s9, s10⟩ := hS 9 (by decide)
    have HK11 : Hid (Kept _ w111) := (HK10.out.below hb).cons (o := decO D1) s10
    have HB11 : Hid (Below w.heap.size w w111) := HB10.out.thru hb
    have HA2 : Hid _ := hb.blk HA.out (blk_lt HA.out)
    generalize xs 0 = x0 at *
    generalize xs 1 = x1 at *
    generalize xs 2 = x2 at *
    generalize xs 3 = x3 at *
    generalize xs 4 = x4 at *
    generalize xs 5 = x5 at *
    simp only [layAll, s6, s7, s8]
    clear hS hD hall hstab s6 s7 s8 s9 s10 hb HK10 HB10 HA
    go_upto_region 14 with fail
    have h1 : once [(155, 0), (156, 1), (157, 2), (158, 3), (159, 4)] = true := by kernel_rfl
    have h2 : within [(155, 0), (156, 1), (157, 2), (158, 3), (159, 4)] 224 = true := by kernel_rfl
    refine wp_region_flow 5 6 [(155, 0), (156, 1), (157, 2), (158, 3), (159, 4)] [] (fun i v W => match i with
      | 0 => v = .pointer (some ⟨v9.heap.size, 2, none⟩)
      | 1 => v = .int .i64 F
      | 2 => v = .int .i64 q0
      | 3 => v = .int .i64 (j6 : Nat)
      | _ => v = .int .i64 up) w111.heap.size (Nat.le_refl _) (by kernel_rfl) (by kernel_rfl) (by kernel_rfl) (by decide) (by kernel_rfl) h1 (by kernel_rfl) ?_ ?_ ?_ ?_
    · intro j v W W' h hb
      match j, h with
      | 0, h => exact h
      | 1, h => exact h
      | 2, h => exact h
      | 3, h => exact h
      | _ + 4, h => exact h
    · exact fun j hj => by cases hj
    · refine ⟨⟨⟨⟨⟨trivial, ?_⟩, ?_⟩, ?_⟩, ?_⟩, ?_⟩
      · refine flow_step _ 155 rfl rfl (fun d h => by simpa using h) h1 h2 fun ac xs W he hb hS K hK => ?_
        have e0 : ac.eval (.tmp 22) = .pointer (some ⟨v9.heap.size, 0, none⟩) := he 22
        refine op_any (.fieldAddr 25 (.tmp 22) 2) rfl (.pointer (some ⟨v9.heap.size, 2, none⟩)) (fun o' ho' => ?_) (hK _ _ rfl (Below.refl _ _) (fun h => absurd h (by decide)))
        simp only [execOp, ho', e0]
        go_simp
      · refine flow_step _ 156 rfl rfl (fun d h => by simpa using h) h1 h2 fun ac xs W he hb hS K hK => ?_
        have e0 : ac.eval (.tmp 155) = _ := (he 155).trans (hS 0 (by kernel_rfl))
        refine op_any (.load 3 (.tmp 155)) rfl (.int .i64 F) (fun o' ho' => ?_) (hK _ _ rfl (Below.refl _ _) (fun h => absurd h (by decide)))
        simp only [execOp, ho', e0]
        have hc := cell_of_row W _ 2 _ _ _ (hb.blk HA2.out (blk_lt HA2.out))
        go_simp
      · refine flow_step _ 157 rfl rfl (fun d h => by simpa using h) h1 h2 fun ac xs W he hb hS K hK => ?_
        exact op_move (.tmp 2) (.inl rfl) (hK _ _ (he 2) (Below.refl _ _) (fun h => absurd h (by decide)))
      · refine flow_step _ 158 rfl rfl (fun d h => by simpa using h) h1 h2 fun ac xs W he hb hS K hK => ?_
        have e0 : ac.eval (.tmp 157) = _ := (he 157).trans (hS 2 (by kernel_rfl))
        refine op_call 22 _ _ rfl _ (by simp only [List.map, eval_const, e0]) (by go_simp) (PB60.out W) ?_
        rintro e' W' ⟨rfl, hb'⟩
        exact ⟨_, rfl, hK _ _ (rfl) hb' (fun h => absurd h (by decide))⟩
      · refine flow_step _ 159 rfl rfl (fun d h => by simpa using h) h1 h2 fun ac xs W he hb hS K hK => ?_
        have k0 := kU.out
        have e0 : ac.eval (.tmp 156) = _ := (he 156).trans (hS 1 (by kernel_rfl))
        have e1 : ac.eval (.tmp 158) = _ := (he 158).trans (hS 3 (by kernel_rfl))
        refine op_any (.binOp .add 3 (.tmp 156) (.tmp 158) 3) rfl (.int .i64 up) (fun o' ho' => ?_) (hK _ _ rfl (Below.refl _ _) (fun h => absurd h (by decide)))
        simp only [execOp, ho', e0, e1]
        go_simp
    · intro xs w113 hb hS hD
      have s4 : xs 4 = _ := hS 4 (by decide)
      have HK12 : Hid (Kept _ w113) := HK11.out.below hb
      have HB12 : Hid (Below w.heap.size w w113) := HB11.out.thru hb
      have HA3 : Hid _ := hb.blk HA2.out (blk_lt HA2.out)
      generalize xs 0 = x0 at *
      generalize xs 1 = x1 at *
      generalize xs 2 = x2 at *
      generalize xs 3 = x3 at *
      simp only [layAll, s4]
      clear hS hD s4 hb HK11 HB11 HA2 kU
      by_cases hu : 20000 < up
      · obtain ⟨hn, hx⟩ := M1.out.2 hu
        subst hx
        obtain ⟨a0, a1, a2⟩ := HK12.out.decs (.head _)
        replace a0 := a0.trans (show some (Value.bool D1.neg) = some (Value.bool false) by rw [hn]; try rfl)
        replace a1 := a1.trans (show some (Value.string (bs D1.s)) = some (Value.string ⟨#[]⟩) by rw [hn]; try rfl)
        replace a2 := a2.trans (show some (Value.int .i64 D1.e) = some (Value.int .i64 0) by rw [hn]; try rfl)
        clear hn M1
        go_upto_region 17 with fail
        have h1 : once [(185, 0), (186, 1), (187, 2), (188, 3), (189, 4), (190, 5), (191, 6), (26, 7)] = true := by kernel_rfl
        have h2 : within [(185, 0), (186, 1), (187, 2), (188, 3), (189, 4), (190, 5), (191, 6), (26, 7)] 224 = true := by kernel_rfl
        refine wp_region_flow 8 9 [(185, 0), (186, 1), (187, 2), (188, 3), (189, 4), (190, 5), (191, 6), (26, 7)] [7] (fun i v W => match i with
          | 0 => v = .pointer (some ⟨v9.heap.size, 2, none⟩)
          | 1 => v = .int .i64 F
          | 2 => v = .int .i64 F1
          | 3 => v = .int .i64 q0
          | 4 => v = .int .i64 (k2 : Nat)
          | 5 => v = .int .i64 L
          | 6 => v = .agg #[.bool false, .string ⟨#[55]⟩, .int .i64 L]
          | _ => ∃ g, v = .pointer (some ⟨g, 0, none⟩) ∧ w113.heap.size ≤ g ∧ g < W.heap.size ∧ W.heap[g]? = some (.cells #[.bool false, .string ⟨#[]⟩, .int .i64 0] 25 (0, 0))) w113.heap.size (Nat.le_refl _) (by kernel_rfl) (by kernel_rfl) (by kernel_rfl) (by decide) (by kernel_rfl) h1 (by kernel_rfl) ?_ ?_ ?_ ?_
        · intro j v W W' h hb
          match j, h with
          | 0, h => exact h
          | 1, h => exact h
          | 2, h => exact h
          | 3, h => exact h
          | 4, h => exact h
          | 5, h => exact h
          | 6, h => exact h
          | _ + 7, ⟨g, s1, s2, s3, s4⟩ => exact ⟨g, s1, s2, Nat.lt_of_lt_of_le s3 hb.size, hb.blk s4 s3⟩
        · intro j hj v W h
          simp only [List.mem_cons, List.not_mem_nil, or_false] at hj
          rcases hj with rfl
          · obtain ⟨g, s1, s2, s3, s4⟩ := h; exact ⟨g, s1, s3⟩
        · refine ⟨⟨⟨⟨⟨⟨⟨⟨trivial, ?_⟩, ?_⟩, ?_⟩, ?_⟩, ?_⟩, ?_⟩, ?_⟩, ?_⟩
          · refine flow_step _ 185 rfl rfl (fun d h => by simpa using h) h1 h2 fun ac xs W he hb hS K hK => ?_
            have e0 : ac.eval (.tmp 22) = .pointer (some ⟨v9.heap.size, 0, none⟩) := he 22
            refine op_any (.fieldAddr 25 (.tmp 22) 2) rfl (.pointer (some ⟨v9.heap.size, 2, none⟩)) (fun o' ho' => ?_) (hK _ _ rfl (Below.refl _ _) (fun h => absurd h (by decide)))
            simp only [execOp, ho', e0]
            go_simp
          · refine flow_step _ 186 rfl rfl (fun d h => by simpa using h) h1 h2 fun ac xs W he hb hS K hK => ?_
            have e0 : ac.eval (.tmp 185) = _ := (he 185).trans (hS 0 (by kernel_rfl))
            refine op_any (.load 3 (.tmp 185)) rfl (.int .i64 F) (fun o' ho' => ?_) (hK _ _ rfl (Below.refl _ _) (fun h => absurd h (by decide)))
            simp only [execOp, ho', e0]
            have hc := cell_of_row W _ 2 _ _ _ (hb.blk HA3.out (blk_lt HA3.out))
            go_simp
          · refine flow_step _ 187 rfl rfl (fun d h => by simpa using h) h1 h2 fun ac xs W he hb hS K hK => ?_
            have k0 := kG.out
            have e0 : ac.eval (.tmp 186) = _ := (he 186).trans (hS 1 (by kernel_rfl))
            refine op_any (.binOp .sub 3 (.tmp 186) (.const (.int .i64 8181)) 3) rfl (.int .i64 F1) (fun o' ho' => ?_) (hK _ _ rfl (Below.refl _ _) (fun h => absurd h (by decide)))
            simp only [execOp, ho', e0]
            go_simp
          · refine flow_step _ 188 rfl rfl (fun d h => by simpa using h) h1 h2 fun ac xs W he hb hS K hK => ?_
            exact op_move (.tmp 2) (.inl rfl) (hK _ _ (he 2) (Below.refl _ _) (fun h => absurd h (by decide)))
          · refine flow_step _ 189 rfl rfl (fun d h => by simpa using h) h1 h2 fun ac xs W he hb hS K hK => ?_
            have e0 : ac.eval (.tmp 188) = _ := (he 188).trans (hS 3 (by kernel_rfl))
            refine op_call 22 _ _ rfl _ (by simp only [List.map, eval_const, e0]) (by go_simp) (PB25.out W) ?_
            rintro e' W' ⟨rfl, hb'⟩
            exact ⟨_, rfl, hK _ _ (rfl) hb' (fun h => absurd h (by decide))⟩
          · refine flow_step _ 190 rfl rfl (fun d h => by simpa using h) h1 h2 fun ac xs W he hb hS K hK => ?_
            have k0 := kL.out
            have e0 : ac.eval (.tmp 187) = _ := (he 187).trans (hS 2 (by kernel_rfl))
            have e1 : ac.eval (.tmp 189) = _ := (he 189).trans (hS 4 (by kernel_rfl))
            refine op_any (.binOp .sub 3 (.tmp 187) (.tmp 189) 3) rfl (.int .i64 L) (fun o' ho' => ?_) (hK _ _ rfl (Below.refl _ _) (fun h => absurd h (by decide)))
            simp only [execOp, ho', e0, e1]
            go_simp
          · refine flow_step _ 191 rfl rfl (fun d h => by simpa using h) h1 h2 fun ac xs W he hb hS K hK => ?_
            have e0 : ac.eval (.tmp 190) = _ := (he 190).trans (hS 5 (by kernel_rfl))
            refine op_any (.build 25 #[(1, .const (.string ⟨#[55]⟩)), (2, .tmp 190)]) rfl (.agg #[.bool false, .string ⟨#[55]⟩, .int .i64 L]) (fun o' ho' => ?_) (hK _ _ rfl (Below.refl _ _) (fun h => absurd h (by decide)))
            simp only [execOp, ho']
            have f1 : ac.tmps[190]?.getD undef = .int .i64 L := by rw [← Array.getD_eq_getD_getElem?]; exact e0
            clear e0
            go_simp
          · refine flow_step _ 26 rfl rfl (fun d h => by simpa using h) h1 h2 fun ac xs W he hb hS K hK => ?_
            have hsz := hb.size
            refine op_anyw (.alloc 25) rfl (.pointer (some ⟨W.heap.size, 0, none⟩)) (W.alloc (.cells #[.bool false, .string ⟨#[]⟩, .int .i64 0] 25)) ?_ ?_
            · intro o' ho'
              simp only [execOp, ho']
              go_simp
            · exact hK _ _ ⟨_, rfl, by omega, by simp, heap_alloc_new _ _⟩ ((Below.refl _ _).alloc (Nat.le_refl _) _) (fun _ => rfl)
        · intro xs W hb hS hD
          have s6 : xs 6 = _ := hS 6 (by decide)
          obtain ⟨g, s7, s8, -, s9⟩ := hS 7 (by decide)
          obtain ⟨f0, c0, f1, c1, f2, c2, r3⟩ := rw3 s9
          have HK13 : Hid (Kept _ (((W.setCell ⟨g, 0, none⟩ (.bool false)).setCell ⟨g, 1, none⟩ (.string ⟨#[55]⟩)).setCell ⟨g, 2, none⟩ (.int .i64 L))) := (HK12.out.stored hb (Nat.le_refl _) s8 _ _ _).cons (r3 _ _ _)
          have HB13 : Hid (Below w.heap.size w (((W.setCell ⟨g, 0, none⟩ (.bool false)).setCell ⟨g, 1, none⟩ (.string ⟨#[55]⟩)).setCell ⟨g, 2, none⟩ (.int .i64 L))) := below_row3 (HB12.out.thru hb) (Nat.le_trans HB12.out.size s8) _ _ _
          generalize xs 0 = x0 at *
          generalize xs 1 = x1 at *
          generalize xs 2 = x2 at *
          generalize xs 3 = x3 at *
          generalize xs 4 = x4 at *
          generalize xs 5 = x5 at *
          simp only [layAll, s6, s7]
          clear hS hD s6 s7 s8 r3 hb HK12 HB12 HA3 kG kL
          go_upto_region 18 with fail
          generalize (((W.setCell ⟨g, 0, none⟩ (.bool false)).setCell ⟨g, 1, none⟩ (.string ⟨#[55]⟩)).setCell ⟨g, 2, none⟩ (.int .i64 L)) = w115 at *
          clear s9 f0 c0 f1 c1 f2 c2
          obtain ⟨a0, a1, a2⟩ := HK13.out.lits (.tail _ (.tail _ (.head _)))
          obtain ⟨b0, b1, b2⟩ := HK13.out.lits (.head _)
          go_wp2_with fail
          refine (C9.out _ HB13.out).mono ?_
          rintro e v14 ⟨rfl, hb⟩
          have HK14 : Hid (Kept _ (v14.alloc (.cells #[.bool D2.neg, .string (bs D2.s), .int .i64 D2.e] 25))) := (HK13.out.below hb).dec D2
          have HB14 : Hid (Below w.heap.size w (v14.alloc (.cells #[.bool D2.neg, .string (bs D2.s), .int .i64 D2.e] 25))) := (HB13.out.thru hb).alloc (HB13.out.thru hb).size _
          clear hb HK13 HB13 a0 a1 a2 b0 b1 b2
          have q1 := kD.out
          have q2 := kE.out
          by_cases hl : 8192 < 8182 + k2
          · obtain ⟨hx, hn⟩ := M2.out.2 hl
            have hl2 : (8192 : Int) < 8182 + (k2 : Int) := by omega
            have hl3 : Hid (decide ((8192 : Int) < 8182 + (k2 : Int)) = true) := decide_eq_true hl2
            subst hx
            obtain ⟨a0, a1, a2⟩ := HK14.out.lits (.tail _ (.tail _ (.tail _ (.head _))))
            obtain ⟨b0, b1, b2⟩ := HK14.out.lits (.tail _ (.head _))
            obtain ⟨c0, c1, c2⟩ := HK14.out.decs (.head _)
            replace c0 := c0.trans (show some (Value.bool D2.neg) = some (Value.bool false) by rw [hn]; try rfl)
            replace c1 := c1.trans (show some (Value.string (bs D2.s)) = some (Value.string ⟨#[]⟩) by rw [hn]; try rfl)
            replace c2 := c2.trans (show some (Value.int .i64 D2.e) = some (Value.int .i64 0) by rw [hn]; try rfl)
            clear hn hl
            go_wp2_with fail
            refine (KN.out _ HB14.out).mono ?_
            rintro e v15 ⟨rfl, hb⟩
            have HBZ : Hid (Below w.heap.size w v15) := HB14.out.thru hb
            clear hb
            go_wp2
            go_ret
            refine ⟨?_, HBZ.out⟩
            first
              | rfl
              | (show Ending.returned (.bool (!decide ((8192 : Int) < 8182 + (k2 : Int)))) = _; rw [hl3.out]; rfl)
          · have hx := M2.out.1 (by omega)
            have hl2 : ¬ (8192 : Int) < 8182 + (k2 : Int) := by omega
            have hl3 : Hid (decide ((8192 : Int) < 8182 + (k2 : Int)) = false) := decide_eq_false hl2
            subst hx
            obtain ⟨a0, a1, a2⟩ := HK14.out.lits (.tail _ (.tail _ (.tail _ (.head _))))
            obtain ⟨b0, b1, b2⟩ := HK14.out.lits (.tail _ (.head _))
            obtain ⟨c0, c1, c2⟩ := HK14.out.decs (.head _)
            clear hl
            go_wp2_with fail
            refine (KN.out _ HB14.out).mono ?_
            rintro e v15 ⟨rfl, hb⟩
            have HBZ : Hid (Below w.heap.size w v15) := HB14.out.thru hb
            clear hb
            go_wp2
            go_ret
            refine ⟨?_, HBZ.out⟩
            first
              | rfl
              | (show Ending.returned (.bool (!decide ((8192 : Int) < 8182 + (k2 : Int)))) = _; rw [hl3.out]; rfl)
      · obtain ⟨hn, hx⟩ := M1.out.1 (by omega)
        subst hx
        obtain ⟨a0, a1, a2⟩ := HK12.out.decs (.head _)
        replace a0 := a0.trans (show some (Value.bool D1.neg) = some (Value.bool false) by rw [hn]; try rfl)
        replace a1 := a1.trans (show some (Value.string (bs D1.s)) = some (Value.string ⟨#[57]⟩) by rw [hn]; try rfl)
        replace a2 := a2.trans (show some (Value.int .i64 D1.e) = some (Value.int .i64 up) by rw [hn]; try rfl)
        clear hn M1
        go_upto_region 17 with fail
        have h1 : once [(185, 0), (186, 1), (187, 2), (188, 3), (189, 4), (190, 5), (191, 6), (26, 7)] = true := by kernel_rfl
        have h2 : within [(185, 0), (186, 1), (187, 2), (188, 3), (189, 4), (190, 5), (191, 6), (26, 7)] 224 = true := by kernel_rfl
        refine wp_region_flow 8 9 [(185, 0), (186, 1), (187, 2), (188, 3), (189, 4), (190, 5), (191, 6), (26, 7)] [7] (fun i v W => match i with
          | 0 => v = .pointer (some ⟨v9.heap.size, 2, none⟩)
          | 1 => v = .int .i64 F
          | 2 => v = .int .i64 F1
          | 3 => v = .int .i64 q0
          | 4 => v = .int .i64 (k2 : Nat)
          | 5 => v = .int .i64 L
          | 6 => v = .agg #[.bool false, .string ⟨#[55]⟩, .int .i64 L]
          | _ => ∃ g, v = .pointer (some ⟨g, 0, none⟩) ∧ w113.heap.size ≤ g ∧ g < W.heap.size ∧ W.heap[g]? = some (.cells #[.bool false, .string ⟨#[]⟩, .int .i64 0] 25 (0, 0))) w113.heap.size (Nat.le_refl _) (by kernel_rfl) (by kernel_rfl) (by kernel_rfl) (by decide) (by kernel_rfl) h1 (by kernel_rfl) ?_ ?_ ?_ ?_
        · intro j v W W' h hb
          match j, h with
          | 0, h => exact h
          | 1, h => exact h
          | 2, h => exact h
          | 3, h => exact h
          | 4, h => exact h
          | 5, h => exact h
          | 6, h => exact h
          | _ + 7, ⟨g, s1, s2, s3, s4⟩ => exact ⟨g, s1, s2, Nat.lt_of_lt_of_le s3 hb.size, hb.blk s4 s3⟩
        · intro j hj v W h
          simp only [List.mem_cons, List.not_mem_nil, or_false] at hj
          rcases hj with rfl
          · obtain ⟨g, s1, s2, s3, s4⟩ := h; exact ⟨g, s1, s3⟩
        · refine ⟨⟨⟨⟨⟨⟨⟨⟨trivial, ?_⟩, ?_⟩, ?_⟩, ?_⟩, ?_⟩, ?_⟩, ?_⟩, ?_⟩
          · refine flow_step _ 185 rfl rfl (fun d h => by simpa using h) h1 h2 fun ac xs W he hb hS K hK => ?_
            have e0 : ac.eval (.tmp 22) = .pointer (some ⟨v9.heap.size, 0, none⟩) := he 22
            refine op_any (.fieldAddr 25 (.tmp 22) 2) rfl (.pointer (some ⟨v9.heap.size, 2, none⟩)) (fun o' ho' => ?_) (hK _ _ rfl (Below.refl _ _) (fun h => absurd h (by decide)))
            simp only [execOp, ho', e0]
            go_simp
          · refine flow_step _ 186 rfl rfl (fun d h => by simpa using h) h1 h2 fun ac xs W he hb hS K hK => ?_
            have e0 : ac.eval (.tmp 185) = _ := (he 185).trans (hS 0 (by kernel_rfl))
            refine op_any (.load 3 (.tmp 185)) rfl (.int .i64 F) (fun o' ho' => ?_) (hK _ _ rfl (Below.refl _ _) (fun h => absurd h (by decide)))
            simp only [execOp, ho', e0]
            have hc := cell_of_row W _ 2 _ _ _ (hb.blk HA3.out (blk_lt HA3.out))
            go_simp
          · refine flow_step _ 187 rfl rfl (fun d h => by simpa using h) h1 h2 fun ac xs W he hb hS K hK => ?_
            have k0 := kG.out
            have e0 : ac.eval (.tmp 186) = _ := (he 186).trans (hS 1 (by kernel_rfl))
            refine op_any (.binOp .sub 3 (.tmp 186) (.const (.int .i64 8181)) 3) rfl (.int .i64 F1) (fun o' ho' => ?_) (hK _ _ rfl (Below.refl _ _) (fun h => absurd h (by decide)))
            simp only [execOp, ho', e0]
            go_simp
          · refine flow_step _ 188 rfl rfl (fun d h => by simpa using h) h1 h2 fun ac xs W he hb hS K hK => ?_
            exact op_move (.tmp 2) (.inl rfl) (hK _ _ (he 2) (Below.refl _ _) (fun h => absurd h (by decide)))
          · refine flow_step _ 189 rfl rfl (fun d h => by simpa using h) h1 h2 fun ac xs W he hb hS K hK => ?_
            have e0 : ac.eval (.tmp 188) = _ := (he 188).trans (hS 3 (by kernel_rfl))
            refine op_call 22 _ _ rfl _ (by simp only [List.map, eval_const, e0]) (by go_simp) (PB25.out W) ?_
            rintro e' W' ⟨rfl, hb'⟩
            exact ⟨_, rfl, hK _ _ (rfl) hb' (fun h => absurd h (by decide))⟩
          · refine flow_step _ 190 rfl rfl (fun d h => by simpa using h) h1 h2 fun ac xs W he hb hS K hK => ?_
            have k0 := kL.out
            have e0 : ac.eval (.tmp 187) = _ := (he 187).trans (hS 2 (by kernel_rfl))
            have e1 : ac.eval (.tmp 189) = _ := (he 189).trans (hS 4 (by kernel_rfl))
            refine op_any (.binOp .sub 3 (.tmp 187) (.tmp 189) 3) rfl (.int .i64 L) (fun o' ho' => ?_) (hK _ _ rfl (Below.refl _ _) (fun h => absurd h (by decide)))
            simp only [execOp, ho', e0, e1]
            go_simp
          · refine flow_step _ 191 rfl rfl (fun d h => by simpa using h) h1 h2 fun ac xs W he hb hS K hK => ?_
            have e0 : ac.eval (.tmp 190) = _ := (he 190).trans (hS 5 (by kernel_rfl))
            refine op_any (.build 25 #[(1, .const (.string ⟨#[55]⟩)), (2, .tmp 190)]) rfl (.agg #[.bool false, .string ⟨#[55]⟩, .int .i64 L]) (fun o' ho' => ?_) (hK _ _ rfl (Below.refl _ _) (fun h => absurd h (by decide)))
            simp only [execOp, ho']
            have f1 : ac.tmps[190]?.getD undef = .int .i64 L := by rw [← Array.getD_eq_getD_getElem?]; exact e0
            clear e0
            go_simp
          · refine flow_step _ 26 rfl rfl (fun d h => by simpa using h) h1 h2 fun ac xs W he hb hS K hK => ?_
            have hsz := hb.size
            refine op_anyw (.alloc 25) rfl (.pointer (some ⟨W.heap.size, 0, none⟩)) (W.alloc (.cells #[.bool false, .string ⟨#[]⟩, .int .i64 0] 25)) ?_ ?_
            · intro o' ho'
              simp only [execOp, ho']
              go_simp
            · exact hK _ _ ⟨_, rfl, by omega, by simp, heap_alloc_new _ _⟩ ((Below.refl _ _).alloc (Nat.le_refl _) _) (fun _ => rfl)
        · intro xs W hb hS hD
          have s6 : xs 6 = _ := hS 6 (by decide)
          obtain ⟨g, s7, s8, -, s9⟩ := hS 7 (by decide)
          obtain ⟨f0, c0, f1, c1, f2, c2, r3⟩ := rw3 s9
          have HK13 : Hid (Kept _ (((W.setCell ⟨g, 0, none⟩ (.bool false)).setCell ⟨g, 1, none⟩ (.string ⟨#[55]⟩)).setCell ⟨g, 2, none⟩ (.int .i64 L))) := (HK12.out.stored hb (Nat.le_refl _) s8 _ _ _).cons (r3 _ _ _)
          have HB13 : Hid (Below w.heap.size w (((W.setCell ⟨g, 0, none⟩ (.bool false)).setCell ⟨g, 1, none⟩ (.string ⟨#[55]⟩)).setCell ⟨g, 2, none⟩ (.int .i64 L))) := below_row3 (HB12.out.thru hb) (Nat.le_trans HB12.out.size s8) _ _ _
          generalize xs 0 = x0 at *
          generalize xs 1 = x1 at *
          generalize xs 2 = x2 at *
          generalize xs 3 = x3 at *
          generalize xs 4 = x4 at *
          generalize xs 5 = x5 at *
          simp only [layAll, s6, s7]
          clear hS hD s6 s7 s8 r3 hb HK12 HB12 HA3 kG kL
          go_upto_region 18 with fail
          generalize (((W.setCell ⟨g, 0, none⟩ (.bool false)).setCell ⟨g, 1, none⟩ (.string ⟨#[55]⟩)).setCell ⟨g, 2, none⟩ (.int .i64 L)) = w115 at *
          clear s9 f0 c0 f1 c1 f2 c2
          obtain ⟨a0, a1, a2⟩ := HK13.out.lits (.tail _ (.tail _ (.head _)))
          obtain ⟨b0, b1, b2⟩ := HK13.out.lits (.head _)
          go_wp2_with fail
          refine (C9.out _ HB13.out).mono ?_
          rintro e v14 ⟨rfl, hb⟩
          have HK14 : Hid (Kept _ (v14.alloc (.cells #[.bool D2.neg, .string (bs D2.s), .int .i64 D2.e] 25))) := (HK13.out.below hb).dec D2
          have HB14 : Hid (Below w.heap.size w (v14.alloc (.cells #[.bool D2.neg, .string (bs D2.s), .int .i64 D2.e] 25))) := (HB13.out.thru hb).alloc (HB13.out.thru hb).size _
          clear hb HK13 HB13 a0 a1 a2 b0 b1 b2
          have q1 := kD.out
          have q2 := kE.out
          by_cases hl : 8192 < 8182 + k2
          · obtain ⟨hx, hn⟩ := M2.out.2 hl
            have hl2 : (8192 : Int) < 8182 + (k2 : Int) := by omega
            have hl3 : Hid (decide ((8192 : Int) < 8182 + (k2 : Int)) = true) := decide_eq_true hl2
            subst hx
            obtain ⟨a0, a1, a2⟩ := HK14.out.lits (.tail _ (.tail _ (.tail _ (.head _))))
            obtain ⟨b0, b1, b2⟩ := HK14.out.lits (.tail _ (.head _))
            obtain ⟨c0, c1, c2⟩ := HK14.out.decs (.head _)
            replace c0 := c0.trans (show some (Value.bool D2.neg) = some (Value.bool false) by rw [hn]; try rfl)
            replace c1 := c1.trans (show some (Value.string (bs D2.s)) = some (Value.string ⟨#[]⟩) by rw [hn]; try rfl)
            replace c2 := c2.trans (show some (Value.int .i64 D2.e) = some (Value.int .i64 0) by rw [hn]; try rfl)
            clear hn hl
            go_wp2_with fail
            refine (KN.out _ HB14.out).mono ?_
            rintro e v15 ⟨rfl, hb⟩
            have HBZ : Hid (Below w.heap.size w v15) := HB14.out.thru hb
            clear hb
            go_wp2
            go_ret
            refine ⟨?_, HBZ.out⟩
            first
              | rfl
              | (show Ending.returned (.bool (!decide ((8192 : Int) < 8182 + (k2 : Int)))) = _; rw [hl3.out]; rfl)
          · have hx := M2.out.1 (by omega)
            have hl2 : ¬ (8192 : Int) < 8182 + (k2 : Int) := by omega
            have hl3 : Hid (decide ((8192 : Int) < 8182 + (k2 : Int)) = false) := decide_eq_false hl2
            subst hx
            obtain ⟨a0, a1, a2⟩ := HK14.out.lits (.tail _ (.tail _ (.tail _ (.head _))))
            obtain ⟨b0, b1, b2⟩ := HK14.out.lits (.tail _ (.head _))
            obtain ⟨c0, c1, c2⟩ := HK14.out.decs (.head _)
            clear hl
            go_wp2_with fail
            refine (KN.out _ HB14.out).mono ?_
            rintro e v15 ⟨rfl, hb⟩
            have HBZ : Hid (Below w.heap.size w v15) := HB14.out.thru hb
            clear hb
            go_wp2
            go_ret
            refine ⟨?_, HBZ.out⟩
            first
              | rfl
              | (show Ending.returned (.bool (!decide ((8192 : Int) < 8182 + (k2 : Int)))) = _; rw [hl3.out]; rfl)
end Go.Proofs.YtpfnfhikhlceoaaGreatDoor
