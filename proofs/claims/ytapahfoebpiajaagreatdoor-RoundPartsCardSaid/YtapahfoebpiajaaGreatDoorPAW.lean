/- Parts Aw, Bo of the proof, in one text. -/
import Derived.Test.YtapahfoebpiajaaGreatDoorPAE
import Derived.Test.YtapahfoebpiajaaGreatDoorPAD
import Derived.Test.YtapahfoebpiajaaGreatDoorPAN
import Derived.Test.YtapahfoebpiajaaGreatDoorPRJ
import Derived.Test.YtapahfoebpiajaaGreatDoorPBJ
import Derived.Test.YtapahfoebpiajaaGreatDoorPAT
import Derived.Test.YtapahfoebpiajaaGreatDoorPQS
import Derived.Test.YtapahfoebpiajaaGreatDoorPQV

/- Walks: the reference's To of a quotient, of a root, any way. -/
namespace Go.Proofs.YtapahfoebpiajaaGreatDoor
open Go.RowKit

theorem blen_bd {M bb : Nat} (h : M < 2 ^ bb) : blen M ≤ bb := blen_le h
/-- What To asks, of quotients. -/
theorem ask_rat {M D b : Nat} {E sz L : Int} (hM : M ≠ 0) (hD : 0 < D) (hs : sz = (blen M : Int) - blen D + E) : ((ratMag M D E).Q (max L (sz - (b + 3 : Nat))) < 2 ^ (b + 4)) ∧ 2 ^ b ≤ (ratMag M D E).Q (sz - (b + 3 : Nat)) :=
  ⟨toQ_lt hM hD (by push_cast; omega), toQ_ge hM hD (by push_cast; omega)⟩
theorem ask_root {M D b : Nat} {E sz L : Int} (hM : M ≠ 0) (hD : 0 < D) (hs : sz = Int.tdiv (if (blen M : Int) - blen D + E < 0 then (blen M : Int) - blen D + E - 1 else (blen M : Int) - blen D + E) 2) :
    ((rootMag M D E).Q (max L (sz - (b + 3 : Nat))) < 2 ^ (b + 4)) ∧ 2 ^ b ≤ (rootMag M D E).Q (sz - (b + 3 : Nat)) := by
  have h2 : -1 ≤ (blen M : Int) - blen D + E - 2 * sz ∧ (blen M : Int) - blen D + E - 2 * sz ≤ 1 := by
    generalize (blen M : Int) - blen D + E = n at *
    by_cases h : n < 0
    · rw [if_pos h] at hs
      rw [hs, show n - 1 = -(1 - n) by omega, Int.neg_tdiv, Int.tdiv_eq_ediv_of_nonneg (by omega)]
      omega
    · rw [if_neg h] at hs
      rw [hs, Int.tdiv_eq_ediv_of_nonneg (by omega)]
      omega
  exact ⟨rootQ_lt hM hD (by push_cast; omega), rootQ_ge hM hD (by push_cast; omega)⟩

theorem to53_rat (mode : Int) (hm : 1 ≤ mode ∧ mode ≤ 6) (neg : Bool) (v : Value) (M D : Nat) (E : Int) (w : World) (h : Val w v neg M D E) {bb : Nat} (hM : M < 2 ^ bb) (hD : D < 2 ^ bb) (hbb : bb ≤ 200000) (hE1 : -200000 ≤ E) (hE2 : E ≤ 200000) (hM0 : 0 < M) (hD0 : 0 < D) :
    Calls Tryz.prog 37 #[v, .agg #[.int .i64 53, .int .i64 (-1074), .int .i64 1023], .int .i64 mode] w (FlQ neg (outG 53 (-1074) 971 neg mode (ratMag M D E)) w) := by
  have hV : ∀ W, Below w.heap.size w W → Val W v neg M D E := fun W hW => by
    obtain ⟨s, t, e, hs, ht⟩ := h
    exact ⟨s, t, e, hs.below (Nat.le_refl _) hW, ht.below (Nat.le_refl _) hW⟩
  obtain ⟨s, t, rfl, hs, ht⟩ := h
  obtain ⟨a, m, c, rfl⟩ := hs.shape
  obtain ⟨a', m', c', rfl⟩ := ht.shape
  have b1 := blen_bd hM
  have b2 := blen_bd hD
  obtain ⟨sz, hsz⟩ : ∃ sz, sz = (blen M : Int) - blen D + E := ⟨_, rfl⟩
  have hask := ask_rat (b := 53) (L := -1074) (by omega) hD0 hsz
  refine to53_walk mode hm neg false a a' m c m' c' E sz (ratMag M D E) w (ratMag_ok hD0) (by omega) (fun W hW => ?_) (fun W e hW h1 h2 h3 => ?_) (fun _ => hask.1) (fun _ => hask.2) (ratMag_half _ _ _)
  · rw [hsz]; exact size_any neg _ M D E W (hV W hW) hM hD (by omega) (by omega) (by omega)
  · exact bes_rat neg _ M D E e W (hV W hW) hM hD (by omega) hD0 (by omega) (by omega) (by omega) (by omega) (by omega)
theorem to53_root (mode : Int) (hm : 1 ≤ mode ∧ mode ≤ 6) (neg : Bool) (a a' : Option Addr) (m c m' c' M D : Nat) (E : Int) (w : World) (hs : Num .u32 4294967296 w (.slice a m c) M) (ht : Num .u32 4294967296 w (.slice a' m' c') D) {bb : Nat} (hM : M < 2 ^ bb) (hD : D < 2 ^ bb) (hb1 : 200 ≤ bb) (hbb : bb ≤ 90000) (hE1 : -90000 ≤ E) (hE2 : E ≤ 90000) (hM0 : 0 < M) (hD0 : 0 < D) :
    Calls Tryz.prog 37 #[.agg #[.bool neg, .slice a m c, .slice a' m' c', .int .i64 E, .bool true], .agg #[.int .i64 53, .int .i64 (-1074), .int .i64 1023], .int .i64 mode] w (FlQ neg (outG 53 (-1074) 971 neg mode (rootMag M D E)) w) := by
  have hS : ∀ W, Below w.heap.size w W → Num .u32 4294967296 W (.slice a m c) M := fun W hW => hs.below (Nat.le_refl _) hW
  have hT : ∀ W, Below w.heap.size w W → Num .u32 4294967296 W (.slice a' m' c') D := fun W hW => ht.below (Nat.le_refl _) hW
  have b1 := blen_bd hM
  have b2 := blen_bd hD
  obtain ⟨sz, hsz⟩ : ∃ sz, sz = Int.tdiv (if (blen M : Int) - blen D + E < 0 then (blen M : Int) - blen D + E - 1 else (blen M : Int) - blen D + E) 2 := ⟨_, rfl⟩
  have hask := ask_root (b := 53) (L := -1074) (by omega) hD0 hsz
  have hszb : -400000 ≤ sz ∧ sz ≤ 400000 := by
    have hn : -300000 ≤ (blen M : Int) - blen D + E ∧ (blen M : Int) - blen D + E ≤ 300000 := by omega
    generalize (blen M : Int) - blen D + E = n at *
    by_cases h : n < 0
    · rw [if_pos h, show n - 1 = -(1 - n) by omega, Int.neg_tdiv, Int.tdiv_eq_ediv_of_nonneg (by omega)] at hsz
      omega
    · rw [if_neg h, Int.tdiv_eq_ediv_of_nonneg (by omega)] at hsz
      omega
  refine to53_walk mode hm neg true a a' m c m' c' E sz (rootMag M D E) w (rootMag_ok hD0) hszb (fun W hW => ?_) (fun W e hW h1 h2 h3 => ?_) (fun _ => hask.1) (fun _ => hask.2) (rootMag_half _ _ _)
  · rw [hsz]; exact size_root neg a a' m c m' c' M D E W (hS W hW) (hT W hW) hM hD (by omega) (by omega) (by omega)
  · refine (beside_root neg a a' m c m' c' M D E e W (hS W hW) (hT W hW) hM hD hb1 (by omega) hD0 (by omega) (by omega) (by omega) (by omega) ?_).mono fun _ _ h => h
    have hd : 0 < D * 2 ^ (2 * e - E).toNat := Nat.mul_pos hD0 (Nat.two_pow_pos _)
    obtain ⟨g1, g2⟩ := rootQ_spec (M * 2 ^ (E - 2 * e).toNat) (D * 2 ^ (2 * e - E).toNat) hd
    have h4 : rootQ (M * 2 ^ (E - 2 * e).toNat) (D * 2 ^ (2 * e - E).toNat) < 1152921504606846976 := h3
    refine Nat.lt_of_lt_of_le g2 (Nat.mul_le_mul_right _ (Nat.mul_le_mul (by omega) (by omega)))
end Go.Proofs.YtapahfoebpiajaaGreatDoor

/- Walks: the document's Of10. -/
namespace Go.Proofs.YtapahfoebpiajaaGreatDoor
open Go.RowKit

theorem num_setRow32 {w : World} {g : Nat} {cs old : Array Value} {t : TypeId} {s : Value} {N : Nat} (h : Num .u32 4294967296 w s N) (hg : w.heap[g]? = some (.cells old t (0, 0))) (hno : ∀ (i : Nat) z, old[i]? ≠ some (.int .u32 z)) :
    Num .u32 4294967296 (w.setRow g cs) s N := by
  obtain ⟨xs, ⟨p, n, cc, rfl, h1, h2, h3, h4, h5⟩, h6, h7⟩ := h
  refine ⟨xs, ⟨p, n, cc, rfl, h1, h2, h3, h4, fun hn => ?_⟩, h6, h7⟩
  obtain ⟨b', o, rfl, hs, hc⟩ := h5 hn
  have hbg : b' ≠ g := by
    rintro rfl
    have := hc 0 hn
    simp [World.cell?, hg] at this
    exact hno _ _ this
  refine ⟨b', o, rfl, by rw [setRow_size]; exact hs, fun i hi => ?_⟩
  rw [← hc i hi]
  exact World.cell?_of_block (setRow_other _ _ _ _ hbg)
theorem no_u32v (n r : Bool) (a a' : Option Addr) (m c m' c' : Nat) (E : Int) : ∀ (i : Nat) z, (#[Value.bool n, Value.slice a m c, Value.slice a' m' c', Value.int .i64 E, Value.bool r] : Array Value)[i]? ≠ some (.int .u32 z) := by
  intro i z
  match i with
  | 0 => simp
  | 1 => simp
  | 2 => simp
  | 3 => simp
  | 4 => simp
  | _ + 5 => simp
/-- A value's row. -/
def DR (W : World) (g : Nat) (neg : Bool) (M D : Nat) (E : Int) (r : Bool) : Prop := ∃ a m c a' m' c', W.heap[g]? = some (.cells #[.bool neg, .slice a m c, .slice a' m' c', .int .i64 E, .bool r] 68 (0, 0)) ∧ Num .u32 4294967296 W (.slice a m c) M ∧ Num .u32 4294967296 W (.slice a' m' c') D
theorem DR.below {W W' : World} {g M D : Nat} {neg r : Bool} {E : Int} (h : DR W g neg M D E r) (hb : Below W.heap.size W W') : DR W' g neg M D E r := by
  obtain ⟨a, m, c, a', m', c', h1, h2, h3⟩ := h
  exact ⟨a, m, c, a', m', c', hb.blk h1 (blk_lt h1), h2.below (Nat.le_refl _) hb, h3.below (Nat.le_refl _) hb⟩
theorem num32_put {w : World} {g k : Nat} {old : Array Value} {t : TypeId} {s x : Value} {N : Nat} (h : Num .u32 4294967296 w s N) (hg : w.heap[g]? = some (.cells old t (0, 0))) (hno : ∀ (i : Nat) z, old[i]? ≠ some (.int .u32 z)) : Num .u32 4294967296 (w.setCell ⟨g, k, none⟩ x) s N := by
  rw [setCell_eq_setRow w g k old t (0, 0) x hg]; exact num_setRow32 h hg hno
theorem DR.putN {W : World} {g M D M' : Nat} {neg r : Bool} {E : Int} {a : Option Addr} {m c : Nat} (h : DR W g neg M D E r) (hn : Num .u32 4294967296 W (.slice a m c) M') : DR (W.setCell ⟨g, 1, none⟩ (.slice a m c)) g neg M' D E r := by
  obtain ⟨a1, m1, c1, a2, m2, c2, h1, h2, h3⟩ := h
  refine ⟨a, m, c, a2, m2, c2, ?_, num32_put hn h1 (no_u32v _ _ _ _ _ _ _ _ _), num32_put h3 h1 (no_u32v _ _ _ _ _ _ _ _ _)⟩
  rw [setCell_eq_setRow W g 1 _ _ (0, 0) _ h1]
  exact setRow_heap W g _ _ _ _ h1
theorem DR.putD {W : World} {g M D D' : Nat} {neg r : Bool} {E : Int} {a : Option Addr} {m c : Nat} (h : DR W g neg M D E r) (hn : Num .u32 4294967296 W (.slice a m c) D') : DR (W.setCell ⟨g, 2, none⟩ (.slice a m c)) g neg M D' E r := by
  obtain ⟨a1, m1, c1, a2, m2, c2, h1, h2, h3⟩ := h
  refine ⟨a1, m1, c1, a, m, c, ?_, num32_put h2 h1 (no_u32v _ _ _ _ _ _ _ _ _), num32_put hn h1 (no_u32v _ _ _ _ _ _ _ _ _)⟩
  rw [setCell_eq_setRow W g 2 _ _ (0, 0) _ h1]
  exact setRow_heap W g _ _ _ _ h1
theorem DR.far {W w : World} {g k g' M D : Nat} {neg r : Bool} {E : Int} {x : Value} {o : Obj} (h : DR W g neg M D E r) (hb : Below w.heap.size w W) (hg : w.heap.size ≤ g) (ho : W.heap[g']? = some o) (hne : g' ≠ g) : Below w.heap.size w (W.setCell ⟨g, k, none⟩ x) ∧ (W.setCell ⟨g, k, none⟩ x).heap[g']? = some o := by
  obtain ⟨a1, m1, c1, a2, m2, c2, h1, h2, h3⟩ := h
  rw [setCell_eq_setRow W g k _ _ (0, 0) _ h1]
  exact ⟨below_setRow hb hg _, (setRow_other W g g' _ hne).trans ho⟩
theorem far_one (a : Dc) : farV a oneD + 1 = (a.s.length : Int) + a.e := by
  unfold farV
  rw [show ((oneD.s.length : Nat) : Int) = 1 from rfl, show oneD.e = 0 from rfl]; omega
theorem qM_one (a : Dc) : qM a oneD = dval a.s * 10 ^ a.e.toNat ∧ qD a oneD = 1 * 10 ^ (-a.e).toNat := by
  unfold qM qD quoM quoD
  rw [show oneD.e = 0 from rfl, Int.sub_zero, oneD_val]
  exact ⟨rfl, rfl⟩

end Go.Proofs.YtapahfoebpiajaaGreatDoor
