import Derived.Test.YtlffojopfilfeaaGreatDoorSAE
import Derived.Test.YtlffojopfilfeaaGreatDoorSAD
import Derived.Test.YtlffojopfilfeaaGreatDoorSAA
import Derived.Test.YtlffojopfilfeaaGreatDoorSMN
import Derived.Test.YtlffojopfilfeaaGreatDoorSQA
import Derived.Deep.QuietTactic
import Derived.BigQuiet
import Derived.Test.YtlffojopfilfeaaGreatDoorSBJ
import Derived.Test.YtlffojopfilfeaaGreatDoorSAT
import Derived.Test.YtlffojopfilfeaaGreatDoorSQS
import Derived.Test.YtlffojopfilfeaaGreatDoorSQV
import Derived.Test.YtlffojopfilfeaaGreatDoorSRR
import Derived.Laws.BitsAllLaws
import Derived.Test.YtlffojopfilfeaaGreatDoorSQW
namespace Go.Proofs.YtlffojopfilfeaaGreatDoor
open Go.RowKit
theorem blen_bd {M bb : Nat} (h : M < 2 ^ bb) : blen M ≤ bb := blen_le h
theorem ask_rat {M D b : Nat} {E sz L : Int} (hM : M ≠ 0) (hD : 0 < D) (hs : sz = (blen M : Int) - blen D + E) : ((ratMag M D E).Q (max L (sz - (b + 3 : Nat))) < 2 ^ (b + 4)) ∧ 2 ^ b ≤ (ratMag M D E).Q (sz - (b + 3 : Nat)) :=
 ⟨toQ_lt hM hD (by push_cast; omega), toQ_ge hM hD (by push_cast; omega)⟩
theorem to53_rat (mode : Int) (hm : 1 ≤ mode ∧ mode ≤ 6) (neg : Bool) (v : Value) (M D : Nat) (E : Int) (w : World) (h : Val w v neg M D E) {bb : Nat} (hM : M < 2 ^ bb) (hD : D < 2 ^ bb) (hbb : bb ≤ 200000) (hE1 : -200000 ≤ E) (hE2 : E ≤ 200000) (hM0 : 0 < M) (hD0 : 0 < D) :
  Calls Tryz.prog 52 #[v, .agg #[.int .i64 53, .int .i64 (-1074), .int .i64 1023], .int .i64 mode] w (FlQ neg (outG 53 (-1074) 971 neg mode (ratMag M D E)) w) := by
 have hV : ∀ W, Below w.heap.size w W → Val W v neg M D E := fun W hW => by
  obtain ⟨s, t, e, hs, ht⟩ := h
  exact ⟨s, t, e, hs.below (Nat.le_refl _) hW, ht.below (Nat.le_refl _) hW⟩
 obtain ⟨s, t, rfl, hs, ht⟩ := h
 obtain ⟨a, m, c, rfl⟩ := hs.shape
 obtain ⟨a', m', c', rfl⟩ := ht.shape
 have b1 := blen_bd hM
 have b2 := blen_bd hD
 obtain ⟨sz, hsz⟩ : ∃ sz, sz = (blen M : Int) - blen D + E := ⟨_, rfl⟩
 have hask := ask_rat (b := 53) (L := -1074) (by omega) hD0 hsz
 refine to53_walk mode hm neg false a a' m c m' c' E sz (ratMag M D E) w (ratMag_ok hD0) (by omega) (fun W hW => ?_) (fun W e hW h1 h2 h3 => ?_) (fun _ => hask.1) (fun _ => hask.2) (ratMag_half _ _ _)
 ·rw [hsz]; exact size_any neg _ M D E W (hV W hW) hM hD (by omega) (by omega) (by omega)
 ·exact bes_rat neg _ M D E e W (hV W hW) hM hD (by omega) hD0 (by omega) (by omega) (by omega) (by omega) (by omega)
theorem num_setRow32 {w : World} {g : Nat} {cs old : Array Value} {t : TypeId} {s : Value} {N : Nat} (h : Num .u32 4294967296 w s N) (hg : w.heap[g]? = some (.cells old t (0, 0))) (hno : ∀ (i : Nat) z, old[i]? ≠ some (.int .u32 z)) :
  Num .u32 4294967296 (w.setRow g cs) s N := by
 obtain ⟨xs, ⟨p, n, cc, rfl, h1, h2, h3, h4, h5⟩, h6, h7⟩ := h
 refine ⟨xs, ⟨p, n, cc, rfl, h1, h2, h3, h4, fun hn => ?_⟩, h6, h7⟩
 obtain ⟨b', o, rfl, hs, hc⟩ := h5 hn
 have hbg : b' ≠ g := by
  rintro rfl
  have := hc 0 hn
  simp [World.cell?, hg] at this
  exact hno _ _ this
 refine ⟨b', o, rfl, by rw [setRow_size]; exact hs, fun i hi => ?_⟩
 rw [← hc i hi]
 exact World.cell?_of_block (setRow_other _ _ _ _ hbg)
def FlR (W : World) (g : Nat) : Prop := ∃ x y z u, W.heap[g]? = some (.cells #[.bool x, .bool y, .int .u64 z, .int .i64 u] 88 (0, 0))
def FgR (W : World) (g : Nat) : Prop := ∃ x y z, W.heap[g]? = some (.cells #[.bool x, .bool y, .bool z] 90 (0, 0))
theorem FlR.below {W W' : World} {g : Nat} (h : FlR W g) (hb : Below W.heap.size W W') : FlR W' g := by obtain ⟨x, y, z, u, h⟩ := h; exact ⟨x, y, z, u, hb.blk h (blk_lt h)⟩
theorem FgR.below {W W' : World} {g : Nat} (h : FgR W g) (hb : Below W.heap.size W W') : FgR W' g := by obtain ⟨x, y, z, h⟩ := h; exact ⟨x, y, z, hb.blk h (blk_lt h)⟩
theorem fl_ne {W : World} {g g' : Nat} (h : FlR W g) (h' : FgR W g') : g' ≠ g := by
 rintro rfl
 obtain ⟨x, y, z, u, h⟩ := h
 obtain ⟨x', y', z', h'⟩ := h'
 rw [h] at h'
 simp at h'
theorem FlR.put {W : World} {g g' : Nat} (h : FlR W g') (hg : FlR W g) (x y : Bool) (z u : Int) : FlR (W.setRow g #[.bool x, .bool y, .int .u64 z, .int .i64 u]) g' := by
 by_cases he : g' = g
 ·subst he
  obtain ⟨_, _, _, _, h⟩ := h
  exact ⟨_, _, _, _, setRow_heap W g' _ _ _ _ h⟩
 ·obtain ⟨a, b, c, d, h⟩ := h
  exact ⟨a, b, c, d, (setRow_other W g g' _ he).trans h⟩
theorem FgR.put {W : World} {g g' : Nat} (h : FgR W g') (hg : FgR W g) (x y z : Bool) : FgR (W.setRow g #[.bool x, .bool y, .bool z]) g' := by
 by_cases he : g' = g
 ·subst he
  obtain ⟨_, _, _, h⟩ := h
  exact ⟨_, _, _, setRow_heap W g' _ _ _ _ h⟩
 ·obtain ⟨a, b, c, h⟩ := h
  exact ⟨a, b, c, (setRow_other W g g' _ he).trans h⟩
theorem FlR.off {W : World} {g g' : Nat} (h : FlR W g') (hg : FgR W g) (cs : Array Value) : FlR (W.setRow g cs) g' := by
 have hne : g' ≠ g := fun e => fl_ne h hg e.symm
 obtain ⟨a, b, c, d, h⟩ := h
 exact ⟨a, b, c, d, (setRow_other W g g' _ hne).trans h⟩
theorem FgR.off {W : World} {g g' : Nat} (h : FgR W g') (hg : FlR W g) (cs : Array Value) : FgR (W.setRow g cs) g' := by
 have hne := fl_ne hg h
 obtain ⟨a, b, c, h⟩ := h
 exact ⟨a, b, c, (setRow_other W g g' _ hne).trans h⟩
theorem FlR.no {x y : Bool} {z u : Int} : ∀ (i : Nat) k, (#[Value.bool x, Value.bool y, Value.int .u64 z, Value.int .i64 u] : Array Value)[i]? ≠ some (.int .u32 k) := by
 intro i k
 match i with
 | 0 => simp
 | 1 => simp
 | 2 => simp
 | 3 => simp
 | _ + 4 => simp
theorem FgR.no {x y z : Bool} : ∀ (i : Nat) k, (#[Value.bool x, Value.bool y, Value.bool z] : Array Value)[i]? ≠ some (.int .u32 k) := by
 intro i k
 match i with
 | 0 => simp
 | 1 => simp
 | 2 => simp
 | _ + 3 => simp
theorem FlR.val {W : World} {g M D : Nat} {v : Value} {n : Bool} {E : Int} (h : FlR W g) (cs : Array Value) (hv : Val W v n M D E) : Val (W.setRow g cs) v n M D E := by
 obtain ⟨x, y, z, u, h⟩ := h
 obtain ⟨s, t, rfl, h1, h2⟩ := hv
 exact ⟨s, t, rfl, num_setRow32 h1 h FlR.no, num_setRow32 h2 h FlR.no⟩
theorem FgR.val {W : World} {g M D : Nat} {v : Value} {n : Bool} {E : Int} (h : FgR W g) (cs : Array Value) (hv : Val W v n M D E) : Val (W.setRow g cs) v n M D E := by
 obtain ⟨x, y, z, h⟩ := h
 obtain ⟨s, t, rfl, h1, h2⟩ := hv
 exact ⟨s, t, rfl, num_setRow32 h1 h FgR.no, num_setRow32 h2 h FgR.no⟩
theorem val_below {W W' : World} {M D : Nat} {v : Value} {n : Bool} {E : Int} (hv : Val W v n M D E) (hb : Below W.heap.size W W') : Val W' v n M D E := by
 obtain ⟨s, t, rfl, h1, h2⟩ := hv
 exact ⟨s, t, rfl, h1.below (Nat.le_refl _) hb, h2.below (Nat.le_refl _) hb⟩
theorem row_keep {W : World} {g g' : Nat} {cs : Array Value} {t : TypeId} (h : W.heap[g']? = some (.cells cs t (0, 0))) : (W.setRow g cs).heap[g']? = some (.cells cs t (0, 0)) := by
 by_cases he : g' = g
 ·subst he; exact setRow_heap W g' _ _ _ _ h
 ·exact (setRow_other W g g' _ he).trans h
end Go.Proofs.YtlffojopfilfeaaGreatDoor
