/- Parts Aw, Bo, Au, Bp, Bq, Bs of the proof, in one text. -/
import Derived.Test.YtgfbcncjboenbaaGreatDoorSAD
import Derived.Test.YtgfbcncjboenbaaGreatDoorSAF
import Derived.Test.YtgfbcncjboenbaaGreatDoorSAA
import Derived.Test.YtgfbcncjboenbaaGreatDoorSMN
import Derived.Test.YtgfbcncjboenbaaGreatDoorSRJ
import Derived.Deep.QuietTactic
import Derived.BigQuiet
import Derived.Test.YtgfbcncjboenbaaGreatDoorSBJ
import Derived.Test.YtgfbcncjboenbaaGreatDoorSAT
import Derived.Test.YtgfbcncjboenbaaGreatDoorSQS
import Derived.Test.YtgfbcncjboenbaaGreatDoorSQV
import Derived.Test.YtgfbcncjboenbaaGreatDoorSRR
import Derived.Test.YtgfbcncjboenbaaGreatDoorSQW
import Derived.Test.YtgfbcncjboenbaaGreatDoorSBM
import Derived.Test.YtgfbcncjboenbaaGreatDoorSBG

/- Walks: the reference's To of a quotient, of a root, any way. -/
namespace Go.Proofs.YtgfbcncjboenbaaGreatDoor
open Go.RowKit

theorem blen_bd {M bb : Nat} (h : M < 2 ^ bb) : blen M ≤ bb := blen_le h
/-- What To asks, of quotients. -/
theorem ask_rat {M D b : Nat} {E sz L : Int} (hM : M ≠ 0) (hD : 0 < D) (hs : sz = (blen M : Int) - blen D + E) : ((ratMag M D E).Q (max L (sz - (b + 3 : Nat))) < 2 ^ (b + 4)) ∧ 2 ^ b ≤ (ratMag M D E).Q (sz - (b + 3 : Nat)) :=
  ⟨toQ_lt hM hD (by push_cast; omega), toQ_ge hM hD (by push_cast; omega)⟩
theorem to24_rat (mode : Int) (hm : 1 ≤ mode ∧ mode ≤ 6) (neg : Bool) (v : Value) (M D : Nat) (E : Int) (w : World) (h : Val w v neg M D E) {bb : Nat} (hM : M < 2 ^ bb) (hD : D < 2 ^ bb) (hbb : bb ≤ 200000) (hE1 : -200000 ≤ E) (hE2 : E ≤ 200000) (hM0 : 0 < M) (hD0 : 0 < D) :
    Calls Tryz.prog 119 #[v, .agg #[.int .i64 24, .int .i64 (-149), .int .i64 127], .int .i64 mode] w (FlQ neg (outG 24 (-149) 104 neg mode (ratMag M D E)) w) := by
  have hV : ∀ W, Below w.heap.size w W → Val W v neg M D E := fun W hW => by
    obtain ⟨s, t, e, hs, ht⟩ := h
    exact ⟨s, t, e, hs.below (Nat.le_refl _) hW, ht.below (Nat.le_refl _) hW⟩
  obtain ⟨s, t, rfl, hs, ht⟩ := h
  obtain ⟨a, m, c, rfl⟩ := hs.shape
  obtain ⟨a', m', c', rfl⟩ := ht.shape
  have b1 := blen_bd hM
  have b2 := blen_bd hD
  obtain ⟨sz, hsz⟩ : ∃ sz, sz = (blen M : Int) - blen D + E := ⟨_, rfl⟩
  have hask := ask_rat (b := 24) (L := -149) (by omega) hD0 hsz
  refine to24_walk mode hm neg false a a' m c m' c' E sz (ratMag M D E) w (ratMag_ok hD0) (by omega) (fun W hW => ?_) (fun W e hW h1 h2 h3 => ?_) (fun _ => hask.1) (fun _ => hask.2) (ratMag_half _ _ _)
  · rw [hsz]; exact size_any neg _ M D E W (hV W hW) hM hD (by omega) (by omega) (by omega)
  · exact bes_rat neg _ M D E e W (hV W hW) hM hD (by omega) hD0 (by omega) (by omega) (by omega) (by omega) (by omega)
end Go.Proofs.YtgfbcncjboenbaaGreatDoor

/- Walks: the document's Of10. -/
namespace Go.Proofs.YtgfbcncjboenbaaGreatDoor
open Go.RowKit

theorem num_setRow32 {w : World} {g : Nat} {cs old : Array Value} {t : TypeId} {s : Value} {N : Nat} (h : Num .u32 4294967296 w s N) (hg : w.heap[g]? = some (.cells old t (0, 0))) (hno : ∀ (i : Nat) z, old[i]? ≠ some (.int .u32 z)) :
    Num .u32 4294967296 (w.setRow g cs) s N := by
  obtain ⟨xs, ⟨p, n, cc, rfl, h1, h2, h3, h4, h5⟩, h6, h7⟩ := h
  refine ⟨xs, ⟨p, n, cc, rfl, h1, h2, h3, h4, fun hn => ?_⟩, h6, h7⟩
  obtain ⟨b', o, rfl, hs, hc⟩ := h5 hn
  have hbg : b' ≠ g := by
    rintro rfl
    have := hc 0 hn
    simp [World.cell?, hg] at this
    exact hno _ _ this
  refine ⟨b', o, rfl, by rw [setRow_size]; exact hs, fun i hi => ?_⟩
  rw [← hc i hi]
  exact World.cell?_of_block (setRow_other _ _ _ _ hbg)
/-- A value's row. -/
def DR (W : World) (g : Nat) (neg : Bool) (M D : Nat) (E : Int) (r : Bool) : Prop := ∃ a m c a' m' c', W.heap[g]? = some (.cells #[.bool neg, .slice a m c, .slice a' m' c', .int .i64 E, .bool r] 176 (0, 0)) ∧ Num .u32 4294967296 W (.slice a m c) M ∧ Num .u32 4294967296 W (.slice a' m' c') D
theorem DR.below {W W' : World} {g M D : Nat} {neg r : Bool} {E : Int} (h : DR W g neg M D E r) (hb : Below W.heap.size W W') : DR W' g neg M D E r := by
  obtain ⟨a, m, c, a', m', c', h1, h2, h3⟩ := h
  exact ⟨a, m, c, a', m', c', hb.blk h1 (blk_lt h1), h2.below (Nat.le_refl _) hb, h3.below (Nat.le_refl _) hb⟩
theorem DR.far {W w : World} {g k g' M D : Nat} {neg r : Bool} {E : Int} {x : Value} {o : Obj} (h : DR W g neg M D E r) (hb : Below w.heap.size w W) (hg : w.heap.size ≤ g) (ho : W.heap[g']? = some o) (hne : g' ≠ g) : Below w.heap.size w (W.setCell ⟨g, k, none⟩ x) ∧ (W.setCell ⟨g, k, none⟩ x).heap[g']? = some o := by
  obtain ⟨a1, m1, c1, a2, m2, c2, h1, h2, h3⟩ := h
  rw [setCell_eq_setRow W g k _ _ (0, 0) _ h1]
  exact ⟨below_setRow hb hg _, (setRow_other W g g' _ hne).trans ho⟩
end Go.Proofs.YtgfbcncjboenbaaGreatDoor

/- Walks: the document's Valid, mode, the kind of singles, the bits of a float. -/
namespace Go.Proofs.YtgfbcncjboenbaaGreatDoor
open Go.RowKit
open Go.Lib hiding intOf

theorem thirty_any (w : World) : Calls Tryz.prog 113 #[] w fun e w' => e = .returned (.agg #[.int .i64 24, .int .i64 (-149), .int .i64 127]) ∧ Below w.heap.size w w' := by
  go_enter Tryz.func113, Tryz.ntmps113
  go_wp2
  exact bodyPost_ret (kind_row rfl _ _ w.heap.size _ _ _ rfl (heap_alloc_new _ _)) rfl ⟨rfl, (Below.refl _ _).alloc (Nat.le_refl _) _⟩

end Go.Proofs.YtgfbcncjboenbaaGreatDoor

/- Walks: the document's To64, To32. -/
namespace Go.Proofs.YtgfbcncjboenbaaGreatDoor
open Go.RowKit

/-- What the document tells. -/
def RefQ (k : IntKind) (r : RA) (w : World) (e : Ending) (w' : World) : Prop := e = .returned (.tuple #[.int k (r.bits : Nat), .agg #[.bool r.ine, .bool r.ov, .bool r.un], .int .i64 r.err]) ∧ Below w.heap.size w w'
theorem ref_end {fn : Func} {p u q : Tmp} (hf : fn.results = #[.tmp p, .cell u 35, .tmp q]) {tmps : Array Value} {w0 w : World} {g0 : Nat} {x y : Int} {k : IntKind} {a b c : Bool} {r : RA}
    (hp : tmps.getD p undef = .int k x) (hq : tmps.getD q undef = .int .i64 y) (hu : tmps.getD u undef = .pointer (some ⟨g0, 0, none⟩))
    (hg : w.heap[g0]? = some (.cells #[.bool a, .bool b, .bool c] 35 (0, 0))) (hb : Below w0.heap.size w0 w) (hr : x = (r.bits : Nat) ∧ a = r.ine ∧ b = r.ov ∧ c = r.un ∧ y = r.err) : bodyPost Tryz.prog fn (RefQ k r w0) .ret ⟨tmps, []⟩ w := by
  obtain ⟨rfl, rfl, rfl, rfl, rfl⟩ := hr
  have hu' : tmps[u]?.getD undef = .pointer (some ⟨g0, 0, none⟩) := by simpa using hu
  refine bodyPost_ret (v := .tuple #[tmps.getD p undef, .agg #[.bool r.ine, .bool r.ov, .bool r.un], tmps.getD q undef]) ?_ rfl ⟨?_, hb⟩
  · rw [results_tct hf]
    simp [hu', asAddr, run_loadVar_row (P := Tryz.prog) w g0 _ 35 #[.bool r.ine, .bool r.ov, .bool r.un] (0, 0) _ hg Tryz.underlying35 rfl (by kernel_rfl), Result.andThen]
  · show _ = Ending.returned (.tuple #[_, _, _])
    rw [hp, hq]
end Go.Proofs.YtgfbcncjboenbaaGreatDoor

/- Walks: the document's Ratio. -/
namespace Go.Proofs.YtgfbcncjboenbaaGreatDoor
open Go.RowKit

/-- A row of a float; of flags. -/
def FlR (W : World) (g : Nat) : Prop := ∃ x y z u, W.heap[g]? = some (.cells #[.bool x, .bool y, .int .u64 z, .int .i64 u] 160 (0, 0))
def FgR (W : World) (g : Nat) : Prop := ∃ x y z, W.heap[g]? = some (.cells #[.bool x, .bool y, .bool z] 35 (0, 0))
theorem FlR.below {W W' : World} {g : Nat} (h : FlR W g) (hb : Below W.heap.size W W') : FlR W' g := by obtain ⟨x, y, z, u, h⟩ := h; exact ⟨x, y, z, u, hb.blk h (blk_lt h)⟩
theorem FgR.below {W W' : World} {g : Nat} (h : FgR W g) (hb : Below W.heap.size W W') : FgR W' g := by obtain ⟨x, y, z, h⟩ := h; exact ⟨x, y, z, hb.blk h (blk_lt h)⟩
theorem fl_ne {W : World} {g g' : Nat} (h : FlR W g) (h' : FgR W g') : g' ≠ g := by
  rintro rfl
  obtain ⟨x, y, z, u, h⟩ := h
  obtain ⟨x', y', z', h'⟩ := h'
  rw [h] at h'
  simp at h'
theorem FlR.put {W : World} {g g' : Nat} (h : FlR W g') (hg : FlR W g) (x y : Bool) (z u : Int) : FlR (W.setRow g #[.bool x, .bool y, .int .u64 z, .int .i64 u]) g' := by
  by_cases he : g' = g
  · subst he
    obtain ⟨_, _, _, _, h⟩ := h
    exact ⟨_, _, _, _, setRow_heap W g' _ _ _ _ h⟩
  · obtain ⟨a, b, c, d, h⟩ := h
    exact ⟨a, b, c, d, (setRow_other W g g' _ he).trans h⟩
theorem FgR.put {W : World} {g g' : Nat} (h : FgR W g') (hg : FgR W g) (x y z : Bool) : FgR (W.setRow g #[.bool x, .bool y, .bool z]) g' := by
  by_cases he : g' = g
  · subst he
    obtain ⟨_, _, _, h⟩ := h
    exact ⟨_, _, _, setRow_heap W g' _ _ _ _ h⟩
  · obtain ⟨a, b, c, h⟩ := h
    exact ⟨a, b, c, (setRow_other W g g' _ he).trans h⟩
theorem FlR.off {W : World} {g g' : Nat} (h : FlR W g') (hg : FgR W g) (cs : Array Value) : FlR (W.setRow g cs) g' := by
  have hne : g' ≠ g := fun e => fl_ne h hg e.symm
  obtain ⟨a, b, c, d, h⟩ := h
  exact ⟨a, b, c, d, (setRow_other W g g' _ hne).trans h⟩
theorem FgR.off {W : World} {g g' : Nat} (h : FgR W g') (hg : FlR W g) (cs : Array Value) : FgR (W.setRow g cs) g' := by
  have hne := fl_ne hg h
  obtain ⟨a, b, c, h⟩ := h
  exact ⟨a, b, c, (setRow_other W g g' _ hne).trans h⟩
theorem FlR.no {x y : Bool} {z u : Int} : ∀ (i : Nat) k, (#[Value.bool x, Value.bool y, Value.int .u64 z, Value.int .i64 u] : Array Value)[i]? ≠ some (.int .u32 k) := by
  intro i k
  match i with
  | 0 => simp
  | 1 => simp
  | 2 => simp
  | 3 => simp
  | _ + 4 => simp
theorem FgR.no {x y z : Bool} : ∀ (i : Nat) k, (#[Value.bool x, Value.bool y, Value.bool z] : Array Value)[i]? ≠ some (.int .u32 k) := by
  intro i k
  match i with
  | 0 => simp
  | 1 => simp
  | 2 => simp
  | _ + 3 => simp
theorem FlR.val {W : World} {g M D : Nat} {v : Value} {n : Bool} {E : Int} (h : FlR W g) (cs : Array Value) (hv : Val W v n M D E) : Val (W.setRow g cs) v n M D E := by
  obtain ⟨x, y, z, u, h⟩ := h
  obtain ⟨s, t, rfl, h1, h2⟩ := hv
  exact ⟨s, t, rfl, num_setRow32 h1 h FlR.no, num_setRow32 h2 h FlR.no⟩
theorem FgR.val {W : World} {g M D : Nat} {v : Value} {n : Bool} {E : Int} (h : FgR W g) (cs : Array Value) (hv : Val W v n M D E) : Val (W.setRow g cs) v n M D E := by
  obtain ⟨x, y, z, h⟩ := h
  obtain ⟨s, t, rfl, h1, h2⟩ := hv
  exact ⟨s, t, rfl, num_setRow32 h1 h FgR.no, num_setRow32 h2 h FgR.no⟩
end Go.Proofs.YtgfbcncjboenbaaGreatDoor

/- Walks: awake, is. -/
namespace Go.Proofs.YtgfbcncjboenbaaGreatDoor
open Go.RowKit

theorem flag_cells {w : World} {g : Nat} {a b c : Bool} (h : w.heap[g]? = some (.cells #[.bool a, .bool b, .bool c] 35 (0, 0))) : w.cell? ⟨g, 0, none⟩ = some (.bool a) ∧ w.cell? ⟨g, 1, none⟩ = some (.bool b) ∧ w.cell? ⟨g, 2, none⟩ = some (.bool c) :=
  ⟨cell_of_row w g 0 _ _ _ h, cell_of_row w g 1 _ _ _ h, cell_of_row w g 2 _ _ _ h⟩
end Go.Proofs.YtgfbcncjboenbaaGreatDoor
