import Derived.Test.YtlbokicainimnaaGreatDoorPTB
import Derived.Test.YtlbokicainimnaaGreatDoorPWN
import Derived.Test.YtlbokicainimnaaGreatDoorPQG
import Derived.Test.YtlbokicainimnaaGreatDoorPQI
import Derived.Lib.LaidTab
set_option maxRecDepth 100000
namespace Go.Proofs.YtlbokicainimnaaGreatDoor
open Go.RowKit
def RowN (W : World) (B : Nat) (t : Value) (g : Nat) (ty : TypeId) (done : Prop) (fin : Array Value) : Prop :=
 RowD W B t g ty done fin ∧ ∀ fs t fr, W.heap[g]? = some (.cells fs t fr) → ∀ (i : Nat) z, fs[i]? ≠ some (.int .u64 z)
theorem RowN.old {W W' : World} {B g : Nat} {t : Value} {ty : TypeId} {done done' : Prop} {fin : Array Value} (h : RowN W B t g ty done fin) (hW : W'.heap[g]? = W.heap[g]?) (hd : done' → done) : RowN W' B t g ty done' fin :=
 ⟨h.1.old hW hd, fun fs t fr hg => h.2 fs t fr (hW.symm.trans hg)⟩
theorem RowN.thru {W W' : World} {B g : Nat} {t : Value} {ty : TypeId} {done done' : Prop} {fin : Array Value} (h : RowN W B t g ty done fin) (hb : Below W.heap.size W W') (hd : done' → done) : RowN W' B t g ty done' fin :=
 h.old (hb.block g h.1.2.2.1) hd
theorem RowN.alloc {W : World} {B g : Nat} {t : Value} {ty : TypeId} {done done' : Prop} {fin : Array Value} (h : RowN W B t g ty done fin) (o : Obj) (hd : done' → done) : RowN (W.alloc o) B t g ty done' fin :=
 h.old (heap_alloc_old W o h.1.2.2.1) hd
theorem RowN.new {W : World} {B : Nat} {ty : TypeId} {done : Prop} {fs fin : Array Value} (hB : B ≤ W.heap.size) (hs : fs.size = fin.size) (hd : ¬ done) (hno : ∀ (i : Nat) z, fs[i]? ≠ some (.int .u64 z)) : RowN (W.alloc (.cells fs ty (0, 0))) B (.pointer (some ⟨W.heap.size, 0, none⟩)) W.heap.size ty done fin :=
 ⟨RowD.new hB hs hd, fun fs' t fr hg => by rw [heap_alloc_new] at hg; cases hg; exact hno⟩
theorem RowN.turn {W : World} {B g : Nat} {t : Value} {ty : TypeId} {done done' : Prop} {fin fin' : Array Value} (h : RowN W B t g ty done fin) (hs : fin.size = fin'.size) (hd : ¬ done') : RowN W B t g ty done' fin' := ⟨h.1.turn hs hd, h.2⟩
theorem RowN.store {W : World} {B g : Nat} {t : Value} {ty : TypeId} {done done' : Prop} {fin : Array Value} (h : RowN W B t g ty done fin) (hno : ∀ (i : Nat) z, fin[i]? ≠ some (.int .u64 z)) : RowN (W.setRow g fin) B t g ty done' fin := by
 refine ⟨h.1.store, fun fs' t fr hg => ?_⟩
 obtain ⟨h1, h2, h3, fs, h4, h5, h6⟩ := h.1
 rw [setRow_heap W g fs fin ty (0, 0) h4] at hg
 cases hg; exact hno
theorem RowN.other {W : World} {B g g' : Nat} {t : Value} {ty : TypeId} {done done' : Prop} {fin : Array Value} (h : RowN W B t g ty done fin) (hne : g ≠ g') (cs : Array Value) (hd : done' → done) : RowN (W.setRow g' cs) B t g ty done' fin :=
 h.old (setRow_other W g' g cs hne) hd
theorem Num.row_store {W : World} {B g : Nat} {t : Value} {ty : TypeId} {done : Prop} {fin : Array Value} {s : Value} {N Z : Nat} (h : Num .u64 Z W s N) (r : RowN W B t g ty done fin) (cs : Array Value) : Num .u64 Z (W.setRow g cs) s N := by
 obtain ⟨xs, ⟨p, n, cc, rfl, h1, h2, h3, h4, h5⟩, h6, h7⟩ := h
 obtain ⟨⟨-, -, -, fs, r4, r5, r6⟩, r7⟩ := r
 refine ⟨xs, ⟨p, n, cc, rfl, h1, h2, h3, h4, fun hn => ?_⟩, h6, h7⟩
 obtain ⟨b', o, rfl, hs, hc⟩ := h5 hn
 have hbg : b' ≠ g := by
  rintro rfl
  have := hc 0 hn
  rw [cell_of_row _ _ _ _ _ _ r4] at this
  exact r7 _ _ _ r4 _ _ this
 refine ⟨b', o, rfl, by simpa [World.setRow] using hs, fun i hi => ?_⟩
 rw [← hc i hi]
 exact World.cell?_of_block (setRow_other W g b' cs hbg)
theorem no_word2 (x : Bool) (a : Option Addr) (n c : Nat) (i : Nat) (z : Int) : (#[Value.bool x, Value.slice a n c] : Array Value)[i]? ≠ some (.int .u64 z) := by
 match i with
 | 0 => simp
 | 1 => simp
 | i + 2 => simp
set_option maxHeartbeats 2000000 in
theorem tnearest_any (s : Value) (N : Nat) (e : Int) (under : Bool) (w : World) (h : Num .u64 18446744073709551616 w s N) (hN0 : 0 < N) {bb : Nat} (hN : N < 2 ^ bb) (hbb1 : 1 ≤ bb) (hbb : bb ≤ 100000) (he1 : -100000 ≤ e) (he2 : e ≤ 100000) {R : Nat}
  (hR : Near 52 ((if under then 1 else N) * 2^e.toNat * 2^LP) ((if under then N else 1) * 2^(-e).toNat) R) :
  Calls Tryz.prog 100 #[.agg #[.bool false, s], .int .i64 e, .bool under] w fun e w' => e = .returned (.float .f64 (min R 9218868437227405312)) ∧ Below w.heap.size w w' := by
 obtain ⟨a, m, c, rfl⟩ := h.shape
 have HN : Hid (Num .u64 18446744073709551616 w (.slice a m c) N) := h
 go_enter Tryz.func100, Tryz.ntmps100
 go_upto_region 1 with fail
 have hb0 : Below w.heap.size w (w.alloc (.cells #[.bool false, .slice a m c] 123)) := (Below.refl _ _).alloc (Nat.le_refl _) _
 have q0 := heap_alloc_new w (.cells #[.bool false, .slice a m c] 123)
 have hs1 : (w.alloc (.cells #[.bool false, .slice a m c] 123)).heap.size = w.heap.size + 1 := by simp
 generalize w.alloc (.cells #[.bool false, .slice a m c] 123) = w1 at *
 refine wp_region_inv (fun l ac W => ∃ t7 t8 t9 t10 : Value, ∃ gA gB : Nat, ∃ (x : Option Addr) (y z : Nat),
  ac = { tmps := #[.agg #[.bool false, .slice a m c], .int .i64 e, .bool under, .pointer (some ⟨w.heap.size, 0, none⟩), undef, undef, .float .f64 0, t7, t8, t9, t10, undef, undef, undef, undef, undef, undef, undef, undef, undef, undef, undef, undef, undef, undef, undef, undef], defers := [] } ∧
  Below w1.heap.size w1 W ∧ (Did l 1 → Num .u64 18446744073709551616 W (.slice x y z) 1) ∧
  (Did l 0 → t9 = .agg #[.bool false, .slice a m c]) ∧ (Did l 1 → t10 = .agg #[.bool false, .slice x y z]) ∧
  (Did l 2 → RowN W w1.heap.size t7 gA 123 (Did l 4) #[.bool false, .slice a m c]) ∧
  (Did l 3 → RowN W w1.heap.size t8 gB 123 (Did l 5) #[.bool false, .slice x y z]) ∧ (Did l 2 → Did l 3 → gA ≠ gB)) (by kernel_rfl) (by kernel_rfl) 6 (by kernel_rfl) ?_ ?_ ?_
 ·intro l hl
  refine ⟨undef, undef, undef, undef, 0, 0, none, 0, 0, rfl, (Below.refl _ _).drew, ?_⟩
  exact ⟨fun h => absurd h (hl _), fun h => absurd h (hl _), fun h => absurd h (hl _), fun h => absurd h (hl _), fun h => absurd h (hl _), fun h => absurd h (hl _)⟩
 ·refine ⟨⟨⟨⟨⟨⟨trivial, ?_⟩, ?_⟩, ?_⟩, ?_⟩, ?_⟩, ?_⟩
  all_goals
   rintro l ac W hi ⟨t7, t8, t9, t10, gA, gB, x, y, z, rfl, hb, fn, f0, f1, f2, f3, f23⟩ hn hd hs
  ·have q := hb.blk q0 (by omega)
   refine wpOp_step rfl fun K hK => step_plain rfl (wp_load_row 123 (.tmp 3) rfl w.heap.size rfl _ _ _ _ q Tryz.underlying123 rfl (by kernel_rfl) (hK _ _ ?_))
   exact ⟨t7, t8, _, t10, gA, gB, x, y, z, rfl, hb, fun h => fn (h.old hi), fun _ => rfl, fun h => f1 (h.old hi),
    fun h => (f2 (h.old hi)).old rfl (fun h => h.old hi), fun h => (f3 (h.old hi)).old rfl (fun h => h.old hi), fun h h' => f23 (h.old hi) (h'.old hi)⟩
  ·refine wpOp_step rfl fun K hK => ?_
   go_simp
   go_at_call 103
   refine (word_any 1 _ (by decide)).mono ?_
   rintro e w' ⟨v, rfl, ⟨s', rfl, hx, -⟩, hb'⟩
   obtain ⟨x', y', z', rfl⟩ := hx.shape
   refine hK _ _ ?_
   have n5 : ¬ Did l 5 := fun h => hn (hs 5 1 (by kernel_rfl) h)
   exact ⟨t7, t8, t9, _, gA, gB, x', y', z', rfl, hb.thru hb', fun _ => hx, fun h => f0 (h.old hi), fun _ => rfl,
    fun h => (f2 (h.old hi)).thru hb' (fun h => h.old hi), fun h => ((f3 (h.old hi)).thru hb' id).turn rfl (fun h => n5 (h.old hi)), fun h h' => f23 (h.old hi) (h'.old hi)⟩
  ·refine wpOp_step rfl fun K hK => ?_
   go_simp
   refine hK _ _ ?_
   have n4 : ¬ Did l 4 := fun h => hn (hs 4 2 (by kernel_rfl) h)
   exact ⟨_, t8, t9, t10, W.heap.size, gB, x, y, z, rfl, hb.alloc hb.size _, fun h => (fn (h.old hi)).below (Nat.le_refl _) ((Below.refl _ _).alloc (Nat.le_refl _) _), fun h => f0 (h.old hi), fun h => f1 (h.old hi),
    fun _ => RowN.new hb.size rfl (fun h => n4 (h.old hi)) (no_word2 _ _ _ _), fun h => (f3 (h.old hi)).alloc _ (fun h => h.old hi), fun _ h' => by have := (f3 (h'.old hi)).1.2.2.1; omega⟩
  ·refine wpOp_step rfl fun K hK => ?_
   go_simp
   refine hK _ _ ?_
   have n5 : ¬ Did l 5 := fun h => hn (hs 5 3 (by kernel_rfl) h)
   exact ⟨t7, _, t9, t10, gA, W.heap.size, x, y, z, rfl, hb.alloc hb.size _, fun h => (fn (h.old hi)).below (Nat.le_refl _) ((Below.refl _ _).alloc (Nat.le_refl _) _), fun h => f0 (h.old hi), fun h => f1 (h.old hi),
    fun h => (f2 (h.old hi)).alloc _ (fun h => h.old hi), fun _ => RowN.new hb.size rfl (fun h => n5 (h.old hi)) (no_word2 _ _ _ _), fun h _ => by have := (f2 (h.old hi)).1.2.2.1; omega⟩
  ·obtain rfl := f0 (hd 0 (by kernel_rfl))
   have r := f2 (hd 2 (by kernel_rfl))
   obtain ⟨⟨rfl, r2, r3, fs, r4, r5, r6⟩, -⟩ := f2 (hd 2 (by kernel_rfl))
   refine wpOp_step rfl fun K hK => step_plain rfl (wp_store_row 123 (.tmp 7) (.tmp 9) rfl gA #[.bool false, .slice a m c] rfl rfl _ _ r4 (by kernel_rfl) r5 (by simp [Value.oneCell']) (hK _ _ ?_))
   exact ⟨_, t8, _, t10, gA, gB, x, y, z, rfl, below_setRow hb r2 _, fun h => (fn (h.old hi)).row_store r _, fun h => f0 (h.old hi), fun h => f1 (h.old hi),
    fun _ => r.store (no_word2 _ _ _ _), fun h => (f3 (h.old hi)).other (f23 (hd 2 (by kernel_rfl)) (h.old hi)).symm _ (fun h => h.old hi), fun h h' => f23 (h.old hi) (h'.old hi)⟩
  ·obtain rfl := f1 (hd 1 (by kernel_rfl))
   have r := f3 (hd 3 (by kernel_rfl))
   obtain ⟨⟨rfl, r2, r3, fs, r4, r5, r6⟩, -⟩ := f3 (hd 3 (by kernel_rfl))
   refine wpOp_step rfl fun K hK => step_plain rfl (wp_store_row 123 (.tmp 8) (.tmp 10) rfl gB #[.bool false, .slice x y z] rfl rfl _ _ r4 (by kernel_rfl) r5 (by simp [Value.oneCell']) (hK _ _ ?_))
   exact ⟨t7, _, t9, _, gA, gB, x, y, z, rfl, below_setRow hb r2 _, fun h => (fn (h.old hi)).row_store r _, fun h => f0 (h.old hi), fun h => f1 (h.old hi),
    fun h => (f2 (h.old hi)).other (f23 (h.old hi) (hd 3 (by kernel_rfl))) _ (fun h => h.old hi), fun _ => r.store (no_word2 _ _ _ _), fun h h' => f23 (h.old hi) (h'.old hi)⟩
 ·rintro l ac W hall ⟨t7, t8, t9, t10, gA, gB, x, y, z, rfl, hb, fn, f0, f1, f2, f3, f23⟩
  have hx := fn (hall 1 (by decide))
  obtain rfl := f0 (hall 0 (by decide))
  obtain rfl := f1 (hall 1 (by decide))
  have hne := f23 (hall 2 (by decide)) (hall 3 (by decide))
  obtain ⟨⟨rfl, r2, r3, fs, r4, r5, r6⟩, -⟩ := f2 (hall 2 (by decide))
  obtain rfl := r6 (hall 4 (by decide))
  obtain ⟨⟨rfl, s2, s3, fs', s4, s5, s6⟩, -⟩ := f3 (hall 3 (by decide))
  obtain rfl := s6 (hall 5 (by decide))
  have HBW : Hid (Below w.heap.size w W) := hb0.trans (hb.mono (by omega))
  have HX : Hid (Num .u64 18446744073709551616 W (.slice x y z) 1) := hx
  have HY : Hid (Num .u64 18446744073709551616 W (.slice a m c) N) := HN.out.below (Nat.le_refl _) HBW.out
  clear f0 f1 f2 f3 f23 hall r5 r6 s5 s6 hb hb0 q0 hx fn h
  obtain ⟨N1, hN1⟩ : ∃ N1, N1 = if under then 1 else N := ⟨_, rfl⟩
  obtain ⟨N2, hN2⟩ : ∃ N2, N2 = if under then N else 1 := ⟨_, rfl⟩
  rw [← hN1, ← hN2] at hR
  have HP : Hid ((0 < N1 ∧ N1 < 2^bb) ∧ (0 < N2 ∧ N2 < 2^bb)) := by
   have h1 : 1 < 2^bb := Nat.one_lt_two_pow (by omega)
   show _ ∧ _
   rw [hN1, hN2]
   cases under
   ·exact ⟨⟨hN0, hN⟩, Nat.one_pos, h1⟩
   ·exact ⟨⟨Nat.one_pos, h1⟩, hN0, hN⟩
  have HE : Hid (N1 = (if under then 1 else N) ∧ N2 = if under then N else 1) := ⟨hN1, hN2⟩
  have HRR : Hid (Near 52 (N1 * 2^e.toNat * 2^LP) (N2 * 2^(-e).toNat) R) := hR
  clear hN1 hN2 hN hN0 hR
  obtain ⟨x1, x2, x3, x4, x5, x6⟩ := row2 r4
  obtain ⟨y1, y2, y3, y4, y5, y6⟩ := row2 s4
  have R4 : Hid _ := r4
  have S4 : Hid _ := s4
  clear r4 s4
  go_upto_if 11 with fail
  go_cut [] (fun wx => ∃ (a' x' : Option Addr) (m' c' y' z' : Nat), wx.heap[gA]? = some (.cells #[.bool false, .slice a' m' c'] 123 (0, 0)) ∧ wx.heap[gB]? = some (.cells #[.bool false, .slice x' y' z'] 123 (0, 0)) ∧
   Num .u64 18446744073709551616 wx (.slice a' m' c') N1 ∧ Num .u64 18446744073709551616 wx (.slice x' y' z') N2 ∧ Below w.heap.size w wx)
  case first => as_aux_lemma =>
   cases under
   ·go_wp2
    go_meet
    exact ⟨a, x, m, c, y, z, R4.out, S4.out, by rw [HE.out.1]; exact HY.out, by rw [HE.out.2]; exact HX.out, HBW.out⟩
   ·go_wp2
    go_meet
    have hS := row2_other S4.out hne.symm (.bool false) (.slice x y z)
    exact ⟨x, a, y, z, m, c, row2_other (row2_set R4.out _ _) hne _ _, row2_set hS _ _, by rw [HE.out.1]; exact (HX.out.row R4.out _ _).row hS _ _, by rw [HE.out.2]; exact (HY.out.row R4.out _ _).row hS _ _, below_row (below_row HBW.out (by omega) _ _) (by omega) _ _⟩
  case rest =>
  obtain ⟨a', x', m', c', y', z', r4, s4, h1, h2, hbw⟩ := hcut
  have hA : gA < wc.heap.size := (Array.getElem?_eq_some_iff.mp r4).1
  have hB : gB < wc.heap.size := (Array.getElem?_eq_some_iff.mp s4).1
  have HC : Hid (∀ W', Below wc.heap.size wc W' → Below wc.heap.size wc W' ∧ (W'.cell? ⟨gA, 0, none⟩ = some (.bool false) ∧ W'.cell? ⟨gA, 1, none⟩ = some (.slice a' m' c')) ∧ (W'.cell? ⟨gB, 0, none⟩ = some (.bool false) ∧ W'.cell? ⟨gB, 1, none⟩ = some (.slice x' y' z'))) := fun W' hW => by
   have q1 := hW.blk r4 hA
   have q2 := hW.blk s4 hB
   exact ⟨hW, ⟨cell_of_row W' gA 0 _ _ _ q1, cell_of_row W' gA 1 _ _ _ q1⟩, cell_of_row W' gB 0 _ _ _ q2, cell_of_row W' gB 1 _ _ _ q2⟩
  have HBC : Hid (Below w.heap.size w wc) := hbw
  have HNA : Hid (∀ W', Below wc.heap.size wc W' → Num .u64 18446744073709551616 W' (.slice a' m' c') N1) := fun W' hW => h1.below (Nat.le_refl _) hW
  have HNB : Hid (∀ W', Below wc.heap.size wc W' → Num .u64 18446744073709551616 W' (.slice x' y' z') N2) := fun W' hW => h2.below (Nat.le_refl _) hW
  obtain ⟨K, hK⟩ : ∃ K : Nat, K = 100000 := ⟨_, rfl⟩
  have hbig : ∀ X k, X < 2^bb → k ≤ K → X * 2^k < 2^(bb + K) := fun X k hX hk => by
   rw [Nat.pow_add]
   exact Nat.mul_lt_mul_of_lt_of_le hX (Nat.pow_le_pow_right (by decide) hk) (Nat.two_pow_pos _)
  have hsm : ∀ X, X < 2^bb → X < 2^(bb + K) := fun X hX => Nat.lt_of_lt_of_le hX (Nat.pow_le_pow_right (by decide) (by omega))
  obtain ⟨⟨p1, p2⟩, p3, p4⟩ := HP.out
  have hbs : Below wc.heap.size wc wc := Below.refl _ _
  clear x1 x2 x3 x4 x5 x6 y1 y2 y3 y4 y5 y6 R4 S4 r4 s4 h1 h2 hbw hA hB HX HY HE HBW HN hne r2 r3 s2 s3 HP
  by_cases hneg : e < 0
  ·obtain ⟨k, hk⟩ : ∃ k : Nat, -e = k := ⟨(-e).toNat, by omega⟩
   have hkk : -e = ((64 * (k / 64) + k % 64 : Nat) : Int) := by omega
   have hkq : 64 * (k / 64) + k % 64 = k := by omega
   have i1 : IntKind.i64.wrap (-e) = -e := IntWalk.i64_in _ (by omega)
   have hr := HRR.out
   rw [show e.toNat = 0 by omega, show (-e).toNat = k by omega, Nat.pow_zero, Nat.mul_one] at hr
   have HL : Hid (∀ W', Below wc.heap.size wc W' → Calls Tryz.prog 104 #[.agg #[.bool false, .slice x' y' z'], .int .i64 (-e)] W' (WideQ false (N2 * 2^k) W')) := fun W' hW => by
    have := left_any false _ N2 (k / 64) (k % 64) (-e) W' (HNB.out W' hW) hkk (Nat.mod_lt _ (by decide)) (by omega) p4 (by omega)
    rwa [hkq] at this
   have HQ : Hid (∀ W' s', Below wc.heap.size wc W' → Num .u64 18446744073709551616 W' s' (N2 * 2^k) → Calls Tryz.prog 146 #[.agg #[.bool false, .slice a' m' c'], .agg #[.bool false, s']] W' fun e w' => e = .returned (.float .f64 (min R 9218868437227405312)) ∧ Below W'.heap.size W' w') := fun W' s' hW hs =>
    wratio_any _ s' N1 (N2 * 2^k) R W' (HNA.out W' hW) hs (by omega) (Nat.mul_pos p3 (Nat.two_pow_pos _)) (hsm _ p2) (hbig _ _ p4 (by omega)) (by omega) hr
   generalize N2 * 2^k = D at *
   clear hr hkk hkq p1 p2 p3 p4 hbig hsm HRR HNA HNB hk
   go_upto_region 5 with fail
   go_region_held3 (fun W' => Below wc.heap.size wc W' ∧ (W'.cell? ⟨gA, 0, none⟩ = some (.bool false) ∧ W'.cell? ⟨gA, 1, none⟩ = some (.slice a' m' c')) ∧ (W'.cell? ⟨gB, 0, none⟩ = some (.bool false) ∧ W'.cell? ⟨gB, 1, none⟩ = some (.slice x' y' z')))
    (first | exact HC.out _ ‹Below wc.heap.size wc _› | exact HC.out _ (‹Below wc.heap.size wc _›).drew)
    (first | (go_at_call 104; (with_reducible refine (HL.out _ (by first | assumption | exact Below.drew (by assumption))).mono ?_); rintro e w7 ⟨v, rfl, ⟨s', rfl, hnum, -⟩, hb⟩; have hB2 : Below wc.heap.size wc w7 := Below.thru (by first | assumption | exact Below.drew (by assumption)) hb; have HNUM : Hid (Num .u64 18446744073709551616 w7 s' D) := hnum; clear hb hnum) | (go_at_call 146; (with_reducible refine (HQ.out _ _ (by assumption) HNUM.out).mono ?_); rintro e w8 ⟨rfl, hb⟩; have hB3 : Below wc.heap.size wc w8 := Below.thru (by assumption) hb; have HB3 : Hid _ := hB3; clear hb))
   go_wp2
   go_ret
   exact ⟨rfl, HBC.out.thru HB3.out⟩
  ·obtain ⟨k, hk⟩ : ∃ k : Nat, e = k := ⟨e.toNat, by omega⟩
   have hkk : e = ((64 * (k / 64) + k % 64 : Nat) : Int) := by omega
   have hkq : 64 * (k / 64) + k % 64 = k := by omega
   have hr := HRR.out
   rw [show e.toNat = k by omega, show (-e).toNat = 0 by omega, Nat.pow_zero, Nat.mul_one] at hr
   have HL : Hid (∀ W', Below wc.heap.size wc W' → Calls Tryz.prog 104 #[.agg #[.bool false, .slice a' m' c'], .int .i64 e] W' (WideQ false (N1 * 2^k) W')) := fun W' hW => by
    have := left_any false _ N1 (k / 64) (k % 64) e W' (HNA.out W' hW) hkk (Nat.mod_lt _ (by decide)) (by omega) p2 (by omega)
    rwa [hkq] at this
   have HQ : Hid (∀ W' s', Below wc.heap.size wc W' → Num .u64 18446744073709551616 W' s' (N1 * 2^k) → Calls Tryz.prog 146 #[.agg #[.bool false, s'], .agg #[.bool false, .slice x' y' z']] W' fun e w' => e = .returned (.float .f64 (min R 9218868437227405312)) ∧ Below W'.heap.size W' w') := fun W' s' hW hs =>
    wratio_any s' _ (N1 * 2^k) N2 R W' hs (HNB.out W' hW) (Nat.mul_ne_zero (by omega) (Nat.ne_of_gt (Nat.two_pow_pos _))) p3 (hbig _ _ p2 (by omega)) (hsm _ p4) (by omega) hr
   generalize N1 * 2^k = D at *
   clear hr hkk hkq p1 p2 p3 p4 hbig hsm HRR HNA HNB hk
   go_upto_region 6 with fail
   go_region_held3 (fun W' => Below wc.heap.size wc W' ∧ (W'.cell? ⟨gA, 0, none⟩ = some (.bool false) ∧ W'.cell? ⟨gA, 1, none⟩ = some (.slice a' m' c')) ∧ (W'.cell? ⟨gB, 0, none⟩ = some (.bool false) ∧ W'.cell? ⟨gB, 1, none⟩ = some (.slice x' y' z')))
    (first | exact HC.out _ ‹Below wc.heap.size wc _› | exact HC.out _ (‹Below wc.heap.size wc _›).drew)
    (first | (go_at_call 104; (with_reducible refine (HL.out _ (by first | assumption | exact Below.drew (by assumption))).mono ?_); rintro e w7 ⟨v, rfl, ⟨s', rfl, hnum, -⟩, hb⟩; have hB2 : Below wc.heap.size wc w7 := Below.thru (by first | assumption | exact Below.drew (by assumption)) hb; have HNUM : Hid (Num .u64 18446744073709551616 w7 s' D) := hnum; clear hb hnum) | (go_at_call 146; (with_reducible refine (HQ.out _ _ (by assumption) HNUM.out).mono ?_); rintro e w8 ⟨rfl, hb⟩; have hB3 : Below wc.heap.size wc w8 := Below.thru (by assumption) hb; have HB3 : Hid _ := hB3; clear hb))
   go_wp2
   go_ret
   exact ⟨rfl, HBC.out.thru HB3.out⟩
@[go_sem] theorem run_trunc_ten (w : World) : (callFunc 193 #[.float .f64 4621819117588971520]).run Tryz.prog w = .ok (.value (.float .f64 4621819117588971520)) w := by kernel_rfl
@[go_sem] theorem conv_ten (w : World) : (convert 24 3 (.float .f64 4621819117588971520)).run Tryz.prog w = .ok (.int .i64 10) w := by kernel_rfl
@[go_sem] theorem run_fma_four (w : World) : (callFunc 101 #[.float .f64 4845873199050653697, .float .f64 4845873199050653694, .float .f64 14307936016156065792]).run Tryz.prog w = .ok (.value (.float .f64 13839561654909534208)) w := by kernel_rfl
theorem trunc_ten (w : World) : Calls Tryz.prog 142 #[.float .f64 4621819117588971520] w fun e w' => e = .returned (.float .f64 4621819117588971520) ∧ w = w' := by
 go_enter Tryz.func142, Tryz.ntmps142
 go_wp2
 go_ret
 exact ⟨rfl, rfl⟩
theorem whole_ten (w : World) : Calls Tryz.prog 94 #[.float .f64 4621819117588971520] w fun e w' => e = .returned (.tuple #[.int .i64 10, .bool true]) ∧ w = w' := by
 have n1 : nanB 4621819117588971520 = false := by decide
 have a1 : absB 4621819117588971520 = 4621819117588971520 := by decide
 have g1 : (Go.FloatKind.f64.format.order 4621819117588971520 4634204016564240384 == some Ordering.gt) = false := by kernel_rfl
 go_enter Tryz.func94, Tryz.ntmps94
 go_wp2_with (first | (go_at_call 142; refine (trunc_ten _).mono ?_; rintro e w' ⟨rfl, rfl⟩) | (go_at_call 82; refine (abs_any 4621819117588971520 _ (by unfold W64; decide)).mono ?_; rw [a1]; rintro e w' ⟨rfl, rfl⟩))
 go_ret2
 exact ⟨rfl, rfl⟩
theorem div_none (w : World) (hT : Tab9 w 2 quoZ) : Calls Tryz.prog 44 #[.float .f64 4607182418800017408, .float .f64 0] w fun e w' => e = .returned (.tuple #[.float .f64 0, .int .i64 13]) ∧ Below w.heap.size w w' := by
 have c0 := hT 0 (by decide)
 have c1 := hT 1 (by decide)
 have c2 := hT 2 (by decide)
 have c3 := hT 3 (by decide)
 have c4 := hT 4 (by decide)
 have c5 := hT 5 (by decide)
 have c6 := hT 6 (by decide)
 have c7 := hT 7 (by decide)
 have c8 := hT 8 (by decide)
 obtain ⟨z, hz⟩ : ∃ z, z = quoZ := ⟨_, rfl⟩
 rw [← hz] at c0 c1 c2 c3 c4 c5 c6 c7 c8
 have HX : Hid (∀ W, Calls Tryz.prog 92 #[.agg #[.int .i64 (z 0), .int .i64 (z 1), .int .i64 (z 2), .int .i64 (z 3), .int .i64 (z 4), .int .i64 (z 5), .int .i64 (z 6), .int .i64 (z 7), .int .i64 (z 8)], .float .f64 4607182418800017408, .float .f64 0] W
  fun e w' => e = .returned (.tuple #[.float .f64 0, .int .i64 13, .bool true]) ∧ Below W.heap.size W w') := fun W => by
  have h := exception_any z 4607182418800017408 0 W (by unfold W64; decide) (by unfold W64; decide) (by rw [hz]; exact quoZ_range)
  rw [hz] at h ⊢
  have e1 : exB (quoZ (3 * tcls 4607182418800017408 + tcls 0)) 4607182418800017408 0 = 0 := by decide
  have e2 : exX (quoZ (3 * tcls 4607182418800017408 + tcls 0)) 4607182418800017408 0 = 13 := by decide
  have e3 : exK (quoZ (3 * tcls 4607182418800017408 + tcls 0)) 4607182418800017408 0 = true := by decide
  rw [e1, e2, e3] at h
  exact h
 clear hT hz
 go_enter Tryz.func44, Tryz.ntmps44
 go_wp2_with (go_at_call 92; with_reducible refine (HX.out _).mono ?_; rintro e w' ⟨rfl, hb'⟩; clear c0 c1 c2 c3 c4 c5 c6 c7 c8)
 go_ret2
 exact ⟨rfl, by assumption⟩
theorem fused_four (w : World) : Calls Tryz.prog 46 #[.float .f64 4845873199050653697, .float .f64 4845873199050653694, .float .f64 14307936016156065792] w fun e w' => e = .returned (.tuple #[.float .f64 13839561654909534208, .int .i64 0]) ∧ w = w' := by
 have HA : Hid (∀ W, Calls Tryz.prog 33 #[.float .f64 4845873199050653697] W fun e w' => e = .returned (.int .i64 5) ∧ W = w') := fun W => class_any 4845873199050653697 W (by unfold W64; decide)
 have HB : Hid (∀ W, Calls Tryz.prog 33 #[.float .f64 4845873199050653694] W fun e w' => e = .returned (.int .i64 5) ∧ W = w') := fun W => class_any 4845873199050653694 W (by unfold W64; decide)
 have HC : Hid (∀ W, Calls Tryz.prog 33 #[.float .f64 14307936016156065792] W fun e w' => e = .returned (.int .i64 5) ∧ W = w') := fun W => class_any 14307936016156065792 W (by unfold W64; decide)
 have HT : Hid (∀ W, Calls Tryz.prog 93 #[.float .f64 13839561654909534208] W fun e w' => e = .returned (.tuple #[.float .f64 13839561654909534208, .int .i64 0]) ∧ W = w') := fun W => ttold_any 13839561654909534208 W (by unfold W64; decide)
 go_enter Tryz.func46, Tryz.ntmps46
 go_wp2_with (first | (go_at_call 33; with_reducible refine (HA.out _).mono ?_; rintro e w' ⟨rfl, rfl⟩) | (go_at_call 33; with_reducible refine (HB.out _).mono ?_; rintro e w' ⟨rfl, rfl⟩) | (go_at_call 33; with_reducible refine (HC.out _).mono ?_; rintro e w' ⟨rfl, rfl⟩) | (go_at_call 93; with_reducible refine (HT.out _).mono ?_; rintro e w' ⟨rfl, rfl⟩))
 go_ret2
 exact ⟨rfl, rfl⟩
theorem add_three (w : World) (hT : Tab9 w 1 totZ) : Calls Tryz.prog 43 #[.float .f64 4591870180066957722, .float .f64 4596373779694328218] w fun e w' => e = .returned (.tuple #[.float .f64 4599075939470750516, .int .i64 0]) ∧ Below w.heap.size w w' := by
 have w1 : W64 4591870180066957722 := by unfold W64; decide
 have w2 : W64 4596373779694328218 := by unfold W64; decide
 obtain ⟨R, h1, -⟩ := add_D 4591870180066957722 4596373779694328218 w1 w2 (by decide) (by decide)
 obtain ⟨s, g1, g2, g3, g4⟩ := add_told 4591870180066957722 4596373779694328218 R w1 w2 (by decide) (by decide) h1
 have e : Go.floatBits .add .f64 4591870180066957722 4596373779694328218 = some 4599075939470750516 := by kernel_rfl
 rw [e] at g1
 obtain rfl := Option.some.inj g1
 have h := tadd_any 4591870180066957722 4596373779694328218 R w w1 w2 hT (fun _ _ => h1)
 rw [← g3, ← g4] at h
 exact h
theorem two_pow_fit (r J K L B : Nat) (hr : r = 4652218415073722368) (hJ : J = 510) (hK : K = 1032) (hL : L = 1074) (hB : B = 520) : Near 52 (2 ^ B * 2 ^ 0 * 2 ^ L) (1 * 2 ^ J) r := by
 have h := Near.exact 52 r (2^J) (Nat.two_pow_pos _)
 have e := rv_kq K 4503599627370496 (by decide) (by decide)
 rw [show K * 4503599627370496 + 4503599627370496 = r by omega, show (4503599627370496 : Nat) = 2^52 by decide] at e
 rw [e] at h
 have e2 : 2 ^ B * 2 ^ 0 * 2 ^ L = 2^52 * 2^K * 2^J := by
  rw [← Nat.pow_add, ← Nat.pow_add, ← Nat.pow_add, ← Nat.pow_add]
  congr 1
  omega
 rw [e2, Nat.one_mul]
 exact h
set_option maxHeartbeats 1000000 in
theorem power_ten (w : World) : Calls Tryz.prog 45 #[.float .f64 4611686018427387904, .float .f64 4621819117588971520] w fun e w' => e = .returned (.tuple #[.float .f64 4652218415073722368, .int .i64 0]) ∧ Below w.heap.size w w' := by
 have HNN : Hid (∀ W g, W.cell? ⟨g, 0, none⟩ = some (.float .f64 4611686018427387904) → W.cell? ⟨g, 1, none⟩ = some (.float .f64 4621819117588971520) → Calls Tryz.prog 95 #[.slice (some ⟨g, 0, none⟩) 2 2] W fun e w' => e = .returned (.bool false) ∧ W = w') := fun W g h0 h1 => tnan2 4611686018427387904 4621819117588971520 W g h0 h1
 have HSB : Hid (∀ W, Calls Tryz.prog 97 #[.float .f64 4611686018427387904] W fun e w' => e = .returned (.bool false) ∧ W = w') := fun W => signbit_any 4611686018427387904 W (by unfold W64; decide)
 have HIF : Hid (∀ W, Calls Tryz.prog 90 #[.float .f64 4611686018427387904, .int .i64 0] W fun e w' => e = .returned (.bool false) ∧ W = w') := fun W => isinf_any 4611686018427387904 W (by unfold W64; decide)
 have HSP : Hid (∀ W, Calls Tryz.prog 98 #[.float .f64 4611686018427387904] W fun e w' => e = .returned (.tuple #[.bool false, .int .u64 4503599627370496, .int .i64 (-51), .int .i64 0]) ∧ W = w') := fun W => by
  have h := split_any 4611686018427387904 W (by unfold W64; decide)
  have e1 : spS 4611686018427387904 = false := by decide
  have e2 : spM 4611686018427387904 = 4503599627370496 := by decide
  have e3 : spE 4611686018427387904 = -51 := by decide
  have e4 : spX 4611686018427387904 = 0 := by decide
  rw [e1, e2, e3, e4] at h
  exact h
 obtain ⟨P, hP⟩ : ∃ P, P = 4503599627370496 ^ 10 := ⟨_, rfl⟩
 obtain ⟨B, hB⟩ : ∃ B, B = 520 := ⟨_, rfl⟩
 obtain ⟨J, hJ⟩ : ∃ J, J = 510 := ⟨_, rfl⟩
 have hpw : ∀ i, 4503599627370496 ^ i = 2 ^ (52 * i) := fun i => by rw [show (4503599627370496 : Nat) = 2^52 by decide, ← Nat.pow_mul]
 have hPB : P = 2 ^ B := by rw [hP, hpw, show 52 * 10 = B by omega]
 have hlt : P < 2 ^ (B + 1) := by rw [hPB]; exact Nat.pow_lt_pow_right (by decide) (by omega)
 have hfit := two_pow_fit 4652218415073722368 J 1032 LP B rfl hJ rfl LP_eq hB
 rw [← hPB] at hfit
 have HPW : Hid (∀ W, Calls Tryz.prog 99 #[.int .u64 4503599627370496, .int .i64 10] W (WideQ false P W)) := fun W => by
  rw [hP]
  refine wpower_any 4503599627370496 10 W (by decide) (bb := B + 1) (fun i hi => ?_) (by omega) (by decide)
  rw [hpw]
  exact Nat.pow_lt_pow_right (by decide) (by omega)
 have HNR : Hid (∀ W s, Num .u64 18446744073709551616 W s P → Calls Tryz.prog 100 #[.agg #[.bool false, s], .int .i64 (-510), .bool false] W fun e w' => e = .returned (.float .f64 4652218415073722368) ∧ Below W.heap.size W w') := fun W s h => by
  have := tnearest_any s P (-510) false W h (by rw [hPB]; exact Nat.two_pow_pos _) (bb := B + 1) hlt (by omega) (by omega) (by decide) (by decide) (R := 4652218415073722368) (by
    rw [if_neg (by decide), if_neg (by decide), show (-510 : Int).toNat = 0 from rfl, show (- -510 : Int).toNat = J by omega]
    exact hfit)
  exact this
 have HCP : Hid (∀ W, Calls Tryz.prog 50 #[.float .f64 4652218415073722368, .float .f64 4607182418800017408] W fun e w' => e = .returned (.float .f64 4652218415073722368) ∧ W = w') := fun W => copysign_any 4652218415073722368 4607182418800017408 W (by unfold W64; decide) (by unfold W64; decide)
 have HTO : Hid (∀ W, Calls Tryz.prog 93 #[.float .f64 4652218415073722368] W fun e w' => e = .returned (.tuple #[.float .f64 4652218415073722368, .int .i64 0]) ∧ W = w') := fun W => ttold_any 4652218415073722368 W (by unfold W64; decide)
 have HB1 : Hid (∀ F, Below w.heap.size w (w.alloc F)) := fun F => (Below.refl _ _).alloc (Nat.le_refl _) _
 have f1 : (Go.FloatKind.f64.format.order 4621819117588971520 0 == some Ordering.eq) = false := by kernel_rfl
 have f2 : (Go.FloatKind.f64.format.order 4621819117588971520 4602678819172646912 == some Ordering.eq) = false := by kernel_rfl
 have f3 : (Go.FloatKind.f64.format.order 4611686018427387904 0 == some Ordering.eq) = false := by kernel_rfl
 clear hP hB hJ hpw hPB hlt hfit
 go_enter Tryz.func45, Tryz.ntmps45
 go_wp2_with (first | (go_at_call 94; with_reducible refine (whole_ten _).mono ?_; rintro e w' ⟨rfl, rfl⟩) | (go_at_call 95; refine (HNN.out _ _ (by go_simp) (by go_simp)).mono ?_; rintro e w' ⟨rfl, rfl⟩) | (go_at_call 97; with_reducible refine (HSB.out _).mono ?_; rintro e w' ⟨rfl, rfl⟩) | (go_at_call 90; with_reducible refine (HIF.out _).mono ?_; rintro e w' ⟨rfl, rfl⟩) | (go_at_call 98; with_reducible refine (HSP.out _).mono ?_; rintro e w' ⟨rfl, rfl⟩))
 rw [show max (10 : Int) (-10) = 10 from rfl]
 refine (HPW.out _).mono ?_
 rintro e w1 ⟨v, rfl, ⟨s, rfl, hx, -⟩, hb⟩
 obtain ⟨x, y, z, rfl⟩ := hx.shape
 go_wp2_with fail
 have hx2 := hx.below (Nat.le_refl _) ((Below.refl _ _).alloc (Nat.le_refl _) (.cells #[.bool false, .slice x y z] 123))
 refine (HNR.out _ _ hx2).mono ?_
 rintro e w2 ⟨rfl, hb2⟩
 go_wp2_with (first | (go_at_call 50; with_reducible refine (HCP.out _).mono ?_; rintro e w' ⟨rfl, rfl⟩) | (go_at_call 93; with_reducible refine (HTO.out _).mono ?_; rintro e w' ⟨rfl, rfl⟩))
 go_ret2
 exact ⟨rfl, (((HB1.out _).thru hb).thru ((Below.refl _ _).alloc (Nat.le_refl _) _)).thru hb2⟩
theorem is7_any (b c : Nat) (w : World) :
  Calls Tryz.prog 15 #[.float .f64 b, .int .u64 (c : Nat)] w fun e w' => e = .returned (.bool (decide (b = c))) ∧ w = w' := by
 have hd : ((b : Int) == (c : Int)) = decide (b = c) := by rw [Bool.eq_iff_iff]; simp; omega
 go_enter Tryz.func15, Tryz.ntmps15
 go_wp2
 go_ret
 exact ⟨rfl, rfl⟩
set_option maxHeartbeats 1000000 in
theorem awake7_any (w : World) (hT : Tab9 w 1 totZ) (hQ : Tab9 w 2 quoZ) :
  Calls Tryz.prog 11 #[] w fun e w' => e = .returned (.bool true) ∧ Below w.heap.size w w' := by
 have HAD : Hid (Calls Tryz.prog 43 #[.float .f64 4591870180066957722, .float .f64 4596373779694328218] w fun e w' => e = .returned (.tuple #[.float .f64 4599075939470750516, .int .i64 0]) ∧ Below w.heap.size w w') := add_three w hT
 have HDV : Hid (∀ W, Below w.heap.size w W → Calls Tryz.prog 44 #[.float .f64 4607182418800017408, .float .f64 0] W fun e w' => e = .returned (.tuple #[.float .f64 0, .int .i64 13]) ∧ Below W.heap.size W w') := fun W hW => div_none W (hQ.below (Nat.le_refl _) hW)
 have f1 : (Go.FloatKind.f64.format.order 4599075939470750516 4599075939470750516 == some Ordering.eq) = true := by kernel_rfl
 have f2 : (Go.FloatKind.f64.format.order 0 0 == some Ordering.eq) = true := by kernel_rfl
 have f3 : (Go.FloatKind.f64.format.order 4652218415073722368 4652218415073722368 == some Ordering.eq) = true := by kernel_rfl
 have f4 : (Go.FloatKind.f64.format.order 13839561654909534208 13839561654909534208 == some Ordering.eq) = true := by kernel_rfl
 clear hT hQ
 go_enter Tryz.func11, Tryz.ntmps11
 go_wp2_with fail
 refine HAD.out.mono ?_
 rintro e w1 ⟨rfl, hb1⟩
 go_wp2_with fail
 refine (HDV.out _ hb1).mono ?_
 rintro e w2 ⟨rfl, hb2⟩
 go_wp2_with fail
 refine (power_ten _).mono ?_
 rintro e w3 ⟨rfl, hb3⟩
 go_wp2_with fail
 refine (fused_four _).mono ?_
 rintro e w4 ⟨rfl, rfl⟩
 go_wp2
 go_ret
 exact ⟨rfl, (hb1.thru hb2).thru hb3⟩
theorem laid_at {P : Program} {W : World} : ∀ {l : List (String × DataW Unit)} {ps : List MemPlace}, DataW.LaidVars P W l ps → ∀ {n : String} {d : DataW Unit}, (n, d) ∈ l →
  ∃ g t cs fuel p, P.globalNamed n = some g ∧ (P.globals[g]?).map (·.type) = some t ∧ W.var? P n = some cs ∧ DataW.trod (fun _ => ()) P W 0 (fun _ => true) false fuel t cs.toList = some (d, p)
 | [], _, _, _, _, hm => by cases hm
 | (n', d') :: r, ps, h, n, d, hm => by
   obtain ⟨g, t, cs, fuel, p, q, h1, h2, h3, h4, h5, -⟩ := h
   rcases List.mem_cons.1 hm with e | hm
   ·cases e
    exact ⟨g, t, cs, fuel, p, h1, h2, h3, h4⟩
   ·exact laid_at h5 hm
theorem rows9 {P : Program} {w : World} {fuel : Nat} {t e1 e : TypeId} {cs : List Value} {r0 r1 r2 : List Int} {p : List MemPlace}
  (ht : P.underlying t = some (.array 3 e1)) (ht1 : P.underlying e1 = some (.array 3 e)) (he : P.underlying e = some (.int .i64)) (hce : P.cellsOf e = 1) (hc1 : P.cellsOf e1 = 3) (hct : P.cellsOf t = 9)
  (h : DataW.trod (fun _ => ()) P w 0 (fun _ => true) false fuel t cs = some (.agg [Lib.tabData .i64 r0, Lib.tabData .i64 r1, Lib.tabData .i64 r2], p)) : cs = (r0 ++ r1 ++ r2).map fun z => Value.int .i64 z := by
 cases fuel with
 | zero => simp [DataW.trod] at h
 | succ fuel =>
   simp only [DataW.trod, ht, hc1, hct] at h
   split at h
   ·rename_i hl
    obtain ⟨xs, hm, hx⟩ := Option.map_eq_some_iff.1 h
    have hxs : xs.map (·.1) = [Lib.tabData .i64 r0, Lib.tabData .i64 r1, Lib.tabData .i64 r2] := by
     have := congrArg Prod.fst hx
     simpa using this
    have row : ∀ (i : Nat) (r : List Int), i < 3 → [Lib.tabData .i64 r0, Lib.tabData .i64 r1, Lib.tabData .i64 r2][i]? = some (Lib.tabData (H := Unit) .i64 r) → (cs.drop (i * 3)).take 3 = r.map fun z => Value.int .i64 z := by
     intro i r hi hr
     obtain ⟨b, hb, hf⟩ := Lib.mapM_at hm i i (by simp [hi])
     have h2 : (xs.map (·.1))[i]? = some b.1 := by simp [hb]
     rw [hxs, hr] at h2
     have e : b = (Lib.tabData .i64 r, b.2) := by rw [Option.some.inj h2]
     rw [e] at hf
     exact Lib.cells_of_tab ht1 he hce hc1 hf
    have a0 := row 0 r0 (by decide) rfl
    have a1 := row 1 r1 (by decide) rfl
    have a2 := row 2 r2 (by decide) rfl
    rw [List.map_append, List.map_append, ← a0, ← a1, ← a2]
    simp only [Nat.zero_mul, Nat.one_mul, List.drop_zero, show 2 * 3 = 6 from rfl]
    have e1 : cs = cs.take 3 ++ cs.drop 3 := (List.take_append_drop 3 cs).symm
    have e2 : cs.drop 3 = (cs.drop 3).take 3 ++ cs.drop 6 := by
     have := (List.take_append_drop 3 (cs.drop 3)).symm
     rwa [List.drop_drop] at this
    have e3 : (cs.drop 6).take 3 = cs.drop 6 := List.take_of_length_le (by simp; omega)
    rw [e3]
    conv => lhs; rw [e1, e2]
    rw [List.append_assoc]
   ·cases h
theorem tab9_of {P : Program} {W : World} {l : List (String × DataW Unit)} {name : String} {g : Nat} {t e1 e : TypeId} {r0 r1 r2 : List Int}
  (hg : P.globalNamed name = some g) (hty : (P.globals[g]?).map (·.type) = some t) (ht : P.underlying t = some (.array 3 e1)) (ht1 : P.underlying e1 = some (.array 3 e)) (he : P.underlying e = some (.int .i64)) (hce : P.cellsOf e = 1) (hc1 : P.cellsOf e1 = 3) (hct : P.cellsOf t = 9)
  (h : laidMet P l W) (hm : (name, .agg [Lib.tabData .i64 r0, Lib.tabData .i64 r1, Lib.tabData .i64 r2]) ∈ l) (hlen : (r0 ++ r1 ++ r2).length = 9) : Tab9 W g fun k => (r0 ++ r1 ++ r2).getD k 0 := by
 obtain ⟨ps, hl, -⟩ := h
 obtain ⟨g', t', cs, fuel, p, h1, h2, h3, h4⟩ := laid_at hl hm
 obtain rfl := Option.some.inj (hg.symm.trans h1)
 obtain rfl := Option.some.inj (hty.symm.trans h2)
 have hcs := rows9 ht ht1 he hce hc1 hct h4
 intro k hk
 have h5 := World.var?_cell hg h3 k
 rw [h5]
 have e : cs = (((r0 ++ r1 ++ r2).map fun z => Value.int .i64 z).toArray) := by rw [← hcs]
 obtain ⟨q, hq⟩ : ∃ q, q = r0 ++ r1 ++ r2 := ⟨_, rfl⟩
 rw [← hq] at e hlen ⊢
 rw [e]
 show ((q.map fun z => Value.int .i64 z).toArray)[k]? = some (.int .i64 (q.getD k 0))
 rw [List.getElem?_toArray, List.getElem?_map, List.getD_eq_getElem?_getD, List.getElem?_eq_getElem (by omega)]
 rfl
end Go.Proofs.YtlbokicainimnaaGreatDoor
