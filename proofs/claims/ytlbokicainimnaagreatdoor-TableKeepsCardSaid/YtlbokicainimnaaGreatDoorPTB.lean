import Derived.Test.YtlbokicainimnaaGreatDoorPQC
import Derived.Test.YtlbokicainimnaaGreatDoorPQD
import Derived.Test.YtlbokicainimnaaGreatDoorPRH
import Derived.Deep.RegionHeld3
import Derived.Deep.CutBlock
import Derived.Deep.DeepCutAuto
set_option maxRecDepth 100000
namespace Go.Proofs.YtlbokicainimnaaGreatDoor
open Go.RowKit
theorem inf_any (n : Int) (w : World) :
  Calls Tryz.prog 141 #[.int .i64 n] w fun e w' => e = .returned (.float .f64 (if 0 ≤ n then 9218868437227405312 else 18442240474082181120)) ∧ w = w' := by
 by_cases h : 0 ≤ n
 ·rw [if_pos h]
  go_enter Tryz.func141, Tryz.ntmps141
  go_wp2
  go_ret
  exact ⟨rfl, rfl⟩
 ·rw [if_neg h]
  go_enter Tryz.func141, Tryz.ntmps141
  go_wp2
  go_ret
  exact ⟨rfl, rfl⟩
def tcls (b : Nat) : Nat := if clsB b = 3 then 1 else if clsB b = 2 then 2 else 0
theorem tcls_any (b : Nat) (w : World) (hb : W64 b) :
  Calls Tryz.prog 140 #[.float .f64 b] w fun e w' => e = .returned (.int .i64 (tcls b : Nat)) ∧ w = w' := by
 have HC : Hid (∀ W, Calls Tryz.prog 33 #[.float .f64 b] W fun e w' => e = .returned (.int .i64 (clsB b)) ∧ W = w') := fun W => class_any b W hb
 unfold tcls
 generalize clsB b = c at *
 by_cases h3 : c = 3
 ·subst h3
  go_enter Tryz.func140, Tryz.ntmps140
  go_wp2_with (go_at_call 33; refine (HC.out _).mono ?_; rintro e w' ⟨rfl, rfl⟩)
  go_ret
  exact ⟨rfl, rfl⟩
 ·have e3 : (c == 3) = false := by simpa using h3
  rw [if_neg h3]
  by_cases h2 : c = 2
  ·subst h2
   go_enter Tryz.func140, Tryz.ntmps140
   go_wp2_with (go_at_call 33; refine (HC.out _).mono ?_; rintro e w' ⟨rfl, rfl⟩)
   go_ret
   exact ⟨rfl, rfl⟩
  ·have e2 : (c == 2) = false := by simpa using h2
   rw [if_neg h2]
   clear h2 h3
   go_enter Tryz.func140, Tryz.ntmps140
   go_wp2_with (go_at_call 33; refine (HC.out _).mono ?_; rintro e w' ⟨rfl, rfl⟩)
   go_ret
   exact ⟨rfl, rfl⟩
theorem tnan_any (xs : List Nat) (b n c : Nat) (w : World) (hl : xs.length = n) (hc : ∀ i, i < n → w.cell? ⟨b, i, none⟩ = some (.float .f64 (xs.getD i 0))) (hn : n ≤ c) (hcc : c ≤ 9223372036854775807) :
  Calls Tryz.prog 95 #[.slice (some ⟨b, 0, none⟩) n c] w fun e w' => e = .returned (.bool (xs.any nanB)) ∧ w = w' := by
 have HC : Hid (∀ i, i < n → w.cell? ⟨b, i, none⟩ = some (.float .f64 (xs.getD i 0))) := hc
 clear hc
 go_enter Tryz.func95, Tryz.ntmps95
 go_wp2
 go_loop [7] (fun v => ∃ k : Nat, k ≤ n ∧ v = .int .i64 (k : Nat) ∧ (xs.take k).any nanB = false) (fun v => n - (intOf v).toNat)
 case atStart => exact ⟨0, by omega, rfl, by simp⟩
 case round =>
  obtain ⟨k, hk, rfl, hd⟩ := hrel
  rcases Nat.lt_or_ge k n with hlt | hge
  ·have hcl := HC.out k hlt
   obtain ⟨x, hxe⟩ : ∃ x, x = xs.getD k 0 := ⟨_, rfl⟩
   rw [← hxe] at hcl
   have htk : xs.take (k + 1) = xs.take k ++ [x] := by
    rw [List.take_succ_eq_append_getElem (by omega), hxe, List.getD_eq_getElem?_getD, List.getElem?_eq_getElem (by omega)]; rfl
   clear hxe
   cases hnx : nanB x
   ·go_wp2
    go_round
    case rel => exact ⟨k + 1, by omega, by simp, by rw [htk, List.any_append, hd]; simp [hnx]⟩
    case measure => simp [intOf]; omega
   ·go_wp2
    go_ret
    refine ⟨?_, rfl⟩
    have : xs.any nanB = true := by
     rw [← List.take_append_drop (k + 1) xs, List.any_append, htk, List.any_append]; simp [hnx]
    rw [this]; rfl
  ·obtain rfl : k = n := by omega
   rw [List.take_of_length_le (by omega)] at hd
   go_wp2
   go_ret
   exact ⟨rfl, rfl⟩
theorem tnan2 (a b : Nat) (W : World) (g : Nat) (h0 : W.cell? ⟨g, 0, none⟩ = some (.float .f64 a)) (h1 : W.cell? ⟨g, 1, none⟩ = some (.float .f64 b)) :
  Calls Tryz.prog 95 #[.slice (some ⟨g, 0, none⟩) 2 2] W fun e w' => e = .returned (.bool (nanB a || nanB b)) ∧ W = w' := by
 refine (tnan_any [a, b] g 2 2 W rfl ?_ (Nat.le_refl _) (by decide)).mono ?_
 ·intro i hi
  match i, hi with
  | 0, _ => exact h0
  | 1, _ => exact h1
 ·rintro e w' ⟨rfl, rfl⟩
  exact ⟨by simp, rfl⟩
theorem ttold_any (b : Nat) (w : World) (hb : W64 b) :
  Calls Tryz.prog 93 #[.float .f64 b] w fun e w' => e = .returned (.tuple #[.float .f64 (if infB b then 0 else b), .int .i64 (if infB b then 15 else 0)]) ∧ w = w' := by
 cases h : infB b
 all_goals
  go_enter Tryz.func93, Tryz.ntmps93
  go_wp2_with (go_at_call 90; refine (isinf_any b _ hb).mono ?_; rintro e w' ⟨rfl, rfl⟩)
  go_ret2
  exact ⟨rfl, rfl⟩
def exB (z : Int) (a b : Nat) : Nat := if nanB a || nanB b then theNaN else if z = 1 then theNaN else if z = 3 then b else if z = 2 then a else if z = 4 then sgW (sgnB a != sgnB b) + 9218868437227405312 else if z = 5 then sgW (sgnB a != sgnB b) else 0
def exX (z : Int) (a b : Nat) : Int := if nanB a || nanB b then 0 else if z = 6 then 13 else 0
def exK (z : Int) (a b : Nat) : Bool := nanB a || nanB b || z != 0
theorem results_tmp3 {fn : Func} {t u v : Tmp} (h : fn.results = #[.tmp t, .tmp u, .tmp v]) (tmps : Array Value) (P : Program) (w : World) :
  (results fn tmps).run P w = .ok (.tuple #[tmps.getD t undef, tmps.getD u undef, tmps.getD v undef]) w := by
 simp [results, h]
@[go_sem] theorem conv_one (w : World) : (convert 24 3 (.float .f64 4607182418800017408)).run Tryz.prog w = .ok (.int .i64 1) w := by kernel_rfl
@[go_sem] theorem conv_minus (w : World) : (convert 24 3 (.float .f64 13830554455654793216)).run Tryz.prog w = .ok (.int .i64 (-1)) w := by kernel_rfl
set_option maxHeartbeats 2000000 in
theorem exception_any (z : Nat → Int) (a b : Nat) (w : World) (ha : W64 a) (hb : W64 b) (hz : ∀ k, 0 ≤ z k ∧ z k ≤ 6) :
  Calls Tryz.prog 92 #[.agg #[.int .i64 (z 0), .int .i64 (z 1), .int .i64 (z 2), .int .i64 (z 3), .int .i64 (z 4), .int .i64 (z 5), .int .i64 (z 6), .int .i64 (z 7), .int .i64 (z 8)], .float .f64 a, .float .f64 b] w
   fun e w' => e = .returned (.tuple #[.float .f64 (exB (z (3 * tcls a + tcls b)) a b), .int .i64 (exX (z (3 * tcls a + tcls b)) a b), .bool (exK (z (3 * tcls a + tcls b)) a b)]) ∧ Below w.heap.size w w' := by
 have HSA : Hid (∀ W, Calls Tryz.prog 97 #[.float .f64 a] W fun e w' => e = .returned (.bool (sgnB a)) ∧ W = w') := fun W => signbit_any a W ha
 have HSB : Hid (∀ W, Calls Tryz.prog 97 #[.float .f64 b] W fun e w' => e = .returned (.bool (sgnB b)) ∧ W = w') := fun W => signbit_any b W hb
 have HCA : Hid (∀ W, Calls Tryz.prog 140 #[.float .f64 a] W fun e w' => e = .returned (.int .i64 (tcls a : Nat)) ∧ W = w') := fun W => tcls_any a W ha
 have HCB : Hid (∀ W, Calls Tryz.prog 140 #[.float .f64 b] W fun e w' => e = .returned (.int .i64 (tcls b : Nat)) ∧ W = w') := fun W => tcls_any b W hb
 have HNN : Hid (∀ W g, W.cell? ⟨g, 0, none⟩ = some (.float .f64 a) → W.cell? ⟨g, 1, none⟩ = some (.float .f64 b) → Calls Tryz.prog 95 #[.slice (some ⟨g, 0, none⟩) 2 2] W fun e w' => e = .returned (.bool (nanB a || nanB b)) ∧ W = w') := fun W g h0 h1 => tnan2 a b W g h0 h1
 have HZ : Hid (∀ k, 0 ≤ z k ∧ z k ≤ 6) := hz
 have HB : Hid (∀ F G, Below w.heap.size w ((w.alloc F).alloc G)) := fun F G => ((Below.refl _ _).alloc (Nat.le_refl _) _).alloc (by simp) _
 have HSF : Hid (∀ W, Calls Tryz.prog 50 #[.float .f64 0, .float .f64 4607182418800017408] W fun e w' => e = .returned (.float .f64 (sgW false)) ∧ W = w') := fun W => copysign_any 0 4607182418800017408 W (by unfold W64; decide) (by unfold W64; decide)
 have HST : Hid (∀ W, Calls Tryz.prog 50 #[.float .f64 0, .float .f64 13830554455654793216] W fun e w' => e = .returned (.float .f64 (sgW true)) ∧ W = w') := fun W => copysign_any 0 13830554455654793216 W (by unfold W64; decide) (by unfold W64; decide)
 have hta : tcls a = 0 ∨ tcls a = 1 ∨ tcls a = 2 := by unfold tcls; split; simp; split <;> simp
 have htb : tcls b = 0 ∨ tcls b = 1 ∨ tcls b = 2 := by unfold tcls; split; simp; split <;> simp
 clear ha hb hz
 unfold exB exX exK
 obtain ⟨n, hn⟩ : ∃ n, n = (nanB a || nanB b) := ⟨_, rfl⟩
 rw [← hn] at HNN ⊢
 obtain ⟨sa, hsa⟩ : ∃ s, s = sgnB a := ⟨_, rfl⟩
 obtain ⟨sb, hsb⟩ : ∃ s, s = sgnB b := ⟨_, rfl⟩
 rw [← hsa] at HSA ⊢
 rw [← hsb] at HSB ⊢
 clear hsa hsb hn
 generalize tcls a = i at *
 generalize tcls b = j at *
 have hz6 := HZ.out (3 * i + j)
 obtain ⟨zz, hzz⟩ : ∃ zz, z (3 * i + j) = zz := ⟨_, rfl⟩
 rw [hzz] at hz6 ⊢
 cases n
 case true =>
  cases sa <;> cases sb
  all_goals
   clear hzz hz6 hta htb
   go_enter Tryz.func92, Tryz.ntmps92
   go_wp2_with (first | (go_at_call 97; with_reducible refine (HSA.out _).mono ?_; rintro e w' ⟨rfl, rfl⟩) | (go_at_call 97; with_reducible refine (HSB.out _).mono ?_; rintro e w' ⟨rfl, rfl⟩) | (go_at_call 95; refine (HNN.out _ _ (by go_simp) (by go_simp)).mono ?_; rintro e w' ⟨rfl, rfl⟩) | (go_at_call 91; refine (nan_any _).mono ?_; rintro e w' ⟨rfl, rfl⟩))
   (try simp only [Exit.inBlock, Exit.then])
   exact bodyPost_ret (results_tmp3 rfl _ _ _) rfl ⟨rfl, HB.out _ _⟩
 case false =>
  cases sa <;> cases sb
  all_goals
   go_enter Tryz.func92, Tryz.ntmps92
   go_upto_region 6 with (first | (go_at_call 97; with_reducible refine (HSA.out _).mono ?_; rintro e w' ⟨rfl, rfl⟩) | (go_at_call 97; with_reducible refine (HSB.out _).mono ?_; rintro e w' ⟨rfl, rfl⟩) | (go_at_call 95; refine (HNN.out _ _ (by go_simp) (by go_simp)).mono ?_; rintro e w' ⟨rfl, rfl⟩) | (go_at_call 91; refine (nan_any _).mono ?_; rintro e w' ⟨rfl, rfl⟩))
   have q0 := heap_alloc2_old w (.cells #[.int .i64 (z 0), .int .i64 (z 1), .int .i64 (z 2), .int .i64 (z 3), .int .i64 (z 4), .int .i64 (z 5), .int .i64 (z 6), .int .i64 (z 7), .int .i64 (z 8)] 116) (.cells #[.float .f64 a, .float .f64 b] 24)
   have hbw := HB.out (.cells #[.int .i64 (z 0), .int .i64 (z 1), .int .i64 (z 2), .int .i64 (z 3), .int .i64 (z 4), .int .i64 (z 5), .int .i64 (z 6), .int .i64 (z 7), .int .i64 (z 8)] 116) (.cells #[.float .f64 a, .float .f64 b] 24)
   generalize (w.alloc (.cells #[.int .i64 (z 0), .int .i64 (z 1), .int .i64 (z 2), .int .i64 (z 3), .int .i64 (z 4), .int .i64 (z 5), .int .i64 (z 6), .int .i64 (z 7), .int .i64 (z 8)] 116)).alloc (.cells #[.float .f64 a, .float .f64 b] 24) = w2 at *
   have HBW : Hid (Below w.heap.size w w2) := hbw
   have HQ : Hid _ := q0
   clear hbw q0
   go_cut [26] (fun v wx => v = .int .i64 zz ∧ wx = w2.drew)
   case first => as_aux_lemma =>
    have cc : ∀ k, w2.drew.cell? ⟨w.heap.size, k, none⟩ = _ := fun k => cell_of_row w2.drew w.heap.size k _ _ _ HQ.out
    have c0 := cc 0
    have c1 := cc 1
    have c2 := cc 2
    have c3 := cc 3
    have c4 := cc 4
    have c5 := cc 5
    have c6 := cc 6
    have c7 := cc 7
    have c8 := cc 8
    simp only [List.getElem?_toArray, List.getElem?_cons_zero, List.getElem?_cons_succ] at c0 c1 c2 c3 c4 c5 c6 c7 c8
    clear cc
    obtain ⟨o, ho⟩ : ∃ o, 3 * i + j = o := ⟨_, rfl⟩
    rw [ho] at hzz
    rcases hta with rfl | rfl | rfl <;> rcases htb with rfl | rfl | rfl <;> simp only [Nat.reduceMul, Nat.reduceAdd] at ho <;> subst ho
    all_goals
     subst hzz
     go_region_held3 (fun W => W = w2.drew) (first | rfl | assumption) (first | (go_at_call 140; with_reducible refine (HCA.out _).mono ?_; rintro e w' ⟨rfl, rfl⟩) | (go_at_call 140; with_reducible refine (HCB.out _).mono ?_; rintro e w' ⟨rfl, rfl⟩))
     go_wp2
     go_meet
     exact ⟨rfl, rfl⟩
   case rest =>
   obtain ⟨rfl, rfl⟩ := hcut
   have hzs : zz = 0 ∨ zz = 1 ∨ zz = 2 ∨ zz = 3 ∨ zz = 4 ∨ zz = 5 ∨ zz = 6 := by omega
   clear hzz hz6 hta htb
   rcases hzs with rfl | rfl | rfl | rfl | rfl | rfl | rfl
   all_goals
    go_wp2_with (first | (go_at_call 91; refine (nan_any _).mono ?_; rintro e w' ⟨rfl, rfl⟩) | (go_at_call 141; refine (inf_any _ _).mono ?_; rintro e w' ⟨rfl, rfl⟩) | (go_at_call 50; with_reducible refine (HSF.out _).mono ?_; rintro e w' ⟨rfl, rfl⟩) | (go_at_call 50; with_reducible refine (HST.out _).mono ?_; rintro e w' ⟨rfl, rfl⟩))
    (try simp only [Exit.inBlock, Exit.then])
    exact bodyPost_ret (results_tmp3 rfl _ _ _) rfl ⟨rfl, HBW.out.drew⟩
def Tab9 (w : World) (g : Nat) (z : Nat → Int) : Prop := ∀ k, k < 9 → w.cell? ⟨g, k, none⟩ = some (.int .i64 (z k))
def totZ (k : Nat) : Int := [0, 0, 3, 0, 0, 3, 2, 2, 0].getD k 0
def quoZ (k : Nat) : Int := [0, 6, 5, 5, 6, 5, 4, 6, 1].getD k 0
theorem Tab9.below {w w' : World} {g : Nat} {z : Nat → Int} (h : Tab9 w g z) {B : Nat} (hB : w.heap.size ≤ B) (hb : Below B w w') : Tab9 w' g z := fun k hk => by
 have h1 := h k hk
 have hg : g < w.heap.size := by
  refine Decidable.byContradiction fun hc => ?_
  unfold World.cell? at h1
  rw [Array.getElem?_eq_none (by simpa using hc)] at h1
  simp at h1
 rw [hb.cell (by show g < B; omega)]
 exact h1
theorem tab_range (l : List Int) (h : ∀ x ∈ l, 0 ≤ x ∧ x ≤ 6) (k : Nat) : 0 ≤ l.getD k 0 ∧ l.getD k 0 ≤ 6 := by
 rw [List.getD_eq_getElem?_getD]
 rcases Nat.lt_or_ge k l.length with g | g
 ·rw [List.getElem?_eq_getElem g]; exact h _ (List.getElem_mem _)
 ·rw [List.getElem?_eq_none g]; simp
theorem totZ_range (k : Nat) : 0 ≤ totZ k ∧ totZ k ≤ 6 := tab_range _ (by decide) k
theorem quoZ_range (k : Nat) : 0 ≤ quoZ k ∧ quoZ k ≤ 6 := tab_range _ (by decide) k
theorem tcls_eq (b : Nat) (n : nanB b = false) : tcls b = if infB b then 2 else if zeroB b then 1 else 0 := by
 unfold tcls clsB
 rw [n]
 cases hi : infB b
 ·cases hz : zeroB b
  ·cases lowB b <;> rfl
  ·rfl
 ·rfl
theorem cmpI_eq (x y : Int) : (some (compare x y) == some Ordering.eq) = decide (x = y) := by
 rcases Int.lt_trichotomy x y with h | h | h
 ·have : compare x y = .lt := by show compareOfLessAndEq x y = _; unfold compareOfLessAndEq; rw [if_pos h]
  rw [this]; simp; omega
 ·have : compare x y = .eq := by show compareOfLessAndEq x y = _; unfold compareOfLessAndEq; rw [if_neg (by omega), if_pos h]
  rw [this]; simp [h]
 ·have : compare x y = .gt := by show compareOfLessAndEq x y = _; unfold compareOfLessAndEq; rw [if_neg (by omega), if_neg (by omega)]
  rw [this]; simp; omega
theorem sgW_le (s : Bool) : sgW s ≤ 9223372036854775808 := by unfold sgW; split <;> simp
theorem eq_neg_inf (a b : Nat) (ha : W64 a) (hb : W64 b) (hi : infB a = true) : (Go.FloatKind.f64.format.order b (flipB a) == some Ordering.eq) = (infB b && (sgnB a != sgnB b)) := by
 have hfa : absB (flipB a) = 9218868437227405312 := by rw [flip_abs]; unfold infB at hi; simpa using hi
 have nf : nanB (flipB a) = false := by unfold nanB; rw [hfa]; decide
 cases nb : nanB b
 ·rw [show Go.FloatKind.f64.format = Ieee.double from rfl, ord_D b (flipB a) hb (flip_W a ha) nb nf, cmpI_eq]
  have hb2 : absB b ≤ 9218868437227405312 := by unfold nanB at nb; simpa using nb
  have hpos : 0 < rv 52 9218868437227405312 := by rw [← rv_zero 52]; exact rv_lt (by decide)
  have hiff : rv 52 (absB b) = rv 52 9218868437227405312 ↔ absB b = 9218868437227405312 := ⟨rv_inj, fun h => by rw [h]⟩
  have hi2 : infB b = decide (absB b = 9218868437227405312) := rfl
  unfold valB
  rw [flip_sgn, hfa, hi2]
  generalize hr : rv 52 9218868437227405312 = I at *
  generalize rv 52 (absB b) = v at *
  cases sgnB b <;> cases sgnB a <;> simp <;> omega
 ·rw [show Go.FloatKind.f64.format = Ieee.double from rfl, ord_D_nan_left b _ nb]
  have : infB b = false := by unfold nanB at nb; unfold infB; simp at nb ⊢; omega
  rw [this]; rfl
theorem sgW_add_inf {s : Bool} {R : Nat} : (infB (sgW s + min R 9218868437227405312) = decide (9218868437227405312 ≤ R)) := by
 unfold infB absB sgW
 rw [decide_eq_decide]
 cases s <;> simp <;> omega
theorem add_told (a b R : Nat) (ha : W64 a) (hb : W64 b) (fa : finB a = true) (fb : finB b = true) (hR : Near 52 (valB a + valB b).natAbs 1 R) :
  ∃ s, Go.floatBits .add .f64 a b = some s ∧ W64 s ∧ (if infB s then 0 else s) = addB a b R ∧ (if infB s then 15 else 0) = tblAddX a b R := by
 obtain ⟨R', h1, h2⟩ := add_D a b ha hb fa fb
 obtain rfl := Near.uniq (by decide) hR h1
 have na : nanB a = false ∧ infB a = false := by rw [finB_eq] at fa; simpa using fa
 have nb : nanB b = false ∧ infB b = false := by rw [finB_eq] at fb; simpa using fb
 have hbad : addBad a b = false := by unfold addBad; rw [na.1, nb.1, na.2]; rfl
 refine ⟨_, h2, ?_, ?_, ?_⟩
 ·have := sgW_le (if valB a + valB b = 0 then sgnB a && sgnB b else decide (valB a + valB b < 0)); unfold W64; omega
 ·rw [sgW_add_inf]
  unfold addB
  simp only [hbad, na.2, nb.2, Bool.false_eq_true, if_false]
  by_cases h0 : valB a + valB b = 0
  ·have hR0 : R = 0 := by
    rw [h0] at hR
    exact Near.uniq (by decide) hR (near_zero 52 1 (by decide))
   subst hR0
   simp only [h0, if_true, Nat.zero_min, Nat.add_zero]
   rw [if_neg (by decide)]
   by_cases hz : a = 9223372036854775808 ∧ b = 9223372036854775808
   ·rw [if_pos hz, hz.1, hz.2]; rfl
   ·rw [if_neg hz]
    have : (sgnB a && sgnB b) = false := by
     cases ea : sgnB a
     ·rfl
     ·cases eb : sgnB b
      ·rfl
      ·exfalso
       unfold valB at h0
       rw [ea, eb] at h0
       simp only [if_true] at h0
       have e1 : rv 52 (absB a) = 0 := by omega
       have e2 : rv 52 (absB b) = 0 := by omega
       have z1 : absB a = 0 := rv_inj (p := 52) (by rw [e1, rv_zero])
       have z2 : absB b = 0 := rv_inj (p := 52) (by rw [e2, rv_zero])
       apply hz
       have s1 := split_B a ha
       have s2 := split_B b hb
       unfold sgnW at s1 s2
       rw [ea, z1] at s1
       rw [eb, z2] at s2
       exact ⟨s1, s2⟩
    rw [this]; rfl
  ·have hz : ¬ (a = 9223372036854775808 ∧ b = 9223372036854775808) := by
    rintro ⟨rfl, rfl⟩
    exact h0 (by unfold valB; decide)
   rw [if_neg hz, if_neg h0, if_neg h0]
   unfold resB
   by_cases hc : R < 9218868437227405312
   ·rw [if_pos hc, if_neg (by simp; omega), Nat.min_eq_left (by omega)]
   ·rw [if_neg hc, if_pos (by simp; omega)]
 ·rw [sgW_add_inf]
  unfold tblAddX
  simp only [hbad, na.2, nb.2, Bool.or_self, Bool.false_eq_true, if_false]
  by_cases h0 : valB a + valB b = 0
  ·have hR0 : R = 0 := by
    rw [h0] at hR
    exact Near.uniq (by decide) hR (near_zero 52 1 (by decide))
   rw [hR0, if_pos h0]; rfl
  ·rw [if_neg h0]
   unfold resX
   by_cases hc : R < 9218868437227405312
   ·rw [if_pos hc, if_neg (by simp; omega)]
   ·rw [if_neg hc, if_pos (by simp; omega)]
theorem add_exc (a b R : Nat) (hbad : ¬ (infB a = true ∧ infB b = true ∧ sgnB a ≠ sgnB b)) :
  (exK (totZ (3 * tcls a + tcls b)) a b = true → exB (totZ (3 * tcls a + tcls b)) a b = addB a b R ∧ exX (totZ (3 * tcls a + tcls b)) a b = tblAddX a b R) ∧
  (exK (totZ (3 * tcls a + tcls b)) a b = false → (finB a = true ∧ finB b = true) ∨ (infB a = true ∧ addB a b R = a ∧ tblAddX a b R = 0)) := by
 cases na : nanB a
 ·cases nb : nanB b
  ·rw [tcls_eq a na, tcls_eq b nb]
   have fa := finB_eq a
   have fb := finB_eq b
   rw [na] at fa
   rw [nb] at fb
   cases ia : infB a <;> cases ib : infB b <;> rw [ia] at fa <;> rw [ib] at fb
   ·have e : totZ (3 * (if zeroB a = true then 1 else 0) + (if zeroB b = true then 1 else 0)) = 0 := by cases zeroB a <;> cases zeroB b <;> rfl
    simp only [Bool.false_eq_true, if_false]
    rw [e]
    refine ⟨fun h => ?_, fun _ => .inl ⟨fa, fb⟩⟩
    unfold exK at h; rw [na, nb] at h; cases h
   ·have e : totZ (3 * (if zeroB a = true then 1 else 0) + 2) = 3 := by cases zeroB a <;> rfl
    simp only [Bool.false_eq_true, if_false, if_true]
    rw [e]
    refine ⟨fun _ => ⟨?_, ?_⟩, fun h => ?_⟩
    ·unfold exB addB addBad; rw [na, nb, ia, ib]; rfl
    ·unfold exX tblAddX addBad; rw [na, nb, ia, ib]; rfl
    ·unfold exK at h; rw [na, nb] at h; cases h
   ·have e : totZ (3 * 2 + (if zeroB b = true then 1 else 0)) = 2 := by cases zeroB b <;> rfl
    simp only [Bool.false_eq_true, if_false, if_true]
    rw [e]
    refine ⟨fun _ => ⟨?_, ?_⟩, fun h => ?_⟩
    ·unfold exB addB addBad; rw [na, nb, ia, ib]; rfl
    ·unfold exX tblAddX addBad; rw [na, nb, ia, ib]; rfl
    ·unfold exK at h; rw [na, nb] at h; cases h
   ·have hs : (sgnB a != sgnB b) = false := by
     cases h1 : sgnB a <;> cases h2 : sgnB b <;> first | rfl | exact absurd ⟨ia, ib, by rw [h1, h2]; simp⟩ hbad
    simp only [if_true]
    rw [show totZ (3 * 2 + 2) = 0 from rfl]
    refine ⟨fun h => ?_, fun _ => .inr ⟨trivial, ?_, ?_⟩⟩
    ·unfold exK at h; rw [na, nb] at h; cases h
    ·unfold addB addBad; rw [na, nb, ia, ib, hs]; rfl
    ·unfold tblAddX addBad; rw [na, nb, ia, ib, hs]; rfl
  ·refine ⟨fun _ => ⟨?_, ?_⟩, fun h => ?_⟩
   ·unfold exB addB addBad; rw [na, nb]; rfl
   ·unfold exX tblAddX addBad; rw [na, nb]; rfl
   ·unfold exK at h; rw [na, nb] at h; cases h
 ·refine ⟨fun _ => ⟨?_, ?_⟩, fun h => ?_⟩
  ·unfold exB addB addBad; rw [na]; rfl
  ·unfold exX tblAddX addBad; rw [na]; rfl
  ·unfold exK at h; rw [na] at h; cases h
set_option maxHeartbeats 1000000 in
theorem tadd_any (a b R : Nat) (w : World) (ha : W64 a) (hb : W64 b) (hT : Tab9 w 1 totZ) (hR : finB a = true → finB b = true → Near 52 (valB a + valB b).natAbs 1 R) :
  Calls Tryz.prog 43 #[.float .f64 a, .float .f64 b] w fun e w' => e = .returned (.tuple #[.float .f64 (addB a b R), .int .i64 (tblAddX a b R)]) ∧ Below w.heap.size w w' := by
 have HIA : Hid (∀ W, Calls Tryz.prog 90 #[.float .f64 a, .int .i64 0] W fun e w' => e = .returned (.bool (infB a)) ∧ W = w') := fun W => isinf_any a W ha
 have hf := flip_D a ha
 by_cases hbad : infB a = true ∧ infB b = true ∧ sgnB a ≠ sgnB b
 ·have he := eq_neg_inf a b ha hb hbad.1
  have hs : (sgnB a != sgnB b) = true := by simpa using hbad.2.2
  rw [hbad.2.1, hs] at he
  rw [hbad.1] at HIA
  have hb1 : addBad a b = true := by unfold addBad; rw [hbad.1, hbad.2.1, hs]; simp
  have HE1 : Hid (addB a b R = theNaN) := by show _ = _; unfold addB; simp only [hb1, if_true]
  have HE2 : Hid (tblAddX a b R = 0) := by show _ = _; unfold tblAddX; simp only [hb1, Bool.true_or, if_true]
  clear hbad hs hb1 hR ha hb hT
  go_enter Tryz.func43, Tryz.ntmps43
  go_wp2_with (first | (go_at_call 90; with_reducible refine (HIA.out _).mono ?_; rintro e w' ⟨rfl, rfl⟩) | (go_at_call 91; refine (nan_any _).mono ?_; rintro e w' ⟨rfl, rfl⟩))
  go_ret2
  exact ⟨by rw [HE1.out, HE2.out]; rfl, Below.refl _ _⟩
 ·obtain ⟨x1, x2⟩ := add_exc a b R hbad
  obtain ⟨z, hz⟩ : ∃ z, z = totZ := ⟨_, rfl⟩
  rw [← hz] at hT x1 x2
  have HX : Hid (∀ W, Calls Tryz.prog 92 #[.agg #[.int .i64 (z 0), .int .i64 (z 1), .int .i64 (z 2), .int .i64 (z 3), .int .i64 (z 4), .int .i64 (z 5), .int .i64 (z 6), .int .i64 (z 7), .int .i64 (z 8)], .float .f64 a, .float .f64 b] W
   fun e w' => e = .returned (.tuple #[.float .f64 (exB (z (3 * tcls a + tcls b)) a b), .int .i64 (exX (z (3 * tcls a + tcls b)) a b), .bool (exK (z (3 * tcls a + tcls b)) a b)]) ∧ Below W.heap.size W w') := fun W => exception_any z a b W ha hb (by rw [hz]; exact totZ_range)
  obtain ⟨xb, hxb⟩ : ∃ xb, xb = exB (z (3 * tcls a + tcls b)) a b := ⟨_, rfl⟩
  obtain ⟨xx, hxx⟩ : ∃ xx, xx = exX (z (3 * tcls a + tcls b)) a b := ⟨_, rfl⟩
  obtain ⟨xk, hxk⟩ : ∃ xk, xk = exK (z (3 * tcls a + tcls b)) a b := ⟨_, rfl⟩
  rw [← hxb, ← hxx, ← hxk] at HX
  rw [← hxk, ← hxb, ← hxx] at x1
  rw [← hxk] at x2
  have c0 := hT 0 (by decide)
  have c1 := hT 1 (by decide)
  have c2 := hT 2 (by decide)
  have c3 := hT 3 (by decide)
  have c4 := hT 4 (by decide)
  have c5 := hT 5 (by decide)
  have c6 := hT 6 (by decide)
  have c7 := hT 7 (by decide)
  have c8 := hT 8 (by decide)
  obtain ⟨ia, hia⟩ : ∃ ia, ia = infB a := ⟨_, rfl⟩
  obtain ⟨ev, hev⟩ : ∃ ev, (Go.FloatKind.f64.format.order b (flipB a) == some Ordering.eq) = ev := ⟨_, rfl⟩
  have hie : ia = true → ev = false := fun h => by
   rw [← hev, eq_neg_inf a b ha hb (by rw [← hia]; exact h)]
   cases hib : infB b
   ·rfl
   ·cases h1 : sgnB a <;> cases h2 : sgnB b <;> first | rfl | exact absurd ⟨hia ▸ h, hib, by rw [h1, h2]; simp⟩ hbad
  rw [← hia] at HIA
  clear hxb hxx hxk hz hT hbad
  cases xk
  ·rcases x2 rfl with ⟨fa, fb⟩ | ⟨h1, h2, h3⟩
   ·obtain ⟨s, g1, g2, g3, g4⟩ := add_told a b R ha hb fa fb (hR fa fb)
    have hq := fun (w : World) => run_float_arith (P := Tryz.prog) w .add 24 .f64 _ _ _ g1
    have HTO : Hid (∀ W, Calls Tryz.prog 93 #[.float .f64 s] W fun e w' => e = .returned (.tuple #[.float .f64 (addB a b R), .int .i64 (tblAddX a b R)]) ∧ W = w') := fun W => by
     have := ttold_any s W g2
     rwa [g3, g4] at this
    have h0 : ia = false := by rw [hia]; rw [finB_eq] at fa; revert fa; cases infB a <;> simp
    subst h0
    clear hia hie hev x1 x2 hR ha hb fa fb g1 g2 g3 g4
    go_enter Tryz.func43, Tryz.ntmps43
    go_wp2_with (first | (go_at_call 90; with_reducible refine (HIA.out _).mono ?_; rintro e w' ⟨rfl, rfl⟩) | (go_at_call 92; with_reducible refine (HX.out _).mono ?_; rintro e w' ⟨rfl, hb'⟩; clear c0 c1 c2 c3 c4 c5 c6 c7 c8) | (go_at_call 93; with_reducible refine (HTO.out _).mono ?_; rintro e w' ⟨rfl, rfl⟩))
    go_ret2
    exact ⟨rfl, by assumption⟩
   ·have h0 : ia = true := by rw [hia]; exact h1
    subst h0
    obtain rfl := hie rfl
    have HE1 : Hid _ := h2
    have HE2 : Hid _ := h3
    clear hia hie x1 x2 hR ha hb h1 h2 h3
    go_enter Tryz.func43, Tryz.ntmps43
    go_wp2_with (first | (go_at_call 90; with_reducible refine (HIA.out _).mono ?_; rintro e w' ⟨rfl, rfl⟩) | (go_at_call 92; with_reducible refine (HX.out _).mono ?_; rintro e w' ⟨rfl, hb'⟩; clear c0 c1 c2 c3 c4 c5 c6 c7 c8))
    go_ret2
    exact ⟨by rw [HE1.out, HE2.out]; rfl, by assumption⟩
  ·obtain ⟨h2, h3⟩ := x1 rfl
   have HE1 : Hid _ := h2
   have HE2 : Hid _ := h3
   clear x1 x2 hR ha hb h2 h3 hia
   cases ia
   ·clear hie hev
    go_enter Tryz.func43, Tryz.ntmps43
    go_wp2_with (first | (go_at_call 90; with_reducible refine (HIA.out _).mono ?_; rintro e w' ⟨rfl, rfl⟩) | (go_at_call 92; with_reducible refine (HX.out _).mono ?_; rintro e w' ⟨rfl, hb'⟩; clear c0 c1 c2 c3 c4 c5 c6 c7 c8))
    go_ret2
    exact ⟨by rw [← HE1.out, ← HE2.out]; rfl, by assumption⟩
   ·obtain rfl := hie rfl
    clear hie
    go_enter Tryz.func43, Tryz.ntmps43
    go_wp2_with (first | (go_at_call 90; with_reducible refine (HIA.out _).mono ?_; rintro e w' ⟨rfl, rfl⟩) | (go_at_call 92; with_reducible refine (HX.out _).mono ?_; rintro e w' ⟨rfl, hb'⟩; clear c0 c1 c2 c3 c4 c5 c6 c7 c8))
    go_ret2
    exact ⟨by rw [← HE1.out, ← HE2.out]; rfl, by assumption⟩
end Go.Proofs.YtlbokicainimnaaGreatDoor
