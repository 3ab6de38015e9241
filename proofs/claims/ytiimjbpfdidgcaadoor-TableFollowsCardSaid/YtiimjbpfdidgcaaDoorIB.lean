/- Parts Ta, Tb of the proof, in one text. -/
import Derived.Test.YtiimjbpfdidgcaaDoorHC
import Derived.Test.YtiimjbpfdidgcaaDoorHD
import Derived.Test.YtiimjbpfdidgcaaDoorIA
import Derived.Deep.RegionHeld3
import Derived.Deep.CutBlock
import Derived.Deep.DeepCutAuto

/- Walks: math.IsInf, math.Inf, table's class, nan, told, Neg. -/
namespace Go.Proofs.YtiimjbpfdidgcaaDoor
open Go.RowKit

theorem inf_any (n : Int) (w : World) :
    Calls Tryd.prog 90 #[.int .i64 n] w fun e w' => e = .returned (.float .f64 (if 0 ≤ n then 9218868437227405312 else 18442240474082181120)) ∧ w = w' := by
  by_cases h : 0 ≤ n
  · rw [if_pos h]
    go_enter Tryd.func90, Tryd.ntmps90
    go_wp2
    go_ret
    exact ⟨rfl, rfl⟩
  · rw [if_neg h]
    go_enter Tryd.func90, Tryd.ntmps90
    go_wp2
    go_ret
    exact ⟨rfl, rfl⟩

/-- An operand's place in the tables. -/
def tcls (b : Nat) : Nat := if clsB b = 3 then 1 else if clsB b = 2 then 2 else 0
theorem tcls_any (b : Nat) (w : World) (hb : W64 b) :
    Calls Tryd.prog 89 #[.float .f64 b] w fun e w' => e = .returned (.int .i64 (tcls b : Nat)) ∧ w = w' := by
  have HC : Hid (∀ W, Calls Tryd.prog 59 #[.float .f64 b] W fun e w' => e = .returned (.int .i64 (clsB b)) ∧ W = w') := fun W => class_any b W hb
  unfold tcls
  generalize clsB b = c at *
  by_cases h3 : c = 3
  · subst h3
    go_enter Tryd.func89, Tryd.ntmps89
    go_wp2_with (go_at_call 59; refine (HC.out _).mono ?_; rintro e w' ⟨rfl, rfl⟩)
    go_ret
    exact ⟨rfl, rfl⟩
  · have e3 : (c == 3) = false := by simpa using h3
    rw [if_neg h3]
    by_cases h2 : c = 2
    · subst h2
      go_enter Tryd.func89, Tryd.ntmps89
      go_wp2_with (go_at_call 59; refine (HC.out _).mono ?_; rintro e w' ⟨rfl, rfl⟩)
      go_ret
      exact ⟨rfl, rfl⟩
    · have e2 : (c == 2) = false := by simpa using h2
      rw [if_neg h2]
      clear h2 h3
      go_enter Tryd.func89, Tryd.ntmps89
      go_wp2_with (go_at_call 59; refine (HC.out _).mono ?_; rintro e w' ⟨rfl, rfl⟩)
      go_ret
      exact ⟨rfl, rfl⟩

set_option maxRecDepth 100000 in
theorem tnan_any (xs : List Nat) (b n c : Nat) (w : World) (hl : xs.length = n) (hc : ∀ i, i < n → w.cell? ⟨b, i, none⟩ = some (.float .f64 (xs.getD i 0))) (hn : n ≤ c) (hcc : c ≤ 9223372036854775807) :
    Calls Tryd.prog 41 #[.slice (some ⟨b, 0, none⟩) n c] w fun e w' => e = .returned (.bool (xs.any nanB)) ∧ w = w' := by
  have HC : Hid (∀ i, i < n → w.cell? ⟨b, i, none⟩ = some (.float .f64 (xs.getD i 0))) := hc
  clear hc
  go_enter Tryd.func41, Tryd.ntmps41
  go_wp2
  go_loop [7] (fun v => ∃ k : Nat, k ≤ n ∧ v = .int .i64 (k : Nat) ∧ (xs.take k).any nanB = false) (fun v => n - (intOf v).toNat)
  case atStart => exact ⟨0, by omega, rfl, by simp⟩
  case round =>
    obtain ⟨k, hk, rfl, hd⟩ := hrel
    rcases Nat.lt_or_ge k n with hlt | hge
    · have hcl := HC.out k hlt
      obtain ⟨x, hxe⟩ : ∃ x, x = xs.getD k 0 := ⟨_, rfl⟩
      rw [← hxe] at hcl
      have htk : xs.take (k + 1) = xs.take k ++ [x] := by
        rw [List.take_succ_eq_append_getElem (by omega), hxe, List.getD_eq_getElem?_getD, List.getElem?_eq_getElem (by omega)]; rfl
      clear hxe
      cases hnx : nanB x
      · go_wp2
        go_round
        case rel => exact ⟨k + 1, by omega, by simp, by rw [htk, List.any_append, hd]; simp [hnx]⟩
        case measure => simp [intOf]; omega
      · go_wp2
        go_ret
        refine ⟨?_, rfl⟩
        have : xs.any nanB = true := by
          rw [← List.take_append_drop (k + 1) xs, List.any_append, htk, List.any_append]; simp [hnx]
        rw [this]; rfl
    · obtain rfl : k = n := by omega
      rw [List.take_of_length_le (by omega)] at hd
      go_wp2
      go_ret
      exact ⟨rfl, rfl⟩

theorem tnan2 (a b : Nat) (W : World) (g : Nat) (h0 : W.cell? ⟨g, 0, none⟩ = some (.float .f64 a)) (h1 : W.cell? ⟨g, 1, none⟩ = some (.float .f64 b)) :
    Calls Tryd.prog 41 #[.slice (some ⟨g, 0, none⟩) 2 2] W fun e w' => e = .returned (.bool (nanB a || nanB b)) ∧ W = w' := by
  refine (tnan_any [a, b] g 2 2 W rfl ?_ (Nat.le_refl _) (by decide)).mono ?_
  · intro i hi
    match i, hi with
    | 0, _ => exact h0
    | 1, _ => exact h1
  · rintro e w' ⟨rfl, rfl⟩
    exact ⟨by simp, rfl⟩

theorem ttold_any (b : Nat) (w : World) (hb : W64 b) :
    Calls Tryd.prog 47 #[.float .f64 b] w fun e w' => e = .returned (.tuple #[.float .f64 (if infB b then 0 else b), .int .i64 (if infB b then 15 else 0)]) ∧ w = w' := by
  cases h : infB b
  all_goals
    go_enter Tryd.func47, Tryd.ntmps47
    go_wp2_with (go_at_call 43; refine (isinf_any b _ hb).mono ?_; rintro e w' ⟨rfl, rfl⟩)
    go_ret2
    exact ⟨rfl, rfl⟩

theorem oneB_flip (b : Nat) : oneB (flipB b) = negR b := by unfold oneB negR; rw [flip_nan]
theorem tneg_any (b : Nat) (w : World) (hb : W64 b) :
    Calls Tryd.prog 25 #[.float .f64 b] w fun e w' => e = .returned (.float .f64 (negR b)) ∧ w = w' := by
  have hf := flip_D b hb
  have HO : Hid (∀ W, Calls Tryd.prog 60 #[.float .f64 (flipB b)] W fun e w' => e = .returned (.float .f64 (negR b)) ∧ W = w') := fun W => by
    have := one_any (flipB b) W
    rwa [oneB_flip] at this
  go_enter Tryd.func25, Tryd.ntmps25
  go_wp2_with (go_at_call 60; refine (HO.out _).mono ?_; rintro e w' ⟨rfl, rfl⟩)
  go_ret
  exact ⟨rfl, rfl⟩
end Go.Proofs.YtiimjbpfdidgcaaDoor

/- Walks: table's exception. -/
namespace Go.Proofs.YtiimjbpfdidgcaaDoor
open Go.RowKit

/-- What a table's word z says of two operands: the number, the error, whether it says anything. -/
def exB (z : Int) (a b : Nat) : Nat := if nanB a || nanB b then theNaN else if z = 1 then theNaN else if z = 3 then b else if z = 2 then a else if z = 4 then sgW (sgnB a != sgnB b) + 9218868437227405312 else if z = 5 then sgW (sgnB a != sgnB b) else 0
def exX (z : Int) (a b : Nat) : Int := if nanB a || nanB b then 0 else if z = 6 then 13 else 0
def exK (z : Int) (a b : Nat) : Bool := nanB a || nanB b || z != 0

theorem results_tmp3 {fn : Func} {t u v : Tmp} (h : fn.results = #[.tmp t, .tmp u, .tmp v]) (tmps : Array Value) (P : Program) (w : World) :
    (results fn tmps).run P w = .ok (.tuple #[tmps.getD t undef, tmps.getD u undef, tmps.getD v undef]) w := by
  simp [results, h]

@[go_sem] theorem conv_one (w : World) : (convert 24 3 (.float .f64 4607182418800017408)).run Tryd.prog w = .ok (.int .i64 1) w := by kernel_rfl
@[go_sem] theorem conv_minus (w : World) : (convert 24 3 (.float .f64 13830554455654793216)).run Tryd.prog w = .ok (.int .i64 (-1)) w := by kernel_rfl

set_option maxHeartbeats 2000000 in
set_option maxRecDepth 100000 in
theorem exception_any (z : Nat → Int) (a b : Nat) (w : World) (ha : W64 a) (hb : W64 b) (hz : ∀ k, 0 ≤ z k ∧ z k ≤ 6) :
    Calls Tryd.prog 66 #[.agg #[.int .i64 (z 0), .int .i64 (z 1), .int .i64 (z 2), .int .i64 (z 3), .int .i64 (z 4), .int .i64 (z 5), .int .i64 (z 6), .int .i64 (z 7), .int .i64 (z 8)], .float .f64 a, .float .f64 b] w
      fun e w' => e = .returned (.tuple #[.float .f64 (exB (z (3 * tcls a + tcls b)) a b), .int .i64 (exX (z (3 * tcls a + tcls b)) a b), .bool (exK (z (3 * tcls a + tcls b)) a b)]) ∧ Below w.heap.size w w' := by
  have HSA : Hid (∀ W, Calls Tryd.prog 35 #[.float .f64 a] W fun e w' => e = .returned (.bool (sgnB a)) ∧ W = w') := fun W => signbit_any a W ha
  have HSB : Hid (∀ W, Calls Tryd.prog 35 #[.float .f64 b] W fun e w' => e = .returned (.bool (sgnB b)) ∧ W = w') := fun W => signbit_any b W hb
  have HCA : Hid (∀ W, Calls Tryd.prog 89 #[.float .f64 a] W fun e w' => e = .returned (.int .i64 (tcls a : Nat)) ∧ W = w') := fun W => tcls_any a W ha
  have HCB : Hid (∀ W, Calls Tryd.prog 89 #[.float .f64 b] W fun e w' => e = .returned (.int .i64 (tcls b : Nat)) ∧ W = w') := fun W => tcls_any b W hb
  have HNN : Hid (∀ W g, W.cell? ⟨g, 0, none⟩ = some (.float .f64 a) → W.cell? ⟨g, 1, none⟩ = some (.float .f64 b) → Calls Tryd.prog 41 #[.slice (some ⟨g, 0, none⟩) 2 2] W fun e w' => e = .returned (.bool (nanB a || nanB b)) ∧ W = w') := fun W g h0 h1 => tnan2 a b W g h0 h1
  have HZ : Hid (∀ k, 0 ≤ z k ∧ z k ≤ 6) := hz
  have HB : Hid (∀ F G, Below w.heap.size w ((w.alloc F).alloc G)) := fun F G => ((Below.refl _ _).alloc (Nat.le_refl _) _).alloc (by simp) _
  have HSF : Hid (∀ W, Calls Tryd.prog 31 #[.float .f64 0, .float .f64 4607182418800017408] W fun e w' => e = .returned (.float .f64 (sgW false)) ∧ W = w') := fun W => copysign_any 0 4607182418800017408 W (by unfold W64; decide) (by unfold W64; decide)
  have HST : Hid (∀ W, Calls Tryd.prog 31 #[.float .f64 0, .float .f64 13830554455654793216] W fun e w' => e = .returned (.float .f64 (sgW true)) ∧ W = w') := fun W => copysign_any 0 13830554455654793216 W (by unfold W64; decide) (by unfold W64; decide)
  have hta : tcls a = 0 ∨ tcls a = 1 ∨ tcls a = 2 := by unfold tcls; split; simp; split <;> simp
  have htb : tcls b = 0 ∨ tcls b = 1 ∨ tcls b = 2 := by unfold tcls; split; simp; split <;> simp
  clear ha hb hz
  unfold exB exX exK
  obtain ⟨n, hn⟩ : ∃ n, n = (nanB a || nanB b) := ⟨_, rfl⟩
  rw [← hn] at HNN ⊢
  obtain ⟨sa, hsa⟩ : ∃ s, s = sgnB a := ⟨_, rfl⟩
  obtain ⟨sb, hsb⟩ : ∃ s, s = sgnB b := ⟨_, rfl⟩
  rw [← hsa] at HSA ⊢
  rw [← hsb] at HSB ⊢
  clear hsa hsb hn
  generalize tcls a = i at *
  generalize tcls b = j at *
  have hz6 := HZ.out (3 * i + j)
  obtain ⟨zz, hzz⟩ : ∃ zz, z (3 * i + j) = zz := ⟨_, rfl⟩
  rw [hzz] at hz6 ⊢
  cases n
  case true =>
    cases sa <;> cases sb
    all_goals
      clear hzz hz6 hta htb
      go_enter Tryd.func66, Tryd.ntmps66
      go_wp2_with (first | (go_at_call 35; with_reducible refine (HSA.out _).mono ?_; rintro e w' ⟨rfl, rfl⟩) | (go_at_call 35; with_reducible refine (HSB.out _).mono ?_; rintro e w' ⟨rfl, rfl⟩) | (go_at_call 41; refine (HNN.out _ _ (by go_simp) (by go_simp)).mono ?_; rintro e w' ⟨rfl, rfl⟩) | (go_at_call 42; refine (nan_any _).mono ?_; rintro e w' ⟨rfl, rfl⟩))
      (try simp only [Exit.inBlock, Exit.then])
      exact bodyPost_ret (results_tmp3 rfl _ _ _) rfl ⟨rfl, HB.out _ _⟩
  case false =>
    cases sa <;> cases sb
    all_goals
      go_enter Tryd.func66, Tryd.ntmps66
      go_upto_region 6 with (first | (go_at_call 35; with_reducible refine (HSA.out _).mono ?_; rintro e w' ⟨rfl, rfl⟩) | (go_at_call 35; with_reducible refine (HSB.out _).mono ?_; rintro e w' ⟨rfl, rfl⟩) | (go_at_call 41; refine (HNN.out _ _ (by go_simp) (by go_simp)).mono ?_; rintro e w' ⟨rfl, rfl⟩) | (go_at_call 42; refine (nan_any _).mono ?_; rintro e w' ⟨rfl, rfl⟩))
      have q0 := heap_alloc2_old w (.cells #[.int .i64 (z 0), .int .i64 (z 1), .int .i64 (z 2), .int .i64 (z 3), .int .i64 (z 4), .int .i64 (z 5), .int .i64 (z 6), .int .i64 (z 7), .int .i64 (z 8)] 86) (.cells #[.float .f64 a, .float .f64 b] 24)
      have hbw := HB.out (.cells #[.int .i64 (z 0), .int .i64 (z 1), .int .i64 (z 2), .int .i64 (z 3), .int .i64 (z 4), .int .i64 (z 5), .int .i64 (z 6), .int .i64 (z 7), .int .i64 (z 8)] 86) (.cells #[.float .f64 a, .float .f64 b] 24)
      generalize (w.alloc (.cells #[.int .i64 (z 0), .int .i64 (z 1), .int .i64 (z 2), .int .i64 (z 3), .int .i64 (z 4), .int .i64 (z 5), .int .i64 (z 6), .int .i64 (z 7), .int .i64 (z 8)] 86)).alloc (.cells #[.float .f64 a, .float .f64 b] 24) = w2 at *
      have HBW : Hid (Below w.heap.size w w2) := hbw
      have HQ : Hid _ := q0
      clear hbw q0
      go_cut [26] (fun v wx => v = .int .i64 zz ∧ wx = w2.drew)
      case first => as_aux_lemma =>
        have cc : ∀ k, w2.drew.cell? ⟨w.heap.size, k, none⟩ = _ := fun k => cell_of_row w2.drew w.heap.size k _ _ _ HQ.out
        have c0 := cc 0
        have c1 := cc 1
        have c2 := cc 2
        have c3 := cc 3
        have c4 := cc 4
        have c5 := cc 5
        have c6 := cc 6
        have c7 := cc 7
        have c8 := cc 8
        simp only [List.getElem?_toArray, List.getElem?_cons_zero, List.getElem?_cons_succ] at c0 c1 c2 c3 c4 c5 c6 c7 c8
        clear cc
        obtain ⟨o, ho⟩ : ∃ o, 3 * i + j = o := ⟨_, rfl⟩
        rw [ho] at hzz
        rcases hta with rfl | rfl | rfl <;> rcases htb with rfl | rfl | rfl <;> simp only [Nat.reduceMul, Nat.reduceAdd] at ho <;> subst ho
        all_goals
          subst hzz
          go_region_held3 (fun W => W = w2.drew) (first | rfl | assumption) (first | (go_at_call 89; with_reducible refine (HCA.out _).mono ?_; rintro e w' ⟨rfl, rfl⟩) | (go_at_call 89; with_reducible refine (HCB.out _).mono ?_; rintro e w' ⟨rfl, rfl⟩))
          go_wp2
          go_meet
          exact ⟨rfl, rfl⟩
      case rest =>
      obtain ⟨rfl, rfl⟩ := hcut
      have hzs : zz = 0 ∨ zz = 1 ∨ zz = 2 ∨ zz = 3 ∨ zz = 4 ∨ zz = 5 ∨ zz = 6 := by omega
      clear hzz hz6 hta htb
      rcases hzs with rfl | rfl | rfl | rfl | rfl | rfl | rfl
      all_goals
        go_wp2_with (first | (go_at_call 42; refine (nan_any _).mono ?_; rintro e w' ⟨rfl, rfl⟩) | (go_at_call 90; refine (inf_any _ _).mono ?_; rintro e w' ⟨rfl, rfl⟩) | (go_at_call 31; with_reducible refine (HSF.out _).mono ?_; rintro e w' ⟨rfl, rfl⟩) | (go_at_call 31; with_reducible refine (HST.out _).mono ?_; rintro e w' ⟨rfl, rfl⟩))
        (try simp only [Exit.inBlock, Exit.then])
        exact bodyPost_ret (results_tmp3 rfl _ _ _) rfl ⟨rfl, HBW.out.drew⟩
end Go.Proofs.YtiimjbpfdidgcaaDoor
