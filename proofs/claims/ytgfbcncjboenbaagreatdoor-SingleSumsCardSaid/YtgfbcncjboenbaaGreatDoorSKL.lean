/- Parts Kl, Km of the proof, in one text. -/
import Derived.Test.YtgfbcncjboenbaaGreatDoorSCQ
import Derived.Test.YtgfbcncjboenbaaGreatDoorSCL
import Derived.Test.YtgfbcncjboenbaaGreatDoorSQG

/- Walks: sums of lists of singles: the document's Sum, single.Sum. -/
namespace Go.Proofs.YtgfbcncjboenbaaGreatDoor
open Go.RowKit
open Go.Lib hiding intOf

/-- What a list sums up to, from the left. -/
def sumL : List Nat → Nat
  | [] => 0
  | a :: t => t.foldl addF (one3 a)
theorem sumL_one {l : List Nat} (h : 0 < l.length) : sumL (l.take 1) = one3 (l.getD 0 0) := by
  cases l with
  | nil => simp at h
  | cons a t => rfl
theorem sumL_next {l : List Nat} {k : Nat} (h0 : 0 < k) (h : k < l.length) : sumL (l.take (k + 1)) = addF (sumL (l.take k)) (l.getD k 0) := by
  cases l with
  | nil => simp at h
  | cons a t =>
    obtain ⟨j, rfl⟩ : ∃ j, k = j + 1 := ⟨k - 1, by omega⟩
    have hj : j < t.length := by simpa using h
    show (t.take (j + 1)).foldl addF (one3 a) = addF ((t.take j).foldl addF (one3 a)) ((a :: t).getD (j + 1) 0)
    rw [List.take_succ_eq_append_getElem hj, List.foldl_append]
    simp [List.getD, hj]
theorem sumL_W {l : List Nat} (hl : ∀ x ∈ l, W32 x) : W32 (sumL l) := by
  cases l with
  | nil => unfold W32 sumL; decide
  | cons a t =>
    have key : ∀ (t : List Nat) (s : Nat), W32 s → (∀ x ∈ t, W32 x) → W32 (t.foldl addF s) := by
      intro t
      induction t with
      | nil => intro s hs _; exact hs
      | cons b t ih => intro s hs ht; exact ih _ (addF_num hs (ht b (.head _))).1 (fun x hx => ht x (.tail _ hx))
    exact key t _ (one3_W (hl a (.head _))).1 (fun x hx => hl x (.tail _ hx))
theorem getD_W {l : List Nat} (hl : ∀ x ∈ l, W32 x) (k : Nat) : W32 (l.getD k 0) := by
  by_cases h : k < l.length
  · have e : l.getD k 0 = l[k] := by simp [List.getD, h]
    rw [e]; exact hl _ (List.getElem_mem h)
  · have e : l.getD k 0 = 0 := by simp [List.getD, h]
    rw [e]; unfold W32; decide
theorem take_W {l : List Nat} (hl : ∀ x ∈ l, W32 x) (k : Nat) : ∀ x ∈ l.take k, W32 x := fun x hx => hl x (List.mem_of_mem_take hx)
set_option maxHeartbeats 4000000 in
set_option maxRecDepth 100000 in
theorem d_sum {a : Option Addr} {n c : Nat} {l : List Nat} (w : World) (hn : l.length = n) (hmax : n ≤ 9223372036854775807) (hl : ∀ x ∈ l, W32 x)
    (hcell : 0 < n → ∃ b o, a = some ⟨b, o, none⟩ ∧ b < w.heap.size ∧ ∀ k, k < n → w.cell? ⟨b, o + k, none⟩ = some (.int .u32 (l.getD k 0 : Nat))) :
    Calls Tryz.prog 47 #[.slice a n c] w fun e w' => e = .returned (.int .u32 (sumL l : Nat)) ∧ Below w.heap.size w w' := by
  by_cases h0 : n = 0
  · subst h0
    have : l = [] := List.length_eq_zero_iff.1 hn
    subst this
    clear hcell
    go_enter Tryz.func47, Tryz.ntmps47
    go_wp2
    go_ret
    exact ⟨rfl, Below.refl _ _⟩
  · obtain ⟨b, o, rfl, hb, hc⟩ := hcell (by omega)
    have e0 : ((n : Int) == 0) = false := by simp; omega
    have hc0 : w.cell? ⟨b, o, none⟩ = some (.int .u32 (l.getD 0 0 : Nat)) := hc 0 (by omega)
    have hp : 0 < n := by omega
    obtain ⟨S, hS⟩ : ∃ S : Nat → Nat, ∀ k, S k = sumL (l.take k) := ⟨_, fun _ => rfl⟩
    have HONE : Hid (∀ W, Calls Tryz.prog 53 #[.int .u32 (l.getD 0 0 : Nat)] W fun e w' => e = .returned (.int .u32 (S 1 : Nat)) ∧ W = w') := fun W => by
      rw [hS, sumL_one (by omega)]
      exact (d_one _ (getD_W hl 0) W).mono fun e w' ⟨h1, h2⟩ => ⟨h1, by first | exact h2 | exact h2.symm⟩
    have HADD : Hid (∀ W k, 0 < k → k < n → Calls Tryz.prog 32 #[.int .u32 (S k : Nat), .int .u32 (l.getD k 0 : Nat)] W fun e w' => e = .returned (.int .u32 (S (k + 1) : Nat)) ∧ Below W.heap.size W w') := fun W k h1 h2 => by
      rw [hS, hS, sumL_next h1 (by omega)]
      exact d_add (sumL_W (take_W hl k)) (getD_W hl k) W
    have HC : Hid (∀ k, k < n → w.cell? ⟨b, o + k, none⟩ = some (.int .u32 (l.getD k 0 : Nat))) := hc
    have htk : l.take n = l := by rw [← hn]; exact List.take_length
    have HE : Hid (sumL l = S n) := ((hS n).trans (by rw [htk])).symm
    clear htk
    rw [HE.out]
    obtain ⟨g, hg⟩ : ∃ g : Nat → Nat, ∀ k, g k = l.getD k 0 := ⟨_, fun _ => rfl⟩
    simp only [← hg] at HONE HADD HC hc0
    clear hc hl hS hcell hn hg
    go_enter Tryz.func47, Tryz.ntmps47
    go_wp2_with (go_at_call 53; ((with_reducible refine (HONE.out _).mono ?_); rintro e w' ⟨rfl, rfl⟩))
    go_loopw [3, 4] (fun s i wr => ∃ k : Nat, 1 ≤ k ∧ k ≤ n ∧ i = .int .i64 (k : Nat) ∧ s = .int .u32 (S k : Nat) ∧ Below w.heap.size w wr) (fun _ i _ => n - (intOf i).toNat)
    case atStart => exact ⟨1, by omega, by omega, rfl, rfl, Below.refl _ _⟩
    case round =>
      obtain ⟨k, hk1, hk, rfl, rfl, hbk⟩ := hrel
      have HB : Hid (Below w.heap.size w wr) := hbk
      by_cases hkn : k < n
      · have hck := (hbk.cell (p := ⟨b, o + k, none⟩) hb).trans (HC.out k hkn)
        have hw1 : IntKind.i64.wrap ((k : Int) + 1) = ((k + 1 : Nat) : Int) := by rw [IntWalk.i64_in _ (by omega)]; omega
        clear hbk hc0
        go_wp2_with (go_at_call 32; ((with_reducible refine (HADD.out _ _ (by omega) hkn).mono ?_); rintro e w' ⟨rfl, hb'⟩; have HB : Hid (Below w.heap.size w w') := HB.out.thru hb'; clear hb'))
        go_roundw
        case rel => exact ⟨k + 1, by omega, by omega, by first | rfl | rw [hw1], rfl, HB.out⟩
        case measure => simp [intOf]; omega
      · have : k = n := by omega
        subst this
        clear hbk hc0
        go_wp2
        go_ret
        exact ⟨rfl, HB.out⟩
set_option maxHeartbeats 4000000 in
set_option maxRecDepth 100000 in
theorem s_sum {a : Option Addr} {n c : Nat} {l : List Nat} (w : World) (hn : l.length = n) (hnc : n ≤ c) (hmax : c ≤ 9223372036854775807) (hl : ∀ x ∈ l, W32 x)
    (hcell : 0 < n → ∃ b o, a = some ⟨b, o, none⟩ ∧ b < w.heap.size ∧ ∀ k, k < n → w.cell? ⟨b, o + k, none⟩ = some (.float .f32 (l.getD k 0))) :
    Calls Tryz.prog 46 #[.slice a n c] w fun e w' => e = .returned (.float .f32 (sumL l)) ∧ Below w.heap.size w w' := by
  by_cases h0 : n = 0
  · subst h0
    have : l = [] := List.length_eq_zero_iff.1 hn
    subst this
    clear hcell
    go_enter Tryz.func46, Tryz.ntmps46
    go_wp2
    go_ret
    exact ⟨rfl, Below.refl _ _⟩
  · obtain ⟨b, o, rfl, hb, hc⟩ := hcell (by omega)
    have e0 : ((n : Int) == 0) = false := by simp; omega
    have hc0 : w.cell? ⟨b, o, none⟩ = some (.float .f32 (l.getD 0 0)) := hc 0 (by omega)
    have hp : 0 < n := by omega
    obtain ⟨S, hS⟩ : ∃ S : Nat → Nat, ∀ k, S k = sumL (l.take k) := ⟨_, fun _ => rfl⟩
    have HONE : Hid (∀ W, Calls Tryz.prog 37 #[.float .f32 (l.getD 0 0)] W fun e w' => e = .returned (.float .f32 (S 1)) ∧ W = w') := fun W => by
      rw [hS, sumL_one (by omega)]
      exact (s_one _ W).mono fun e w' ⟨h1, h2⟩ => ⟨h1, by first | exact h2 | exact h2.symm⟩
    have HADD : Hid (∀ W k, k + 1 < n → Calls Tryz.prog 31 #[.float .f32 (S (k + 1)), .float .f32 (l.getD (k + 1) 0)] W fun e w' => e = .returned (.float .f32 (S (k + 1 + 1))) ∧ Below W.heap.size W w') := fun W k h2 => by
      rw [hS (k + 1), hS (k + 1 + 1), sumL_next (k := k + 1) (by omega) (by omega)]
      exact s_add (sumL_W (take_W hl _)) (getD_W hl _) W
    have HC : Hid (∀ k, k < n → w.cell? ⟨b, o + k, none⟩ = some (.float .f32 (l.getD k 0))) := hc
    have htk : l.take n = l := by rw [← hn]; exact List.take_length
    have HE : Hid (sumL l = S n) := ((hS n).trans (by rw [htk])).symm
    rw [HE.out]
    obtain ⟨g, hg⟩ : ∃ g : Nat → Nat, ∀ k, g k = l.getD k 0 := ⟨_, fun _ => rfl⟩
    simp only [← hg] at HONE HADD HC hc0
    clear hc hl hS hcell hn hg htk
    obtain ⟨m, rfl⟩ : ∃ m, n = m + 1 := ⟨n - 1, by omega⟩
    obtain ⟨d, rfl⟩ : ∃ d, c = d + 1 := ⟨c - 1, by omega⟩
    by_cases hd : d = 0
    · subst hd
      obtain rfl : m = 0 := by omega
      clear HC HADD
      go_enter Tryz.func46, Tryz.ntmps46
      go_wp2_with (go_at_call 37; ((with_reducible refine (HONE.out _).mono ?_); rintro e w' ⟨rfl, rfl⟩))
      go_loopw [3, 5, 16] (fun s y i wr => i = .int .i64 0 ∧ s = .float .f32 (S 1) ∧ Below w.heap.size w wr) (fun _ _ _ _ => 0)
      case atStart => exact ⟨rfl, rfl, Below.refl _ _⟩
      case round =>
        obtain ⟨rfl, rfl, hbk⟩ := hrel
        clear hc0
        go_wp2
        go_ret
        exact ⟨rfl, hbk⟩
    · go_enter Tryz.func46, Tryz.ntmps46
      go_wp2_with (go_at_call 37; ((with_reducible refine (HONE.out _).mono ?_); rintro e w' ⟨rfl, rfl⟩))
      go_loopw [3, 5, 16] (fun s y i wr => ∃ k : Nat, k ≤ m ∧ i = .int .i64 (k : Nat) ∧ s = .float .f32 (S (k + 1)) ∧ Below w.heap.size w wr) (fun _ _ i _ => m - (intOf i).toNat)
      case atStart => exact ⟨0, by omega, rfl, rfl, Below.refl _ _⟩
      case round =>
        obtain ⟨k, hk, rfl, rfl, hbk⟩ := hrel
        have HB : Hid (Below w.heap.size w wr) := hbk
        by_cases hkn : k < m
        · have hck : wr.cell? ⟨b, o + 1 + k, none⟩ = some (.float .f32 (g (k + 1))) := (hbk.cell (p := ⟨b, o + 1 + k, none⟩) hb).trans (by rw [show o + 1 + k = o + (k + 1) by omega]; exact HC.out (k + 1) (by omega))
          have hw1 : IntKind.i64.wrap ((k : Int) + 1) = ((k + 1 : Nat) : Int) := by rw [IntWalk.i64_in _ (by omega)]; omega
          clear hbk hc0
          go_wp2_with (go_at_call 31; ((with_reducible refine (HADD.out _ k (by omega)).mono ?_); rintro e w' ⟨rfl, hb'⟩; have HB : Hid (Below w.heap.size w w') := HB.out.thru hb'; clear hb'))
          go_roundw
          case rel => exact ⟨k + 1, by omega, by first | rfl | rw [hw1], rfl, HB.out⟩
          case measure => simp [intOf]; omega
        · have : k = m := by omega
          subst this
          clear hbk hc0
          go_wp2
          go_ret
          exact ⟨rfl, HB.out⟩
end Go.Proofs.YtgfbcncjboenbaaGreatDoor

/- Walks: the law SingleSums. -/
namespace Go.Proofs.YtgfbcncjboenbaaGreatDoor
open Go.RowKit
open Go.Lib hiding intOf

theorem Tryz.infoF3 : (Tryz.prog.info? 33).map (fun i => (i.zero, i.size, i.bytes)) = some (some (.float .f32 0), 1, 4) := by kernel_rfl
/-- The singles of a list, as cells. -/
def fls (l : List Nat) : List Value := l.map (Value.float .f32)
theorem fls_next {l : List Nat} {k : Nat} (h : k < l.length) : fls (l.take k) ++ [.float .f32 (l.getD k 0)] = fls (l.take (k + 1)) := by
  unfold fls
  rw [List.take_succ_eq_append_getElem h, List.map_append]
  simp [List.getD, h]
theorem own_some {w : World} {base : Nat} {e : TypeId} {v : Value} {n : Nat} {xs : List Value} (h : w.ownsRow base e 1 v n xs) (hn : 0 < n) : ∃ g c, v = .slice (some ⟨g, 0, none⟩) n c ∧ base ≤ g ∧ g < w.heap.size ∧ n ≤ c ∧ c ≤ maxLen := by
  obtain ⟨h1, h2⟩ := h
  rcases h2 with ⟨rfl, rfl⟩ | ⟨g, c, cur, rfl, h3, h4, h5, h6, -⟩
  · omega
  · exact ⟨g, c, rfl, h3, blk_lt h4, h5, h6⟩
set_option maxHeartbeats 4000000 in
set_option maxRecDepth 100000 in
theorem singleSums_walk {a : Option Addr} {n c : Nat} {l : List Nat} (w : World) (hn : l.length = n) (hreach : n * 4 ≤ 140737488351232) (hl : ∀ x ∈ l, W32 x)
    (hcell : 0 < n → ∃ b o, a = some ⟨b, o, none⟩ ∧ b < w.heap.size ∧ ∀ k, k < n → w.cell? ⟨b, o + k, none⟩ = some (.int .u32 (l.getD k 0 : Nat))) (htab : Tab w) :
    Calls Tryz.prog 9 #[.slice a n c] w fun e w' => e = .returned (.bool true) ∧ Below w.heap.size w w' := by
  have HW : Hid (Calls Tryz.prog 28 #[] w fun e w' => e = .returned (.bool true) ∧ Below w.heap.size w w') := awake4_v w htab
  have HL : Hid (∀ x ∈ l, W32 x) := hl
  have HNX : Hid (∀ k, k < n → fls (l.take k) ++ [.float .f32 (l.getD k 0)] = fls (l.take (k + 1))) := fun k hk => fls_next (by omega)
  obtain ⟨i0, hi, hz0, hz1, hz2⟩ := info_parts Tryz.infoF3
  have HCELL : Hid (0 < n → ∃ b o, a = some ⟨b, o, none⟩ ∧ b < w.heap.size ∧ ∀ k, k < n → w.cell? ⟨b, o + k, none⟩ = some (.int .u32 (l.getD k 0 : Nat))) := hcell
  clear hl htab hcell
  go_enter Tryz.func9, Tryz.ntmps9
  go_wp2_with (go_at_call 28; refine HW.out.mono ?_; rintro e w1 ⟨rfl, hb⟩; have HB1 : Hid (Below w.heap.size w w1) := hb; clear hb)
  go_loopw [4, 5] (fun v i wr => ∃ k : Nat, k ≤ n ∧ i = .int .i64 (k : Nat) ∧ wr.ownsRow w.heap.size 33 1 v k (fls (l.take k)) ∧ Below w.heap.size w wr) (fun _ i _ => n - (intOf i).toNat)
  case atStart => exact ⟨0, Nat.zero_le _, rfl, World.ownsRow_nil _ _ _ _, HB1.out⟩
  case round =>
    obtain ⟨k, hk, rfl, hown, hbk⟩ := hrel
    have HOW : Hid _ := hown
    have HBK : Hid (Below w.heap.size w wr) := hbk
    by_cases hkn : k < n
    · obtain ⟨b, o, rfl, hb, hcc⟩ := HCELL.out (by omega)
      obtain ⟨x, hx⟩ : ∃ x, x = l.getD k 0 := ⟨_, rfl⟩
      have hck := (hbk.cell (p := ⟨b, o + k, none⟩) hb).trans (hcc k hkn)
      rw [← hx] at hck
      have hnx := HNX.out k hkn
      rw [← hx] at hnx
      have HN1 : Hid (fls (l.take k) ++ [.float .f32 x] = fls (l.take (k + 1))) := hnx
      have hw1 : IntKind.i64.wrap ((k : Int) + 1) = ((k + 1 : Nat) : Int) := by rw [IntWalk.i64_in _ (by omega)]; omega
      clear hcc hown hbk hx hnx
      go_wp2_with (at_builtin; (refine wpList_append_own _ rfl _ _ 79 rfl w.heap.size 33 i0 (.float .f32 0) 1 4 Tryz.underlying79 hi hz0 hz1 hz2 rfl (by decide) _ _ _ rfl (World.ownsRow.alloc HOW.out _) ⟨wr.heap.size, 0, none⟩ 1 1 [.float .f32 x] rfl rfl (by intro j z hj; match j with | 0 => (obtain rfl : z = .float .f32 x := by simpa using hj.symm); exact cell_of_row _ _ _ _ _ _ (heap_alloc_new _ _) | j + 1 => simp at hj) (by intro z hz; simp at hz; subst hz; rfl) (by unfold maxLen; omega) (by omega) (by have := HBK.out.size; simp at this ⊢; omega) ?_; intro v' w2 hown' hgrow _; have HOW2 : Hid (w2.ownsRow w.heap.size 33 1 v' (k + 1) (fls (l.take (k + 1)))) := (by rw [← HN1.out]; exact hown'); have HB2 : Hid (Below w.heap.size w w2) := (HBK.out.alloc HBK.out.size _).grown hgrow (by have := HBK.out.size; simp at this ⊢; omega) (fun k hk => (World.ownsRow.lt HOW.out k hk).1); clear hown' hgrow))
      go_roundw
      case rel => exact ⟨k + 1, by omega, by first | rfl | rw [hw1], HOW2.out, HB2.out⟩
      case measure => simp [intOf]; omega
    · have e : k = n := by omega
      subst e
      have HTK : Hid (l.take k = l) := by
        have h : l.take l.length = l := List.take_length
        rw [hn] at h
        exact h
      clear hown hbk hk hkn
      go_wp2_with (at_builtin; (refine wpList_append_own _ rfl _ _ 79 rfl w.heap.size 33 i0 (.float .f32 0) 1 4 Tryz.underlying79 hi hz0 hz1 hz2 rfl (by decide) _ _ _ rfl (World.ownsRow.alloc HOW.out _) ⟨wr.heap.size, 0, none⟩ 1 1 [.float .f32 1088421888] rfl rfl (by intro j z hj; match j with | 0 => (obtain rfl : z = .float .f32 1088421888 := by simpa using hj.symm); exact cell_of_row _ _ _ _ _ _ (heap_alloc_new _ _) | j + 1 => simp at hj) (by intro z hz; simp at hz; subst hz; rfl) (by unfold maxLen; omega) (by omega) (by have := HBK.out.size; simp at this ⊢; omega) ?_; intro v' w2 hown' hgrow _; have HB2 : Hid (Below w.heap.size w w2) := (HBK.out.alloc HBK.out.size _).grown hgrow (by have := HBK.out.size; simp at this ⊢; omega) (fun k hk => (World.ownsRow.lt HOW.out k hk).1); obtain ⟨g, cp, rfl, hg1, hg2, hg3, hg4⟩ := own_some hown' (by omega); have HOW3 : Hid (w2.ownsRow w.heap.size 33 1 (.slice (some ⟨g, 0, none⟩) (k + 1) cp) (k + 1) (fls (l.take k) ++ [.float .f32 1088421888])) := hown'; clear hown' hgrow; have hcp : ¬ cp = 0 := by omega))
      have HG : Hid (g < w2.heap.size) := hg2
      have hcp2 : cp ≤ 9223372036854775807 := hg4
      obtain ⟨S, hS⟩ : ∃ S, S = sumL l := ⟨_, rfl⟩
      have HCE : Hid (∀ W, Below w2.heap.size w2 W → ∀ j, j < k → W.cell? ⟨g, j, none⟩ = some (.float .f32 (l.getD j 0))) := fun W hW j hj => by
        rw [hW.cell (p := ⟨g, j, none⟩) HG.out, World.ownsRow.cellAt HOW3.out j (by omega), HTK.out]
        unfold fls
        rw [List.getElem?_append_left (by simp; omega)]
        simp [List.getD, show j < l.length by omega]
      have HC7 : Hid (∀ W, Below w2.heap.size w2 W → W.cell? ⟨g, k, none⟩ = some (.float .f32 1088421888)) := fun W hW => by
        rw [hW.cell (p := ⟨g, k, none⟩) HG.out, World.ownsRow.cellAt HOW3.out k (by omega), HTK.out]
        unfold fls
        rw [List.getElem?_append_right (by simp; omega)]
        simp [hn]
      have HS : Hid (∀ W, Below w2.heap.size w2 W → Calls Tryz.prog 46 #[.slice (some ⟨g, 0, none⟩) k cp] W fun e w' => e = .returned (.float .f32 S) ∧ Below W.heap.size W w') := fun W hW => by
        rw [hS]
        exact s_sum W hn (by omega) hcp2 HL.out (fun _ => ⟨g, 0, rfl, Nat.lt_of_lt_of_le HG.out hW.size, fun j hj => by rw [Nat.zero_add]; exact HCE.out W hW j hj⟩)
      have HCU : Hid (∀ W, Below w.heap.size w W → 0 < k → ∃ b o, a = some ⟨b, o, none⟩ ∧ b < W.heap.size ∧ ∀ j, j < k → W.cell? ⟨b, o + j, none⟩ = some (.int .u32 (l.getD j 0 : Nat))) := fun W hW h => by
        obtain ⟨b, o, h1, h2, h3⟩ := HCELL.out h
        exact ⟨b, o, h1, Nat.lt_of_lt_of_le h2 hW.size, fun j hj => (hW.cell (p := ⟨b, o + j, none⟩) h2).trans (h3 j hj)⟩
      have HD : Hid (∀ W, Below w.heap.size w W → Calls Tryz.prog 47 #[.slice a k c] W fun e w' => e = .returned (.int .u32 (S : Nat)) ∧ Below W.heap.size W w') := fun W hW => by
        rw [hS]
        exact d_sum W hn (by omega) HL.out (HCU.out W hW)
      have HH : Hid (∀ W, Calls Tryz.prog 30 #[.float .f32 S, .int .u32 (S : Nat)] W fun e w' => e = .returned (.bool true) ∧ Below W.heap.size W w') := fun W => by
        have := has_v S S W; rw [decide_eq_true rfl] at this; exact this
      clear hS hg1 hg2 hg4 hn hi hz0 hz1 hz2
      refine (HS.out _ (Below.refl _ _)).mono ?_
      rintro e w3 ⟨rfl, hb⟩
      have HB3 : Hid (Below w2.heap.size w2 w3) := hb
      have HA3 : Hid (Below w.heap.size w w3) := HB2.out.thru hb
      clear hb
      go_wp2_with fail
      refine (HS.out _ HB3.out).mono ?_
      rintro e w4 ⟨rfl, hb⟩
      have HB4 : Hid (Below w2.heap.size w2 w4) := HB3.out.thru hb
      have HA4 : Hid (Below w.heap.size w w4) := HA3.out.thru hb
      clear hb
      go_wp2_with fail
      refine (HD.out _ HA4.out).mono ?_
      rintro e w5 ⟨rfl, hb⟩
      have HB5 : Hid (Below w2.heap.size w2 w5) := HB4.out.thru hb
      have HA5 : Hid (Below w.heap.size w w5) := HA4.out.thru hb
      clear hb
      go_wp2_with fail
      go_loopw [9] (fun i wr => ∃ j : Nat, j ≤ k ∧ i = .int .i64 (j : Nat) ∧ Below w2.heap.size w2 wr ∧ Below w.heap.size w wr) (fun i _ => k - (intOf i).toNat)
      case atStart => exact ⟨0, Nat.zero_le _, rfl, HB5.out, HA5.out⟩
      case round =>
        obtain ⟨j, hj, rfl, hb1, hb2⟩ := hrel
        have HX : Hid (Below w2.heap.size w2 wr) := hb1
        have HY : Hid (Below w.heap.size w wr) := hb2
        clear hb1 hb2
        by_cases hjk : j < k
        · obtain ⟨b, o, rfl, hb, hcc⟩ := HCU.out wr HY.out (by omega)
          have hc2 := hcc j hjk
          have hc1 := HCE.out wr HX.out j hjk
          obtain ⟨x, hx⟩ : ∃ x, x = l.getD j 0 := ⟨_, rfl⟩
          rw [← hx] at hc1 hc2
          have hw1 : IntKind.i64.wrap ((j : Int) + 1) = ((j + 1 : Nat) : Int) := by rw [IntWalk.i64_in _ (by omega)]; omega
          have g1 : (j : Int) < ((k + 1 : Nat) : Int) := by omega
          have g2 : (j : Int) < (k : Int) := by omega
          have g3 : (0 : Int) ≤ (j : Int) := by omega
          clear hcc hx
          go_wp2
          go_quiet (fail)
          go_wp2
          go_roundw
          case rel => exact ⟨j + 1, by omega, by first | rfl | rw [hw1], HX.out.drewM _, HY.out.drewM _⟩
          case measure => simp [intOf]; omega
        · have e : j = k := by omega
          subst e
          have n7 : nan3 1088421888 = false := by decide
          clear hj
          go_wp2_with fail
          refine (HH.out _).mono ?_
          rintro e w6 ⟨rfl, hb⟩
          have HY : Hid (Below w.heap.size w w6) := HY.out.thru hb
          have HX : Hid (Below w2.heap.size w2 w6) := HX.out.thru hb
          clear hb
          go_wp2_with fail
          refine (HH.out _).mono ?_
          rintro e w7 ⟨rfl, hb⟩
          have hc7 := HC7.out w7 (HX.out.thru hb)
          have HY : Hid (Below w.heap.size w w7) := HY.out.thru hb
          clear hb
          go_wp2
          go_ret
          exact ⟨rfl, HY.out⟩
end Go.Proofs.YtgfbcncjboenbaaGreatDoor
