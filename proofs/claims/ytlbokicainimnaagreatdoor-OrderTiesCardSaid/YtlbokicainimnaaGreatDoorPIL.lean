import Derived.Test.YtlbokicainimnaaGreatDoorPJR
import Derived.Test.YtlbokicainimnaaGreatDoorPIH
namespace Go.Proofs.YtlbokicainimnaaGreatDoor
open Go Go.RowKit
open Go.Lib hiding intOf
theorem stB_of (a x : Nat) : stB 10 a x = equalB a x ∧ stB 11 a x = (!equalB a x) ∧ stB 12 a x = lessB a x ∧ stB 13 a x = (lessB a x || equalB a x) ∧ stB 14 a x = lessB x a ∧ stB 15 a x = (lessB x a || equalB a x) := by
 unfold stB
 exact ⟨rfl, rfl, rfl, rfl, rfl, rfl⟩
theorem ord_none9 {a x : Nat} (ha : W64 a) (hx : W64 x) : Go.FloatKind.f64.format.order a x = none ↔ (nanB a || nanB x) = true := by
 cases na : nanB a
 ·cases nx : nanB x
  ·have h : Go.FloatKind.f64.format.order a x = some (compare (valB a) (valB x)) := ord_D a x ha hx na nx
   rw [h]; simp
  ·have h : Go.FloatKind.f64.format.order a x = none := ord_D_nan_right a x nx
   rw [h]; simp
 ·have h : Go.FloatKind.f64.format.order a x = none := ord_D_nan_left a x na
  rw [h]; simp
theorem ties_facts {x : Nat} (hx : W64 x) : ∀ l : List Nat, (∀ a ∈ l, W64 a) →
  l.countP (fun a => stB 13 a x) = l.countP (fun a => stB 12 a x) + l.countP (fun a => stB 10 a x) ∧
  l.countP (fun a => stB 15 a x) = l.countP (fun a => stB 14 a x) + l.countP (fun a => stB 10 a x) ∧
  l.countP (fun a => stB 11 a x) + l.countP (fun a => stB 10 a x) = l.length ∧
  (nanB x = true → l.countP (fun a => stB 12 a x) = 0 ∧ l.countP (fun a => stB 10 a x) = 0 ∧ l.countP (fun a => stB 14 a x) = 0) ∧
  (nanB x = false → l.countP (fun a => stB 12 a x) + l.countP (fun a => stB 10 a x) + l.countP (fun a => stB 14 a x) + l.countP nanB = l.length)
 | [], _ => ⟨rfl, rfl, rfl, fun _ => ⟨rfl, rfl, rfl⟩, fun _ => rfl⟩
 | a :: l, h => by
   obtain ⟨h1, h2, h3, h4, h5⟩ := ties_facts hx l (fun b hb => h b (List.mem_cons_of_mem _ hb))
   have ha := h a List.mem_cons_self
   obtain ⟨s10, s11, s12, s13, s14, s15⟩ := stB_of a x
   obtain ⟨o, ho, e1, e2, e3⟩ := ord_opts ha hx
   have hn := ord_none9 ha hx
   rw [ho] at hn
   simp only [List.countP_cons, List.length_cons]
   rw [s10, s11, s12, s13, s14, s15, e1, e2, e3]
   generalize l.countP (fun a => stB 10 a x) = c10 at *
   generalize l.countP (fun a => stB 11 a x) = c11 at *
   generalize l.countP (fun a => stB 12 a x) = c12 at *
   generalize l.countP (fun a => stB 13 a x) = c13 at *
   generalize l.countP (fun a => stB 14 a x) = c14 at *
   generalize l.countP (fun a => stB 15 a x) = c15 at *
   generalize l.countP nanB = cn at *
   clear s10 s11 s12 s13 s14 s15 e1 e2 e3 ho
   rcases o with _ | o
   ·have hn2 := hn.1 rfl
    cases nx : nanB x
    ·rw [nx] at h4 h5
     have h5 := h5 rfl
     have na : nanB a = true := by rw [nx] at hn2; simpa using hn2
     rw [na]
     refine ⟨?_, ?_, ?_, fun h => (by cases h), fun _ => ?_⟩ <;> simp <;> omega
    ·rw [nx] at h4
     have h4 := h4 rfl
     refine ⟨?_, ?_, ?_, fun _ => ?_, fun h => (by cases h)⟩ <;> simp <;> omega
   ·have hn2 : (nanB a || nanB x) = false := by
     cases hh : nanB a || nanB x
     ·rfl
     ·exact absurd (hn.2 hh) (by simp)
    rw [Bool.or_eq_false_iff] at hn2
    rw [hn2.1, hn2.2]
    rw [hn2.2] at h4 h5
    have h5 := h5 rfl
    cases o
    all_goals
     refine ⟨?_, ?_, ?_, fun h => (by cases h), fun _ => ?_⟩ <;> simp <;> omega
theorem nan_one9 (x : Nat) : nanB (oneB x) = nanB x := by
 unfold oneB
 cases h : nanB x
 ·rw [if_neg (by decide)]; exact h
 ·rw [if_pos rfl]; rfl
theorem nans_ord (l : List Nat) : (ordL l).countP nanB = l.countP nanB := by
 rw [(ordL_perm l).countP_eq, List.countP_map]
 refine List.countP_congr fun x _ => ?_
 show nanB (oneB x) = true ↔ nanB x = true
 rw [nan_one9]
theorem rank_of {l : List Nat} {x : Nat} {up : Bool} (hx : nanB x = false) (h0 : 0 < l.countP (fun a => stB 10 a x)) : rankA l x up = (l.countP (fun a => stB (if up = true then 12 else 14) a x) + 1, 0) := by
 unfold rankA
 have h1 : l.length ≠ 0 := fun h => by
  have : l = [] := List.eq_nil_of_length_eq_zero h
  subst this
  exact absurd h0 (by simp)
 rw [if_neg h1, if_neg (by rw [hx]; decide), if_neg (by omega)]
theorem rank_no {l : List Nat} {x : Nat} {up : Bool} (hx : nanB x = false) (h0 : l.countP (fun a => stB 10 a x) = 0) : rankA l x up = (0, if l.length = 0 then 4 else 1) := by
 unfold rankA
 by_cases h1 : l.length = 0
 ·rw [if_pos h1, if_pos h1]
 ·rw [if_neg h1, if_neg (by rw [hx]; decide), if_pos h0, if_neg h1]
theorem cls_one9 (b : Nat) : (clsB b == 1) = nanB b := by
 unfold clsB
 cases nanB b <;> cases infB b <;> cases zeroB b <;> cases lowB b <;> rfl
theorem ord_le9 {a b : Nat} (h : keyB a ≤ keyB b) : ¬ (0 : Int) < orderB a b := by
 unfold orderB
 split
 ·omega
 ·rw [if_neg (by omega)]; omega
theorem cnt_room9 (l : List Nat) (p : Nat → Bool) : l.countP p ≤ l.length := List.countP_le_length
end Go.Proofs.YtlbokicainimnaaGreatDoor
set_option maxRecDepth 100000
namespace Go.Proofs.YtlbokicainimnaaGreatDoor
open Go Go.RowKit
open Go.Lib hiding intOf
set_option maxHeartbeats 16000000 in
theorem orderTies_walk {a : Option Addr} {n c : Nat} {l : List Nat} (x : Nat) (w : World) (hn : l.length = n) (hmax : n * 8 ≤ 140737488351232) (hl : ∀ x ∈ l, W64 x) (hcell : UIn w a n l) (hx : W64 x) (htab : Tab w) :
  Calls Tryz.prog 7 #[.slice a n c, .int .u64 (x : Nat)] w fun e w' => e = .returned (.bool true) ∧ Below w.heap.size w w' := by
 have HAW : Hid (Calls Tryz.prog 18 #[] w fun e w' => e = .returned (.bool true) ∧ Below w.heap.size w w') := awake9_v w htab
 have HFL : Hid (∀ W, Below w.heap.size w W → Calls Tryz.prog 19 #[.slice a n c] W fun e w' => (∃ g cp, e = .returned (.tuple #[.slice (some ⟨g, 0, none⟩) n cp, .slice (some ⟨g, 0, none⟩) (n + 8 : Nat) cp]) ∧ FOn w' W.heap.size (.slice (some ⟨g, 0, none⟩) (n + 8 : Nat) cp) (n + 8) (l ++ List.replicate 8 mark9)) ∧ Below W.heap.size W w') := fun W hW => floats9_v W hn hmax (hcell.below hW)
 have HIS : Hid (∀ x W, Calls Tryz.prog 25 #[.float .f64 x, .int .u64 (x : Nat)] W fun e w' => e = .returned (.bool true) ∧ W = w') := fun x W => by
  have := is9_v x x W
  rwa [decide_eq_true rfl] at this
 obtain ⟨f1, f2, f3, f4, f5⟩ := ties_facts hx l hl
 have b12 := cnt_room9 l (fun a => stB 12 a x)
 have b10 := cnt_room9 l (fun a => stB 10 a x)
 have b14 := cnt_room9 l (fun a => stB 14 a x)
 have bn := cnt_room9 l nanB
 have hk0 : ∀ up, nanB x = false → 0 < l.countP (fun a => stB 10 a x) → rankA l x up = (l.countP (fun a => stB (if up = true then 12 else 14) a x) + 1, 0) := fun up h1 h2 => rank_of h1 h2
 have hk1 : ∀ up, nanB x = false → l.countP (fun a => stB 10 a x) = 0 → rankA l x up = (0, if l.length = 0 then 4 else 1) := fun up h1 h2 => rank_no h1 h2
 have HCN : Hid (∀ W, FIn W (none) 0 [] → True) := fun _ _ => trivial
 have hc : ∀ op, 10 ≤ op → op ≤ 15 → cntA l op x = (l.countP (fun a => stB op a x), 0) := fun op h1 h2 => by unfold cntA; rw [if_neg (by omega)]
 have c10 := hc 10 (by decide) (by decide)
 have c11 := hc 11 (by decide) (by decide)
 have c12 := hc 12 (by decide) (by decide)
 have c13 := hc 13 (by decide) (by decide)
 have c14 := hc 14 (by decide) (by decide)
 have c15 := hc 15 (by decide) (by decide)
 have r1 := fun h1 h2 => hk0 true h1 h2
 have r2 := fun h1 h2 => hk0 false h1 h2
 rw [if_pos rfl] at r1
 rw [if_neg (by decide)] at r2
 obtain ⟨kl, hkl⟩ : ∃ k, k = l.countP (fun a => stB 12 a x) := ⟨_, rfl⟩
 obtain ⟨ke, hke⟩ : ∃ k, k = l.countP (fun a => stB 10 a x) := ⟨_, rfl⟩
 obtain ⟨kg, hkg⟩ : ∃ k, k = l.countP (fun a => stB 14 a x) := ⟨_, rfl⟩
 obtain ⟨kn, hkn⟩ : ∃ k, k = l.countP (fun a => stB 11 a x) := ⟨_, rfl⟩
 obtain ⟨km, hkm⟩ : ∃ k, k = l.countP (fun a => stB 13 a x) := ⟨_, rfl⟩
 obtain ⟨kq, hkq⟩ : ∃ k, k = l.countP (fun a => stB 15 a x) := ⟨_, rfl⟩
 obtain ⟨N, hN⟩ : ∃ k, k = l.countP nanB := ⟨_, rfl⟩
 rw [← hkl] at f1 f4 f5 b12 c12 r1
 rw [← hke] at f1 f2 f3 f4 f5 b10 c10
 rw [← hkg] at f2 f4 f5 b14 c14 r2
 rw [← hkn] at f3 c11
 rw [← hkm] at f1 c13
 rw [← hkq] at f2 c15
 rw [← hN] at f5 bn
 rw [← hke] at r1 r2
 simp only [← hke] at hk1
 rw [hn] at f3 f5 b12 b10 b14 bn
 have HC0 : Hid (UIn w a n l ∧ (∀ x ∈ l, W64 x) ∧ W64 x) := ⟨hcell, hl, hx⟩
 obtain ⟨s, hs⟩ : ∃ s, s = ordL l := ⟨_, rfl⟩
 have hsl : s.length = n := by rw [hs, ordL_len, hn]
 have hson : ∀ x ∈ s, Oned x := by rw [hs]; exact ordL_oned hl
 have HEL : Hid (∀ j, j < n → Oned (s.getD j 0)) := fun j hj => by
  rw [List.getD_eq_getElem?_getD, List.getElem?_eq_getElem (by omega)]
  exact hson _ (List.getElem_mem _)
 have HSO : Hid (InO s ∧ s.length = n ∧ s.countP nanB = N) := ⟨by rw [hs]; exact ordL_ord l, hsl, by rw [hs, nans_ord, hN]⟩
 have HF4 : Hid (nanB x = true → kl = 0 ∧ ke = 0 ∧ kg = 0) := f4
 have HF5 : Hid (nanB x = false → kl + ke + kg + N = n) := f5
 have HR1 : Hid (nanB x = false → 0 < ke → rankA l x true = (kl + 1, 0)) := r1
 have HR2 : Hid (nanB x = false → 0 < ke → rankA l x false = (kg + 1, 0)) := r2
 have HR3 : Hid (∀ up, nanB x = false → ke = 0 → rankA l x up = (0, if l.length = 0 then 4 else 1)) := hk1
 have HIX : Hid (∀ W, Calls Tryz.prog 34 #[.int .u64 (x : Nat)] W fun e w' => e = .returned (.bool (nanB x)) ∧ W = w') := fun W => ref_isnan x W hx
 clear hcell htab hl hx hc hk0 hk1 r1 r2 f4 f5 hkl hke hkg hkn hkm hkq hN hsl hson HCN
 go_enter Tryz.func7, Tryz.ntmps7
 go_wp2_with fail
 refine Calls.mono HAW.out ?_
 rintro e w1 ⟨rfl, hb1⟩
 go_wp2_with fail
 refine (HFL.out _ hb1).mono ?_
 rintro e w2 ⟨⟨g, cp, rfl, ho⟩, hb2⟩
 have HBW : Hid (Below w.heap.size w w2) := hb1.thru hb2
 have HIN : Hid (∀ W, Below w2.heap.size w2 W → FIn W (some ⟨g, 0, none⟩) n l ∧ FIn W (some ⟨g, 0, none⟩) (n + 8) (l ++ List.replicate 8 mark9)) := fun W hW => by
  have h2 : FIn w2 (some ⟨g, 0, none⟩) (n + 8) (l ++ List.replicate 8 mark9) := by
   have hz : l ++ List.replicate 8 mark9 = (l ++ List.replicate 8 mark9) ++ [] := by simp
   rw [hz] at ho
   exact ho.fin (by simp [hn]) (Nat.le_refl _)
  exact ⟨(ho.fin (l := l) (r := List.replicate 8 mark9) hn.symm (by omega)).below hW, h2.below hW⟩
 have HB2 : Hid (Below w2.heap.size w2 w2) := Below.refl _ _
 clear hb1 hb2 ho HAW HFL
 have hWW : ∀ W, Below w2.heap.size w2 W → Below w.heap.size w W := fun W hW => HBW.out.thru hW
 have C1 : Hid (∀ W, Below w2.heap.size w2 W → Calls Tryz.prog 30 #[.slice (some ⟨g, 0, none⟩) n cp, .int .i64 12, .float .f64 x] W fun e w' => e = .returned (.tuple #[.int .i64 (kl : Nat), .int .i64 0]) ∧ Below W.heap.size W w') := fun W hW => by have := count9_v (c := cp) 12 x W hn (by omega : n * 8 ≤ 140737488355328) HC0.out.2.1 (HIN.out W hW).1 HC0.out.2.2; rw [c12] at this; exact this
 have C2 : Hid (∀ W, Below w2.heap.size w2 W → Calls Tryz.prog 30 #[.slice (some ⟨g, 0, none⟩) n cp, .int .i64 10, .float .f64 x] W fun e w' => e = .returned (.tuple #[.int .i64 (ke : Nat), .int .i64 0]) ∧ Below W.heap.size W w') := fun W hW => by have := count9_v (c := cp) 10 x W hn (by omega : n * 8 ≤ 140737488355328) HC0.out.2.1 (HIN.out W hW).1 HC0.out.2.2; rw [c10] at this; exact this
 have C3 : Hid (∀ W, Below w2.heap.size w2 W → Calls Tryz.prog 30 #[.slice (some ⟨g, 0, none⟩) n cp, .int .i64 14, .float .f64 x] W fun e w' => e = .returned (.tuple #[.int .i64 (kg : Nat), .int .i64 0]) ∧ Below W.heap.size W w') := fun W hW => by have := count9_v (c := cp) 14 x W hn (by omega : n * 8 ≤ 140737488355328) HC0.out.2.1 (HIN.out W hW).1 HC0.out.2.2; rw [c14] at this; exact this
 have C4 : Hid (∀ W, Below w2.heap.size w2 W → Calls Tryz.prog 30 #[.slice (some ⟨g, 0, none⟩) n cp, .int .i64 11, .float .f64 x] W fun e w' => e = .returned (.tuple #[.int .i64 (kn : Nat), .int .i64 0]) ∧ Below W.heap.size W w') := fun W hW => by have := count9_v (c := cp) 11 x W hn (by omega : n * 8 ≤ 140737488355328) HC0.out.2.1 (HIN.out W hW).1 HC0.out.2.2; rw [c11] at this; exact this
 have C5 : Hid (∀ W, Below w2.heap.size w2 W → Calls Tryz.prog 30 #[.slice (some ⟨g, 0, none⟩) n cp, .int .i64 13, .float .f64 x] W fun e w' => e = .returned (.tuple #[.int .i64 (km : Nat), .int .i64 0]) ∧ Below W.heap.size W w') := fun W hW => by have := count9_v (c := cp) 13 x W hn (by omega : n * 8 ≤ 140737488355328) HC0.out.2.1 (HIN.out W hW).1 HC0.out.2.2; rw [c13] at this; exact this
 have C6 : Hid (∀ W, Below w2.heap.size w2 W → Calls Tryz.prog 30 #[.slice (some ⟨g, 0, none⟩) n cp, .int .i64 15, .float .f64 x] W fun e w' => e = .returned (.tuple #[.int .i64 (kq : Nat), .int .i64 0]) ∧ Below W.heap.size W w') := fun W hW => by have := count9_v (c := cp) 15 x W hn (by omega : n * 8 ≤ 140737488355328) HC0.out.2.1 (HIN.out W hW).1 HC0.out.2.2; rw [c15] at this; exact this
 have C7 : Hid (∀ W, Below w2.heap.size w2 W → Calls Tryz.prog 31 #[.slice (some ⟨g, 0, none⟩) n cp] W fun e w' => (∃ gs, e = .returned (.slice (some ⟨gs, 0, none⟩) n n) ∧ FOn w' W.heap.size (.slice (some ⟨gs, 0, none⟩) n n) n s) ∧ Below W.heap.size W w') := fun W hW => by have := sorted9_v (c := cp) W hn (by omega : n * 8 ≤ 140737488355328) HC0.out.2.1 (HIN.out W hW).1; rw [← hs] at this; exact this
 have C8 : Hid (∀ W, Below w2.heap.size w2 W → Calls Tryz.prog 35 #[.slice (some ⟨g, 0, none⟩) n cp, .float .f64 x, .bool true] W fun e w' => e = .returned (.tuple #[.int .i64 ((rankA l x true).1 : Nat), .int .i64 (rankA l x true).2]) ∧ Below W.heap.size W w') := fun W hW => rank9_v (c := cp) x true W hn (by omega : n * 8 ≤ 140737488355328) HC0.out.2.1 (HIN.out W hW).1 HC0.out.2.2
 have C9 : Hid (∀ W, Below w2.heap.size w2 W → Calls Tryz.prog 35 #[.slice (some ⟨g, 0, none⟩) n cp, .float .f64 x, .bool false] W fun e w' => e = .returned (.tuple #[.int .i64 ((rankA l x false).1 : Nat), .int .i64 (rankA l x false).2]) ∧ Below W.heap.size W w') := fun W hW => rank9_v (c := cp) x false W hn (by omega : n * 8 ≤ 140737488355328) HC0.out.2.1 (HIN.out W hW).1 HC0.out.2.2
 have CN : Hid (∀ k, k < n → ∀ W, Below w2.heap.size w2 W → Calls Tryz.prog 32 #[.slice (some ⟨g, 0, none⟩) n cp, .int .i64 ((k + 1 : Nat) : Int)] W fun e w' => e = .returned (.tuple #[.float .f64 (s.getD k 0), .int .i64 0]) ∧ Below W.heap.size W w') := fun k hk W hW => by
  have := nth9_v (c := cp) ((k + 1 : Nat) : Int) W hn (by omega : n * 8 ≤ 140737488355328) HC0.out.2.1 (HIN.out W hW).1
  rw [nthA_at (by omega) (by omega), ← hs] at this
  exact this
 have hn0 : (if l.length = 0 then (4 : Int) else 1) ≠ 0 := by split <;> decide
 obtain ⟨er, her⟩ : ∃ e : Int, e = if l.length = 0 then 4 else 1 := ⟨_, rfl⟩
 rw [← her] at hn0 HR3
 have w1e : IntKind.i64.wrap ((kl : Int) + (ke : Int)) = (km : Int) := by rw [IntWalk.i64_in _ (by omega)]; omega
 have w2e : IntKind.i64.wrap ((kg : Int) + (ke : Int)) = (kq : Int) := by rw [IntWalk.i64_in _ (by omega)]; omega
 have w3e : IntKind.i64.wrap ((n : Int) - (ke : Int)) = (kn : Int) := by rw [IntWalk.i64_in _ (by omega)]; omega
 have t1 : ((km : Int) != (km : Int)) = false := by simp
 have t2 : ((kq : Int) != (kq : Int)) = false := by simp
 have t3 : ((kn : Int) != (kn : Int)) = false := by simp
 have t4 : ((n : Int) != (n : Int)) = false := by simp
 clear hWW c10 c11 c12 c13 c14 c15 HC0 HIN hs her f1 f2 f3
 go_wp2_with fail
 refine (C1.out _ HB2.out).mono ?_
 rintro e w3 ⟨rfl, hb⟩
 have HB3 : Hid (Below w2.heap.size w2 w3) := HB2.out.thru hb
 clear hb HB2 C1
 go_wp2_with fail
 refine (C2.out _ HB3.out).mono ?_
 rintro e w4 ⟨rfl, hb⟩
 have HB4 : Hid (Below w2.heap.size w2 w4) := HB3.out.thru hb
 clear hb HB3 C2
 go_wp2_with fail
 refine (C3.out _ HB4.out).mono ?_
 rintro e w5 ⟨rfl, hb⟩
 have HB5 : Hid (Below w2.heap.size w2 w5) := HB4.out.thru hb
 clear hb HB4 C3
 go_wp2_with fail
 refine (C4.out _ HB5.out).mono ?_
 rintro e w6 ⟨rfl, hb⟩
 have HB6 : Hid (Below w2.heap.size w2 w6) := HB5.out.thru hb
 clear hb HB5 C4
 go_wp2_with fail
 refine (C5.out _ HB6.out).mono ?_
 rintro e w7 ⟨rfl, hb⟩
 have HB7 : Hid (Below w2.heap.size w2 w7) := HB6.out.thru hb
 clear hb HB6 C5
 go_wp2_with fail
 refine (C6.out _ HB7.out).mono ?_
 rintro e w8 ⟨rfl, hb⟩
 have HB8 : Hid (Below w2.heap.size w2 w8) := HB7.out.thru hb
 clear hb HB7 C6
 go_wp2_with fail
 refine (C7.out _ HB8.out).mono ?_
 rintro e w9 ⟨⟨gs, rfl, hso⟩, hb⟩
 have HB9 : Hid (Below w2.heap.size w2 w9) := HB8.out.thru hb
 have HS : Hid (∀ W, Below w9.heap.size w9 W → ∀ j, j < n → W.cell? ⟨gs, j, none⟩ = some (.float .f64 (s.getD j 0))) := fun W hW j hj => (hW.cell (p := ⟨gs, j, none⟩) hso.lt.2).trans (hso.cell hj)
 clear hb HB8 C7 hso
 go_wp2_with fail
 clear w1e w2e w3e t1 t2 t3 t4
 go_loopw [22, 23] (fun mv iv wr => ∃ k : Nat, k ≤ n ∧ (iv = .int .i64 (k : Nat) ∧ mv = .int .i64 ((s.take k).countP nanB : Nat)) ∧ Below w9.heap.size w9 wr) (fun _ iv _ => n - (intOf iv).toNat)
 case atStart => exact ⟨0, Nat.zero_le _, ⟨by first | rfl | go_num, by first | rfl | go_num⟩, Below.refl _ _⟩
 case round =>
  obtain ⟨k, hk, ⟨rfl, rfl⟩, hbk⟩ := hrel
  have HBK : Hid (Below w9.heap.size w9 wr) := hbk
  obtain ⟨m, hm⟩ : ∃ m, m = (s.take k).countP nanB := ⟨_, rfl⟩
  have hmk : m ≤ k := by rw [hm]; exact cntP_le s k _
  rw [← hm]
  have HM : Hid (m = (s.take k).countP nanB) := hm
  clear hbk hm
  by_cases hkn : k < n
  ·have g1 : (k : Int) < (n : Int) := by omega
   have g3 : (0 : Int) ≤ (k : Int) := by omega
   have hw1 : IntKind.i64.wrap ((k : Int) + 1) = ((k + 1 : Nat) : Int) := by rw [IntWalk.i64_in _ (by omega)]; omega
   have hw2 : IntKind.i64.wrap ((m : Int) + 1) = ((m + 1 : Nat) : Int) := by rw [IntWalk.i64_in _ (by omega)]; omega
   obtain ⟨y, hy⟩ : ∃ y, y = s.getD k 0 := ⟨_, rfl⟩
   have hyo : Oned y := by rw [hy]; exact HEL.out k hkn
   have HY : Hid (y = s.getD k 0) := hy
   have hnx := cntP_next (l := s) (k := k) (by have := HSO.out.2.1; omega) nanB
   rw [← HM.out, ← hy] at hnx
   have HNX : Hid ((s.take (k + 1)).countP nanB = m + (if nanB y = true then 1 else 0)) := hnx
   clear hnx hy
   go_wp2_with fail
   refine (CN.out k hkn _ (HB9.out.thru HBK.out)).mono ?_
   rintro e w10 ⟨rfl, hb⟩
   have HB10 : Hid (Below w9.heap.size w9 w10) := HBK.out.thru hb
   have hck : w10.cell? ⟨gs, k, none⟩ = some (.float .f64 y) := by rw [HS.out _ HB10.out k hkn, ← HY.out]
   rw [← HY.out]
   clear hb
   go_upto_region 19 with (go_at_call 25; with_reducible refine (HIS.out _ _).mono ?_; rintro e w' ⟨rfl, rfl⟩)
   clear hck
   by_cases hk0 : k = 0
   ·have g4 : ¬ (0 : Int) < (k : Int) := by omega
    have g5 : ¬ 0 < k := by omega
    clear hk0
    have h1 : once [(153, 0), (154, 1), (155, 2), (156, 3), (157, 4), (158, 5), (159, 6), (160, 7), (161, 8), (162, 9), (163, 10), (164, 11), (165, 12), (166, 13), (167, 14), (168, 15), (169, 16), (170, 17), (171, 18), (172, 19), (173, 20), (174, 21), (175, 22)] = true := by kernel_rfl
    have h2 : within [(153, 0), (154, 1), (155, 2), (156, 3), (157, 4), (158, 5), (159, 6), (160, 7), (161, 8), (162, 9), (163, 10), (164, 11), (165, 12), (166, 13), (167, 14), (168, 15), (169, 16), (170, 17), (171, 18), (172, 19), (173, 20), (174, 21), (175, 22)] 266 = true := by kernel_rfl
    let S : Nat → (Nat → Value) → World → Prop := fun ix xs W => match ix with
     | 0 => xs 0 = .int .i64 0
     | 1 => xs 1 = .bool false
     | 2 => xs 2 = .bool false
     | 3 => xs 3 = .bool true
     | 4 => xs 4 = .bool false
     | 5 => xs 5 = .bool false
     | 6 => xs 6 = .bool false
     | 7 => xs 7 = .int .i64 (k : Nat)
     | 8 => xs 8 = .bool false
     | 9 => xs 9 = .bool false
     | 10 => True
     | 11 => True
     | 12 => True
     | 13 => True
     | 14 => True
     | 15 => True
     | 16 => True
     | 17 => True
     | 18 => True
     | 19 => True
     | 20 => True
     | 21 => xs 21 = .bool false
     | 22 => xs 22 = .bool false
     | _ => True
    have hstab : ∀ j ys W W', S j ys W → Below W.heap.size W W' → S j ys W' := by
     intro j ys W W' h hb
     match j, h with
     | 0, h => exact h
     | 1, h => exact h
     | 2, h => exact h
     | 3, h => exact h
     | 4, h => exact h
     | 5, h => exact h
     | 6, h => exact h
     | 7, h => exact h
     | 8, h => exact h
     | 9, h => exact h
     | 10, h => exact h
     | 11, h => exact h
     | 12, h => exact h
     | 13, h => exact h
     | 14, h => exact h
     | 15, h => exact h
     | 16, h => exact h
     | 17, h => exact h
     | 18, h => exact h
     | 19, h => exact h
     | 20, h => exact h
     | 21, h => exact h
     | 22, h => exact h
     | _ + 23, h => exact trivial
    refine wp_region_flow3 23 23 [(153, 0), (154, 1), (155, 2), (156, 3), (157, 4), (158, 5), (159, 6), (160, 7), (161, 8), (162, 9), (163, 10), (164, 11), (165, 12), (166, 13), (167, 14), (168, 15), (169, 16), (170, 17), (171, 18), (172, 19), (173, 20), (174, 21), (175, 22)] [] S (fun _ W => (fun W => Below w9.heap.size w9 W) W) HB10.out.drew (by kernel_rfl) (by kernel_rfl) (by kernel_rfl) (by decide) (by kernel_rfl) h1 (by kernel_rfl) (fun j hj => by cases hj) ?_ ?_ ?_
    ·intro j xs ys W e h
     match j, e, h with
     | 0, e, h => exact c_ (e 0 (.inl rfl)) h
     | 1, e, h => exact c_ (e 1 (.inl rfl)) h
     | 2, e, h => exact c_ (e 2 (.inl rfl)) h
     | 3, e, h => exact c_ (e 3 (.inl rfl)) h
     | 4, e, h => exact c_ (e 4 (.inl rfl)) h
     | 5, e, h => exact c_ (e 5 (.inl rfl)) h
     | 6, e, h => exact c_ (e 6 (.inl rfl)) h
     | 7, e, h => exact c_ (e 7 (.inl rfl)) h
     | 8, e, h => exact c_ (e 8 (.inl rfl)) h
     | 9, e, h => exact c_ (e 9 (.inl rfl)) h
     | 10, e, h => exact h
     | 11, e, h => exact h
     | 12, e, h => exact h
     | 13, e, h => exact h
     | 14, e, h => exact h
     | 15, e, h => exact h
     | 16, e, h => exact h
     | 17, e, h => exact h
     | 18, e, h => exact h
     | 19, e, h => exact h
     | 20, e, h => exact h
     | 21, e, h => exact c_ (e 21 (.inl rfl)) h
     | 22, e, h => exact c_ (e 22 (.inl rfl)) h
     | _ + 23, e, h => exact trivial
    ·refine ⟨⟨⟨⟨⟨⟨⟨⟨⟨⟨⟨⟨⟨⟨⟨⟨⟨⟨⟨⟨⟨⟨⟨trivial, ?_⟩, ?_⟩, ?_⟩, ?_⟩, ?_⟩, ?_⟩, ?_⟩, ?_⟩, ?_⟩, ?_⟩, ?_⟩, ?_⟩, ?_⟩, ?_⟩, ?_⟩, ?_⟩, ?_⟩, ?_⟩, ?_⟩, ?_⟩, ?_⟩, ?_⟩, ?_⟩
     ·refine flow3_step _ (some 153) rfl rfl rfl h1 h2 gI gB hstab fun ac xs W Dn he hni hG hS K hK => ?_
      exact op_move (.tmp 25) (.inl rfl) (hK _ _ (he 25) bR nA)
     ·refine flow3_step _ (some 154) rfl rfl rfl h1 h2 gI gB hstab fun ac xs W Dn he hni hG hS K hK => ?_
      have e0 := (he 153).trans (hS 0 (by kernel_rfl))
      refine op_any (.binOp .neq 25 (.tmp 153) (.const (.int .i64 0)) 25) rfl (.bool false) (fun o' ho' => ?_) (hK _ _ rfl bR nA)
      simp only [execOp, ho', e0]
      go_simp
     ·refine flow3_step _ (some 155) rfl rfl rfl h1 h2 gI gB hstab fun ac xs W Dn he hni hG hS K hK => ?_
      exact op_move (.tmp 154) (.inl rfl) (hK _ _ ((he 154).trans (hS 1 (by kernel_rfl))) bR nA)
     ·refine flow3_stepG _ 156 2 155 false rfl rfl rfl (by kernel_rfl) (fun _ => rfl) (fun xs W h => h) (fun d h => by simpa using h) rfl h1 h2 gI gB hstab fun ac xs W Dn he hni hG hS K hK => ?_
      exact op_move (.tmp 26) (.inl rfl) (hK _ _ (he 26) bR nA)
     ·refine flow3_stepG _ 157 2 155 false rfl rfl rfl (by kernel_rfl) (fun _ => rfl) (fun xs W h => h) (fun d h => by simpa using h) rfl h1 h2 gI gB hstab fun ac xs W Dn he hni hG hS K hK => ?_
      have e0 := (he 156).trans (hS 3 (by kernel_rfl))
      refine op_any (.unOp .not 4 (.tmp 156)) rfl (.bool false) (fun o' ho' => ?_) (hK _ _ rfl bR nA)
      simp only [execOp, ho', e0]
      go_simp
     ·refine flow3_step _ (some 158) rfl rfl rfl h1 h2 gI gB hstab fun ac xs W Dn he hni hG hS K hK => ?_
      have e0 := (he 155).trans (hS 2 (by kernel_rfl))
      have e1 := (he 157).trans (hS 4 (by kernel_rfl))
      refine op_any (.pick (.tmp 155) (.const (.bool true)) (.tmp 157)) rfl (.bool false) (fun o' ho' => ?_) (hK _ _ rfl bR nA)
      simp only [execOp, ho', e0, e1]
      go_simp
     ·refine flow3_step _ (some 159) rfl rfl rfl h1 h2 gI gB hstab fun ac xs W Dn he hni hG hS K hK => ?_
      exact op_move (.tmp 158) (.inl rfl) (hK _ _ ((he 158).trans (hS 5 (by kernel_rfl))) bR nA)
     ·refine flow3_stepG _ 160 6 159 false rfl rfl rfl (by kernel_rfl) (fun _ => rfl) (fun xs W h => h) (fun d h => by simpa using h) rfl h1 h2 gI gB hstab fun ac xs W Dn he hni hG hS K hK => ?_
      exact op_move (.tmp 23) (.inl rfl) (hK _ _ (he 23) bR nA)
     ·refine flow3_stepG _ 161 6 159 false rfl rfl rfl (by kernel_rfl) (fun _ => rfl) (fun xs W h => h) (fun d h => by simpa using h) rfl h1 h2 gI gB hstab fun ac xs W Dn he hni hG hS K hK => ?_
      have e0 := (he 160).trans (hS 7 (by kernel_rfl))
      refine op_any (.binOp .gtr 3 (.tmp 160) (.const (.int .i64 0)) 3) rfl (.bool false) (fun o' ho' => ?_) (hK _ _ rfl bR nA)
      simp only [execOp, ho', e0]
      go_simp
     ·refine flow3_stepG _ 162 6 159 false rfl rfl rfl (by kernel_rfl) (fun _ => rfl) (fun xs W h => h) (fun d h => by simpa using h) rfl h1 h2 gI gB hstab fun ac xs W Dn he hni hG hS K hK => ?_
      exact op_move (.tmp 161) (.inl rfl) (hK _ _ ((he 161).trans (hS 8 (by kernel_rfl))) bR nA)
     ·refine flow3_skipV _ 163 9 162 true rfl rfl rfl (by kernel_rfl) (fun _ => rfl) (fun xs W h => .inr h) (fun d h => by simpa using h) rfl h1 h2 (fun D W _ h => h) (fun xs W h => trivial) (by decide)
     ·refine flow3_skipV _ 164 9 162 true rfl rfl rfl (by kernel_rfl) (fun _ => rfl) (fun xs W h => .inr h) (fun d h => by simpa using h) rfl h1 h2 (fun D W _ h => h) (fun xs W h => trivial) (by decide)
     ·refine flow3_skipV _ 165 9 162 true rfl rfl rfl (by kernel_rfl) (fun _ => rfl) (fun xs W h => .inr h) (fun d h => by simpa using h) rfl h1 h2 (fun D W _ h => h) (fun xs W h => trivial) (by decide)
     ·refine flow3_skipV _ 166 9 162 true rfl rfl rfl (by kernel_rfl) (fun _ => rfl) (fun xs W h => .inr h) (fun d h => by simpa using h) rfl h1 h2 (fun D W _ h => h) (fun xs W h => trivial) (by decide)
     ·refine flow3_skipV _ 167 9 162 true rfl rfl rfl (by kernel_rfl) (fun _ => rfl) (fun xs W h => .inr h) (fun d h => by simpa using h) rfl h1 h2 (fun D W _ h => h) (fun xs W h => trivial) (by decide)
     ·refine flow3_skipV _ 168 9 162 true rfl rfl rfl (by kernel_rfl) (fun _ => rfl) (fun xs W h => .inr h) (fun d h => by simpa using h) rfl h1 h2 (fun D W _ h => h) (fun xs W h => trivial) (by decide)
     ·refine flow3_skipV _ 169 9 162 true rfl rfl rfl (by kernel_rfl) (fun _ => rfl) (fun xs W h => .inr h) (fun d h => by simpa using h) rfl h1 h2 (fun D W _ h => h) (fun xs W h => trivial) (by decide)
     ·refine flow3_skipV _ 170 9 162 true rfl rfl rfl (by kernel_rfl) (fun _ => rfl) (fun xs W h => .inr h) (fun d h => by simpa using h) rfl h1 h2 (fun D W _ h => h) (fun xs W h => trivial) (by decide)
     ·refine flow3_skipV _ 171 9 162 true rfl rfl rfl (by kernel_rfl) (fun _ => rfl) (fun xs W h => .inr h) (fun d h => by simpa using h) rfl h1 h2 (fun D W _ h => h) (fun xs W h => trivial) (by decide)
     ·refine flow3_skipV _ 172 9 162 true rfl rfl rfl (by kernel_rfl) (fun _ => rfl) (fun xs W h => .inr h) (fun d h => by simpa using h) rfl h1 h2 (fun D W _ h => h) (fun xs W h => trivial) (by decide)
     ·refine flow3_skipV _ 173 9 162 true rfl rfl rfl (by kernel_rfl) (fun _ => rfl) (fun xs W h => .inr h) (fun d h => by simpa using h) rfl h1 h2 (fun D W _ h => h) (fun xs W h => trivial) (by decide)
     ·refine flow3_stepG _ 174 6 159 false rfl rfl rfl (by kernel_rfl) (fun _ => rfl) (fun xs W h => h) (fun d h => by simpa using h) rfl h1 h2 gI gB hstab fun ac xs W Dn he hni hG hS K hK => ?_
      have e0 := (he 162).trans (hS 9 (by kernel_rfl))
      refine op_any (.pick (.tmp 162) (.tmp 173) (.const (.bool false))) rfl (.bool false) (fun o' ho' => ?_) (hK _ _ rfl bR nA)
      simp only [execOp, ho', e0]
      go_simp
     ·refine flow3_step _ (some 175) rfl rfl rfl h1 h2 gI gB hstab fun ac xs W Dn he hni hG hS K hK => ?_
      have e0 := (he 159).trans (hS 6 (by kernel_rfl))
      have e1 := (he 174).trans (hS 21 (by kernel_rfl))
      refine op_any (.pick (.tmp 159) (.const (.bool true)) (.tmp 174)) rfl (.bool false) (fun o' ho' => ?_) (hK _ _ rfl bR nA)
      simp only [execOp, ho', e0, e1]
      go_simp
    ·intro xs W9 Dn hall hG hS hD
     have s22 : xs 22 = .bool false := hS 22 (by decide)
     have HB11 : Hid (Below w9.heap.size w9 W9) := hG
     simp only [layAll, s22, List.setIfInBounds_toArray, List.set_cons_succ, List.set_cons_zero]
     generalize xs 0 = x0
     generalize xs 1 = x1
     generalize xs 2 = x2
     generalize xs 3 = x3
     generalize xs 4 = x4
     generalize xs 5 = x5
     generalize xs 6 = x6
     generalize xs 7 = x7
     generalize xs 8 = x8
     generalize xs 9 = x9
     generalize xs 10 = x10
     generalize xs 11 = x11
     generalize xs 12 = x12
     generalize xs 13 = x13
     generalize xs 14 = x14
     generalize xs 15 = x15
     generalize xs 16 = x16
     generalize xs 17 = x17
     generalize xs 18 = x18
     generalize xs 19 = x19
     generalize xs 20 = x20
     generalize xs 21 = x21
     clear hS hD hall hstab S s22 hG h1 h2 xs Dn
     show wpList Tryz.prog _ _ [] _ _
     have hck : W9.cell? ⟨gs, k, none⟩ = some (.float .f64 y) := by rw [HS.out _ HB11.out k hkn, ← HY.out]
     have hcl := cls_one9 y
     have HCLS : Hid (∀ W, Calls Tryz.prog 33 #[.float .f64 y] W fun e w' => e = .returned (.int .i64 (clsB y)) ∧ W = w') := fun W => class_any y W hyo.1
     generalize clsB y = cy at hcl HCLS
     cases hny : nanB y
     all_goals
      have HNX2 := HNX.out
      rw [hny] at hcl HNX2
      go_wp2_with (go_at_call 33; with_reducible refine (HCLS.out _).mono ?_; rintro e w' ⟨rfl, rfl⟩)
      go_roundw
      case rel => exact ⟨k + 1, by omega, ⟨by first | rfl | rw [hw1] | go_num, by rw [HNX2]; first | rfl | rw [hw2]; rfl | rw [hw2] | go_num⟩, HB11.out⟩
      case measure => simp [intOf]; omega
   ·obtain ⟨j, hj⟩ : ∃ j, j = k - 1 := ⟨_, rfl⟩
    have hjn : j < n := by omega
    have g4 : (0 : Int) < (k : Int) := by omega
    have g7 : 0 < k := by omega
    have g5 : (0 : Int) ≤ (j : Int) := by omega
    have g6 : (j : Int) < (n : Int) := by omega
    have hw3 : IntKind.i64.wrap ((k : Int) - 1) = (j : Int) := by rw [IntWalk.i64_in _ (by omega)]; omega
    obtain ⟨z, hz⟩ : ∃ z, z = s.getD j 0 := ⟨_, rfl⟩
    have hzo : Oned z := by rw [hz]; exact HEL.out j hjn
    have hle := ord_le9 (a := z) (b := y) (by rw [hz, HY.out]; exact ord_le HSO.out.1 (by omega) (by have := HSO.out.2.1; omega))
    have HZ : Hid (z = s.getD j 0 ∧ True) := ⟨hz, trivial⟩
    have HOR : Hid (∀ W, Calls Tryz.prog 29 #[.float .f64 z, .float .f64 y] W fun e w' => e = .returned (.int .i64 (orderB z y)) ∧ Below W.heap.size W w') := fun W => (order_any z y W hzo.1 hyo.1).mono fun e w' ⟨h1, h2⟩ => ⟨h1, by rw [← h2]; exact Below.refl _ _⟩
    obtain ⟨O, hO⟩ : ∃ O, O = orderB z y := ⟨_, rfl⟩
    rw [← hO] at hle HOR
    clear hO hz hj hzo
    have h1 : once [(153, 0), (154, 1), (155, 2), (156, 3), (157, 4), (158, 5), (159, 6), (160, 7), (161, 8), (162, 9), (163, 10), (164, 11), (165, 12), (166, 13), (167, 14), (168, 15), (169, 16), (170, 17), (171, 18), (172, 19), (173, 20), (174, 21), (175, 22)] = true := by kernel_rfl
    have h2 : within [(153, 0), (154, 1), (155, 2), (156, 3), (157, 4), (158, 5), (159, 6), (160, 7), (161, 8), (162, 9), (163, 10), (164, 11), (165, 12), (166, 13), (167, 14), (168, 15), (169, 16), (170, 17), (171, 18), (172, 19), (173, 20), (174, 21), (175, 22)] 266 = true := by kernel_rfl
    let S : Nat → (Nat → Value) → World → Prop := fun ix xs W => match ix with
     | 0 => xs 0 = .int .i64 0
     | 1 => xs 1 = .bool false
     | 2 => xs 2 = .bool false
     | 3 => xs 3 = .bool true
     | 4 => xs 4 = .bool false
     | 5 => xs 5 = .bool false
     | 6 => xs 6 = .bool false
     | 7 => xs 7 = .int .i64 (k : Nat)
     | 8 => xs 8 = .bool true
     | 9 => xs 9 = .bool true
     | 10 => xs 10 = .slice (some ⟨gs, 0, none⟩) n n
     | 11 => xs 11 = .int .i64 (k : Nat)
     | 12 => xs 12 = .int .i64 (j : Nat)
     | 13 => xs 13 = .pointer (some ⟨gs, j, none⟩)
     | 14 => xs 14 = .float .f64 z
     | 15 => xs 15 = .slice (some ⟨gs, 0, none⟩) n n
     | 16 => xs 16 = .int .i64 (k : Nat)
     | 17 => xs 17 = .pointer (some ⟨gs, k, none⟩)
     | 18 => xs 18 = .float .f64 y
     | 19 => xs 19 = .int .i64 O
     | 20 => xs 20 = .bool false
     | 21 => xs 21 = .bool false
     | 22 => xs 22 = .bool false
     | _ => True
    have hstab : ∀ j ys W W', S j ys W → Below W.heap.size W W' → S j ys W' := by
     intro j ys W W' h hb
     match j, h with
     | 0, h => exact h
     | 1, h => exact h
     | 2, h => exact h
     | 3, h => exact h
     | 4, h => exact h
     | 5, h => exact h
     | 6, h => exact h
     | 7, h => exact h
     | 8, h => exact h
     | 9, h => exact h
     | 10, h => exact h
     | 11, h => exact h
     | 12, h => exact h
     | 13, h => exact h
     | 14, h => exact h
     | 15, h => exact h
     | 16, h => exact h
     | 17, h => exact h
     | 18, h => exact h
     | 19, h => exact h
     | 20, h => exact h
     | 21, h => exact h
     | 22, h => exact h
     | _ + 23, h => exact trivial
    refine wp_region_flow3 23 23 [(153, 0), (154, 1), (155, 2), (156, 3), (157, 4), (158, 5), (159, 6), (160, 7), (161, 8), (162, 9), (163, 10), (164, 11), (165, 12), (166, 13), (167, 14), (168, 15), (169, 16), (170, 17), (171, 18), (172, 19), (173, 20), (174, 21), (175, 22)] [] S (fun _ W => (fun W => Below w9.heap.size w9 W) W) HB10.out.drew (by kernel_rfl) (by kernel_rfl) (by kernel_rfl) (by decide) (by kernel_rfl) h1 (by kernel_rfl) (fun j hj => by cases hj) ?_ ?_ ?_
    ·intro j xs ys W e h
     match j, e, h with
     | 0, e, h => exact c_ (e 0 (.inl rfl)) h
     | 1, e, h => exact c_ (e 1 (.inl rfl)) h
     | 2, e, h => exact c_ (e 2 (.inl rfl)) h
     | 3, e, h => exact c_ (e 3 (.inl rfl)) h
     | 4, e, h => exact c_ (e 4 (.inl rfl)) h
     | 5, e, h => exact c_ (e 5 (.inl rfl)) h
     | 6, e, h => exact c_ (e 6 (.inl rfl)) h
     | 7, e, h => exact c_ (e 7 (.inl rfl)) h
     | 8, e, h => exact c_ (e 8 (.inl rfl)) h
     | 9, e, h => exact c_ (e 9 (.inl rfl)) h
     | 10, e, h => exact c_ (e 10 (.inl rfl)) h
     | 11, e, h => exact c_ (e 11 (.inl rfl)) h
     | 12, e, h => exact c_ (e 12 (.inl rfl)) h
     | 13, e, h => exact c_ (e 13 (.inl rfl)) h
     | 14, e, h => exact c_ (e 14 (.inl rfl)) h
     | 15, e, h => exact c_ (e 15 (.inl rfl)) h
     | 16, e, h => exact c_ (e 16 (.inl rfl)) h
     | 17, e, h => exact c_ (e 17 (.inl rfl)) h
     | 18, e, h => exact c_ (e 18 (.inl rfl)) h
     | 19, e, h => exact c_ (e 19 (.inl rfl)) h
     | 20, e, h => exact c_ (e 20 (.inl rfl)) h
     | 21, e, h => exact c_ (e 21 (.inl rfl)) h
     | 22, e, h => exact c_ (e 22 (.inl rfl)) h
     | _ + 23, e, h => exact trivial
    ·refine ⟨⟨⟨⟨⟨⟨⟨⟨⟨⟨⟨⟨⟨⟨⟨⟨⟨⟨⟨⟨⟨⟨⟨trivial, ?_⟩, ?_⟩, ?_⟩, ?_⟩, ?_⟩, ?_⟩, ?_⟩, ?_⟩, ?_⟩, ?_⟩, ?_⟩, ?_⟩, ?_⟩, ?_⟩, ?_⟩, ?_⟩, ?_⟩, ?_⟩, ?_⟩, ?_⟩, ?_⟩, ?_⟩, ?_⟩
     ·refine flow3_step _ (some 153) rfl rfl rfl h1 h2 gI gB hstab fun ac xs W Dn he hni hG hS K hK => ?_
      exact op_move (.tmp 25) (.inl rfl) (hK _ _ (he 25) bR nA)
     ·refine flow3_step _ (some 154) rfl rfl rfl h1 h2 gI gB hstab fun ac xs W Dn he hni hG hS K hK => ?_
      have e0 := (he 153).trans (hS 0 (by kernel_rfl))
      refine op_any (.binOp .neq 25 (.tmp 153) (.const (.int .i64 0)) 25) rfl (.bool false) (fun o' ho' => ?_) (hK _ _ rfl bR nA)
      simp only [execOp, ho', e0]
      go_simp
     ·refine flow3_step _ (some 155) rfl rfl rfl h1 h2 gI gB hstab fun ac xs W Dn he hni hG hS K hK => ?_
      exact op_move (.tmp 154) (.inl rfl) (hK _ _ ((he 154).trans (hS 1 (by kernel_rfl))) bR nA)
     ·refine flow3_stepG _ 156 2 155 false rfl rfl rfl (by kernel_rfl) (fun _ => rfl) (fun xs W h => h) (fun d h => by simpa using h) rfl h1 h2 gI gB hstab fun ac xs W Dn he hni hG hS K hK => ?_
      exact op_move (.tmp 26) (.inl rfl) (hK _ _ (he 26) bR nA)
     ·refine flow3_stepG _ 157 2 155 false rfl rfl rfl (by kernel_rfl) (fun _ => rfl) (fun xs W h => h) (fun d h => by simpa using h) rfl h1 h2 gI gB hstab fun ac xs W Dn he hni hG hS K hK => ?_
      have e0 := (he 156).trans (hS 3 (by kernel_rfl))
      refine op_any (.unOp .not 4 (.tmp 156)) rfl (.bool false) (fun o' ho' => ?_) (hK _ _ rfl bR nA)
      simp only [execOp, ho', e0]
      go_simp
     ·refine flow3_step _ (some 158) rfl rfl rfl h1 h2 gI gB hstab fun ac xs W Dn he hni hG hS K hK => ?_
      have e0 := (he 155).trans (hS 2 (by kernel_rfl))
      have e1 := (he 157).trans (hS 4 (by kernel_rfl))
      refine op_any (.pick (.tmp 155) (.const (.bool true)) (.tmp 157)) rfl (.bool false) (fun o' ho' => ?_) (hK _ _ rfl bR nA)
      simp only [execOp, ho', e0, e1]
      go_simp
     ·refine flow3_step _ (some 159) rfl rfl rfl h1 h2 gI gB hstab fun ac xs W Dn he hni hG hS K hK => ?_
      exact op_move (.tmp 158) (.inl rfl) (hK _ _ ((he 158).trans (hS 5 (by kernel_rfl))) bR nA)
     ·refine flow3_stepG _ 160 6 159 false rfl rfl rfl (by kernel_rfl) (fun _ => rfl) (fun xs W h => h) (fun d h => by simpa using h) rfl h1 h2 gI gB hstab fun ac xs W Dn he hni hG hS K hK => ?_
      exact op_move (.tmp 23) (.inl rfl) (hK _ _ (he 23) bR nA)
     ·refine flow3_stepG _ 161 6 159 false rfl rfl rfl (by kernel_rfl) (fun _ => rfl) (fun xs W h => h) (fun d h => by simpa using h) rfl h1 h2 gI gB hstab fun ac xs W Dn he hni hG hS K hK => ?_
      have e0 := (he 160).trans (hS 7 (by kernel_rfl))
      refine op_any (.binOp .gtr 3 (.tmp 160) (.const (.int .i64 0)) 3) rfl (.bool true) (fun o' ho' => ?_) (hK _ _ rfl bR nA)
      simp only [execOp, ho', e0]
      go_simp
     ·refine flow3_stepG _ 162 6 159 false rfl rfl rfl (by kernel_rfl) (fun _ => rfl) (fun xs W h => h) (fun d h => by simpa using h) rfl h1 h2 gI gB hstab fun ac xs W Dn he hni hG hS K hK => ?_
      exact op_move (.tmp 161) (.inl rfl) (hK _ _ ((he 161).trans (hS 8 (by kernel_rfl))) bR nA)
     ·refine flow3_stepG _ 163 9 162 true rfl rfl rfl (by kernel_rfl) (fun _ => rfl) (fun xs W h => h) (fun d h => by simpa using h) rfl h1 h2 gI gB hstab fun ac xs W Dn he hni hG hS K hK => ?_
      exact op_move (.tmp 21) (.inl rfl) (hK _ _ (he 21) bR nA)
     ·refine flow3_stepG _ 164 9 162 true rfl rfl rfl (by kernel_rfl) (fun _ => rfl) (fun xs W h => h) (fun d h => by simpa using h) rfl h1 h2 gI gB hstab fun ac xs W Dn he hni hG hS K hK => ?_
      exact op_move (.tmp 23) (.inl rfl) (hK _ _ (he 23) bR nA)
     ·refine flow3_stepG _ 165 9 162 true rfl rfl rfl (by kernel_rfl) (fun _ => rfl) (fun xs W h => h) (fun d h => by simpa using h) rfl h1 h2 gI gB hstab fun ac xs W Dn he hni hG hS K hK => ?_
      have e0 := (he 164).trans (hS 11 (by kernel_rfl))
      refine op_any (.binOp .sub 3 (.tmp 164) (.const (.int .i64 1)) 3) rfl (.int .i64 (j : Nat)) (fun o' ho' => ?_) (hK _ _ rfl bR nA)
      simp only [execOp, ho', e0]
      go_simp
     ·refine flow3_stepG _ 166 9 162 true rfl rfl rfl (by kernel_rfl) (fun _ => rfl) (fun xs W h => h) (fun d h => by simpa using h) rfl h1 h2 gI gB hstab fun ac xs W Dn he hni hG hS K hK => ?_
      have e0 := (he 163).trans (hS 10 (by kernel_rfl))
      have e1 := (he 165).trans (hS 12 (by kernel_rfl))
      refine op_any (.indexAddr 40 (.tmp 163) (.tmp 165)) rfl (.pointer (some ⟨gs, j, none⟩)) (fun o' ho' => ?_) (hK _ _ rfl bR nA)
      simp only [execOp, ho', e0, e1]
      go_simp
     ·refine flow3_stepG _ 167 9 162 true rfl rfl rfl (by kernel_rfl) (fun _ => rfl) (fun xs W h => h) (fun d h => by simpa using h) rfl h1 h2 gI gB hstab fun ac xs W Dn he hni hG hS K hK => ?_
      have hc := (HS.out W hG j hjn).trans (by rw [← HZ.out.1])
      have e0 := (he 166).trans (hS 13 (by kernel_rfl))
      refine op_any (.load 24 (.tmp 166)) rfl (.float .f64 z) (fun o' ho' => ?_) (hK _ _ rfl bR nA)
      simp only [execOp, ho', e0]
      go_simp
     ·refine flow3_stepG _ 168 9 162 true rfl rfl rfl (by kernel_rfl) (fun _ => rfl) (fun xs W h => h) (fun d h => by simpa using h) rfl h1 h2 gI gB hstab fun ac xs W Dn he hni hG hS K hK => ?_
      exact op_move (.tmp 21) (.inl rfl) (hK _ _ (he 21) bR nA)
     ·refine flow3_stepG _ 169 9 162 true rfl rfl rfl (by kernel_rfl) (fun _ => rfl) (fun xs W h => h) (fun d h => by simpa using h) rfl h1 h2 gI gB hstab fun ac xs W Dn he hni hG hS K hK => ?_
      exact op_move (.tmp 23) (.inl rfl) (hK _ _ (he 23) bR nA)
     ·refine flow3_stepG _ 170 9 162 true rfl rfl rfl (by kernel_rfl) (fun _ => rfl) (fun xs W h => h) (fun d h => by simpa using h) rfl h1 h2 gI gB hstab fun ac xs W Dn he hni hG hS K hK => ?_
      have e0 := (he 168).trans (hS 15 (by kernel_rfl))
      have e1 := (he 169).trans (hS 16 (by kernel_rfl))
      refine op_any (.indexAddr 40 (.tmp 168) (.tmp 169)) rfl (.pointer (some ⟨gs, k, none⟩)) (fun o' ho' => ?_) (hK _ _ rfl bR nA)
      simp only [execOp, ho', e0, e1]
      go_simp
     ·refine flow3_stepG _ 171 9 162 true rfl rfl rfl (by kernel_rfl) (fun _ => rfl) (fun xs W h => h) (fun d h => by simpa using h) rfl h1 h2 gI gB hstab fun ac xs W Dn he hni hG hS K hK => ?_
      have hc := (HS.out W hG k hkn).trans (by rw [← HY.out])
      have e0 := (he 170).trans (hS 17 (by kernel_rfl))
      refine op_any (.load 24 (.tmp 170)) rfl (.float .f64 y) (fun o' ho' => ?_) (hK _ _ rfl bR nA)
      simp only [execOp, ho', e0]
      go_simp
     ·refine flow3_stepG _ 172 9 162 true rfl rfl rfl (by kernel_rfl) (fun _ => rfl) (fun xs W h => h) (fun d h => by simpa using h) rfl h1 h2 gI gB hstab fun ac xs W Dn he hni hG hS K hK => ?_
      have e0 := (he 167).trans (hS 14 (by kernel_rfl))
      have e1 := (he 171).trans (hS 18 (by kernel_rfl))
      refine op_call 29 _ _ rfl _ (by simp only [List.map, e0, e1]) (by go_simp) (HOR.out W) ?_
      rintro e' W' ⟨rfl, hb'⟩
      exact ⟨_, rfl, hK _ _ (rfl) hb' nA⟩
     ·refine flow3_stepG _ 173 9 162 true rfl rfl rfl (by kernel_rfl) (fun _ => rfl) (fun xs W h => h) (fun d h => by simpa using h) rfl h1 h2 gI gB hstab fun ac xs W Dn he hni hG hS K hK => ?_
      have e0 := (he 172).trans (hS 19 (by kernel_rfl))
      refine op_any (.binOp .gtr 3 (.tmp 172) (.const (.int .i64 0)) 3) rfl (.bool false) (fun o' ho' => ?_) (hK _ _ rfl bR nA)
      simp only [execOp, ho', e0]
      go_simp
     ·refine flow3_stepG _ 174 6 159 false rfl rfl rfl (by kernel_rfl) (fun _ => rfl) (fun xs W h => h) (fun d h => by simpa using h) rfl h1 h2 gI gB hstab fun ac xs W Dn he hni hG hS K hK => ?_
      have e0 := (he 162).trans (hS 9 (by kernel_rfl))
      have e1 := (he 173).trans (hS 20 (by kernel_rfl))
      refine op_any (.pick (.tmp 162) (.tmp 173) (.const (.bool false))) rfl (.bool false) (fun o' ho' => ?_) (hK _ _ rfl bR nA)
      simp only [execOp, ho', e0, e1]
      go_simp
     ·refine flow3_step _ (some 175) rfl rfl rfl h1 h2 gI gB hstab fun ac xs W Dn he hni hG hS K hK => ?_
      have e0 := (he 159).trans (hS 6 (by kernel_rfl))
      have e1 := (he 174).trans (hS 21 (by kernel_rfl))
      refine op_any (.pick (.tmp 159) (.const (.bool true)) (.tmp 174)) rfl (.bool false) (fun o' ho' => ?_) (hK _ _ rfl bR nA)
      simp only [execOp, ho', e0, e1]
      go_simp
    ·intro xs W9 Dn hall hG hS hD
     have s22 : xs 22 = .bool false := hS 22 (by decide)
     have HB11 : Hid (Below w9.heap.size w9 W9) := hG
     simp only [layAll, s22, List.setIfInBounds_toArray, List.set_cons_succ, List.set_cons_zero]
     generalize xs 0 = x0
     generalize xs 1 = x1
     generalize xs 2 = x2
     generalize xs 3 = x3
     generalize xs 4 = x4
     generalize xs 5 = x5
     generalize xs 6 = x6
     generalize xs 7 = x7
     generalize xs 8 = x8
     generalize xs 9 = x9
     generalize xs 10 = x10
     generalize xs 11 = x11
     generalize xs 12 = x12
     generalize xs 13 = x13
     generalize xs 14 = x14
     generalize xs 15 = x15
     generalize xs 16 = x16
     generalize xs 17 = x17
     generalize xs 18 = x18
     generalize xs 19 = x19
     generalize xs 20 = x20
     generalize xs 21 = x21
     clear hS hD hall hstab S s22 hG h1 h2 xs Dn
     show wpList Tryz.prog _ _ [] _ _
     have hck : W9.cell? ⟨gs, k, none⟩ = some (.float .f64 y) := by rw [HS.out _ HB11.out k hkn, ← HY.out]
     have hcl := cls_one9 y
     have HCLS : Hid (∀ W, Calls Tryz.prog 33 #[.float .f64 y] W fun e w' => e = .returned (.int .i64 (clsB y)) ∧ W = w') := fun W => class_any y W hyo.1
     generalize clsB y = cy at hcl HCLS
     cases hny : nanB y
     all_goals
      have HNX2 := HNX.out
      rw [hny] at hcl HNX2
      go_wp2_with (go_at_call 33; with_reducible refine (HCLS.out _).mono ?_; rintro e w' ⟨rfl, rfl⟩)
      go_roundw
      case rel => exact ⟨k + 1, by omega, ⟨by first | rfl | rw [hw1] | go_num, by rw [HNX2]; first | rfl | rw [hw2]; rfl | rw [hw2] | go_num⟩, HB11.out⟩
      case measure => simp [intOf]; omega
  ·obtain rfl : k = n := by omega
   have hmN : m = N := by rw [HM.out, List.take_of_length_le (by have := HSO.out.2.1; omega), HSO.out.2.2]
   subst hmN
   clear hmk hk hkn
   have HB11 : Hid (Below w2.heap.size w2 wr) := HB9.out.thru HBK.out
   cases nx : nanB x
   ·have hsum := HF5.out nx
    rw [nx] at HIX
    go_wp2_with (go_at_call 34; with_reducible refine (HIX.out _).mono ?_; rintro e w' ⟨rfl, rfl⟩)
    by_cases hke0 : ke = 0
    ·have q1 := HR3.out true nx hke0
     have q2 := HR3.out false nx hke0
     rw [q1] at C8
     rw [q2] at C9
     subst hke0
     have w4e : IntKind.i64.wrap ((kl : Int) + (kg : Int)) = (kl : Int) + kg := by rw [IntWalk.i64_in _ (by omega)]
     have w5e : IntKind.i64.wrap ((kl : Int) + kg + (m : Int)) = (k : Int) := by rw [IntWalk.i64_in _ (by omega)]; omega
     have e1 : (er != 0) = true := by simpa using hn0
     clear q1 q2 hsum HR1 HR2 HR3 HF4 HF5 nx
     refine (C8.out _ HB11.out).mono ?_
     rintro e w12 ⟨rfl, hb⟩
     have HB12 : Hid (Below w2.heap.size w2 w12) := HB11.out.thru hb
     clear hb C8
     go_wp2_with fail
     refine (C9.out _ HB12.out).mono ?_
     rintro e w13 ⟨rfl, hb⟩
     have HB13 : Hid (Below w2.heap.size w2 w13) := HB12.out.thru hb
     clear hb C9
     go_wp2_with fail
     go_ret
     exact ⟨by simp, HBW.out.thru HB13.out⟩
    ·have q1 := HR1.out nx (by omega)
     have q2 := HR2.out nx (by omega)
     rw [q1] at C8
     rw [q2] at C9
     have e0 : ((ke : Int) == 0) = false := by rw [beq_eq_false_iff_ne]; omega
     have w3e : IntKind.i64.wrap ((kl : Int) + (ke : Int)) = (kl : Int) + ke := by rw [IntWalk.i64_in _ (by omega)]
     have w4e : IntKind.i64.wrap ((kl : Int) + ke + (kg : Int)) = (kl : Int) + ke + kg := by rw [IntWalk.i64_in _ (by omega)]
     have w5e : IntKind.i64.wrap ((kl : Int) + ke + kg + (m : Int)) = (k : Int) := by rw [IntWalk.i64_in _ (by omega)]; omega
     have w6e : IntKind.i64.wrap ((kl : Int) + 1) = (kl : Int) + 1 := by rw [IntWalk.i64_in _ (by omega)]
     have w7e : IntKind.i64.wrap ((kg : Int) + 1) = (kg : Int) + 1 := by rw [IntWalk.i64_in _ (by omega)]
     clear q1 q2 hsum HR1 HR2 HR3 HF4 HF5 nx hke0 hn0
     refine (C8.out _ HB11.out).mono ?_
     rintro e w12 ⟨rfl, hb⟩
     have HB12 : Hid (Below w2.heap.size w2 w12) := HB11.out.thru hb
     clear hb C8
     go_wp2_with fail
     refine (C9.out _ HB12.out).mono ?_
     rintro e w13 ⟨rfl, hb⟩
     have HB13 : Hid (Below w2.heap.size w2 w13) := HB12.out.thru hb
     clear hb C9
     go_wp2_with fail
     go_ret
     exact ⟨by simp, HBW.out.thru HB13.out⟩
   ·obtain ⟨z1, z2, z3⟩ := HF4.out nx
    rw [nx] at HIX
    subst z1 z2 z3
    clear HF4 HF5 HR1 HR2 HR3 nx
    go_wp2_with (go_at_call 34; with_reducible refine (HIX.out _).mono ?_; rintro e w' ⟨rfl, rfl⟩)
    go_ret
    exact ⟨by simp, HBW.out.thru HB11.out⟩
end Go.Proofs.YtlbokicainimnaaGreatDoor
