import Derived.Test.YtlbokicainimnaaGreatDoorQIE
import Derived.Test.YtlbokicainimnaaGreatDoorQIH
set_option maxRecDepth 100000
namespace Go.Proofs.YtlbokicainimnaaGreatDoor
open Go Go.RowKit
open Go.Lib hiding intOf
set_option maxHeartbeats 8000000 in
theorem orderShares_walk {a : Option Addr} {n c : Nat} {l : List Nat} (p : Nat) (w : World) (hn : l.length = n) (hmax : n * 8 ≤ 140737488351232) (hl : ∀ x ∈ l, W64 x) (hcell : UIn w a n l) (hp : W64 p) (htab : Tab w) :
  Calls Tryz.prog 5 #[.slice a n c,.int .u64 (p : Nat)] w fun e w'=>e = .returned (.bool true) ∧ Below w.heap.size w w':=by
 have HAW : Hid (Calls Tryz.prog 18 #[] w fun e w'=>e = .returned (.bool true) ∧ Below w.heap.size w w'):=awake9_v w htab
 have HFL : Hid (∀ W,Below w.heap.size w W → Calls Tryz.prog 19 #[.slice a n c] W fun e w'=>(∃ g cp,e = .returned (.tuple #[.slice (some ⟨g,0,none⟩) n cp,.slice (some ⟨g,0,none⟩) (n + 8 : Nat) cp]) ∧ FOn w' W.heap.size (.slice (some ⟨g,0,none⟩) (n + 8 : Nat) cp) (n + 8) (l ++ List.replicate 8 mark9)) ∧ Below W.heap.size W w'):=fun W hW=>floats9_v W hn hmax (hcell.below hW)
 have HIS : Hid (∀ x W,Calls Tryz.prog 25 #[.float .f64 x,.int .u64 (x : Nat)] W fun e w'=>e = .returned (.bool true) ∧ W = w'):=fun x W=>by
  have:=is9_v x x W
  rwa [decide_eq_true rfl] at this
 obtain ⟨x1,e1,hX⟩ : ∃ x e,shareA l p = (x,e):=⟨_,_,rfl⟩
 obtain ⟨x2,e2,hY⟩ : ∃ x e,shareA l 4602678819172646912 = (x,e):=⟨_,_,rfl⟩
 have HC0 : Hid (UIn w a n l ∧ Tab w ∧ (∀ x ∈ l,W64 x) ∧ W64 p):=⟨hcell,htab,hl,hp⟩
 clear hcell htab hl hp
 go_enter Tryz.func5,Tryz.ntmps5
 go_wp2_with fail
 refine Calls.mono HAW.out ?_
 rintro e w1 ⟨rfl,hb1⟩
 go_wp2_with fail
 refine (HFL.out _ hb1).mono ?_
 rintro e w2 ⟨⟨g,cp,rfl,ho⟩,hb2⟩
 have HBW : Hid (Below w.heap.size w w2):=hb1.thru hb2
 have HIN : Hid (∀ W,Below w2.heap.size w2 W → FIn W (some ⟨g,0,none⟩) n l ∧ FIn W (some ⟨g,0,none⟩) (n + 8) (l ++ List.replicate 8 mark9)):=fun W hW=>by
  have h2 : FIn w2 (some ⟨g,0,none⟩) (n + 8) (l ++ List.replicate 8 mark9):=by
   have hz : l ++ List.replicate 8 mark9 = (l ++ List.replicate 8 mark9) ++ []:=by simp
   rw [hz] at ho
   exact ho.fin (by simp [hn]) (Nat.le_refl _)
  exact ⟨(ho.fin (l:=l) (r:=List.replicate 8 mark9) hn.symm (by omega)).below hW,h2.below hW⟩
 have HB2 : Hid (Below w2.heap.size w2 w2):=Below.refl _ _
 clear hb1 hb2 ho HAW HFL
 have hWW : ∀ W,Below w2.heap.size w2 W → Below w.heap.size w W:=fun W hW=>HBW.out.thru hW
 have C1 : Hid (∀ W,Below w2.heap.size w2 W → Calls Tryz.prog 20 #[.slice (some ⟨g,0,none⟩) n cp,.float .f64 p] W fun e w'=>e = .returned (.tuple #[.float .f64 x1,.int .i64 e1]) ∧ Below W.heap.size W w'):=fun W hW=>by have:=share9_v (c:=cp) p W hn (by omega : n * 8 ≤ 140737488355328) HC0.out.2.2.1 (HIN.out W hW).1 HC0.out.2.2.2 (HC0.out.2.1.below (hWW W hW)); rw [hX] at this; exact this
 have C2 : Hid (∀ W,Below w2.heap.size w2 W → Calls Tryz.prog 21 #[.slice (some ⟨g,0,none⟩) n cp] W fun e w'=>e = .returned (.tuple #[.float .f64 x2,.int .i64 e2]) ∧ Below W.heap.size W w'):=fun W hW=>by have:=middle9_v (c:=cp) W hn (by omega : n * 8 ≤ 140737488355328) HC0.out.2.2.1 (HIN.out W hW).1 (HC0.out.2.1.below (hWW W hW)); rw [hY] at this; exact this
 have C3 : Hid (∀ W,Below w2.heap.size w2 W → Calls Tryz.prog 22 #[.slice a n c,.int .u64 (p : Nat)] W fun e w'=>e = .returned (.tuple #[.int .u64 (x1 : Nat),.int .i64 e1]) ∧ Below W.heap.size W w'):=fun W hW=>by have:=rshare9_v (c:=c) p W hn (by omega : n * 8 ≤ 140737488355328) HC0.out.2.2.1 (HC0.out.1.below (hWW W hW)) HC0.out.2.2.2; rw [hX] at this; exact this
 have C4 : Hid (∀ W,Below w2.heap.size w2 W → Calls Tryz.prog 23 #[.slice a n c] W fun e w'=>e = .returned (.tuple #[.int .u64 (x2 : Nat),.int .i64 e2]) ∧ Below W.heap.size W w'):=fun W hW=>by have:=rmiddle9_v (c:=c) W hn (by omega : n * 8 ≤ 140737488355328) HC0.out.2.2.1 (HC0.out.1.below (hWW W hW)); rw [hY] at this; exact this
 have C5 : Hid (∀ W,Below w2.heap.size w2 W → Calls Tryz.prog 24 #[.slice (some ⟨g,0,none⟩) (n + 8 : Nat) cp,.slice a n c] W fun e w'=>e = .returned (.bool true) ∧ Below W.heap.size W w'):=fun W hW=>whole9_v W hn hmax (HC0.out.1.below (hWW W hW)) (HIN.out W hW).2
 clear hWW hX hY HC0 HIN hn
 go_wp2_with fail
 refine (C1.out _ HB2.out).mono ?_
 rintro e w3 ⟨rfl,hb⟩
 have HB3 : Hid (Below w2.heap.size w2 w3):=HB2.out.thru hb
 clear hb HB2 C1
 go_wp2_with fail
 refine (C2.out _ HB3.out).mono ?_
 rintro e w4 ⟨rfl,hb⟩
 have HB4 : Hid (Below w2.heap.size w2 w4):=HB3.out.thru hb
 clear hb HB3 C2
 go_wp2_with fail
 refine (C3.out _ HB4.out).mono ?_
 rintro e w5 ⟨rfl,hb⟩
 have HB5 : Hid (Below w2.heap.size w2 w5):=HB4.out.thru hb
 clear hb HB4 C3
 go_wp2_with fail
 refine (C4.out _ HB5.out).mono ?_
 rintro e w6 ⟨rfl,hb⟩
 have HB6 : Hid (Below w2.heap.size w2 w6):=HB5.out.thru hb
 clear hb HB5 C4
 go_wp2_with fail
 refine (C5.out _ HB6.out).mono ?_
 rintro e w7 ⟨rfl,hb⟩
 have HB7 : Hid (Below w2.heap.size w2 w7):=HB6.out.thru hb
 clear hb HB6 C5
 go_wp2_with (go_at_call 25; with_reducible refine (HIS.out _ _).mono ?_; rintro e w' ⟨rfl,rfl⟩)
 go_ret
 exact ⟨by simp,HBW.out.thru HB7.out⟩
end Go.Proofs.YtlbokicainimnaaGreatDoor
