import Derived.Test.YtlbokicainimnaaGreatDoorQTB
import Derived.Test.YtlbokicainimnaaGreatDoorQJP
set_option maxRecDepth 100000
namespace Go.Proofs.YtlbokicainimnaaGreatDoor
open Go Go.RowKit
open Go.Lib hiding intOf
def stB (op : Int) (a x : Nat) : Bool:=
 if op = 10 then equalB a x else if op = 11 then !equalB a x else if op = 12 then lessB a x else if op = 13 then (lessB a x || equalB a x) else if op = 14 then lessB x a else (lessB x a || equalB a x)
def cntA (l : List Nat) (op : Int) (x : Nat) : Nat × Int:=if op < 10 ∨ 15 < op then (0,1) else (l.countP (fun a=>stB op a x),0)
theorem ord_opts {a x : Nat} (ha : W64 a) (hx : W64 x) : ∃ o,Go.FloatKind.f64.format.order a x = o ∧ equalB a x = (o == some .eq) ∧ lessB a x = (o == some .lt) ∧ lessB x a = (o == some .gt):=by
 refine ⟨_,rfl,(equal_D a x ha hx).symm,(less_D a x ha hx).symm,?_⟩
 rw [← less_D x a hx ha]
 show (Ieee.double.order x a == some .lt) = (Ieee.double.order a x == some .gt)
 cases na : nanB a
 ·cases nx : nanB x
  ·rw [ord_D x a hx ha nx na,ord_D a x ha hx na nx]
   rw [Bool.eq_iff_iff]
   simp only [beq_iff_eq,Option.some.injEq]
   rw [Int.compare_eq_lt,Int.compare_eq_gt]
  ·rw [ord_D_nan_left x a nx,ord_D_nan_right a x nx]; rfl
 ·rw [ord_D_nan_right x a na,ord_D_nan_left a x na]; rfl
theorem count_c1 (a x g : Nat) (W : World) (ha : W64 a) (hx : W64 x) (hc : W.cell? ⟨g,0,none⟩ = some (.float .f64 x)) : Calls Tryz.prog 71 #[.float .f64 a,.pointer (some ⟨g,0,none⟩)] W fun e w'=>e = .returned (.bool (stB 10 a x)) ∧ W = w':=by
 obtain ⟨o,ho,h1,h2,h3⟩:=ord_opts ha hx
 unfold stB
 rw [h1,h2,h3]
 clear h1 h2 h3
 rcases o with _ | _ | _ | _
 all_goals
  go_enter Tryz.func71,Tryz.ntmps71
  go_wp2
  go_ret
  exact ⟨rfl,rfl⟩
theorem count_c2 (a x g : Nat) (W : World) (ha : W64 a) (hx : W64 x) (hc : W.cell? ⟨g,0,none⟩ = some (.float .f64 x)) : Calls Tryz.prog 72 #[.float .f64 a,.pointer (some ⟨g,0,none⟩)] W fun e w'=>e = .returned (.bool (stB 11 a x)) ∧ W = w':=by
 obtain ⟨o,ho,h1,h2,h3⟩:=ord_opts ha hx
 unfold stB
 rw [h1,h2,h3]
 clear h1 h2 h3
 rcases o with _ | _ | _ | _
 all_goals
  go_enter Tryz.func72,Tryz.ntmps72
  go_wp2
  go_ret
  exact ⟨rfl,rfl⟩
theorem count_c3 (a x g : Nat) (W : World) (ha : W64 a) (hx : W64 x) (hc : W.cell? ⟨g,0,none⟩ = some (.float .f64 x)) : Calls Tryz.prog 73 #[.float .f64 a,.pointer (some ⟨g,0,none⟩)] W fun e w'=>e = .returned (.bool (stB 12 a x)) ∧ W = w':=by
 obtain ⟨o,ho,h1,h2,h3⟩:=ord_opts ha hx
 unfold stB
 rw [h1,h2,h3]
 clear h1 h2 h3
 rcases o with _ | _ | _ | _
 all_goals
  go_enter Tryz.func73,Tryz.ntmps73
  go_wp2
  go_ret
  exact ⟨rfl,rfl⟩
theorem count_c4 (a x g : Nat) (W : World) (ha : W64 a) (hx : W64 x) (hc : W.cell? ⟨g,0,none⟩ = some (.float .f64 x)) : Calls Tryz.prog 74 #[.float .f64 a,.pointer (some ⟨g,0,none⟩)] W fun e w'=>e = .returned (.bool (stB 13 a x)) ∧ W = w':=by
 obtain ⟨o,ho,h1,h2,h3⟩:=ord_opts ha hx
 unfold stB
 rw [h1,h2,h3]
 clear h1 h2 h3
 rcases o with _ | _ | _ | _
 all_goals
  go_enter Tryz.func74,Tryz.ntmps74
  go_wp2
  go_ret
  exact ⟨rfl,rfl⟩
theorem count_c5 (a x g : Nat) (W : World) (ha : W64 a) (hx : W64 x) (hc : W.cell? ⟨g,0,none⟩ = some (.float .f64 x)) : Calls Tryz.prog 75 #[.float .f64 a,.pointer (some ⟨g,0,none⟩)] W fun e w'=>e = .returned (.bool (stB 14 a x)) ∧ W = w':=by
 obtain ⟨o,ho,h1,h2,h3⟩:=ord_opts ha hx
 unfold stB
 rw [h1,h2,h3]
 clear h1 h2 h3
 rcases o with _ | _ | _ | _
 all_goals
  go_enter Tryz.func75,Tryz.ntmps75
  go_wp2
  go_ret
  exact ⟨rfl,rfl⟩
theorem count_c6 (a x g : Nat) (W : World) (ha : W64 a) (hx : W64 x) (hc : W.cell? ⟨g,0,none⟩ = some (.float .f64 x)) : Calls Tryz.prog 76 #[.float .f64 a,.pointer (some ⟨g,0,none⟩)] W fun e w'=>e = .returned (.bool (stB 15 a x)) ∧ W = w':=by
 obtain ⟨o,ho,h1,h2,h3⟩:=ord_opts ha hx
 unfold stB
 rw [h1,h2,h3]
 clear h1 h2 h3
 rcases o with _ | _ | _ | _
 all_goals
  go_enter Tryz.func76,Tryz.ntmps76
  go_wp2
  go_ret
  exact ⟨rfl,rfl⟩
theorem cntP_next {l : List Nat} {k : Nat} (h : k < l.length) (p : Nat → Bool) : (l.take (k + 1)).countP p = (l.take k).countP p + (if p (l.getD k 0) = true then 1 else 0):=by
 rw [List.take_succ_eq_append_getElem h,List.countP_append]
 have e : l.getD k 0 = l[k]:=by rw [List.getD_eq_getElem?_getD,List.getElem?_eq_getElem h]; rfl
 rw [e]
 congr 1
 simp [List.countP_cons]
theorem cntP_le (l : List Nat) (k : Nat) (p : Nat → Bool) : (l.take k).countP p ≤ k:=Nat.le_trans List.countP_le_length (by simp; omega)
set_option maxHeartbeats 8000000 in
theorem count9_v {a : Option Addr} {n c : Nat} {l : List Nat} (op : Int) (x : Nat) (w : World) (hn : l.length = n) (hmax : n * 8 ≤ 140737488355328) (hl : ∀ x ∈ l, W64 x) (hcell : FIn w a n l) (hx : W64 x) :
  Calls Tryz.prog 30 #[.slice a n c,.int .i64 op,.float .f64 x] w fun e w'=>e = .returned (.tuple #[.int .i64 ((cntA l op x).1 : Nat),.int .i64 (cntA l op x).2]) ∧ Below w.heap.size w w':=by
 have HB0 : Hid (Below w.heap.size w (w.alloc (.cells #[.float .f64 x] 24))):=(Below.refl _ _).alloc (Nat.le_refl _) _
 have HXC : Hid (∀ W,Below (w.alloc (.cells #[.float .f64 x] 24)).heap.size (w.alloc (.cells #[.float .f64 x] 24)) W → W.cell? ⟨w.heap.size,0,none⟩ = some (.float .f64 x)):=fun W hW=>(hW.cell (p:=⟨w.heap.size,0,none⟩) (by simp)).trans (cell_of_row _ _ _ _ _ _ (heap_alloc_new _ _))
 have HFI : Hid (FIn (w.alloc (.cells #[.float .f64 x] 24)) a n l):=hcell.below HB0.out
 have HL : Hid (∀ x ∈ l,W64 x):=hl
 have HLN : Hid (l.length = n):=hn
 by_cases hop : op < 10 ∨ 15 < op
 ·have ht : cntA l op x = (0,1):=by unfold cntA; rw [if_pos hop]
  rw [ht]
  have n1 : ¬ op = 10:=by omega
  have n2 : ¬ op = 11:=by omega
  have n3 : ¬ op = 12:=by omega
  have n4 : ¬ op = 13:=by omega
  have n5 : ¬ op = 14:=by omega
  have n6 : ¬ op = 15:=by omega
  clear hcell hl hop
  go_enter Tryz.func30,Tryz.ntmps30
  go_wp2
  go_ret2
  exact ⟨rfl,HB0.out⟩
 ·have ht : cntA l op x = (l.countP (fun a=>stB op a x),0):=by unfold cntA; rw [if_neg hop]
  rw [ht]
  obtain ⟨p,hp⟩ : ∃ p : Nat → Bool,p = fun a=>stB op a x:=⟨_,rfl⟩
  rw [← hp]
  have HP : Hid (∀ y,stB op y x = p y):=fun y=>by rw [hp]
  clear hp
  rcases (show op = 10 ∨ op = 11 ∨ op = 12 ∨ op = 13 ∨ op = 14 ∨ op = 15 by omega) with rfl | rfl | rfl | rfl | rfl | rfl
  ·have HC : Hid (∀ W y,W64 y → W.cell? ⟨w.heap.size,0,none⟩ = some (.float .f64 x) → Calls Tryz.prog 71 #[.float .f64 y,.pointer (some ⟨w.heap.size,0,none⟩)] W fun e w'=>e = .returned (.bool (p y)) ∧ W = w'):=fun W y hy hc=>by rw [← HP.out y]; exact count_c1 y x _ W hy hx hc
   clear hcell hl hop HP
   go_enter Tryz.func30,Tryz.ntmps30
   go_wp2_with fail
   go_loopw [9,33] (fun cv iv wr=>∃ k : Nat,(k ≤ n ∧ iv = .int .i64 (k : Nat) ∧ cv = .int .i64 (((l.take k).countP p : Nat) : Int)) ∧ Below (w.alloc (.cells #[.float .f64 x] 24)).heap.size (w.alloc (.cells #[.float .f64 x] 24)) wr) (fun _ iv _=>n - (intOf iv).toNat)
   case atStart=>exact ⟨0,⟨Nat.zero_le _,by first | rfl | go_num,by first | rfl | go_num⟩,Below.refl _ _⟩
   case round=>
    obtain ⟨k,⟨hk,rfl,rfl⟩,hb⟩:=hrel
    have HB : Hid _:=hb
    by_cases hkn : k < n
    ·obtain ⟨b,o,rfl,hbb,hcc⟩:=HFI.out (by omega)
     obtain ⟨y,hy⟩ : ∃ y,y = l.getD k 0:=⟨_,rfl⟩
     have hck:=(hb.cell (p:=⟨b,o + k,none⟩) hbb).trans (hcc k hkn)
     rw [← hy] at hck
     have hyw : W64 y:=by rw [hy,List.getD_eq_getElem?_getD,List.getElem?_eq_getElem (by have:=HLN.out; omega)]; exact HL.out _ (List.getElem_mem _)
     have hcl:=HC.out wr y hyw (HXC.out wr hb)
     have hnx:=cntP_next (l:=l) (k:=k) (by have:=HLN.out; omega) p
     rw [← hy] at hnx
     have hle:=cntP_le l k p
     obtain ⟨m,hm⟩ : ∃ m,m = (l.take k).countP p:=⟨_,rfl⟩
     rw [← hm] at hnx hle ⊢
     have hk1 : (k : Int) < n:=by omega
     have hw1 : IntKind.i64.wrap ((k : Int) + 1) = ((k + 1 : Nat) : Int):=by rw [IntWalk.i64_in _ (by omega)]; omega
     have hw2 : IntKind.i64.wrap ((m : Int) + 1) = ((m + 1 : Nat) : Int):=by rw [IntWalk.i64_in _ (by omega)]; omega
     clear hb hcc hy hm
     cases hpy : p y
     ·rw [hpy] at hcl hnx
      have HNX : Hid ((l.take (k + 1)).countP p = m):=by show _ = _; rw [hnx,if_neg (by decide),Nat.add_zero]
      clear hnx
      go_wp2_with fail
      refine Calls.mono hcl ?_
      rintro e w' ⟨rfl,rfl⟩
      go_wp2
      go_roundw
      case rel=>exact ⟨k + 1,⟨by omega,by first | rfl | rw [hw1],by rw [HNX.out]⟩,HB.out⟩
      case measure=>simp [intOf]; omega
     ·rw [hpy] at hcl hnx
      have HNX : Hid ((l.take (k + 1)).countP p = m + 1):=by show _ = _; rw [hnx,if_pos rfl]
      clear hnx
      go_wp2_with fail
      refine Calls.mono hcl ?_
      rintro e w' ⟨rfl,rfl⟩
      go_wp2
      go_roundw
      case rel=>exact ⟨k + 1,⟨by omega,by first | rfl | rw [hw1],by rw [HNX.out]; first | rfl | rw [hw2]⟩,HB.out⟩
      case measure=>simp [intOf]; omega
    ·obtain rfl : k = n:=by omega
     have HTK : Hid (l.take k = l):=by
      have h : l.take l.length = l:=List.take_length
      rw [HLN.out] at h
      exact h
     have hk1 : ¬ (k : Int) < k:=by omega
     clear hb
     go_wp2
     go_ret2
     exact ⟨by rw [HTK.out]; rfl,HB0.out.thru HB.out⟩
  ·have HC : Hid (∀ W y,W64 y → W.cell? ⟨w.heap.size,0,none⟩ = some (.float .f64 x) → Calls Tryz.prog 72 #[.float .f64 y,.pointer (some ⟨w.heap.size,0,none⟩)] W fun e w'=>e = .returned (.bool (p y)) ∧ W = w'):=fun W y hy hc=>by rw [← HP.out y]; exact count_c2 y x _ W hy hx hc
   clear hcell hl hop HP
   go_enter Tryz.func30,Tryz.ntmps30
   go_wp2_with fail
   go_loopw [9,33] (fun cv iv wr=>∃ k : Nat,(k ≤ n ∧ iv = .int .i64 (k : Nat) ∧ cv = .int .i64 (((l.take k).countP p : Nat) : Int)) ∧ Below (w.alloc (.cells #[.float .f64 x] 24)).heap.size (w.alloc (.cells #[.float .f64 x] 24)) wr) (fun _ iv _=>n - (intOf iv).toNat)
   case atStart=>exact ⟨0,⟨Nat.zero_le _,by first | rfl | go_num,by first | rfl | go_num⟩,Below.refl _ _⟩
   case round=>
    obtain ⟨k,⟨hk,rfl,rfl⟩,hb⟩:=hrel
    have HB : Hid _:=hb
    by_cases hkn : k < n
    ·obtain ⟨b,o,rfl,hbb,hcc⟩:=HFI.out (by omega)
     obtain ⟨y,hy⟩ : ∃ y,y = l.getD k 0:=⟨_,rfl⟩
     have hck:=(hb.cell (p:=⟨b,o + k,none⟩) hbb).trans (hcc k hkn)
     rw [← hy] at hck
     have hyw : W64 y:=by rw [hy,List.getD_eq_getElem?_getD,List.getElem?_eq_getElem (by have:=HLN.out; omega)]; exact HL.out _ (List.getElem_mem _)
     have hcl:=HC.out wr y hyw (HXC.out wr hb)
     have hnx:=cntP_next (l:=l) (k:=k) (by have:=HLN.out; omega) p
     rw [← hy] at hnx
     have hle:=cntP_le l k p
     obtain ⟨m,hm⟩ : ∃ m,m = (l.take k).countP p:=⟨_,rfl⟩
     rw [← hm] at hnx hle ⊢
     have hk1 : (k : Int) < n:=by omega
     have hw1 : IntKind.i64.wrap ((k : Int) + 1) = ((k + 1 : Nat) : Int):=by rw [IntWalk.i64_in _ (by omega)]; omega
     have hw2 : IntKind.i64.wrap ((m : Int) + 1) = ((m + 1 : Nat) : Int):=by rw [IntWalk.i64_in _ (by omega)]; omega
     clear hb hcc hy hm
     cases hpy : p y
     ·rw [hpy] at hcl hnx
      have HNX : Hid ((l.take (k + 1)).countP p = m):=by show _ = _; rw [hnx,if_neg (by decide),Nat.add_zero]
      clear hnx
      go_wp2_with fail
      refine Calls.mono hcl ?_
      rintro e w' ⟨rfl,rfl⟩
      go_wp2
      go_roundw
      case rel=>exact ⟨k + 1,⟨by omega,by first | rfl | rw [hw1],by rw [HNX.out]⟩,HB.out⟩
      case measure=>simp [intOf]; omega
     ·rw [hpy] at hcl hnx
      have HNX : Hid ((l.take (k + 1)).countP p = m + 1):=by show _ = _; rw [hnx,if_pos rfl]
      clear hnx
      go_wp2_with fail
      refine Calls.mono hcl ?_
      rintro e w' ⟨rfl,rfl⟩
      go_wp2
      go_roundw
      case rel=>exact ⟨k + 1,⟨by omega,by first | rfl | rw [hw1],by rw [HNX.out]; first | rfl | rw [hw2]⟩,HB.out⟩
      case measure=>simp [intOf]; omega
    ·obtain rfl : k = n:=by omega
     have HTK : Hid (l.take k = l):=by
      have h : l.take l.length = l:=List.take_length
      rw [HLN.out] at h
      exact h
     have hk1 : ¬ (k : Int) < k:=by omega
     clear hb
     go_wp2
     go_ret2
     exact ⟨by rw [HTK.out]; rfl,HB0.out.thru HB.out⟩
  ·have HC : Hid (∀ W y,W64 y → W.cell? ⟨w.heap.size,0,none⟩ = some (.float .f64 x) → Calls Tryz.prog 73 #[.float .f64 y,.pointer (some ⟨w.heap.size,0,none⟩)] W fun e w'=>e = .returned (.bool (p y)) ∧ W = w'):=fun W y hy hc=>by rw [← HP.out y]; exact count_c3 y x _ W hy hx hc
   clear hcell hl hop HP
   go_enter Tryz.func30,Tryz.ntmps30
   go_wp2_with fail
   go_loopw [9,33] (fun cv iv wr=>∃ k : Nat,(k ≤ n ∧ iv = .int .i64 (k : Nat) ∧ cv = .int .i64 (((l.take k).countP p : Nat) : Int)) ∧ Below (w.alloc (.cells #[.float .f64 x] 24)).heap.size (w.alloc (.cells #[.float .f64 x] 24)) wr) (fun _ iv _=>n - (intOf iv).toNat)
   case atStart=>exact ⟨0,⟨Nat.zero_le _,by first | rfl | go_num,by first | rfl | go_num⟩,Below.refl _ _⟩
   case round=>
    obtain ⟨k,⟨hk,rfl,rfl⟩,hb⟩:=hrel
    have HB : Hid _:=hb
    by_cases hkn : k < n
    ·obtain ⟨b,o,rfl,hbb,hcc⟩:=HFI.out (by omega)
     obtain ⟨y,hy⟩ : ∃ y,y = l.getD k 0:=⟨_,rfl⟩
     have hck:=(hb.cell (p:=⟨b,o + k,none⟩) hbb).trans (hcc k hkn)
     rw [← hy] at hck
     have hyw : W64 y:=by rw [hy,List.getD_eq_getElem?_getD,List.getElem?_eq_getElem (by have:=HLN.out; omega)]; exact HL.out _ (List.getElem_mem _)
     have hcl:=HC.out wr y hyw (HXC.out wr hb)
     have hnx:=cntP_next (l:=l) (k:=k) (by have:=HLN.out; omega) p
     rw [← hy] at hnx
     have hle:=cntP_le l k p
     obtain ⟨m,hm⟩ : ∃ m,m = (l.take k).countP p:=⟨_,rfl⟩
     rw [← hm] at hnx hle ⊢
     have hk1 : (k : Int) < n:=by omega
     have hw1 : IntKind.i64.wrap ((k : Int) + 1) = ((k + 1 : Nat) : Int):=by rw [IntWalk.i64_in _ (by omega)]; omega
     have hw2 : IntKind.i64.wrap ((m : Int) + 1) = ((m + 1 : Nat) : Int):=by rw [IntWalk.i64_in _ (by omega)]; omega
     clear hb hcc hy hm
     cases hpy : p y
     ·rw [hpy] at hcl hnx
      have HNX : Hid ((l.take (k + 1)).countP p = m):=by show _ = _; rw [hnx,if_neg (by decide),Nat.add_zero]
      clear hnx
      go_wp2_with fail
      refine Calls.mono hcl ?_
      rintro e w' ⟨rfl,rfl⟩
      go_wp2
      go_roundw
      case rel=>exact ⟨k + 1,⟨by omega,by first | rfl | rw [hw1],by rw [HNX.out]⟩,HB.out⟩
      case measure=>simp [intOf]; omega
     ·rw [hpy] at hcl hnx
      have HNX : Hid ((l.take (k + 1)).countP p = m + 1):=by show _ = _; rw [hnx,if_pos rfl]
      clear hnx
      go_wp2_with fail
      refine Calls.mono hcl ?_
      rintro e w' ⟨rfl,rfl⟩
      go_wp2
      go_roundw
      case rel=>exact ⟨k + 1,⟨by omega,by first | rfl | rw [hw1],by rw [HNX.out]; first | rfl | rw [hw2]⟩,HB.out⟩
      case measure=>simp [intOf]; omega
    ·obtain rfl : k = n:=by omega
     have HTK : Hid (l.take k = l):=by
      have h : l.take l.length = l:=List.take_length
      rw [HLN.out] at h
      exact h
     have hk1 : ¬ (k : Int) < k:=by omega
     clear hb
     go_wp2
     go_ret2
     exact ⟨by rw [HTK.out]; rfl,HB0.out.thru HB.out⟩
  ·have HC : Hid (∀ W y,W64 y → W.cell? ⟨w.heap.size,0,none⟩ = some (.float .f64 x) → Calls Tryz.prog 74 #[.float .f64 y,.pointer (some ⟨w.heap.size,0,none⟩)] W fun e w'=>e = .returned (.bool (p y)) ∧ W = w'):=fun W y hy hc=>by rw [← HP.out y]; exact count_c4 y x _ W hy hx hc
   clear hcell hl hop HP
   go_enter Tryz.func30,Tryz.ntmps30
   go_wp2_with fail
   go_loopw [9,33] (fun cv iv wr=>∃ k : Nat,(k ≤ n ∧ iv = .int .i64 (k : Nat) ∧ cv = .int .i64 (((l.take k).countP p : Nat) : Int)) ∧ Below (w.alloc (.cells #[.float .f64 x] 24)).heap.size (w.alloc (.cells #[.float .f64 x] 24)) wr) (fun _ iv _=>n - (intOf iv).toNat)
   case atStart=>exact ⟨0,⟨Nat.zero_le _,by first | rfl | go_num,by first | rfl | go_num⟩,Below.refl _ _⟩
   case round=>
    obtain ⟨k,⟨hk,rfl,rfl⟩,hb⟩:=hrel
    have HB : Hid _:=hb
    by_cases hkn : k < n
    ·obtain ⟨b,o,rfl,hbb,hcc⟩:=HFI.out (by omega)
     obtain ⟨y,hy⟩ : ∃ y,y = l.getD k 0:=⟨_,rfl⟩
     have hck:=(hb.cell (p:=⟨b,o + k,none⟩) hbb).trans (hcc k hkn)
     rw [← hy] at hck
     have hyw : W64 y:=by rw [hy,List.getD_eq_getElem?_getD,List.getElem?_eq_getElem (by have:=HLN.out; omega)]; exact HL.out _ (List.getElem_mem _)
     have hcl:=HC.out wr y hyw (HXC.out wr hb)
     have hnx:=cntP_next (l:=l) (k:=k) (by have:=HLN.out; omega) p
     rw [← hy] at hnx
     have hle:=cntP_le l k p
     obtain ⟨m,hm⟩ : ∃ m,m = (l.take k).countP p:=⟨_,rfl⟩
     rw [← hm] at hnx hle ⊢
     have hk1 : (k : Int) < n:=by omega
     have hw1 : IntKind.i64.wrap ((k : Int) + 1) = ((k + 1 : Nat) : Int):=by rw [IntWalk.i64_in _ (by omega)]; omega
     have hw2 : IntKind.i64.wrap ((m : Int) + 1) = ((m + 1 : Nat) : Int):=by rw [IntWalk.i64_in _ (by omega)]; omega
     clear hb hcc hy hm
     cases hpy : p y
     ·rw [hpy] at hcl hnx
      have HNX : Hid ((l.take (k + 1)).countP p = m):=by show _ = _; rw [hnx,if_neg (by decide),Nat.add_zero]
      clear hnx
      go_wp2_with fail
      refine Calls.mono hcl ?_
      rintro e w' ⟨rfl,rfl⟩
      go_wp2
      go_roundw
      case rel=>exact ⟨k + 1,⟨by omega,by first | rfl | rw [hw1],by rw [HNX.out]⟩,HB.out⟩
      case measure=>simp [intOf]; omega
     ·rw [hpy] at hcl hnx
      have HNX : Hid ((l.take (k + 1)).countP p = m + 1):=by show _ = _; rw [hnx,if_pos rfl]
      clear hnx
      go_wp2_with fail
      refine Calls.mono hcl ?_
      rintro e w' ⟨rfl,rfl⟩
      go_wp2
      go_roundw
      case rel=>exact ⟨k + 1,⟨by omega,by first | rfl | rw [hw1],by rw [HNX.out]; first | rfl | rw [hw2]⟩,HB.out⟩
      case measure=>simp [intOf]; omega
    ·obtain rfl : k = n:=by omega
     have HTK : Hid (l.take k = l):=by
      have h : l.take l.length = l:=List.take_length
      rw [HLN.out] at h
      exact h
     have hk1 : ¬ (k : Int) < k:=by omega
     clear hb
     go_wp2
     go_ret2
     exact ⟨by rw [HTK.out]; rfl,HB0.out.thru HB.out⟩
  ·have HC : Hid (∀ W y,W64 y → W.cell? ⟨w.heap.size,0,none⟩ = some (.float .f64 x) → Calls Tryz.prog 75 #[.float .f64 y,.pointer (some ⟨w.heap.size,0,none⟩)] W fun e w'=>e = .returned (.bool (p y)) ∧ W = w'):=fun W y hy hc=>by rw [← HP.out y]; exact count_c5 y x _ W hy hx hc
   clear hcell hl hop HP
   go_enter Tryz.func30,Tryz.ntmps30
   go_wp2_with fail
   go_loopw [9,33] (fun cv iv wr=>∃ k : Nat,(k ≤ n ∧ iv = .int .i64 (k : Nat) ∧ cv = .int .i64 (((l.take k).countP p : Nat) : Int)) ∧ Below (w.alloc (.cells #[.float .f64 x] 24)).heap.size (w.alloc (.cells #[.float .f64 x] 24)) wr) (fun _ iv _=>n - (intOf iv).toNat)
   case atStart=>exact ⟨0,⟨Nat.zero_le _,by first | rfl | go_num,by first | rfl | go_num⟩,Below.refl _ _⟩
   case round=>
    obtain ⟨k,⟨hk,rfl,rfl⟩,hb⟩:=hrel
    have HB : Hid _:=hb
    by_cases hkn : k < n
    ·obtain ⟨b,o,rfl,hbb,hcc⟩:=HFI.out (by omega)
     obtain ⟨y,hy⟩ : ∃ y,y = l.getD k 0:=⟨_,rfl⟩
     have hck:=(hb.cell (p:=⟨b,o + k,none⟩) hbb).trans (hcc k hkn)
     rw [← hy] at hck
     have hyw : W64 y:=by rw [hy,List.getD_eq_getElem?_getD,List.getElem?_eq_getElem (by have:=HLN.out; omega)]; exact HL.out _ (List.getElem_mem _)
     have hcl:=HC.out wr y hyw (HXC.out wr hb)
     have hnx:=cntP_next (l:=l) (k:=k) (by have:=HLN.out; omega) p
     rw [← hy] at hnx
     have hle:=cntP_le l k p
     obtain ⟨m,hm⟩ : ∃ m,m = (l.take k).countP p:=⟨_,rfl⟩
     rw [← hm] at hnx hle ⊢
     have hk1 : (k : Int) < n:=by omega
     have hw1 : IntKind.i64.wrap ((k : Int) + 1) = ((k + 1 : Nat) : Int):=by rw [IntWalk.i64_in _ (by omega)]; omega
     have hw2 : IntKind.i64.wrap ((m : Int) + 1) = ((m + 1 : Nat) : Int):=by rw [IntWalk.i64_in _ (by omega)]; omega
     clear hb hcc hy hm
     cases hpy : p y
     ·rw [hpy] at hcl hnx
      have HNX : Hid ((l.take (k + 1)).countP p = m):=by show _ = _; rw [hnx,if_neg (by decide),Nat.add_zero]
      clear hnx
      go_wp2_with fail
      refine Calls.mono hcl ?_
      rintro e w' ⟨rfl,rfl⟩
      go_wp2
      go_roundw
      case rel=>exact ⟨k + 1,⟨by omega,by first | rfl | rw [hw1],by rw [HNX.out]⟩,HB.out⟩
      case measure=>simp [intOf]; omega
     ·rw [hpy] at hcl hnx
      have HNX : Hid ((l.take (k + 1)).countP p = m + 1):=by show _ = _; rw [hnx,if_pos rfl]
      clear hnx
      go_wp2_with fail
      refine Calls.mono hcl ?_
      rintro e w' ⟨rfl,rfl⟩
      go_wp2
      go_roundw
      case rel=>exact ⟨k + 1,⟨by omega,by first | rfl | rw [hw1],by rw [HNX.out]; first | rfl | rw [hw2]⟩,HB.out⟩
      case measure=>simp [intOf]; omega
    ·obtain rfl : k = n:=by omega
     have HTK : Hid (l.take k = l):=by
      have h : l.take l.length = l:=List.take_length
      rw [HLN.out] at h
      exact h
     have hk1 : ¬ (k : Int) < k:=by omega
     clear hb
     go_wp2
     go_ret2
     exact ⟨by rw [HTK.out]; rfl,HB0.out.thru HB.out⟩
  ·have HC : Hid (∀ W y,W64 y → W.cell? ⟨w.heap.size,0,none⟩ = some (.float .f64 x) → Calls Tryz.prog 76 #[.float .f64 y,.pointer (some ⟨w.heap.size,0,none⟩)] W fun e w'=>e = .returned (.bool (p y)) ∧ W = w'):=fun W y hy hc=>by rw [← HP.out y]; exact count_c6 y x _ W hy hx hc
   clear hcell hl hop HP
   go_enter Tryz.func30,Tryz.ntmps30
   go_wp2_with fail
   go_loopw [9,33] (fun cv iv wr=>∃ k : Nat,(k ≤ n ∧ iv = .int .i64 (k : Nat) ∧ cv = .int .i64 (((l.take k).countP p : Nat) : Int)) ∧ Below (w.alloc (.cells #[.float .f64 x] 24)).heap.size (w.alloc (.cells #[.float .f64 x] 24)) wr) (fun _ iv _=>n - (intOf iv).toNat)
   case atStart=>exact ⟨0,⟨Nat.zero_le _,by first | rfl | go_num,by first | rfl | go_num⟩,Below.refl _ _⟩
   case round=>
    obtain ⟨k,⟨hk,rfl,rfl⟩,hb⟩:=hrel
    have HB : Hid _:=hb
    by_cases hkn : k < n
    ·obtain ⟨b,o,rfl,hbb,hcc⟩:=HFI.out (by omega)
     obtain ⟨y,hy⟩ : ∃ y,y = l.getD k 0:=⟨_,rfl⟩
     have hck:=(hb.cell (p:=⟨b,o + k,none⟩) hbb).trans (hcc k hkn)
     rw [← hy] at hck
     have hyw : W64 y:=by rw [hy,List.getD_eq_getElem?_getD,List.getElem?_eq_getElem (by have:=HLN.out; omega)]; exact HL.out _ (List.getElem_mem _)
     have hcl:=HC.out wr y hyw (HXC.out wr hb)
     have hnx:=cntP_next (l:=l) (k:=k) (by have:=HLN.out; omega) p
     rw [← hy] at hnx
     have hle:=cntP_le l k p
     obtain ⟨m,hm⟩ : ∃ m,m = (l.take k).countP p:=⟨_,rfl⟩
     rw [← hm] at hnx hle ⊢
     have hk1 : (k : Int) < n:=by omega
     have hw1 : IntKind.i64.wrap ((k : Int) + 1) = ((k + 1 : Nat) : Int):=by rw [IntWalk.i64_in _ (by omega)]; omega
     have hw2 : IntKind.i64.wrap ((m : Int) + 1) = ((m + 1 : Nat) : Int):=by rw [IntWalk.i64_in _ (by omega)]; omega
     clear hb hcc hy hm
     cases hpy : p y
     ·rw [hpy] at hcl hnx
      have HNX : Hid ((l.take (k + 1)).countP p = m):=by show _ = _; rw [hnx,if_neg (by decide),Nat.add_zero]
      clear hnx
      go_wp2_with fail
      refine Calls.mono hcl ?_
      rintro e w' ⟨rfl,rfl⟩
      go_wp2
      go_roundw
      case rel=>exact ⟨k + 1,⟨by omega,by first | rfl | rw [hw1],by rw [HNX.out]⟩,HB.out⟩
      case measure=>simp [intOf]; omega
     ·rw [hpy] at hcl hnx
      have HNX : Hid ((l.take (k + 1)).countP p = m + 1):=by show _ = _; rw [hnx,if_pos rfl]
      clear hnx
      go_wp2_with fail
      refine Calls.mono hcl ?_
      rintro e w' ⟨rfl,rfl⟩
      go_wp2
      go_roundw
      case rel=>exact ⟨k + 1,⟨by omega,by first | rfl | rw [hw1],by rw [HNX.out]; first | rfl | rw [hw2]⟩,HB.out⟩
      case measure=>simp [intOf]; omega
    ·obtain rfl : k = n:=by omega
     have HTK : Hid (l.take k = l):=by
      have h : l.take l.length = l:=List.take_length
      rw [HLN.out] at h
      exact h
     have hk1 : ¬ (k : Int) < k:=by omega
     clear hb
     go_wp2
     go_ret2
     exact ⟨by rw [HTK.out]; rfl,HB0.out.thru HB.out⟩
def rankA (l : List Nat) (x : Nat) (up : Bool) : Nat × Int:=
 if l.length = 0 then (0,4) else if nanB x = true then (0,10) else if l.countP (fun a=>stB 10 a x) = 0 then (0,1) else (l.countP (fun a=>stB (if up = true then 12 else 14) a x) + 1,0)
theorem equal_comm9 (a b : Nat) : equalB a b = equalB b a:=by
 unfold equalB
 rw [Bool.or_comm (nanB a),Bool.and_comm (zeroB a)]
 congr 2
 rw [decide_eq_decide]
 exact eq_comm
set_option maxHeartbeats 4000000 in
theorem index9_v {a : Option Addr} {n c : Nat} {l : List Nat} (x : Nat) (w : World) (hn : l.length = n) (hmax : n * 8 ≤ 140737488355328) (hl : ∀ x ∈ l, W64 x) (hcell : FIn w a n l) (hx : W64 x) :
  Calls Tryz.prog 136 #[.slice a n c,.float .f64 x] w fun e w'=>(∃ i : Int,e = .returned (.int .i64 i) ∧ (0 ≤ i ↔ l.countP (fun a=>stB 10 a x) ≠ 0)) ∧ w = w':=by
 have HL : Hid (∀ x ∈ l,W64 x):=hl
 have HLN : Hid (l.length = n):=hn
 obtain ⟨p,hp⟩ : ∃ p : Nat → Bool,p = fun a=>stB 10 a x:=⟨_,rfl⟩
 rw [← hp]
 have HP : Hid (∀ y,p y = equalB x y):=fun y=>by rw [hp,equal_comm9]; rfl
 clear hp hl
 go_enter Tryz.func136,Tryz.ntmps136
 go_wp2_with fail
 go_loopw [8] (fun iv wr=>∃ k : Nat,(k ≤ n ∧ iv = .int .i64 (k : Nat)) ∧ (l.take k).countP p = 0 ∧ wr = w) (fun iv _=>n - (intOf iv).toNat)
 case atStart=>exact ⟨0,⟨Nat.zero_le _,by first | rfl | go_num⟩,by simp,rfl⟩
 case round=>
  obtain ⟨k,⟨hk,rfl⟩,hz,rfl⟩:=hrel
  have HZ : Hid ((l.take k).countP p = 0):=hz
  clear hz
  by_cases hkn : k < n
  ·obtain ⟨b,o,rfl,hbb,hcc⟩:=hcell (by omega)
   obtain ⟨y,hy⟩ : ∃ y,y = l.getD k 0:=⟨_,rfl⟩
   have hck:=hcc k hkn
   rw [← hy] at hck
   have hyw : W64 y:=by rw [hy,List.getD_eq_getElem?_getD,List.getElem?_eq_getElem (by have:=HLN.out; omega)]; exact HL.out _ (List.getElem_mem _)
   have hnx:=cntP_next (l:=l) (k:=k) (by have:=HLN.out; omega) p
   rw [← hy,HZ.out,Nat.zero_add] at hnx
   obtain ⟨o1,ho,h1,-,-⟩:=ord_opts hx hyw
   have hpy:=HP.out y
   rw [h1] at hpy
   have hk1 : (k : Int) < n:=by omega
   have hw1 : IntKind.i64.wrap ((k : Int) + 1) = ((k + 1 : Nat) : Int):=by rw [IntWalk.i64_in _ (by omega)]; omega
   have hmem : y ∈ l:=by rw [hy,List.getD_eq_getElem?_getD,List.getElem?_eq_getElem (by have:=HLN.out; omega)]; exact List.getElem_mem _
   have HMEM : Hid (y ∈ l):=hmem
   clear hcc hy h1 hmem hyw
   by_cases ho2 : o1 = some .eq
   ·subst ho2
    have HPY : Hid (p y = true):=hpy
    clear hnx hpy
    go_wp2
    go_ret
    exact ⟨⟨(k : Int),rfl,⟨fun _ h=>by
     have:=List.countP_eq_zero.1 h y HMEM.out
     rw [HPY.out] at this
     exact this rfl,fun _=>by omega⟩⟩,rfl⟩
   ·have hpf : p y = false := by
     rw [hpy]
     rcases o1 with _ | _ | _ | _
     ·rfl
     ·rfl
     ·exact absurd rfl ho2
     ·rfl
    rw [hpf,if_neg (by decide)] at hnx
    have HNX : Hid ((l.take (k + 1)).countP p = 0):=hnx
    clear hnx hpy hpf
    rcases o1 with _ | _ | _ | _
    ·go_wp2
     go_roundw
     case rel=>exact ⟨k + 1,⟨by omega,by first | rfl | rw [hw1]⟩,HNX.out,by first | rfl | trivial⟩
     case measure=>simp [intOf]; omega
    ·go_wp2
     go_roundw
     case rel=>exact ⟨k + 1,⟨by omega,by first | rfl | rw [hw1]⟩,HNX.out,by first | rfl | trivial⟩
     case measure=>simp [intOf]; omega
    ·exact absurd rfl ho2
    ·go_wp2
     go_roundw
     case rel=>exact ⟨k + 1,⟨by omega,by first | rfl | rw [hw1]⟩,HNX.out,by first | rfl | trivial⟩
     case measure=>simp [intOf]; omega
  ·obtain rfl : k = n:=by omega
   have HTK : Hid (l.take k = l):=by
    have h : l.take l.length = l:=List.take_length
    rw [HLN.out] at h
    exact h
   have hk1 : ¬ (k : Int) < k:=by omega
   go_wp2
   go_ret
   refine ⟨⟨-1,rfl,⟨fun h=>absurd h (by decide),fun h=>?_⟩⟩,rfl⟩
   have:=HZ.out
   rw [HTK.out] at this
   have h9:=List.countP_eq_zero.1 this
   first
    | exact absurd this h
    | (obtain ⟨y,hy1,hy2⟩:=h; exact absurd hy2 (h9 y hy1))
theorem contains9_v {a : Option Addr} {n c : Nat} {l : List Nat} (x : Nat) (w : World) (hn : l.length = n) (hmax : n * 8 ≤ 140737488355328) (hl : ∀ x ∈ l, W64 x) (hcell : FIn w a n l) (hx : W64 x) :
  Calls Tryz.prog 84 #[.slice a n c,.float .f64 x] w fun e w'=>e = .returned (.bool (decide (l.countP (fun a=>stB 10 a x) ≠ 0))) ∧ w = w':=by
 have HI:=index9_v (c:=c) x w hn hmax hl hcell hx
 obtain ⟨m,hm⟩ : ∃ m,m = l.countP (fun a=>stB 10 a x):=⟨_,rfl⟩
 rw [← hm] at HI ⊢
 obtain ⟨q,hq⟩ : ∃ q,q = decide (m ≠ 0):=⟨_,rfl⟩
 rw [← hq]
 have HQ : Hid (q = decide (m ≠ 0)):=hq
 clear hcell hl hm hq
 go_enter Tryz.func84,Tryz.ntmps84
 go_wp2_with fail
 refine Calls.mono HI ?_
 rintro e w' ⟨⟨i,rfl,hi⟩,rfl⟩
 have hd : q = decide (0 ≤ i):=by rw [HQ.out,decide_eq_decide]; exact hi.symm
 clear hi HI HQ
 subst hd
 go_wp2
 go_ret
 exact ⟨rfl,rfl⟩
theorem cnt_room {l : List Nat} {n : Nat} (hn : l.length = n) (p : Nat → Bool) : l.countP p ≤ n:=by rw [← hn]; exact List.countP_le_length
set_option maxHeartbeats 4000000 in
theorem rank9_v {a : Option Addr} {n c : Nat} {l : List Nat} (x : Nat) (up : Bool) (w : World) (hn : l.length = n) (hmax : n * 8 ≤ 140737488355328) (hl : ∀ x ∈ l, W64 x) (hcell : FIn w a n l) (hx : W64 x) :
  Calls Tryz.prog 35 #[.slice a n c,.float .f64 x,.bool up] w fun e w'=>e = .returned (.tuple #[.int .i64 ((rankA l x up).1 : Nat),.int .i64 (rankA l x up).2]) ∧ Below w.heap.size w w':=by
 have HB0 : Hid (Below w.heap.size w w):=Below.refl _ _
 by_cases h0 : n = 0
 ·subst h0
  have ht : rankA l x up = (0,4):=by unfold rankA; rw [if_pos hn]
  rw [ht]
  clear hcell hl
  go_enter Tryz.func35,Tryz.ntmps35
  go_wp2
  go_ret2
  exact ⟨rfl,HB0.out⟩
 ·cases hnx : nanB x
  ·have hxx : Go.FloatKind.f64.format.order x x = some .eq := by
    show Ieee.double.order x x = _
    rw [ord_D x x hx hx hnx hnx]
    congr 1
    exact Int.compare_eq_eq.2 rfl
   have HC:=contains9_v (c:=c) x w hn hmax hl hcell hx
   by_cases hz : l.countP (fun a=>stB 10 a x) = 0
   ·have ht : rankA l x up = (0,1):=by unfold rankA; rw [if_neg (by omega),if_neg (by rw [hnx]; decide),if_pos hz]
    rw [ht]
    rw [decide_eq_false (fun h=>h hz)] at HC
    clear hcell hl hz
    go_enter Tryz.func35,Tryz.ntmps35
    go_wp2_with fail
    refine Calls.mono HC ?_
    rintro e w' ⟨rfl,rfl⟩
    go_wp2
    go_ret2
    exact ⟨rfl,HB0.out⟩
   ·rw [decide_eq_true hz] at HC
    have HN:=count9_v (c:=c) (if up = true then 12 else 14) x w hn hmax hl hcell hx
    have ht : rankA l x up = (l.countP (fun a=>stB (if up = true then 12 else 14) a x) + 1,0):=by unfold rankA; rw [if_neg (by omega),if_neg (by rw [hnx]; decide),if_neg hz]
    have hle:=cnt_room hn (fun a=>stB (if up = true then 12 else 14) a x)
    have hcA : cntA l (if up = true then 12 else 14) x = (l.countP (fun a=>stB (if up = true then 12 else 14) a x),0):=by
     unfold cntA
     rw [if_neg (by cases up <;> decide)]
    rw [hcA] at HN
    rw [ht]
    generalize l.countP (fun a=>stB (if up = true then 12 else 14) a x) = m at *
    have hw : IntKind.i64.wrap ((m : Int) + 1) = ((m + 1 : Nat) : Int):=by rw [IntWalk.i64_in _ (by omega)]; omega
    clear hcell hl hz ht hcA
    cases up
    ·rw [if_neg (by decide)] at HN
     go_enter Tryz.func35,Tryz.ntmps35
     go_wp2_with fail
     refine Calls.mono HC ?_
     rintro e w' ⟨rfl,rfl⟩
     go_wp2_with fail
     refine Calls.mono HN ?_
     rintro e w' ⟨rfl,hb⟩
     go_wp2
     go_ret2
     exact ⟨rfl,hb⟩
    ·rw [if_pos rfl] at HN
     go_enter Tryz.func35,Tryz.ntmps35
     go_wp2_with fail
     refine Calls.mono HC ?_
     rintro e w' ⟨rfl,rfl⟩
     go_wp2_with fail
     refine Calls.mono HN ?_
     rintro e w' ⟨rfl,hb⟩
     go_wp2
     go_ret2
     exact ⟨rfl,hb⟩
  ·have ht : rankA l x up = (0,10):=by unfold rankA; rw [if_neg (by omega),if_pos hnx]
   have hxx : Go.FloatKind.f64.format.order x x = none:=ord_D_nan_left x x hnx
   rw [ht]
   clear hcell hl
   go_enter Tryz.func35,Tryz.ntmps35
   go_wp2
   go_ret2
   exact ⟨rfl,HB0.out⟩
end Go.Proofs.YtlbokicainimnaaGreatDoor
