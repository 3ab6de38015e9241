import Derived.Test.YtlbokicainimnaaGreatDoorQQN
import Derived.Deep.DeepCutAuto
set_option maxRecDepth 100000
namespace Go.Proofs.YtlbokicainimnaaGreatDoor
open Go.RowKit
theorem plus_num (s t : Value) (X Y : Nat) (w : World) (h : Num .u64 18446744073709551616 w s X) (h' : Num .u64 18446744073709551616 w t Y) {bb : Nat} (hX : X < 2 ^ bb) (hY : Y < 2 ^ bb) (hbb : bb ≤ 4294967296) :
  Calls Tryz.prog 226 #[s,t] w fun e w'=>∃ a m c zs,e = .returned (.slice a m c) ∧ Limbs .u64 18446744073709551616 w' (.slice a m c) zs ∧ lval 18446744073709551616 zs = X + Y ∧ Below w.heap.size w w':=by
 obtain ⟨xs,l1,v1,-,k1,-⟩:=num_words h hX hbb
 obtain ⟨ys,l2,v2,-,k2,-⟩:=num_words h' hY hbb
 rcases Nat.lt_or_ge xs.length ys.length with g | g
 ·refine (plus_core true t s ys xs w l2 l1 (by omega) (fun _=>g) (by omega)).mono ?_
  rintro e w' ⟨v,zs,rfl,hl,-,hv,hb⟩
  have hl2:=hl
  obtain ⟨a,m,c,rfl,-⟩:=hl2
  exact ⟨a,m,c,zs,rfl,hl,by rw [hv,v1,v2,Nat.add_comm],hb⟩
 ·refine (plus_core false s t xs ys w l1 l2 g (fun h=>by cases h) (by omega)).mono ?_
  rintro e w' ⟨v,zs,rfl,hl,-,hv,hb⟩
  have hl2:=hl
  obtain ⟨a,m,c,rfl,-⟩:=hl2
  exact ⟨a,m,c,zs,rfl,hl,by rw [hv,v1,v2],hb⟩
theorem minus_num (s t : Value) (X Y : Nat) (w : World) (h : Num .u64 18446744073709551616 w s X) (h' : Num .u64 18446744073709551616 w t Y) {bb : Nat} (hX : X < 2 ^ bb) (hYX : Y ≤ X) (hbb : bb ≤ 4294967296) :
  Calls Tryz.prog 227 #[s,t] w fun e w'=>∃ a m c zs,e = .returned (.slice a m c) ∧ Limbs .u64 18446744073709551616 w' (.slice a m c) zs ∧ lval 18446744073709551616 zs = X - Y ∧ Below w.heap.size w w':=by
 obtain ⟨xs,l1,v1,-,k1,x1⟩:=num_words h hX hbb
 obtain ⟨ys,l2,v2,n2,k2,-⟩:=num_words h' (Nat.lt_of_le_of_lt hYX hX) hbb
 refine (minus_any s t xs ys w l1 l2 (norm_len_le n2 x1 (by omega)) (by omega) (by omega)).mono ?_
 rintro e w' ⟨v,zs,rfl,hl,-,hv,hb⟩
 have hl2:=hl
 obtain ⟨a,m,c,rfl,-⟩:=hl2
 exact ⟨a,m,c,zs,rfl,hl,by rw [hv,v1,v2],hb⟩
set_option maxHeartbeats 2000000 in
theorem iadd_any (na nb : Bool) (s t : Value) (X Y : Nat) (w : World) (h : Num .u64 18446744073709551616 w s X) (h' : Num .u64 18446744073709551616 w t Y) {bb : Nat} (hX : X < 2 ^ bb) (hY : Y < 2 ^ bb) (hbb : bb ≤ 4294967296) :
  Calls Tryz.prog 166 #[.agg #[.bool na,s],.agg #[.bool nb,t]] w (WideQ (sumS na nb X Y && sumM na nb X Y != 0) (sumM na nb X Y) w):=by
 obtain ⟨a,m,c,rfl⟩:=h.shape
 obtain ⟨a',n,c',rfl⟩:=h'.shape
 have hb0 : Below w.heap.size w (((w.alloc (.cells #[.bool na,.slice a m c] 123)).alloc (.cells #[.bool nb,.slice a' n c'] 123)).alloc (.cells #[.bool false,.slice none 0 0] 123)):=(((Below.refl _ _).alloc (Nat.le_refl _) _).alloc (by simp) _).alloc (by simp; omega) _
 have q0:=heap_alloc3_0 w (.cells #[.bool na,.slice a m c] 123) (.cells #[.bool nb,.slice a' n c'] 123) (.cells #[.bool false,.slice none 0 0] 123)
 have q1:=heap_alloc3_1 w (.cells #[.bool na,.slice a m c] 123) (.cells #[.bool nb,.slice a' n c'] 123) (.cells #[.bool false,.slice none 0 0] 123)
 have q2:=heap_alloc3_2 w (.cells #[.bool na,.slice a m c] 123) (.cells #[.bool nb,.slice a' n c'] 123) (.cells #[.bool false,.slice none 0 0] 123)
 have hs4 : (((w.alloc (.cells #[.bool na,.slice a m c] 123)).alloc (.cells #[.bool nb,.slice a' n c'] 123)).alloc (.cells #[.bool false,.slice none 0 0] 123)).heap.size = w.heap.size + 3:=by simp
 have HXY : Hid (X < 2 ^ bb ∧ Y < 2 ^ bb ∧ bb ≤ 4294967296):=⟨hX,hY,hbb⟩
 have H1 : Hid (∀ W,Below w.heap.size w W → Num .u64 18446744073709551616 W (.slice a m c) X):=fun W hW=>h.below (Nat.le_refl _) hW
 have H2 : Hid (∀ W,Below w.heap.size w W → Num .u64 18446744073709551616 W (.slice a' n c') Y):=fun W hW=>h'.below (Nat.le_refl _) hW
 clear h h' hX hY hbb
 go_enter Tryz.func166,Tryz.ntmps166
 go_upto_region 1 with fail
 generalize (((w.alloc (.cells #[.bool na,.slice a m c] 123)).alloc (.cells #[.bool nb,.slice a' n c'] 123)).alloc (.cells #[.bool false,.slice none 0 0] 123)) = w4 at *
 have HC : Hid (∀ W,Below (w.heap.size + 2) w4 W → Below (w.heap.size + 2) w4 W ∧ (W.cell? ⟨w.heap.size,0,none⟩ = some (.bool na) ∧ W.cell? ⟨w.heap.size,1,none⟩ = some (.slice a m c)) ∧ W.cell? ⟨w.heap.size + 1,0,none⟩ = some (.bool nb) ∧ W.cell? ⟨w.heap.size + 1,1,none⟩ = some (.slice a' n c')):=
  fun W hW=>⟨hW,⟨cell_of_row W _ 0 _ _ _ (hW.blk q0 (by omega)),cell_of_row W _ 1 _ _ _ (hW.blk q0 (by omega))⟩,cell_of_row W _ 0 _ _ _ (hW.blk q1 (by omega)),cell_of_row W _ 1 _ _ _ (hW.blk q1 (by omega))⟩
 have HQ2 : Hid _:=q2
 have HB0 : Hid (Below w.heap.size w w4):=hb0
 have HS4 : Hid (w4.heap.size = w.heap.size + 3):=hs4
 have hbs : Below (w.heap.size + 2) w4 w4:=Below.refl _ _
 obtain ⟨-,⟨x0,x1⟩,y0,y1⟩:=HC.out w4 hbs
 clear hb0 q0 q1 q2 hs4
 by_cases hab : na = nb
 ·subst hab
  obtain ⟨R,hR⟩ : ∃ R,R = X + Y:=⟨_,rfl⟩
  obtain ⟨q,hq⟩ : ∃ q,q = (na && R != 0):=⟨_,rfl⟩
  have HMD : Hid (∀ W p1 p2 p3 zs,(Limbs .u64 18446744073709551616 W (.slice p1 p2 p3) zs ∧ lval 18446744073709551616 zs = R) → Calls Tryz.prog 150 #[.bool na,.slice p1 p2 p3] W fun e w'=>∃ r1 r2 r3,e = .returned (.agg #[.bool q,.slice r1 r2 r3]) ∧ Num .u64 18446744073709551616 w' (.slice r1 r2 r3) R ∧ Below W.heap.size W w'):=fun W p1 p2 p3 zs hz=>by
   refine (made_any na _ zs W hz.1).mono ?_
   rintro e w' ⟨v,rfl,⟨s,rfl,hnum,-⟩,hb⟩
   obtain ⟨r1,r2,r3,rfl⟩:=hnum.shape
   rw [hz.2] at hnum ⊢
   exact ⟨r1,r2,r3,by rw [hq],hnum,hb⟩
  have HGN : Hid (q = true → R ≠ 0):=fun h=>by rw [hq] at h; simp at h; exact h.2
  have HE1 : Hid ((sumS na na X Y && sumM na na X Y != 0) = q):=by show _ = _; rw [hq,hR,show sumS na na X Y = na from if_pos rfl,show sumM na na X Y = X + Y from if_pos rfl]
  have HE2 : Hid (sumM na na X Y = R):=by show _ = _; rw [hR]; exact if_pos rfl
  have HPL : Hid (∀ W,Below w4.heap.size w4 W → Calls Tryz.prog 226 #[.slice a m c,.slice a' n c'] W fun e w'=>∃ p1 p2 p3 zs,e = .returned (.slice p1 p2 p3) ∧ Limbs .u64 18446744073709551616 w' (.slice p1 p2 p3) zs ∧ lval 18446744073709551616 zs = R ∧ Below W.heap.size W w'):=fun W hW=>by
   have hw:=HB0.out.trans (hW.mono (by have:=HS4.out; omega))
   rw [hR]; exact plus_num _ _ X Y W (H1.out W hw) (H2.out W hw) HXY.out.1 HXY.out.2.1 HXY.out.2.2
  have HBW : Hid (Below w.heap.size w w4):=HB0.out
  have HSW : Hid (w.heap.size + 3 ≤ w4.heap.size):=by have h4:=HS4.out; show _ ≤ _; omega
  have HQ6 : Hid (w4.heap[w.heap.size + 2]? = _):=HQ2.out
  have hb44 : Below w4.heap.size w4 w4:=Below.refl _ _
  clear hR hq
  go_upto_region 2 with fail
  go_region_held3 (fun W=>Below (w.heap.size + 2) w4 W ∧ (W.cell? ⟨w.heap.size,0,none⟩ = some (.bool na) ∧ W.cell? ⟨w.heap.size,1,none⟩ = some (.slice a m c)) ∧ W.cell? ⟨w.heap.size + 1,0,none⟩ = some (.bool na) ∧ W.cell? ⟨w.heap.size + 1,1,none⟩ = some (.slice a' n c'))
   (first | exact HC.out _ ‹Below (w.heap.size + 2) w4 _› | exact HC.out _ (‹Below (w.heap.size + 2) w4 _›).drew | (refine HC.out _ ?_; exact Below.setCell (Below.setCell (by first | assumption | exact (‹Below (w.heap.size + 2) w4 _ ∧ _›).1) (by simp) _) (by simp) _))
   (first | (go_at_call 226; (with_reducible refine (HPL.out _ (by first | assumption | exact Below.drew (by assumption))).mono ?_); rintro e w7 ⟨p1,p2,p3,zs,rfl,hl,hv,hb⟩; have hB2 : Below (w.heap.size + 2) w4 w7:=Below.trans (by first | assumption | exact Below.drew (by assumption) : Below (w.heap.size + 2) w4 _) (hb.mono (by have:=HSW.out; simp; omega)); have hB7 : Below w4.heap.size w4 w7:=Below.thru (by first | assumption | exact Below.drew (by assumption)) hb; have HL7 : Hid (Limbs .u64 18446744073709551616 w7 (.slice p1 p2 p3) zs ∧ lval 18446744073709551616 zs = R):=⟨hl,hv⟩; clear hl hv hb) | (go_at_call 150; (with_reducible refine (HMD.out _ _ _ _ _ HL7.out).mono ?_); rintro e w8 ⟨r1,r2,r3,rfl,hnum,hb⟩; have hB3 : Below (w.heap.size + 2) w4 w8:=Below.trans (by assumption : Below (w.heap.size + 2) w4 w7) (hb.mono (by have:=HSW.out; have:=(by assumption : Below w4.heap.size w4 w7).size; omega)); have hB8 : Below w4.heap.size w4 w8:=Below.thru (by assumption : Below w4.heap.size w4 w7) hb; have hrow : w8.heap[w.heap.size + 2]? = some (.cells #[.bool false,.slice none 0 0] 123 (0,0)):=hB8.blk HQ6.out (by have:=HSW.out; simp; omega); obtain ⟨f0,f1,c0,c1,f2,c2⟩:=row2 hrow; have HROW : Hid _:=hrow; have HNUM : Hid (Num .u64 18446744073709551616 w8 (.slice r1 r2 r3) R):=hnum; have HB8 : Hid (Below w4.heap.size w4 w8):=hB8; clear hrow hnum hb))
  go_wp2
  rw [HE1.out,HE2.out]
  exact wide_end (p:=4) rfl rfl HROW.out HNUM.out (HBW.out.trans (HB8.out.mono (by have:=HSW.out; omega))) (by omega) HGN.out
 ·have hab2 : (na == nb) = false:=by cases na <;> cases nb <;> first | rfl | exact absurd rfl hab
  have HAB : Hid (¬ na = nb):=hab
  clear hab
  go_wp2_with fail
  refine (compare_any _ _ X Y w4 (H1.out _ HB0.out) (H2.out _ HB0.out)).mono ?_
  rintro e w9 ⟨r,rfl,hr1,hr2,hb9⟩
  have HBW : Hid (Below w.heap.size w w9):=HB0.out.trans (hb9.mono (by have:=HS4.out; omega))
  have HSW : Hid (w.heap.size + 3 ≤ w9.heap.size):=by have:=hb9.size; have h4:=HS4.out; show _ ≤ _; omega
  have HQ6 : Hid (w9.heap[w.heap.size + 2]? = _):=hb9.blk HQ2.out (by have:=HS4.out; omega)
  have hbs9 : Below (w.heap.size + 2) w4 w9:=hb9.mono (by have:=HS4.out; omega)
  have hb99 : Below w9.heap.size w9 w9:=Below.refl _ _
  have HR1 : Hid (r < 0 ↔ X < Y):=hr1
  clear x0 x1 y0 y1 hb9 hab2 hr1 hr2 hbs
  by_cases hYX : Y ≤ X
  ·have hc : (0 : Int) ≤ r:=by have:=HR1.out; omega
   obtain ⟨R,hR⟩ : ∃ R,R = X - Y:=⟨_,rfl⟩
   obtain ⟨q,hq⟩ : ∃ q,q = (na && R != 0):=⟨_,rfl⟩
   have HMD : Hid (∀ W p1 p2 p3 zs,(Limbs .u64 18446744073709551616 W (.slice p1 p2 p3) zs ∧ lval 18446744073709551616 zs = R) → Calls Tryz.prog 150 #[.bool na,.slice p1 p2 p3] W fun e w'=>∃ r1 r2 r3,e = .returned (.agg #[.bool q,.slice r1 r2 r3]) ∧ Num .u64 18446744073709551616 w' (.slice r1 r2 r3) R ∧ Below W.heap.size W w'):=fun W p1 p2 p3 zs hz=>by
    refine (made_any na _ zs W hz.1).mono ?_
    rintro e w' ⟨v,rfl,⟨s,rfl,hnum,-⟩,hb⟩
    obtain ⟨r1,r2,r3,rfl⟩:=hnum.shape
    rw [hz.2] at hnum ⊢
    exact ⟨r1,r2,r3,by rw [hq],hnum,hb⟩
   have HGN : Hid (q = true → R ≠ 0):=fun h=>by rw [hq] at h; simp at h; exact h.2
   have HE1 : Hid ((sumS na nb X Y && sumM na nb X Y != 0) = q):=by show _ = _; rw [hq,hR]; unfold sumS sumM; rw [if_neg HAB.out,if_pos hYX,if_neg HAB.out,if_pos hYX]
   have HE2 : Hid (sumM na nb X Y = R):=by show _ = _; rw [hR]; unfold sumM; rw [if_neg HAB.out,if_pos hYX]
   have HPL : Hid (∀ W,Below w9.heap.size w9 W → Calls Tryz.prog 227 #[.slice a m c,.slice a' n c'] W fun e w'=>∃ p1 p2 p3 zs,e = .returned (.slice p1 p2 p3) ∧ Limbs .u64 18446744073709551616 w' (.slice p1 p2 p3) zs ∧ lval 18446744073709551616 zs = R ∧ Below W.heap.size W w'):=fun W hW=>by
    have hw:=HBW.out.trans (hW.mono (by have:=HSW.out; omega))
    rw [hR]; exact minus_num _ _ X Y W (H1.out W hw) (H2.out W hw) HXY.out.1 hYX HXY.out.2.2
   clear hR hq hYX
   go_upto_region 4 with fail
   go_region_held3 (fun W=>Below (w.heap.size + 2) w4 W ∧ (W.cell? ⟨w.heap.size,0,none⟩ = some (.bool na) ∧ W.cell? ⟨w.heap.size,1,none⟩ = some (.slice a m c)) ∧ W.cell? ⟨w.heap.size + 1,0,none⟩ = some (.bool nb) ∧ W.cell? ⟨w.heap.size + 1,1,none⟩ = some (.slice a' n c'))
    (first | exact HC.out _ ‹Below (w.heap.size + 2) w4 _› | exact HC.out _ (‹Below (w.heap.size + 2) w4 _›).drew | (refine HC.out _ ?_; exact Below.setCell (Below.setCell (by first | assumption | exact (‹Below (w.heap.size + 2) w4 _ ∧ _›).1) (by simp) _) (by simp) _))
    (first | (go_at_call 227; (with_reducible refine (HPL.out _ (by first | assumption | exact Below.drew (by assumption))).mono ?_); rintro e w7 ⟨p1,p2,p3,zs,rfl,hl,hv,hb⟩; have hB2 : Below (w.heap.size + 2) w4 w7:=Below.trans (by first | assumption | exact Below.drew (by assumption) : Below (w.heap.size + 2) w4 _) (hb.mono (by have:=HSW.out; simp; omega)); have hB7 : Below w9.heap.size w9 w7:=Below.thru (by first | assumption | exact Below.drew (by assumption)) hb; have HL7 : Hid (Limbs .u64 18446744073709551616 w7 (.slice p1 p2 p3) zs ∧ lval 18446744073709551616 zs = R):=⟨hl,hv⟩; clear hl hv hb) | (go_at_call 150; (with_reducible refine (HMD.out _ _ _ _ _ HL7.out).mono ?_); rintro e w8 ⟨r1,r2,r3,rfl,hnum,hb⟩; have hB3 : Below (w.heap.size + 2) w4 w8:=Below.trans (by assumption : Below (w.heap.size + 2) w4 w7) (hb.mono (by have:=HSW.out; have:=(by assumption : Below w9.heap.size w9 w7).size; omega)); have hB8 : Below w9.heap.size w9 w8:=Below.thru (by assumption : Below w9.heap.size w9 w7) hb; have hrow : w8.heap[w.heap.size + 2]? = some (.cells #[.bool false,.slice none 0 0] 123 (0,0)):=hB8.blk HQ6.out (by have:=HSW.out; simp; omega); obtain ⟨f0,f1,c0,c1,f2,c2⟩:=row2 hrow; have HROW : Hid _:=hrow; have HNUM : Hid (Num .u64 18446744073709551616 w8 (.slice r1 r2 r3) R):=hnum; have HB8 : Hid (Below w9.heap.size w9 w8):=hB8; clear hrow hnum hb))
   go_wp2
   rw [HE1.out,HE2.out]
   exact wide_end (p:=4) rfl rfl HROW.out HNUM.out (HBW.out.trans (HB8.out.mono (by have:=HSW.out; omega))) (by omega) HGN.out
  ·have hc : ¬ (0 : Int) ≤ r:=by have:=HR1.out; omega
   obtain ⟨R,hR⟩ : ∃ R,R = Y - X:=⟨_,rfl⟩
   obtain ⟨q,hq⟩ : ∃ q,q = (nb && R != 0):=⟨_,rfl⟩
   have HMD : Hid (∀ W p1 p2 p3 zs,(Limbs .u64 18446744073709551616 W (.slice p1 p2 p3) zs ∧ lval 18446744073709551616 zs = R) → Calls Tryz.prog 150 #[.bool nb,.slice p1 p2 p3] W fun e w'=>∃ r1 r2 r3,e = .returned (.agg #[.bool q,.slice r1 r2 r3]) ∧ Num .u64 18446744073709551616 w' (.slice r1 r2 r3) R ∧ Below W.heap.size W w'):=fun W p1 p2 p3 zs hz=>by
    refine (made_any nb _ zs W hz.1).mono ?_
    rintro e w' ⟨v,rfl,⟨s,rfl,hnum,-⟩,hb⟩
    obtain ⟨r1,r2,r3,rfl⟩:=hnum.shape
    rw [hz.2] at hnum ⊢
    exact ⟨r1,r2,r3,by rw [hq],hnum,hb⟩
   have HGN : Hid (q = true → R ≠ 0):=fun h=>by rw [hq] at h; simp at h; exact h.2
   have HE1 : Hid ((sumS na nb X Y && sumM na nb X Y != 0) = q):=by show _ = _; rw [hq,hR]; unfold sumS sumM; rw [if_neg HAB.out,if_neg hYX,if_neg HAB.out,if_neg hYX]
   have HE2 : Hid (sumM na nb X Y = R):=by show _ = _; rw [hR]; unfold sumM; rw [if_neg HAB.out,if_neg hYX]
   have HPL : Hid (∀ W,Below w9.heap.size w9 W → Calls Tryz.prog 227 #[.slice a' n c',.slice a m c] W fun e w'=>∃ p1 p2 p3 zs,e = .returned (.slice p1 p2 p3) ∧ Limbs .u64 18446744073709551616 w' (.slice p1 p2 p3) zs ∧ lval 18446744073709551616 zs = R ∧ Below W.heap.size W w'):=fun W hW=>by
    have hw:=HBW.out.trans (hW.mono (by have:=HSW.out; omega))
    rw [hR]; exact minus_num _ _ Y X W (H2.out W hw) (H1.out W hw) HXY.out.2.1 (by omega) HXY.out.2.2
   clear hR hq hYX
   go_upto_region 5 with fail
   go_region_held3 (fun W=>Below (w.heap.size + 2) w4 W ∧ (W.cell? ⟨w.heap.size,0,none⟩ = some (.bool na) ∧ W.cell? ⟨w.heap.size,1,none⟩ = some (.slice a m c)) ∧ W.cell? ⟨w.heap.size + 1,0,none⟩ = some (.bool nb) ∧ W.cell? ⟨w.heap.size + 1,1,none⟩ = some (.slice a' n c'))
    (first | exact HC.out _ ‹Below (w.heap.size + 2) w4 _› | exact HC.out _ (‹Below (w.heap.size + 2) w4 _›).drew | (refine HC.out _ ?_; exact Below.setCell (Below.setCell (by first | assumption | exact (‹Below (w.heap.size + 2) w4 _ ∧ _›).1) (by simp) _) (by simp) _))
    (first | (go_at_call 227; (with_reducible refine (HPL.out _ (by first | assumption | exact Below.drew (by assumption))).mono ?_); rintro e w7 ⟨p1,p2,p3,zs,rfl,hl,hv,hb⟩; have hB2 : Below (w.heap.size + 2) w4 w7:=Below.trans (by first | assumption | exact Below.drew (by assumption) : Below (w.heap.size + 2) w4 _) (hb.mono (by have:=HSW.out; simp; omega)); have hB7 : Below w9.heap.size w9 w7:=Below.thru (by first | assumption | exact Below.drew (by assumption)) hb; have HL7 : Hid (Limbs .u64 18446744073709551616 w7 (.slice p1 p2 p3) zs ∧ lval 18446744073709551616 zs = R):=⟨hl,hv⟩; clear hl hv hb) | (go_at_call 150; (with_reducible refine (HMD.out _ _ _ _ _ HL7.out).mono ?_); rintro e w8 ⟨r1,r2,r3,rfl,hnum,hb⟩; have hB3 : Below (w.heap.size + 2) w4 w8:=Below.trans (by assumption : Below (w.heap.size + 2) w4 w7) (hb.mono (by have:=HSW.out; have:=(by assumption : Below w9.heap.size w9 w7).size; omega)); have hB8 : Below w9.heap.size w9 w8:=Below.thru (by assumption : Below w9.heap.size w9 w7) hb; have hrow : w8.heap[w.heap.size + 2]? = some (.cells #[.bool false,.slice none 0 0] 123 (0,0)):=hB8.blk HQ6.out (by have:=HSW.out; simp; omega); obtain ⟨f0,f1,c0,c1,f2,c2⟩:=row2 hrow; have HROW : Hid _:=hrow; have HNUM : Hid (Num .u64 18446744073709551616 w8 (.slice r1 r2 r3) R):=hnum; have HB8 : Hid (Below w9.heap.size w9 w8):=hB8; clear hrow hnum hb))
   go_wp2
   rw [HE1.out,HE2.out]
   exact wide_end (p:=4) rfl rfl HROW.out HNUM.out (HBW.out.trans (HB8.out.mono (by have:=HSW.out; omega))) (by omega) HGN.out
def WideI (w : World) (v : Value) (V : Int) : Prop:=∃ a m c,v = .agg #[.bool (decide (V < 0)),.slice a m c] ∧ Num .u64 18446744073709551616 w (.slice a m c) V.natAbs
def WideR (V : Int) (w : World) (e : Ending) (w' : World) : Prop:=∃ v,e = .returned v ∧ WideI w' v V ∧ Below w.heap.size w w'
theorem WideI.below {w w' : World} {v : Value} {V : Int} (h : WideI w v V) (hb : Below w.heap.size w w') : WideI w' v V:=by
 obtain ⟨a,m,c,rfl,hn⟩:=h
 exact ⟨a,m,c,rfl,hn.below (Nat.le_refl _) hb⟩
theorem WideQ.toR {b : Bool} {N : Nat} {V : Int} {w w' : World} {e : Ending} (h : WideQ b N w e w') (hb : b = decide (V < 0)) (hN : N = V.natAbs) : WideR V w e w':=by
 obtain ⟨v,rfl,⟨s,rfl,hn,-⟩,hB⟩:=h
 obtain ⟨a,m,c,rfl⟩:=hn.shape
 subst hN
 exact ⟨_,rfl,⟨a,m,c,by rw [hb],hn⟩,hB⟩
theorem sg_of (V : Int) : sg (decide (V < 0)) V.natAbs = V:=by
 unfold sg
 by_cases h : V < 0
 ·rw [decide_eq_true h,if_pos rfl]; omega
 ·rw [decide_eq_false h,if_neg (by simp)]; omega
theorem iadd_v (x y : Value) (U V : Int) (w : World) (h : WideI w x U) (h' : WideI w y V) {bb : Nat} (hU : U.natAbs < 2 ^ bb) (hV : V.natAbs < 2 ^ bb) (hbb : bb ≤ 4294967296) :
  Calls Tryz.prog 166 #[x,y] w (WideR (U + V) w):=by
 obtain ⟨a,m,c,rfl,hn⟩:=h
 obtain ⟨a',m',c',rfl,hn'⟩:=h'
 refine (iadd_any _ _ _ _ _ _ w hn hn' hU hV hbb).mono fun e w' hq=>hq.toR ?_ ?_
 all_goals
  have hs:=sg_sum (decide (U < 0)) (decide (V < 0)) U.natAbs V.natAbs
  rw [sg_of,sg_of] at hs
  generalize sumS (decide (U < 0)) (decide (V < 0)) U.natAbs V.natAbs = s at *
  generalize sumM (decide (U < 0)) (decide (V < 0)) U.natAbs V.natAbs = M at *
  rw [← hs]
 ·have:=sg_lt s M
  rw [Bool.eq_iff_iff,decide_eq_true_eq,this]
  cases s <;> simp
 ·rw [sg_natAbs]
theorem ineg_v (x : Value) (V : Int) (w : World) (h : WideI w x V) : Calls Tryz.prog 179 #[x] w (WideR (-V) w):=by
 obtain ⟨a,m,c,rfl,hn⟩:=h
 refine (ineg_any _ _ _ w hn).mono fun e w' hq=>hq.toR ?_ (by omega)
 rw [Bool.eq_iff_iff]
 simp
 omega
theorem isub_v (x y : Value) (U V : Int) (w : World) (h : WideI w x U) (h' : WideI w y V) {bb : Nat} (hU : U.natAbs < 2 ^ bb) (hV : V.natAbs < 2 ^ bb) (hbb : bb ≤ 4294967296) :
  Calls Tryz.prog 219 #[x,y] w (WideR (U - V) w):=by
 have H1 : Hid (∀ W,Below w.heap.size w W → WideI W x U):=fun W hW=>h.below hW
 have H2 : Hid (∀ W,Below w.heap.size w W → WideI W y V):=fun W hW=>h'.below hW
 obtain ⟨a,m,c,rfl,-⟩:=h
 obtain ⟨a',n,c',rfl,-⟩:=h'
 obtain ⟨na,hna⟩ : ∃ b,b = decide (U < 0):=⟨_,rfl⟩
 obtain ⟨nb,hnb⟩ : ∃ b,b = decide (V < 0):=⟨_,rfl⟩
 obtain ⟨qb,hqb⟩ : ∃ b,b = decide (-V < 0):=⟨_,rfl⟩
 obtain ⟨rb,hrb⟩ : ∃ b,b = decide (U - V < 0):=⟨_,rfl⟩
 rw [← hna] at H1 ⊢
 rw [← hnb] at H2 ⊢
 have HNG : Hid (∀ W,Below w.heap.size w W → Calls Tryz.prog 179 #[.agg #[.bool nb,.slice a' n c']] W fun e w'=>∃ p1 p2 p3,e = .returned (.agg #[.bool qb,.slice p1 p2 p3]) ∧ WideI w' (.agg #[.bool qb,.slice p1 p2 p3]) (-V) ∧ Below W.heap.size W w'):=fun W hW=>by
  refine (ineg_v _ V W (H2.out W hW)).mono ?_
  rintro e w' ⟨v,rfl,hi,hb⟩
  have hi2:=hi
  obtain ⟨p1,p2,p3,rfl,-⟩:=hi
  exact ⟨p1,p2,p3,by rw [hqb],by rw [hqb]; exact hi2,hb⟩
 have HAD : Hid (∀ W p1 p2 p3,Below w.heap.size w W → WideI W (.agg #[.bool qb,.slice p1 p2 p3]) (-V) → Calls Tryz.prog 166 #[.agg #[.bool na,.slice a m c],.agg #[.bool qb,.slice p1 p2 p3]] W fun e w'=>∃ r1 r2 r3,e = .returned (.agg #[.bool rb,.slice r1 r2 r3]) ∧ Num .u64 18446744073709551616 w' (.slice r1 r2 r3) (U - V).natAbs ∧ Below W.heap.size W w'):=fun W p1 p2 p3 hW hq=>by
  refine (iadd_v _ _ U (-V) W (H1.out W hW) hq hU (by omega) hbb).mono ?_
  rintro e w' ⟨v,rfl,⟨r1,r2,r3,rfl,hn⟩,hb⟩
  rw [← Int.sub_eq_add_neg] at hn ⊢
  exact ⟨r1,r2,r3,by rw [hrb],hn,hb⟩
 have hb0 : Below w.heap.size w (((w.alloc (.cells #[.bool na,.slice a m c] 123)).alloc (.cells #[.bool nb,.slice a' n c'] 123)).alloc (.cells #[.bool false,.slice none 0 0] 123)):=(((Below.refl _ _).alloc (Nat.le_refl _) _).alloc (by simp) _).alloc (by simp; omega) _
 have q0:=heap_alloc3_0 w (.cells #[.bool na,.slice a m c] 123) (.cells #[.bool nb,.slice a' n c'] 123) (.cells #[.bool false,.slice none 0 0] 123)
 have q1:=heap_alloc3_1 w (.cells #[.bool na,.slice a m c] 123) (.cells #[.bool nb,.slice a' n c'] 123) (.cells #[.bool false,.slice none 0 0] 123)
 have q2:=heap_alloc3_2 w (.cells #[.bool na,.slice a m c] 123) (.cells #[.bool nb,.slice a' n c'] 123) (.cells #[.bool false,.slice none 0 0] 123)
 have hs4 : (((w.alloc (.cells #[.bool na,.slice a m c] 123)).alloc (.cells #[.bool nb,.slice a' n c'] 123)).alloc (.cells #[.bool false,.slice none 0 0] 123)).heap.size = w.heap.size + 3:=by simp
 have HRB : Hid (rb = decide (U - V < 0)):=hrb
 refine Calls.mono (R:=WideQ rb (U - V).natAbs w) ?_ fun e w' hq=>hq.toR HRB.out rfl
 clear H1 H2 hna hnb hqb hrb hU hV hbb
 go_enter Tryz.func219,Tryz.ntmps219
 go_upto_region 1 with fail
 generalize (((w.alloc (.cells #[.bool na,.slice a m c] 123)).alloc (.cells #[.bool nb,.slice a' n c'] 123)).alloc (.cells #[.bool false,.slice none 0 0] 123)) = w4 at *
 have HC : Hid (∀ W,Below (w.heap.size + 2) w4 W → Below (w.heap.size + 2) w4 W ∧ (W.cell? ⟨w.heap.size,0,none⟩ = some (.bool na) ∧ W.cell? ⟨w.heap.size,1,none⟩ = some (.slice a m c)) ∧ W.cell? ⟨w.heap.size + 1,0,none⟩ = some (.bool nb) ∧ W.cell? ⟨w.heap.size + 1,1,none⟩ = some (.slice a' n c')):=
  fun W hW=>⟨hW,⟨cell_of_row W _ 0 _ _ _ (hW.blk q0 (by omega)),cell_of_row W _ 1 _ _ _ (hW.blk q0 (by omega))⟩,cell_of_row W _ 0 _ _ _ (hW.blk q1 (by omega)),cell_of_row W _ 1 _ _ _ (hW.blk q1 (by omega))⟩
 have HQ6 : Hid _:=q2
 have HBW : Hid (Below w.heap.size w w4):=hb0
 have HSW : Hid (w4.heap.size = w.heap.size + 3):=hs4
 have hbs : Below (w.heap.size + 2) w4 w4:=Below.refl _ _
 have hb44 : Below w4.heap.size w4 w4:=Below.refl _ _
 clear hb0 q0 q1 q2 hs4
 go_region_held3 (fun W=>Below (w.heap.size + 2) w4 W ∧ (W.cell? ⟨w.heap.size,0,none⟩ = some (.bool na) ∧ W.cell? ⟨w.heap.size,1,none⟩ = some (.slice a m c)) ∧ W.cell? ⟨w.heap.size + 1,0,none⟩ = some (.bool nb) ∧ W.cell? ⟨w.heap.size + 1,1,none⟩ = some (.slice a' n c'))
  (first | exact HC.out _ ‹Below (w.heap.size + 2) w4 _› | exact HC.out _ (‹Below (w.heap.size + 2) w4 _›).drew | (refine HC.out _ ?_; exact Below.setCell (Below.setCell (by first | assumption | exact (‹Below (w.heap.size + 2) w4 _ ∧ _›).1) (by simp) _) (by simp) _))
  (first | (go_at_call 179; (with_reducible refine (HNG.out _ (HBW.out.thru (by first | assumption | exact Below.drew (by assumption)))).mono ?_); rintro e w7 ⟨p1,p2,p3,rfl,hi,hb⟩; have hB2 : Below (w.heap.size + 2) w4 w7:=Below.trans (by first | assumption | exact Below.drew (by assumption) : Below (w.heap.size + 2) w4 _) (hb.mono (by have:=HSW.out; simp; omega)); have hB7 : Below w4.heap.size w4 w7:=Below.thru (by first | assumption | exact Below.drew (by assumption)) hb; have HL7 : Hid (WideI w7 (.agg #[.bool qb,.slice p1 p2 p3]) (-V)):=hi; clear hi hb) | (go_at_call 166; (with_reducible refine (HAD.out _ _ _ _ (HBW.out.thru (by assumption)) HL7.out).mono ?_); rintro e w8 ⟨r1,r2,r3,rfl,hnum,hb⟩; have hB3 : Below (w.heap.size + 2) w4 w8:=Below.trans (by assumption : Below (w.heap.size + 2) w4 w7) (hb.mono (by have:=HSW.out; have:=(by assumption : Below w4.heap.size w4 w7).size; omega)); have hB8 : Below w4.heap.size w4 w8:=Below.thru (by assumption : Below w4.heap.size w4 w7) hb; have hrow : w8.heap[w.heap.size + 2]? = some (.cells #[.bool false,.slice none 0 0] 123 (0,0)):=hB8.blk HQ6.out (by have:=HSW.out; omega); obtain ⟨f0,f1,c0,c1,f2,c2⟩:=row2 hrow; have HROW : Hid _:=hrow; have HNUM : Hid (Num .u64 18446744073709551616 w8 (.slice r1 r2 r3) (U - V).natAbs):=hnum; have HB8 : Hid (Below w4.heap.size w4 w8):=hB8; clear hrow hnum hb))
 go_wp2
 have hz : rb = true → (U - V).natAbs ≠ 0:=fun h=>by have:=HRB.out; rw [h] at this; have:=of_decide_eq_true this.symm; omega
 exact wide_end (p:=4) rfl rfl HROW.out HNUM.out (HBW.out.thru HB8.out) (Nat.le_add_right _ 2) hz
theorem icmp_v (x y : Value) (U V : Int) (w : World) (h : WideI w x U) (h' : WideI w y V) {bb : Nat} (hU : U.natAbs < 2 ^ bb) (hV : V.natAbs < 2 ^ bb) (hbb : bb ≤ 4294967296) :
  Calls Tryz.prog 163 #[x,y] w fun e w'=>e = .returned (.int .i64 (if U = V then 0 else if U < V then -1 else 1)) ∧ Below w.heap.size w w':=by
 have H1 : Hid (∀ W,Below w.heap.size w W → WideI W x U):=fun W hW=>h.below hW
 have H2 : Hid (∀ W,Below w.heap.size w W → WideI W y V):=fun W hW=>h'.below hW
 obtain ⟨a,m,c,rfl,-⟩:=h
 obtain ⟨a',n,c',rfl,-⟩:=h'
 obtain ⟨na,hna⟩ : ∃ b,b = decide (U < 0):=⟨_,rfl⟩
 obtain ⟨nb,hnb⟩ : ∃ b,b = decide (V < 0):=⟨_,rfl⟩
 rw [← hna] at H1 ⊢
 rw [← hnb] at H2 ⊢
 obtain ⟨z,hz⟩ : ∃ z : Int,z = if U = V then 0 else if U < V then -1 else 1:=⟨_,rfl⟩
 rw [← hz]
 have HSU : Hid (∀ W,Below w.heap.size w W → Calls Tryz.prog 219 #[.agg #[.bool na,.slice a m c],.agg #[.bool nb,.slice a' n c']] W (WideR (U - V) W)):=fun W hW=>isub_v _ _ U V W (H1.out W hW) (H2.out W hW) hU hV hbb
 have HSG : Hid (∀ W v,WideI W v (U - V) → Calls Tryz.prog 178 #[v] W fun e w'=>e = .returned (.int .i64 z) ∧ Below W.heap.size W w'):=fun W v hv=>by
  obtain ⟨p,q,r,rfl,hn⟩:=hv
  refine (sign_any _ _ _ W hn).mono ?_
  rintro e w' ⟨rfl,hb⟩
  refine ⟨?_,hb⟩
  rw [hz]
  by_cases h0 : U = V
  ·rw [if_pos h0,if_pos (by omega)]
  ·rw [if_neg h0,if_neg (show ¬ (U - V).natAbs = 0 by omega)]
   by_cases h1 : U < V
   ·rw [if_pos h1,decide_eq_true (show U - V < 0 by omega),if_pos rfl]
   ·rw [if_neg h1,decide_eq_false (show ¬ U - V < 0 by omega),if_neg (by simp)]
 have hb0 : Below w.heap.size w ((w.alloc (.cells #[.bool na,.slice a m c] 123)).alloc (.cells #[.bool nb,.slice a' n c'] 123)):=((Below.refl _ _).alloc (Nat.le_refl _) _).alloc (by simp) _
 have HB0 : Hid _:=hb0
 clear H1 H2 hna hnb hz hU hV hbb hb0
 go_enter Tryz.func163,Tryz.ntmps163
 go_wp2_with fail
 refine (HSU.out _ HB0.out).mono ?_
 rintro e w1 ⟨v,rfl,hi,hb1⟩
 have HI : Hid (WideI w1 v (U - V)):=hi
 have HB1 : Hid _:=hb1
 clear hi hb1
 go_wp2_with fail
 refine (HSG.out _ _ HI.out).mono ?_
 rintro e w2 ⟨rfl,hb2⟩
 have HB2 : Hid _:=hb2
 clear hb2
 go_wp2
 go_ret
 exact ⟨rfl,(HB0.out.trans (HB1.out.mono (by simp; omega))).trans (HB2.out.mono (by have:=HB1.out.size; simp at this; omega))⟩
end Go.Proofs.YtlbokicainimnaaGreatDoor
