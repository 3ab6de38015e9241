import Derived.Test.YtlbokicainimnaaGreatDoorQRR
import Derived.Test.YtlbokicainimnaaGreatDoorQQS
import Derived.Test.YtlbokicainimnaaGreatDoorQMI
import Derived.Test.YtlbokicainimnaaGreatDoorQMJ
set_option maxRecDepth 100000
namespace Go.Proofs.YtlbokicainimnaaGreatDoor
open Go.RowKit
def Term (w : World) (v : Value) (neg : Bool) (M : Nat) (E : Int) : Prop:=∃ s,v = .agg #[.bool neg,s,.int .i64 E] ∧ Num .u32 4294967296 w s M
def TermQ (neg : Bool) (M : Nat) (E : Int) (w : World) (e : Ending) (w' : World) : Prop:=∃ v,e = .returned v ∧ Term w' v neg M E ∧ Below w.heap.size w w'
theorem term_row {fn : Func} {p : Tmp} (h : fn.results = #[.cell p 160]) (tmps : Array Value) (w : World) (g : Nat) (a b c : Value)
  (hp : tmps.getD p undef = .pointer (some ⟨g,0,none⟩)) (hg : w.heap[g]? = some (.cells #[a,b,c] 160 (0,0))) : (results fn tmps).run Tryz.prog w = .ok (.agg #[a,b,c]) w:=
 results_cell_row h tmps w g _ _ _ _ hp hg Tryz.underlying160 rfl (by kernel_rfl)
theorem spM_lt (b : Nat) : spM b < 9007199254740992:=by
 have:=fracB_lt b
 unfold spM mantB
 split
 ·decide
 ·split
  ·decide
  ·split <;> omega
theorem wr3' {w : World} {g : Nat} {a b c : Value} {t : TypeId} (h : w.heap[g]? = some (.cells #[a, b, c] t (0, 0))) :
  (w.frozen? ⟨g,0,none⟩ = false ∧ w.cell? ⟨g,0,none⟩ = some a) ∧ (∀ u,(w.setCell ⟨g,0,none⟩ u).frozen? ⟨g,1,none⟩ = false ∧ (w.setCell ⟨g,0,none⟩ u).cell? ⟨g,1,none⟩ = some b) ∧
   (∀ u v,((w.setCell ⟨g,0,none⟩ u).setCell ⟨g,1,none⟩ v).frozen? ⟨g,2,none⟩ = false ∧ ((w.setCell ⟨g,0,none⟩ u).setCell ⟨g,1,none⟩ v).cell? ⟨g,2,none⟩ = some c) ∧
   ∀ u v x,(((w.setCell ⟨g,0,none⟩ u).setCell ⟨g,1,none⟩ v).setCell ⟨g,2,none⟩ x).heap[g]? = some (.cells #[u,v,x] t (0,0)):=by
 have h1:=fun u=>heap_setCell_same w g 0 _ _ u h
 have h2:=fun u v=>heap_setCell_same _ g 1 _ _ v (h1 u)
 have h3:=fun u v x=>heap_setCell_same _ g 2 _ _ x (h2 u v)
 exact ⟨⟨frozen_of_row w g 0 _ _ h,cell_of_row w g 0 _ _ _ h⟩,fun u=>⟨frozen_of_row _ g 1 _ _ (h1 u),cell_of_row _ g 1 _ _ _ (h1 u)⟩,fun u v=>⟨frozen_of_row _ g 2 _ _ (h2 u v),cell_of_row _ g 2 _ _ _ (h2 u v)⟩,h3⟩
theorem Num.set3 {w : World} {g : Nat} {a : Bool} {p : Option Addr} {n c : Nat} {E : Int} {t : TypeId} {s : Value} {N : Nat} (h : Num .u32 4294967296 w s N) (hg : w.heap[g]? = some (.cells #[.bool a, .slice p n c, .int .i64 E] t (0, 0))) (u v x : Value) :
  Num .u32 4294967296 (((w.setCell ⟨g,0,none⟩ u).setCell ⟨g,1,none⟩ v).setCell ⟨g,2,none⟩ x) s N:=by
 obtain ⟨xs,⟨q,n',cc,rfl,h1,h2,h3,h4,h5⟩,h6,h7⟩:=h
 refine ⟨xs,⟨q,n',cc,rfl,h1,h2,h3,h4,fun hn=>?_⟩,h6,h7⟩
 obtain ⟨b',o,rfl,hs,hc⟩:=h5 hn
 have hbg : b' ≠ g:=by
  rintro rfl
  have:=hc 0 hn
  rw [cell_of_row _ _ _ _ _ _ hg] at this
  match o with
  | 0=>simp at this
  | 1=>simp at this
  | 2=>simp at this
  | o + 3=>simp at this
 refine ⟨b',o,rfl,by simpa [World.setCell] using hs,fun i hi=>?_⟩
 rw [← hc i hi,World.cell?_of_block (heap_setCell_other _ _ _ _ (by exact hbg)),World.cell?_of_block (heap_setCell_other _ _ _ _ (by exact hbg)),World.cell?_of_block (heap_setCell_other _ _ _ _ (by exact hbg))]
theorem r7_of (b : Nat) (w : World) (hb : W64 b) :
  Calls Tryz.prog 130 #[.int .u64 b] w (TermQ (spS b) (spM b) (spE b) w):=by
 have HB : Hid (W64 b):=hb
 clear hb
 go_enter Tryz.func130,Tryz.ntmps130
 go_wp2_with (go_at_call 53; refine (ref_split b _ HB.out).mono ?_; rintro e w' ⟨rfl,rfl⟩)
 refine (of_any (spM b) _ (Nat.lt_trans (spM_lt b) (by decide))).mono ?_
 rintro e w' ⟨v,rfl,hnum,hb⟩
 obtain ⟨s1,s2,s3,rfl⟩:=hnum.shape
 have hrow:=hb.blk (heap_alloc_new w _) (by simp)
 obtain ⟨⟨a0,a1⟩,a2,a3,a4⟩:=wr3' hrow
 have b0:=fun u=>(a2 u).1
 have b1:=fun u=>(a2 u).2
 have b2:=fun u v=>(a3 u v).1
 have b3:=fun u v=>(a3 u v).2
 have A4 : Hid _:=a4
 have HR : Hid _:=hrow
 have HN : Hid (Num .u32 4294967296 w' (.slice s1 s2 s3) (spM b)):=hnum
 have HBW : Hid (Below w.heap.size w w'):=((Below.refl _ _).alloc (Nat.le_refl _) _).trans (hb.mono (by simp))
 clear a2 a3 a4 hrow hnum hb
 go_wp2
 refine bodyPost_ret (term_row rfl _ _ w.heap.size _ _ _ rfl (A4.out _ _ _)) rfl ⟨_,rfl,⟨_,rfl,?_⟩,((HBW.out.setCell (Nat.le_refl _) _).setCell (Nat.le_refl _) _).setCell (Nat.le_refl _) _⟩
 exact HN.out.set3 HR.out _ _ _
theorem Term.below {w w' : World} {v : Value} {neg : Bool} {M : Nat} {E : Int} (h : Term w v neg M E) {B : Nat} (hB : w.heap.size ≤ B) (hb : Below B w w') : Term w' v neg M E:=by
 obtain ⟨s,rfl,h1⟩:=h
 exact ⟨s,rfl,h1.below hB hb⟩
theorem term_small {M K : Nat} {e : Int} (h : M < 2^53) (he : e ≤ K) : M * 2^e.toNat < 2^(53 + K):=by
 rw [Nat.pow_add]
 exact Nat.mul_lt_mul_of_lt_of_le h (Nat.pow_le_pow_right (by decide) (by omega)) (Nat.two_pow_pos _)
theorem sumM_small (na nb : Bool) {X Y B : Nat} (hX : X < 2^B) (hY : Y < 2^B) : sumM na nb X Y < 2^(B + 1):=by
 have : sumM na nb X Y ≤ X + Y:=by unfold sumM; split; omega; split <;> omega
 rw [Nat.pow_succ]
 generalize 2^B = K at *
 omega
set_option maxHeartbeats 1000000 in
theorem r7_product (v v' : Value) (na nb : Bool) (M N : Nat) (E F : Int) (w : World) (h : Term w v na M E) (h' : Term w v' nb N F) {bb : Nat} (hM : M < 2 ^ bb) (hN : N < 2 ^ bb) (hbb : bb ≤ 1000000) (hE : -1000000 ≤ E ∧ E ≤ 1000000) (hF : -1000000 ≤ F ∧ F ≤ 1000000) :
  Calls Tryz.prog 132 #[v,v'] w (TermQ (na != nb) (M * N) (E + F) w):=by
 obtain ⟨s,rfl,hs⟩:=h
 obtain ⟨t,rfl,ht⟩:=h'
 obtain ⟨a,m,c,rfl⟩:=hs.shape
 obtain ⟨a',n,c',rfl⟩:=ht.shape
 have HMUL : Hid (∀ W,Below w.heap.size w W → Calls Tryz.prog 56 #[.slice a m c,.slice a' n c'] W (NatQ (M * N) W)):=fun W hW=>nmul_any _ _ M N W (hs.below (Nat.le_refl _) hW) (ht.below (Nat.le_refl _) hW) hM hN (by omega)
 obtain ⟨P,hP⟩ : ∃ P,P = M * N:=⟨_,rfl⟩
 rw [← hP] at HMUL ⊢
 have i1 : IntKind.i64.wrap (E + F) = E + F:=IntWalk.i64_in _ (by omega)
 have hb0 : Below w.heap.size w (((w.alloc (.cells #[.bool na,.slice a m c,.int .i64 E] 160)).alloc (.cells #[.bool nb,.slice a' n c',.int .i64 F] 160)).alloc (.cells #[.bool false,.slice none 0 0,.int .i64 0] 160)):=(((Below.refl _ _).alloc (Nat.le_refl _) _).alloc (by simp) _).alloc (by simp; omega) _
 have q0:=heap_alloc3_0 w (.cells #[.bool na,.slice a m c,.int .i64 E] 160) (.cells #[.bool nb,.slice a' n c',.int .i64 F] 160) (.cells #[.bool false,.slice none 0 0,.int .i64 0] 160)
 have q1:=heap_alloc3_1 w (.cells #[.bool na,.slice a m c,.int .i64 E] 160) (.cells #[.bool nb,.slice a' n c',.int .i64 F] 160) (.cells #[.bool false,.slice none 0 0,.int .i64 0] 160)
 have q2:=heap_alloc3_2 w (.cells #[.bool na,.slice a m c,.int .i64 E] 160) (.cells #[.bool nb,.slice a' n c',.int .i64 F] 160) (.cells #[.bool false,.slice none 0 0,.int .i64 0] 160)
 have hs4 : (((w.alloc (.cells #[.bool na,.slice a m c,.int .i64 E] 160)).alloc (.cells #[.bool nb,.slice a' n c',.int .i64 F] 160)).alloc (.cells #[.bool false,.slice none 0 0,.int .i64 0] 160)).heap.size = w.heap.size + 3:=by simp
 clear hs ht hM hN hbb hE hF hP
 go_enter Tryz.func132,Tryz.ntmps132
 go_upto_region 1 with fail
 generalize (((w.alloc (.cells #[.bool na,.slice a m c,.int .i64 E] 160)).alloc (.cells #[.bool nb,.slice a' n c',.int .i64 F] 160)).alloc (.cells #[.bool false,.slice none 0 0,.int .i64 0] 160)) = w4 at *
 have HC : Hid (∀ W, Below (w.heap.size + 2) w4 W → Below (w.heap.size + 2) w4 W ∧ W.cell? ⟨w.heap.size, 0, none⟩ = some (.bool na) ∧ W.cell? ⟨w.heap.size, 1, none⟩ = some (.slice a m c) ∧ W.cell? ⟨w.heap.size, 2, none⟩ = some (.int .i64 E) ∧
   W.cell? ⟨w.heap.size + 1,0,none⟩ = some (.bool nb) ∧ W.cell? ⟨w.heap.size + 1,1,none⟩ = some (.slice a' n c') ∧ W.cell? ⟨w.heap.size + 1,2,none⟩ = some (.int .i64 F)):=
  fun W hW=>⟨hW,cell_of_row W _ 0 _ _ _ (hW.blk q0 (by omega)),cell_of_row W _ 1 _ _ _ (hW.blk q0 (by omega)),cell_of_row W _ 2 _ _ _ (hW.blk q0 (by omega)),cell_of_row W _ 0 _ _ _ (hW.blk q1 (by omega)),cell_of_row W _ 1 _ _ _ (hW.blk q1 (by omega)),cell_of_row W _ 2 _ _ _ (hW.blk q1 (by omega))⟩
 have HQ2 : Hid _:=q2
 have HB0 : Hid (Below w.heap.size w w4):=hb0
 have HS4 : Hid (w4.heap.size = w.heap.size + 3):=hs4
 have hbs : Below (w.heap.size + 2) w4 w4:=Below.refl _ _
 obtain ⟨⟨g0,g1⟩,-,-,-⟩:=wr3' q2
 clear hb0 q0 q1 q2 hs4
 go_region_held3 (fun W => Below (w.heap.size + 2) w4 W ∧ W.cell? ⟨w.heap.size, 0, none⟩ = some (.bool na) ∧ W.cell? ⟨w.heap.size, 1, none⟩ = some (.slice a m c) ∧ W.cell? ⟨w.heap.size, 2, none⟩ = some (.int .i64 E) ∧
   W.cell? ⟨w.heap.size + 1,0,none⟩ = some (.bool nb) ∧ W.cell? ⟨w.heap.size + 1,1,none⟩ = some (.slice a' n c') ∧ W.cell? ⟨w.heap.size + 1,2,none⟩ = some (.int .i64 F))
  (first | exact HC.out _ ‹Below (w.heap.size + 2) w4 _› | exact HC.out _ (‹Below (w.heap.size + 2) w4 _›).drew | (refine HC.out _ ?_; exact Below.setCell (Below.setCell (Below.setCell (by first | assumption | exact (‹Below (w.heap.size + 2) w4 _ ∧ _›).1) (by simp) _) (by simp) _) (by simp) _))
  (first | (go_at_call 56; (with_reducible refine (HMUL.out _ (HB0.out.trans (Below.mono (by first | assumption | exact Below.drew (by assumption) : Below (w.heap.size + 2) w4 _) (by omega)))).mono ?_); rintro e w7 ⟨v,rfl,hnum,hb⟩; obtain ⟨s1,s2,s3,rfl⟩:=Num.shape hnum; have hB2 : Below (w.heap.size + 2) w4 w7:=Below.trans (by first | assumption | exact Below.drew (by assumption) : Below (w.heap.size + 2) w4 _) (hb.mono (by have:=HS4.out; simp; omega)); have hrow : w7.heap[w.heap.size + 2]? = some (.cells #[.bool false,.slice none 0 0,.int .i64 0] 160 (0,0)):=hb.blk HQ2.out (by have:=HS4.out; simp; omega); obtain ⟨⟨a0,a1⟩,a2,a3,a4⟩:=wr3' hrow; have b0:=fun u=>(a2 u).1; have b1:=fun u=>(a2 u).2; have b2:=fun u v=>(a3 u v).1; have b3:=fun u v=>(a3 u v).2; have A4 : Hid _:=a4; have HROW : Hid _:=hrow; have HNUM : Hid _:=hnum; have HBB : Hid (Below w4.heap.size w4 w7):=⟨hb.os,hb.tape,hb.output,hb.size,hb.block⟩; clear a2 a3 a4 hrow hnum hb))
 go_wp2
 refine bodyPost_ret (term_row rfl _ _ (w.heap.size + 2) _ _ _ rfl (A4.out _ _ _)) rfl ⟨_,rfl,⟨_,?_,Num.set3 HNUM.out HROW.out _ _ _⟩,?_⟩
 ·cases na <;> cases nb <;> rfl
 ·exact (((HB0.out.trans (HBB.out.mono (by have:=HS4.out; omega))).setCell (by simp; omega) _).setCell (by simp; omega) _).setCell (by simp; omega) _
set_option maxHeartbeats 2000000 in
theorem r7_sum (v v' : Value) (na nb : Bool) (M N : Nat) (E F G : Int) (w : World) (h : Term w v na M E) (h' : Term w v' nb N F) {bb : Nat} (hM : M < 2 ^ bb) (hN : N < 2 ^ bb) (hbb : bb ≤ 1000000) (hE : -1000000 ≤ E ∧ E ≤ 1000000) (hF : -1000000 ≤ F ∧ F ≤ 1000000) (hG : min E F = G) :
  Calls Tryz.prog 131 #[v,v'] w (TermQ (sumS na nb (M * 2 ^ (E - G).toNat) (N * 2 ^ (F - G).toNat)) (sumM na nb (M * 2 ^ (E - G).toNat) (N * 2 ^ (F - G).toNat)) G w):=by
 obtain ⟨s,rfl,hs⟩:=h
 obtain ⟨t,rfl,ht⟩:=h'
 obtain ⟨a,m,c,rfl⟩:=hs.shape
 obtain ⟨a',n,c',rfl⟩:=ht.shape
 obtain ⟨u,hu⟩ : ∃ u,u = (E - G).toNat:=⟨_,rfl⟩
 obtain ⟨z,hz⟩ : ∃ z,z = (F - G).toNat:=⟨_,rfl⟩
 have hEu : E - G = ((32 * (u / 32) + u % 32 : Nat) : Int):=by omega
 have hFz : F - G = ((32 * (z / 32) + z % 32 : Nat) : Int):=by omega
 have huq : 32 * (u / 32) + u % 32 = u:=by omega
 have hzq : 32 * (z / 32) + z % 32 = z:=by omega
 have hub : u ≤ 2000000:=by omega
 have hzb : z ≤ 2000000:=by omega
 have i1 : IntKind.i64.wrap (E - G) = E - G:=IntWalk.i64_in _ (by omega)
 have i2 : IntKind.i64.wrap (F - G) = F - G:=IntWalk.i64_in _ (by omega)
 rw [← hu,← hz]
 have HL1 : Hid (∀ W,Below w.heap.size w W → Calls Tryz.prog 55 #[.slice a m c,.int .i64 (E - G)] W (NatQ (M * 2 ^ u) W)):=fun W hW=>by
  have:=nleft_any _ M (u / 32) (u % 32) (E - G) W (hs.below (Nat.le_refl _) hW) hEu (Nat.mod_lt _ (by decide)) (by omega) hM (by omega)
  rwa [huq] at this
 have HL2 : Hid (∀ W,Below w.heap.size w W → Calls Tryz.prog 55 #[.slice a' n c',.int .i64 (F - G)] W (NatQ (N * 2 ^ z) W)):=fun W hW=>by
  have:=nleft_any _ N (z / 32) (z % 32) (F - G) W (ht.below (Nat.le_refl _) hW) hFz (Nat.mod_lt _ (by decide)) (by omega) hN (by omega)
  rwa [hzq] at this
 obtain ⟨K,hK⟩ : ∃ K,K = 2000000:=⟨_,rfl⟩
 rw [← hK] at hub hzb
 have hX : M * 2 ^ u < 2 ^ (bb + K):=by
  rw [Nat.pow_add]
  exact Nat.mul_lt_mul_of_lt_of_le hM (Nat.pow_le_pow_right (by decide) hub) (Nat.two_pow_pos _)
 have hY : N * 2 ^ z < 2 ^ (bb + K):=by
  rw [Nat.pow_add]
  exact Nat.mul_lt_mul_of_lt_of_le hN (Nat.pow_le_pow_right (by decide) hzb) (Nat.two_pow_pos _)
 obtain ⟨X,hXd⟩ : ∃ X,X = M * 2 ^ u:=⟨_,rfl⟩
 obtain ⟨Y,hYd⟩ : ∃ Y,Y = N * 2 ^ z:=⟨_,rfl⟩
 rw [← hXd] at HL1 hX ⊢
 rw [← hYd] at HL2 hY ⊢
 obtain ⟨B2,hB2⟩ : ∃ B2,B2 = bb + K:=⟨_,rfl⟩
 rw [← hB2] at hX hY
 have HXY : Hid (X < 2 ^ B2 ∧ Y < 2 ^ B2 ∧ B2 ≤ 4294967296):=⟨hX,hY,by omega⟩
 have hb0 : Below w.heap.size w (((w.alloc (.cells #[.bool na,.slice a m c,.int .i64 E] 160)).alloc (.cells #[.bool nb,.slice a' n c',.int .i64 F] 160)).alloc (.cells #[.bool false,.slice none 0 0,.int .i64 0] 160)):=(((Below.refl _ _).alloc (Nat.le_refl _) _).alloc (by simp) _).alloc (by simp; omega) _
 have q0:=heap_alloc3_0 w (.cells #[.bool na,.slice a m c,.int .i64 E] 160) (.cells #[.bool nb,.slice a' n c',.int .i64 F] 160) (.cells #[.bool false,.slice none 0 0,.int .i64 0] 160)
 have q1:=heap_alloc3_1 w (.cells #[.bool na,.slice a m c,.int .i64 E] 160) (.cells #[.bool nb,.slice a' n c',.int .i64 F] 160) (.cells #[.bool false,.slice none 0 0,.int .i64 0] 160)
 have q2:=heap_alloc3_2 w (.cells #[.bool na,.slice a m c,.int .i64 E] 160) (.cells #[.bool nb,.slice a' n c',.int .i64 F] 160) (.cells #[.bool false,.slice none 0 0,.int .i64 0] 160)
 have hs4 : (((w.alloc (.cells #[.bool na,.slice a m c,.int .i64 E] 160)).alloc (.cells #[.bool nb,.slice a' n c',.int .i64 F] 160)).alloc (.cells #[.bool false,.slice none 0 0,.int .i64 0] 160)).heap.size = w.heap.size + 3:=by simp
 clear hs ht hM hN hbb hE hF hEu hFz huq hzq hub hzb hX hY hXd hYd hB2 hu hz hK
 go_enter Tryz.func131,Tryz.ntmps131
 go_upto_region 1 with fail
 generalize (((w.alloc (.cells #[.bool na,.slice a m c,.int .i64 E] 160)).alloc (.cells #[.bool nb,.slice a' n c',.int .i64 F] 160)).alloc (.cells #[.bool false,.slice none 0 0,.int .i64 0] 160)) = w4 at *
 have HC : Hid (∀ W, Below (w.heap.size + 2) w4 W → W.cell? ⟨w.heap.size, 0, none⟩ = some (.bool na) ∧ W.cell? ⟨w.heap.size, 1, none⟩ = some (.slice a m c) ∧ W.cell? ⟨w.heap.size, 2, none⟩ = some (.int .i64 E) ∧
   W.cell? ⟨w.heap.size + 1,0,none⟩ = some (.bool nb) ∧ W.cell? ⟨w.heap.size + 1,1,none⟩ = some (.slice a' n c') ∧ W.cell? ⟨w.heap.size + 1,2,none⟩ = some (.int .i64 F)):=
  fun W hW=>⟨cell_of_row W _ 0 _ _ _ (hW.blk q0 (by omega)),cell_of_row W _ 1 _ _ _ (hW.blk q0 (by omega)),cell_of_row W _ 2 _ _ _ (hW.blk q0 (by omega)),cell_of_row W _ 0 _ _ _ (hW.blk q1 (by omega)),cell_of_row W _ 1 _ _ _ (hW.blk q1 (by omega)),cell_of_row W _ 2 _ _ _ (hW.blk q1 (by omega))⟩
 have HQ2 : Hid _:=q2
 have HB0 : Hid (Below w.heap.size w w4):=hb0
 have HS4 : Hid (w4.heap.size = w.heap.size + 3):=hs4
 obtain ⟨x0,x1,x2,y0,y1,y2⟩:=HC.out w4 (Below.refl _ _)
 clear hb0 q0 q1 q2 hs4
 go_wp2_with fail
 refine (HL1.out _ HB0.out).mono ?_
 rintro e w5 ⟨v5,rfl,hx5,hb5⟩
 obtain ⟨p1,p2,p3,rfl⟩:=Num.shape hx5
 have HB5 : Hid (Below w4.heap.size w4 w5):=hb5
 have HX5 : Hid _:=hx5
 clear x0 x1 x2 y0 y1 y2 hb5 hx5
 obtain ⟨x0,x1,x2,y0,y1,y2⟩:=HC.out w5 (HB5.out.mono (by have:=HS4.out; omega))
 go_wp2_with fail
 refine (HL2.out _ (HB0.out.trans (HB5.out.mono (by have:=HS4.out; omega)))).mono ?_
 rintro e w6 ⟨v6,rfl,hy6,hb6⟩
 obtain ⟨r1,r2,r3,rfl⟩:=Num.shape hy6
 have HB6 : Hid (Below w4.heap.size w4 w6):=HB5.out.trans (hb6.mono HB5.out.size)
 have HX6 : Hid _:=Num.below HX5.out (Nat.le_refl _) hb6
 have HY6 : Hid _:=hy6
 have HBW : Hid (Below w.heap.size w w6):=HB0.out.trans (HB6.out.mono (by have:=HS4.out; omega))
 have HSW : Hid (w.heap.size + 3 ≤ w6.heap.size):=by have:=HB6.out.size; have h4:=HS4.out; show _ ≤ _; omega
 have HQ6 : Hid (w6.heap[w.heap.size + 2]? = _):=HB6.out.blk HQ2.out (by have:=HS4.out; omega)
 have hbs : Below (w.heap.size + 2) w4 w6:=HB6.out.mono (by have:=HS4.out; omega)
 have hb66 : Below w6.heap.size w6 w6:=Below.refl _ _
 clear x0 x1 x2 y0 y1 y2 hb6 hy6 i1 i2
 obtain ⟨x0,x1,x2,y0,y1,y2⟩:=HC.out w6 hbs
 have HADD : Hid (∀ W,Below w6.heap.size w6 W → Calls Tryz.prog 181 #[.slice p1 p2 p3,.slice r1 r2 r3] W (NatQ (X + Y) W)):=fun W hW=>nadd_any _ _ X Y W (Num.below HX6.out (Nat.le_refl _) hW) (Num.below HY6.out (Nat.le_refl _) hW) HXY.out.1 HXY.out.2.1 HXY.out.2.2
 by_cases hab : na = nb
 ·subst hab
  have HK : Hid (∀ W,Below (w.heap.size + 2) w4 W → Below (w.heap.size + 2) w4 W ∧ W.cell? ⟨w.heap.size,0,none⟩ = some (.bool na)):=fun W hW=>⟨hW,(HC.out W hW).1⟩
  have e1 : sumS na na X Y = na:=if_pos rfl
  have e2 : sumM na na X Y = X + Y:=if_pos rfl
  have HE1 : Hid _:=e1
  have HE2 : Hid _:=e2
  clear e1 e2
  go_upto_region 5 with fail
  clear x0 x1 x2 y0 y1 y2
  go_region_held3 (fun W=>Below (w.heap.size + 2) w4 W ∧ W.cell? ⟨w.heap.size,0,none⟩ = some (.bool na))
   (first | exact HK.out _ ‹Below (w.heap.size + 2) w4 _› | exact HK.out _ (‹Below (w.heap.size + 2) w4 _›).drew | (refine HK.out _ ?_; exact Below.setCell (Below.setCell (Below.setCell (by first | assumption | exact (‹Below (w.heap.size + 2) w4 _ ∧ _›).1) (by simp) _) (by simp) _) (by simp) _))
   (first | (go_at_call 181; (with_reducible refine (HADD.out _ (by first | assumption | exact Below.drew (by assumption))).mono ?_); rintro e w7 ⟨v,rfl,hnum,hb⟩; obtain ⟨s1,s2,s3,rfl⟩:=Num.shape hnum; have hB2 : Below (w.heap.size + 2) w4 w7:=Below.trans (by first | assumption | exact Below.drew (by assumption) : Below (w.heap.size + 2) w4 _) (hb.mono (by have:=HSW.out; simp; omega)); have hrow : w7.heap[w.heap.size + 2]? = some (.cells #[.bool false,.slice none 0 0,.int .i64 0] 160 (0,0)):=hb.blk HQ6.out (by have:=HSW.out; simp; omega); obtain ⟨⟨a0,a1⟩,a2,a3,a4⟩:=wr3' hrow; have b0:=fun u=>(a2 u).1; have b1:=fun u=>(a2 u).2; have b2:=fun u v=>(a3 u v).1; have b3:=fun u v=>(a3 u v).2; have A4 : Hid _:=a4; have HROW : Hid _:=hrow; have HNUM : Hid _:=hnum; have HBB : Hid (Below w6.heap.size w6 w7):=⟨hb.os,hb.tape,hb.output,hb.size,hb.block⟩; clear a2 a3 a4 hrow hnum hb))
  go_wp2
  refine bodyPost_ret (term_row rfl _ _ (w.heap.size + 2) _ _ _ rfl (A4.out _ _ _)) rfl ⟨_,rfl,⟨_,by rw [HE1.out],by rw [HE2.out]; exact Num.set3 HNUM.out HROW.out _ _ _⟩,?_⟩
  exact (((HBW.out.trans (HBB.out.mono (by have:=HSW.out; omega))).setCell (by simp; omega) _).setCell (by simp; omega) _).setCell (by simp; omega) _
 ·have hab2 : (na == nb) = false:=by cases na <;> cases nb <;> first | rfl | exact absurd rfl hab
  have HAB : Hid (¬ na = nb):=hab
  clear hab
  go_wp2_with fail
  refine (ncmp_any _ _ X Y w6 HX6.out HY6.out).mono ?_
  rintro e w9 ⟨rfl,hb9⟩
  have HX9 : Hid _:=Num.below HX6.out (Nat.le_refl _) hb9
  have HY9 : Hid _:=Num.below HY6.out (Nat.le_refl _) hb9
  have HB9 : Hid (Below w4.heap.size w4 w9):=HB6.out.trans (hb9.mono HB6.out.size)
  have HBW : Hid (Below w.heap.size w w9):=HB0.out.trans (HB9.out.mono (by have:=HS4.out; omega))
  have HSW : Hid (w.heap.size + 3 ≤ w9.heap.size):=by have:=HB9.out.size; have h4:=HS4.out; show _ ≤ _; omega
  have HQ6 : Hid (w9.heap[w.heap.size + 2]? = _):=HB9.out.blk HQ2.out (by have:=HS4.out; omega)
  have hbs : Below (w.heap.size + 2) w4 w9:=HB9.out.mono (by have:=HS4.out; omega)
  have hb66 : Below w9.heap.size w9 w9:=Below.refl _ _
  clear x0 x1 x2 y0 y1 y2 hb9 hab2
  by_cases hYX : Y ≤ X
  ·have hc : (0 : Int) ≤ ncmp X Y:=by unfold ncmp; split; omega; split; decide; decide
   obtain ⟨r,hr⟩ : ∃ r,r = ncmp X Y:=⟨_,rfl⟩
   rw [← hr] at hc ⊢
   have e1 : sumS na nb X Y = na:=by unfold sumS; rw [if_neg HAB.out,if_pos hYX]
   have e2 : sumM na nb X Y = X - Y:=by unfold sumM; rw [if_neg HAB.out,if_pos hYX]
   have HSUB : Hid (∀ W,Below w9.heap.size w9 W → Calls Tryz.prog 128 #[.slice p1 p2 p3,.slice r1 r2 r3] W (NatQ (X - Y) W)):=fun W hW=>nsub_any _ _ X Y W (Num.below HX9.out (Nat.le_refl _) hW) (Num.below HY9.out (Nat.le_refl _) hW) HXY.out.1 hYX HXY.out.2.2
   have HK : Hid (∀ W,Below (w.heap.size + 2) w4 W → Below (w.heap.size + 2) w4 W ∧ W.cell? ⟨w.heap.size,0,none⟩ = some (.bool na)):=fun W hW=>⟨hW,(HC.out W hW).1⟩
   have HE1 : Hid _:=e1
   have HE2 : Hid _:=e2
   clear e1 e2 hYX hr
   go_upto_region 7 with fail
   go_region_held3 (fun W=>Below (w.heap.size + 2) w4 W ∧ W.cell? ⟨w.heap.size,0,none⟩ = some (.bool na))
    (first | exact HK.out _ ‹Below (w.heap.size + 2) w4 _› | exact HK.out _ (‹Below (w.heap.size + 2) w4 _›).drew | (refine HK.out _ ?_; exact Below.setCell (Below.setCell (Below.setCell (by first | assumption | exact (‹Below (w.heap.size + 2) w4 _ ∧ _›).1) (by simp) _) (by simp) _) (by simp) _))
    (first | (go_at_call 128; (with_reducible refine (HSUB.out _ (by first | assumption | exact Below.drew (by assumption))).mono ?_); rintro e w7 ⟨v,rfl,hnum,hb⟩; obtain ⟨s1,s2,s3,rfl⟩:=Num.shape hnum; have hB2 : Below (w.heap.size + 2) w4 w7:=Below.trans (by first | assumption | exact Below.drew (by assumption) : Below (w.heap.size + 2) w4 _) (hb.mono (by have:=HSW.out; simp; omega)); have hrow : w7.heap[w.heap.size + 2]? = some (.cells #[.bool false,.slice none 0 0,.int .i64 0] 160 (0,0)):=hb.blk HQ6.out (by have:=HSW.out; simp; omega); obtain ⟨⟨a0,a1⟩,a2,a3,a4⟩:=wr3' hrow; have b0:=fun u=>(a2 u).1; have b1:=fun u=>(a2 u).2; have b2:=fun u v=>(a3 u v).1; have b3:=fun u v=>(a3 u v).2; have A4 : Hid _:=a4; have HROW : Hid _:=hrow; have HNUM : Hid _:=hnum; have HBB : Hid (Below w9.heap.size w9 w7):=⟨hb.os,hb.tape,hb.output,hb.size,hb.block⟩; clear a2 a3 a4 hrow hnum hb))
   go_wp2
   refine bodyPost_ret (term_row rfl _ _ (w.heap.size + 2) _ _ _ rfl (A4.out _ _ _)) rfl ⟨_,rfl,⟨_,by rw [HE1.out],by rw [HE2.out]; exact Num.set3 HNUM.out HROW.out _ _ _⟩,?_⟩
   exact (((HBW.out.trans (HBB.out.mono (by have:=HSW.out; omega))).setCell (by simp; omega) _).setCell (by simp; omega) _).setCell (by simp; omega) _
  ·have hc : ¬ (0 : Int) ≤ ncmp X Y:=by unfold ncmp; rw [if_pos (by omega)]; decide
   obtain ⟨r,hr⟩ : ∃ r,r = ncmp X Y:=⟨_,rfl⟩
   rw [← hr] at hc ⊢
   have e1 : sumS na nb X Y = nb:=by unfold sumS; rw [if_neg HAB.out,if_neg hYX]
   have e2 : sumM na nb X Y = Y - X:=by unfold sumM; rw [if_neg HAB.out,if_neg hYX]
   have HSUB : Hid (∀ W,Below w9.heap.size w9 W → Calls Tryz.prog 128 #[.slice r1 r2 r3,.slice p1 p2 p3] W (NatQ (Y - X) W)):=fun W hW=>nsub_any _ _ Y X W (Num.below HY9.out (Nat.le_refl _) hW) (Num.below HX9.out (Nat.le_refl _) hW) HXY.out.2.1 (by omega) HXY.out.2.2
   have HK : Hid (∀ W,Below (w.heap.size + 2) w4 W → Below (w.heap.size + 2) w4 W ∧ W.cell? ⟨w.heap.size + 1,0,none⟩ = some (.bool nb)):=fun W hW=>⟨hW,(HC.out W hW).2.2.2.1⟩
   have HE1 : Hid _:=e1
   have HE2 : Hid _:=e2
   clear e1 e2 hYX hr
   go_upto_region 8 with fail
   go_region_held3 (fun W=>Below (w.heap.size + 2) w4 W ∧ W.cell? ⟨w.heap.size + 1,0,none⟩ = some (.bool nb))
    (first | exact HK.out _ ‹Below (w.heap.size + 2) w4 _› | exact HK.out _ (‹Below (w.heap.size + 2) w4 _›).drew | (refine HK.out _ ?_; exact Below.setCell (Below.setCell (Below.setCell (by first | assumption | exact (‹Below (w.heap.size + 2) w4 _ ∧ _›).1) (by simp) _) (by simp) _) (by simp) _))
    (first | (go_at_call 128; (with_reducible refine (HSUB.out _ (by first | assumption | exact Below.drew (by assumption))).mono ?_); rintro e w7 ⟨v,rfl,hnum,hb⟩; obtain ⟨s1,s2,s3,rfl⟩:=Num.shape hnum; have hB2 : Below (w.heap.size + 2) w4 w7:=Below.trans (by first | assumption | exact Below.drew (by assumption) : Below (w.heap.size + 2) w4 _) (hb.mono (by have:=HSW.out; simp; omega)); have hrow : w7.heap[w.heap.size + 2]? = some (.cells #[.bool false,.slice none 0 0,.int .i64 0] 160 (0,0)):=hb.blk HQ6.out (by have:=HSW.out; simp; omega); obtain ⟨⟨a0,a1⟩,a2,a3,a4⟩:=wr3' hrow; have b0:=fun u=>(a2 u).1; have b1:=fun u=>(a2 u).2; have b2:=fun u v=>(a3 u v).1; have b3:=fun u v=>(a3 u v).2; have A4 : Hid _:=a4; have HROW : Hid _:=hrow; have HNUM : Hid _:=hnum; have HBB : Hid (Below w9.heap.size w9 w7):=⟨hb.os,hb.tape,hb.output,hb.size,hb.block⟩; clear a2 a3 a4 hrow hnum hb))
   go_wp2
   refine bodyPost_ret (term_row rfl _ _ (w.heap.size + 2) _ _ _ rfl (A4.out _ _ _)) rfl ⟨_,rfl,⟨_,by rw [HE1.out],by rw [HE2.out]; exact Num.set3 HNUM.out HROW.out _ _ _⟩,?_⟩
   exact (((HBW.out.trans (HBB.out.mono (by have:=HSW.out; omega))).setCell (by simp; omega) _).setCell (by simp; omega) _).setCell (by simp; omega) _
def NearestQ (neg : Bool) (R : Nat) (w : World) (e : Ending) (w' : World) : Prop:=e = .returned (.tuple #[.int .u64 (resB neg R : Nat),.int .i64 (resX R)]) ∧ Below w.heap.size w w'
theorem to_any (neg : Bool) (v : Value) (M D : Nat) (E : Int) (w : World) (h : Val w v neg M D E) {bb : Nat} (hM : M < 2 ^ bb) (hD : D < 2 ^ bb) (hbb : bb ≤ 200000) (hE1 : -200000 ≤ E) (hE2 : E ≤ 200000) (hM0 : 0 < M) (hD0 : 0 < D) {R : Nat} (hN : Near 52 (M * 2^(E + LP).toNat) (D * 2^(-(E + LP)).toNat) R) :
  Calls Tryz.prog 113 #[v,.agg #[.int .i64 53,.int .i64 (-1074),.int .i64 1023],.int .i64 1] w (ToPost neg R w):=by
 rcases Int.lt_or_le 1031 ((blen M : Int) - blen D + E - 56) with c | c
 ·exact to_far_any neg v M D E w h hM hD hbb hE1 hE2 hM0 hD0 hN c
 ·exact to_near_any neg v M D E w h hM hD hbb hE1 hE2 hM0 hD0 hN c
set_option maxHeartbeats 2000000 in
theorem nearest_any (neg : Bool) (v : Value) (M D : Nat) (E : Int) (w : World) (h : Val w v neg M D E) {bb : Nat} (hM : M < 2 ^ bb) (hD : D < 2 ^ bb) (hbb : bb ≤ 200000) (hE1 : -200000 ≤ E) (hE2 : E ≤ 200000) (hM0 : 0 < M) (hD0 : 0 < D) {R : Nat} (hN : Near 52 (M * 2^(E + LP).toNat) (D * 2^(-(E + LP)).toNat) R) :
  Calls Tryz.prog 182 #[v] w (NearestQ neg R w):=by
 have HTO : Hid (∀ W,Below w.heap.size w W → Calls Tryz.prog 113 #[v,.agg #[.int .i64 53,.int .i64 (-1074),.int .i64 1023],.int .i64 1] W (ToPost neg R W)):=fun W hW=>by
  obtain ⟨s,t,rfl,hs,ht⟩:=h
  exact to_any neg _ M D E W ⟨s,t,rfl,hs.below (Nat.le_refl _) hW,ht.below (Nat.le_refl _) hW⟩ hM hD hbb hE1 hE2 hM0 hD0 hN
 obtain ⟨s,t,rfl,hs,ht⟩:=h
 clear hs ht hM hD hbb hE1 hE2 hM0 hD0 hN
 go_enter Tryz.func182,Tryz.ntmps182
 go_upto_region 1 with fail
 have hb0 : Below w.heap.size w (w.alloc (.cells #[.bool neg,s,t,.int .i64 E,.bool false] 141)):=(Below.refl _ _).alloc (Nat.le_refl _) _
 have q0:=heap_alloc_new w (.cells #[.bool neg,s,t,.int .i64 E,.bool false] 141)
 have hs1 : (w.alloc (.cells #[.bool neg,s,t,.int .i64 E,.bool false] 141)).heap.size = w.heap.size + 1:=by simp
 generalize w.alloc (.cells #[.bool neg,s,t,.int .i64 E,.bool false] 141) = w1 at *
 refine wp_region_inv (fun l a W=>∃ t4 t5 t6 t7 t8 t9 t10 t11 : Value,∃ gA gB : Nat,∃ inf ine ov un : Bool,∃ m x : Int,
  a = { tmps:=#[.agg #[.bool neg,s,t,.int .i64 E,.bool false],.pointer (some ⟨w.heap.size,0,none⟩),.int .u64 0,.int .i64 0,t4,t5,t6,t7,t8,t9,t10,t11,undef,undef,undef,undef],defers:=[] } ∧
  Below w1.heap.size w1 W ∧ (Did l 2 → ToEnd R inf ov m x) ∧
  (Did l 0 → t7 = .agg #[.bool neg,s,t,.int .i64 E,.bool false]) ∧ (Did l 1 → t8 = .agg #[.int .i64 53,.int .i64 (-1074),.int .i64 1023]) ∧
  (Did l 2 → t9 = .tuple #[.agg #[.bool neg,.bool inf,.int .u64 m,.int .i64 x],.agg #[.bool ine,.bool ov,.bool un]]) ∧
  (Did l 3 → t6 = .tuple #[.agg #[.bool neg,.bool inf,.int .u64 m,.int .i64 x],.agg #[.bool ine,.bool ov,.bool un]]) ∧
  (Did l 4 → t10 = .agg #[.bool neg,.bool inf,.int .u64 m,.int .i64 x]) ∧ (Did l 5 → t11 = .agg #[.bool ine,.bool ov,.bool un]) ∧
  (Did l 6 → RowD W w1.heap.size t4 gA 137 (Did l 8) #[.bool neg,.bool inf,.int .u64 m,.int .i64 x]) ∧
  (Did l 7 → RowD W w1.heap.size t5 gB 76 (Did l 9) #[.bool ine,.bool ov,.bool un]) ∧ (Did l 6 → Did l 7 → gA ≠ gB)) (by kernel_rfl) (by kernel_rfl) 10 (by kernel_rfl) ?_ ?_ ?_
 ·intro l hl
  refine ⟨undef,undef,undef,undef,undef,undef,undef,undef,0,0,false,false,false,false,0,0,rfl,(Below.refl _ _).drew,?_⟩
  exact ⟨fun h=>absurd h (hl _),fun h=>absurd h (hl _),fun h=>absurd h (hl _),fun h=>absurd h (hl _),fun h=>absurd h (hl _),fun h=>absurd h (hl _),fun h=>absurd h (hl _),fun h=>absurd h (hl _),fun h=>absurd h (hl _),fun h=>absurd h (hl _)⟩
 ·refine ⟨⟨⟨⟨⟨⟨⟨⟨⟨⟨trivial,?_⟩,?_⟩,?_⟩,?_⟩,?_⟩,?_⟩,?_⟩,?_⟩,?_⟩,?_⟩
  all_goals
   rintro l a W hi ⟨t4,t5,t6,t7,t8,t9,t10,t11,gA,gB,inf,ine,ov,un,m,x,rfl,hb,f2,f0,f1,f2',f3,f4,f5,f6,f7,f67⟩ hn hd hs
  ·have q:=hb.blk q0 (by omega)
   refine wpOp_step rfl fun K hK=>step_plain rfl (wp_load_row 141 (.tmp 1) rfl w.heap.size rfl _ _ _ _ q Tryz.underlying141 rfl (by kernel_rfl) (hK _ _ ?_))
   exact ⟨t4,t5,t6,_,t8,t9,t10,t11,gA,gB,inf,ine,ov,un,m,x,rfl,hb,fun h=>f2 (h.old hi),fun _=>rfl,fun h=>f1 (h.old hi),fun h=>f2' (h.old hi),fun h=>f3 (h.old hi),fun h=>f4 (h.old hi),fun h=>f5 (h.old hi),
    fun h=>(f6 (h.old hi)).old rfl (fun h=>h.old hi),fun h=>(f7 (h.old hi)).old rfl (fun h=>h.old hi),fun h h'=>f67 (h.old hi) (h'.old hi)⟩
  ·refine wpOp_step rfl fun K hK=>?_
   go_simp
   go_at_call 115
   refine (sixty_any _).mono ?_
   rintro e w' ⟨rfl,hb'⟩
   refine hK _ _ ?_
   exact ⟨t4,t5,t6,t7,_,t9,t10,t11,gA,gB,inf,ine,ov,un,m,x,rfl,hb.thru hb',fun h=>f2 (h.old hi),fun h=>f0 (h.old hi),fun _=>rfl,fun h=>f2' (h.old hi),fun h=>f3 (h.old hi),fun h=>f4 (h.old hi),fun h=>f5 (h.old hi),
    fun h=>(f6 (h.old hi)).thru hb' (fun h=>h.old hi),fun h=>(f7 (h.old hi)).thru hb' (fun h=>h.old hi),fun h h'=>f67 (h.old hi) (h'.old hi)⟩
  ·obtain rfl:=f0 (hd 0 (by kernel_rfl))
   obtain rfl:=f1 (hd 1 (by kernel_rfl))
   refine wpOp_step rfl fun K hK=>?_
   go_simp
   go_at_call 113
   refine (HTO.out _ (hb0.trans (hb.mono (by omega)))).mono ?_
   rintro e w' ⟨inf',ine',ov',un',m',x',rfl,hb',hend⟩
   refine hK _ _ ?_
   have n3 : ¬ Did l 3:=fun h=>hn (hs 3 2 (by kernel_rfl) h)
   have n8 : ¬ Did l 8:=fun h=>n3 (hs 4 3 (by kernel_rfl) (hs 8 4 (by kernel_rfl) h))
   have n9 : ¬ Did l 9:=fun h=>n3 (hs 5 3 (by kernel_rfl) (hs 9 5 (by kernel_rfl) h))
   exact ⟨t4,t5,t6,_,_,_,t10,t11,gA,gB,inf',ine',ov',un',m',x',rfl,hb.thru hb',fun _=>hend,fun _=>rfl,fun _=>rfl,fun _=>rfl,fun h=>absurd (h.old hi) n3,fun h=>absurd (hs 4 3 (by kernel_rfl) (h.old hi)) n3,fun h=>absurd (hs 5 3 (by kernel_rfl) (h.old hi)) n3,
    fun h=>((f6 (h.old hi)).thru hb' id).turn rfl (fun h=>n8 (h.old hi)),fun h=>((f7 (h.old hi)).thru hb' id).turn rfl (fun h=>n9 (h.old hi)),fun h h'=>f67 (h.old hi) (h'.old hi)⟩
  ·obtain rfl:=f2' (hd 2 (by kernel_rfl))
   refine wpOp_step rfl fun K hK=>?_
   go_simp
   refine hK _ _ ?_
   exact ⟨t4,t5,_,t7,t8,_,t10,t11,gA,gB,inf,ine,ov,un,m,x,rfl,hb,fun h=>f2 (h.old hi),fun h=>f0 (h.old hi),fun h=>f1 (h.old hi),fun _=>rfl,fun _=>rfl,fun h=>f4 (h.old hi),fun h=>f5 (h.old hi),
    fun h=>(f6 (h.old hi)).old rfl (fun h=>h.old hi),fun h=>(f7 (h.old hi)).old rfl (fun h=>h.old hi),fun h h'=>f67 (h.old hi) (h'.old hi)⟩
  ·obtain rfl:=f3 (hd 3 (by kernel_rfl))
   refine wpOp_step rfl fun K hK=>?_
   go_simp
   refine hK _ _ ?_
   exact ⟨t4,t5,_,t7,t8,t9,_,t11,gA,gB,inf,ine,ov,un,m,x,rfl,hb,fun h=>f2 (h.old hi),fun h=>f0 (h.old hi),fun h=>f1 (h.old hi),fun h=>f2' (h.old hi),fun _=>rfl,fun _=>rfl,fun h=>f5 (h.old hi),
    fun h=>(f6 (h.old hi)).old rfl (fun h=>h.old hi),fun h=>(f7 (h.old hi)).old rfl (fun h=>h.old hi),fun h h'=>f67 (h.old hi) (h'.old hi)⟩
  ·obtain rfl:=f3 (hd 3 (by kernel_rfl))
   refine wpOp_step rfl fun K hK=>?_
   go_simp
   refine hK _ _ ?_
   exact ⟨t4,t5,_,t7,t8,t9,t10,_,gA,gB,inf,ine,ov,un,m,x,rfl,hb,fun h=>f2 (h.old hi),fun h=>f0 (h.old hi),fun h=>f1 (h.old hi),fun h=>f2' (h.old hi),fun _=>rfl,fun h=>f4 (h.old hi),fun _=>rfl,
    fun h=>(f6 (h.old hi)).old rfl (fun h=>h.old hi),fun h=>(f7 (h.old hi)).old rfl (fun h=>h.old hi),fun h h'=>f67 (h.old hi) (h'.old hi)⟩
  ·refine wpOp_step rfl fun K hK=>?_
   go_simp
   refine hK _ _ ?_
   have n8 : ¬ Did l 8:=fun h=>hn (hs 8 6 (by kernel_rfl) h)
   exact ⟨_,t5,t6,t7,t8,t9,t10,t11,W.heap.size,gB,inf,ine,ov,un,m,x,rfl,hb.alloc hb.size _,fun h=>f2 (h.old hi),fun h=>f0 (h.old hi),fun h=>f1 (h.old hi),fun h=>f2' (h.old hi),fun h=>f3 (h.old hi),fun h=>f4 (h.old hi),fun h=>f5 (h.old hi),
    fun _=>RowD.new hb.size rfl (fun h=>n8 (h.old hi)),fun h=>(f7 (h.old hi)).alloc _ (fun h=>h.old hi),fun _ h'=>by have:=(f7 (h'.old hi)).2.2.1; omega⟩
  ·refine wpOp_step rfl fun K hK=>?_
   go_simp
   refine hK _ _ ?_
   have n9 : ¬ Did l 9:=fun h=>hn (hs 9 7 (by kernel_rfl) h)
   exact ⟨t4,_,t6,t7,t8,t9,t10,t11,gA,W.heap.size,inf,ine,ov,un,m,x,rfl,hb.alloc hb.size _,fun h=>f2 (h.old hi),fun h=>f0 (h.old hi),fun h=>f1 (h.old hi),fun h=>f2' (h.old hi),fun h=>f3 (h.old hi),fun h=>f4 (h.old hi),fun h=>f5 (h.old hi),
    fun h=>(f6 (h.old hi)).alloc _ (fun h=>h.old hi),fun _=>RowD.new hb.size rfl (fun h=>n9 (h.old hi)),fun h _=>by have:=(f6 (h.old hi)).2.2.1; omega⟩
  ·obtain rfl:=f4 (hd 4 (by kernel_rfl))
   have r:=f6 (hd 6 (by kernel_rfl))
   obtain ⟨rfl,r2,r3,fs,r4,r5,r6⟩:=f6 (hd 6 (by kernel_rfl))
   refine wpOp_step rfl fun K hK=>step_plain rfl (wp_store_row 137 (.tmp 4) (.tmp 10) rfl gA #[.bool neg,.bool inf,.int .u64 m,.int .i64 x] rfl rfl _ _ r4 (by kernel_rfl) r5 (by simp [Value.oneCell']) (hK _ _ ?_))
   exact ⟨_,t5,t6,t7,t8,t9,_,t11,gA,gB,inf,ine,ov,un,m,x,rfl,below_setRow hb r2 _,fun h=>f2 (h.old hi),fun h=>f0 (h.old hi),fun h=>f1 (h.old hi),fun h=>f2' (h.old hi),fun h=>f3 (h.old hi),fun h=>f4 (h.old hi),fun h=>f5 (h.old hi),
    fun _=>r.store,fun h=>(f7 (h.old hi)).other (f67 (hd 6 (by kernel_rfl)) (h.old hi)).symm _ (fun h=>h.old hi),fun h h'=>f67 (h.old hi) (h'.old hi)⟩
  ·obtain rfl:=f5 (hd 5 (by kernel_rfl))
   have r:=f7 (hd 7 (by kernel_rfl))
   obtain ⟨rfl,r2,r3,fs,r4,r5,r6⟩:=f7 (hd 7 (by kernel_rfl))
   refine wpOp_step rfl fun K hK=>step_plain rfl (wp_store_row 76 (.tmp 5) (.tmp 11) rfl gB #[.bool ine,.bool ov,.bool un] rfl rfl _ _ r4 (by kernel_rfl) r5 (by simp [Value.oneCell']) (hK _ _ ?_))
   exact ⟨t4,_,t6,t7,t8,t9,t10,_,gA,gB,inf,ine,ov,un,m,x,rfl,below_setRow hb r2 _,fun h=>f2 (h.old hi),fun h=>f0 (h.old hi),fun h=>f1 (h.old hi),fun h=>f2' (h.old hi),fun h=>f3 (h.old hi),fun h=>f4 (h.old hi),fun h=>f5 (h.old hi),
    fun h=>(f6 (h.old hi)).other (f67 (h.old hi) (hd 7 (by kernel_rfl))) _ (fun h=>h.old hi),fun _=>r.store,fun h h'=>f67 (h.old hi) (h'.old hi)⟩
 ·rintro l a W hall ⟨t4,t5,t6,t7,t8,t9,t10,t11,gA,gB,inf,ine,ov,un,m,x,rfl,hb,f2,f0,f1,f2',f3,f4,f5,f6,f7,f67⟩
  have hend:=f2 (hall 2 (by decide))
  obtain rfl:=f0 (hall 0 (by decide))
  obtain rfl:=f1 (hall 1 (by decide))
  obtain rfl:=f2' (hall 2 (by decide))
  obtain rfl:=f3 (hall 3 (by decide))
  obtain rfl:=f4 (hall 4 (by decide))
  obtain rfl:=f5 (hall 5 (by decide))
  obtain ⟨rfl,r2,r3,fs,r4,r5,r6⟩:=f6 (hall 6 (by decide))
  obtain rfl:=r6 (hall 8 (by decide))
  obtain ⟨rfl,s2,s3,fs',s4,s5,s6⟩:=f7 (hall 7 (by decide))
  obtain rfl:=s6 (hall 9 (by decide))
  have HBW : Hid (Below w.heap.size w W):=hb0.trans (hb.mono (by omega))
  clear f2 f0 f1 f2' f3 f4 f5 f6 f7 f67 hall r5 r6 s5 s6 hb hb0 q0
  obtain ⟨x1,x2,x3⟩:=row3 s4
  obtain ⟨y1,y2,y3,y4⟩:=(⟨cell_of_row W gA 0 _ _ _ r4,cell_of_row W gA 1 _ _ _ r4,cell_of_row W gA 2 _ _ _ r4,cell_of_row W gA 3 _ _ _ r4⟩ : W.cell? ⟨gA,0,none⟩ = some (.bool neg) ∧ W.cell? ⟨gA,1,none⟩ = some (.bool inf) ∧ W.cell? ⟨gA,2,none⟩ = some (.int .u64 m) ∧ W.cell? ⟨gA,3,none⟩ = some (.int .i64 x))
  unfold ToEnd at hend
  by_cases hR : R < 9218868437227405312
  ·rw [if_pos hR] at hend
   obtain ⟨rfl,rfl,e1,e2,e3,e4,e5,e6⟩:=hend
   obtain ⟨m',rfl⟩ : ∃ m' : Nat,m = m':=⟨m.toNat,by omega⟩
   have HBT : Hid (∀ W,Calls Tryz.prog 116 #[.agg #[.bool neg,.bool false,.int .u64 m',.int .i64 x]] W fun e w'=>e = .returned (.int .u64 (sgW neg + R : Nat)) ∧ Below W.heap.size W w'):=fun W=>bits64_any neg m' x R W (by omega) e3 e4 (by omega) e6
   have HE1 : Hid (resB neg R = sgW neg + R):=if_pos hR
   have HE2 : Hid (resX R = 0):=if_pos hR
   clear hR e1 e2 e3 e4 e5 e6 r2 r3 r4 s2 s3 s4
   go_wp2_with (go_at_call 116; refine (HBT.out _).mono ?_; rintro e w' ⟨rfl,hb'⟩)
   go_ret2
   exact ⟨by rw [HE1.out,HE2.out]; rfl,HBW.out.thru hb'⟩
  ·rw [if_neg hR] at hend
   obtain ⟨rfl,rfl⟩:=hend
   have HE1 : Hid (resB neg R = 0):=if_neg hR
   have HE2 : Hid (resX R = 15):=if_neg hR
   clear hR r2 r3 r4 s2 s3 s4
   go_wp2
   go_ret2
   exact ⟨by rw [HE1.out,HE2.out]; rfl,HBW.out⟩
def ToldQ (neg : Bool) (M R nought : Nat) (w : World) (e : Ending) (w' : World) : Prop:=e = .returned (.tuple #[.int .u64 (if M = 0 then nought else resB neg R : Nat),.int .i64 (if M = 0 then 0 else resX R)]) ∧ Below w.heap.size w w'
theorem Num.len {k : IntKind} {B : Nat} {w : World} {a : Option Addr} {n c M : Nat} (h : Num k B w (.slice a n c) M) (hB : 0 < B) : M = 0 ↔ n = 0:=by
 obtain ⟨xs,⟨a',n',c',he,h1,-⟩,rfl,h3⟩:=h
 cases he
 rw [norm_zero h3 hB,h1]
set_option maxHeartbeats 1000000 in
theorem told_any (neg : Bool) (v : Value) (M nought : Nat) (E : Int) (w : World) (h : Term w v neg M E) {bb : Nat} (hM : M < 2 ^ bb) (hbb1 : 1 ≤ bb) (hbb : bb ≤ 200000) (hE1 : -200000 ≤ E) (hE2 : E ≤ 200000) {R : Nat} (hN : Near 52 (M * 2^(E + LP).toNat) (1 * 2^(-(E + LP)).toNat) R) :
  Calls Tryz.prog 133 #[v,.int .u64 (nought : Nat)] w (ToldQ neg M R nought w):=by
 obtain ⟨s,rfl,hs⟩:=h
 obtain ⟨a,m,c,rfl⟩:=hs.shape
 have hz:=hs.len (by decide)
 by_cases hM0 : M = 0
 ·obtain rfl : m = 0:=hz.1 hM0
  have HB : Hid (∀ F,Below w.heap.size w (w.alloc F)):=fun F=>(Below.refl _ _).alloc (Nat.le_refl _) _
  have HE1 : Hid ((if M = 0 then nought else resB neg R) = nought):=if_pos hM0
  have HE2 : Hid ((if M = 0 then 0 else resX R) = 0):=if_pos hM0
  clear hs hz hM hbb1 hbb hE1 hE2 hN hM0
  go_enter Tryz.func133,Tryz.ntmps133
  go_wp2
  go_ret2
  exact ⟨by rw [HE1.out,HE2.out]; rfl,HB.out _⟩
 ·have hm : ((m : Int) == 0) = false:=by simp; omega
  have HOB : Hid (∀ W,Calls Tryz.prog 54 #[.int .u64 1] W (NatQ 1 W)):=fun W=>of_any 1 W (by decide)
  have HNR : Hid (∀ W x y z,Below w.heap.size w W → Num .u32 4294967296 W (.slice x y z) 1 → Calls Tryz.prog 182 #[.agg #[.bool neg,.slice a m c,.slice x y z,.int .i64 E,.bool false]] W (NearestQ neg R W)):=fun W x y z hW hx=>
   nearest_any neg _ M 1 E W ⟨_,_,rfl,hs.below (Nat.le_refl _) hW,hx⟩ hM (Nat.one_lt_two_pow (by omega)) hbb hE1 hE2 (by omega) (by decide) hN
  have HE1 : Hid ((if M = 0 then nought else resB neg R) = resB neg R):=if_neg hM0
  have HE2 : Hid ((if M = 0 then 0 else resX R) = resX R):=if_neg hM0
  clear hs hz hM hbb1 hbb hE1 hE2 hN hM0
  go_enter Tryz.func133,Tryz.ntmps133
  have hb0 : Below w.heap.size w (w.alloc (.cells #[.bool neg,.slice a m c,.int .i64 E] 160)):=(Below.refl _ _).alloc (Nat.le_refl _) _
  have q0:=heap_alloc_new w (.cells #[.bool neg,.slice a m c,.int .i64 E] 160)
  have hs1 : (w.alloc (.cells #[.bool neg,.slice a m c,.int .i64 E] 160)).heap.size = w.heap.size + 1:=by simp
  go_upto_region 1 with fail
  generalize w.alloc (.cells #[.bool neg,.slice a m c,.int .i64 E] 160) = w1 at *
  have HC : Hid (∀ W,Below w1.heap.size w1 W → Below w1.heap.size w1 W ∧ W.cell? ⟨w.heap.size,0,none⟩ = some (.bool neg) ∧ W.cell? ⟨w.heap.size,1,none⟩ = some (.slice a m c) ∧ W.cell? ⟨w.heap.size,2,none⟩ = some (.int .i64 E)):=
   fun W hW=>⟨hW,cell_of_row W _ 0 _ _ _ (hW.blk q0 (by omega)),cell_of_row W _ 1 _ _ _ (hW.blk q0 (by omega)),cell_of_row W _ 2 _ _ _ (hW.blk q0 (by omega))⟩
  have HB0 : Hid (Below w.heap.size w w1):=hb0
  have HS1 : Hid (w1.heap.size = w.heap.size + 1):=hs1
  obtain ⟨hbs,x0,x1,x2⟩:=HC.out w1 (Below.refl _ _)
  clear hb0 q0 hs1
  go_upto_region 3 with fail
  clear x0 x1 x2
  go_region_held3 (fun W=>Below w1.heap.size w1 W ∧ W.cell? ⟨w.heap.size,0,none⟩ = some (.bool neg) ∧ W.cell? ⟨w.heap.size,1,none⟩ = some (.slice a m c) ∧ W.cell? ⟨w.heap.size,2,none⟩ = some (.int .i64 E))
   (first | exact HC.out _ ‹Below w1.heap.size w1 _› | exact HC.out _ (‹Below w1.heap.size w1 _›).drew)
   (first | (go_at_call 54; (with_reducible refine (HOB.out _).mono ?_); rintro e w7 ⟨v,rfl,hnum,hb⟩; obtain ⟨s1,s2,s3,rfl⟩:=Num.shape hnum; have hB2 : Below w1.heap.size w1 w7:=Below.thru (by first | assumption | exact Below.drew (by assumption)) hb; have HNUM : Hid (Num .u32 4294967296 w7 (.slice s1 s2 s3) 1):=hnum; clear hb hnum) | (go_at_call 182; (with_reducible refine (HNR.out _ _ _ _ (HB0.out.trans (Below.mono (by assumption : Below w1.heap.size w1 _) (by have:=HS1.out; omega))) HNUM.out).mono ?_); rintro e w8 ⟨rfl,hb⟩; have hB3 : Below w1.heap.size w1 w8:=Below.thru (by assumption) hb; have HB3 : Hid _:=hB3; clear hb))
  go_wp2
  go_ret2
  exact ⟨by rw [HE1.out,HE2.out]; rfl,HB0.out.trans (HB3.out.mono (by have:=HS1.out; omega))⟩
end Go.Proofs.YtlbokicainimnaaGreatDoor
