import Derived.Test.YtlbokicainimnaaGreatDoorQWL
import Derived.Test.YtlbokicainimnaaGreatDoorQMN
set_option maxRecDepth 100000
namespace Go.Proofs.YtlbokicainimnaaGreatDoor
open Go.RowKit
set_option maxHeartbeats 8000000 in
theorem to_far_any (neg : Bool) (v : Value) (M D : Nat) (E : Int) (w : World) (h : Val w v neg M D E) {bb : Nat} (hM : M < 2 ^ bb) (hD : D < 2 ^ bb) (hbb : bb ≤ 200000) (hE1 : -200000 ≤ E) (hE2 : E ≤ 200000) (hM0 : 0 < M) (hD0 : 0 < D) {R : Nat} (hN : Near 52 (M * 2^(E + LP).toNat) (D * 2^(-(E + LP)).toNat) R) (hfar : 1031 < (blen M : Int) - blen D + E - 56) :
  Calls Tryz.prog 113 #[v,.agg #[.int .i64 53,.int .i64 (-1074),.int .i64 1023],.int .i64 1] w (ToPost neg R w):=by
 have HNN : Hid (Near 52 (M * 2^(E + LP).toNat) (D * 2^(-(E + LP)).toNat) R):=hN
 clear hN
 obtain ⟨s,t,rfl,hs,ht⟩:=h
 obtain ⟨a,m,c,rfl⟩:=hs.shape
 obtain ⟨a',m',c',rfl⟩:=ht.shape
 have HV : Hid (Val w (.agg #[.bool neg,.slice a m c,.slice a' m' c',.int .i64 E,.bool false]) neg M D E):=⟨_,_,rfl,hs,ht⟩
 have h1 : blen M ≤ 200000:=Nat.le_trans (blen_le hM) hbb
 have h2 : blen D ≤ 200000:=Nat.le_trans (blen_le hD) hbb
 have hM1 : 1 ≤ blen M:=(blen_pos (by omega)).2.2
 have hD1 : 1 ≤ blen D:=(blen_pos (by omega)).2.2
 have HSZ : Hid (∀ W,Below w.heap.size w W → Calls Tryz.prog 172 #[.agg #[.bool neg,.slice a m c,.slice a' m' c',.int .i64 E,.bool false]] W fun e w'=>e = .returned (.int .i64 ((blen M : Int) - blen D + E)) ∧ Below W.heap.size W w'):=
  fun W hW=>size_any neg _ M D E W ⟨_,_,rfl,hs.below (Nat.le_refl _) hW,ht.below (Nat.le_refl _) hW⟩ hM hD (by omega) (by omega) (by omega)
 obtain ⟨sz,hsz⟩ : ∃ sz,sz = (blen M : Int) - blen D + E:=⟨_,rfl⟩
 rw [← hsz] at HSZ hfar
 have hszb : -400000 ≤ sz ∧ sz ≤ 400000:=by omega
 have HSE : Hid (sz = (blen M : Int) - blen D + E):=hsz
 clear hsz hs ht h1 h2 hM1 hD1
 go_enter Tryz.func113,Tryz.ntmps113
 go_upto_region 1 with fail
 have hb0:=below4 w (.cells #[.bool neg,.slice a m c,.slice a' m' c',.int .i64 E,.bool false] 141) (.cells #[.int .i64 53,.int .i64 (-1074),.int .i64 1023] 144) (.cells #[.bool false,.bool false,.int .u64 0,.int .i64 0] 137) (.cells #[.bool false,.bool false,.bool false] 76)
 have q0:=heap_alloc4_0 w (.cells #[.bool neg,.slice a m c,.slice a' m' c',.int .i64 E,.bool false] 141) (.cells #[.int .i64 53,.int .i64 (-1074),.int .i64 1023] 144) (.cells #[.bool false,.bool false,.int .u64 0,.int .i64 0] 137) (.cells #[.bool false,.bool false,.bool false] 76)
 have q1:=heap_alloc4_1 w (.cells #[.bool neg,.slice a m c,.slice a' m' c',.int .i64 E,.bool false] 141) (.cells #[.int .i64 53,.int .i64 (-1074),.int .i64 1023] 144) (.cells #[.bool false,.bool false,.int .u64 0,.int .i64 0] 137) (.cells #[.bool false,.bool false,.bool false] 76)
 have q2:=heap_alloc4_2 w (.cells #[.bool neg,.slice a m c,.slice a' m' c',.int .i64 E,.bool false] 141) (.cells #[.int .i64 53,.int .i64 (-1074),.int .i64 1023] 144) (.cells #[.bool false,.bool false,.int .u64 0,.int .i64 0] 137) (.cells #[.bool false,.bool false,.bool false] 76)
 have q3:=heap_alloc4_3 w (.cells #[.bool neg,.slice a m c,.slice a' m' c',.int .i64 E,.bool false] 141) (.cells #[.int .i64 53,.int .i64 (-1074),.int .i64 1023] 144) (.cells #[.bool false,.bool false,.int .u64 0,.int .i64 0] 137) (.cells #[.bool false,.bool false,.bool false] 76)
 have hs4 : ((((w.alloc (.cells #[.bool neg,.slice a m c,.slice a' m' c',.int .i64 E,.bool false] 141)).alloc (.cells #[.int .i64 53,.int .i64 (-1074),.int .i64 1023] 144)).alloc (.cells #[.bool false,.bool false,.int .u64 0,.int .i64 0] 137)).alloc (.cells #[.bool false,.bool false,.bool false] 76)).heap.size = w.heap.size + 4:=by simp
 generalize ((((w.alloc (.cells #[.bool neg,.slice a m c,.slice a' m' c',.int .i64 E,.bool false] 141)).alloc (.cells #[.int .i64 53,.int .i64 (-1074),.int .i64 1023] 144)).alloc (.cells #[.bool false,.bool false,.int .u64 0,.int .i64 0] 137)).alloc (.cells #[.bool false,.bool false,.bool false] 76)) = w4 at *
 have HC : Hid (∀ W, Below w4.heap.size w4 W → (W.cell? ⟨w.heap.size, 0, none⟩ = some (.bool neg) ∧ W.cell? ⟨w.heap.size, 1, none⟩ = some (.slice a m c) ∧ W.cell? ⟨w.heap.size, 2, none⟩ = some (.slice a' m' c') ∧ W.cell? ⟨w.heap.size, 3, none⟩ = some (.int .i64 E) ∧ W.cell? ⟨w.heap.size, 4, none⟩ = some (.bool false)) ∧
   (W.cell? ⟨w.heap.size + 1,0,none⟩ = some (.int .i64 53) ∧ W.cell? ⟨w.heap.size + 1,1,none⟩ = some (.int .i64 (-1074)) ∧ W.cell? ⟨w.heap.size + 1,2,none⟩ = some (.int .i64 1023))):=
  fun W hW=>⟨row5 (hW.blk q0 (by omega)),row3 (hW.blk q1 (by omega))⟩
 have HB0 : Hid (Below w.heap.size w w4):=hb0
 have hbs : Below w4.heap.size w4 w4:=Below.refl _ _
 have HQ0 : Hid _:=q0
 have HQ1 : Hid _:=q1
 have HQ2 : Hid _:=q2
 have HQ3 : Hid _:=q3
 have HS4 : Hid (w4.heap.size = w.heap.size + 4):=hs4
 clear hb0 q0 q1 q2 q3 hs4
 have HSZ2 : Hid (∀ W,Below w4.heap.size w4 W → Calls Tryz.prog 172 #[.agg #[.bool neg,.slice a m c,.slice a' m' c',.int .i64 E,.bool false]] W fun e w'=>e = .returned (.int .i64 sz) ∧ Below W.heap.size W w'):=
  fun W hW=>HSZ.out W (HB0.out.trans (hW.mono (by have:=HS4.out; omega)))
 obtain ⟨e0,he0⟩ : ∃ e0,max (-1074) (sz - 56) = e0:=⟨_,rfl⟩
 have i1 : IntKind.i64.wrap (sz - 53) = sz - 53:=IntWalk.i64_in _ (by omega)
 have i2 : IntKind.i64.wrap (sz - 53 - 3) = sz - 56:=by clear i1; rw [show sz - 53 - 3 = sz - 56 by omega]; exact IntWalk.i64_in _ (by omega)
 go_cut [8] (fun e wx=>e = .int .i64 e0 ∧ Below w4.heap.size w4 wx)
 case first=>as_aux_lemma=>
  go_region_held3 (fun W=>Below w4.heap.size w4 W ∧ (W.cell? ⟨w.heap.size,0,none⟩ = some (.bool neg) ∧ W.cell? ⟨w.heap.size,1,none⟩ = some (.slice a m c) ∧ W.cell? ⟨w.heap.size,2,none⟩ = some (.slice a' m' c') ∧ W.cell? ⟨w.heap.size,3,none⟩ = some (.int .i64 E) ∧ W.cell? ⟨w.heap.size,4,none⟩ = some (.bool false)) ∧
   (W.cell? ⟨w.heap.size + 1,0,none⟩ = some (.int .i64 53) ∧ W.cell? ⟨w.heap.size + 1,1,none⟩ = some (.int .i64 (-1074)) ∧ W.cell? ⟨w.heap.size + 1,2,none⟩ = some (.int .i64 1023)))
   (first | exact ⟨‹Below w4.heap.size w4 _›,HC.out _ ‹Below w4.heap.size w4 _›⟩ | exact ⟨(‹Below w4.heap.size w4 _›).drew,HC.out _ (‹Below w4.heap.size w4 _›).drew⟩)
   (first | (go_at_call 172; refine (HSZ2.out _ (by first | assumption | exact Below.drew (by assumption))).mono ?_; rintro e w' ⟨rfl,hb⟩; have hB2 : Below w4.heap.size w4 w':=Below.thru (by first | assumption | exact Below.drew (by assumption)) hb))
  all_goals go_wp2
  all_goals go_meet
  exact ⟨rfl,by assumption⟩
 case rest=>
 obtain ⟨rfl,hbc⟩:=hcut
 clear i1 i2 hbs
 have HBC : Hid (Below w4.heap.size w4 wc):=hbc
 obtain ⟨⟨x0,x1,x2,x3,x4⟩,y0,y1,y2⟩:=HC.out _ hbc
 have HE0 : Hid (max (-1074) (sz - 56) = e0):=he0
 have he0b : -1074 ≤ e0 ∧ e0 ≤ 400000:=by omega
 clear he0 hbc
 have hfI : (1031 : Int) < e0:=by have:=HE0.out; omega
 have HTE : Hid (ToEnd R true true 0 0):=by
  obtain ⟨R',n1,n2⟩:=to_far (by omega : M ≠ 0) hD0 HSE.out (by omega : 1031 < sz - 56)
  have e:=Near.uniq (Nat.mul_pos hD0 (Nat.two_pow_pos _)) HNN.out n1
  show ToEnd R true true 0 0
  unfold ToEnd
  rw [if_neg (by omega)]
  exact ⟨rfl,rfl⟩
 have HBW4 : Hid (Below w.heap.size w wc):=HB0.out.trans (HBC.out.mono (by have:=HS4.out; omega))
 have hlt : ∀ {w : World} {g x},w.heap[g]? = some x → g < w.heap.size:=fun h=>(Array.getElem?_eq_some_iff.mp h).1
 have r0 : Hid _:=HBC.out.blk HQ0.out (hlt HQ0.out)
 have r1 : Hid _:=HBC.out.blk HQ1.out (hlt HQ1.out)
 have r2 : Hid _:=HBC.out.blk HQ2.out (hlt HQ2.out)
 have r3 : Hid _:=HBC.out.blk HQ3.out (hlt HQ3.out)
 have HOA : Hid (∀ W,Calls Tryz.prog 54 #[.int .u64 9007199254740991] W (NatQ 9007199254740991 W)):=fun W=>of_any 9007199254740991 W (by decide)
 have HOB : Hid (∀ W,Calls Tryz.prog 54 #[.int .u64 1] W (NatQ 1 W)):=fun W=>of_any 1 W (by decide)
 have HF : Hid (∀ W,Below wc.heap.size wc W → W.heap[w.heap.size]? = some (.cells #[.bool neg,.slice a m c,.slice a' m' c',.int .i64 E,.bool false] 141 (0,0))):=fun W hW=>hW.blk r0.out (hlt r0.out)
 have HG : Hid (∀ W,Below wc.heap.size wc W → W.cell? ⟨w.heap.size + 1,0,none⟩ = some (.int .i64 53)):=fun W hW=>(row3 (hW.blk r1.out (hlt r1.out))).1
 have hbs : Below wc.heap.size wc wc:=Below.refl _ _
 clear x1 x2 x3 x4 y1 HC HSZ2 HE0 HNN
 have hwc0 : w.heap.size + 4 ≤ wc.heap.size:=by have:=HBC.out.size; have:=HS4.out; omega
 go_upto_if 27 with fail
 go_cut [8] (fun e wx=>e = .int .i64 1031 ∧ ∃ n1 n2 n3 d1 d2 d3,wx.heap[w.heap.size]? = some (.cells #[.bool neg,.slice n1 n2 n3,.slice d1 d2 d3,.int .i64 1031,.bool false] 141 (0,0)) ∧
  Num .u32 4294967296 wx (.slice n1 n2 n3) 9007199254740991 ∧ Num .u32 4294967296 wx (.slice d1 d2 d3) 1 ∧ (∀ k,w.heap.size < k → k < wc.heap.size → wx.heap[k]? = wc.heap[k]?) ∧ Below w.heap.size w wx ∧ wc.heap.size ≤ wx.heap.size)
 case first=>as_aux_lemma=>
  go_upto_region 4 with fail
  clear x0 y0 y2
  have hwc : w.heap.size + 4 ≤ wc.heap.size:=by have:=HBC.out.size; have:=HS4.out; omega
  have HK : Hid (∀ W,Below wc.heap.size wc W → W.cell? ⟨w.heap.size,0,none⟩ = some (.bool neg) ∧ W.cell? ⟨w.heap.size + 1,0,none⟩ = some (.int .i64 53)):=fun W hW=>⟨(row5 (HF.out _ hW)).1,HG.out _ hW⟩
  have j1 : IntKind.u64.wrap 9007199254740992 = 9007199254740992:=by decide
  have j2 : IntKind.u64.wrap 9007199254740991 = 9007199254740991:=by decide
  have j3 : IntKind.u64.wrap (9007199254740992 - 1) = 9007199254740991:=by decide
  go_region_held3 (fun W=>W.cell? ⟨w.heap.size,0,none⟩ = some (.bool neg) ∧ W.cell? ⟨w.heap.size + 1,0,none⟩ = some (.int .i64 53))
   (first | exact HK.out _ ‹Below wc.heap.size wc _› | exact HK.out _ (‹Below wc.heap.size wc _›).drew | exact K6.out _ _ _ _ _)
   (first
    | (go_at_call 54; (with_reducible refine (HOA.out _).mono ?_); rintro e w7 ⟨v,rfl,hnumA,hb7⟩; obtain ⟨n1,n2,n3,rfl⟩:=Num.shape hnumA; have hB7 : Below wc.heap.size wc w7:=Below.thru (by first | assumption | exact Below.drew (by assumption)) hb7; have f0:=HF.out _ hB7; have g0:=HG.out _ hB7; obtain ⟨⟨a0,a1⟩,a2,a3,a4,a5,a6⟩:=wr5 f0; have b0:=fun u=>(a2 u).1; have b1:=fun u=>(a2 u).2; have b2:=fun u v=>(a3 u v).1; have b3:=fun u v=>(a3 u v).2; have b4:=fun u v x=>(a4 u v x).1; have b5:=fun u v x=>(a4 u v x).2; have b6:=fun u v x y=>(a5 u v x y).1; have b7:=fun u v x y=>(a5 u v x y).2; have A6 : Hid _:=a6; have K6 : Hid _:=keep5 a6 g0; have HRA : Hid _:=f0; have HNA : Hid _:=hnumA; have HBA : Hid _:=hb7; have G0 : Hid _:=g0; clear hnumA f0 g0 a2 a3 a4 a5 a6 hb7)
    | (go_at_call 54; (with_reducible refine (HOB.out _).mono ?_); rintro e w8 ⟨v,rfl,hnumB,hb8⟩; obtain ⟨d1,d2,d3,rfl⟩:=Num.shape hnumB; have hB8 : Below wc.heap.size wc w8:=Below.thru (by first | assumption | exact Below.drew (by assumption)) hb8; have f0:=HF.out _ hB8; have g0:=HG.out _ hB8; obtain ⟨⟨a0,a1⟩,a2,a3,a4,a5,a6⟩:=wr5 f0; have b0:=fun u=>(a2 u).1; have b1:=fun u=>(a2 u).2; have b2:=fun u v=>(a3 u v).1; have b3:=fun u v=>(a3 u v).2; have b4:=fun u v x=>(a4 u v x).1; have b5:=fun u v x=>(a4 u v x).2; have b6:=fun u v x y=>(a5 u v x y).1; have b7:=fun u v x y=>(a5 u v x y).2; have A6 : Hid _:=a6; have K6 : Hid _:=keep5 a6 g0; have HRB : Hid _:=f0; have HNB : Hid _:=hnumB; have HBB : Hid _:=hb8; have G0 : Hid _:=g0; clear hnumB f0 g0 a2 a3 a4 a5 a6 hb8))
  all_goals go_wp2
  all_goals go_meet
  all_goals first
   | exact ⟨rfl,_,_,_,_,_,_,A6.out _ _ _ _ _,Num.set5 (Num.below HNA.out (Nat.le_refl _) HBB.out) HRB.out (by simp) _ _ _ _ _,Num.set5 HNB.out HRB.out (by simp) _ _ _ _ _,fun k h1 h2=>(set5_other (by omega) _ _ _ _ _).trans (hB8.block k h2),set5_below (HBW4.out.trans (hB8.mono (by omega))) (Nat.le_refl _) _ _ _ _ _,by simpa using hB8.size⟩
   | exact ⟨rfl,_,_,_,_,_,_,A6.out _ _ _ _ _,Num.set5 HNA.out HRA.out (by simp) _ _ _ _ _,Num.set5 (Num.below HNB.out (Nat.le_refl _) HBA.out) HRA.out (by simp) _ _ _ _ _,fun k h1 h2=>(set5_other (by omega) _ _ _ _ _).trans (hB7.block k h2),set5_below (HBW4.out.trans (hB7.mono (by omega))) (Nat.le_refl _) _ _ _ _ _,by simpa using hB7.size⟩
 case rest=>
 obtain ⟨rfl,n1,n2,n3,d1,d2,d3,hrow,hn,hd,hoth,hbw,hsz⟩:=hcut
 have z0:=(row5 hrow).1
 have z1:=(row5 hrow).2.1
 have z2:=(row5 hrow).2.2.1
 have z3:=(row5 hrow).2.2.2.1
 have z4:=(row5 hrow).2.2.2.2
 have HBES : Hid (Calls Tryz.prog 173 #[.agg #[.bool neg,.slice n1 n2 n3,.slice d1 d2 d3,.int .i64 1031,.bool false],.int .i64 1031] wc fun e w'=>e = .returned (.tuple #[.int .u64 9007199254740991,.int .i64 (-1),.bool true]) ∧ Below wc.heap.size wc w'):=
  (beside_any neg _ 9007199254740991 1 1031 1031 wc ⟨_,_,rfl,hn,hd⟩ (bb:=53) (by decide) (by decide) (by decide) (by decide) (by decide) (by decide) (by decide) (by decide) (by decide)).mono (by
   rintro e w' ⟨rfl,hb⟩
   exact ⟨rfl,hb⟩)
 have HRW : Hid _:=hrow
 have HB1 : Hid _:=hbw
 have T1 : Hid _:=(hoth (w.heap.size + 1) (by omega) (by omega)).trans r1.out
 have T2 : Hid _:=(hoth (w.heap.size + 2) (by omega) (by omega)).trans r2.out
 have T3 : Hid _:=(hoth (w.heap.size + 3) (by omega) (by omega)).trans r3.out
 have hwc2 : w.heap.size + 4 ≤ wc.heap.size:=Nat.le_trans hwc0 hsz
 clear hrow hn hd hoth hbw hsz hbs x0 y0 y2 r0 r1 r2 r3 HF HG HOA HOB
 go_wp2_with fail
 refine HBES.out.mono ?_
 rintro ee wr ⟨rfl,hb6⟩
 have HR0 : Hid _:=hb6.blk HRW.out (by omega)
 have HR1 : Hid _:=hb6.blk T1.out (by omega)
 have HR2' : Hid _:=hb6.blk T2.out (by omega)
 have HR3' : Hid _:=hb6.blk T3.out (by omega)
 have HBR : Hid (Below w.heap.size w wr):=HB1.out.trans (hb6.mono (by omega))
 obtain ⟨x0,-,-,-,-⟩:=row5 HR0.out
 obtain ⟨y0,-,y2⟩:=row3 HR1.out
 have hszr : w.heap.size + 4 ≤ wr.heap.size:=by have:=hb6.size; omega
 clear z0 z1 z2 z3 z4 hb6
 go_wp2
 go_loopw [8,9,10,11] (fun ev qv hv bv wx=>ev = .int .i64 1031 ∧ qv = .int .u64 9007199254740991 ∧ hv = .int .i64 (-1) ∧ bv = .bool true ∧ wx = wr) (fun _ _ _ _ _=>0)
 case atStart=>exact ⟨rfl,rfl,rfl,rfl,rfl⟩
 case round=>
  obtain ⟨rfl,rfl,rfl,rfl,rfl⟩:=hrel
  have al1 : ∀ (F : Obj) g o v,g < w.heap.size + 4 → wr.cell? ⟨g,o,none⟩ = some v → (wr.alloc F).cell? ⟨g,o,none⟩ = some v:=fun F g o v hg h=>by
   rw [World.cell?_alloc_past _ _ _ (by show g < _; omega)]; exact h
  have al2 : ∀ (F G : Obj) g o v,g < w.heap.size + 4 → wr.cell? ⟨g,o,none⟩ = some v → ((wr.alloc F).alloc G).cell? ⟨g,o,none⟩ = some v:=fun F G g o v hg h=>by
   rw [World.cell?_alloc_past _ _ _ (by show g < _; simp; omega)]; exact al1 F g o v hg h
  have ax0:=fun F=>al1 F _ _ _ (by omega) x0
  have ay0:=fun F=>al1 F _ _ _ (by omega) y0
  have ay2:=fun F=>al1 F _ _ _ (by omega) y2
  have bx0:=fun F G=>al2 F G _ _ _ (by omega) x0
  have by0:=fun F G=>al2 F G _ _ _ (by omega) y0
  have by2:=fun F G=>al2 F G _ _ _ (by omega) y2
  have HR2 : Hid (∀ F G : Obj,((wr.alloc F).alloc G).heap[w.heap.size + 2]? = _):=fun F G=>(heap_alloc_old (wr.alloc F) G (by simp; omega)).trans ((heap_alloc_old wr F (by omega)).trans HR2'.out)
  have HR3 : Hid (∀ F G : Obj,((wr.alloc F).alloc G).heap[w.heap.size + 3]? = _):=fun F G=>(heap_alloc_old (wr.alloc F) G (by simp; omega)).trans ((heap_alloc_old wr F (by omega)).trans HR3'.out)
  clear al1 al2
  go_upto_region 23 with fail
  have hr1:=(heap_alloc_old (wr.alloc (.cells #[.bool true,.bool true,.bool false] 76)) (.cells #[.bool neg,.bool true,.int .u64 0,.int .i64 0] 137) (by simp)).trans (heap_alloc_new wr (.cells #[.bool true,.bool true,.bool false] 76))
  have hr2 : ((wr.alloc (.cells #[.bool true,.bool true,.bool false] 76)).alloc (.cells #[.bool neg,.bool true,.int .u64 0,.int .i64 0] 137)).heap[wr.heap.size + 1]? = some (.cells #[.bool neg,.bool true,.int .u64 0,.int .i64 0] 137 (0,0)):=by have:=heap_alloc_new (wr.alloc (.cells #[.bool true,.bool true,.bool false] 76)) (.cells #[.bool neg,.bool true,.int .u64 0,.int .i64 0] 137); simpa using this
  have hr3:=HR2.out (.cells #[.bool true,.bool true,.bool false] 76) (.cells #[.bool neg,.bool true,.int .u64 0,.int .i64 0] 137)
  have hr4:=HR3.out (.cells #[.bool true,.bool true,.bool false] 76) (.cells #[.bool neg,.bool true,.int .u64 0,.int .i64 0] 137)
  have hbw : Below w.heap.size w ((wr.alloc (.cells #[.bool true,.bool true,.bool false] 76)).alloc (.cells #[.bool neg,.bool true,.int .u64 0,.int .i64 0] 137)):=(HBR.out.alloc (by omega) _).alloc (by simp; omega) _
  generalize ((wr.alloc (.cells #[.bool true,.bool true,.bool false] 76)).alloc (.cells #[.bool neg,.bool true,.int .u64 0,.int .i64 0] 137)) = wz at *
  have W1 : wz.drew.heap[wr.heap.size]? = _:=hr1
  have W2 : wz.drew.heap[(wr.heap.size + 1)]? = _:=hr2
  have W3 : wz.drew.heap[w.heap.size + 2]? = _:=hr3
  have W1':=(setRow_other wz.drew (w.heap.size + 2) wr.heap.size #[.bool neg,.bool true,.int .u64 0,.int .i64 0] (by omega)).trans W1
  have W4:=(setRow_other wz.drew (w.heap.size + 2) (w.heap.size + 3) #[.bool neg,.bool true,.int .u64 0,.int .i64 0] (by omega)).trans hr4
  have Z1:=setRow_heap (wz.drew.setRow (w.heap.size + 2) #[.bool neg,.bool true,.int .u64 0,.int .i64 0]) (w.heap.size + 3) _ #[.bool true,.bool true,.bool false] _ _ W4
  have Z2:=(setRow_other (wz.drew.setRow (w.heap.size + 2) #[.bool neg,.bool true,.int .u64 0,.int .i64 0]) (w.heap.size + 3) (w.heap.size + 2) #[.bool true,.bool true,.bool false] (by omega)).trans (setRow_heap wz.drew (w.heap.size + 2) _ #[.bool neg,.bool true,.int .u64 0,.int .i64 0] _ _ W3)
  have Z3 : Hid (Below w.heap.size w ((wz.drew.setRow (w.heap.size + 2) #[.bool neg,.bool true,.int .u64 0,.int .i64 0]).setRow (w.heap.size + 3) #[.bool true,.bool true,.bool false])):=below_setRow (below_setRow hbw.drew (by omega) _) (by omega) _
  have HZ1 : Hid _:=Z1
  have HZ2 : Hid _:=Z2
  clear ax0 ay0 ay2 bx0 by0 by2 HR2 HR3 hr1 hr2 hr3 hr4 hbw Z1 Z2
  refine wp_region_any (by kernel_rfl) ?_
  try (change wpAny _ _ _ _ _ _ _ (World.drew _))
  refine wpAny_ready (rs:=[0,1]) (by kernel_rfl) (by simp) ?_
  refine AllReady.cons rfl (fun K hK=>?_) (AllReady.cons rfl (fun K hK=>?_) AllReady.nil)
  ·refine step_plain rfl (wp_load_row 137 (.tmp 13) rfl (wr.heap.size + 1) rfl _ _ _ _ W2 Tryz.underlying137 rfl (by kernel_rfl) (hK _ _ ?_))
   refine wpAny_ready (rs:=[1,2]) (by kernel_rfl) (by simp) ?_
   refine AllReady.cons rfl (fun K hK=>?_) (AllReady.cons rfl (fun K hK=>?_) AllReady.nil)
   ·refine step_plain rfl (wp_load_row 76 (.tmp 12) rfl wr.heap.size rfl _ _ _ _ W1 Tryz.underlying76 rfl (by kernel_rfl) (hK _ _ ?_))
    refine wpAny_ready (rs:=[2]) (by kernel_rfl) (by simp) ?_
    refine AllReady.cons rfl (fun K hK=>?_) AllReady.nil
    refine step_plain rfl (wp_store_row 137 (.tmp 6) (.tmp 161) rfl (w.heap.size + 2) #[.bool neg,.bool true,.int .u64 0,.int .i64 0] rfl rfl _ _ W3 (by kernel_rfl) rfl (by simp [Value.oneCell']) (hK _ _ ?_))
    refine wpAny_ready (rs:=[3]) (by kernel_rfl) (by simp) ?_
    refine AllReady.cons rfl (fun K hK=>?_) AllReady.nil
    refine step_plain rfl (wp_store_row 76 (.tmp 7) (.tmp 162) rfl (w.heap.size + 3) #[.bool true,.bool true,.bool false] rfl rfl _ _ W4 (by kernel_rfl) rfl (by simp [Value.oneCell']) (hK _ _ ?_))
    refine wpAny_done (by kernel_rfl) ?_ _
    go_wp2
    exact bodyPost_ret (float_flags_row rfl _ _ (w.heap.size + 2) (w.heap.size + 3) _ _ _ _ _ _ _ rfl HZ2.out rfl HZ1.out) rfl ⟨_,_,_,_,_,_,rfl,Z3.out,HTE.out⟩
   ·refine step_plain rfl (wp_store_row 137 (.tmp 6) (.tmp 161) rfl (w.heap.size + 2) #[.bool neg,.bool true,.int .u64 0,.int .i64 0] rfl rfl _ _ W3 (by kernel_rfl) rfl (by simp [Value.oneCell']) (hK _ _ ?_))
    refine wpAny_ready (rs:=[1]) (by kernel_rfl) (by simp) ?_
    refine AllReady.cons rfl (fun K hK=>?_) AllReady.nil
    refine step_plain rfl (wp_load_row 76 (.tmp 12) rfl wr.heap.size rfl _ _ _ _ W1' Tryz.underlying76 rfl (by kernel_rfl) (hK _ _ ?_))
    refine wpAny_ready (rs:=[3]) (by kernel_rfl) (by simp) ?_
    refine AllReady.cons rfl (fun K hK=>?_) AllReady.nil
    refine step_plain rfl (wp_store_row 76 (.tmp 7) (.tmp 162) rfl (w.heap.size + 3) #[.bool true,.bool true,.bool false] rfl rfl _ _ W4 (by kernel_rfl) rfl (by simp [Value.oneCell']) (hK _ _ ?_))
    refine wpAny_done (by kernel_rfl) ?_ _
    go_wp2
    exact bodyPost_ret (float_flags_row rfl _ _ (w.heap.size + 2) (w.heap.size + 3) _ _ _ _ _ _ _ rfl HZ2.out rfl HZ1.out) rfl ⟨_,_,_,_,_,_,rfl,Z3.out,HTE.out⟩
  ·refine step_plain rfl (wp_load_row 76 (.tmp 12) rfl wr.heap.size rfl _ _ _ _ W1 Tryz.underlying76 rfl (by kernel_rfl) (hK _ _ ?_))
   refine wpAny_ready (rs:=[0]) (by kernel_rfl) (by simp) ?_
   refine AllReady.cons rfl (fun K hK=>?_) AllReady.nil
   refine step_plain rfl (wp_load_row 137 (.tmp 13) rfl (wr.heap.size + 1) rfl _ _ _ _ W2 Tryz.underlying137 rfl (by kernel_rfl) (hK _ _ ?_))
   refine wpAny_ready (rs:=[2]) (by kernel_rfl) (by simp) ?_
   refine AllReady.cons rfl (fun K hK=>?_) AllReady.nil
   refine step_plain rfl (wp_store_row 137 (.tmp 6) (.tmp 161) rfl (w.heap.size + 2) #[.bool neg,.bool true,.int .u64 0,.int .i64 0] rfl rfl _ _ W3 (by kernel_rfl) rfl (by simp [Value.oneCell']) (hK _ _ ?_))
   refine wpAny_ready (rs:=[3]) (by kernel_rfl) (by simp) ?_
   refine AllReady.cons rfl (fun K hK=>?_) AllReady.nil
   refine step_plain rfl (wp_store_row 76 (.tmp 7) (.tmp 162) rfl (w.heap.size + 3) #[.bool true,.bool true,.bool false] rfl rfl _ _ W4 (by kernel_rfl) rfl (by simp [Value.oneCell']) (hK _ _ ?_))
   refine wpAny_done (by kernel_rfl) ?_ _
   go_wp2
   exact bodyPost_ret (float_flags_row rfl _ _ (w.heap.size + 2) (w.heap.size + 3) _ _ _ _ _ _ _ rfl HZ2.out rfl HZ1.out) rfl ⟨_,_,_,_,_,_,rfl,Z3.out,HTE.out⟩
end Go.Proofs.YtlbokicainimnaaGreatDoor
