import Derived.Test.YtlbokicainimnaaGreatDoorPAE
import Derived.Test.YtlbokicainimnaaGreatDoorPAD
import Derived.Test.YtlbokicainimnaaGreatDoorPAA
import Derived.Test.YtlbokicainimnaaGreatDoorPMN
import Derived.Test.YtlbokicainimnaaGreatDoorPQA
import Derived.Deep.QuietTactic
import Derived.BigQuiet
import Derived.Test.YtlbokicainimnaaGreatDoorPBJ
import Derived.Test.YtlbokicainimnaaGreatDoorPAT
import Derived.Test.YtlbokicainimnaaGreatDoorPQS
import Derived.Test.YtlbokicainimnaaGreatDoorPQV
import Derived.Test.YtlbokicainimnaaGreatDoorPRR
import Derived.Test.YtlbokicainimnaaGreatDoorPQW
import Derived.Test.YtlbokicainimnaaGreatDoorPBM
import Derived.Laws.BitsAllLaws
namespace Go.Proofs.YtlbokicainimnaaGreatDoor
open Go.RowKit
theorem blen_bd {M bb : Nat} (h : M < 2 ^ bb) : blen M ≤ bb := blen_le h
theorem ask_rat {M D b : Nat} {E sz L : Int} (hM : M ≠ 0) (hD : 0 < D) (hs : sz = (blen M : Int) - blen D + E) : ((ratMag M D E).Q (max L (sz - (b + 3 : Nat))) < 2 ^ (b + 4)) ∧ 2 ^ b ≤ (ratMag M D E).Q (sz - (b + 3 : Nat)) :=
 ⟨toQ_lt hM hD (by push_cast; omega), toQ_ge hM hD (by push_cast; omega)⟩
theorem to53_rat (mode : Int) (hm : 1 ≤ mode ∧ mode ≤ 6) (neg : Bool) (v : Value) (M D : Nat) (E : Int) (w : World) (h : Val w v neg M D E) {bb : Nat} (hM : M < 2 ^ bb) (hD : D < 2 ^ bb) (hbb : bb ≤ 200000) (hE1 : -200000 ≤ E) (hE2 : E ≤ 200000) (hM0 : 0 < M) (hD0 : 0 < D) :
  Calls Tryz.prog 113 #[v, .agg #[.int .i64 53, .int .i64 (-1074), .int .i64 1023], .int .i64 mode] w (FlQ neg (outG 53 (-1074) 971 neg mode (ratMag M D E)) w) := by
 have hV : ∀ W, Below w.heap.size w W → Val W v neg M D E := fun W hW => by
  obtain ⟨s, t, e, hs, ht⟩ := h
  exact ⟨s, t, e, hs.below (Nat.le_refl _) hW, ht.below (Nat.le_refl _) hW⟩
 obtain ⟨s, t, rfl, hs, ht⟩ := h
 obtain ⟨a, m, c, rfl⟩ := hs.shape
 obtain ⟨a', m', c', rfl⟩ := ht.shape
 have b1 := blen_bd hM
 have b2 := blen_bd hD
 obtain ⟨sz, hsz⟩ : ∃ sz, sz = (blen M : Int) - blen D + E := ⟨_, rfl⟩
 have hask := ask_rat (b := 53) (L := -1074) (by omega) hD0 hsz
 refine to53_walk mode hm neg false a a' m c m' c' E sz (ratMag M D E) w (ratMag_ok hD0) (by omega) (fun W hW => ?_) (fun W e hW h1 h2 h3 => ?_) (fun _ => hask.1) (fun _ => hask.2) (ratMag_half _ _ _)
 ·rw [hsz]; exact size_any neg _ M D E W (hV W hW) hM hD (by omega) (by omega) (by omega)
 ·exact bes_rat neg _ M D E e W (hV W hW) hM hD (by omega) hD0 (by omega) (by omega) (by omega) (by omega) (by omega)
end Go.Proofs.YtlbokicainimnaaGreatDoor
set_option maxRecDepth 100000
namespace Go.Proofs.YtlbokicainimnaaGreatDoor
open Go.RowKit
theorem num_setRow32 {w : World} {g : Nat} {cs old : Array Value} {t : TypeId} {s : Value} {N : Nat} (h : Num .u32 4294967296 w s N) (hg : w.heap[g]? = some (.cells old t (0, 0))) (hno : ∀ (i : Nat) z, old[i]? ≠ some (.int .u32 z)) :
  Num .u32 4294967296 (w.setRow g cs) s N := by
 obtain ⟨xs, ⟨p, n, cc, rfl, h1, h2, h3, h4, h5⟩, h6, h7⟩ := h
 refine ⟨xs, ⟨p, n, cc, rfl, h1, h2, h3, h4, fun hn => ?_⟩, h6, h7⟩
 obtain ⟨b', o, rfl, hs, hc⟩ := h5 hn
 have hbg : b' ≠ g := by
  rintro rfl
  have := hc 0 hn
  simp [World.cell?, hg] at this
  exact hno _ _ this
 refine ⟨b', o, rfl, by rw [setRow_size]; exact hs, fun i hi => ?_⟩
 rw [← hc i hi]
 exact World.cell?_of_block (setRow_other _ _ _ _ hbg)
theorem no_u32v (n r : Bool) (a a' : Option Addr) (m c m' c' : Nat) (E : Int) : ∀ (i : Nat) z, (#[Value.bool n, Value.slice a m c, Value.slice a' m' c', Value.int .i64 E, Value.bool r] : Array Value)[i]? ≠ some (.int .u32 z) := by
 intro i z
 match i with
 | 0 => simp
 | 1 => simp
 | 2 => simp
 | 3 => simp
 | 4 => simp
 | _ + 5 => simp
def DR (W : World) (g : Nat) (neg : Bool) (M D : Nat) (E : Int) (r : Bool) : Prop := ∃ a m c a' m' c', W.heap[g]? = some (.cells #[.bool neg, .slice a m c, .slice a' m' c', .int .i64 E, .bool r] 141 (0, 0)) ∧ Num .u32 4294967296 W (.slice a m c) M ∧ Num .u32 4294967296 W (.slice a' m' c') D
theorem DR.below {W W' : World} {g M D : Nat} {neg r : Bool} {E : Int} (h : DR W g neg M D E r) (hb : Below W.heap.size W W') : DR W' g neg M D E r := by
 obtain ⟨a, m, c, a', m', c', h1, h2, h3⟩ := h
 exact ⟨a, m, c, a', m', c', hb.blk h1 (blk_lt h1), h2.below (Nat.le_refl _) hb, h3.below (Nat.le_refl _) hb⟩
theorem num32_put {w : World} {g k : Nat} {old : Array Value} {t : TypeId} {s x : Value} {N : Nat} (h : Num .u32 4294967296 w s N) (hg : w.heap[g]? = some (.cells old t (0, 0))) (hno : ∀ (i : Nat) z, old[i]? ≠ some (.int .u32 z)) : Num .u32 4294967296 (w.setCell ⟨g, k, none⟩ x) s N := by
 rw [setCell_eq_setRow w g k old t (0, 0) x hg]; exact num_setRow32 h hg hno
theorem DR.putN {W : World} {g M D M' : Nat} {neg r : Bool} {E : Int} {a : Option Addr} {m c : Nat} (h : DR W g neg M D E r) (hn : Num .u32 4294967296 W (.slice a m c) M') : DR (W.setCell ⟨g, 1, none⟩ (.slice a m c)) g neg M' D E r := by
 obtain ⟨a1, m1, c1, a2, m2, c2, h1, h2, h3⟩ := h
 refine ⟨a, m, c, a2, m2, c2, ?_, num32_put hn h1 (no_u32v _ _ _ _ _ _ _ _ _), num32_put h3 h1 (no_u32v _ _ _ _ _ _ _ _ _)⟩
 rw [setCell_eq_setRow W g 1 _ _ (0, 0) _ h1]
 exact setRow_heap W g _ _ _ _ h1
theorem DR.putD {W : World} {g M D D' : Nat} {neg r : Bool} {E : Int} {a : Option Addr} {m c : Nat} (h : DR W g neg M D E r) (hn : Num .u32 4294967296 W (.slice a m c) D') : DR (W.setCell ⟨g, 2, none⟩ (.slice a m c)) g neg M D' E r := by
 obtain ⟨a1, m1, c1, a2, m2, c2, h1, h2, h3⟩ := h
 refine ⟨a1, m1, c1, a, m, c, ?_, num32_put h2 h1 (no_u32v _ _ _ _ _ _ _ _ _), num32_put hn h1 (no_u32v _ _ _ _ _ _ _ _ _)⟩
 rw [setCell_eq_setRow W g 2 _ _ (0, 0) _ h1]
 exact setRow_heap W g _ _ _ _ h1
theorem DR.far {W w : World} {g k g' M D : Nat} {neg r : Bool} {E : Int} {x : Value} {o : Obj} (h : DR W g neg M D E r) (hb : Below w.heap.size w W) (hg : w.heap.size ≤ g) (ho : W.heap[g']? = some o) (hne : g' ≠ g) : Below w.heap.size w (W.setCell ⟨g, k, none⟩ x) ∧ (W.setCell ⟨g, k, none⟩ x).heap[g']? = some o := by
 obtain ⟨a1, m1, c1, a2, m2, c2, h1, h2, h3⟩ := h
 rw [setCell_eq_setRow W g k _ _ (0, 0) _ h1]
 exact ⟨below_setRow hb hg _, (setRow_other W g g' _ hne).trans ho⟩
def DocQ (a : Dc) (w : World) (e : Ending) (w' : World) : Prop := ∃ v M D E, e = .returned v ∧ Val w' v a.neg M D E ∧ DV a oneD M D E ∧ Below w.heap.size w w'
theorem doc_end {fn : Func} {p : Tmp} (hf : fn.results = #[.cell p 141]) {tmps : Array Value} {w W : World} {a : Dc} {a1 a2 : Option Addr} {m1 c1 m2 c2 M D g : Nat} {E : Int} (hp : tmps.getD p undef = .pointer (some ⟨g, 0, none⟩)) (hg : w.heap.size ≤ g) (hb : Below w.heap.size w W)
  (hr : W.heap[g]? = some (.cells #[.bool false, .slice none 0 0, .slice none 0 0, .int .i64 0, .bool false] 141 (0, 0)))
  (h1 : Num .u32 4294967296 W (.slice a1 m1 c1) M) (h2 : Num .u32 4294967296 W (.slice a2 m2 c2) D) (hv : DV a oneD M D E) : bodyPost Tryz.prog fn (DocQ a w) .ret ⟨tmps, []⟩ (W.setRow g #[.bool a.neg, .slice a1 m1 c1, .slice a2 m2 c2, .int .i64 E, .bool false]) := by
 refine bodyPost_ret (results_cell_row hf _ _ g 141 _ _ _ hp (setRow_heap _ _ _ _ _ _ hr) Tryz.underlying141 rfl (by kernel_rfl)) rfl ⟨_, M, D, E, rfl, ⟨_, _, rfl, ?_, ?_⟩, hv, below_setRow hb hg _⟩
 ·exact num_setRow32 h1 hr (no_u32v _ _ _ _ _ _ _ _ _)
 ·exact num_setRow32 h2 hr (no_u32v _ _ _ _ _ _ _ _ _)
theorem far_one (a : Dc) : farV a oneD + 1 = (a.s.length : Int) + a.e := by
 unfold farV
 rw [show ((oneD.s.length : Nat) : Int) = 1 from rfl, show oneD.e = 0 from rfl]; omega
theorem qM_one (a : Dc) : qM a oneD = dval a.s * 10 ^ a.e.toNat ∧ qD a oneD = 1 * 10 ^ (-a.e).toNat := by
 unfold qM qD quoM quoD
 rw [show oneD.e = 0 from rfl, Int.sub_zero, oneD_val]
 exact ⟨rfl, rfl⟩
set_option maxHeartbeats 4000000 in
theorem of10_v (a : Dc) (ha : a.ok) (w : World) : Calls Tryz.prog 114 #[.agg #[.bool a.neg, .string (bs a.s), .int .i64 a.e]] w (DocQ a w) := by
 obtain ⟨w2, hw2⟩ : ∃ W, W = ((w.alloc (.cells #[.bool a.neg, .string (bs a.s), .int .i64 a.e] 35)).alloc (.cells #[.bool false, .slice none 0 0, .slice none 0 0, .int .i64 0, .bool false] 141)) := ⟨_, rfl⟩
 have hba : Below w.heap.size w w2 := by rw [hw2]; exact ((Below.refl _ _).alloc (Nat.le_refl _) _).alloc (by simp) _
 have hsz : w2.heap.size = w.heap.size + 2 := by rw [hw2]; simp
 have q0 : w2.heap[w.heap.size]? = some (.cells #[.bool a.neg, .string (bs a.s), .int .i64 a.e] 35 (0, 0)) := by rw [hw2]; exact heap_alloc2_old w _ _
 have q1 : w2.heap[w.heap.size + 1]? = some (.cells #[.bool false, .slice none 0 0, .slice none 0 0, .int .i64 0, .bool false] 141 (0, 0)) := by rw [hw2]; exact heap_alloc2_new w _ _
 have HX : Hid (∀ W, Below w2.heap.size w2 W → W.heap[w.heap.size]? = some (.cells #[.bool a.neg, .string (bs a.s), .int .i64 a.e] 35 (0, 0)) ∧ W.heap[w.heap.size + 1]? = some (.cells #[.bool false, .slice none 0 0, .slice none 0 0, .int .i64 0, .bool false] 141 (0, 0)) ∧ Below w.heap.size w W) := fun W hW =>
  ⟨hW.blk q0 (by omega), hW.blk q1 (by omega), hba.trans (hW.mono hba.size)⟩
 have HSZ : Hid (w2.heap.size = w.heap.size + 2) := hsz
 have H1 : Hid (∀ W, Calls Tryz.prog 54 #[.int .u64 1] W (NatQ 1 W)) := fun W => of_any 1 W (by decide)
 obtain ⟨na, hna⟩ : ∃ n, n = dval a.s := ⟨_, rfl⟩
 have HNA : Hid (na = dval a.s) := hna
 have HDG : Hid (∀ W, Calls Tryz.prog 174 #[.string (bs a.s)] W (NatQ na W)) := fun W => by
  rw [hna]; exact ndigits_v (bs a.s) W (ok_dig ha) (by have := ok_len ha; show a.s.length ≤ _; omega)
 obtain ⟨far, hfar⟩ : ∃ x, x = farV a oneD + 1 := ⟨_, rfl⟩
 have HFAR : Hid (far = farV a oneD + 1) := hfar
 rw [far_one] at hfar
 have la := ok_len ha
 have ea := ok_exp ha
 have HEB : Hid (-20000 ≤ a.e ∧ a.e ≤ 20000) := ea
 have HA : Hid a.ok := ha
 have i1 : IntKind.i64.wrap ((a.s.length : Int) + a.e) = far := by rw [hfar]; exact IntWalk.i64_in _ (by omega)
 have z1 : ((bs a.s).size : Int) = (a.s.length : Nat) := rfl
 have ca1 := cell_of_row w2 w.heap.size 1 _ _ _ q0
 have ca2 := cell_of_row w2 w.heap.size 2 _ _ _ q0
 clear hba hsz q0 q1 hna hfar la ea ha
 go_enter Tryz.func114, Tryz.ntmps114
 go_upto_region 1 with fail
 rw [← hw2]
 clear hw2
 by_cases hu : 400 < far
 ·skip
  go_upto_region 3 with fail
  clear ca1 ca2 i1 z1
  have h1 : once [(13, 0), (14, 1), (15, 2), (16, 3), (17, 4)] = true := by kernel_rfl
  have h2 : within [(13, 0), (14, 1), (15, 2), (16, 3), (17, 4)] 49 = true := by kernel_rfl
  let S : Nat → (Nat → Value) → World → Prop := fun i xs W => match i with
   | 0 => xs 0 = .pointer (some ⟨w.heap.size, 0, none⟩)
   | 1 => xs 1 = .bool a.neg
   | 2 => Num .u32 4294967296 W (xs 2) (1)
   | 3 => Num .u32 4294967296 W (xs 3) (1)
   | 4 => ∃ p1 p2 p3 q1 q2 q3, (xs 4) = .agg #[.bool a.neg, .slice p1 p2 p3, .slice q1 q2 q3, .int .i64 (1400), .bool false] ∧ Num .u32 4294967296 W (.slice p1 p2 p3) (1) ∧ Num .u32 4294967296 W (.slice q1 q2 q3) (1)
   | _ => True
  have hstab : ∀ j ys W W', S j ys W → Below W.heap.size W W' → S j ys W' := by
   intro j ys W W' h hb
   match j, h with
   | 0, h => exact h
   | 1, h => exact h
   | 2, h => exact h.below (Nat.le_refl _) hb
   | 3, h => exact h.below (Nat.le_refl _) hb
   | 4, ⟨p1, p2, p3, q1, q2, q3, e1, n1, n2⟩ => exact ⟨p1, p2, p3, q1, q2, q3, e1, n1.below (Nat.le_refl _) hb, n2.below (Nat.le_refl _) hb⟩
   | _ + 5, h => exact trivial
  refine wp_region_flow3T 5 6 4 [(13, 0), (14, 1), (15, 2), (16, 3), (17, 4)] [] S (fun _ W => (fun W => Below w2.heap.size w2 W) W) ((Below.refl _ _).drew) (by kernel_rfl) (by kernel_rfl) (by kernel_rfl) (by decide) (by kernel_rfl) h1 (by kernel_rfl) ?_ ?_ ?_ ?_
  ·exact fun j hj => by cases hj
  ·intro j xs ys W e h
   match j, e, h with
   | 0, e, h => exact c_ (e 0 (.inl rfl)) h
   | 1, e, h => exact c_ (e 1 (.inl rfl)) h
   | 2, e, h => exact (congrArg (fun z => Num .u32 4294967296 W z _) (e 2 (.inl rfl))).mp h
   | 3, e, h => exact (congrArg (fun z => Num .u32 4294967296 W z _) (e 3 (.inl rfl))).mp h
   | 4, e, ⟨p1, p2, p3, q1, q2, q3, e1, r⟩ => exact ⟨p1, p2, p3, q1, q2, q3, (e 4 (.inl rfl)).symm.trans e1, r⟩
   | _ + 5, e, h => exact trivial
  ·refine ⟨⟨⟨⟨⟨trivial, ?_⟩, ?_⟩, ?_⟩, ?_⟩, ?_⟩
   ·refine flow3_step _ (some 13) rfl rfl rfl h1 h2 gI gB hstab fun ac xs W Dn he hni hb hS K hK => ?_
    have e0 : ac.eval (.tmp 1) = .pointer (some ⟨w.heap.size, 0, none⟩) := he 1
    refine op_any (.fieldAddr 35 (.tmp 1) 0) rfl (.pointer (some ⟨w.heap.size, 0, none⟩)) (fun o' ho' => ?_) (hK _ _ rfl bR nA)
    simp only [execOp, ho', e0]
    go_simp
   ·refine flow3_step _ (some 14) rfl rfl rfl h1 h2 gI gB hstab fun ac xs W Dn he hni hb hS K hK => ?_
    have e0 := (he 13).trans (hS 0 (by kernel_rfl))
    refine op_any (.load 4 (.tmp 13)) rfl (.bool a.neg) (fun o' ho' => ?_) (hK _ _ rfl bR nA)
    simp only [execOp, ho', e0]
    have hc := cell_of_row W w.heap.size 0 _ _ _ (HX.out W hb).1
    go_simp
   ·refine flow3_step _ (some 15) rfl rfl rfl h1 h2 gI gB hstab fun ac xs W Dn he hni hb hS K hK => ?_
    refine op_call 54 _ _ rfl _ (by simp only [List.map, eval_const]) (by go_simp) (H1.out W) ?_
    rintro e' W' ⟨u, rfl, hi', hb'⟩
    exact ⟨_, rfl, hK _ _ (hi') hb' nA⟩
   ·refine flow3_step _ (some 16) rfl rfl rfl h1 h2 gI gB hstab fun ac xs W Dn he hni hb hS K hK => ?_
    refine op_call 54 _ _ rfl _ (by simp only [List.map, eval_const]) (by go_simp) (H1.out W) ?_
    rintro e' W' ⟨u, rfl, hi', hb'⟩
    exact ⟨_, rfl, hK _ _ (hi') hb' nA⟩
   ·refine flow3_step _ (some 17) rfl rfl rfl h1 h2 gI gB hstab fun ac xs W Dn he hni hb hS K hK => ?_
    have n1 : Num .u32 4294967296 W (xs 2) (1) := hS 2 (by kernel_rfl)
    have n2 : Num .u32 4294967296 W (xs 3) (1) := hS 3 (by kernel_rfl)
    obtain ⟨p1, p2, p3, e1⟩ := n1.shape
    obtain ⟨q1, q2, q3, e2⟩ := n2.shape
    rw [e1] at n1
    rw [e2] at n2
    have f0 : ac.tmps[14]?.getD undef = .bool a.neg := by rw [← Array.getD_eq_getD_getElem?]; exact (he 14).trans (hS 1 (by kernel_rfl))
    have f1 : ac.tmps[15]?.getD undef = .slice p1 p2 p3 := by rw [← Array.getD_eq_getD_getElem?]; exact (he 15).trans e1
    have f2 : ac.tmps[16]?.getD undef = .slice q1 q2 q3 := by rw [← Array.getD_eq_getD_getElem?]; exact (he 16).trans e2
    refine op_any (.build 141 #[(0, .tmp 14), (1, .tmp 15), (2, .tmp 16), (3, .const (.int .i64 (1400)))]) rfl (.agg #[.bool a.neg, .slice p1 p2 p3, .slice q1 q2 q3, .int .i64 (1400), .bool false]) (fun o' ho' => ?_) (hK _ _ ⟨_, _, _, _, _, _, rfl, n1, n2⟩ bR nA)
    simp only [execOp, ho']
    go_simp
  ·intro xs WL Dn hall hb hS hD
   obtain ⟨p1, p2, p3, q1, q2, q3, s4, n1, n2⟩ := hS 4 (by decide)
   have r4 := (HX.out WL hb).2.1
   have HN1 : Hid _ := n1
   have HN2 : Hid _ := n2
   have HBW : Hid (Below w.heap.size w WL) := (HX.out WL hb).2.2
   have HR4 : Hid _ := r4
   simp only [layAll, s4, List.setIfInBounds_toArray, List.set_cons_succ, List.set_cons_zero]
   clear hS hD hall hstab S s4 h1 h2 n1 n2 hb r4
   refine wpList_store_row rfl 141 (.tmp 2) (.tmp 17) rfl (w.heap.size + 1) #[.bool a.neg, .slice p1 p2 p3, .slice q1 q2 q3, .int .i64 (1400), .bool false] rfl rfl _ _ HR4.out (by kernel_rfl) rfl (by simp [Value.oneCell']) ?_
   go_wp2
   exact doc_end (a := a) (g := w.heap.size + 1) (p := 2) rfl rfl (by omega) HBW.out HR4.out HN1.out HN2.out (.inl ⟨by have := HFAR.out; omega, rfl, rfl, rfl⟩)
 by_cases hd : far < -400
 ·skip
  go_upto_region 5 with fail
  clear ca1 ca2 i1 z1
  have h1 : once [(24, 0), (25, 1), (26, 2), (27, 3), (28, 4)] = true := by kernel_rfl
  have h2 : within [(24, 0), (25, 1), (26, 2), (27, 3), (28, 4)] 49 = true := by kernel_rfl
  let S : Nat → (Nat → Value) → World → Prop := fun i xs W => match i with
   | 0 => xs 0 = .pointer (some ⟨w.heap.size, 0, none⟩)
   | 1 => xs 1 = .bool a.neg
   | 2 => Num .u32 4294967296 W (xs 2) (1)
   | 3 => Num .u32 4294967296 W (xs 3) (1)
   | 4 => ∃ p1 p2 p3 q1 q2 q3, (xs 4) = .agg #[.bool a.neg, .slice p1 p2 p3, .slice q1 q2 q3, .int .i64 (-1400), .bool false] ∧ Num .u32 4294967296 W (.slice p1 p2 p3) (1) ∧ Num .u32 4294967296 W (.slice q1 q2 q3) (1)
   | _ => True
  have hstab : ∀ j ys W W', S j ys W → Below W.heap.size W W' → S j ys W' := by
   intro j ys W W' h hb
   match j, h with
   | 0, h => exact h
   | 1, h => exact h
   | 2, h => exact h.below (Nat.le_refl _) hb
   | 3, h => exact h.below (Nat.le_refl _) hb
   | 4, ⟨p1, p2, p3, q1, q2, q3, e1, n1, n2⟩ => exact ⟨p1, p2, p3, q1, q2, q3, e1, n1.below (Nat.le_refl _) hb, n2.below (Nat.le_refl _) hb⟩
   | _ + 5, h => exact trivial
  refine wp_region_flow3T 5 6 4 [(24, 0), (25, 1), (26, 2), (27, 3), (28, 4)] [] S (fun _ W => (fun W => Below w2.heap.size w2 W) W) ((Below.refl _ _).drew) (by kernel_rfl) (by kernel_rfl) (by kernel_rfl) (by decide) (by kernel_rfl) h1 (by kernel_rfl) ?_ ?_ ?_ ?_
  ·exact fun j hj => by cases hj
  ·intro j xs ys W e h
   match j, e, h with
   | 0, e, h => exact c_ (e 0 (.inl rfl)) h
   | 1, e, h => exact c_ (e 1 (.inl rfl)) h
   | 2, e, h => exact (congrArg (fun z => Num .u32 4294967296 W z _) (e 2 (.inl rfl))).mp h
   | 3, e, h => exact (congrArg (fun z => Num .u32 4294967296 W z _) (e 3 (.inl rfl))).mp h
   | 4, e, ⟨p1, p2, p3, q1, q2, q3, e1, r⟩ => exact ⟨p1, p2, p3, q1, q2, q3, (e 4 (.inl rfl)).symm.trans e1, r⟩
   | _ + 5, e, h => exact trivial
  ·refine ⟨⟨⟨⟨⟨trivial, ?_⟩, ?_⟩, ?_⟩, ?_⟩, ?_⟩
   ·refine flow3_step _ (some 24) rfl rfl rfl h1 h2 gI gB hstab fun ac xs W Dn he hni hb hS K hK => ?_
    have e0 : ac.eval (.tmp 1) = .pointer (some ⟨w.heap.size, 0, none⟩) := he 1
    refine op_any (.fieldAddr 35 (.tmp 1) 0) rfl (.pointer (some ⟨w.heap.size, 0, none⟩)) (fun o' ho' => ?_) (hK _ _ rfl bR nA)
    simp only [execOp, ho', e0]
    go_simp
   ·refine flow3_step _ (some 25) rfl rfl rfl h1 h2 gI gB hstab fun ac xs W Dn he hni hb hS K hK => ?_
    have e0 := (he 24).trans (hS 0 (by kernel_rfl))
    refine op_any (.load 4 (.tmp 24)) rfl (.bool a.neg) (fun o' ho' => ?_) (hK _ _ rfl bR nA)
    simp only [execOp, ho', e0]
    have hc := cell_of_row W w.heap.size 0 _ _ _ (HX.out W hb).1
    go_simp
   ·refine flow3_step _ (some 26) rfl rfl rfl h1 h2 gI gB hstab fun ac xs W Dn he hni hb hS K hK => ?_
    refine op_call 54 _ _ rfl _ (by simp only [List.map, eval_const]) (by go_simp) (H1.out W) ?_
    rintro e' W' ⟨u, rfl, hi', hb'⟩
    exact ⟨_, rfl, hK _ _ (hi') hb' nA⟩
   ·refine flow3_step _ (some 27) rfl rfl rfl h1 h2 gI gB hstab fun ac xs W Dn he hni hb hS K hK => ?_
    refine op_call 54 _ _ rfl _ (by simp only [List.map, eval_const]) (by go_simp) (H1.out W) ?_
    rintro e' W' ⟨u, rfl, hi', hb'⟩
    exact ⟨_, rfl, hK _ _ (hi') hb' nA⟩
   ·refine flow3_step _ (some 28) rfl rfl rfl h1 h2 gI gB hstab fun ac xs W Dn he hni hb hS K hK => ?_
    have n1 : Num .u32 4294967296 W (xs 2) (1) := hS 2 (by kernel_rfl)
    have n2 : Num .u32 4294967296 W (xs 3) (1) := hS 3 (by kernel_rfl)
    obtain ⟨p1, p2, p3, e1⟩ := n1.shape
    obtain ⟨q1, q2, q3, e2⟩ := n2.shape
    rw [e1] at n1
    rw [e2] at n2
    have f0 : ac.tmps[25]?.getD undef = .bool a.neg := by rw [← Array.getD_eq_getD_getElem?]; exact (he 25).trans (hS 1 (by kernel_rfl))
    have f1 : ac.tmps[26]?.getD undef = .slice p1 p2 p3 := by rw [← Array.getD_eq_getD_getElem?]; exact (he 26).trans e1
    have f2 : ac.tmps[27]?.getD undef = .slice q1 q2 q3 := by rw [← Array.getD_eq_getD_getElem?]; exact (he 27).trans e2
    refine op_any (.build 141 #[(0, .tmp 25), (1, .tmp 26), (2, .tmp 27), (3, .const (.int .i64 (-1400)))]) rfl (.agg #[.bool a.neg, .slice p1 p2 p3, .slice q1 q2 q3, .int .i64 (-1400), .bool false]) (fun o' ho' => ?_) (hK _ _ ⟨_, _, _, _, _, _, rfl, n1, n2⟩ bR nA)
    simp only [execOp, ho']
    go_simp
  ·intro xs WL Dn hall hb hS hD
   obtain ⟨p1, p2, p3, q1, q2, q3, s4, n1, n2⟩ := hS 4 (by decide)
   have r4 := (HX.out WL hb).2.1
   have HN1 : Hid _ := n1
   have HN2 : Hid _ := n2
   have HBW : Hid (Below w.heap.size w WL) := (HX.out WL hb).2.2
   have HR4 : Hid _ := r4
   simp only [layAll, s4, List.setIfInBounds_toArray, List.set_cons_succ, List.set_cons_zero]
   clear hS hD hall hstab S s4 h1 h2 n1 n2 hb r4
   refine wpList_store_row rfl 141 (.tmp 2) (.tmp 28) rfl (w.heap.size + 1) #[.bool a.neg, .slice p1 p2 p3, .slice q1 q2 q3, .int .i64 (-1400), .bool false] rfl rfl _ _ HR4.out (by kernel_rfl) rfl (by simp [Value.oneCell']) ?_
   go_wp2
   exact doc_end (a := a) (g := w.heap.size + 1) (p := 2) rfl rfl (by omega) HBW.out HR4.out HN1.out HN2.out (.inr (.inl ⟨by have := HFAR.out; omega, rfl, rfl, rfl⟩))
 go_upto_region 6 with fail
 clear ca1 ca2 i1 z1
 have h1 : once [(29, 0), (30, 1), (31, 2), (32, 3), (33, 4), (34, 5), (35, 6), (4, 7)] = true := by kernel_rfl
 have h2 : within [(29, 0), (30, 1), (31, 2), (32, 3), (33, 4), (34, 5), (35, 6), (4, 7)] 49 = true := by kernel_rfl
 let S : Nat → (Nat → Value) → World → Prop := fun i xs W => match i with
  | 0 => xs 0 = .pointer (some ⟨w.heap.size, 0, none⟩)
  | 1 => xs 1 = .bool a.neg
  | 2 => xs 2 = .pointer (some ⟨w.heap.size, 1, none⟩)
  | 3 => xs 3 = .string (bs a.s)
  | 4 => Num .u32 4294967296 W (xs 4) (na)
  | 5 => Num .u32 4294967296 W (xs 5) (1)
  | 6 => ∃ p1 p2 p3 q1 q2 q3, (xs 6) = .agg #[.bool a.neg, .slice p1 p2 p3, .slice q1 q2 q3, .int .i64 (0), .bool false] ∧ Num .u32 4294967296 W (.slice p1 p2 p3) (na) ∧ Num .u32 4294967296 W (.slice q1 q2 q3) (1)
  | 7 => ∃ g, (xs 7) = .pointer (some ⟨g, 0, none⟩) ∧ w2.heap.size ≤ g ∧ g < W.heap.size ∧ W.heap[g]? = some (.cells #[.bool false, .slice none 0 0, .slice none 0 0, .int .i64 0, .bool false] 141 (0, 0))
  | _ => True
 have hstab : ∀ j ys W W', S j ys W → Below W.heap.size W W' → S j ys W' := by
  intro j ys W W' h hb
  match j, h with
  | 0, h => exact h
  | 1, h => exact h
  | 2, h => exact h
  | 3, h => exact h
  | 4, h => exact h.below (Nat.le_refl _) hb
  | 5, h => exact h.below (Nat.le_refl _) hb
  | 6, ⟨p1, p2, p3, q1, q2, q3, e1, n1, n2⟩ => exact ⟨p1, p2, p3, q1, q2, q3, e1, n1.below (Nat.le_refl _) hb, n2.below (Nat.le_refl _) hb⟩
  | 7, ⟨g, s1, s2, s3, s4⟩ => exact ⟨g, s1, s2, Nat.lt_of_lt_of_le s3 hb.size, hb.blk s4 s3⟩
  | _ + 8, h => exact trivial
 refine wp_region_flow3T 8 9 4 [(29, 0), (30, 1), (31, 2), (32, 3), (33, 4), (34, 5), (35, 6), (4, 7)] [7] S (fun _ W => (fun W => Below w2.heap.size w2 W) W) ((Below.refl _ _).drew) (by kernel_rfl) (by kernel_rfl) (by kernel_rfl) (by decide) (by kernel_rfl) h1 (by kernel_rfl) ?_ ?_ ?_ ?_
 ·intro j hj xs W h
  simp only [List.mem_cons, List.not_mem_nil, or_false] at hj
  rcases hj with rfl
  ·obtain ⟨g, s1, s2, s3, s4⟩ := h; exact ⟨g, s1, s3⟩
 ·intro j xs ys W e h
  match j, e, h with
  | 0, e, h => exact c_ (e 0 (.inl rfl)) h
  | 1, e, h => exact c_ (e 1 (.inl rfl)) h
  | 2, e, h => exact c_ (e 2 (.inl rfl)) h
  | 3, e, h => exact c_ (e 3 (.inl rfl)) h
  | 4, e, h => exact (congrArg (fun z => Num .u32 4294967296 W z _) (e 4 (.inl rfl))).mp h
  | 5, e, h => exact (congrArg (fun z => Num .u32 4294967296 W z _) (e 5 (.inl rfl))).mp h
  | 6, e, ⟨p1, p2, p3, q1, q2, q3, e1, r⟩ => exact ⟨p1, p2, p3, q1, q2, q3, (e 6 (.inl rfl)).symm.trans e1, r⟩
  | 7, e, ⟨g, s1, r⟩ => exact ⟨g, (e 7 (.inl rfl)).symm.trans s1, r⟩
  | _ + 8, e, h => exact trivial
 ·refine ⟨⟨⟨⟨⟨⟨⟨⟨trivial, ?_⟩, ?_⟩, ?_⟩, ?_⟩, ?_⟩, ?_⟩, ?_⟩, ?_⟩
  ·refine flow3_step _ (some 29) rfl rfl rfl h1 h2 gI gB hstab fun ac xs W Dn he hni hb hS K hK => ?_
   have e0 : ac.eval (.tmp 1) = .pointer (some ⟨w.heap.size, 0, none⟩) := he 1
   refine op_any (.fieldAddr 35 (.tmp 1) 0) rfl (.pointer (some ⟨w.heap.size, 0, none⟩)) (fun o' ho' => ?_) (hK _ _ rfl bR (fun h => absurd h (by decide)))
   simp only [execOp, ho', e0]
   go_simp
  ·refine flow3_step _ (some 30) rfl rfl rfl h1 h2 gI gB hstab fun ac xs W Dn he hni hb hS K hK => ?_
   have e0 := (he 29).trans (hS 0 (by kernel_rfl))
   refine op_any (.load 4 (.tmp 29)) rfl (.bool a.neg) (fun o' ho' => ?_) (hK _ _ rfl bR (fun h => absurd h (by decide)))
   simp only [execOp, ho', e0]
   have hc := cell_of_row W w.heap.size 0 _ _ _ (HX.out W hb).1
   go_simp
  ·refine flow3_step _ (some 31) rfl rfl rfl h1 h2 gI gB hstab fun ac xs W Dn he hni hb hS K hK => ?_
   have e0 : ac.eval (.tmp 1) = .pointer (some ⟨w.heap.size, 0, none⟩) := he 1
   refine op_any (.fieldAddr 35 (.tmp 1) 1) rfl (.pointer (some ⟨w.heap.size, 1, none⟩)) (fun o' ho' => ?_) (hK _ _ rfl bR (fun h => absurd h (by decide)))
   simp only [execOp, ho', e0]
   go_simp
  ·refine flow3_step _ (some 32) rfl rfl rfl h1 h2 gI gB hstab fun ac xs W Dn he hni hb hS K hK => ?_
   have e0 := (he 31).trans (hS 2 (by kernel_rfl))
   refine op_any (.load 9 (.tmp 31)) rfl (.string (bs a.s)) (fun o' ho' => ?_) (hK _ _ rfl bR (fun h => absurd h (by decide)))
   simp only [execOp, ho', e0]
   have hc := cell_of_row W w.heap.size 1 _ _ _ (HX.out W hb).1
   go_simp
  ·refine flow3_step _ (some 33) rfl rfl rfl h1 h2 gI gB hstab fun ac xs W Dn he hni hb hS K hK => ?_
   have e0 := (he 32).trans (hS 3 (by kernel_rfl))
   refine op_call 174 _ _ rfl _ (by simp only [List.map, e0]) (by go_simp) (HDG.out W) ?_
   rintro e' W' ⟨u, rfl, hi', hb'⟩
   exact ⟨_, rfl, hK _ _ (hi') hb' (fun h => absurd h (by decide))⟩
  ·refine flow3_step _ (some 34) rfl rfl rfl h1 h2 gI gB hstab fun ac xs W Dn he hni hb hS K hK => ?_
   refine op_call 54 _ _ rfl _ (by simp only [List.map, eval_const]) (by go_simp) (H1.out W) ?_
   rintro e' W' ⟨u, rfl, hi', hb'⟩
   exact ⟨_, rfl, hK _ _ (hi') hb' (fun h => absurd h (by decide))⟩
  ·refine flow3_step _ (some 35) rfl rfl rfl h1 h2 gI gB hstab fun ac xs W Dn he hni hb hS K hK => ?_
   have n1 : Num .u32 4294967296 W (xs 4) (na) := hS 4 (by kernel_rfl)
   have n2 : Num .u32 4294967296 W (xs 5) (1) := hS 5 (by kernel_rfl)
   obtain ⟨p1, p2, p3, e1⟩ := n1.shape
   obtain ⟨q1, q2, q3, e2⟩ := n2.shape
   rw [e1] at n1
   rw [e2] at n2
   have f0 : ac.tmps[30]?.getD undef = .bool a.neg := by rw [← Array.getD_eq_getD_getElem?]; exact (he 30).trans (hS 1 (by kernel_rfl))
   have f1 : ac.tmps[33]?.getD undef = .slice p1 p2 p3 := by rw [← Array.getD_eq_getD_getElem?]; exact (he 33).trans e1
   have f2 : ac.tmps[34]?.getD undef = .slice q1 q2 q3 := by rw [← Array.getD_eq_getD_getElem?]; exact (he 34).trans e2
   refine op_any (.build 141 #[(0, .tmp 30), (1, .tmp 33), (2, .tmp 34)]) rfl (.agg #[.bool a.neg, .slice p1 p2 p3, .slice q1 q2 q3, .int .i64 (0), .bool false]) (fun o' ho' => ?_) (hK _ _ ⟨_, _, _, _, _, _, rfl, n1, n2⟩ bR (fun h => absurd h (by decide)))
   simp only [execOp, ho']
   go_simp
  ·refine flow3_step _ (some 4) rfl rfl rfl h1 h2 gI gB hstab fun ac xs W Dn he hni hb hS K hK => ?_
   have hsz := hb.size
   refine op_anyw (.alloc 141) rfl (.pointer (some ⟨W.heap.size, 0, none⟩)) (W.alloc (.cells #[.bool false, .slice none 0 0, .slice none 0 0, .int .i64 0, .bool false] 141)) ?_ ?_
   ·intro o' ho'
    simp only [execOp, ho']
    go_simp
   ·exact hK _ _ ⟨_, rfl, by omega, by simp, heap_alloc_new _ _⟩ (bR.alloc (Nat.le_refl _) _) (fun _ => rfl)
 ·intro xs W4 Dn hall hb hS hD
  obtain ⟨p1, p2, p3, q1, q2, q3, s6, n1, n2⟩ := hS 6 (by decide)
  obtain ⟨g4, s7, hg4, hg5, hr4⟩ := hS 7 (by decide)
  simp only [layAll, s6, s7, List.setIfInBounds_toArray, List.set_cons_succ, List.set_cons_zero]
  clear hS hD hall hstab S s6 s7 h1 h2
  have hsz := HSZ.out
  refine wpList_store_row rfl 141 (.tmp 4) (.tmp 35) rfl g4 #[.bool a.neg, .slice p1 p2 p3, .slice q1 q2 q3, .int .i64 0, .bool false] rfl rfl _ _ hr4 (by kernel_rfl) rfl (by simp [Value.oneCell']) ?_
  obtain ⟨w5, hw5⟩ : ∃ W, W = W4.setRow g4 #[.bool a.neg, .slice p1 p2 p3, .slice q1 q2 q3, .int .i64 0, .bool false] := ⟨_, rfl⟩
  have HDR : Hid (DR w5 g4 a.neg na 1 0 false) := by show DR _ _ _ _ _ _ _; rw [hw5]; exact ⟨_, _, _, _, _, _, setRow_heap W4 g4 _ _ _ _ hr4, num_setRow32 n1 hr4 (no_u32v _ _ _ _ _ _ _ _ _), num_setRow32 n2 hr4 (no_u32v _ _ _ _ _ _ _ _ _)⟩
  have HF5 : Hid (Below w.heap.size w w5 ∧ w5.heap[w.heap.size + 1]? = some (.cells #[.bool false, .slice none 0 0, .slice none 0 0, .int .i64 0, .bool false] 141 (0, 0))) := by show _ ∧ _; rw [hw5]; exact ⟨below_setRow (HX.out _ hb).2.2 (by omega) _, (setRow_other W4 g4 _ _ (by omega)).trans (HX.out _ hb).2.1⟩
  have HG4 : Hid (w.heap.size + 2 ≤ g4) := by show _ ≤ _; omega
  rw [← hw5]
  clear hw5 n1 n2 hr4 hg4 hg5 hb HX hsz
  by_cases hx : 0 ≤ a.e
  ·obtain ⟨k, hk⟩ : ∃ k : Nat, a.e = k := ⟨a.e.toNat, by omega⟩
   have HKX : Hid (a.e = (k : Int)) := hk
   have hkb : k ≤ 20000 := by have := HEB.out; omega
   have HT : Hid (∀ W, Calls Tryz.prog 175 #[.int .i64 a.e] W (NatQ (10 ^ k) W)) := fun W => by rw [hk]; exact nten_v k W (by omega)
   obtain ⟨b2, hb2⟩ : ∃ b, b = 4 * 50000 + 1 := ⟨_, rfl⟩
   have HM : Hid (∀ W x y, Num .u32 4294967296 W x na → Num .u32 4294967296 W y (10 ^ k) → Calls Tryz.prog 56 #[x, y] W (NatQ (na * 10 ^ k) W)) := fun W x y hx hy =>
    nmul_any x y na (10 ^ k) W hx hy (bb := b2) (by rw [HNA.out]; exact Nat.lt_of_lt_of_le (ok_val HA.out) (Nat.le_trans (Nat.le_of_lt (ten_lt2 _)) (Nat.pow_le_pow_right (by decide) (by have := ok_len HA.out; omega)))) (Nat.lt_of_lt_of_le (ten_lt2 k) (Nat.pow_le_pow_right (by decide) (by omega))) (by omega)
   clear hk hkb hb2
   go_upto_region 8 with fail
   have h1 : once [(38, 0), (39, 1), (40, 2), (41, 3), (42, 4), (43, 5)] = true := by kernel_rfl
   have h2 : within [(38, 0), (39, 1), (40, 2), (41, 3), (42, 4), (43, 5)] 49 = true := by kernel_rfl
   let S : Nat → (Nat → Value) → World → Prop := fun i xs W => match i with
    | 0 => xs 0 = .pointer (some ⟨g4, 1, none⟩)
    | 1 => Num .u32 4294967296 W (xs 1) (na)
    | 2 => xs 2 = .int .i64 a.e
    | 3 => Num .u32 4294967296 W (xs 3) (10 ^ k)
    | 4 => Num .u32 4294967296 W (xs 4) (na * 10 ^ k)
    | 5 => xs 5 = .pointer (some ⟨g4, 1, none⟩)
    | _ => True
   have hstab : ∀ j ys W W', S j ys W → Below W.heap.size W W' → S j ys W' := by
    intro j ys W W' h hb
    match j, h with
    | 0, h => exact h
    | 1, h => exact h.below (Nat.le_refl _) hb
    | 2, h => exact h
    | 3, h => exact h.below (Nat.le_refl _) hb
    | 4, h => exact h.below (Nat.le_refl _) hb
    | 5, h => exact h
    | _ + 6, h => exact trivial
   refine wp_region_flow3T 6 7 4 [(38, 0), (39, 1), (40, 2), (41, 3), (42, 4), (43, 5)] [] S (fun _ W => (fun W => DR W g4 a.neg na 1 0 false ∧ Below w.heap.size w W ∧ W.heap[w.heap.size + 1]? = some (.cells #[.bool false, .slice none 0 0, .slice none 0 0, .int .i64 0, .bool false] 141 (0, 0))) W) ⟨HDR.out.below ((Below.refl _ _).drew), HF5.out.1.thru ((Below.refl _ _).drew), (Below.refl _ _).drew.blk HF5.out.2 (blk_lt HF5.out.2)⟩ (by kernel_rfl) (by kernel_rfl) (by kernel_rfl) (by decide) (by kernel_rfl) h1 (by kernel_rfl) ?_ ?_ ?_ ?_
   ·exact fun j hj => by cases hj
   ·intro j xs ys W e h
    match j, e, h with
    | 0, e, h => exact c_ (e 0 (.inl rfl)) h
    | 1, e, h => exact (congrArg (fun z => Num .u32 4294967296 W z _) (e 1 (.inl rfl))).mp h
    | 2, e, h => exact c_ (e 2 (.inl rfl)) h
    | 3, e, h => exact (congrArg (fun z => Num .u32 4294967296 W z _) (e 3 (.inl rfl))).mp h
    | 4, e, h => exact (congrArg (fun z => Num .u32 4294967296 W z _) (e 4 (.inl rfl))).mp h
    | 5, e, h => exact c_ (e 5 (.inl rfl)) h
    | _ + 6, e, h => exact trivial
   ·refine ⟨⟨⟨⟨⟨⟨trivial, ?_⟩, ?_⟩, ?_⟩, ?_⟩, ?_⟩, ?_⟩
    ·refine flow3_step _ (some 38) rfl rfl rfl h1 h2 (fun D W _ h => h) (fun D W W' h hb => ⟨h.1.below hb, h.2.1.thru hb, hb.blk h.2.2 (blk_lt h.2.2)⟩) hstab fun ac xs W Dn he hni hG hS K hK => ?_
     have e0 : ac.eval (.tmp 4) = .pointer (some ⟨g4, 0, none⟩) := he 4
     refine op_any (.fieldAddr 141 (.tmp 4) 1) rfl (.pointer (some ⟨g4, 1, none⟩)) (fun o' ho' => ?_) (hK _ _ rfl bR nA)
     simp only [execOp, ho', e0]
     go_simp
    ·refine flow3_step _ (some 39) rfl rfl rfl h1 h2 (fun D W _ h => h) (fun D W W' h hb => ⟨h.1.below hb, h.2.1.thru hb, hb.blk h.2.2 (blk_lt h.2.2)⟩) hstab fun ac xs W Dn he hni hG hS K hK => ?_
     obtain ⟨p1, p2, p3, p4, p5, p6, r5, n5, n6⟩ := hG.1
     have k2 := cell_of_row W g4 1 _ _ _ r5
     have e0 := (he 38).trans (hS 0 (by kernel_rfl))
     refine op_any (.load 85 (.tmp 38)) rfl (.slice p1 p2 p3) (fun o' ho' => ?_) (hK _ _ n5 bR nA)
     simp only [execOp, ho', e0]
     go_simp
    ·refine flow3_step _ (some 40) rfl rfl rfl h1 h2 (fun D W _ h => h) (fun D W W' h hb => ⟨h.1.below hb, h.2.1.thru hb, hb.blk h.2.2 (blk_lt h.2.2)⟩) hstab fun ac xs W Dn he hni hG hS K hK => ?_
     exact op_move (.tmp 3) (.inl rfl) (hK _ _ (he 3) bR nA)
    ·refine flow3_step _ (some 41) rfl rfl rfl h1 h2 (fun D W _ h => h) (fun D W W' h hb => ⟨h.1.below hb, h.2.1.thru hb, hb.blk h.2.2 (blk_lt h.2.2)⟩) hstab fun ac xs W Dn he hni hG hS K hK => ?_
     have e0 := (he 40).trans (hS 2 (by kernel_rfl))
     refine op_call 175 _ _ rfl _ (by simp only [List.map, e0]) (by go_simp) (HT.out W) ?_
     rintro e' W' ⟨u, rfl, hi', hb'⟩
     exact ⟨_, rfl, hK _ _ (hi') hb' nA⟩
    ·refine flow3_step _ (some 42) rfl rfl rfl h1 h2 (fun D W _ h => h) (fun D W W' h hb => ⟨h.1.below hb, h.2.1.thru hb, hb.blk h.2.2 (blk_lt h.2.2)⟩) hstab fun ac xs W Dn he hni hG hS K hK => ?_
     have e0 : ac.eval (.tmp 39) = xs 1 := he 39
     have e1 : ac.eval (.tmp 41) = xs 3 := he 41
     refine op_call 56 _ _ rfl _ (by simp only [List.map, e0, e1]) (by go_simp) (HM.out W _ _ (hS 1 (by kernel_rfl)) (hS 3 (by kernel_rfl))) ?_
     rintro e' W' ⟨u, rfl, hi', hb'⟩
     exact ⟨_, rfl, hK _ _ (hi') hb' nA⟩
    ·refine flow3_step _ (some 43) rfl rfl rfl h1 h2 (fun D W _ h => h) (fun D W W' h hb => ⟨h.1.below hb, h.2.1.thru hb, hb.blk h.2.2 (blk_lt h.2.2)⟩) hstab fun ac xs W Dn he hni hG hS K hK => ?_
     have e0 : ac.eval (.tmp 4) = .pointer (some ⟨g4, 0, none⟩) := he 4
     refine op_any (.fieldAddr 141 (.tmp 4) 1) rfl (.pointer (some ⟨g4, 1, none⟩)) (fun o' ho' => ?_) (hK _ _ rfl bR nA)
     simp only [execOp, ho', e0]
     go_simp
   ·intro xs W9 Dn hall hG hS hD
    obtain ⟨y1, y2, y3, ey⟩ := Num.shape (hS 4 (by decide))
    have hn : Num .u32 4294967296 W9 (.slice y1 y2 y3) (na * 10 ^ k) := by rw [← ey]; exact hS 4 (by decide)
    have s5 : xs 5 = _ := hS 5 (by decide)
    obtain ⟨b1, b2, b3, d1, d2, d3, r5, n5, n6⟩ := id hG.1
    have f1 := frozen_of_row W9 g4 1 _ _ r5
    have c1 := cell_of_row W9 g4 1 _ _ _ r5
    have HD : Hid (DR (W9.setCell ⟨g4, 1, none⟩ (.slice y1 y2 y3)) _ _ _ _ _ _) := hG.1.putN hn
    have HF := hG.1.far (k := 1) (x := .slice y1 y2 y3) hG.2.1 (by have := HG4.out; omega) hG.2.2 (by have := HG4.out; omega)
    have HF9 : Hid _ := HF
    simp only [layAll, ey, s5, List.setIfInBounds_toArray, List.set_cons_succ, List.set_cons_zero]
    clear hS hD hall hstab S h1 h2 s5 ey hn n5 n6 r5 hG HF
    go_upto_region 10 with fail
    obtain ⟨b1, b2, b3, d1, d2, d3, r5, n5, n6⟩ := id HD.out
    have HN5 : Hid _ := n5
    have HN6 : Hid _ := n6
    have HF := HF9.out
    have r1 := HF.2
    have HBW : Hid _ := HF.1
    generalize W9.setCell _ _ = w9 at *
    have k0 := cell_of_row w9 g4 0 _ _ _ r5
    have k1 := cell_of_row w9 g4 1 _ _ _ r5
    have k2 := cell_of_row w9 g4 2 _ _ _ r5
    have k3 := cell_of_row w9 g4 3 _ _ _ r5
    have k4 := cell_of_row w9 g4 4 _ _ _ r5
    have HR1 : Hid _ := r1
    clear n5 n6 r5 HF
    go_wp2_with (refine wpList_store_row rfl 141 (.tmp 2) (.tmp 48) rfl (w.heap.size + 1) #[.bool a.neg, .slice b1 b2 b3, .slice d1 d2 d3, .int .i64 0, .bool false] rfl rfl _ _ r1 (by kernel_rfl) rfl (by simp [Value.oneCell']) ?_)
    exact doc_end (a := a) (g := w.heap.size + 1) (p := 2) rfl rfl (by omega) HBW.out HR1.out HN5.out HN6.out (.inr (.inr ⟨by have := HFAR.out; omega, by have := HFAR.out; omega, by rw [(qM_one a).1, HKX.out, Int.toNat_natCast, HNA.out], by rw [(qM_one a).2, HKX.out, show (-(k : Int)).toNat = 0 by omega], rfl⟩))
  ·obtain ⟨k, hk⟩ : ∃ k : Nat, a.e = -(k : Int) := ⟨(-a.e).toNat, by omega⟩
   have HKX : Hid (a.e = -(k : Int)) := hk
   have hkb : k ≤ 20000 := by have := HEB.out; omega
   have HT : Hid (∀ W, Calls Tryz.prog 175 #[.int .i64 (k : Nat)] W (NatQ (10 ^ k) W)) := fun W => nten_v k W (by omega)
   have i2 : IntKind.i64.wrap (-a.e) = (k : Int) := by rw [hk, Int.neg_neg]; exact IntWalk.i64_in _ (by omega)
   clear hk hkb
   go_wp2_with fail
   refine (HT.out _).mono ?_
   rintro e w6 ⟨v, rfl, hv, hb6⟩
   obtain ⟨y1, y2, y3, rfl⟩ := hv.shape
   have hdr := HDR.out.below hb6
   obtain ⟨b1, b2, b3, d1, d2, d3, r5, n5, n6⟩ := id hdr
   have f2 := frozen_of_row w6 g4 2 _ _ r5
   have c2 := cell_of_row w6 g4 2 _ _ _ r5
   have HD : Hid (DR (w6.setCell ⟨g4, 2, none⟩ (.slice y1 y2 y3)) _ _ _ _ _ _) := hdr.putD hv
   have HF9 : Hid _ := hdr.far (k := 2) (x := .slice y1 y2 y3) (HF5.out.1.thru hb6) (by have := HG4.out; omega) (hb6.blk HF5.out.2 (blk_lt HF5.out.2)) (by have := HG4.out; omega)
   clear n5 n6 r5 hdr hv hb6 i2
   go_upto_region 10 with fail
   obtain ⟨b1, b2, b3, d1, d2, d3, r5, n5, n6⟩ := id HD.out
   have HN5 : Hid _ := n5
   have HN6 : Hid _ := n6
   have HF := HF9.out
   have r1 := HF.2
   have HBW : Hid _ := HF.1
   generalize w6.setCell _ _ = w9 at *
   have k0 := cell_of_row w9 g4 0 _ _ _ r5
   have k1 := cell_of_row w9 g4 1 _ _ _ r5
   have k2 := cell_of_row w9 g4 2 _ _ _ r5
   have k3 := cell_of_row w9 g4 3 _ _ _ r5
   have k4 := cell_of_row w9 g4 4 _ _ _ r5
   have HR1 : Hid _ := r1
   clear n5 n6 r5 HF
   go_wp2_with (refine wpList_store_row rfl 141 (.tmp 2) (.tmp 48) rfl (w.heap.size + 1) #[.bool a.neg, .slice b1 b2 b3, .slice d1 d2 d3, .int .i64 0, .bool false] rfl rfl _ _ r1 (by kernel_rfl) rfl (by simp [Value.oneCell']) ?_)
   exact doc_end (a := a) (g := w.heap.size + 1) (p := 2) rfl rfl (by omega) HBW.out HR1.out HN5.out HN6.out (.inr (.inr ⟨by have := HFAR.out; omega, by have := HFAR.out; omega, by rw [(qM_one a).1, HKX.out, show (-(k : Int)).toNat = 0 by omega, HNA.out]; exact (Nat.mul_one _).symm, by rw [(qM_one a).2, HKX.out, Int.neg_neg, Int.toNat_natCast]; exact (Nat.one_mul _).symm, rfl⟩))
end Go.Proofs.YtlbokicainimnaaGreatDoor
namespace Go.Proofs.YtlbokicainimnaaGreatDoor
open Go.RowKit
open Go.Lib hiding intOf
theorem rmode_v (m : Int) (w : World) : Calls Tryz.prog 111 #[.int .i64 m] w fun e w' => e = .returned (.bool (decide (1 ≤ m ∧ m ≤ 6))) ∧ Below w.heap.size w w' := by
 by_cases h1 : 1 ≤ m
 ·by_cases h2 : m ≤ 6
  ·have hd : decide (1 ≤ m ∧ m ≤ 6) = true := decide_eq_true ⟨h1, h2⟩
   rw [hd]
   clear hd
   go_enter Tryz.func111, Tryz.ntmps111
   go_wp2
   go_ret
   exact ⟨rfl, Below.refl _ _⟩
  ·have hd : decide (1 ≤ m ∧ m ≤ 6) = false := decide_eq_false (by omega)
   rw [hd]
   clear hd
   go_enter Tryz.func111, Tryz.ntmps111
   go_wp2
   go_ret
   exact ⟨rfl, Below.refl _ _⟩
 ·have hd : decide (1 ≤ m ∧ m ≤ 6) = false := decide_eq_false (by omega)
  rw [hd]
  clear hd
  go_enter Tryz.func111, Tryz.ntmps111
  go_wp2
  go_ret
  exact ⟨rfl, Below.refl _ _⟩
theorem byte_eq3 (c : UInt8) : (((c.toNat : Nat) : Int) == 48) = (c == 48) := by
 rw [Bool.eq_iff_iff]
 simp only [beq_iff_eq]
 constructor
 ·intro h
  exact UInt8.toNat_inj.1 (by have : (48 : UInt8).toNat = 48 := rfl; omega)
 ·intro h; subst h; rfl
theorem take_dig {l : List UInt8} {j : Nat} (h : allDig (l.take j)) (hj : j < l.length) (hc : isDig l[j] = true) : allDig (l.take (j + 1)) := by
 intro c hcc
 rw [List.take_succ_eq_append_getElem hj, List.mem_append, List.mem_singleton] at hcc
 rcases hcc with hcc | hcc
 ·exact h c hcc
 ·rw [hcc]; exact hc
theorem rvalid3_any (ng : Bool) (s : ByteArray) (e : Int) (w : World) (hs : s.size ≤ 9223372036854775807) :
  Calls Tryz.prog 110 #[.agg #[.bool ng, .string s, .int .i64 e]] w fun en w' => en = .returned (.bool (⟨ng, bl s, e⟩ : Dc).okB) ∧ Below w.heap.size w w' := by
 obtain ⟨r, hr⟩ : ∃ r, r = (⟨ng, bl s, e⟩ : Dc).okB := ⟨_, rfl⟩
 rw [← hr]
 have hb0 : Below w.heap.size w (w.alloc (.cells #[.bool ng, .string s, .int .i64 e] 35)) := (Below.refl _ _).alloc (Nat.le_refl _) _
 have q0 := new_blk w (.cells #[.bool ng, .string s, .int .i64 e] 35)
 have HB0 : Hid _ := hb0
 have c0 := cell_of_row _ _ 0 _ _ _ q0
 have c1 := cell_of_row _ _ 1 _ _ _ q0
 have c2 := cell_of_row _ _ 2 _ _ _ q0
 clear hb0 q0
 by_cases h0 : s.size = 0
 ·have hl : bl s = [] := List.eq_nil_of_length_eq_zero (by rw [bl_len]; exact h0)
  rw [hl, okB_nil] at hr
  have he : s = ⟨#[]⟩ := bl_inj hl
  subst he
  have HR : Hid _ := hr
  clear hr hl h0 hs
  by_cases he : e = 0
  ·subst he
   cases ng
   ·go_enter Tryz.func110, Tryz.ntmps110
    go_wp2
    go_ret
    exact ⟨by rw [HR.out]; rfl, HB0.out⟩
   ·go_enter Tryz.func110, Tryz.ntmps110
    go_wp2
    go_ret
    exact ⟨by rw [HR.out]; rfl, HB0.out⟩
  ·have HE : Hid (¬ e = 0) := he
   have he' : (e == 0) = false := by simpa using he
   go_enter Tryz.func110, Tryz.ntmps110
   go_wp2
   go_ret
   exact ⟨by rw [HR.out, decide_eq_false HE.out, Bool.and_false]; rfl, HB0.out⟩
 ·have hl : bl s ≠ [] := fun e => h0 (by rw [← bl_len, e]; rfl)
  have hp : 0 < s.size := by omega
  rw [okB_cons _ _ _ hl, bl_len] at hr
  have hh : (bl s).headD 0 = s[0]'hp := by
   rw [bl_get s 0 hp]; exact head_get _ _
  have hla : (bl s).getLastD 0 = s[s.size - 1]'(by omega) := by
   rw [bl_get s _ (by omega), List.getLastD_eq_getLast?, List.getLast?_eq_getElem?]
   have : (bl s).length - 1 < (bl s).length := by rw [bl_len]; omega
   rw [List.getElem?_eq_getElem this]; rfl
  rw [hh, hla] at hr
  have hw : IntKind.i64.wrap ((s.size : Int) - 1) = ((s.size - 1 : Nat) : Int) := by rw [IntWalk.i64_in _ (by omega)]; omega
  have hq1 : s.size - 1 < s.size := by omega
  obtain ⟨q0, hq0⟩ : ∃ q, q = (s[0]'hp == 48) := ⟨_, rfl⟩
  obtain ⟨q1, hq1e⟩ : ∃ q, q = (s[s.size - 1]'hq1 == 48) := ⟨_, rfl⟩
  obtain ⟨al, hal⟩ : ∃ q, q = (bl s).all isDig := ⟨_, rfl⟩
  rw [← hq0, ← hq1e, ← hal] at hr
  have hi0 : ((((s[0]'hp).toNat : Nat) : Int) == 48) = q0 := by rw [hq0]; exact byte_eq3 _
  have hi1 : ((((s[s.size - 1]'hq1).toNat : Nat) : Int) == 48) = q1 := by rw [hq1e]; exact byte_eq3 _
  have HR : Hid _ := hr
  have HAL : Hid (al = (bl s).all isDig) := hal
  have hz : ((s.size : Int) == 0) = false := by rw [beq_eq_false_iff_ne]; omega
  clear hr hh hla hl hq0 hq1e hal h0
  by_cases k1 : s.size ≤ 8192
  case neg =>
   have k1' : (8192 : Int) < (s.size : Int) := by omega
   have K1 : Hid (¬ s.size ≤ 8192) := k1
   clear k1
   go_enter Tryz.func110, Tryz.ntmps110
   go_wp2
   go_ret
   exact ⟨by rw [HR.out, decide_eq_false K1.out]; rfl, HB0.out⟩
  case pos =>
  have k1' : ¬ (8192 : Int) < (s.size : Int) := by omega
  have K1 : Hid (s.size ≤ 8192) := k1
  by_cases k2 : -20000 ≤ e
  case neg =>
   have k2' : e < -20000 := by omega
   have K2 : Hid (decide (-20000 ≤ e) = false) := decide_eq_false k2
   clear k2
   go_enter Tryz.func110, Tryz.ntmps110
   go_wp2
   go_ret
   exact ⟨by rw [HR.out, K2.out, Bool.false_and, Bool.and_false, Bool.and_false, Bool.and_false, Bool.and_false]; rfl, HB0.out⟩
  case pos =>
  have k2' : ¬ e < -20000 := by omega
  have K2 : Hid (-20000 ≤ e) := k2
  clear k2
  by_cases k3 : e ≤ 20000
  case neg =>
   have k3' : 20000 < e := by omega
   have K3 : Hid (decide (e ≤ 20000) = false) := decide_eq_false k3
   clear k3
   go_enter Tryz.func110, Tryz.ntmps110
   go_wp2
   go_ret
   exact ⟨by rw [HR.out, K3.out, Bool.and_false, Bool.and_false, Bool.and_false, Bool.and_false, Bool.and_false]; rfl, HB0.out⟩
  case pos =>
  have k3' : ¬ 20000 < e := by omega
  have K3 : Hid (e ≤ 20000) := k3
  clear k3
  cases q0
  case true =>
   go_enter Tryz.func110, Tryz.ntmps110
   go_wp2
   go_ret
   exact ⟨by rw [HR.out, Bool.not_true, Bool.false_and, Bool.and_false, Bool.and_false]; rfl, HB0.out⟩
  case false =>
  cases q1
  case true =>
   go_enter Tryz.func110, Tryz.ntmps110
   go_wp2
   go_ret
   exact ⟨by rw [HR.out, Bool.not_true, Bool.false_and, Bool.and_false, Bool.and_false, Bool.and_false]; rfl, HB0.out⟩
  case false =>
  have HRA : Hid (r = al) := by
   show r = al
   rw [HR.out, decide_eq_true K1.out, decide_eq_true K2.out, decide_eq_true K3.out]; simp
  obtain ⟨w1, hw1⟩ : ∃ w1, w1 = w.alloc (.cells #[.bool ng, .string s, .int .i64 e] 35) := ⟨_, rfl⟩
  clear HR
  go_enter Tryz.func110, Tryz.ntmps110
  go_upto_region 7 with fail
  rw [← hw1] at c0 c1 c2 HB0 ⊢
  clear hw1 hi0 hi1 k2' k3' k1' hw
  go_loopw [4] (fun i wr => ∃ j : Nat, j ≤ s.size ∧ i = .int .i64 (j : Nat) ∧ wr = w1 ∧ allDig ((bl s).take j)) (fun i _ => s.size - (intOf i).toNat)
  case atStart => exact ⟨0, Nat.zero_le _, by first | rfl | go_num, rfl, fun c hc => by simp at hc⟩
  case round =>
   obtain ⟨j, hj, rfl, rfl, hd⟩ := hrel
   have HD : Hid (allDig ((bl s).take j)) := hd
   clear hd
   by_cases hjs : j < s.size
   ·have hjl : j < (bl s).length := by rw [bl_len]; exact hjs
    obtain ⟨x, hx⟩ : ∃ x, x = s[j]'hjs := ⟨_, rfl⟩
    have HXB : Hid (x = (bl s)[j]'hjl) := by show _ = _; rw [hx, bl_get]
    obtain ⟨n, hn⟩ : ∃ n, n = x.toNat := ⟨_, rfl⟩
    have hidx : (s[j]'hjs).toNat = n := by rw [hn, hx]
    have HNX : Hid (n = x.toNat) := hn
    have hii := isDig_iff x
    rw [← hn] at hii
    have HBAD : Hid (isDig x = false → r = false) := fun hb => by
     rw [HRA.out, HAL.out, List.all_eq_false]
     exact ⟨x, by rw [HXB.out]; exact List.getElem_mem _, by rw [hb]; decide⟩
    have HLT : Hid (j < (bl s).length) := hjl
    clear hx hn
    by_cases g1 : n < 48
    ·have g1' : (n : Int) < 48 := by omega
     have HF : Hid (isDig x = false) := by
      show _ = _
      cases hdd : isDig x
      ·rfl
      ·exact absurd (hii.1 hdd).1 (by omega)
     clear hii
     go_wp2
     go_ret
     exact ⟨by rw [HBAD.out HF.out]; rfl, HB0.out⟩
    ·have g1' : ¬ (n : Int) < 48 := by omega
     by_cases g2 : 57 < n
     ·have g2' : (57 : Int) < (n : Int) := by omega
      have HF : Hid (isDig x = false) := by
       show _ = _
       cases hdd : isDig x
       ·rfl
       ·exact absurd (hii.1 hdd).2 (by omega)
      clear hii
      go_wp2
      go_ret
      exact ⟨by rw [HBAD.out HF.out]; rfl, HB0.out⟩
     ·have g2' : ¬ (57 : Int) < (n : Int) := by omega
      have HT : Hid (isDig x = true) := hii.2 ⟨by omega, by omega⟩
      clear hii
      go_wp2
      go_roundw
      case rel =>
       have hk := take_dig HD.out HLT.out (by rw [← HXB.out]; exact HT.out)
       first
        | exact ⟨j + 1, by omega, by go_num, rfl, hk⟩
        | exact ⟨j + 1, by omega, by go_num, trivial, hk⟩
      case measure => simp [intOf]; omega
   ·have hjs' : j = s.size := by omega
    subst hjs'
    have HT : Hid (r = true) := by
     show _ = _
     rw [HRA.out, HAL.out, List.all_eq_true]
     have := HD.out
     rw [List.take_of_length_le (by rw [bl_len]; omega)] at this
     exact this
    go_wp2
    go_ret
    exact ⟨by rw [HT.out]; rfl, HB0.out⟩
theorem rvalid3_v (d : Dc) (w : World) (hs : d.s.length ≤ 9223372036854775807) : Calls Tryz.prog 110 #[dcV d] w fun en w' => en = .returned (.bool d.okB) ∧ Below w.heap.size w w' := by
 have := rvalid3_any d.neg (bs d.s) d.e w hs
 rwa [bl_bs] at this
end Go.Proofs.YtlbokicainimnaaGreatDoor
namespace Go.Proofs.YtlbokicainimnaaGreatDoor
open Go.RowKit
def RefQ (k : IntKind) (r : RA) (w : World) (e : Ending) (w' : World) : Prop := e = .returned (.tuple #[.int k (r.bits : Nat), .agg #[.bool r.ine, .bool r.ov, .bool r.un], .int .i64 r.err]) ∧ Below w.heap.size w w'
theorem ref_end {fn : Func} {p u q : Tmp} (hf : fn.results = #[.tmp p, .cell u 76, .tmp q]) {tmps : Array Value} {w0 w : World} {g0 : Nat} {x y : Int} {k : IntKind} {a b c : Bool} {r : RA}
  (hp : tmps.getD p undef = .int k x) (hq : tmps.getD q undef = .int .i64 y) (hu : tmps.getD u undef = .pointer (some ⟨g0, 0, none⟩))
  (hg : w.heap[g0]? = some (.cells #[.bool a, .bool b, .bool c] 76 (0, 0))) (hb : Below w0.heap.size w0 w) (hr : x = (r.bits : Nat) ∧ a = r.ine ∧ b = r.ov ∧ c = r.un ∧ y = r.err) : bodyPost Tryz.prog fn (RefQ k r w0) .ret ⟨tmps, []⟩ w := by
 obtain ⟨rfl, rfl, rfl, rfl, rfl⟩ := hr
 have hu' : tmps[u]?.getD undef = .pointer (some ⟨g0, 0, none⟩) := by simpa using hu
 refine bodyPost_ret (v := .tuple #[tmps.getD p undef, .agg #[.bool r.ine, .bool r.ov, .bool r.un], tmps.getD q undef]) ?_ rfl ⟨?_, hb⟩
 ·rw [results_tct hf]
  simp [hu', asAddr, run_loadVar_row (P := Tryz.prog) w g0 _ 76 #[.bool r.ine, .bool r.ov, .bool r.un] (0, 0) _ hg Tryz.underlying76 rfl (by kernel_rfl), Result.andThen]
 ·show _ = Ending.returned (.tuple #[_, _, _])
  rw [hp, hq]
theorem doc53 {a : Dc} (ha : a.ok) (h0 : a.s ≠ []) {mode : Int} (hm : 1 ≤ mode ∧ mode ≤ 6) {v : Value} {M D : Nat} {E : Int} {w : World} (hv : Val w v a.neg M D E) (hd : DV a oneD M D E) :
  Calls Tryz.prog 113 #[v, .agg #[.int .i64 53, .int .i64 (-1074), .int .i64 1023], .int .i64 mode] w (FlQ a.neg (outG 53 (-1074) 971 a.neg mode (quoG a oneD)) w) := by
 obtain ⟨bb, h2, h3, h4, h5⟩ := hd.bd ha oneD_ok
 obtain ⟨p1, p2, p3, p4⟩ := hd.pos ha oneD_ok h0 oneD_s
 have hs : outG 53 (-1074) 971 a.neg mode (ratMag M D E) = outG 53 (-1074) 971 a.neg mode (quoG a oneD) := doc_same (c := 53) (T := 971) (l := 1074) (by decide) (by decide) (by decide) ha oneD_ok h0 oneD_s hd
 rw [← hs]
 exact to53_rat mode hm a.neg v M D E w hv h4 h5 (by omega) (by omega) (by omega) p1 p2
set_option maxHeartbeats 4000000 in
theorem rto64_v (a : Dc) (m : Int) (w : World) (hsa : a.s.length ≤ 9223372036854775807) : Calls Tryz.prog 52 #[.agg #[.bool a.neg, .string (bs a.s), .int .i64 a.e], .int .i64 m] w (RefQ .u64 (to64A a m) w) := by
 obtain ⟨R, hR⟩ : ∃ R, R = to64A a m := ⟨_, rfl⟩
 rw [← hR]
 have HR : Hid (R = to64A a m) := hR
 obtain ⟨w2, hw2⟩ : ∃ W, W = ((w.alloc (.cells #[.bool a.neg, .string (bs a.s), .int .i64 a.e] 35)).alloc (.cells #[.bool false, .bool false, .bool false] 76)) := ⟨_, rfl⟩
 have hba : Below w.heap.size w w2 := by rw [hw2]; exact ((Below.refl _ _).alloc (Nat.le_refl _) _).alloc (by simp) _
 have hsz : w2.heap.size = w.heap.size + 2 := by rw [hw2]; simp
 have q0 : w2.heap[w.heap.size]? = some (.cells #[.bool a.neg, .string (bs a.s), .int .i64 a.e] 35 (0, 0)) := by rw [hw2]; exact heap_alloc2_old w _ _
 have q1 : w2.heap[w.heap.size + 1]? = some (.cells #[.bool false, .bool false, .bool false] 76 (0, 0)) := by rw [hw2]; exact heap_alloc2_new w _ _
 have HX : Hid (∀ W, Below w2.heap.size w2 W → W.heap[w.heap.size]? = some (.cells #[.bool a.neg, .string (bs a.s), .int .i64 a.e] 35 (0, 0)) ∧ W.heap[w.heap.size + 1]? = some (.cells #[.bool false, .bool false, .bool false] 76 (0, 0)) ∧ Below w.heap.size w W) := fun W hW =>
  ⟨hW.blk q0 (by omega), hW.blk q1 (by omega), hba.trans (hW.mono hba.size)⟩
 have HSZ : Hid (w2.heap.size = w.heap.size + 2) := hsz
 obtain ⟨f, hf⟩ : ∃ f, f = a.okB := ⟨_, rfl⟩
 obtain ⟨g, hg⟩ : ∃ g, g = decide (1 ≤ m ∧ m ≤ 6) := ⟨_, rfl⟩
 have HV : Hid (∀ W, Calls Tryz.prog 110 #[.agg #[.bool a.neg, .string (bs a.s), .int .i64 a.e]] W fun e w' => e = .returned (.bool f) ∧ Below W.heap.size W w') := fun W => by rw [hf]; exact rvalid3_v a W hsa
 have HMD : Hid (∀ W, Calls Tryz.prog 111 #[.int .i64 m] W fun e w' => e = .returned (.bool g) ∧ Below W.heap.size W w') := fun W => by rw [hg]; exact rmode_v m W
 have HF : Hid (f = a.okB ∧ g = decide (1 ≤ m ∧ m ≤ 6)) := ⟨hf, hg⟩
 have ka := cell_of_row w2 w.heap.size 0 _ _ _ q0
 have kb := cell_of_row w2 w.heap.size 1 _ _ _ q0
 have kc := cell_of_row w2 w.heap.size 2 _ _ _ q0
 clear hba hsz q0 q1 hf hg hsa hR
 go_enter Tryz.func52, Tryz.ntmps52
 go_upto_region 1 with fail
 rw [← hw2]
 clear hw2
 go_wp2_with fail
 refine (HV.out _).mono ?_
 rintro e w3 ⟨rfl, hb3⟩
 have HB3 : Hid (Below w2.heap.size w2 w3) := hb3
 clear hb3 ka kb kc
 cases f
 ·skip
  obtain ⟨f0, c0, f1, c1, f2, c2, r3⟩ := rw3 (HX.out w3 HB3.out).2.1
  have HR3 : Hid _ := r3
  have HBW : Hid (Below w.heap.size w w3) := (HX.out _ HB3.out).2.2
  have HRN : Hid (R = RA.no 1) := by
   show _ = _
   rw [HR.out]; unfold to64A ratioA; rw [if_pos (fun h => by have := HF.out.1; rw [(okB_iff a).2 h.1] at this; cases this)]
  clear r3
  go_wp2
  exact ref_end (p := 4) (u := 5) (q := 6) rfl rfl rfl rfl (HR3.out _ _ _) (below_row3 HBW.out (by omega) _ _ _) (by rw [HRN.out]; exact ⟨rfl, rfl, rfl, rfl, rfl⟩)
 go_wp2_with fail
 refine (HMD.out _).mono ?_
 rintro e w4 ⟨rfl, hb4⟩
 have HB4 : Hid (Below w2.heap.size w2 w4) := HB3.out.thru hb4
 clear hb4 HB3
 cases g
 ·skip
  obtain ⟨f0, c0, f1, c1, f2, c2, r3⟩ := rw3 (HX.out w4 HB4.out).2.1
  have HR3 : Hid _ := r3
  have HBW : Hid (Below w.heap.size w w4) := (HX.out _ HB4.out).2.2
  have HRN : Hid (R = RA.no 1) := by
   show _ = _
   rw [HR.out]; unfold to64A ratioA; rw [if_pos (fun h => by have := HF.out.2; rw [decide_eq_true (h.2.2)] at this; cases this)]
  clear r3
  go_wp2
  exact ref_end (p := 4) (u := 5) (q := 6) rfl rfl rfl rfl (HR3.out _ _ _) (below_row3 HBW.out (by omega) _ _ _) (by rw [HRN.out]; exact ⟨rfl, rfl, rfl, rfl, rfl⟩)
 have HOA : Hid a.ok := (okB_iff a).1 HF.out.1.symm
 have HM6 : Hid (1 ≤ m ∧ m ≤ 6) := (of_decide_eq_true HF.out.2.symm : 1 ≤ m ∧ m ≤ 6)
 have kb := cell_of_row w4 w.heap.size 1 _ _ _ (HX.out w4 HB4.out).1
 by_cases ha0 : a.s = []
 ·have he := emp_slice ha0
  have HA00 : Hid (a.s = []) := ha0
  clear ha0
  obtain ⟨f0, c0, f1, c1, f2, c2, r3⟩ := rw3 (HX.out w4 HB4.out).2.1
  have HR3 : Hid _ := r3
  have HBW : Hid (Below w.heap.size w w4) := (HX.out _ HB4.out).2.2
  have HRN : Hid (R = RA.no 0) := by
   show _ = _
   rw [HR.out]; unfold to64A ratioA; rw [if_neg (fun h => h ⟨HOA.out, oneD_ok, HM6.out⟩), if_neg oneD_s, if_pos HA00.out]
  clear r3
  go_wp2
  exact ref_end (p := 4) (u := 5) (q := 6) rfl rfl rfl rfl (HR3.out _ _ _) (below_row3 HBW.out (by omega) _ _ _) (by rw [HRN.out]; exact ⟨rfl, rfl, rfl, rfl, rfl⟩)
 have he := emp_not ha0
 have HA0 : Hid (a.s ≠ []) := ha0
 obtain ⟨o, ho⟩ : ∃ o, o = outG 53 (-1074) 971 a.neg m (quoG a oneD) := ⟨_, rfl⟩
 have HO : Hid (o = outG 53 (-1074) 971 a.neg m (quoG a oneD)) := ho
 have HRM : Hid (R = ⟨bits64 a.neg o, o.ine, o.ov, o.un, 0⟩) := by
  show _ = _
  rw [HR.out]; unfold to64A ratioA
  rw [if_neg (fun h => h ⟨HOA.out, oneD_ok, HM6.out⟩), if_neg oneD_s, if_neg ha0, neg_one, ← ho]
 have ka := cell_of_row w4 w.heap.size 0 _ _ _ (HX.out w4 HB4.out).1
 have kc := cell_of_row w4 w.heap.size 2 _ _ _ (HX.out w4 HB4.out).1
 clear ha0 ho
 go_wp2_with fail
 refine (of10_v a HOA.out _).mono ?_
 rintro e w5 ⟨v, M, D, E, rfl, hv, hd, hb5⟩
 have HTO : Hid (∀ W, Below w5.heap.size w5 W → Calls Tryz.prog 113 #[v, .agg #[.int .i64 53, .int .i64 (-1074), .int .i64 1023], .int .i64 m] W (FlQ a.neg o W)) := fun W hW => by
  rw [HO.out]
  refine doc53 HOA.out HA0.out HM6.out ?_ hd
  obtain ⟨s, t, rfl, n1, n2⟩ := hv
  exact ⟨s, t, rfl, n1.below (Nat.le_refl _) hW, n2.below (Nat.le_refl _) hW⟩
 have HB5 : Hid (Below w2.heap.size w2 w5) := HB4.out.thru hb5
 clear ka kb kc hb5 hv hd HB4
 go_wp2_with fail
 refine (sixty_any _).mono ?_
 rintro e w6 ⟨rfl, hb6⟩
 have HB6 : Hid (Below w5.heap.size w5 w6) := hb6
 clear hb6
 go_wp2_with fail
 refine (HTO.out _ HB6.out).mono ?_
 rintro e w7 ⟨rfl, hb7⟩
 have HB7 : Hid (Below w2.heap.size w2 w7) := (HB5.out.thru HB6.out).thru hb7
 clear hb7 HTO HB6 HB5
 go_upto_region 7 with fail
 obtain ⟨w8, hw8⟩ : ∃ W, W = (w7.alloc (.cells #[.bool a.neg, .bool o.inf, .int .u64 (o.m : Nat), .int .i64 o.e] 137)).alloc (.cells #[.bool o.ine, .bool o.ov, .bool o.un] 76) := ⟨_, rfl⟩
 have HB8 : Hid (Below w2.heap.size w2 w8) := by show Below _ _ _; rw [hw8]; exact (HB7.out.alloc HB7.out.size _).alloc (by have := HB7.out.size; simp; omega) _
 have HR0 : Hid (∀ W, Below w8.heap.size w8 W → W.heap[w7.heap.size]? = some (.cells #[.bool a.neg, .bool o.inf, .int .u64 (o.m : Nat), .int .i64 o.e] 137 (0, 0)) ∧ W.heap[w7.heap.size + 1]? = some (.cells #[.bool o.ine, .bool o.ov, .bool o.un] 76 (0, 0))) := fun W hW => by
  have q0 : w8.heap[w7.heap.size]? = some (.cells #[.bool a.neg, .bool o.inf, .int .u64 (o.m : Nat), .int .i64 o.e] 137 (0, 0)) := by rw [hw8]; exact heap_alloc2_old w7 _ _
  have q1 : w8.heap[w7.heap.size + 1]? = some (.cells #[.bool o.ine, .bool o.ov, .bool o.un] 76 (0, 0)) := by rw [hw8]; exact heap_alloc2_new w7 _ _
  exact ⟨hW.blk q0 (blk_lt q0), hW.blk q1 (blk_lt q1)⟩
 obtain ⟨BB, hBB⟩ : ∃ x, x = bits64 a.neg o := ⟨_, rfl⟩
 have HBT : Hid (∀ W, Calls Tryz.prog 116 #[.agg #[.bool a.neg, .bool o.inf, .int .u64 (o.m : Nat), .int .i64 o.e]] W fun e w' => e = .returned (.int .u64 (BB : Nat)) ∧ Below W.heap.size W w') := fun W => by
  rw [hBB, HO.out]; exact bits64_out a.neg m (quoG a oneD) (quoG_ok oneD_ok oneD_s) W
 have HRB : Hid (R = ⟨BB, o.ine, o.ov, o.un, 0⟩) := by show _ = _; rw [HRM.out, hBB]
 rw [← hw8]
 clear hw8 hBB HB7 he
 have h1 : once [(32, 0), (33, 1), (34, 2), (4, 3)] = true := by kernel_rfl
 have h2 : within [(32, 0), (33, 1), (34, 2), (4, 3)] 35 = true := by kernel_rfl
 refine wp_region_flow 4 6 [(32, 0), (33, 1), (34, 2), (4, 3)] [] (fun i v W => match i with
  | 0 => v = .agg #[.bool a.neg, .bool o.inf, .int .u64 (o.m : Nat), .int .i64 o.e]
  | 1 => v = .int .u64 (BB : Nat)
  | 2 => v = .agg #[.bool o.ine, .bool o.ov, .bool o.un]
  | _ => v = .int .u64 (BB : Nat)) w8.heap.size (Nat.le_refl _) (by kernel_rfl) (by kernel_rfl) (by kernel_rfl) (by decide) (by kernel_rfl) h1 (by kernel_rfl) ?_ ?_ ?_ ?_
 ·intro j v W W' h hb
  match j, h with
  | 0, h => exact h
  | 1, h => exact h
  | 2, h => exact h
  | _ + 3, h => exact h
 ·exact fun j hj => by cases hj
 ·refine ⟨⟨⟨⟨trivial, ?_⟩, ?_⟩, ?_⟩, ?_⟩
  ·refine flow_step _ 32 rfl rfl (fun d h => by simpa using h) h1 h2 fun ac xs W he hb hS K hK => ?_
   exact wp_load_row 137 (.tmp 8) rfl w7.heap.size (he 8) _ _ _ _ ((HR0.out W hb).1) Tryz.underlying137 rfl (by kernel_rfl) (hK _ _ rfl bR nA)
  ·refine flow_step _ 33 rfl rfl (fun d h => by simpa using h) h1 h2 fun ac xs W he hb hS K hK => ?_
   have e0 := (he 32).trans (hS 0 (by kernel_rfl))
   refine op_call 116 _ _ rfl _ (by simp only [List.map, e0]) (by go_simp) (HBT.out W) ?_
   rintro e' W' ⟨rfl, hb'⟩
   exact ⟨_, rfl, hK _ _ (rfl) hb' nA⟩
  ·refine flow_step _ 34 rfl rfl (fun d h => by simpa using h) h1 h2 fun ac xs W he hb hS K hK => ?_
   exact wp_load_row 76 (.tmp 9) rfl (w7.heap.size + 1) (he 9) _ _ _ _ ((HR0.out W hb).2) Tryz.underlying76 rfl (by kernel_rfl) (hK _ _ rfl bR nA)
  ·refine flow_step _ 4 rfl rfl (fun d h => by simpa using h) h1 h2 fun ac xs W he hb hS K hK => ?_
   exact op_move (.tmp 33) (.inr rfl) (hK _ _ ((he 33).trans (hS 1 (by kernel_rfl))) bR nA)
 ·intro xs WL hb hS hD
  have s0 : xs 0 = _ := hS 0 (by decide)
  have s1 : xs 1 = _ := hS 1 (by decide)
  have s2 : xs 2 = _ := hS 2 (by decide)
  have s3 : xs 3 = _ := hS 3 (by decide)
  have HBL : Hid (Below w2.heap.size w2 WL) := HB8.out.thru hb
  obtain ⟨f0, c0, f1, c1, f2, c2, r3⟩ := rw3 (HX.out _ HBL.out).2.1
  have HR3 : Hid _ := r3
  have HBW : Hid (Below w.heap.size w WL) := (HX.out _ HBL.out).2.2
  simp only [layAll, s0, s1, s2, s3, List.setIfInBounds_toArray, List.set_cons_succ, List.set_cons_zero]
  clear hS hD hb r3 s0 s1 s2 s3 h1 h2
  go_wp2
  exact ref_end (p := 4) (u := 5) (q := 6) rfl rfl rfl rfl (HR3.out _ _ _) (below_row3 HBW.out (by omega) _ _ _) (by rw [HRB.out]; exact ⟨rfl, rfl, rfl, rfl, rfl⟩)
end Go.Proofs.YtlbokicainimnaaGreatDoor
