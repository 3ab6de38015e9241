import Derived.Test.YtlbokicainimnaaGreatDoorQWL
import Derived.Test.YtlbokicainimnaaGreatDoorQMN
set_option maxRecDepth 100000
namespace Go.Proofs.YtlbokicainimnaaGreatDoor
open Go.RowKit
set_option maxHeartbeats 8000000 in
theorem to_near_any (neg : Bool) (v : Value) (M D : Nat) (E : Int) (w : World) (h : Val w v neg M D E) {bb : Nat} (hM : M < 2 ^ bb) (hD : D < 2 ^ bb) (hbb : bb ≤ 200000) (hE1 : -200000 ≤ E) (hE2 : E ≤ 200000) (hM0 : 0 < M) (hD0 : 0 < D) {R : Nat} (hN : Near 52 (M * 2^(E + LP).toNat) (D * 2^(-(E + LP)).toNat) R) (hfar : (blen M : Int) - blen D + E - 56 ≤ 1031) :
  Calls Tryz.prog 113 #[v,.agg #[.int .i64 53,.int .i64 (-1074),.int .i64 1023],.int .i64 1] w (ToPost neg R w):=by
 have HNN : Hid (Near 52 (M * 2^(E + LP).toNat) (D * 2^(-(E + LP)).toNat) R):=hN
 clear hN
 obtain ⟨s,t,rfl,hs,ht⟩:=h
 obtain ⟨a,m,c,rfl⟩:=hs.shape
 obtain ⟨a',m',c',rfl⟩:=ht.shape
 have HV : Hid (Val w (.agg #[.bool neg,.slice a m c,.slice a' m' c',.int .i64 E,.bool false]) neg M D E):=⟨_,_,rfl,hs,ht⟩
 have h1 : blen M ≤ 200000:=Nat.le_trans (blen_le hM) hbb
 have h2 : blen D ≤ 200000:=Nat.le_trans (blen_le hD) hbb
 have hM1 : 1 ≤ blen M:=(blen_pos (by omega)).2.2
 have hD1 : 1 ≤ blen D:=(blen_pos (by omega)).2.2
 have HSZ : Hid (∀ W,Below w.heap.size w W → Calls Tryz.prog 172 #[.agg #[.bool neg,.slice a m c,.slice a' m' c',.int .i64 E,.bool false]] W fun e w'=>e = .returned (.int .i64 ((blen M : Int) - blen D + E)) ∧ Below W.heap.size W w'):=
  fun W hW=>size_any neg _ M D E W ⟨_,_,rfl,hs.below (Nat.le_refl _) hW,ht.below (Nat.le_refl _) hW⟩ hM hD (by omega) (by omega) (by omega)
 obtain ⟨sz,hsz⟩ : ∃ sz,sz = (blen M : Int) - blen D + E:=⟨_,rfl⟩
 rw [← hsz] at HSZ hfar
 have hszb : -400000 ≤ sz ∧ sz ≤ 400000:=by omega
 have HSE : Hid (sz = (blen M : Int) - blen D + E):=hsz
 clear hsz hs ht h1 h2 hM1 hD1
 go_enter Tryz.func113,Tryz.ntmps113
 go_upto_region 1 with fail
 have hb0:=below4 w (.cells #[.bool neg,.slice a m c,.slice a' m' c',.int .i64 E,.bool false] 141) (.cells #[.int .i64 53,.int .i64 (-1074),.int .i64 1023] 144) (.cells #[.bool false,.bool false,.int .u64 0,.int .i64 0] 137) (.cells #[.bool false,.bool false,.bool false] 76)
 have q0:=heap_alloc4_0 w (.cells #[.bool neg,.slice a m c,.slice a' m' c',.int .i64 E,.bool false] 141) (.cells #[.int .i64 53,.int .i64 (-1074),.int .i64 1023] 144) (.cells #[.bool false,.bool false,.int .u64 0,.int .i64 0] 137) (.cells #[.bool false,.bool false,.bool false] 76)
 have q1:=heap_alloc4_1 w (.cells #[.bool neg,.slice a m c,.slice a' m' c',.int .i64 E,.bool false] 141) (.cells #[.int .i64 53,.int .i64 (-1074),.int .i64 1023] 144) (.cells #[.bool false,.bool false,.int .u64 0,.int .i64 0] 137) (.cells #[.bool false,.bool false,.bool false] 76)
 have q2:=heap_alloc4_2 w (.cells #[.bool neg,.slice a m c,.slice a' m' c',.int .i64 E,.bool false] 141) (.cells #[.int .i64 53,.int .i64 (-1074),.int .i64 1023] 144) (.cells #[.bool false,.bool false,.int .u64 0,.int .i64 0] 137) (.cells #[.bool false,.bool false,.bool false] 76)
 have q3:=heap_alloc4_3 w (.cells #[.bool neg,.slice a m c,.slice a' m' c',.int .i64 E,.bool false] 141) (.cells #[.int .i64 53,.int .i64 (-1074),.int .i64 1023] 144) (.cells #[.bool false,.bool false,.int .u64 0,.int .i64 0] 137) (.cells #[.bool false,.bool false,.bool false] 76)
 have hs4 : ((((w.alloc (.cells #[.bool neg,.slice a m c,.slice a' m' c',.int .i64 E,.bool false] 141)).alloc (.cells #[.int .i64 53,.int .i64 (-1074),.int .i64 1023] 144)).alloc (.cells #[.bool false,.bool false,.int .u64 0,.int .i64 0] 137)).alloc (.cells #[.bool false,.bool false,.bool false] 76)).heap.size = w.heap.size + 4:=by simp
 generalize ((((w.alloc (.cells #[.bool neg,.slice a m c,.slice a' m' c',.int .i64 E,.bool false] 141)).alloc (.cells #[.int .i64 53,.int .i64 (-1074),.int .i64 1023] 144)).alloc (.cells #[.bool false,.bool false,.int .u64 0,.int .i64 0] 137)).alloc (.cells #[.bool false,.bool false,.bool false] 76)) = w4 at *
 have HC : Hid (∀ W, Below w4.heap.size w4 W → (W.cell? ⟨w.heap.size, 0, none⟩ = some (.bool neg) ∧ W.cell? ⟨w.heap.size, 1, none⟩ = some (.slice a m c) ∧ W.cell? ⟨w.heap.size, 2, none⟩ = some (.slice a' m' c') ∧ W.cell? ⟨w.heap.size, 3, none⟩ = some (.int .i64 E) ∧ W.cell? ⟨w.heap.size, 4, none⟩ = some (.bool false)) ∧
   (W.cell? ⟨w.heap.size + 1,0,none⟩ = some (.int .i64 53) ∧ W.cell? ⟨w.heap.size + 1,1,none⟩ = some (.int .i64 (-1074)) ∧ W.cell? ⟨w.heap.size + 1,2,none⟩ = some (.int .i64 1023))):=
  fun W hW=>⟨row5 (hW.blk q0 (by omega)),row3 (hW.blk q1 (by omega))⟩
 have HB0 : Hid (Below w.heap.size w w4):=hb0
 have hbs : Below w4.heap.size w4 w4:=Below.refl _ _
 have HQ2 : Hid _:=q2
 have HQ3 : Hid _:=q3
 have HS4 : Hid (w4.heap.size = w.heap.size + 4):=hs4
 clear hb0 q0 q1 q2 q3 hs4
 have HSZ2 : Hid (∀ W,Below w4.heap.size w4 W → Calls Tryz.prog 172 #[.agg #[.bool neg,.slice a m c,.slice a' m' c',.int .i64 E,.bool false]] W fun e w'=>e = .returned (.int .i64 sz) ∧ Below W.heap.size W w'):=
  fun W hW=>HSZ.out W (HB0.out.trans (hW.mono (by have:=HS4.out; omega)))
 obtain ⟨e0,he0⟩ : ∃ e0,max (-1074) (sz - 56) = e0:=⟨_,rfl⟩
 have i1 : IntKind.i64.wrap (sz - 53) = sz - 53:=IntWalk.i64_in _ (by omega)
 have i2 : IntKind.i64.wrap (sz - 53 - 3) = sz - 56:=by clear i1; rw [show sz - 53 - 3 = sz - 56 by omega]; exact IntWalk.i64_in _ (by omega)
 go_cut [8] (fun e wx=>e = .int .i64 e0 ∧ Below w4.heap.size w4 wx)
 case first=>as_aux_lemma=>
  go_region_held3 (fun W=>Below w4.heap.size w4 W ∧ (W.cell? ⟨w.heap.size,0,none⟩ = some (.bool neg) ∧ W.cell? ⟨w.heap.size,1,none⟩ = some (.slice a m c) ∧ W.cell? ⟨w.heap.size,2,none⟩ = some (.slice a' m' c') ∧ W.cell? ⟨w.heap.size,3,none⟩ = some (.int .i64 E) ∧ W.cell? ⟨w.heap.size,4,none⟩ = some (.bool false)) ∧
   (W.cell? ⟨w.heap.size + 1,0,none⟩ = some (.int .i64 53) ∧ W.cell? ⟨w.heap.size + 1,1,none⟩ = some (.int .i64 (-1074)) ∧ W.cell? ⟨w.heap.size + 1,2,none⟩ = some (.int .i64 1023)))
   (first | exact ⟨‹Below w4.heap.size w4 _›,HC.out _ ‹Below w4.heap.size w4 _›⟩ | exact ⟨(‹Below w4.heap.size w4 _›).drew,HC.out _ (‹Below w4.heap.size w4 _›).drew⟩)
   (first | (go_at_call 172; refine (HSZ2.out _ (by first | assumption | exact Below.drew (by assumption))).mono ?_; rintro e w' ⟨rfl,hb⟩; have hB2 : Below w4.heap.size w4 w':=Below.thru (by first | assumption | exact Below.drew (by assumption)) hb))
  all_goals go_wp2
  all_goals go_meet
  exact ⟨rfl,by assumption⟩
 case rest=>
 obtain ⟨rfl,hbc⟩:=hcut
 clear i1 i2 hbs
 have HBC : Hid (Below w4.heap.size w4 wc):=hbc
 obtain ⟨⟨x0,x1,x2,x3,x4⟩,y0,y1,y2⟩:=HC.out _ hbc
 have HE0 : Hid (max (-1074) (sz - 56) = e0):=he0
 have he0b : -1074 ≤ e0 ∧ e0 ≤ 400000:=by omega
 clear he0 hbc
 ·have hfI : ¬ (1031 : Int) < e0:=by have:=HE0.out; omega
  have hfar : e0 ≤ 1031:=by omega
  have HQ0 : Hid (toQ M D E e0 < 144115188075855872):=toQ_start hD0 HSE.out (by have:=HE0.out; omega)
  have HBES : Hid (∀ W e,Below w4.heap.size w4 W → -1074 ≤ e → e ≤ 2000 → toQ M D E e < 18446744073709551616 → Calls Tryz.prog 173 #[.agg #[.bool neg,.slice a m c,.slice a' m' c',.int .i64 E,.bool false],.int .i64 e] W (BesQ (toN M E e) (toD D E e) W)):=by
   intro W e hW h1 h2 h3
   obtain ⟨s,t,hv,hs,ht⟩:=HV.out
   cases hv
   have hW0 : Below w.heap.size w W:=HB0.out.trans (hW.mono (by have:=HS4.out; omega))
   exact beside_any neg _ M D E e W ⟨_,_,rfl,hs.below (Nat.le_refl _) hW0,ht.below (Nat.le_refl _) hW0⟩ hM hD (by omega) hD0 (by omega) (by omega) (by omega) (by omega) h3
  have HMM : Hid (M < 2 ^ bb ∧ D < 2 ^ bb):=⟨hM,hD⟩
  clear hM hD hbb
  go_wp2_with fail
  refine (HBES.out _ e0 HBC.out he0b.1 (by omega) (by have:=HQ0.out; omega)).mono ?_
  rintro ee w5 ⟨rfl,hb5⟩
  obtain ⟨q0,hq0⟩ : ∃ q,q = toQ M D E e0:=⟨_,rfl⟩
  obtain ⟨h0,hh0⟩ : ∃ h,h = ncmp (toN M E e0 % toD D E e0 * 2) (toD D E e0):=⟨_,rfl⟩
  obtain ⟨b0,hbb0⟩ : ∃ b,b = decide (toN M E e0 % toD D E e0 = 0):=⟨_,rfl⟩
  rw [show toN M E e0 / toD D E e0 = toQ M D E e0 from rfl,← hq0,← hh0,← hbb0]
  have HR0 : Hid (ToR M D E e0 q0 h0 b0):=⟨hq0,hh0,hbb0⟩
  have HI0 : Hid (ToI M D E e0 e0 q0):=⟨⟨0,by simp,by omega,by rw [hq0]; simpa using HQ0.out⟩,.inl rfl⟩
  have HB5 : Hid (Below w4.heap.size w4 w5):=HBC.out.trans (hb5.mono HBC.out.size)
  clear hq0 hh0 hbb0 hb5 x0 x1 x2 x3 x4 y0 y1 y2 HBC
  go_wp2
  go_loopw [8,9,10,11] (fun ev qv hv bv wr=>∃ (e : Int) (q : Nat) (h : Int) (b : Bool),ev = .int .i64 e ∧ qv = .int .u64 (q : Nat) ∧ hv = .int .i64 h ∧ bv = .bool b ∧ -1074 ≤ e ∧ e ≤ 1040 ∧ q < 144115188075855872 ∧ Hid (ToR M D E e q h b) ∧ Hid (ToI M D E e0 e q) ∧ Below w4.heap.size w4 wr) (fun _ qv _ _ _=>(intOf qv).toNat)
  case atStart=>
   exact ⟨e0,q0,h0,b0,rfl,rfl,rfl,rfl,he0b.1,by omega,by have:=HQ0.out; have:=HR0.out.1; omega,HR0,HI0,HB5.out⟩
  case round=>
   obtain ⟨e,q,h,b,rfl,rfl,rfl,rfl,he1,he2,hqb,hR,hI,hbr⟩:=hrel
   clear HR0 HI0 HB5
   have HBR : Hid (Below w4.heap.size w4 wr):=hbr
   obtain ⟨⟨x0,x1,x2,x3,x4⟩,y0,y1,y2⟩:=HC.out _ hbr
   clear hbr
   by_cases hlt : 9007199254740992 ≤ q
   ·have hltI : (9007199254740992 : Int) ≤ q:=by omega
    obtain ⟨n1,n2,n3⟩:=toI_next hI.out hR.out.1 hlt
    have HN1 : Hid (ToI M D E e0 (e + 1) (toQ M D E (e + 1))):=n1
    have HN2 : Hid (toQ M D E (e + 1) < q ∧ e + 1 ≤ e0 + 4):=⟨n2,n3⟩
    clear n1 n2 n3
    go_wp2_with fail
    refine (HBES.out _ (e + 1) HBR.out (by omega) (by omega) (by have:=HN2.out; omega)).mono ?_
    rintro ee w6 ⟨rfl,hb6⟩
    obtain ⟨q0,hq0⟩ : ∃ q,q = toQ M D E (e + 1):=⟨_,rfl⟩
    obtain ⟨h0,hh0⟩ : ∃ h,h = ncmp (toN M E (e + 1) % toD D E (e + 1) * 2) (toD D E (e + 1)):=⟨_,rfl⟩
    obtain ⟨b0,hbb0⟩ : ∃ b,b = decide (toN M E (e + 1) % toD D E (e + 1) = 0):=⟨_,rfl⟩
    rw [show toN M E (e + 1) / toD D E (e + 1) = toQ M D E (e + 1) from rfl,← hq0,← hh0,← hbb0]
    rw [← hq0] at HN1 HN2
    have HR0 : Hid (ToR M D E (e + 1) q0 h0 b0):=⟨hq0,hh0,hbb0⟩
    have HB6 : Hid (Below w4.heap.size w4 w6):=HBR.out.trans (hb6.mono HBR.out.size)
    clear hq0 hh0 hbb0 hb6
    go_wp2
    go_roundw
    case rel=>exact ⟨e + 1,q0,h0,b0,rfl,rfl,rfl,rfl,by omega,by have:=HN2.out; omega,by have:=HN2.out; omega,HR0,HN1,HB6.out⟩
    case measure=>have:=HN2.out; simp [intOf]; omega
   ·have HEND : Hid (e = -1074 ∨ 4503599627370496 ≤ q):=toI_end hI.out hR.out.1 (by omega) (by omega) hD0 HSE.out HE0.out
    obtain ⟨qi,hqi⟩ : ∃ qi : Int,qi = (q : Int):=⟨_,rfl⟩
    have hq0 : 0 ≤ qi:=by omega
    have hltI : ¬ (9007199254740992 : Int) ≤ qi:=by omega
    rw [← hqi]
    have HQI : Hid (qi = (q : Int)):=hqi
    have hh:=hR.out.2.1
    have hh3 : h = -1 ∨ h = 0 ∨ h = 1:=by rw [hh]; exact ncmp_cases _ _
    clear hI hh hqi hlt hqb
    have hszr : w.heap.size + 4 ≤ wr.heap.size:=by have:=HBR.out.size; have:=HS4.out; omega
    have al1 : ∀ (F : Obj) g o v,g < w.heap.size + 4 → wr.cell? ⟨g,o,none⟩ = some v → (wr.alloc F).cell? ⟨g,o,none⟩ = some v:=fun F g o v hg h=>by
     rw [World.cell?_alloc_past _ _ _ (by show g < _; omega)]; exact h
    have al2 : ∀ (F G : Obj) g o v,g < w.heap.size + 4 → wr.cell? ⟨g,o,none⟩ = some v → ((wr.alloc F).alloc G).cell? ⟨g,o,none⟩ = some v:=fun F G g o v hg h=>by
     rw [World.cell?_alloc_past _ _ _ (by show g < _; simp; omega)]; exact al1 F g o v hg h
    have ax0:=fun F=>al1 F _ _ _ (by omega) x0
    have ay0:=fun F=>al1 F _ _ _ (by omega) y0
    have ay2:=fun F=>al1 F _ _ _ (by omega) y2
    have bx0:=fun F G=>al2 F G _ _ _ (by omega) x0
    have by0:=fun F G=>al2 F G _ _ _ (by omega) y0
    have by2:=fun F G=>al2 F G _ _ _ (by omega) y2
    have hr2:=HBR.out.blk HQ2.out (by have:=HS4.out; omega)
    have hr3:=HBR.out.blk HQ3.out (by have:=HS4.out; omega)
    have HR2 : Hid (∀ F G : Obj,((wr.alloc F).alloc G).heap[w.heap.size + 2]? = _):=fun F G=>(heap_alloc_old (wr.alloc F) G (by simp; omega)).trans ((heap_alloc_old wr F (by omega)).trans hr2)
    have HR3 : Hid (∀ F G : Obj,((wr.alloc F).alloc G).heap[w.heap.size + 3]? = _):=fun F G=>(heap_alloc_old (wr.alloc F) G (by simp; omega)).trans ((heap_alloc_old wr F (by omega)).trans hr3)
    clear al1 al2 hr2 hr3
    obtain ⟨ru,hru⟩ : ∃ ru : Bool,ru = (!b && (decide (h = 1) || (decide (h = 0) && decide (q % 2 = 1)))):=⟨_,rfl⟩
    obtain ⟨Ki,hKi⟩ : ∃ Ki : Int,Ki = if ru then qi + 1 else qi:=⟨_,rfl⟩
    have hKe : Ki = (toK M D E e : Nat):=toK_of hD0 hR.out hru hKi HQI.out
    have HKE : Hid (Ki = (toK M D E e : Nat)):=hKe
    have HRU : Hid (ru = (!b && (decide (h = 1) || (decide (h = 0) && decide (q % 2 = 1))))):=hru
    have HKI : Hid (Ki = if ru then qi + 1 else qi):=hKi
    clear hKe hru hKi
    go_upto_region 10 with fail
    go_cut [75] (fun _ wx=>∃ un : Bool,wx = wr.alloc (.cells #[.bool (!b),.bool false,.bool un] 76))
    case first=>as_aux_lemma=>
     cases b
     all_goals
      go_wp2
      go_meet
      exact ⟨_,rfl⟩
    case rest=>
    obtain ⟨un,rfl⟩:=hcut
    go_upto_region 11 with fail
    go_cut [87] (fun v wx=>v = .bool ru ∧ wx = wr.alloc (.cells #[.bool (!b),.bool false,.bool un] 76))
    case first=>as_aux_lemma=>
     cases b
     ·go_wp2_with fail
      refine (up_even neg _ h _ hh3).mono ?_
      rintro ee w' ⟨rfl,rfl⟩
      go_wp2
      go_meet
      refine ⟨?_,rfl⟩
      rw [HRU.out]
      have e1 : (qi % 2 == 1) = decide (q % 2 = 1):=by
       rw [HQI.out]
       by_cases hq : q % 2 = 1
       ·simp [hq]; omega
       ·simp [hq]; omega
      rw [e1]; rfl
     ·go_wp2
      go_meet
      exact ⟨by rw [HRU.out]; rfl,rfl⟩
    case rest=>
    obtain ⟨rfl,rfl⟩:=hcut
    go_upto_if 87 with fail
    go_cut [9] (fun qv wx=>qv = .int .u64 Ki ∧ wx = wr.alloc (.cells #[.bool (!b),.bool false,.bool un] 76))
    case first=>as_aux_lemma=>
     cases ru
     ·have hk : Ki = qi:=HKI.out
      go_wp2
      go_meet
      exact ⟨by rw [hk],rfl⟩
     ·have hk : Ki = qi + 1:=HKI.out
      go_wp2
      go_meet
      exact ⟨by rw [hk],rfl⟩
    case rest=>
    obtain ⟨rfl,rfl⟩:=hcut
    have hKb : 0 ≤ Ki ∧ Ki ≤ 9007199254740992:=by
     have:=HKI.out
     split at this <;> omega
    obtain ⟨e2,he2d⟩ : ∃ e2,e2 = if Ki = 9007199254740992 then e + 1 else e:=⟨_,rfl⟩
    obtain ⟨K2,hK2d⟩ : ∃ K2,K2 = if Ki = 9007199254740992 then 4503599627370496 else Ki:=⟨_,rfl⟩
    have hK2b : 0 ≤ K2 ∧ K2 < 9007199254740992:=by rw [hK2d]; split <;> omega
    have he2b : -1074 ≤ e2 ∧ e2 ≤ 1041:=by rw [he2d]; split <;> omega
    have HEK : Hid (e2 = (if Ki = 9007199254740992 then e + 1 else e) ∧ K2 = if Ki = 9007199254740992 then 4503599627370496 else Ki):=⟨he2d,hK2d⟩
    go_upto_if 94 with fail
    go_cut [8,9] (fun ev qv wx=>ev = .int .i64 e2 ∧ qv = .int .u64 K2 ∧ wx = wr.alloc (.cells #[.bool (!b),.bool false,.bool un] 76))
    case first=>as_aux_lemma=>
     by_cases hk : Ki = 9007199254740992
     ·rw [if_pos hk] at he2d hK2d
      subst hk
      go_wp2
      go_meet
      exact ⟨by rw [he2d],by rw [hK2d],rfl⟩
     ·rw [if_neg hk] at he2d hK2d
      have hkb : (Ki == 9007199254740992) = false:=by simpa using hk
      go_wp2
      go_meet
      exact ⟨by rw [he2d],by rw [hK2d],rfl⟩
    case rest=>
    obtain ⟨rfl,rfl,rfl⟩:=hcut
    clear he2d hK2d hKb
    obtain ⟨ov,hov⟩ : ∃ ov : Bool,ov = (decide (971 < e2) && decide (4503599627370496 ≤ K2)):=⟨_,rfl⟩
    have HOV : Hid (ov = (decide (971 < e2) && decide (4503599627370496 ≤ K2))):=hov
    clear hov
    go_upto_region 17 with fail
    go_cut [119] (fun v wx=>v = .bool ov ∧ wx = (wr.alloc (.cells #[.bool (!b),.bool false,.bool un] 76)).alloc (.cells #[.bool neg,.bool false,.int .u64 K2,.int .i64 e2] 137))
    case first=>as_aux_lemma=>
     by_cases h1 : 971 < e2
     ·have h1I : (1023 : Int) < e2 + 53 - 1:=by omega
      go_wp2
      go_meet
      refine ⟨?_,rfl⟩
      rw [HOV.out,decide_eq_true h1]
      rfl
     ·have h1n : decide (971 < e2) = false:=decide_eq_false h1
      have h1I : ¬ (1023 : Int) < e2 + 53 - 1:=by omega
      have H1 : Hid (decide (971 < e2) = false):=h1n
      clear h1n
      go_wp2
      go_meet
      refine ⟨?_,rfl⟩
      rw [HOV.out,H1.out]
      rfl
    case rest=>
    obtain ⟨rfl,rfl⟩:=hcut
    have HLAST : Hid _:=to_last hD0 HNN.out he1 hR.out.1 (by have:=HQI.out; omega) HEND.out HKE.out HEK.out
    go_upto_if 119 with fail
    go_cut [12,13] (fun fv pv wx=>∃ (G1 G2 : Nat) (ine ovb un inf : Bool) (m x : Int),fv = .pointer (some ⟨G1,0,none⟩) ∧ pv = .pointer (some ⟨G2,0,none⟩) ∧ wx.heap[G1]? = some (.cells #[.bool ine,.bool ovb,.bool un] 76 (0,0)) ∧
     wx.heap[G2]? = some (.cells #[.bool neg,.bool inf,.int .u64 m,.int .i64 x] 137 (0,0)) ∧ wx.heap[w.heap.size + 2]? = some (.cells #[.bool false,.bool false,.int .u64 0,.int .i64 0] 137 (0,0)) ∧
     wx.heap[w.heap.size + 3]? = some (.cells #[.bool false,.bool false,.bool false] 76 (0,0)) ∧ Below w.heap.size w wx ∧ ToEnd R inf ovb m x ∧ w.heap.size + 4 ≤ G1 ∧ G1 < G2)
    case first=>as_aux_lemma=>
     have hbw : ∀ F G : Obj,Below w.heap.size w ((wr.alloc F).alloc G):=fun F G=>(HB0.out.trans (HBR.out.mono (by have:=HS4.out; omega))).trans (((Below.refl _ _).alloc (by omega) _).alloc (by simp; omega) _)
     have HBW : Hid _:=hbw
     obtain ⟨l1,l2,l3,l4,l5⟩:=HLAST.out
     obtain ⟨o1,o2⟩:=to_over l1 l2 l3 l4 l5
     have HO1 : Hid _:=o1
     have HO2 : Hid _:=o2
     clear hbw l1 l2 l3 l4 l5 o1 o2
     cases ov
     ·have hno : ¬ (971 < e2 ∧ 4503599627370496 ≤ K2) := by
       have:=HOV.out
       simp at this
       omega
      have HT:=HO1.out hno
      clear hno
      go_wp2
      go_meet
      exact ⟨_,_,_,_,_,_,_,_,rfl,rfl,(heap_alloc_old _ _ (by simp)).trans (heap_alloc_new _ _),by have:=heap_alloc_new (wr.alloc (.cells #[.bool (!b),.bool false,.bool un] 76)) (.cells #[.bool neg,.bool false,.int .u64 K2,.int .i64 e2] 137); simpa using this,HR2.out _ _,HR3.out _ _,HBW.out _ _,HT,by omega,by omega⟩
     ·have hyes : 971 < e2 ∧ 4503599627370496 ≤ K2 := by
       have:=HOV.out
       simp at this
       omega
      have HT:=HO2.out hyes 0 0
      clear hyes
      go_wp2
      go_meet
      exact ⟨_,_,_,_,_,_,_,_,rfl,rfl,(heap_alloc_old _ _ (by simp)).trans (heap_alloc_new _ _),by have:=heap_alloc_new (wr.alloc (.cells #[.bool true,.bool true,.bool un] 76)) (.cells #[.bool neg,.bool true,.int .u64 0,.int .i64 0] 137); simpa using this,HR2.out _ _,HR3.out _ _,HBW.out _ _,HT,by omega,by omega⟩
    case rest=>
    obtain ⟨G1,G2,ine,ovb,un',inf,mm,xx,rfl,rfl,hr1,hr2,hr3,hr4,hbw,hend,hg1,hg2⟩:=hcut
    have HBW : Hid (Below w.heap.size w wc):=hbw
    have HEND2 : Hid (ToEnd R inf ovb mm xx):=hend
    have W1 : wc.drew.heap[G1]? = _:=hr1
    have W2 : wc.drew.heap[G2]? = _:=hr2
    have W3 : wc.drew.heap[w.heap.size + 2]? = _:=hr3
    have W1':=(setRow_other wc.drew (w.heap.size + 2) G1 #[.bool neg,.bool inf,.int .u64 mm,.int .i64 xx] (by omega)).trans W1
    have W4:=(setRow_other wc.drew (w.heap.size + 2) (w.heap.size + 3) #[.bool neg,.bool inf,.int .u64 mm,.int .i64 xx] (by omega)).trans hr4
    have Z1:=setRow_heap (wc.drew.setRow (w.heap.size + 2) #[.bool neg,.bool inf,.int .u64 mm,.int .i64 xx]) (w.heap.size + 3) _ #[.bool ine,.bool ovb,.bool un'] _ _ W4
    have Z2:=(setRow_other (wc.drew.setRow (w.heap.size + 2) #[.bool neg,.bool inf,.int .u64 mm,.int .i64 xx]) (w.heap.size + 3) (w.heap.size + 2) #[.bool ine,.bool ovb,.bool un'] (by omega)).trans (setRow_heap wc.drew (w.heap.size + 2) _ #[.bool neg,.bool inf,.int .u64 mm,.int .i64 xx] _ _ W3)
    have Z3 : Hid (Below w.heap.size w ((wc.drew.setRow (w.heap.size + 2) #[.bool neg,.bool inf,.int .u64 mm,.int .i64 xx]).setRow (w.heap.size + 3) #[.bool ine,.bool ovb,.bool un'])):=below_setRow (below_setRow hbw.drew (by omega) _) (by omega) _
    have HZ1 : Hid _:=Z1
    have HZ2 : Hid _:=Z2
    clear hr1 hr2 hr3 hr4 hbw hend ax0 ay0 ay2 bx0 by0 by2 HR2 HR3 HLAST HOV HEK HKE HKI HRU HQI HEND hR HBR HBES HMM HQ0 HE0 HSZ2 HC HQ2 HQ3 HB0 HSZ HSE HV HNN Z1 Z2
    go_upto_region 23 with fail
    refine wp_region_any (by kernel_rfl) ?_
    try (change wpAny _ _ _ _ _ _ _ (World.drew _))
    refine wpAny_ready (rs:=[0,1]) (by kernel_rfl) (by simp) ?_
    refine AllReady.cons rfl (fun K hK=>?_) (AllReady.cons rfl (fun K hK=>?_) AllReady.nil)
    ·refine step_plain rfl (wp_load_row 137 (.tmp 13) rfl G2 rfl _ _ _ _ W2 Tryz.underlying137 rfl (by kernel_rfl) (hK _ _ ?_))
     refine wpAny_ready (rs:=[1,2]) (by kernel_rfl) (by simp) ?_
     refine AllReady.cons rfl (fun K hK=>?_) (AllReady.cons rfl (fun K hK=>?_) AllReady.nil)
     ·refine step_plain rfl (wp_load_row 76 (.tmp 12) rfl G1 rfl _ _ _ _ W1 Tryz.underlying76 rfl (by kernel_rfl) (hK _ _ ?_))
      refine wpAny_ready (rs:=[2]) (by kernel_rfl) (by simp) ?_
      refine AllReady.cons rfl (fun K hK=>?_) AllReady.nil
      refine step_plain rfl (wp_store_row 137 (.tmp 6) (.tmp 161) rfl (w.heap.size + 2) #[.bool neg,.bool inf,.int .u64 mm,.int .i64 xx] rfl rfl _ _ W3 (by kernel_rfl) rfl (by simp [Value.oneCell']) (hK _ _ ?_))
      refine wpAny_ready (rs:=[3]) (by kernel_rfl) (by simp) ?_
      refine AllReady.cons rfl (fun K hK=>?_) AllReady.nil
      refine step_plain rfl (wp_store_row 76 (.tmp 7) (.tmp 162) rfl (w.heap.size + 3) #[.bool ine,.bool ovb,.bool un'] rfl rfl _ _ W4 (by kernel_rfl) rfl (by simp [Value.oneCell']) (hK _ _ ?_))
      refine wpAny_done (by kernel_rfl) ?_ _
      go_wp2
      exact bodyPost_ret (float_flags_row rfl _ _ (w.heap.size + 2) (w.heap.size + 3) _ _ _ _ _ _ _ rfl HZ2.out rfl HZ1.out) rfl ⟨_,_,_,_,_,_,rfl,Z3.out,HEND2.out⟩
     ·refine step_plain rfl (wp_store_row 137 (.tmp 6) (.tmp 161) rfl (w.heap.size + 2) #[.bool neg,.bool inf,.int .u64 mm,.int .i64 xx] rfl rfl _ _ W3 (by kernel_rfl) rfl (by simp [Value.oneCell']) (hK _ _ ?_))
      refine wpAny_ready (rs:=[1]) (by kernel_rfl) (by simp) ?_
      refine AllReady.cons rfl (fun K hK=>?_) AllReady.nil
      refine step_plain rfl (wp_load_row 76 (.tmp 12) rfl G1 rfl _ _ _ _ W1' Tryz.underlying76 rfl (by kernel_rfl) (hK _ _ ?_))
      refine wpAny_ready (rs:=[3]) (by kernel_rfl) (by simp) ?_
      refine AllReady.cons rfl (fun K hK=>?_) AllReady.nil
      refine step_plain rfl (wp_store_row 76 (.tmp 7) (.tmp 162) rfl (w.heap.size + 3) #[.bool ine,.bool ovb,.bool un'] rfl rfl _ _ W4 (by kernel_rfl) rfl (by simp [Value.oneCell']) (hK _ _ ?_))
      refine wpAny_done (by kernel_rfl) ?_ _
      go_wp2
      exact bodyPost_ret (float_flags_row rfl _ _ (w.heap.size + 2) (w.heap.size + 3) _ _ _ _ _ _ _ rfl HZ2.out rfl HZ1.out) rfl ⟨_,_,_,_,_,_,rfl,Z3.out,HEND2.out⟩
    ·refine step_plain rfl (wp_load_row 76 (.tmp 12) rfl G1 rfl _ _ _ _ W1 Tryz.underlying76 rfl (by kernel_rfl) (hK _ _ ?_))
     refine wpAny_ready (rs:=[0]) (by kernel_rfl) (by simp) ?_
     refine AllReady.cons rfl (fun K hK=>?_) AllReady.nil
     refine step_plain rfl (wp_load_row 137 (.tmp 13) rfl G2 rfl _ _ _ _ W2 Tryz.underlying137 rfl (by kernel_rfl) (hK _ _ ?_))
     refine wpAny_ready (rs:=[2]) (by kernel_rfl) (by simp) ?_
     refine AllReady.cons rfl (fun K hK=>?_) AllReady.nil
     refine step_plain rfl (wp_store_row 137 (.tmp 6) (.tmp 161) rfl (w.heap.size + 2) #[.bool neg,.bool inf,.int .u64 mm,.int .i64 xx] rfl rfl _ _ W3 (by kernel_rfl) rfl (by simp [Value.oneCell']) (hK _ _ ?_))
     refine wpAny_ready (rs:=[3]) (by kernel_rfl) (by simp) ?_
     refine AllReady.cons rfl (fun K hK=>?_) AllReady.nil
     refine step_plain rfl (wp_store_row 76 (.tmp 7) (.tmp 162) rfl (w.heap.size + 3) #[.bool ine,.bool ovb,.bool un'] rfl rfl _ _ W4 (by kernel_rfl) rfl (by simp [Value.oneCell']) (hK _ _ ?_))
     refine wpAny_done (by kernel_rfl) ?_ _
     go_wp2
     exact bodyPost_ret (float_flags_row rfl _ _ (w.heap.size + 2) (w.heap.size + 3) _ _ _ _ _ _ _ rfl HZ2.out rfl HZ1.out) rfl ⟨_,_,_,_,_,_,rfl,Z3.out,HEND2.out⟩
end Go.Proofs.YtlbokicainimnaaGreatDoor
