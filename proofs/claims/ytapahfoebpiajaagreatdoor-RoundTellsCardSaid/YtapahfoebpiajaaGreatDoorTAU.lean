/- Parts Au, Bp of the proof, in one text. -/
import Derived.Test.YtapahfoebpiajaaGreatDoorTAT
import Derived.Test.YtapahfoebpiajaaGreatDoorTAN
import Derived.Test.YtapahfoebpiajaaGreatDoorTRR
import Derived.Test.YtapahfoebpiajaaGreatDoorTQW
import Derived.Test.YtapahfoebpiajaaGreatDoorTAW
import Derived.Test.YtapahfoebpiajaaGreatDoorTBM
import Derived.Test.YtapahfoebpiajaaGreatDoorTBG

/- Walks: the document's Valid, mode, the kind of singles, the bits of a float. -/
namespace Go.Proofs.YtapahfoebpiajaaGreatDoor
open Go.RowKit
open Go.Lib hiding intOf

theorem rmode_v (m : Int) (w : World) : Calls Tryz.prog 36 #[.int .i64 m] w fun e w' => e = .returned (.bool (decide (1 ≤ m ∧ m ≤ 6))) ∧ Below w.heap.size w w' := by
  by_cases h1 : 1 ≤ m
  · by_cases h2 : m ≤ 6
    · have hd : decide (1 ≤ m ∧ m ≤ 6) = true := decide_eq_true ⟨h1, h2⟩
      rw [hd]
      clear hd
      go_enter Tryz.func36, Tryz.ntmps36
      go_wp2
      go_ret
      exact ⟨rfl, Below.refl _ _⟩
    · have hd : decide (1 ≤ m ∧ m ≤ 6) = false := decide_eq_false (by omega)
      rw [hd]
      clear hd
      go_enter Tryz.func36, Tryz.ntmps36
      go_wp2
      go_ret
      exact ⟨rfl, Below.refl _ _⟩
  · have hd : decide (1 ≤ m ∧ m ≤ 6) = false := decide_eq_false (by omega)
    rw [hd]
    clear hd
    go_enter Tryz.func36, Tryz.ntmps36
    go_wp2
    go_ret
    exact ⟨rfl, Below.refl _ _⟩
theorem thirty_any (w : World) : Calls Tryz.prog 47 #[] w fun e w' => e = .returned (.agg #[.int .i64 24, .int .i64 (-149), .int .i64 127]) ∧ Below w.heap.size w w' := by
  go_enter Tryz.func47, Tryz.ntmps47
  go_wp2
  exact bodyPost_ret (kind_row rfl _ _ w.heap.size _ _ _ rfl (heap_alloc_new _ _)) rfl ⟨rfl, (Below.refl _ _).alloc (Nat.le_refl _) _⟩

theorem byte_eq3 (c : UInt8) : (((c.toNat : Nat) : Int) == 48) = (c == 48) := by
  rw [Bool.eq_iff_iff]
  simp only [beq_iff_eq]
  constructor
  · intro h
    exact UInt8.toNat_inj.1 (by have : (48 : UInt8).toNat = 48 := rfl; omega)
  · intro h; subst h; rfl
theorem take_dig {l : List UInt8} {j : Nat} (h : allDig (l.take j)) (hj : j < l.length) (hc : isDig l[j] = true) : allDig (l.take (j + 1)) := by
  intro c hcc
  rw [List.take_succ_eq_append_getElem hj, List.mem_append, List.mem_singleton] at hcc
  rcases hcc with hcc | hcc
  · exact h c hcc
  · rw [hcc]; exact hc

set_option maxRecDepth 100000 in
theorem rvalid_any (ng : Bool) (s : ByteArray) (e : Int) (w : World) (hs : s.size ≤ 9223372036854775807) :
    Calls Tryz.prog 21 #[.agg #[.bool ng, .string s, .int .i64 e]] w fun en w' => en = .returned (.bool (⟨ng, bl s, e⟩ : Dc).okB) ∧ Below w.heap.size w w' := by
  obtain ⟨r, hr⟩ : ∃ r, r = (⟨ng, bl s, e⟩ : Dc).okB := ⟨_, rfl⟩
  rw [← hr]
  have hb0 : Below w.heap.size w (w.alloc (.cells #[.bool ng, .string s, .int .i64 e] 23)) := (Below.refl _ _).alloc (Nat.le_refl _) _
  have q0 := new_blk w (.cells #[.bool ng, .string s, .int .i64 e] 23)
  have HB0 : Hid _ := hb0
  have c0 := cell_of_row _ _ 0 _ _ _ q0
  have c1 := cell_of_row _ _ 1 _ _ _ q0
  have c2 := cell_of_row _ _ 2 _ _ _ q0
  clear hb0 q0
  by_cases h0 : s.size = 0
  · have hl : bl s = [] := List.eq_nil_of_length_eq_zero (by rw [bl_len]; exact h0)
    rw [hl, okB_nil] at hr
    have he : s = ⟨#[]⟩ := bl_inj hl
    subst he
    have HR : Hid _ := hr
    clear hr hl h0 hs
    by_cases he : e = 0
    · subst he
      cases ng
      · go_enter Tryz.func21, Tryz.ntmps21
        go_wp2
        go_ret
        exact ⟨by rw [HR.out]; rfl, HB0.out⟩
      · go_enter Tryz.func21, Tryz.ntmps21
        go_wp2
        go_ret
        exact ⟨by rw [HR.out]; rfl, HB0.out⟩
    · have HE : Hid (¬ e = 0) := he
      have he' : (e == 0) = false := by simpa using he
      go_enter Tryz.func21, Tryz.ntmps21
      go_wp2
      go_ret
      exact ⟨by rw [HR.out, decide_eq_false HE.out, Bool.and_false]; rfl, HB0.out⟩
  · have hl : bl s ≠ [] := fun e => h0 (by rw [← bl_len, e]; rfl)
    have hp : 0 < s.size := by omega
    rw [okB_cons _ _ _ hl, bl_len] at hr
    have hh : (bl s).headD 0 = s[0]'hp := by
      rw [bl_get s 0 hp]; exact head_get _ _
    have hla : (bl s).getLastD 0 = s[s.size - 1]'(by omega) := by
      rw [bl_get s _ (by omega), List.getLastD_eq_getLast?, List.getLast?_eq_getElem?]
      have : (bl s).length - 1 < (bl s).length := by rw [bl_len]; omega
      rw [List.getElem?_eq_getElem this]; rfl
    rw [hh, hla] at hr
    have hw : IntKind.i64.wrap ((s.size : Int) - 1) = ((s.size - 1 : Nat) : Int) := by rw [IntWalk.i64_in _ (by omega)]; omega
    have hq1 : s.size - 1 < s.size := by omega
    obtain ⟨q0, hq0⟩ : ∃ q, q = (s[0]'hp == 48) := ⟨_, rfl⟩
    obtain ⟨q1, hq1e⟩ : ∃ q, q = (s[s.size - 1]'hq1 == 48) := ⟨_, rfl⟩
    obtain ⟨al, hal⟩ : ∃ q, q = (bl s).all isDig := ⟨_, rfl⟩
    rw [← hq0, ← hq1e, ← hal] at hr
    have hi0 : ((((s[0]'hp).toNat : Nat) : Int) == 48) = q0 := by rw [hq0]; exact byte_eq3 _
    have hi1 : ((((s[s.size - 1]'hq1).toNat : Nat) : Int) == 48) = q1 := by rw [hq1e]; exact byte_eq3 _
    have HR : Hid _ := hr
    have HAL : Hid (al = (bl s).all isDig) := hal
    have hz : ((s.size : Int) == 0) = false := by rw [beq_eq_false_iff_ne]; omega
    clear hr hh hla hl hq0 hq1e hal h0
    by_cases k1 : s.size ≤ 8192
    case neg =>
      have k1' : (8192 : Int) < (s.size : Int) := by omega
      have K1 : Hid (¬ s.size ≤ 8192) := k1
      clear k1
      go_enter Tryz.func21, Tryz.ntmps21
      go_wp2
      go_ret
      exact ⟨by rw [HR.out, decide_eq_false K1.out]; rfl, HB0.out⟩
    case pos =>
    have k1' : ¬ (8192 : Int) < (s.size : Int) := by omega
    have K1 : Hid (s.size ≤ 8192) := k1
    by_cases k2 : -20000 ≤ e
    case neg =>
      have k2' : e < -20000 := by omega
      have K2 : Hid (decide (-20000 ≤ e) = false) := decide_eq_false k2
      clear k2
      go_enter Tryz.func21, Tryz.ntmps21
      go_wp2
      go_ret
      exact ⟨by rw [HR.out, K2.out, Bool.false_and, Bool.and_false, Bool.and_false, Bool.and_false, Bool.and_false]; rfl, HB0.out⟩
    case pos =>
    have k2' : ¬ e < -20000 := by omega
    have K2 : Hid (-20000 ≤ e) := k2
    clear k2
    by_cases k3 : e ≤ 20000
    case neg =>
      have k3' : 20000 < e := by omega
      have K3 : Hid (decide (e ≤ 20000) = false) := decide_eq_false k3
      clear k3
      go_enter Tryz.func21, Tryz.ntmps21
      go_wp2
      go_ret
      exact ⟨by rw [HR.out, K3.out, Bool.and_false, Bool.and_false, Bool.and_false, Bool.and_false, Bool.and_false]; rfl, HB0.out⟩
    case pos =>
    have k3' : ¬ 20000 < e := by omega
    have K3 : Hid (e ≤ 20000) := k3
    clear k3
    cases q0
    case true =>
      go_enter Tryz.func21, Tryz.ntmps21
      go_wp2
      go_ret
      exact ⟨by rw [HR.out, Bool.not_true, Bool.false_and, Bool.and_false, Bool.and_false]; rfl, HB0.out⟩
    case false =>
    cases q1
    case true =>
      go_enter Tryz.func21, Tryz.ntmps21
      go_wp2
      go_ret
      exact ⟨by rw [HR.out, Bool.not_true, Bool.false_and, Bool.and_false, Bool.and_false, Bool.and_false]; rfl, HB0.out⟩
    case false =>
    have HRA : Hid (r = al) := by
      show r = al
      rw [HR.out, decide_eq_true K1.out, decide_eq_true K2.out, decide_eq_true K3.out]; simp
    obtain ⟨w1, hw1⟩ : ∃ w1, w1 = w.alloc (.cells #[.bool ng, .string s, .int .i64 e] 23) := ⟨_, rfl⟩
    clear HR
    go_enter Tryz.func21, Tryz.ntmps21
    go_upto_region 7 with fail
    rw [← hw1] at c0 c1 c2 HB0 ⊢
    clear hw1 hi0 hi1 k2' k3' k1' hw
    go_loopw [4] (fun i wr => ∃ j : Nat, j ≤ s.size ∧ i = .int .i64 (j : Nat) ∧ wr = w1 ∧ allDig ((bl s).take j)) (fun i _ => s.size - (intOf i).toNat)
    case atStart => exact ⟨0, Nat.zero_le _, by first | rfl | go_num, rfl, fun c hc => by simp at hc⟩
    case round =>
      obtain ⟨j, hj, rfl, rfl, hd⟩ := hrel
      have HD : Hid (allDig ((bl s).take j)) := hd
      clear hd
      by_cases hjs : j < s.size
      · have hjl : j < (bl s).length := by rw [bl_len]; exact hjs
        obtain ⟨x, hx⟩ : ∃ x, x = s[j]'hjs := ⟨_, rfl⟩
        have HXB : Hid (x = (bl s)[j]'hjl) := by show _ = _; rw [hx, bl_get]
        obtain ⟨n, hn⟩ : ∃ n, n = x.toNat := ⟨_, rfl⟩
        have hidx : (s[j]'hjs).toNat = n := by rw [hn, hx]
        have HNX : Hid (n = x.toNat) := hn
        have hii := isDig_iff x
        rw [← hn] at hii
        have HBAD : Hid (isDig x = false → r = false) := fun hb => by
          rw [HRA.out, HAL.out, List.all_eq_false]
          exact ⟨x, by rw [HXB.out]; exact List.getElem_mem _, by rw [hb]; decide⟩
        have HLT : Hid (j < (bl s).length) := hjl
        clear hx hn
        by_cases g1 : n < 48
        · have g1' : (n : Int) < 48 := by omega
          have HF : Hid (isDig x = false) := by
            show _ = _
            cases hdd : isDig x
            · rfl
            · exact absurd (hii.1 hdd).1 (by omega)
          clear hii
          go_wp2
          go_ret
          exact ⟨by rw [HBAD.out HF.out]; rfl, HB0.out⟩
        · have g1' : ¬ (n : Int) < 48 := by omega
          by_cases g2 : 57 < n
          · have g2' : (57 : Int) < (n : Int) := by omega
            have HF : Hid (isDig x = false) := by
              show _ = _
              cases hdd : isDig x
              · rfl
              · exact absurd (hii.1 hdd).2 (by omega)
            clear hii
            go_wp2
            go_ret
            exact ⟨by rw [HBAD.out HF.out]; rfl, HB0.out⟩
          · have g2' : ¬ (57 : Int) < (n : Int) := by omega
            have HT : Hid (isDig x = true) := hii.2 ⟨by omega, by omega⟩
            clear hii
            go_wp2
            go_roundw
            case rel =>
              have hk := take_dig HD.out HLT.out (by rw [← HXB.out]; exact HT.out)
              first
                | exact ⟨j + 1, by omega, by go_num, rfl, hk⟩
                | exact ⟨j + 1, by omega, by go_num, trivial, hk⟩
            case measure => simp [intOf]; omega
      · have hjs' : j = s.size := by omega
        subst hjs'
        have HT : Hid (r = true) := by
          show _ = _
          rw [HRA.out, HAL.out, List.all_eq_true]
          have := HD.out
          rw [List.take_of_length_le (by rw [bl_len]; omega)] at this
          exact this
        go_wp2
        go_ret
        exact ⟨by rw [HT.out]; rfl, HB0.out⟩
theorem rvalid3_v (d : Dc) (w : World) (hs : d.s.length ≤ 9223372036854775807) : Calls Tryz.prog 21 #[dcV d] w fun en w' => en = .returned (.bool d.okB) ∧ Below w.heap.size w w' := by
  have := rvalid_any d.neg (bs d.s) d.e w hs
  rwa [bl_bs] at this

end Go.Proofs.YtapahfoebpiajaaGreatDoor

/- Walks: the document's To64, To32. -/
namespace Go.Proofs.YtapahfoebpiajaaGreatDoor
open Go.RowKit

/-- What the document tells. -/
def RefQ (k : IntKind) (r : RA) (w : World) (e : Ending) (w' : World) : Prop := e = .returned (.tuple #[.int k (r.bits : Nat), .agg #[.bool r.ine, .bool r.ov, .bool r.un], .int .i64 r.err]) ∧ Below w.heap.size w w'
theorem ref_end {fn : Func} {p u q : Tmp} (hf : fn.results = #[.tmp p, .cell u 27, .tmp q]) {tmps : Array Value} {w0 w : World} {g0 : Nat} {x y : Int} {k : IntKind} {a b c : Bool} {r : RA}
    (hp : tmps.getD p undef = .int k x) (hq : tmps.getD q undef = .int .i64 y) (hu : tmps.getD u undef = .pointer (some ⟨g0, 0, none⟩))
    (hg : w.heap[g0]? = some (.cells #[.bool a, .bool b, .bool c] 27 (0, 0))) (hb : Below w0.heap.size w0 w) (hr : x = (r.bits : Nat) ∧ a = r.ine ∧ b = r.ov ∧ c = r.un ∧ y = r.err) : bodyPost Tryz.prog fn (RefQ k r w0) .ret ⟨tmps, []⟩ w := by
  obtain ⟨rfl, rfl, rfl, rfl, rfl⟩ := hr
  have hu' : tmps[u]?.getD undef = .pointer (some ⟨g0, 0, none⟩) := by simpa using hu
  refine bodyPost_ret (v := .tuple #[tmps.getD p undef, .agg #[.bool r.ine, .bool r.ov, .bool r.un], tmps.getD q undef]) ?_ rfl ⟨?_, hb⟩
  · rw [results_tct hf]
    simp [hu', asAddr, run_loadVar_row (P := Tryz.prog) w g0 _ 27 #[.bool r.ine, .bool r.ov, .bool r.un] (0, 0) _ hg Tryz.underlying27 rfl (by kernel_rfl), Result.andThen]
  · show _ = Ending.returned (.tuple #[_, _, _])
    rw [hp, hq]
theorem doc53 {a : Dc} (ha : a.ok) (h0 : a.s ≠ []) {mode : Int} (hm : 1 ≤ mode ∧ mode ≤ 6) {v : Value} {M D : Nat} {E : Int} {w : World} (hv : Val w v a.neg M D E) (hd : DV a oneD M D E) :
    Calls Tryz.prog 37 #[v, .agg #[.int .i64 53, .int .i64 (-1074), .int .i64 1023], .int .i64 mode] w (FlQ a.neg (outG 53 (-1074) 971 a.neg mode (quoG a oneD)) w) := by
  obtain ⟨bb, h2, h3, h4, h5⟩ := hd.bd ha oneD_ok
  obtain ⟨p1, p2, p3, p4⟩ := hd.pos ha oneD_ok h0 oneD_s
  have hs : outG 53 (-1074) 971 a.neg mode (ratMag M D E) = outG 53 (-1074) 971 a.neg mode (quoG a oneD) := doc_same (c := 53) (T := 971) (l := 1074) (by decide) (by decide) (by decide) ha oneD_ok h0 oneD_s hd
  rw [← hs]
  exact to53_rat mode hm a.neg v M D E w hv h4 h5 (by omega) (by omega) (by omega) p1 p2
theorem doc24 {a : Dc} (ha : a.ok) (h0 : a.s ≠ []) {mode : Int} (hm : 1 ≤ mode ∧ mode ≤ 6) {v : Value} {M D : Nat} {E : Int} {w : World} (hv : Val w v a.neg M D E) (hd : DV a oneD M D E) :
    Calls Tryz.prog 37 #[v, .agg #[.int .i64 24, .int .i64 (-149), .int .i64 127], .int .i64 mode] w (FlQ a.neg (outG 24 (-149) 104 a.neg mode (quoG a oneD)) w) := by
  obtain ⟨bb, h2, h3, h4, h5⟩ := hd.bd ha oneD_ok
  obtain ⟨p1, p2, p3, p4⟩ := hd.pos ha oneD_ok h0 oneD_s
  have hs : outG 24 (-149) 104 a.neg mode (ratMag M D E) = outG 24 (-149) 104 a.neg mode (quoG a oneD) := doc_same (c := 24) (T := 104) (l := 149) (by decide) (by decide) (by decide) ha oneD_ok h0 oneD_s hd
  rw [← hs]
  exact to24_rat mode hm a.neg v M D E w hv h4 h5 (by omega) (by omega) (by omega) p1 p2

set_option maxHeartbeats 4000000 in
set_option maxRecDepth 100000 in
theorem rto64_v (a : Dc) (m : Int) (w : World) (hsa : a.s.length ≤ 9223372036854775807) : Calls Tryz.prog 12 #[.agg #[.bool a.neg, .string (bs a.s), .int .i64 a.e], .int .i64 m] w (RefQ .u64 (to64A a m) w) := by
  obtain ⟨R, hR⟩ : ∃ R, R = to64A a m := ⟨_, rfl⟩
  rw [← hR]
  have HR : Hid (R = to64A a m) := hR
  obtain ⟨w2, hw2⟩ : ∃ W, W = ((w.alloc (.cells #[.bool a.neg, .string (bs a.s), .int .i64 a.e] 23)).alloc (.cells #[.bool false, .bool false, .bool false] 27)) := ⟨_, rfl⟩
  have hba : Below w.heap.size w w2 := by rw [hw2]; exact ((Below.refl _ _).alloc (Nat.le_refl _) _).alloc (by simp) _
  have hsz : w2.heap.size = w.heap.size + 2 := by rw [hw2]; simp
  have q0 : w2.heap[w.heap.size]? = some (.cells #[.bool a.neg, .string (bs a.s), .int .i64 a.e] 23 (0, 0)) := by rw [hw2]; exact heap_alloc2_old w _ _
  have q1 : w2.heap[w.heap.size + 1]? = some (.cells #[.bool false, .bool false, .bool false] 27 (0, 0)) := by rw [hw2]; exact heap_alloc2_new w _ _
  have HX : Hid (∀ W, Below w2.heap.size w2 W → W.heap[w.heap.size]? = some (.cells #[.bool a.neg, .string (bs a.s), .int .i64 a.e] 23 (0, 0)) ∧ W.heap[w.heap.size + 1]? = some (.cells #[.bool false, .bool false, .bool false] 27 (0, 0)) ∧ Below w.heap.size w W) := fun W hW =>
    ⟨hW.blk q0 (by omega), hW.blk q1 (by omega), hba.trans (hW.mono hba.size)⟩
  have HSZ : Hid (w2.heap.size = w.heap.size + 2) := hsz
  obtain ⟨f, hf⟩ : ∃ f, f = a.okB := ⟨_, rfl⟩
  obtain ⟨g, hg⟩ : ∃ g, g = decide (1 ≤ m ∧ m ≤ 6) := ⟨_, rfl⟩
  have HV : Hid (∀ W, Calls Tryz.prog 21 #[.agg #[.bool a.neg, .string (bs a.s), .int .i64 a.e]] W fun e w' => e = .returned (.bool f) ∧ Below W.heap.size W w') := fun W => by rw [hf]; exact rvalid3_v a W hsa
  have HMD : Hid (∀ W, Calls Tryz.prog 36 #[.int .i64 m] W fun e w' => e = .returned (.bool g) ∧ Below W.heap.size W w') := fun W => by rw [hg]; exact rmode_v m W
  have HF : Hid (f = a.okB ∧ g = decide (1 ≤ m ∧ m ≤ 6)) := ⟨hf, hg⟩
  have ka := cell_of_row w2 w.heap.size 0 _ _ _ q0
  have kb := cell_of_row w2 w.heap.size 1 _ _ _ q0
  have kc := cell_of_row w2 w.heap.size 2 _ _ _ q0
  clear hba hsz q0 q1 hf hg hsa hR
  go_enter Tryz.func12, Tryz.ntmps12
  go_upto_region 1 with fail
  rw [← hw2]
  clear hw2
  go_wp2_with fail
  refine (HV.out _).mono ?_
  rintro e w3 ⟨rfl, hb3⟩
  have HB3 : Hid (Below w2.heap.size w2 w3) := hb3
  clear hb3 ka kb kc
  cases f
  · skip
    obtain ⟨f0, c0, f1, c1, f2, c2, r3⟩ := rw3 (HX.out w3 HB3.out).2.1
    have HR3 : Hid _ := r3
    have HBW : Hid (Below w.heap.size w w3) := (HX.out _ HB3.out).2.2
    have HRN : Hid (R = RA.no 1) := by
      show _ = _
      rw [HR.out]; unfold to64A ratioA; rw [if_pos (fun h => by have := HF.out.1; rw [(okB_iff a).2 h.1] at this; cases this)]
    clear r3
    go_wp2
    exact ref_end (p := 4) (u := 5) (q := 6) rfl rfl rfl rfl (HR3.out _ _ _) (below_row3 HBW.out (by omega) _ _ _) (by rw [HRN.out]; exact ⟨rfl, rfl, rfl, rfl, rfl⟩)
  go_wp2_with fail
  refine (HMD.out _).mono ?_
  rintro e w4 ⟨rfl, hb4⟩
  have HB4 : Hid (Below w2.heap.size w2 w4) := HB3.out.thru hb4
  clear hb4 HB3
  cases g
  · skip
    obtain ⟨f0, c0, f1, c1, f2, c2, r3⟩ := rw3 (HX.out w4 HB4.out).2.1
    have HR3 : Hid _ := r3
    have HBW : Hid (Below w.heap.size w w4) := (HX.out _ HB4.out).2.2
    have HRN : Hid (R = RA.no 1) := by
      show _ = _
      rw [HR.out]; unfold to64A ratioA; rw [if_pos (fun h => by have := HF.out.2; rw [decide_eq_true (h.2.2)] at this; cases this)]
    clear r3
    go_wp2
    exact ref_end (p := 4) (u := 5) (q := 6) rfl rfl rfl rfl (HR3.out _ _ _) (below_row3 HBW.out (by omega) _ _ _) (by rw [HRN.out]; exact ⟨rfl, rfl, rfl, rfl, rfl⟩)
  have HOA : Hid a.ok := (okB_iff a).1 HF.out.1.symm
  have HM6 : Hid (1 ≤ m ∧ m ≤ 6) := (of_decide_eq_true HF.out.2.symm : 1 ≤ m ∧ m ≤ 6)
  have kb := cell_of_row w4 w.heap.size 1 _ _ _ (HX.out w4 HB4.out).1
  by_cases ha0 : a.s = []
  · have he := emp_slice ha0
    have HA00 : Hid (a.s = []) := ha0
    clear ha0
    obtain ⟨f0, c0, f1, c1, f2, c2, r3⟩ := rw3 (HX.out w4 HB4.out).2.1
    have HR3 : Hid _ := r3
    have HBW : Hid (Below w.heap.size w w4) := (HX.out _ HB4.out).2.2
    have HRN : Hid (R = RA.no 0) := by
      show _ = _
      rw [HR.out]; unfold to64A ratioA; rw [if_neg (fun h => h ⟨HOA.out, oneD_ok, HM6.out⟩), if_neg oneD_s, if_pos HA00.out]
    clear r3
    go_wp2
    exact ref_end (p := 4) (u := 5) (q := 6) rfl rfl rfl rfl (HR3.out _ _ _) (below_row3 HBW.out (by omega) _ _ _) (by rw [HRN.out]; exact ⟨rfl, rfl, rfl, rfl, rfl⟩)
  have he := emp_not ha0
  have HA0 : Hid (a.s ≠ []) := ha0
  obtain ⟨o, ho⟩ : ∃ o, o = outG 53 (-1074) 971 a.neg m (quoG a oneD) := ⟨_, rfl⟩
  have HO : Hid (o = outG 53 (-1074) 971 a.neg m (quoG a oneD)) := ho
  have HRM : Hid (R = ⟨bits64 a.neg o, o.ine, o.ov, o.un, 0⟩) := by
    show _ = _
    rw [HR.out]; unfold to64A ratioA
    rw [if_neg (fun h => h ⟨HOA.out, oneD_ok, HM6.out⟩), if_neg oneD_s, if_neg ha0, neg_one, ← ho]
  have ka := cell_of_row w4 w.heap.size 0 _ _ _ (HX.out w4 HB4.out).1
  have kc := cell_of_row w4 w.heap.size 2 _ _ _ (HX.out w4 HB4.out).1
  clear ha0 ho
  go_wp2_with fail
  refine (of10_v a HOA.out _).mono ?_
  rintro e w5 ⟨v, M, D, E, rfl, hv, hd, hb5⟩
  have HTO : Hid (∀ W, Below w5.heap.size w5 W → Calls Tryz.prog 37 #[v, .agg #[.int .i64 53, .int .i64 (-1074), .int .i64 1023], .int .i64 m] W (FlQ a.neg o W)) := fun W hW => by
    rw [HO.out]
    refine doc53 HOA.out HA0.out HM6.out ?_ hd
    obtain ⟨s, t, rfl, n1, n2⟩ := hv
    exact ⟨s, t, rfl, n1.below (Nat.le_refl _) hW, n2.below (Nat.le_refl _) hW⟩
  have HB5 : Hid (Below w2.heap.size w2 w5) := HB4.out.thru hb5
  clear ka kb kc hb5 hv hd HB4
  go_wp2_with fail
  refine (sixty_any _).mono ?_
  rintro e w6 ⟨rfl, hb6⟩
  have HB6 : Hid (Below w5.heap.size w5 w6) := hb6
  clear hb6
  go_wp2_with fail
  refine (HTO.out _ HB6.out).mono ?_
  rintro e w7 ⟨rfl, hb7⟩
  have HB7 : Hid (Below w2.heap.size w2 w7) := (HB5.out.thru HB6.out).thru hb7
  clear hb7 HTO HB6 HB5
  go_upto_region 7 with fail

  obtain ⟨w8, hw8⟩ : ∃ W, W = (w7.alloc (.cells #[.bool a.neg, .bool o.inf, .int .u64 (o.m : Nat), .int .i64 o.e] 62)).alloc (.cells #[.bool o.ine, .bool o.ov, .bool o.un] 27) := ⟨_, rfl⟩
  have HB8 : Hid (Below w2.heap.size w2 w8) := by show Below _ _ _; rw [hw8]; exact (HB7.out.alloc HB7.out.size _).alloc (by have := HB7.out.size; simp; omega) _
  have HR0 : Hid (∀ W, Below w8.heap.size w8 W → W.heap[w7.heap.size]? = some (.cells #[.bool a.neg, .bool o.inf, .int .u64 (o.m : Nat), .int .i64 o.e] 62 (0, 0)) ∧ W.heap[w7.heap.size + 1]? = some (.cells #[.bool o.ine, .bool o.ov, .bool o.un] 27 (0, 0))) := fun W hW => by
    have q0 : w8.heap[w7.heap.size]? = some (.cells #[.bool a.neg, .bool o.inf, .int .u64 (o.m : Nat), .int .i64 o.e] 62 (0, 0)) := by rw [hw8]; exact heap_alloc2_old w7 _ _
    have q1 : w8.heap[w7.heap.size + 1]? = some (.cells #[.bool o.ine, .bool o.ov, .bool o.un] 27 (0, 0)) := by rw [hw8]; exact heap_alloc2_new w7 _ _
    exact ⟨hW.blk q0 (blk_lt q0), hW.blk q1 (blk_lt q1)⟩
  obtain ⟨BB, hBB⟩ : ∃ x, x = bits64 a.neg o := ⟨_, rfl⟩
  have HBT : Hid (∀ W, Calls Tryz.prog 40 #[.agg #[.bool a.neg, .bool o.inf, .int .u64 (o.m : Nat), .int .i64 o.e]] W fun e w' => e = .returned (.int .u64 (BB : Nat)) ∧ Below W.heap.size W w') := fun W => by
    rw [hBB, HO.out]; exact bits64_out a.neg m (quoG a oneD) (quoG_ok oneD_ok oneD_s) W
  have HRB : Hid (R = ⟨BB, o.ine, o.ov, o.un, 0⟩) := by show _ = _; rw [HRM.out, hBB]
  rw [← hw8]
  clear hw8 hBB HB7 he
  have h1 : once [(32, 0), (33, 1), (34, 2), (4, 3)] = true := by kernel_rfl
  have h2 : within [(32, 0), (33, 1), (34, 2), (4, 3)] 35 = true := by kernel_rfl
  refine wp_region_flow 4 6 [(32, 0), (33, 1), (34, 2), (4, 3)] [] (fun i v W => match i with
    | 0 => v = .agg #[.bool a.neg, .bool o.inf, .int .u64 (o.m : Nat), .int .i64 o.e]
    | 1 => v = .int .u64 (BB : Nat)
    | 2 => v = .agg #[.bool o.ine, .bool o.ov, .bool o.un]
    | _ => v = .int .u64 (BB : Nat)) w8.heap.size (Nat.le_refl _) (by kernel_rfl) (by kernel_rfl) (by kernel_rfl) (by decide) (by kernel_rfl) h1 (by kernel_rfl) ?_ ?_ ?_ ?_
  · intro j v W W' h hb
    match j, h with
    | 0, h => exact h
    | 1, h => exact h
    | 2, h => exact h
    | _ + 3, h => exact h
  · exact fun j hj => by cases hj
  · refine ⟨⟨⟨⟨trivial, ?_⟩, ?_⟩, ?_⟩, ?_⟩
    · refine flow_step _ 32 rfl rfl (fun d h => by simpa using h) h1 h2 fun ac xs W he hb hS K hK => ?_
      exact wp_load_row 62 (.tmp 8) rfl w7.heap.size (he 8) _ _ _ _ ((HR0.out W hb).1) Tryz.underlying62 rfl (by kernel_rfl) (hK _ _ rfl (Below.refl _ _) (fun h => absurd h (by decide)))
    · refine flow_step _ 33 rfl rfl (fun d h => by simpa using h) h1 h2 fun ac xs W he hb hS K hK => ?_
      have e0 : ac.eval (.tmp 32) = _ := (he 32).trans (hS 0 (by kernel_rfl))
      refine op_call 40 _ _ rfl _ (by simp only [List.map, e0]) (by go_simp) (HBT.out W) ?_
      rintro e' W' ⟨rfl, hb'⟩
      exact ⟨_, rfl, hK _ _ (rfl) hb' (fun h => absurd h (by decide))⟩
    · refine flow_step _ 34 rfl rfl (fun d h => by simpa using h) h1 h2 fun ac xs W he hb hS K hK => ?_
      exact wp_load_row 27 (.tmp 9) rfl (w7.heap.size + 1) (he 9) _ _ _ _ ((HR0.out W hb).2) Tryz.underlying27 rfl (by kernel_rfl) (hK _ _ rfl (Below.refl _ _) (fun h => absurd h (by decide)))
    · refine flow_step _ 4 rfl rfl (fun d h => by simpa using h) h1 h2 fun ac xs W he hb hS K hK => ?_
      exact op_move (.tmp 33) (.inr rfl) (hK _ _ ((he 33).trans (hS 1 (by kernel_rfl))) (Below.refl _ _) (fun h => absurd h (by decide)))
  · intro xs WL hb hS hD
    have s0 : xs 0 = _ := hS 0 (by decide)
    have s1 : xs 1 = _ := hS 1 (by decide)
    have s2 : xs 2 = _ := hS 2 (by decide)
    have s3 : xs 3 = _ := hS 3 (by decide)
    have HBL : Hid (Below w2.heap.size w2 WL) := HB8.out.thru hb
    obtain ⟨f0, c0, f1, c1, f2, c2, r3⟩ := rw3 (HX.out _ HBL.out).2.1
    have HR3 : Hid _ := r3
    have HBW : Hid (Below w.heap.size w WL) := (HX.out _ HBL.out).2.2
    simp only [layAll, s0, s1, s2, s3, List.setIfInBounds_toArray, List.set_cons_succ, List.set_cons_zero]
    clear hS hD hb r3 s0 s1 s2 s3 h1 h2
    go_wp2
    exact ref_end (p := 4) (u := 5) (q := 6) rfl rfl rfl rfl (HR3.out _ _ _) (below_row3 HBW.out (by omega) _ _ _) (by rw [HRB.out]; exact ⟨rfl, rfl, rfl, rfl, rfl⟩)
set_option maxHeartbeats 4000000 in
set_option maxRecDepth 100000 in
theorem rto32_v (a : Dc) (m : Int) (w : World) (hsa : a.s.length ≤ 9223372036854775807) : Calls Tryz.prog 14 #[.agg #[.bool a.neg, .string (bs a.s), .int .i64 a.e], .int .i64 m] w (RefQ .u32 (to32A a m) w) := by
  obtain ⟨R, hR⟩ : ∃ R, R = to32A a m := ⟨_, rfl⟩
  rw [← hR]
  have HR : Hid (R = to32A a m) := hR
  obtain ⟨w2, hw2⟩ : ∃ W, W = ((w.alloc (.cells #[.bool a.neg, .string (bs a.s), .int .i64 a.e] 23)).alloc (.cells #[.bool false, .bool false, .bool false] 27)) := ⟨_, rfl⟩
  have hba : Below w.heap.size w w2 := by rw [hw2]; exact ((Below.refl _ _).alloc (Nat.le_refl _) _).alloc (by simp) _
  have hsz : w2.heap.size = w.heap.size + 2 := by rw [hw2]; simp
  have q0 : w2.heap[w.heap.size]? = some (.cells #[.bool a.neg, .string (bs a.s), .int .i64 a.e] 23 (0, 0)) := by rw [hw2]; exact heap_alloc2_old w _ _
  have q1 : w2.heap[w.heap.size + 1]? = some (.cells #[.bool false, .bool false, .bool false] 27 (0, 0)) := by rw [hw2]; exact heap_alloc2_new w _ _
  have HX : Hid (∀ W, Below w2.heap.size w2 W → W.heap[w.heap.size]? = some (.cells #[.bool a.neg, .string (bs a.s), .int .i64 a.e] 23 (0, 0)) ∧ W.heap[w.heap.size + 1]? = some (.cells #[.bool false, .bool false, .bool false] 27 (0, 0)) ∧ Below w.heap.size w W) := fun W hW =>
    ⟨hW.blk q0 (by omega), hW.blk q1 (by omega), hba.trans (hW.mono hba.size)⟩
  have HSZ : Hid (w2.heap.size = w.heap.size + 2) := hsz
  obtain ⟨f, hf⟩ : ∃ f, f = a.okB := ⟨_, rfl⟩
  obtain ⟨g, hg⟩ : ∃ g, g = decide (1 ≤ m ∧ m ≤ 6) := ⟨_, rfl⟩
  have HV : Hid (∀ W, Calls Tryz.prog 21 #[.agg #[.bool a.neg, .string (bs a.s), .int .i64 a.e]] W fun e w' => e = .returned (.bool f) ∧ Below W.heap.size W w') := fun W => by rw [hf]; exact rvalid3_v a W hsa
  have HMD : Hid (∀ W, Calls Tryz.prog 36 #[.int .i64 m] W fun e w' => e = .returned (.bool g) ∧ Below W.heap.size W w') := fun W => by rw [hg]; exact rmode_v m W
  have HF : Hid (f = a.okB ∧ g = decide (1 ≤ m ∧ m ≤ 6)) := ⟨hf, hg⟩
  have ka := cell_of_row w2 w.heap.size 0 _ _ _ q0
  have kb := cell_of_row w2 w.heap.size 1 _ _ _ q0
  have kc := cell_of_row w2 w.heap.size 2 _ _ _ q0
  clear hba hsz q0 q1 hf hg hsa hR
  go_enter Tryz.func14, Tryz.ntmps14
  go_upto_region 1 with fail
  rw [← hw2]
  clear hw2
  go_wp2_with fail
  refine (HV.out _).mono ?_
  rintro e w3 ⟨rfl, hb3⟩
  have HB3 : Hid (Below w2.heap.size w2 w3) := hb3
  clear hb3 ka kb kc
  cases f
  · skip
    obtain ⟨f0, c0, f1, c1, f2, c2, r3⟩ := rw3 (HX.out w3 HB3.out).2.1
    have HR3 : Hid _ := r3
    have HBW : Hid (Below w.heap.size w w3) := (HX.out _ HB3.out).2.2
    have HRN : Hid (R = RA.no 1) := by
      show _ = _
      rw [HR.out]; unfold to32A; rw [if_pos (fun h => by have := HF.out.1; rw [(okB_iff a).2 h.1] at this; cases this)]
    clear r3
    go_wp2
    exact ref_end (p := 4) (u := 5) (q := 6) rfl rfl rfl rfl (HR3.out _ _ _) (below_row3 HBW.out (by omega) _ _ _) (by rw [HRN.out]; exact ⟨rfl, rfl, rfl, rfl, rfl⟩)
  go_wp2_with fail
  refine (HMD.out _).mono ?_
  rintro e w4 ⟨rfl, hb4⟩
  have HB4 : Hid (Below w2.heap.size w2 w4) := HB3.out.thru hb4
  clear hb4 HB3
  cases g
  · skip
    obtain ⟨f0, c0, f1, c1, f2, c2, r3⟩ := rw3 (HX.out w4 HB4.out).2.1
    have HR3 : Hid _ := r3
    have HBW : Hid (Below w.heap.size w w4) := (HX.out _ HB4.out).2.2
    have HRN : Hid (R = RA.no 1) := by
      show _ = _
      rw [HR.out]; unfold to32A; rw [if_pos (fun h => by have := HF.out.2; rw [decide_eq_true (h.2)] at this; cases this)]
    clear r3
    go_wp2
    exact ref_end (p := 4) (u := 5) (q := 6) rfl rfl rfl rfl (HR3.out _ _ _) (below_row3 HBW.out (by omega) _ _ _) (by rw [HRN.out]; exact ⟨rfl, rfl, rfl, rfl, rfl⟩)
  have HOA : Hid a.ok := (okB_iff a).1 HF.out.1.symm
  have HM6 : Hid (1 ≤ m ∧ m ≤ 6) := (of_decide_eq_true HF.out.2.symm : 1 ≤ m ∧ m ≤ 6)
  have kb := cell_of_row w4 w.heap.size 1 _ _ _ (HX.out w4 HB4.out).1
  by_cases ha0 : a.s = []
  · have he := emp_slice ha0
    have HA00 : Hid (a.s = []) := ha0
    clear ha0
    obtain ⟨f0, c0, f1, c1, f2, c2, r3⟩ := rw3 (HX.out w4 HB4.out).2.1
    have HR3 : Hid _ := r3
    have HBW : Hid (Below w.heap.size w w4) := (HX.out _ HB4.out).2.2
    have HRN : Hid (R = RA.no 0) := by
      show _ = _
      rw [HR.out]; unfold to32A; rw [if_neg (fun h => h ⟨HOA.out, HM6.out⟩), if_pos HA00.out]
    clear r3
    go_wp2
    exact ref_end (p := 4) (u := 5) (q := 6) rfl rfl rfl rfl (HR3.out _ _ _) (below_row3 HBW.out (by omega) _ _ _) (by rw [HRN.out]; exact ⟨rfl, rfl, rfl, rfl, rfl⟩)
  have he := emp_not ha0
  have HA0 : Hid (a.s ≠ []) := ha0
  obtain ⟨o, ho⟩ : ∃ o, o = outG 24 (-149) 104 a.neg m (quoG a oneD) := ⟨_, rfl⟩
  have HO : Hid (o = outG 24 (-149) 104 a.neg m (quoG a oneD)) := ho
  have HRM : Hid (R = ⟨bits32 a.neg o, o.ine, o.ov, o.un, 0⟩) := by
    show _ = _
    rw [HR.out]; unfold to32A
    rw [if_neg (fun h => h ⟨HOA.out, HM6.out⟩), if_neg ha0, ← ho]
  have ka := cell_of_row w4 w.heap.size 0 _ _ _ (HX.out w4 HB4.out).1
  have kc := cell_of_row w4 w.heap.size 2 _ _ _ (HX.out w4 HB4.out).1
  clear ha0 ho
  go_wp2_with fail
  refine (of10_v a HOA.out _).mono ?_
  rintro e w5 ⟨v, M, D, E, rfl, hv, hd, hb5⟩
  have HTO : Hid (∀ W, Below w5.heap.size w5 W → Calls Tryz.prog 37 #[v, .agg #[.int .i64 24, .int .i64 (-149), .int .i64 127], .int .i64 m] W (FlQ a.neg o W)) := fun W hW => by
    rw [HO.out]
    refine doc24 HOA.out HA0.out HM6.out ?_ hd
    obtain ⟨s, t, rfl, n1, n2⟩ := hv
    exact ⟨s, t, rfl, n1.below (Nat.le_refl _) hW, n2.below (Nat.le_refl _) hW⟩
  have HB5 : Hid (Below w2.heap.size w2 w5) := HB4.out.thru hb5
  clear ka kb kc hb5 hv hd HB4
  go_wp2_with fail
  refine (thirty_any _).mono ?_
  rintro e w6 ⟨rfl, hb6⟩
  have HB6 : Hid (Below w5.heap.size w5 w6) := hb6
  clear hb6
  go_wp2_with fail
  refine (HTO.out _ HB6.out).mono ?_
  rintro e w7 ⟨rfl, hb7⟩
  have HB7 : Hid (Below w2.heap.size w2 w7) := (HB5.out.thru HB6.out).thru hb7
  clear hb7 HTO HB6 HB5
  go_upto_region 7 with fail

  obtain ⟨w8, hw8⟩ : ∃ W, W = (w7.alloc (.cells #[.bool a.neg, .bool o.inf, .int .u64 (o.m : Nat), .int .i64 o.e] 62)).alloc (.cells #[.bool o.ine, .bool o.ov, .bool o.un] 27) := ⟨_, rfl⟩
  have HB8 : Hid (Below w2.heap.size w2 w8) := by show Below _ _ _; rw [hw8]; exact (HB7.out.alloc HB7.out.size _).alloc (by have := HB7.out.size; simp; omega) _
  have HR0 : Hid (∀ W, Below w8.heap.size w8 W → W.heap[w7.heap.size]? = some (.cells #[.bool a.neg, .bool o.inf, .int .u64 (o.m : Nat), .int .i64 o.e] 62 (0, 0)) ∧ W.heap[w7.heap.size + 1]? = some (.cells #[.bool o.ine, .bool o.ov, .bool o.un] 27 (0, 0))) := fun W hW => by
    have q0 : w8.heap[w7.heap.size]? = some (.cells #[.bool a.neg, .bool o.inf, .int .u64 (o.m : Nat), .int .i64 o.e] 62 (0, 0)) := by rw [hw8]; exact heap_alloc2_old w7 _ _
    have q1 : w8.heap[w7.heap.size + 1]? = some (.cells #[.bool o.ine, .bool o.ov, .bool o.un] 27 (0, 0)) := by rw [hw8]; exact heap_alloc2_new w7 _ _
    exact ⟨hW.blk q0 (blk_lt q0), hW.blk q1 (blk_lt q1)⟩
  obtain ⟨BB, hBB⟩ : ∃ x, x = bits32 a.neg o := ⟨_, rfl⟩
  have HBT : Hid (∀ W, Calls Tryz.prog 48 #[.agg #[.bool a.neg, .bool o.inf, .int .u64 (o.m : Nat), .int .i64 o.e]] W fun e w' => e = .returned (.int .u32 (BB : Nat)) ∧ Below W.heap.size W w') := fun W => by
    rw [hBB, HO.out]; exact bits32_out a.neg m (quoG a oneD) (quoG_ok oneD_ok oneD_s) W
  have HRB : Hid (R = ⟨BB, o.ine, o.ov, o.un, 0⟩) := by show _ = _; rw [HRM.out, hBB]
  rw [← hw8]
  clear hw8 hBB HB7 he
  have h1 : once [(32, 0), (33, 1), (34, 2), (4, 3)] = true := by kernel_rfl
  have h2 : within [(32, 0), (33, 1), (34, 2), (4, 3)] 35 = true := by kernel_rfl
  refine wp_region_flow 4 6 [(32, 0), (33, 1), (34, 2), (4, 3)] [] (fun i v W => match i with
    | 0 => v = .agg #[.bool a.neg, .bool o.inf, .int .u64 (o.m : Nat), .int .i64 o.e]
    | 1 => v = .int .u32 (BB : Nat)
    | 2 => v = .agg #[.bool o.ine, .bool o.ov, .bool o.un]
    | _ => v = .int .u32 (BB : Nat)) w8.heap.size (Nat.le_refl _) (by kernel_rfl) (by kernel_rfl) (by kernel_rfl) (by decide) (by kernel_rfl) h1 (by kernel_rfl) ?_ ?_ ?_ ?_
  · intro j v W W' h hb
    match j, h with
    | 0, h => exact h
    | 1, h => exact h
    | 2, h => exact h
    | _ + 3, h => exact h
  · exact fun j hj => by cases hj
  · refine ⟨⟨⟨⟨trivial, ?_⟩, ?_⟩, ?_⟩, ?_⟩
    · refine flow_step _ 32 rfl rfl (fun d h => by simpa using h) h1 h2 fun ac xs W he hb hS K hK => ?_
      exact wp_load_row 62 (.tmp 8) rfl w7.heap.size (he 8) _ _ _ _ ((HR0.out W hb).1) Tryz.underlying62 rfl (by kernel_rfl) (hK _ _ rfl (Below.refl _ _) (fun h => absurd h (by decide)))
    · refine flow_step _ 33 rfl rfl (fun d h => by simpa using h) h1 h2 fun ac xs W he hb hS K hK => ?_
      have e0 : ac.eval (.tmp 32) = _ := (he 32).trans (hS 0 (by kernel_rfl))
      refine op_call 48 _ _ rfl _ (by simp only [List.map, e0]) (by go_simp) (HBT.out W) ?_
      rintro e' W' ⟨rfl, hb'⟩
      exact ⟨_, rfl, hK _ _ (rfl) hb' (fun h => absurd h (by decide))⟩
    · refine flow_step _ 34 rfl rfl (fun d h => by simpa using h) h1 h2 fun ac xs W he hb hS K hK => ?_
      exact wp_load_row 27 (.tmp 9) rfl (w7.heap.size + 1) (he 9) _ _ _ _ ((HR0.out W hb).2) Tryz.underlying27 rfl (by kernel_rfl) (hK _ _ rfl (Below.refl _ _) (fun h => absurd h (by decide)))
    · refine flow_step _ 4 rfl rfl (fun d h => by simpa using h) h1 h2 fun ac xs W he hb hS K hK => ?_
      exact op_move (.tmp 33) (.inr rfl) (hK _ _ ((he 33).trans (hS 1 (by kernel_rfl))) (Below.refl _ _) (fun h => absurd h (by decide)))
  · intro xs WL hb hS hD
    have s0 : xs 0 = _ := hS 0 (by decide)
    have s1 : xs 1 = _ := hS 1 (by decide)
    have s2 : xs 2 = _ := hS 2 (by decide)
    have s3 : xs 3 = _ := hS 3 (by decide)
    have HBL : Hid (Below w2.heap.size w2 WL) := HB8.out.thru hb
    obtain ⟨f0, c0, f1, c1, f2, c2, r3⟩ := rw3 (HX.out _ HBL.out).2.1
    have HR3 : Hid _ := r3
    have HBW : Hid (Below w.heap.size w WL) := (HX.out _ HBL.out).2.2
    simp only [layAll, s0, s1, s2, s3, List.setIfInBounds_toArray, List.set_cons_succ, List.set_cons_zero]
    clear hS hD hb r3 s0 s1 s2 s3 h1 h2
    go_wp2
    exact ref_end (p := 4) (u := 5) (q := 6) rfl rfl rfl rfl (HR3.out _ _ _) (below_row3 HBW.out (by omega) _ _ _) (by rw [HRB.out]; exact ⟨rfl, rfl, rfl, rfl, rfl⟩)
end Go.Proofs.YtapahfoebpiajaaGreatDoor
