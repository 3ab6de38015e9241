/- Parts Au of the proof, in one text. -/
import Derived.Test.YtapahfoebpiajaaGreatDoorSAT
import Derived.Test.YtapahfoebpiajaaGreatDoorSAN
import Derived.Test.YtapahfoebpiajaaGreatDoorSQC
import Derived.Test.YtapahfoebpiajaaGreatDoorSRR
import Derived.Test.YtapahfoebpiajaaGreatDoorSQD
import Derived.Lib.Hide
import Derived.Test.YtapahfoebpiajaaGreatDoorSQA
import Derived.Test.YtapahfoebpiajaaGreatDoorRows
import Derived.Test.YtapahfoebpiajaaGreatDoorSQE
import Derived.BigRegion
import Derived.Test.YtapahfoebpiajaaGreatDoorSQW

/- Walks: the document's Valid, mode, the kind of singles, the bits of a float. -/
namespace Go.Proofs.YtapahfoebpiajaaGreatDoor
open Go.RowKit
open Go.Lib hiding intOf

theorem byte_eq3 (c : UInt8) : (((c.toNat : Nat) : Int) == 48) = (c == 48) := by
  rw [Bool.eq_iff_iff]
  simp only [beq_iff_eq]
  constructor
  · intro h
    exact UInt8.toNat_inj.1 (by have : (48 : UInt8).toNat = 48 := rfl; omega)
  · intro h; subst h; rfl
theorem take_dig {l : List UInt8} {j : Nat} (h : allDig (l.take j)) (hj : j < l.length) (hc : isDig l[j] = true) : allDig (l.take (j + 1)) := by
  intro c hcc
  rw [List.take_succ_eq_append_getElem hj, List.mem_append, List.mem_singleton] at hcc
  rcases hcc with hcc | hcc
  · exact h c hcc
  · rw [hcc]; exact hc

set_option maxRecDepth 100000 in
theorem rvalid3_any (ng : Bool) (s : ByteArray) (e : Int) (w : World) (hs : s.size ≤ 9223372036854775807) :
    Calls Tryz.prog 21 #[.agg #[.bool ng, .string s, .int .i64 e]] w fun en w' => en = .returned (.bool (⟨ng, bl s, e⟩ : Dc).okB) ∧ Below w.heap.size w w' := by
  obtain ⟨r, hr⟩ : ∃ r, r = (⟨ng, bl s, e⟩ : Dc).okB := ⟨_, rfl⟩
  rw [← hr]
  have hb0 : Below w.heap.size w (w.alloc (.cells #[.bool ng, .string s, .int .i64 e] 23)) := (Below.refl _ _).alloc (Nat.le_refl _) _
  have q0 := new_blk w (.cells #[.bool ng, .string s, .int .i64 e] 23)
  have HB0 : Hid _ := hb0
  have c0 := cell_of_row _ _ 0 _ _ _ q0
  have c1 := cell_of_row _ _ 1 _ _ _ q0
  have c2 := cell_of_row _ _ 2 _ _ _ q0
  clear hb0 q0
  by_cases h0 : s.size = 0
  · have hl : bl s = [] := List.eq_nil_of_length_eq_zero (by rw [bl_len]; exact h0)
    rw [hl, okB_nil] at hr
    have he : s = ⟨#[]⟩ := bl_inj hl
    subst he
    have HR : Hid _ := hr
    clear hr hl h0 hs
    by_cases he : e = 0
    · subst he
      cases ng
      · go_enter Tryz.func21, Tryz.ntmps21
        go_wp2
        go_ret
        exact ⟨by rw [HR.out]; rfl, HB0.out⟩
      · go_enter Tryz.func21, Tryz.ntmps21
        go_wp2
        go_ret
        exact ⟨by rw [HR.out]; rfl, HB0.out⟩
    · have HE : Hid (¬ e = 0) := he
      have he' : (e == 0) = false := by simpa using he
      go_enter Tryz.func21, Tryz.ntmps21
      go_wp2
      go_ret
      exact ⟨by rw [HR.out, decide_eq_false HE.out, Bool.and_false]; rfl, HB0.out⟩
  · have hl : bl s ≠ [] := fun e => h0 (by rw [← bl_len, e]; rfl)
    have hp : 0 < s.size := by omega
    rw [okB_cons _ _ _ hl, bl_len] at hr
    have hh : (bl s).headD 0 = s[0]'hp := by
      rw [bl_get s 0 hp]; exact head_get _ _
    have hla : (bl s).getLastD 0 = s[s.size - 1]'(by omega) := by
      rw [bl_get s _ (by omega), List.getLastD_eq_getLast?, List.getLast?_eq_getElem?]
      have : (bl s).length - 1 < (bl s).length := by rw [bl_len]; omega
      rw [List.getElem?_eq_getElem this]; rfl
    rw [hh, hla] at hr
    have hw : IntKind.i64.wrap ((s.size : Int) - 1) = ((s.size - 1 : Nat) : Int) := by rw [IntWalk.i64_in _ (by omega)]; omega
    have hq1 : s.size - 1 < s.size := by omega
    obtain ⟨q0, hq0⟩ : ∃ q, q = (s[0]'hp == 48) := ⟨_, rfl⟩
    obtain ⟨q1, hq1e⟩ : ∃ q, q = (s[s.size - 1]'hq1 == 48) := ⟨_, rfl⟩
    obtain ⟨al, hal⟩ : ∃ q, q = (bl s).all isDig := ⟨_, rfl⟩
    rw [← hq0, ← hq1e, ← hal] at hr
    have hi0 : ((((s[0]'hp).toNat : Nat) : Int) == 48) = q0 := by rw [hq0]; exact byte_eq3 _
    have hi1 : ((((s[s.size - 1]'hq1).toNat : Nat) : Int) == 48) = q1 := by rw [hq1e]; exact byte_eq3 _
    have HR : Hid _ := hr
    have HAL : Hid (al = (bl s).all isDig) := hal
    have hz : ((s.size : Int) == 0) = false := by rw [beq_eq_false_iff_ne]; omega
    clear hr hh hla hl hq0 hq1e hal h0
    by_cases k1 : s.size ≤ 8192
    case neg =>
      have k1' : (8192 : Int) < (s.size : Int) := by omega
      have K1 : Hid (¬ s.size ≤ 8192) := k1
      clear k1
      go_enter Tryz.func21, Tryz.ntmps21
      go_wp2
      go_ret
      exact ⟨by rw [HR.out, decide_eq_false K1.out]; rfl, HB0.out⟩
    case pos =>
    have k1' : ¬ (8192 : Int) < (s.size : Int) := by omega
    have K1 : Hid (s.size ≤ 8192) := k1
    by_cases k2 : -20000 ≤ e
    case neg =>
      have k2' : e < -20000 := by omega
      have K2 : Hid (decide (-20000 ≤ e) = false) := decide_eq_false k2
      clear k2
      go_enter Tryz.func21, Tryz.ntmps21
      go_wp2
      go_ret
      exact ⟨by rw [HR.out, K2.out, Bool.false_and, Bool.and_false, Bool.and_false, Bool.and_false, Bool.and_false]; rfl, HB0.out⟩
    case pos =>
    have k2' : ¬ e < -20000 := by omega
    have K2 : Hid (-20000 ≤ e) := k2
    clear k2
    by_cases k3 : e ≤ 20000
    case neg =>
      have k3' : 20000 < e := by omega
      have K3 : Hid (decide (e ≤ 20000) = false) := decide_eq_false k3
      clear k3
      go_enter Tryz.func21, Tryz.ntmps21
      go_wp2
      go_ret
      exact ⟨by rw [HR.out, K3.out, Bool.and_false, Bool.and_false, Bool.and_false, Bool.and_false, Bool.and_false]; rfl, HB0.out⟩
    case pos =>
    have k3' : ¬ 20000 < e := by omega
    have K3 : Hid (e ≤ 20000) := k3
    clear k3
    cases q0
    case true =>
      go_enter Tryz.func21, Tryz.ntmps21
      go_wp2
      go_ret
      exact ⟨by rw [HR.out, Bool.not_true, Bool.false_and, Bool.and_false, Bool.and_false]; rfl, HB0.out⟩
    case false =>
    cases q1
    case true =>
      go_enter Tryz.func21, Tryz.ntmps21
      go_wp2
      go_ret
      exact ⟨by rw [HR.out, Bool.not_true, Bool.false_and, Bool.and_false, Bool.and_false, Bool.and_false]; rfl, HB0.out⟩
    case false =>
    have HRA : Hid (r = al) := by
      show r = al
      rw [HR.out, decide_eq_true K1.out, decide_eq_true K2.out, decide_eq_true K3.out]; simp
    obtain ⟨w1, hw1⟩ : ∃ w1, w1 = w.alloc (.cells #[.bool ng, .string s, .int .i64 e] 23) := ⟨_, rfl⟩
    clear HR
    go_enter Tryz.func21, Tryz.ntmps21
    go_upto_region 7 with fail
    rw [← hw1] at c0 c1 c2 HB0 ⊢
    clear hw1 hi0 hi1 k2' k3' k1' hw
    go_loopw [4] (fun i wr => ∃ j : Nat, j ≤ s.size ∧ i = .int .i64 (j : Nat) ∧ wr = w1 ∧ allDig ((bl s).take j)) (fun i _ => s.size - (intOf i).toNat)
    case atStart => exact ⟨0, Nat.zero_le _, by first | rfl | go_num, rfl, fun c hc => by simp at hc⟩
    case round =>
      obtain ⟨j, hj, rfl, rfl, hd⟩ := hrel
      have HD : Hid (allDig ((bl s).take j)) := hd
      clear hd
      by_cases hjs : j < s.size
      · have hjl : j < (bl s).length := by rw [bl_len]; exact hjs
        obtain ⟨x, hx⟩ : ∃ x, x = s[j]'hjs := ⟨_, rfl⟩
        have HXB : Hid (x = (bl s)[j]'hjl) := by show _ = _; rw [hx, bl_get]
        obtain ⟨n, hn⟩ : ∃ n, n = x.toNat := ⟨_, rfl⟩
        have hidx : (s[j]'hjs).toNat = n := by rw [hn, hx]
        have HNX : Hid (n = x.toNat) := hn
        have hii := isDig_iff x
        rw [← hn] at hii
        have HBAD : Hid (isDig x = false → r = false) := fun hb => by
          rw [HRA.out, HAL.out, List.all_eq_false]
          exact ⟨x, by rw [HXB.out]; exact List.getElem_mem _, by rw [hb]; decide⟩
        have HLT : Hid (j < (bl s).length) := hjl
        clear hx hn
        by_cases g1 : n < 48
        · have g1' : (n : Int) < 48 := by omega
          have HF : Hid (isDig x = false) := by
            show _ = _
            cases hdd : isDig x
            · rfl
            · exact absurd (hii.1 hdd).1 (by omega)
          clear hii
          go_wp2
          go_ret
          exact ⟨by rw [HBAD.out HF.out]; rfl, HB0.out⟩
        · have g1' : ¬ (n : Int) < 48 := by omega
          by_cases g2 : 57 < n
          · have g2' : (57 : Int) < (n : Int) := by omega
            have HF : Hid (isDig x = false) := by
              show _ = _
              cases hdd : isDig x
              · rfl
              · exact absurd (hii.1 hdd).2 (by omega)
            clear hii
            go_wp2
            go_ret
            exact ⟨by rw [HBAD.out HF.out]; rfl, HB0.out⟩
          · have g2' : ¬ (57 : Int) < (n : Int) := by omega
            have HT : Hid (isDig x = true) := hii.2 ⟨by omega, by omega⟩
            clear hii
            go_wp2
            go_roundw
            case rel =>
              have hk := take_dig HD.out HLT.out (by rw [← HXB.out]; exact HT.out)
              first
                | exact ⟨j + 1, by omega, by go_num, rfl, hk⟩
                | exact ⟨j + 1, by omega, by go_num, trivial, hk⟩
            case measure => simp [intOf]; omega
      · have hjs' : j = s.size := by omega
        subst hjs'
        have HT : Hid (r = true) := by
          show _ = _
          rw [HRA.out, HAL.out, List.all_eq_true]
          have := HD.out
          rw [List.take_of_length_le (by rw [bl_len]; omega)] at this
          exact this
        go_wp2
        go_ret
        exact ⟨by rw [HT.out]; rfl, HB0.out⟩
theorem rvalid3_v (d : Dc) (w : World) (hs : d.s.length ≤ 9223372036854775807) : Calls Tryz.prog 21 #[dcV d] w fun en w' => en = .returned (.bool d.okB) ∧ Below w.heap.size w w' := by
  have := rvalid3_any d.neg (bs d.s) d.e w hs
  rwa [bl_bs] at this

end Go.Proofs.YtapahfoebpiajaaGreatDoor
