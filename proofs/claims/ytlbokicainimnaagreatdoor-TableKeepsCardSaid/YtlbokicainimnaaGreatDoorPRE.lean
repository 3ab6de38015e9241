import Derived.Test.YtlbokicainimnaaGreatDoorPRA
import Derived.WalkMore
import Derived.Lib.LaidTab
namespace Go.Proofs.YtlbokicainimnaaGreatDoor
open Go.RowKit
theorem mkD_sg (s : Bool) (n : Nat) (e : Int) : mkD (sg s n) e = ⟨madeS s n e, madeL n e, madeE n e⟩ ∧ mkX (sg s n) e = madeX n e := by
 unfold mkD mkX
 rw [sg_natAbs]
 refine ⟨?_, rfl⟩
 rcases Nat.eq_zero_or_pos n with h | h
 ·rw [(made_none (neg := s) (.inl h)).1, (made_none (neg := decide (sg s n < 0)) (.inl h)).1]
 ·have : decide (sg s n < 0) = s := by
   cases s
   ·simp [sg]
   ·simp [sg]; omega
  rw [this]
theorem of_mk {b : Nat} (h : spX b = 0) : ofD b = mkD (sg (spS b) (ofN b)) (ofE b) ∧ ofX b = mkX (sg (spS b) (ofN b)) (ofE b) := by
 obtain ⟨h1, h2⟩ := mkD_sg (spS b) (ofN b) (ofE b)
 unfold ofD ofX
 rw [if_pos h, if_pos h, h1, h2]
 exact ⟨rfl, rfl⟩
theorem of_fin {b : Nat} (h : spX b = 0) : finB b = true := by
 cases hf : finB b with
 | true => rfl
 | false => obtain ⟨-, -, -, h4⟩ := sp_not b hf; omega
theorem of_val {b : Nat} (hx : spX b = 0) : sg (spS b) (ofN b) * 10 ^ (ofE b - -(LP : Int)).toNat = valB b * 5 ^ LP ∧ -(LP : Int) ≤ ofE b := by
 have hl := LP_eq
 have hf := of_fin hx
 obtain ⟨r1, r2, -⟩ := sp_bd b
 refine ⟨?_, by unfold ofE; split <;> omega⟩
 rw [valB_sp b hf]
 have h1 : (sg (spS b) (ofN b) : Int) * 10 ^ (ofE b - -(LP : Int)).toNat = sg (spS b) (ofN b * 10 ^ (ofE b - -(LP : Int)).toNat) := by rw [sg_mul]; push_cast; rfl
 have h5 : ∀ N : Nat, sg (spS b) N * (5 : Int) ^ LP = sg (spS b) (N * 5 ^ LP) := fun N => by rw [sg_mul]; push_cast; rfl
 rw [h1, h5]
 congr 1
 have h10 : ∀ k : Nat, (10 : Nat) ^ k = 2 ^ k * 5 ^ k := fun k => by rw [← Nat.mul_pow]
 rw [h10]
 by_cases h0 : 0 ≤ spE b
 ·unfold ofN ofE
  rw [if_pos h0, if_pos h0, show ((0 : Int) - -(LP : Int)).toNat = LP by omega, show (spE b + (LP : Int)).toNat = (spE b).toNat + LP by omega, Nat.pow_add]
  simp only [Nat.mul_comm, Nat.mul_left_comm, Nat.mul_assoc]
 ·unfold ofN ofE
  rw [if_neg h0, if_neg h0, show (spE b - -(LP : Int)).toNat = (spE b + LP).toNat by omega]
  have : (5 : Nat) ^ LP = 5 ^ (-spE b).toNat * 5 ^ (spE b + LP).toNat := by rw [← Nat.pow_add]; congr 1; omega
  rw [this]
  simp only [Nat.mul_comm, Nat.mul_left_comm, Nat.mul_assoc]
theorem of_rep {b : Nat} (h : ofX b = 0) : Rep (ofD b) (valB b * 5 ^ LP) (-(LP : Int)) ∧ finB b = true := by
 have hx : spX b = 0 := by
  rcases spX_cases b with e | e
  ·exact e
  ·unfold ofX at h; rw [if_neg (by omega)] at h; omega
 refine ⟨?_, of_fin hx⟩
 obtain ⟨h1, h2⟩ := of_mk hx
 rw [h1]
 rw [h2] at h
 obtain ⟨e, hE⟩ := of_val hx
 rw [← e]
 exact (rep_mk h).at (-(LP : Int)) hE
theorem five_pos (k : Nat) : (0 : Int) < 5 ^ k := Int.pow_pos (by decide)
theorem val_scale (X Y : Int) (k : Nat) : (X * 5 ^ k < Y * 5 ^ k ↔ X < Y) ∧ (X * 5 ^ k = Y * 5 ^ k ↔ X = Y) := by
 have h := five_pos k
 refine ⟨Int.mul_lt_mul_right h, ⟨fun e => Int.eq_of_mul_eq_mul_right (Int.ne_of_gt h) e, fun e => by rw [e]⟩⟩
theorem of_cmp {a b : Nat} (ha : ofX a = 0) (hb : ofX b = 0) : cmpV (ofD a) (ofD b) = (if valB a = valB b then 0 else if valB a < valB b then -1 else 1) ∧ (ofD a = ofD b ↔ valB a = valB b) ∧ ((ofD a).neg = decide (valB a < 0)) := by
 obtain ⟨h1, f1⟩ := of_rep ha
 obtain ⟨h2, f2⟩ := of_rep hb
 obtain ⟨s1, s2⟩ := val_scale (valB a) (valB b) LP
 refine ⟨?_, ⟨fun e => ?_, fun e => ?_⟩, ?_⟩
 ·rw [cmp_rep h1 h2]
  simp only [s1, s2]
 ·rw [← s2]
  rw [e] at h1
  exact (rep_cmp h1 h2 (ofD b).e (ofD b).v (ofD b).v (rep_self h1.ok) (rep_self h1.ok)).2.1 rfl
 ·rw [e] at h1
  exact h1.uniq h2
 ·rw [ok_sign h1.ok]
  have := (rep_cmp h1 (rep_none (-(LP : Int))) (ofD a).e (ofD a).v 0 (rep_self h1.ok) (rep_none _)).1
  rw [decide_eq_decide, this]
  have := (val_scale (valB a) 0 LP).1
  rwa [Int.zero_mul] at this
theorem laid_mem {P : Program} {W : World} : ∀ {l : List (String × DataW Unit)} {ps : List MemPlace}, DataW.LaidVars P W l ps → ∀ {n : String} {d : DataW Unit}, (n, d) ∈ l →
  ∃ g t cs fuel p, P.globalNamed n = some g ∧ (P.globals[g]?).map (·.type) = some t ∧ W.var? P n = some cs ∧ DataW.trod (fun _ => ()) P W 0 (fun _ => true) false fuel t cs.toList = some (d, p)
 | [], _, _, _, _, hm => by cases hm
 | (n', d') :: r, ps, h, n, d, hm => by
   obtain ⟨g, t, cs, fuel, p, q, h1, h2, h3, h4, h5, -⟩ := h
   rcases List.mem_cons.1 hm with e | hm
   ·cases e
    exact ⟨g, t, cs, fuel, p, h1, h2, h3, h4⟩
   ·exact laid_mem h5 hm
theorem tabIs_mem {P : Program} {W : World} {l : List (String × DataW Unit)} {name : String} {k : IntKind} {zs : List Int} {g : Nat} {t e : TypeId} {n : Nat}
  (hg : P.globalNamed name = some g) (hty : (P.globals[g]?).map (·.type) = some t) (ht : P.underlying t = some (.array n e)) (he : P.underlying e = some (.int k)) (hce : P.cellsOf e = 1) (hct : P.cellsOf t = n)
  (h : laidMet P l W) (hm : (name, Lib.tabData k zs) ∈ l) : Lib.TabIs P W name k zs := by
 obtain ⟨ps, hl, -⟩ := h
 obtain ⟨g', t', cs, fuel, p, h1, h2, h3, h4⟩ := laid_mem hl hm
 obtain rfl := Option.some.inj (hg.symm.trans h1)
 obtain rfl := Option.some.inj (hty.symm.trans h2)
 unfold Lib.TabIs
 rw [h3, ← Lib.cells_of_tab ht he hce hct h4]
theorem bs_inj {l r : List UInt8} : (bs l).toList = (bs r).toList ↔ l = r := by
 simp [ByteArray.toList_eq, bs]
end Go.Proofs.YtlbokicainimnaaGreatDoor
