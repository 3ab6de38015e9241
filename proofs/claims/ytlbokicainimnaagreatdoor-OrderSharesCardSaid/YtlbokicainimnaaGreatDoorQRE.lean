import Derived.Test.YtlbokicainimnaaGreatDoorQRA
namespace Go.Proofs.YtlbokicainimnaaGreatDoor
open Go.RowKit
theorem mkD_sg (s : Bool) (n : Nat) (e : Int) : mkD (sg s n) e = ⟨madeS s n e,madeL n e,madeE n e⟩ ∧ mkX (sg s n) e = madeX n e:=by
 unfold mkD mkX
 rw [sg_natAbs]
 refine ⟨?_,rfl⟩
 rcases Nat.eq_zero_or_pos n with h | h
 ·rw [(made_none (neg:=s) (.inl h)).1,(made_none (neg:=decide (sg s n < 0)) (.inl h)).1]
 ·have : decide (sg s n < 0) = s := by
   cases s
   ·simp [sg]
   ·simp [sg]; omega
  rw [this]
theorem of_mk {b : Nat} (h : spX b = 0) : ofD b = mkD (sg (spS b) (ofN b)) (ofE b) ∧ ofX b = mkX (sg (spS b) (ofN b)) (ofE b):=by
 obtain ⟨h1,h2⟩:=mkD_sg (spS b) (ofN b) (ofE b)
 unfold ofD ofX
 rw [if_pos h,if_pos h,h1,h2]
 exact ⟨rfl,rfl⟩
theorem of_fin {b : Nat} (h : spX b = 0) : finB b = true:=by
 cases hf : finB b with
 | true=>rfl
 | false=>obtain ⟨-,-,-,h4⟩:=sp_not b hf; omega
theorem ten_pow (k : Nat) : (10 : Int) ^ k = 2 ^ k * 5 ^ k:=by rw [← Int.mul_pow]; rfl
theorem of_val {b : Nat} (hx : spX b = 0) : sg (spS b) (ofN b) * 10 ^ (ofE b - -(LP : Int)).toNat = valB b * 5 ^ LP ∧ -(LP : Int) ≤ ofE b:=by
 have hl:=LP_eq
 have hf:=of_fin hx
 obtain ⟨r1,r2,-⟩:=sp_bd b
 refine ⟨?_,by unfold ofE; split <;> omega⟩
 rw [valB_sp b hf]
 have h1 : (sg (spS b) (ofN b) : Int) * 10 ^ (ofE b - -(LP : Int)).toNat = sg (spS b) (ofN b * 10 ^ (ofE b - -(LP : Int)).toNat):=by rw [sg_mul]; push_cast; rfl
 have h5 : ∀ N : Nat,sg (spS b) N * (5 : Int) ^ LP = sg (spS b) (N * 5 ^ LP):=fun N=>by rw [sg_mul]; push_cast; rfl
 rw [h1,h5]
 congr 1
 have h10 : ∀ k : Nat,(10 : Nat) ^ k = 2 ^ k * 5 ^ k:=fun k=>by rw [← Nat.mul_pow]
 rw [h10]
 by_cases h0 : 0 ≤ spE b
 ·unfold ofN ofE
  rw [if_pos h0,if_pos h0,show ((0 : Int) - -(LP : Int)).toNat = LP by omega,show (spE b + (LP : Int)).toNat = (spE b).toNat + LP by omega,Nat.pow_add]
  simp only [Nat.mul_comm,Nat.mul_left_comm,Nat.mul_assoc]
 ·unfold ofN ofE
  rw [if_neg h0,if_neg h0,show (spE b - -(LP : Int)).toNat = (spE b + LP).toNat by omega]
  have : (5 : Nat) ^ LP = 5 ^ (-spE b).toNat * 5 ^ (spE b + LP).toNat:=by rw [← Nat.pow_add]; congr 1; omega
  rw [this]
  simp only [Nat.mul_comm,Nat.mul_left_comm,Nat.mul_assoc]
theorem of_rep {b : Nat} (h : ofX b = 0) : Rep (ofD b) (valB b * 5 ^ LP) (-(LP : Int)) ∧ finB b = true:=by
 have hx : spX b = 0:=by
  rcases spX_cases b with e | e
  ·exact e
  ·unfold ofX at h; rw [if_neg (by omega)] at h; omega
 refine ⟨?_,of_fin hx⟩
 obtain ⟨h1,h2⟩:=of_mk hx
 rw [h1]
 rw [h2] at h
 obtain ⟨e,hE⟩:=of_val hx
 rw [← e]
 exact (rep_mk h).at (-(LP : Int)) hE
theorem int_room {n : Int} (h : n.natAbs < 10 ^ 30) : Rep (mkD n 0) n 0:=rep_mk (mk_room (m:=30) h (by decide) (by decide) (by decide))
theorem sg_word' (s : Bool) (r : Nat) (hr : r < 9223372036854775808) : W64 (sgW s + r) ∧ sgnB (sgW s + r) = s ∧ absB (sgW s + r) = r:=by
 unfold W64 sgW sgnB absB; cases s <;> simp <;> omega
theorem laid_mem {P : Program} {W : World} : ∀ {l : List (String × DataW Unit)} {ps : List MemPlace}, DataW.LaidVars P W l ps → ∀ {n : String} {d : DataW Unit}, (n, d) ∈ l →
  ∃ g t cs fuel p,P.globalNamed n = some g ∧ (P.globals[g]?).map (·.type) = some t ∧ W.var? P n = some cs ∧ DataW.trod (fun _=>()) P W 0 (fun _=>true) false fuel t cs.toList = some (d,p)
 | [],_,_,_,_,hm=>by cases hm
 | (n', d') :: r, ps, h, n, d, hm => by
   obtain ⟨g,t,cs,fuel,p,q,h1,h2,h3,h4,h5,-⟩:=h
   rcases List.mem_cons.1 hm with e | hm
   ·cases e
    exact ⟨g,t,cs,fuel,p,h1,h2,h3,h4⟩
   ·exact laid_mem h5 hm
theorem tabIs_mem {P : Program} {W : World} {l : List (String × DataW Unit)} {name : String} {k : IntKind} {zs : List Int} {g : Nat} {t e : TypeId} {n : Nat}
  (hg : P.globalNamed name = some g) (hty : (P.globals[g]?).map (·.type) = some t) (ht : P.underlying t = some (.array n e)) (he : P.underlying e = some (.int k)) (hce : P.cellsOf e = 1) (hct : P.cellsOf t = n)
  (h : laidMet P l W) (hm : (name,Lib.tabData k zs) ∈ l) : Lib.TabIs P W name k zs:=by
 obtain ⟨ps,hl,-⟩:=h
 obtain ⟨g',t',cs,fuel,p,h1,h2,h3,h4⟩:=laid_mem hl hm
 obtain rfl:=Option.some.inj (hg.symm.trans h1)
 obtain rfl:=Option.some.inj (hty.symm.trans h2)
 unfold Lib.TabIs
 rw [h3,← Lib.cells_of_tab ht he hce hct h4]
theorem bs_inj {l r : List UInt8} : (bs l).toList = (bs r).toList ↔ l = r:=by
 simp [ByteArray.toList_eq,bs]
end Go.Proofs.YtlbokicainimnaaGreatDoor
