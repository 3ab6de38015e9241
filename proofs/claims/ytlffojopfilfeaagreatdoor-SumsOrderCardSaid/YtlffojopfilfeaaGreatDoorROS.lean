/- Parts Os, Ot of the proof, in one text. -/
import Derived.Test.YtlffojopfilfeaaGreatDoorROC
import Derived.Test.YtlffojopfilfeaaGreatDoorRRR
import Derived.Test.YtlffojopfilfeaaGreatDoorRMA
import Derived.Test.YtlffojopfilfeaaGreatDoorRQS
import Derived.Test.YtlffojopfilfeaaGreatDoorROA

/- Walks: the document's sort, value, Plus. -/
namespace Go.Proofs.YtlffojopfilfeaaGreatDoor
open Go Go.RowKit

/-- A whole number of the document's sums. -/
def DInt (w : World) (v : Value) (V : Int) : Prop := ∃ s N a m c, v = .agg #[.bool s, .slice a m c] ∧ Num .u32 4294967296 w (.slice a m c) N ∧ V = sg s N
theorem DInt.below {w w' : World} {v : Value} {V : Int} (h : DInt w v V) (hb : Below w.heap.size w w') : DInt w' v V := by
  obtain ⟨s, N, a, m, c, rfl, hn, hv⟩ := h; exact ⟨s, N, a, m, c, rfl, hn.below (Nat.le_refl _) hb, hv⟩
theorem NatQ.shape {N : Nat} {w w' : World} {e : Ending} (h : NatQ N w e w') : ∃ a m c, e = .returned (.slice a m c) ∧ Num .u32 4294967296 w' (.slice a m c) N ∧ Below w.heap.size w w' := by
  obtain ⟨v, rfl, hn, hb⟩ := h
  obtain ⟨a, m, c, rfl⟩ := hn.shape
  exact ⟨a, m, c, rfl, hn, hb⟩
end Go.Proofs.YtlffojopfilfeaaGreatDoor

/- Walks: the document's Put, Product. -/
namespace Go.Proofs.YtlffojopfilfeaaGreatDoor
open Go Go.RowKit

def DocT (w : World) (g : Nat) (T : List Term1) : Prop := DocRow w g (cntT T) (sumT T)
/-- Terms as they may be. -/
def FitD (T : List Term1) : Prop := Five T ∧ Small T ∧ T.length < 4611686018427387904
theorem FitD.room {T : List Term1} (h : FitD T) : (sumT T).natAbs < 2 ^ (64 + LQ) := sum_room h.2.1 (by have := h.2.2; omega)
theorem DocT.put {w : World} {g : Nat} {T : List Term1} {t : Term1} (h : DocRow w g (upd (cntT T) t.1 (cntT T t.1 + 1)) (sumT T + t.2)) : DocT w g (T ++ [t]) := by
  refine DocRow.congr h (fun k _ => ?_) (by rw [sumT_snoc])
  rw [cntT_snoc]
  unfold upd
  by_cases hk : k = t.1
  · subst hk; simp
  · rw [if_neg hk, if_neg (Ne.symm hk)]; rfl
theorem DocT.below {w w' : World} {g : Nat} {T : List Term1} (h : DocT w g T) (hb : Below w.heap.size w w') : DocT w' g T := DocRow.below h hb
theorem DocT.lt {w : World} {g : Nat} {T : List Term1} (h : DocT w g T) : g < w.heap.size := DocRow.lt h
end Go.Proofs.YtlffojopfilfeaaGreatDoor
