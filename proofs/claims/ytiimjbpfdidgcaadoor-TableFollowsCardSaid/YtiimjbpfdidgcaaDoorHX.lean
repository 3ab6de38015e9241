/- Parts Iv of the proof, in one text. -/
import Derived.Test.YtiimjbpfdidgcaaDoorRows
import Derived.RegionTactic
import Derived.Deep.RegionHeld3
import Derived.Laws.CopyOwn

/- A region that draws its order, by an invariant that says of each operation what holds once it is done: each operation is stepped once, whatever the order. Of no program. -/
namespace Go.Proofs.YtiimjbpfdidgcaaDoor
open Go

/-- Operation i is done. -/
def Did (l : Array Bool) (i : Nat) : Prop := l.getD i false = true
/-- What must be done ahead of operation i. -/
def needs (md : Region.Mode) (ops : Array Oper) (i : Nat) : List Nat := ((ops[i]?).map fun o => (o.after.toList.filter fun e => Region.binds md e).map (·.on)).getD []
/-- What must be done ahead of an operation stands ahead of it. -/
def topo (md : Region.Mode) (ops : Array Oper) : Bool := (List.range ops.size).all fun i => (needs md ops i).all fun j => decide (j < i)
/-- How many of the first n are not done. -/
def cnt (l : Array Bool) : Nat → Nat
  | 0 => 0
  | n + 1 => cnt l n + (if l.getD n true then 0 else 1)
def AllBelow (p : Nat → Prop) : Nat → Prop
  | 0 => True
  | n + 1 => AllBelow p n ∧ p n
theorem AllBelow.at {p : Nat → Prop} : ∀ {n : Nat}, AllBelow p n → ∀ i, i < n → p i
  | n + 1, h, i, hi => if e : i = n then e ▸ h.2 else AllBelow.at h.1 i (by omega)

theorem did_set {l : Array Bool} {i : Nat} (h : i < l.size) (j : Nat) : Did (l.setIfInBounds i true) j ↔ (j = i ∨ Did l j) := by
  unfold Did
  rw [Array.getD_eq_getD_getElem?, Array.getD_eq_getD_getElem?, Array.getElem?_setIfInBounds]
  by_cases e : i = j
  · subst e; simp [h]
  · rw [if_neg e]
    constructor
    · exact .inr
    · rintro (rfl | h)
      · exact absurd rfl e
      · exact h
theorem getD_set {l : Array Bool} {i : Nat} (h : i < l.size) (j : Nat) : (l.setIfInBounds i true).getD j true = if j = i then true else l.getD j true := by
  rw [Array.getD_eq_getD_getElem?, Array.getD_eq_getD_getElem?, Array.getElem?_setIfInBounds]
  by_cases e : i = j
  · subst e; simp [h]
  · rw [if_neg e, if_neg (fun h => e h.symm)]
theorem not_did {l : Array Bool} {i : Nat} (h : l.getD i true = false) : ¬ Did l i ∧ i < l.size := by
  unfold Did
  rw [Array.getD_eq_getD_getElem?] at h ⊢
  rcases Nat.lt_or_ge i l.size with g | g
  · rw [Array.getElem?_eq_getElem g] at h ⊢
    simp at h ⊢
    exact ⟨h, g⟩
  · rw [Array.getElem?_eq_none g] at h
    simp at h
theorem did_of {l : Array Bool} {i : Nat} (h : l.getD i true = true) (hi : i < l.size) : Did l i := by
  unfold Did
  rw [Array.getD_eq_getD_getElem?, Array.getElem?_eq_getElem hi] at h ⊢
  exact h

theorem cnt_le (l : Array Bool) : ∀ n, cnt l n ≤ n
  | 0 => Nat.le_refl _
  | n + 1 => by have := cnt_le l n; unfold cnt; split <;> omega
theorem cnt_set_ge {l : Array Bool} {i : Nat} (h : i < l.size) : ∀ n, cnt (l.setIfInBounds i true) n ≤ cnt l n
  | 0 => Nat.le_refl _
  | n + 1 => by
    have := cnt_set_ge h n
    unfold cnt
    rw [getD_set h]
    by_cases e : n = i
    · rw [if_pos e]; simp; omega
    · rw [if_neg e]; omega
theorem cnt_set {l : Array Bool} {i : Nat} (h : l.getD i true = false) : ∀ n, i < n → cnt (l.setIfInBounds i true) n + 1 ≤ cnt l n
  | n + 1, hi => by
    have hs := (not_did h).2
    unfold cnt
    rw [getD_set hs]
    by_cases e : n = i
    · subst e
      have := cnt_set_ge hs n
      rw [if_pos rfl, h]; simp; omega
    · have := cnt_set h n (by omega)
      rw [if_neg e]; omega
theorem cnt_zero {l : Array Bool} : ∀ n, cnt l n = 0 → ∀ i, i < n → l.getD i true = true
  | n + 1, h, i, hi => by
    unfold cnt at h
    by_cases e : i = n
    · subst e
      cases g : l.getD i true
      · rw [g] at h; simp at h
      · rfl
    · exact cnt_zero n (by omega) i (by omega)

section
variable {P : Program} {ops : Array Oper} {Q : Exit → Act → World → Prop} {md : Region.Mode} {l : Array Bool}

theorem mem_ready {i : Nat} : i ∈ Region.ready md ops l ↔ (i < ops.size ∧ l.getD i true = false ∧ ∀ j, (needs md ops i).contains j = true → Did l j) := by
  unfold Region.ready
  rw [List.mem_filter, List.mem_range, Bool.and_eq_true]
  refine and_congr_right fun hi => and_congr (by simp) ?_
  unfold needs
  rw [Array.getElem?_eq_getElem hi]
  simp only [Option.map_some, Option.getD_some, Array.all_eq_true_iff_forall_mem]
  constructor
  · intro h j hj
    rw [List.contains_iff_mem, List.mem_map] at hj
    obtain ⟨e, he, rfl⟩ := hj
    rw [List.mem_filter] at he
    have := h e (by simpa using he.1)
    rw [he.2] at this
    unfold Did
    simpa using this
  · intro h e he
    cases hb : Region.binds md e
    · simp
    · have := h e.on (by rw [List.contains_iff_mem, List.mem_map]; exact ⟨e, by rw [List.mem_filter]; exact ⟨by simpa using he, hb⟩, rfl⟩)
      unfold Did at this
      simpa using this

theorem all_did (ht : topo md ops = true) (hl : l.size = ops.size) (h : Region.ready md ops l = []) : ∀ i, i < ops.size → Did l i := by
  intro i
  induction i using Nat.strongRecOn with
  | ind i ih =>
    intro hi
    cases g : l.getD i true
    · have : i ∈ Region.ready md ops l := mem_ready.2 ⟨hi, g, fun j hj => by
        unfold topo at ht
        rw [List.all_eq_true] at ht
        have h1 := ht i (List.mem_range.2 hi)
        rw [List.all_eq_true] at h1
        have h2 := h1 j (by rwa [List.contains_iff_mem] at hj)
        have h3 : j < i := by simpa using h2
        exact ih j h3 (by omega)⟩
      rw [h] at this
      cases this
    · exact did_of g (by omega)

/-- What is done has all done that must be ahead of it. -/
def Shut (md : Region.Mode) (ops : Array Oper) (l : Array Bool) : Prop := ∀ i j, (needs md ops i).contains j = true → Did l i → Did l j
theorem Shut.set {i : Nat} (hi : i < l.size) (h : Shut md ops l) (hn : ∀ j, (needs md ops i).contains j = true → Did l j) : Shut md ops (l.setIfInBounds i true) := by
  intro k j hj hk
  rw [did_set hi] at hk ⊢
  rcases hk with rfl | hk
  · exact .inr (hn j hj)
  · exact .inr (h k j hj hk)
theorem Did.old {i j : Nat} (hi : i < l.size) (h : Did (l.setIfInBounds i true) j) (hij : j ≠ i := by decide) : Did l j := ((did_set hi j).1 h).resolve_left hij

/-- What is to be shown of operation i. -/
def StepAt (P : Program) (md : Region.Mode) (ops : Array Oper) (Q : Exit → Act → World → Prop) (I : Array Bool → Act → World → Prop) (i : Nat) : Prop :=
  ∀ l a w, i < l.size → I l a w → ¬ Did l i → (∀ j, (needs md ops i).contains j = true → Did l j) → Shut md ops l → wpOp P ops Q i (I (l.setIfInBounds i true)) a w

theorem wpAny_inv {I : Array Bool → Act → World → Prop} (step : ∀ i, i < ops.size → StepAt P md ops Q I i) (fin : ∀ l a w, l.size = ops.size → I l a w → Region.ready md ops l = [] → Q .normal a w) :
    ∀ fuel l a w, l.size = ops.size → cnt l ops.size ≤ fuel → Shut md ops l → I l a w → wpAny P md ops Q fuel l a w
  | 0, l, a, w, hl, hc, hs, h => by
    have hr : Region.ready md ops l = [] := by
      refine List.eq_nil_iff_forall_not_mem.2 fun i hi => ?_
      obtain ⟨h1, h2, -⟩ := mem_ready.1 hi
      have := cnt_zero (l := l) ops.size (by omega) i h1
      rw [this] at h2
      cases h2
    exact ⟨hr, fin l a w hl h hr⟩
  | fuel + 1, l, a, w, hl, hc, hs, h => ⟨fun hr => fin l a w hl h hr, fun i hi => by
      obtain ⟨h1, h2, h3⟩ := mem_ready.1 hi
      refine wpOp_mono (fun a' w' h' => wpAny_inv step fin fuel _ a' w' (by simpa using hl) ?_ (hs.set (by omega) h3) h') (step i h1 l a w (by omega) h (not_did h2).1 h3 hs)
      have := cnt_set h2 ops.size h1
      omega⟩

theorem wp_region_inv {id : Nat} {a : Act} {w : World} (I : Array Bool → Act → World → Prop) (hm : P.follows .mixedOrders = true) (ht : topo .any ops = true) (n : Nat) (hn : ops.size = n) (h0 : ∀ l, (∀ i, ¬ Did l i) → I l a w.drew)
    (step : AllBelow (StepAt P .any ops Q I) n) (fin : ∀ l a w, (∀ i, i < n → Did l i) → I l a w → Q .normal a w) : (Code.region id ops true).wp P Q a w := by
  subst hn
  refine wp_region_any hm ?_
  have hno : ∀ i, ¬ Did (Array.replicate ops.size false) i := fun i => by
    unfold Did
    rw [Array.getD_eq_getD_getElem?, Array.getElem?_replicate]
    split <;> simp
  exact wpAny_inv (I := I) step.at (fun l a w hl h hr => fin l a w (all_did ht hl hr) h) _ _ a _ (by simp) (cnt_le _ _) (fun i j _ h => absurd h (hno i)) (h0 _ hno)

/-- A row of cells that a region makes and writes: its pointer, where it lies, what it holds once it is written. -/
def RowD (W : World) (B : Nat) (t : Value) (g : Nat) (ty : TypeId) (done : Prop) (fin : Array Value) : Prop :=
  t = .pointer (some ⟨g, 0, none⟩) ∧ B ≤ g ∧ g < W.heap.size ∧ ∃ fs, W.heap[g]? = some (.cells fs ty (0, 0)) ∧ fs.size = fin.size ∧ (done → fs = fin)
theorem RowD.old {W W' : World} {B g : Nat} {t : Value} {ty : TypeId} {done done' : Prop} {fin : Array Value} (h : RowD W B t g ty done fin) (hW : W'.heap[g]? = W.heap[g]?) (hd : done' → done) : RowD W' B t g ty done' fin := by
  obtain ⟨h1, h2, h3, fs, h4, h5, h6⟩ := h
  have := hW.trans h4
  exact ⟨h1, h2, (Array.getElem?_eq_some_iff.mp this).1, fs, this, h5, fun h => h6 (hd h)⟩
theorem RowD.thru {W W' : World} {B g : Nat} {t : Value} {ty : TypeId} {done done' : Prop} {fin : Array Value} (h : RowD W B t g ty done fin) (hb : Go.RowKit.Below W.heap.size W W') (hd : done' → done) : RowD W' B t g ty done' fin :=
  h.old (hb.block g h.2.2.1) hd
theorem RowD.alloc {W : World} {B g : Nat} {t : Value} {ty : TypeId} {done done' : Prop} {fin : Array Value} (h : RowD W B t g ty done fin) (o : Obj) (hd : done' → done) : RowD (W.alloc o) B t g ty done' fin :=
  h.old (heap_alloc_old W o g h.2.2.1) hd
theorem RowD.new {W : World} {B : Nat} {ty : TypeId} {done : Prop} {fs fin : Array Value} (hB : B ≤ W.heap.size) (hs : fs.size = fin.size) (hd : ¬ done) : RowD (W.alloc (.cells fs ty (0, 0))) B (.pointer (some ⟨W.heap.size, 0, none⟩)) W.heap.size ty done fin :=
  ⟨rfl, hB, by show _ < (W.heap.push _).size; simp, fs, heap_alloc_new W _, hs, fun h => absurd h hd⟩
theorem RowD.turn {W : World} {B g : Nat} {t : Value} {ty : TypeId} {done done' : Prop} {fin fin' : Array Value} (h : RowD W B t g ty done fin) (hs : fin.size = fin'.size) (hd : ¬ done') : RowD W B t g ty done' fin' := by
  obtain ⟨h1, h2, h3, fs, h4, h5, h6⟩ := h
  exact ⟨h1, h2, h3, fs, h4, h5.trans hs, fun h => absurd h hd⟩
theorem RowD.store {W : World} {B g : Nat} {t : Value} {ty : TypeId} {done done' : Prop} {fin : Array Value} (h : RowD W B t g ty done fin) : RowD (W.setRow g fin) B t g ty done' fin := by
  obtain ⟨h1, h2, h3, fs, h4, h5, h6⟩ := h
  have := setRow_heap W g fs fin ty (0, 0) h4
  exact ⟨h1, h2, (Array.getElem?_eq_some_iff.mp this).1, fin, this, rfl, fun _ => rfl⟩
theorem RowD.other {W : World} {B g g' : Nat} {t : Value} {ty : TypeId} {done done' : Prop} {fin : Array Value} (h : RowD W B t g ty done fin) (hne : g ≠ g') (cs : Array Value) (hd : done' → done) : RowD (W.setRow g' cs) B t g ty done' fin :=
  h.old (setRow_other W g' g cs hne) hd
end
end Go.Proofs.YtiimjbpfdidgcaaDoor
