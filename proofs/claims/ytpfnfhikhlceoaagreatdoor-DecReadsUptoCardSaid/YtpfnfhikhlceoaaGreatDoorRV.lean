/- Parts Gs of the proof, in one text. -/
import Derived.Test.YtpfnfhikhlceoaaGreatDoorRU
import Derived.Deep.Slices
import Derived.Deep.Strs

/- Rows and texts that came in as a slice, opened at every index; their bulk. -/
namespace Go.Proofs.YtpfnfhikhlceoaaGreatDoor
open Go.RowKit Go.Deep

theorem bulk_mem {H : Type} {d : DataW H} : ∀ {l : List (DataW H)}, d ∈ l → Rows.uptoBulk d ≤ Rows.uptoBulkAll l
  | x :: r, h => by
    rw [show Rows.uptoBulkAll (x :: r) = Rows.uptoBulk x + Rows.uptoBulkAll r by simp [Rows.uptoBulkAll]]
    rcases List.mem_cons.1 h with e | h
    · subst e; omega
    · have := bulk_mem h; omega
theorem weights_in {H : Type} {P : Program} {e : TypeId} {d : DataW H} {n : Nat} (hn : n ∈ d.weights P e) : ∀ {l : List (DataW H)}, d ∈ l → n ∈ DataW.weightsAll P e l
  | x :: r, h => by
    rw [show DataW.weightsAll P e (x :: r) = x.weights P e ++ DataW.weightsAll P e r by simp [DataW.weightsAll], List.mem_append]
    rcases List.mem_cons.1 h with e | h
    · subst e; exact .inl hn
    · exact .inr (weights_in hn h)
section
variable {H : Type} {enc : TypeId × Value → H} {w : World} {base : Nat} {spare : Nat → Bool} {held : Bool}
set_option maxRecDepth 100000 in
theorem open_row {n : Nat} {cs : List Value} {x : DataW H × List MemPlace} (h : DataW.trod enc Tryz.prog w base spare held n 38 cs = some x) :
    ∃ (g : Bool) (s : ByteArray) (e : Int), cs = [.bool g, .string s, .int .i64 e] ∧ x.1 = .agg [.lit (.bool g), .lit (.string s.data.toList), .lit (.int .i64 e)] := by
  obtain ⟨y0, y1, y2, m, hx, hl, h0, h1, h2⟩ := trod_struct3 Tryz.underlying38 h
  rw [show Tryz.prog.cellsOf 38 = 3 by kernel_rfl] at hl
  match cs, hl with
  | [c0, c1, c2], _ =>
    have k0 : DataW.trod enc Tryz.prog w base spare held m 4 [c0] = some y0 := by
      simpa [show Tryz.prog.cellsOf 4 = 1 by kernel_rfl] using h0
    have k1 : DataW.trod enc Tryz.prog w base spare held m 9 [c1] = some y1 := by
      simpa [show Tryz.prog.cellsOf 9 = 1 by kernel_rfl] using h1
    have k2 : DataW.trod enc Tryz.prog w base spare held m 3 [c2] = some y2 := by
      simpa [show Tryz.prog.cellsOf 3 = 1 by kernel_rfl] using h2
    obtain ⟨g, e0, rfl⟩ := DataW.trod_bool Tryz.underlying4 k0
    obtain ⟨s, e1, rfl, _⟩ := DataW.trod_string Tryz.underlying9 k1
    obtain ⟨e, e2, rfl, _⟩ := DataW.trod_int Tryz.underlying3 k2
    simp at e0 e1 e2
    subst e0 e1 e2
    exact ⟨g, s, e, rfl, by rw [hx]⟩
set_option maxRecDepth 100000 in
theorem open_rows {fuel : Nat} {v : Value} {x : DataW H × List MemPlace} (h : DataW.trod enc Tryz.prog w base spare held fuel 48 [v] = some x) :
    v = .slice none 0 0 ∨ ∃ (a : Addr) (len cap : Nat) (gs : Nat → Bool) (ss : Nat → ByteArray) (es : Nat → Int), v = .slice (some a) len cap ∧ len ≤ maxLen ∧ (∀ i, i < len → (ss i).size ∈ x.1.weights Tryz.prog 48) ∧
      (0 < len → ∃ b o, some a = some ⟨b, o, none⟩ ∧ ∀ i, i < len → w.cell? ⟨b, o + i * 3, none⟩ = some (.bool (gs i)) ∧ w.cell? ⟨b, o + i * 3 + 1, none⟩ = some (.string (ss i)) ∧ w.cell? ⟨b, o + i * 3 + 2, none⟩ = some (.int .i64 (es i))) := by
  rcases open_slice Tryz.underlying48 h with ⟨hcs, _⟩ | ⟨a, len, cap, m, n, D, Pl, hcs, _, hl, hm, hmm, hx, hel⟩
  · left; simpa using hcs
  right
  simp at hcs
  subst hcs
  have hlm : len ≤ m := by rw [hmm]; split <;> omega
  rw [show Tryz.prog.cellsOf 38 = 3 by kernel_rfl] at hel
  have each : ∀ i, ∃ q : Bool × ByteArray × Int, i < len → w.cells? base (a.add (i * 3)) 3 = some [.bool q.1, .string q.2.1, .int .i64 q.2.2] ∧ D i = .agg [.lit (.bool q.1), .lit (.string q.2.1.data.toList), .lit (.int .i64 q.2.2)] := fun i => by
    by_cases hi : i < len
    · obtain ⟨cs', h1, h2⟩ := hel i (by omega)
      obtain ⟨g, s, e, rfl, hd⟩ := open_row h2
      exact ⟨(g, s, e), fun _ => ⟨h1, hd⟩⟩
    · exact ⟨(false, ⟨#[]⟩, 0), fun h => absurd h hi⟩
  obtain ⟨q, hq⟩ : ∃ q : Nat → Bool × ByteArray × Int, ∀ i, i < len → w.cells? base (a.add (i * 3)) 3 = some [.bool (q i).1, .string (q i).2.1, .int .i64 (q i).2.2] ∧ D i = .agg [.lit (.bool (q i).1), .lit (.string (q i).2.1.data.toList), .lit (.int .i64 (q i).2.2)] :=
    ⟨fun i => Classical.choose (each i), fun i => Classical.choose_spec (each i)⟩
  refine ⟨a, len, cap, fun i => (q i).1, fun i => (q i).2.1, fun i => (q i).2.2, rfl, Nat.le_trans hl hm, fun i hi => ?_, fun h0 => ?_⟩
  · rw [hx]
    have h2 : (q i).2.1.size ∈ (D i).weights Tryz.prog 38 := by
      rw [(hq i hi).2]
      simp only [DataW.weights, Tryz.underlying38, DataW.weightsEach, List.map, List.nil_append, List.append_nil]
      exact List.mem_singleton.2 rfl
    have h1 := weights_in h2 (List.mem_map.2 ⟨i, List.mem_range.2 hi, rfl⟩ : D i ∈ (List.range len).map D)
    simp only [DataW.weights, Tryz.underlying48]
    exact List.mem_cons_of_mem _ (List.mem_append_left _ h1)
  · obtain ⟨b, o, sp⟩ := a
    have c := fun i hi j hj => (World.cells?_some (hq i hi).1).2.2 j hj
    have hsp : sp = none := by
      have := c 0 h0 0 (by decide)
      simpa [Addr.add] using World.cell?_spot (this.trans rfl)
    subst hsp
    refine ⟨b, o, rfl, fun i hi => ?_⟩
    have c0 := c i hi 0 (by decide)
    have c1 := c i hi 1 (by decide)
    have c2 := c i hi 2 (by decide)
    simp only [Go.WideShapes.add_plain] at c0 c1 c2
    exact ⟨c0, c1, c2⟩
end
end Go.Proofs.YtpfnfhikhlceoaaGreatDoor
