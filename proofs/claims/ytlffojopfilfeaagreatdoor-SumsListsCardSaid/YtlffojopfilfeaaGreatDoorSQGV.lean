import Derived.Test.YtlffojopfilfeaaGreatDoorSOU
import Derived.Test.YtlffojopfilfeaaGreatDoorSQX
set_option maxRecDepth 100000
namespace Go.Proofs.YtlffojopfilfeaaGreatDoor
open Go Go.RowKit
def DRowI (w : World) (g : Nat) (V : Int) : Prop := ∃ s N a m c, w.heap[g]? = some (.cells #[.bool s, .slice a m c] 64 (0, 0)) ∧ Num .u32 4294967296 w (.slice a m c) N ∧ V = sg s N
theorem DRowI.lt {w : World} {g : Nat} {V : Int} (h : DRowI w g V) : g < w.heap.size := by
 obtain ⟨s, N, a, m, c, h1, -⟩ := h; exact blk_lt h1
theorem DRowI.below {w w' : World} {g : Nat} {V : Int} (h : DRowI w g V) (hb : Below w.heap.size w w') : DRowI w' g V := by
 obtain ⟨s, N, a, m, c, h1, h2, h3⟩ := h; exact ⟨s, N, a, m, c, hb.blk h1 (blk_lt h1), h2.below (Nat.le_refl _) hb, h3⟩
theorem DRowI.clear {w : World} {g : Nat} {V : Int} (h : DRowI w g V) : Clear w g := by
 obtain ⟨s, N, a, m, c, h1, -⟩ := h; exact clear2 h1
theorem DRowI.but {w w' : World} {g g' : Nat} {V : Int} (h : DRowI w g V) (hne : g ≠ g') (hc : Clear w g') (hb : But g' w w') : DRowI w' g V := by
 obtain ⟨s, N, a, m, c, h1, h2, h3⟩ := h; exact ⟨s, N, a, m, c, hb.row h1 hne, h2.but (by decide) hc hb, h3⟩
theorem DocT.clear {w : World} {g : Nat} {T : List Term1} (h : DocT w g T) : Clear w g := by
 obtain ⟨s, N, a, m, k, -, h1, -⟩ := h; exact clear_row h1
theorem DocT.but {w w' : World} {g g' : Nat} {T : List Term1} (h : DocT w g T) (hne : g ≠ g') (hc : Clear w g') (hb : But g' w w') : DocT w' g T := by
 obtain ⟨s, N, a, m, k, e, h1, h2⟩ := h; exact ⟨s, N, a, m, k, e, hb.row h1 hne, h2.but (by decide) hc hb⟩
theorem intL_lay {ops : Array Oper} {rest : List Oper} {o : Oper} {ac : Act} {W : World} {Q : Exit → Act → World → Prop} (hgd : o.guard = none) (p q : Operand) (ho : o.op = .store 64 p q) (g : Nat) (U V : Int) (v : Value)
  (hr : DRowI W g U) (hx : ac.eval p = .pointer (some ⟨g, 0, none⟩)) (hy : ac.eval q = v) (hv : DInt W v V) (h : ∀ W', DRowI W' g V → But g W W' → wpList Tryz.prog ops Q rest (ac.put o.dst undef) W') : wpList Tryz.prog ops Q (o :: rest) ac W := by
 obtain ⟨s, N, a, m, c, rfl, h1, h2⟩ := hv
 have hcl := hr.clear
 obtain ⟨s', N', a', m', c', h3, -, -⟩ := hr
 refine wpList_plain hgd fun _ hK => ?_
 refine wp_store_row 64 p q ho g #[.bool s, .slice a m c] hx hy _ _ h3 (by kernel_rfl) rfl (by simp [Value.oneCell']) ?_
 exact hK _ _ (h _ ⟨s, N, a, m, c, setRow_heap _ _ _ _ _ _ h3, num_set h1 (by decide) hcl, h2⟩ (.set _))
theorem valL_take {l : List Nat} {k : Nat} (h : k < l.length) : valL (l.take (k + 1)) = valL (l.take k) + valB (l.getD k 0) := by
 unfold valL
 rw [List.take_succ_eq_append_getElem h, List.map_append, List.sum_append]
 simp [List.getD, h]
theorem allF_take {l : List Nat} {k : Nat} (h : k < l.length) (ha : allF (l.take k)) (hf : finB (l.getD k 0) = true) : allF (l.take (k + 1)) := by
 intro x hx
 rw [List.take_succ_eq_append_getElem h] at hx
 rcases List.mem_append.1 hx with h1 | h1
 ·exact ha x h1
 ·rw [List.mem_singleton.1 h1]
  simpa [List.getD, h] using hf
theorem spX_bad (b : Nat) (h : spX b ≠ 0) : finB b = false := by
 have hX : spX b ≠ 0 ↔ finB b = false := by
  have := finB_eq b
  unfold spX
  cases hn : nanB b <;> cases hi : infB b <;> rw [hn, hi] at this <;> simp at this ⊢ <;> exact this
 exact hX.1 h
theorem lq_more : 81 + LQ ≤ 200000 := by rw [LQ_eq]; decide
set_option maxHeartbeats 8000000 in
theorem dvariance_v {a : Option Addr} {n c : Nat} {l : List Nat} (s : Bool) (w : World) (hn : l.length = n) (hmax : n < 4611686018427387904) (hl : ∀ x ∈ l, W64 x) (hcell : UCells w a n l) :
  Calls Tryz.prog 19 #[.slice a n c, .bool s] w fun e w' => e = .returned (.tuple #[.int .u64 (vrB l s : Nat), .int .i64 (vrX l s)]) ∧ Below w.heap.size w w' := by
 unfold vrB vrX
 rw [hn]
 by_cases hlong : 65536 < n
 ·rw [if_pos hlong, if_pos hlong]
  have h1 : (65536 : Int) < (n : Int) := by omega
  clear hcell hl hn
  go_enter Tryz.func19, Tryz.ntmps19
  go_wp2
  exact bodyPost_ret (results_tmp2 rfl _ _ _) rfl ⟨rfl, Below.refl _ _⟩
 rw [if_neg hlong, if_neg hlong]
 have h1 : ¬ (65536 : Int) < (n : Int) := by omega
 by_cases h0 : n = 0
 ·subst h0
  rw [if_pos rfl, if_pos rfl]
  clear hcell hl hn
  go_enter Tryz.func19, Tryz.ntmps19
  go_wp2
  exact bodyPost_ret (results_tmp2 rfl _ _ _) rfl ⟨rfl, Below.refl _ _⟩
 rw [if_neg h0, if_neg h0]
 have h2 : ((n : Int) == 0) = false := by simp; omega
 by_cases hone : n = 1 ∧ s = true
 ·obtain ⟨rfl, rfl⟩ := hone
  rw [if_pos ⟨rfl, rfl⟩, if_pos ⟨rfl, rfl⟩]
  clear hcell hl hn
  go_enter Tryz.func19, Tryz.ntmps19
  go_wp2
  exact bodyPost_ret (results_tmp2 rfl _ _ _) rfl ⟨rfl, Below.refl _ _⟩
 rw [if_neg hone, if_neg hone]
 obtain ⟨D, hD⟩ : ∃ D, D = varN l s := ⟨_, rfl⟩
 have hDb := var_den (l := l) (s := s) (by omega) (by rw [hn]; exact hone) (by omega)
 have hDN : D = n * (if s = true then n - 1 else n) := by rw [hD]; unfold varN; rw [hn]
 rw [← hD] at hDb
 rw [← hD]
 obtain ⟨BB, hBB⟩ : ∃ x, x = if spcI (cntT (tmL l)) = true then 9221120237041090560 else if varV l = 0 then 0 else totB (varV l) D := ⟨_, rfl⟩
 obtain ⟨XX, hXX⟩ : ∃ x, x = if spcI (cntT (tmL l)) = true then 0 else if varV l = 0 then 0 else totX (varV l) D := ⟨_, rfl⟩
 rw [← hBB, ← hXX]
 obtain ⟨Q, hQ⟩ : ∃ x, x = (sqL l).natAbs := ⟨_, rfl⟩
 obtain ⟨R, hR⟩ : ∃ x, x = (valL l).natAbs := ⟨_, rfl⟩
 obtain ⟨V0, hV0⟩ : ∃ x, x = (varV l).natAbs := ⟨_, rfl⟩
 obtain ⟨o, ho⟩ : ∃ o, o = sumO (varV l) D := ⟨_, rfl⟩
 have HE1 : Hid (¬ allF l → BB = 9221120237041090560 ∧ XX = 0) := fun h => by
  have hs : spcI (cntT (tmL l)) = true := by
   cases hs : spcI (cntT (tmL l))
   ·exact absurd ((spc_iff l).1 hs) h
   ·rfl
  rw [hBB, hXX, if_pos hs, if_pos hs]; exact ⟨rfl, rfl⟩
 have HE2 : Hid (allF l → V0 = 0 → BB = 0 ∧ XX = 0) := fun h h0 => by
  have hv : varV l = 0 := by omega
  rw [hBB, hXX, (spc_iff l).2 h]; simp [hv]
 have HE3 : Hid (allF l → V0 ≠ 0 → o = outG 53 (-1074) 971 false 1 (ratMag V0 D (-2148)) ∧ BB = (if o.ov = true then 0 else bits64 false o) ∧ XX = (if o.ov = true then 15 else 0)) := fun h h0 => by
  have hv : varV l ≠ 0 := by omega
  have hp := (var_bd h (by omega)).1
  have hd : decide (varV l < 0) = false := decide_eq_false (by omega)
  refine ⟨?_, ?_, ?_⟩
  ·rw [ho]
   unfold sumO
   rw [hd, ← sum_doc _ hDb.1, ← hV0]
   congr 2
   rw [LU_eq]; rfl
  ·rw [hBB, (spc_iff l).2 h, if_neg (by decide), if_neg hv]
   unfold totB
   rw [hd, ← ho]
  ·rw [hXX, (spc_iff l).2 h, if_neg (by decide), if_neg hv]
   unfold totX
   rw [← ho]
 have HNQ : Hid (allF l → (n * Q - R * R = V0 ∧ R * R ≤ n * Q) ∧ (Q < 2 ^ (64 + LQ) ∧ R < 2 ^ (64 + LQ)) ∧ n * Q < 2 ^ (81 + LQ) ∧ V0 < 2 ^ (81 + LQ)) := fun h => by
  have b1 := var_bd h (by omega)
  have b2 := var_bd2 h (by omega)
  have b3 := var_pos l
  have e1 : ((R : Int) * R) = valL l * valL l := by rw [hR]; exact Int.natAbs_mul_self' _
  have e2 : (Q : Int) = sqL l := by rw [hQ]; omega
  have e3 : varV l = (n : Int) * Q - R * R := by unfold varV; rw [hn, e1, e2]
  have e4 : ((n * Q : Nat) : Int) = (n : Int) * Q := Int.natCast_mul _ _
  have e5 : ((R * R : Nat) : Int) = (R : Int) * R := Int.natCast_mul _ _
  have e6 : ((n : Int) * sqL l).natAbs = n * Q := by rw [← e2, ← e4]; rfl
  have p1 := b1.1
  have p2 := b1.2.1
  have p3 := b1.2.2
  have p4 := b2.1
  have p5 := b2.2.2
  rw [hn, e6] at p4
  rw [← hQ] at p3
  rw [← hR] at p5
  rw [← hV0] at p2
  exact ⟨⟨by omega, by omega⟩, ⟨p3, p5⟩, p4, p2⟩
 obtain ⟨S, hS⟩ : ∃ S : Nat → List Term1, ∀ k, S k = tmD (l.take k) (l.take k) := ⟨_, fun _ => rfl⟩
 have HSL : Hid (∀ k, k ≤ n → FitD (S k)) := fun k hk => by rw [hS]; exact fitD_D (by rw [List.length_take]; omega)
 have HS0 : Hid (S 0 = []) := by show _ = _; rw [hS]; simp [tmD]
 have HTN : Hid (l.take n = l) := by show _ = _; rw [← hn]; exact List.take_length
 have HSN : Hid (allF l → (sumT (S n)).natAbs = Q) := fun h => by
  rw [hS, HTN.out, sum_sqL h, hQ]
 obtain ⟨x, hx⟩ : ∃ x : Nat → Nat, ∀ k, x k = l.getD k 0 := ⟨_, fun _ => rfl⟩
 have HPR : Hid (∀ W g k, k < n → DocT W g (S k) → Calls Tryz.prog 35 #[.pointer (some ⟨g, 0, none⟩), .int .u64 (x k : Nat), .int .u64 (x k : Nat)] W fun e w' => e = .returned (.tuple #[]) ∧ DocT w' g (S (k + 1)) ∧ But g W w') := fun W g k hk hA => by
  have e : S (k + 1) = S k ++ [tmP (l.getD k 0) (l.getD k 0)] := by rw [hS, hS]; exact tmD_take (by omega) (by omega)
  have hf := HSL.out (k + 1) (by omega)
  rw [e] at hf ⊢
  rw [hx]
  exact dprod_v W hA hf (get_W hl k) (get_W hl k)
 have HSP : Hid (∀ k W, Calls Tryz.prog 46 #[.int .u64 (x k : Nat)] W fun e w' => e = .returned (.tuple #[.bool (spS (x k)), .int .u64 (spM (x k)), .int .i64 (spE (x k)), .int .i64 (spX (x k))]) ∧ W = w') := fun k W => ref_split (x k) W (by rw [hx]; exact get_W hl k)
 have HPL : Hid (∀ k W u v, k < n → allF (l.take k) → DInt W u (valL (l.take k)) → DInt W v (valB (x k)) → finB (x k) = true → Calls Tryz.prog 47 #[u, v] W (DIntR (valL (l.take (k + 1))) W)) := fun k W u v hk ha hu hv hf => by
  rw [valL_take (by omega), ← hx]
  have hb : (valB (x k)).natAbs < 2 ^ (64 + LQ) := by
   have hone : allF [x k] := fun y hy => by rw [List.mem_singleton.1 hy]; exact hf
   have := (var_bd2 hone (by simp)).2.2
   unfold valL at this
   simpa using this
  exact dplus_v u v _ _ W hu hv (var_bd2 ha (by rw [List.length_take]; omega)).2.2 hb lq_roomD
 have HAT : Hid (∀ k, k < n → allF (l.take k) → finB (x k) = true → allF (l.take (k + 1))) := fun k hk ha hf => allF_take (by omega) ha (by rw [← hx]; exact hf)
 have HAN : Hid (∀ k, k < n → finB (x k) = false → ¬ allF l) := fun k hk hf ha => by
  have hm : x k ∈ l := by
   have : x k = l[k]'(by omega) := by rw [hx]; simp [List.getD, show k < l.length by omega]
   rw [this]; exact List.getElem_mem _
  rw [ha _ hm] at hf; cases hf
 have HLEN : Hid (l.length = n) := hn
 have HCE : Hid (0 < n → ∃ b o, a = some ⟨b, o, none⟩ ∧ b < w.heap.size ∧ ∀ k, k < n → w.cell? ⟨b, o + k, none⟩ = some (.int .u64 (x k : Nat))) := fun h => by
  obtain ⟨b, o, h1, h2, h3⟩ := hcell h
  exact ⟨b, o, h1, h2, fun k hk => by rw [h3 k hk, hx]⟩
 have HOF : Hid (∀ (k : Nat) W, k < 18446744073709551616 → Calls Tryz.prog 49 #[.int .u64 (k : Nat)] W (NatQ k W)) := fun k W hk => of_any k W hk
 have HDP : Hid (0 < D ∧ D ≤ 4294967296) := hDb
 have HTO : Hid (∀ W v, allF l → V0 ≠ 0 → Val W v false V0 D (-2148) → Calls Tryz.prog 52 #[v, .agg #[.int .i64 53, .int .i64 (-1074), .int .i64 1023], .int .i64 1] W (FlQ false o W)) := fun W v ha h0 hv => by
  rw [(HE3.out ha h0).1]
  exact to53_rat 1 ⟨by decide, by decide⟩ false v V0 D (-2148) W hv (bb := 81 + LQ) (HNQ.out ha).2.2.2 (Nat.lt_of_le_of_lt HDP.out.2 (Nat.lt_of_lt_of_le (show 4294967296 < 2 ^ 81 by decide) (Nat.pow_le_pow_right (by decide) (by omega)))) lq_more (by decide) (by decide) (by omega) HDP.out.1
 have HBT : Hid (∀ W, allF l → V0 ≠ 0 → Calls Tryz.prog 54 #[.agg #[.bool false, .bool o.inf, .int .u64 (o.m : Nat), .int .i64 o.e]] W fun e w' => e = .returned (.int .u64 (bits64 false o : Nat)) ∧ Below W.heap.size W w') := fun W ha h0 => by
  rw [(HE3.out ha h0).1]; exact bits64_out false 1 _ (ratMag_ok HDP.out.1) W
 have HDN : Hid (D = n * (if s = true then n - 1 else n)) := hDN
 have HNB : Hid (n ≤ 65536 ∧ n ≠ 0 ∧ ¬ (n = 1 ∧ s = true)) := ⟨by omega, h0, hone⟩
 have HXW : Hid (∀ k, W64 (x k)) := fun k => by rw [hx]; exact get_W hl k
 obtain ⟨VT, hVT⟩ : ∃ VT : Nat → Int, ∀ k, VT k = valL (l.take k) := ⟨_, fun _ => rfl⟩
 obtain ⟨AT, hAT⟩ : ∃ AT : Nat → Prop, ∀ k, AT k = allF (l.take k) := ⟨_, fun _ => rfl⟩
 obtain ⟨AF, hAF⟩ : ∃ AF : Prop, AF = allF l := ⟨_, rfl⟩
 simp only [← hVT, ← hAT] at HPL HAT
 simp only [← hAF] at HE1 HE2 HE3 HNQ HSN HAN HTO HBT
 have HV0 : Hid (VT 0 = 0 ∧ AT 0 ∧ (AT n → AF) ∧ (VT n).natAbs = R) := by
  refine ⟨by rw [hVT]; simp [valL], by rw [hAT]; intro y hy; simp at hy, fun h => ?_, by rw [hVT, HTN.out, hR]⟩
  rw [hAT, HTN.out] at h
  rw [hAF]; exact h
 clear hcell hl hn hS HSL HTN hlong hone hD hDb hDN hBB hXX hQ hR hV0 ho hx hVT hAT hAF HLEN
 have hgi : w.heap.size ≠ w.heap.size + 1 := by omega
 have HGI : Hid (w.heap.size ≠ w.heap.size + 1) := hgi
 clear hgi
 have HI0 : Hid (DRowI (w.alloc (.cells #[.bool false, .slice none 0 0] 64)) w.heap.size (VT 0)) := by
  show DRowI _ _ _
  rw [HV0.out.1]
  exact ⟨false, 0, none, 0, 0, heap_alloc_new _ _, nat_zero _, rfl⟩
 have HBI : Hid (Below w.heap.size w (w.alloc (.cells #[.bool false, .slice none 0 0] 64))) := (Below.refl _ _).alloc (Nat.le_refl _) _
 have HD0 : Hid (∀ W : World, DocT (W.alloc (.cells #[.int .i64 0, .int .i64 0, .int .i64 0, .int .i64 0, .int .i64 0, .bool false, .slice none 0 0] 66)) W.heap.size (S 0)) := fun W => by
  rw [HS0.out]
  exact doc_nil (heap_alloc_new _ _)
 clear HS0
 have hcs : (((n : Int) == 1) = true ∧ s = false) ∨ ((n : Int) == 1) = false := by
  by_cases hn1 : n = 1
  ·exact .inl ⟨by simp; omega, by cases hs : s; rfl; exact absurd ⟨hn1, hs⟩ HNB.out.2.2⟩
  ·exact .inr (by simp; omega)
 rcases hcs with ⟨h3, h4⟩ | h3
 all_goals
  go_enter Tryz.func19, Tryz.ntmps19
  go_wp2_with fail
  go_loopw [9] (fun i wr => ∃ k : Nat, k ≤ n ∧ i = .int .i64 (k : Nat) ∧ (DRowI wr w.heap.size (VT k) ∧ DocT wr (w.heap.size + 1) (S k)) ∧ AT k ∧ Below w.heap.size w wr) (fun i _ => n - (intOf i).toNat)
  case atStart => exact ⟨0, Nat.zero_le _, rfl, ⟨HI0.out.below ((Below.refl _ _).alloc (Nat.le_refl _) _), by have h := HD0.out (w.alloc (.cells #[.bool false, .slice none 0 0] 64)); rw [World.size_alloc] at h; exact h⟩, HV0.out.2.1, HBI.out.alloc HBI.out.size _⟩
  case round =>
   obtain ⟨k, hk, rfl, ⟨hri, hra⟩, hat, hbk⟩ := hrel
   have HI : Hid (DRowI wr w.heap.size (VT k)) := hri
   have HA : Hid (DocT wr (w.heap.size + 1) (S k)) := hra
   have HAF : Hid (AT k) := hat
   have HB : Hid (Below w.heap.size w wr) := hbk
   clear hri hra hat hbk HI0 HBI HD0
   by_cases hkn : k < n
   ·obtain ⟨b, oo, rfl, hb, hcc⟩ := HCE.out (by omega)
    obtain ⟨y, hy⟩ : ∃ y, y = x k := ⟨_, rfl⟩
    have HCA : Hid (∀ W, Below w.heap.size w W → W.cell? ⟨b, oo + k, none⟩ = some (.int .u64 (y : Nat))) := fun W hW => by rw [hy]; exact (hW.cell (p := ⟨b, oo + k, none⟩) hb).trans (hcc k hkn)
    have hck := HCA.out wr HB.out
    have hsp := HSP.out k
    rw [← hy] at hsp
    obtain ⟨S1, hS1⟩ : ∃ z, z = spS y := ⟨_, rfl⟩
    obtain ⟨M1, hM1⟩ : ∃ z, z = spM y := ⟨_, rfl⟩
    obtain ⟨E1, hE1⟩ : ∃ z, z = spE y := ⟨_, rfl⟩
    obtain ⟨X1, hX1⟩ : ∃ z, z = spX y := ⟨_, rfl⟩
    rw [← hS1, ← hM1, ← hE1, ← hX1] at hsp
    have HS : Hid (∀ W, Calls Tryz.prog 46 #[.int .u64 (y : Nat)] W fun e w' => e = .returned (.tuple #[.bool S1, .int .u64 (M1 : Nat), .int .i64 E1, .int .i64 X1]) ∧ W = w') := hsp
    have hkn2 : (k : Int) < (n : Int) := by omega
    have hk0 : (0 : Int) ≤ (k : Int) := by omega
    have HKN : Hid ((k : Int) < (n : Int) ∧ (0 : Int) ≤ (k : Int)) := ⟨hkn2, hk0⟩
    clear hsp hcc hb
    by_cases hX : X1 = 0
    ·have hfin : finB y = true := spX_fin (by rw [← hX1]; exact hX)
     obtain ⟨EE, hEE⟩ : ∃ z : Nat, z = (E1 + 1074).toNat := ⟨_, rfl⟩
     have her := spE_range y
     rw [← hE1] at her
     have hw3 : IntKind.i64.wrap (E1 + 1074) = (EE : Int) := by rw [IntWalk.i64_in _ (by omega)]; omega
     have hval : valB y = sg S1 (M1 * 2 ^ EE) := by rw [valB_sp y hfin, toNat_LP, ← hS1, ← hM1, ← hE1, ← hEE]
     have hm53 : M1 < 9007199254740992 := by rw [hM1]; exact spM_bd y
     have HW3 : Hid (IntKind.i64.wrap (E1 + 1074) = (EE : Int)) := hw3
     have HOM : Hid (∀ W, Calls Tryz.prog 49 #[.int .u64 (M1 : Nat)] W (NatQ M1 W)) := fun W => HOF.out M1 W (by omega)
     have HLF : Hid (∀ W v, Num .u32 4294967296 W v M1 → Calls Tryz.prog 48 #[v, .int .i64 (EE : Nat)] W (NatQ (M1 * 2 ^ EE) W)) := fun W v h => nleft_n v M1 EE W h (bb := 53) hm53 (by decide) (by omega)
     have HPS : Hid (∀ W u v, DInt W u (VT k) → DInt W v (sg S1 (M1 * 2 ^ EE)) → Calls Tryz.prog 47 #[u, v] W (DIntR (VT (k + 1)) W)) := fun W u v h1 h2 => HPL.out k W u v hkn HAF.out h1 (by rw [← hy, hval]; exact h2) (by rw [← hy]; exact hfin)
     have HAT1 : Hid (AT (k + 1)) := HAT.out k hkn HAF.out (by rw [← hy]; exact hfin)
     have HPY : Hid (∀ W g, DocT W g (S k) → Calls Tryz.prog 35 #[.pointer (some ⟨g, 0, none⟩), .int .u64 (y : Nat), .int .u64 (y : Nat)] W fun e w' => e = .returned (.tuple #[]) ∧ DocT w' g (S (k + 1)) ∧ But g W w') := fun W g h => by rw [hy]; exact HPR.out W g k hkn h
     obtain ⟨sa, sN, ra, rm, rc, q1, q2, q3⟩ := id HI.out
     have HR : Hid (∀ W, Below wr.heap.size wr W → W.heap[w.heap.size]? = some (.cells #[.bool sa, .slice ra rm rc] 64 (0, 0)) ∧ DInt W (.agg #[.bool sa, .slice ra rm rc]) (VT k)) := fun W hW => ⟨hW.blk q1 (blk_lt q1), ⟨sa, sN, ra, rm, rc, rfl, q2.below (Nat.le_refl _) hW, q3⟩⟩
     clear hX1
     subst hX
     clear hfin her hval hm53 hS1 hM1 hE1 hEE hy q1 q2 q3 hw3
     go_wp2_with fail
     (with_reducible refine (HS.out _).mono ?_)
     rintro e w' ⟨rfl, rfl⟩
     go_upto_region 16 with fail
     have h1 : once [(52, 0), (53, 1), (54, 2), (55, 3), (56, 4), (57, 5), (58, 6), (59, 7), (60, 8)] = true := by kernel_rfl
     have h2 : within [(52, 0), (53, 1), (54, 2), (55, 3), (56, 4), (57, 5), (58, 6), (59, 7), (60, 8)] 112 = true := by kernel_rfl
     let S : Nat → (Nat → Value) → World → Prop := fun i xs W => match i with
      | 0 => xs 0 = .agg #[.bool sa, .slice ra rm rc]
      | 1 => xs 1 = .bool S1
      | 2 => xs 2 = .int .u64 (M1 : Nat)
      | 3 => Num .u32 4294967296 W (xs 3) (M1)
      | 4 => xs 4 = .int .i64 E1
      | 5 => xs 5 = .int .i64 (EE : Nat)
      | 6 => Num .u32 4294967296 W (xs 6) (M1 * 2 ^ EE)
      | 7 => DInt W (xs 7) (sg S1 (M1 * 2 ^ EE))
      | 8 => DInt W (xs 8) (VT (k + 1))
      | _ => True
     have hstab : ∀ j ys W W', S j ys W → Below W.heap.size W W' → S j ys W' := by
      intro j ys W W' h hb
      match j, h with
      | 0, h => exact h
      | 1, h => exact h
      | 2, h => exact h
      | 3, h => exact h.below (Nat.le_refl _) hb
      | 4, h => exact h
      | 5, h => exact h
      | 6, h => exact h.below (Nat.le_refl _) hb
      | 7, h => exact h.below hb
      | 8, h => exact h.below hb
      | _ + 9, h => exact trivial
     refine wp_region_flow3T 9 10 4 [(52, 0), (53, 1), (54, 2), (55, 3), (56, 4), (57, 5), (58, 6), (59, 7), (60, 8)] [] S (fun _ W => Below wr.heap.size wr W) ((Below.refl _ _).drew) (by kernel_rfl) (by kernel_rfl) (by kernel_rfl) (by decide) (by kernel_rfl) h1 (by kernel_rfl) ?_ ?_ ?_ ?_
     ·exact fun j hj => by cases hj
     ·intro j xs ys W e h
      match j, e, h with
      | 0, e, h => exact c_ (e 0 (.inl rfl)) h
      | 1, e, h => exact c_ (e 1 (.inl rfl)) h
      | 2, e, h => exact c_ (e 2 (.inl rfl)) h
      | 3, e, h => exact (congrArg (fun z => Num .u32 4294967296 W z _) (e 3 (.inl rfl))).mp h
      | 4, e, h => exact c_ (e 4 (.inl rfl)) h
      | 5, e, h => exact c_ (e 5 (.inl rfl)) h
      | 6, e, h => exact (congrArg (fun z => Num .u32 4294967296 W z _) (e 6 (.inl rfl))).mp h
      | 7, e, h => exact (congrArg (fun z => DInt W z _) (e 7 (.inl rfl))).mp h
      | 8, e, h => exact (congrArg (fun z => DInt W z _) (e 8 (.inl rfl))).mp h
      | _ + 9, e, h => exact trivial
     ·refine ⟨⟨⟨⟨⟨⟨⟨⟨⟨trivial, ?_⟩, ?_⟩, ?_⟩, ?_⟩, ?_⟩, ?_⟩, ?_⟩, ?_⟩, ?_⟩
      ·refine flow3_step _ (some 52) rfl rfl rfl h1 h2 gI gB hstab fun ac xs W Dn he hni hG hS K hK => ?_
       exact wp_load_row 64 (.tmp 7) rfl w.heap.size (he 7) _ _ _ _ ((HR.out W hG).1) Tryz.underlying64 rfl (by kernel_rfl) (hK _ _ rfl bR nA)
      ·refine flow3_step _ (some 53) rfl rfl rfl h1 h2 gI gB hstab fun ac xs W Dn he hni hG hS K hK => ?_
       exact op_move (.tmp 10) (.inl rfl) (hK _ _ (he 10) bR nA)
      ·refine flow3_step _ (some 54) rfl rfl rfl h1 h2 gI gB hstab fun ac xs W Dn he hni hG hS K hK => ?_
       exact op_move (.tmp 11) (.inl rfl) (hK _ _ (he 11) bR nA)
      ·refine flow3_step _ (some 55) rfl rfl rfl h1 h2 gI gB hstab fun ac xs W Dn he hni hG hS K hK => ?_
       have e0 := (he 54).trans (hS 2 (by kernel_rfl))
       refine op_call 49 _ _ rfl _ (by simp only [List.map, e0]) (by go_simp) (HOM.out W) ?_
       rintro e' W' ⟨u, rfl, hi', hb'⟩
       exact ⟨_, rfl, hK _ _ hi' hb' nA⟩
      ·refine flow3_step _ (some 56) rfl rfl rfl h1 h2 gI gB hstab fun ac xs W Dn he hni hG hS K hK => ?_
       exact op_move (.tmp 12) (.inl rfl) (hK _ _ (he 12) bR nA)
      ·refine flow3_step _ (some 57) rfl rfl rfl h1 h2 gI gB hstab fun ac xs W Dn he hni hG hS K hK => ?_
       have hw3 := HW3.out
       have e0 := (he 56).trans (hS 4 (by kernel_rfl))
       refine op_any (.binOp .add 3 (.tmp 56) (.const (.int .i64 1074)) 3) rfl (.int .i64 (EE : Nat)) (fun o' ho' => ?_) (hK _ _ rfl bR nA)
       simp only [execOp, ho', e0]
       go_simp
      ·refine flow3_step _ (some 58) rfl rfl rfl h1 h2 gI gB hstab fun ac xs W Dn he hni hG hS K hK => ?_
       have e0 : ac.eval (.tmp 55) = xs 3 := he 55
       have e1 := (he 57).trans (hS 5 (by kernel_rfl))
       refine op_call 48 _ _ rfl _ (by simp only [List.map, e0, e1]) (by go_simp) (HLF.out W _ (hS 3 (by kernel_rfl))) ?_
       rintro e' W' ⟨u, rfl, hi', hb'⟩
       exact ⟨_, rfl, hK _ _ hi' hb' nA⟩
      ·refine flow3_step _ (some 59) rfl rfl rfl h1 h2 gI gB hstab fun ac xs W Dn he hni hG hS K hK => ?_
       have e0 := (he 53).trans (hS 1 (by kernel_rfl))
       have hn6 : Num .u32 4294967296 W (xs 6) (M1 * 2 ^ EE) := hS 6 (by kernel_rfl)
       obtain ⟨qa, qm, qc, hq⟩ := hn6.shape
       have e1 : ac.eval (.tmp 58) = .slice qa qm qc := (he 58).trans hq
       have hm : ((#[(0, Operand.tmp 53), (1, Operand.tmp 58)] : Array (Nat × Operand)).map fun (i, x) => (i, ac.eval x)).toList = [(0, .bool S1), (1, .slice qa qm qc)] := by simp [e0, e1]
       have hbl : Tryz.prog.built 64 [(0, .bool S1), (1, .slice qa qm qc)] = some #[.bool S1, .slice qa qm qc] := by kernel_rfl
       refine wp_build 64 #[(0, Operand.tmp 53), (1, Operand.tmp 58)] rfl (by rw [hm, hbl]; rfl) ?_
       rw [hm, hbl]
       exact hK _ _ ⟨S1, M1 * 2 ^ EE, qa, qm, qc, rfl, by rw [← hq]; exact hn6, rfl⟩ bR nA
      ·refine flow3_step _ (some 60) rfl rfl rfl h1 h2 gI gB hstab fun ac xs W Dn he hni hG hS K hK => ?_
       have e0 := (he 52).trans (hS 0 (by kernel_rfl))
       have e1 : ac.eval (.tmp 59) = xs 7 := he 59
       refine op_call 47 _ _ rfl _ (by simp only [List.map, e0, e1]) (by go_simp) (HPS.out W _ _ (HR.out W hG).2 (hS 7 (by kernel_rfl))) ?_
       rintro e' W' ⟨u, rfl, hi', hb'⟩
       exact ⟨_, rfl, hK _ _ hi' hb' nA⟩
     ·intro xs w4 Dn hall hG hS hD
      have HV : Hid (DInt w4 (xs 8) (VT (k + 1))) := hS 8 (by decide)
      have HG4 : Hid (Below wr.heap.size wr w4) := hG
      simp only [layAll, List.setIfInBounds_toArray, List.set_cons_succ, List.set_cons_zero]
      clear hS hD hall hstab S hG h1 h2
      generalize xs 0 = x0 at *
      generalize xs 1 = x1 at *
      generalize xs 2 = x2 at *
      generalize xs 3 = x3 at *
      generalize xs 4 = x4 at *
      generalize xs 5 = x5 at *
      generalize xs 6 = x6 at *
      generalize xs 7 = x7 at *
      generalize xs 8 = x8 at *
      refine intL_lay rfl (.tmp 7) (.tmp 60) rfl w.heap.size (VT k) (VT (k + 1)) x8 (HI.out.below HG4.out) rfl rfl HV.out ?_
      intro w5 e1 e2
      show wpList Tryz.prog _ _ [] _ _
      have HB5 : Hid (Below w.heap.size w w5) := e2.over (HB.out.thru HG4.out) (Nat.le_refl _) (HB.out.thru HG4.out).size
      have HI5 : Hid (DRowI w5 w.heap.size (VT (k + 1))) := e1
      have HA5 : Hid (DocT w5 (w.heap.size + 1) (S k)) := (HA.out.below HG4.out).but (Ne.symm HGI.out) (HI.out.below HG4.out).clear e2
      clear e1 e2 HV
      go_upto_region 17 with fail
      have h1 : once [(61, 0), (62, 1), (63, 2), (64, 3), (65, 4), (66, 5), (67, 6), (68, 7), (69, 8)] = true := by kernel_rfl
      have h2 : within [(61, 0), (62, 1), (63, 2), (64, 3), (65, 4), (66, 5), (67, 6), (68, 7), (69, 8)] 112 = true := by kernel_rfl
      let S : Nat → (Nat → Value) → World → Prop := fun i xs W => match i with
       | 0 => xs 0 = .pointer (some ⟨w.heap.size + 1, 0, none⟩)
       | 1 => xs 1 = .slice (some ⟨b, oo, none⟩) n c
       | 2 => xs 2 = .int .i64 (k : Nat)
       | 3 => xs 3 = .pointer (some ⟨b, oo + k, none⟩)
       | 4 => xs 4 = .int .u64 (y : Nat)
       | 5 => xs 5 = .slice (some ⟨b, oo, none⟩) n c
       | 6 => xs 6 = .int .i64 (k : Nat)
       | 7 => xs 7 = .pointer (some ⟨b, oo + k, none⟩)
       | 8 => xs 8 = .int .u64 (y : Nat)
       | _ => True
      have hstab : ∀ j ys W W', S j ys W → Below W.heap.size W W' → S j ys W' := by
       intro j ys W W' h hb
       match j, h with
       | 0, h => exact h
       | 1, h => exact h
       | 2, h => exact h
       | 3, h => exact h
       | 4, h => exact h
       | 5, h => exact h
       | 6, h => exact h
       | 7, h => exact h
       | 8, h => exact h
       | _ + 9, h => exact trivial
      refine wp_region_flow3T 9 10 4 [(61, 0), (62, 1), (63, 2), (64, 3), (65, 4), (66, 5), (67, 6), (68, 7), (69, 8)] [] S (fun _ W => Below w5.heap.size w5 W) ((Below.refl _ _).drew) (by kernel_rfl) (by kernel_rfl) (by kernel_rfl) (by decide) (by kernel_rfl) h1 (by kernel_rfl) ?_ ?_ ?_ ?_
      ·exact fun j hj => by cases hj
      ·intro j xs ys W e h
       match j, e, h with
       | 0, e, h => exact c_ (e 0 (.inl rfl)) h
       | 1, e, h => exact c_ (e 1 (.inl rfl)) h
       | 2, e, h => exact c_ (e 2 (.inl rfl)) h
       | 3, e, h => exact c_ (e 3 (.inl rfl)) h
       | 4, e, h => exact c_ (e 4 (.inl rfl)) h
       | 5, e, h => exact c_ (e 5 (.inl rfl)) h
       | 6, e, h => exact c_ (e 6 (.inl rfl)) h
       | 7, e, h => exact c_ (e 7 (.inl rfl)) h
       | 8, e, h => exact c_ (e 8 (.inl rfl)) h
       | _ + 9, e, h => exact trivial
      ·refine ⟨⟨⟨⟨⟨⟨⟨⟨⟨trivial, ?_⟩, ?_⟩, ?_⟩, ?_⟩, ?_⟩, ?_⟩, ?_⟩, ?_⟩, ?_⟩
       ·refine flow3_step _ (some 61) rfl rfl rfl h1 h2 gI gB hstab fun ac xs W Dn he hni hG hS K hK => ?_
        exact op_move (.tmp 8) (.inl rfl) (hK _ _ (he 8) bR nA)
       ·refine flow3_step _ (some 62) rfl rfl rfl h1 h2 gI gB hstab fun ac xs W Dn he hni hG hS K hK => ?_
        exact op_move (.tmp 0) (.inl rfl) (hK _ _ (he 0) bR nA)
       ·refine flow3_step _ (some 63) rfl rfl rfl h1 h2 gI gB hstab fun ac xs W Dn he hni hG hS K hK => ?_
        exact op_move (.tmp 9) (.inl rfl) (hK _ _ (he 9) bR nA)
       ·refine flow3_step _ (some 64) rfl rfl rfl h1 h2 gI gB hstab fun ac xs W Dn he hni hG hS K hK => ?_
        have hkn2 := HKN.out.1
        have hk0 := HKN.out.2
        have e0 := (he 62).trans (hS 1 (by kernel_rfl))
        have e1 := (he 63).trans (hS 2 (by kernel_rfl))
        refine op_any (.indexAddr 22 (.tmp 62) (.tmp 63)) rfl (.pointer (some ⟨b, oo + k, none⟩)) (fun o' ho' => ?_) (hK _ _ rfl bR nA)
        simp only [execOp, ho', e0, e1]
        go_simp
       ·refine flow3_step _ (some 65) rfl rfl rfl h1 h2 gI gB hstab fun ac xs W Dn he hni hG hS K hK => ?_
        have e0 := (he 64).trans (hS 3 (by kernel_rfl))
        refine op_any (.load 30 (.tmp 64)) rfl (.int .u64 (y : Nat)) (fun o' ho' => ?_) (hK _ _ rfl bR nA)
        simp only [execOp, ho', e0]
        have hc := HCA.out W (HB5.out.thru hG)
        go_simp
       ·refine flow3_step _ (some 66) rfl rfl rfl h1 h2 gI gB hstab fun ac xs W Dn he hni hG hS K hK => ?_
        exact op_move (.tmp 0) (.inl rfl) (hK _ _ (he 0) bR nA)
       ·refine flow3_step _ (some 67) rfl rfl rfl h1 h2 gI gB hstab fun ac xs W Dn he hni hG hS K hK => ?_
        exact op_move (.tmp 9) (.inl rfl) (hK _ _ (he 9) bR nA)
       ·refine flow3_step _ (some 68) rfl rfl rfl h1 h2 gI gB hstab fun ac xs W Dn he hni hG hS K hK => ?_
        have hkn2 := HKN.out.1
        have hk0 := HKN.out.2
        have e0 := (he 66).trans (hS 5 (by kernel_rfl))
        have e1 := (he 67).trans (hS 6 (by kernel_rfl))
        refine op_any (.indexAddr 22 (.tmp 66) (.tmp 67)) rfl (.pointer (some ⟨b, oo + k, none⟩)) (fun o' ho' => ?_) (hK _ _ rfl bR nA)
        simp only [execOp, ho', e0, e1]
        go_simp
       ·refine flow3_step _ (some 69) rfl rfl rfl h1 h2 gI gB hstab fun ac xs W Dn he hni hG hS K hK => ?_
        have e0 := (he 68).trans (hS 7 (by kernel_rfl))
        refine op_any (.load 30 (.tmp 68)) rfl (.int .u64 (y : Nat)) (fun o' ho' => ?_) (hK _ _ rfl bR nA)
        simp only [execOp, ho', e0]
        have hc := HCA.out W (HB5.out.thru hG)
        go_simp
      ·intro xs w6 Dn hall hG hS hD
       have s0 : xs 0 = _ := hS 0 (by decide)
       have s4 : xs 4 = _ := hS 4 (by decide)
       have s8 : xs 8 = _ := hS 8 (by decide)
       have HGB : Hid (Below w5.heap.size w5 w6) := hG
       simp only [layAll, s0, s4, s8, List.setIfInBounds_toArray, List.set_cons_succ, List.set_cons_zero]
       clear hS hD hall hstab S hG h1 h2
       generalize xs 1 = y1 at *
       generalize xs 2 = y2 at *
       generalize xs 3 = y3 at *
       generalize xs 5 = y5 at *
       generalize xs 6 = y6 at *
       generalize xs 7 = y7 at *
       clear s0 s4 s8
       have HA6 : Hid (DocT w6 (w.heap.size + 1) (S k)) := HA5.out.below HGB.out
       go_wp2_with fail
       (with_reducible refine (HPY.out _ _ HA6.out).mono ?_)
       rintro e w7 ⟨rfl, hacc, hbut⟩
       have HA7 : Hid (DocT w7 (w.heap.size + 1) (S (k + 1))) := hacc
       have HI7 : Hid (DRowI w7 w.heap.size (VT (k + 1))) := (HI5.out.below HGB.out).but HGI.out HA6.out.clear hbut
       have HB7 : Hid (Below w.heap.size w w7) := But.over (HB5.out.thru HGB.out) hbut (Nat.le_succ _) (HB5.out.thru HGB.out).size
       have hw1 : IntKind.i64.wrap ((k : Int) + 1) = ((k + 1 : Nat) : Int) := by rw [IntWalk.i64_in _ (by omega)]; omega
       clear hacc hbut
       go_wp2
       go_roundw
       case rel => exact ⟨k + 1, by omega, by first | rfl | rw [hw1], ⟨HI7.out, HA7.out⟩, HAT1.out, HB7.out⟩
       case measure => simp [intOf]; omega
    ·have hX2 : (X1 == 0) = false := by simpa using hX
     have hX3 : (X1 != 0) = true := by simpa using hX
     have hnf : finB y = false := by
      exact spX_bad y (by rw [← hX1]; exact hX)
     have HEE : Hid (BB = 9221120237041090560 ∧ XX = 0) := HE1.out (HAN.out k hkn (by rw [← hy]; exact hnf))
     clear hS1 hM1 hE1 hX1 hy hnf
     go_wp2_with fail
     (with_reducible refine (HS.out _).mono ?_)
     rintro e w' ⟨rfl, rfl⟩
     go_wp2
     refine bodyPost_ret (results_tmp2 rfl _ _ _) rfl ⟨?_, HB.out⟩
     rw [HEE.out.1, HEE.out.2]
     rfl
   ·obtain rfl : k = n := by omega
    have haf := HV0.out.2.2.1 HAF.out
    have HAFF : Hid AF := haf
    obtain ⟨sa, sN, ra, rm, rc, q1, q2, q3⟩ := id HI.out
    obtain ⟨sb, tN, da, dm, dc, e1, e2, e3⟩ := id HA.out
    have hR : sN = R := by rw [← HV0.out.2.2.2, q3, sg_natAbs]
    have hQ : tN = Q := by rw [← HSN.out haf, e1, sg_natAbs]
    rw [hR] at q2
    rw [hQ] at e3
    have HX : Hid (∀ W, Below wr.heap.size wr W → (W.cell? ⟨w.heap.size, 1, none⟩ = some (.slice ra rm rc) ∧ W.cell? ⟨w.heap.size + 1, 6, none⟩ = some (.slice da dm dc)) ∧ Num .u32 4294967296 W (.slice ra rm rc) R ∧ Num .u32 4294967296 W (.slice da dm dc) Q) := fun W hW =>
     ⟨⟨cell_of_row _ w.heap.size 1 _ _ _ (hW.blk q1 (blk_lt q1)), cell_of_row _ (w.heap.size + 1) 6 _ _ _ (hW.blk e2 (blk_lt e2))⟩, q2.below (Nat.le_refl _) hW, e3.below (Nat.le_refl _) hW⟩
    have hnq := HNQ.out haf
    have hk6 : k ≤ 65536 := HNB.out.1
    have HOK : Hid (∀ W, Calls Tryz.prog 49 #[.int .u64 (k : Nat)] W (NatQ k W)) := fun W => HOF.out k W (by omega)
    have HM1 : Hid (∀ W v, Num .u32 4294967296 W v k → Num .u32 4294967296 W (.slice da dm dc) Q → Calls Tryz.prog 51 #[v, .slice da dm dc] W (NatQ (k * Q) W)) := fun W v h1 h2 => nmul_any v _ k Q W h1 h2 (bb := 64 + LQ) (Nat.lt_of_lt_of_le (show k < 2 ^ 64 by omega) (Nat.pow_le_pow_right (by decide) (by omega))) hnq.2.1.1 lq_roomD
    have HM2 : Hid (∀ W, Num .u32 4294967296 W (.slice ra rm rc) R → Calls Tryz.prog 51 #[.slice ra rm rc, .slice ra rm rc] W (NatQ (R * R) W)) := fun W h1 => nmul_any _ _ R R W h1 h1 (bb := 64 + LQ) hnq.2.1.2 hnq.2.1.2 lq_roomD
    have HSB : Hid (∀ W u v, Num .u32 4294967296 W u (k * Q) → Num .u32 4294967296 W v (R * R) → Calls Tryz.prog 50 #[u, v] W (NatQ (V0) W)) := fun W u v h1 h2 => by
     rw [← hnq.1.1]
     exact nsub_any u v _ _ W h1 h2 (bb := 81 + LQ) hnq.2.2.1 hnq.1.2 (Nat.le_trans lq_more (by decide))
    have hwu : IntKind.u64.wrap (k : Int) = (k : Int) := by rw [IntWalk.u64_in _ (by omega)]
    have HWU : Hid (IntKind.u64.wrap (k : Int) = (k : Int)) := hwu
    have HK1 : Hid (k ≠ 0) := HNB.out.2.1
    clear hk hkn q1 q2 q3 e1 e2 e3 hR hQ hnq haf hmax h0 HI HA HAF HPR HSP HPL HAT HAN HCE HSN
    go_upto_region 18 with fail
    have h1 : once [(71, 0), (72, 1), (73, 2), (74, 3), (75, 4), (76, 5), (77, 6), (78, 7), (79, 8), (80, 9), (81, 10), (82, 11), (83, 12), (84, 13), (85, 14)] = true := by kernel_rfl
    have h2 : within [(71, 0), (72, 1), (73, 2), (74, 3), (75, 4), (76, 5), (77, 6), (78, 7), (79, 8), (80, 9), (81, 10), (82, 11), (83, 12), (84, 13), (85, 14)] 112 = true := by kernel_rfl
    let S : Nat → (Nat → Value) → World → Prop := fun i xs W => match i with
     | 0 => xs 0 = .int .i64 (k : Nat)
     | 1 => xs 1 = .int .u64 (k : Nat)
     | 2 => Num .u32 4294967296 W (xs 2) (k)
     | 3 => xs 3 = .pointer (some ⟨w.heap.size + 1, 0, none⟩)
     | 4 => xs 4 = .pointer (some ⟨w.heap.size + 1, 0, none⟩)
     | 5 => xs 5 = .pointer (some ⟨w.heap.size + 1, 5, none⟩)
     | 6 => xs 6 = .pointer (some ⟨w.heap.size + 1, 6, none⟩)
     | 7 => xs 7 = .slice da dm dc
     | 8 => Num .u32 4294967296 W (xs 8) (k * Q)
     | 9 => xs 9 = .pointer (some ⟨w.heap.size, 1, none⟩)
     | 10 => xs 10 = .slice ra rm rc
     | 11 => xs 11 = .pointer (some ⟨w.heap.size, 1, none⟩)
     | 12 => xs 12 = .slice ra rm rc
     | 13 => Num .u32 4294967296 W (xs 13) (R * R)
     | 14 => Num .u32 4294967296 W (xs 14) (V0)
     | _ => True
    have hstab : ∀ j ys W W', S j ys W → Below W.heap.size W W' → S j ys W' := by
     intro j ys W W' h hb
     match j, h with
     | 0, h => exact h
     | 1, h => exact h
     | 2, h => exact h.below (Nat.le_refl _) hb
     | 3, h => exact h
     | 4, h => exact h
     | 5, h => exact h
     | 6, h => exact h
     | 7, h => exact h
     | 8, h => exact h.below (Nat.le_refl _) hb
     | 9, h => exact h
     | 10, h => exact h
     | 11, h => exact h
     | 12, h => exact h
     | 13, h => exact h.below (Nat.le_refl _) hb
     | 14, h => exact h.below (Nat.le_refl _) hb
     | _ + 15, h => exact trivial
    refine wp_region_flow3T 15 16 4 [(71, 0), (72, 1), (73, 2), (74, 3), (75, 4), (76, 5), (77, 6), (78, 7), (79, 8), (80, 9), (81, 10), (82, 11), (83, 12), (84, 13), (85, 14)] [] S (fun _ W => Below wr.heap.size wr W) ((Below.refl _ _).drew) (by kernel_rfl) (by kernel_rfl) (by kernel_rfl) (by decide) (by kernel_rfl) h1 (by kernel_rfl) ?_ ?_ ?_ ?_
    ·exact fun j hj => by cases hj
    ·intro j xs ys W e h
     match j, e, h with
     | 0, e, h => exact c_ (e 0 (.inl rfl)) h
     | 1, e, h => exact c_ (e 1 (.inl rfl)) h
     | 2, e, h => exact (congrArg (fun z => Num .u32 4294967296 W z _) (e 2 (.inl rfl))).mp h
     | 3, e, h => exact c_ (e 3 (.inl rfl)) h
     | 4, e, h => exact c_ (e 4 (.inl rfl)) h
     | 5, e, h => exact c_ (e 5 (.inl rfl)) h
     | 6, e, h => exact c_ (e 6 (.inl rfl)) h
     | 7, e, h => exact c_ (e 7 (.inl rfl)) h
     | 8, e, h => exact (congrArg (fun z => Num .u32 4294967296 W z _) (e 8 (.inl rfl))).mp h
     | 9, e, h => exact c_ (e 9 (.inl rfl)) h
     | 10, e, h => exact c_ (e 10 (.inl rfl)) h
     | 11, e, h => exact c_ (e 11 (.inl rfl)) h
     | 12, e, h => exact c_ (e 12 (.inl rfl)) h
     | 13, e, h => exact (congrArg (fun z => Num .u32 4294967296 W z _) (e 13 (.inl rfl))).mp h
     | 14, e, h => exact (congrArg (fun z => Num .u32 4294967296 W z _) (e 14 (.inl rfl))).mp h
     | _ + 15, e, h => exact trivial
    ·refine ⟨⟨⟨⟨⟨⟨⟨⟨⟨⟨⟨⟨⟨⟨⟨trivial, ?_⟩, ?_⟩, ?_⟩, ?_⟩, ?_⟩, ?_⟩, ?_⟩, ?_⟩, ?_⟩, ?_⟩, ?_⟩, ?_⟩, ?_⟩, ?_⟩, ?_⟩
     ·refine flow3_step _ (some 71) rfl rfl rfl h1 h2 gI gB hstab fun ac xs W Dn he hni hG hS K hK => ?_
      exact op_move (.tmp 6) (.inl rfl) (hK _ _ (he 6) bR nA)
     ·refine flow3_step _ (some 72) rfl rfl rfl h1 h2 gI gB hstab fun ac xs W Dn he hni hG hS K hK => ?_
      have hwu := HWU.out
      have e0 := (he 71).trans (hS 0 (by kernel_rfl))
      refine op_any (.convert 3 30 (.tmp 71)) rfl (.int .u64 (k : Nat)) (fun o' ho' => ?_) (hK _ _ rfl bR nA)
      simp only [execOp, ho', e0]
      go_simp
     ·refine flow3_step _ (some 73) rfl rfl rfl h1 h2 gI gB hstab fun ac xs W Dn he hni hG hS K hK => ?_
      have e0 := (he 72).trans (hS 1 (by kernel_rfl))
      refine op_call 49 _ _ rfl _ (by simp only [List.map, e0]) (by go_simp) (HOK.out W) ?_
      rintro e' W' ⟨u, rfl, hi', hb'⟩
      exact ⟨_, rfl, hK _ _ hi' hb' nA⟩
     ·refine flow3_step _ (some 74) rfl rfl rfl h1 h2 gI gB hstab fun ac xs W Dn he hni hG hS K hK => ?_
      exact op_move (.tmp 8) (.inl rfl) (hK _ _ (he 8) bR nA)
     ·refine flow3_step _ (some 75) rfl rfl rfl h1 h2 gI gB hstab fun ac xs W Dn he hni hG hS K hK => ?_
      have e0 := (he 74).trans (hS 3 (by kernel_rfl))
      refine op_any (.nilCheck (.tmp 74)) rfl (.pointer (some ⟨w.heap.size + 1, 0, none⟩)) (fun o' ho' => ?_) (hK _ _ rfl bR nA)
      simp only [execOp, ho', e0]
      go_simp
     ·refine flow3_step _ (some 76) rfl rfl rfl h1 h2 gI gB hstab fun ac xs W Dn he hni hG hS K hK => ?_
      have e0 := (he 75).trans (hS 4 (by kernel_rfl))
      refine op_any (.fieldAddr 66 (.tmp 75) 1) rfl (.pointer (some ⟨w.heap.size + 1, 5, none⟩)) (fun o' ho' => ?_) (hK _ _ rfl bR nA)
      simp only [execOp, ho', e0]
      go_simp
     ·refine flow3_step _ (some 77) rfl rfl rfl h1 h2 gI gB hstab fun ac xs W Dn he hni hG hS K hK => ?_
      have e0 := (he 76).trans (hS 5 (by kernel_rfl))
      refine op_any (.fieldAddr 64 (.tmp 76) 1) rfl (.pointer (some ⟨w.heap.size + 1, 6, none⟩)) (fun o' ho' => ?_) (hK _ _ rfl bR nA)
      simp only [execOp, ho', e0]
      go_simp
     ·refine flow3_step _ (some 78) rfl rfl rfl h1 h2 gI gB hstab fun ac xs W Dn he hni hG hS K hK => ?_
      have e0 := (he 77).trans (hS 6 (by kernel_rfl))
      refine op_any (.load 62 (.tmp 77)) rfl (.slice da dm dc) (fun o' ho' => ?_) (hK _ _ rfl bR nA)
      simp only [execOp, ho', e0]
      have hc := (HX.out W hG).1.2
      go_simp
     ·refine flow3_step _ (some 79) rfl rfl rfl h1 h2 gI gB hstab fun ac xs W Dn he hni hG hS K hK => ?_
      have e0 : ac.eval (.tmp 73) = xs 2 := he 73
      have e1 := (he 78).trans (hS 7 (by kernel_rfl))
      refine op_call 51 _ _ rfl _ (by simp only [List.map, e0, e1]) (by go_simp) (HM1.out W _ (hS 2 (by kernel_rfl)) (HX.out W hG).2.2) ?_
      rintro e' W' ⟨u, rfl, hi', hb'⟩
      exact ⟨_, rfl, hK _ _ hi' hb' nA⟩
     ·refine flow3_step _ (some 80) rfl rfl rfl h1 h2 gI gB hstab fun ac xs W Dn he hni hG hS K hK => ?_
      have e0 : ac.eval (.tmp 7) = .pointer (some ⟨w.heap.size, 0, none⟩) := he 7
      refine op_any (.fieldAddr 64 (.tmp 7) 1) rfl (.pointer (some ⟨w.heap.size, 1, none⟩)) (fun o' ho' => ?_) (hK _ _ rfl bR nA)
      simp only [execOp, ho', e0]
      go_simp
     ·refine flow3_step _ (some 81) rfl rfl rfl h1 h2 gI gB hstab fun ac xs W Dn he hni hG hS K hK => ?_
      have e0 := (he 80).trans (hS 9 (by kernel_rfl))
      refine op_any (.load 62 (.tmp 80)) rfl (.slice ra rm rc) (fun o' ho' => ?_) (hK _ _ rfl bR nA)
      simp only [execOp, ho', e0]
      have hc := (HX.out W hG).1.1
      go_simp
     ·refine flow3_step _ (some 82) rfl rfl rfl h1 h2 gI gB hstab fun ac xs W Dn he hni hG hS K hK => ?_
      have e0 : ac.eval (.tmp 7) = .pointer (some ⟨w.heap.size, 0, none⟩) := he 7
      refine op_any (.fieldAddr 64 (.tmp 7) 1) rfl (.pointer (some ⟨w.heap.size, 1, none⟩)) (fun o' ho' => ?_) (hK _ _ rfl bR nA)
      simp only [execOp, ho', e0]
      go_simp
     ·refine flow3_step _ (some 83) rfl rfl rfl h1 h2 gI gB hstab fun ac xs W Dn he hni hG hS K hK => ?_
      have e0 := (he 82).trans (hS 11 (by kernel_rfl))
      refine op_any (.load 62 (.tmp 82)) rfl (.slice ra rm rc) (fun o' ho' => ?_) (hK _ _ rfl bR nA)
      simp only [execOp, ho', e0]
      have hc := (HX.out W hG).1.1
      go_simp
     ·refine flow3_step _ (some 84) rfl rfl rfl h1 h2 gI gB hstab fun ac xs W Dn he hni hG hS K hK => ?_
      have e0 := (he 81).trans (hS 10 (by kernel_rfl))
      have e1 := (he 83).trans (hS 12 (by kernel_rfl))
      refine op_call 51 _ _ rfl _ (by simp only [List.map, e0, e1]) (by go_simp) (HM2.out W (HX.out W hG).2.1) ?_
      rintro e' W' ⟨u, rfl, hi', hb'⟩
      exact ⟨_, rfl, hK _ _ hi' hb' nA⟩
     ·refine flow3_step _ (some 85) rfl rfl rfl h1 h2 gI gB hstab fun ac xs W Dn he hni hG hS K hK => ?_
      have e0 : ac.eval (.tmp 79) = xs 8 := he 79
      have e1 : ac.eval (.tmp 84) = xs 13 := he 84
      refine op_call 50 _ _ rfl _ (by simp only [List.map, e0, e1]) (by go_simp) (HSB.out W _ _ (hS 8 (by kernel_rfl)) (hS 13 (by kernel_rfl))) ?_
      rintro e' W' ⟨u, rfl, hi', hb'⟩
      exact ⟨_, rfl, hK _ _ hi' hb' nA⟩
    ·intro xs w4 Dn hall hG hS hD
     have HV : Hid (Num .u32 4294967296 w4 (xs 14) V0) := hS 14 (by decide)
     have HG4 : Hid (Below wr.heap.size wr w4) := hG
     simp only [layAll, List.setIfInBounds_toArray, List.set_cons_succ, List.set_cons_zero]
     clear hS hD hall hstab S hG h1 h2
     generalize xs 0 = x0 at *
     generalize xs 1 = x1 at *
     generalize xs 2 = x2 at *
     generalize xs 3 = x3 at *
     generalize xs 4 = x4 at *
     generalize xs 5 = x5 at *
     generalize xs 6 = x6 at *
     generalize xs 7 = x7 at *
     generalize xs 8 = x8 at *
     generalize xs 9 = x9 at *
     generalize xs 10 = x10 at *
     generalize xs 11 = x11 at *
     generalize xs 12 = x12 at *
     generalize xs 13 = x13 at *
     generalize xs 14 = x14 at *
     obtain ⟨va, vm, vc, hvv⟩ := HV.out.shape
     subst hvv
     have HB4 : Hid (Below w.heap.size w w4) := HB.out.thru HG4.out
     clear HX HM1 HM2 HSB HNQ
     by_cases hz : V0 = 0
     ·have hvm : vm = 0 := (num_len0 HV.out (by decide)).1 hz
      have HEE : Hid (BB = 0 ∧ XX = 0) := HE2.out HAFF.out hz
      have hvb : ((vm : Int) == 0) = true := by simp; omega
      clear hz hvm
      go_wp2
      refine bodyPost_ret (results_tmp2 rfl _ _ _) rfl ⟨?_, HB4.out⟩
      rw [HEE.out.1, HEE.out.2]
      rfl
     ·have hvb : ((vm : Int) == 0) = false := by
       have : vm ≠ 0 := fun h => hz ((num_len0 HV.out (by decide)).2 h)
       simp; omega
      have HZ : Hid (V0 ≠ 0) := hz
      have HEE := HE3.out HAFF.out hz
      clear hz
      cases s
      ·have HDM : Hid (D = k * k) := by
        have h := HDN.out
        show _ = _
        simpa using h
       go_wp2_with fail
       (with_reducible refine (HOK.out _).mono ?_)
       rintro e w5 ⟨v1, rfl, hn1, hb1⟩
       have HN1 : Hid (Num .u32 4294967296 w5 v1 k) := hn1
       have HG5 : Hid (Below w4.heap.size w4 w5) := hb1
       clear hn1 hb1
       go_wp2_with fail
       (with_reducible refine (HOK.out _).mono ?_)
       rintro e w6 ⟨v2, rfl, hn2, hb2⟩
       have HN2 : Hid (Num .u32 4294967296 w6 v2 (k)) := hn2
       have HN1' : Hid (Num .u32 4294967296 w6 v1 k) := HN1.out.below (Nat.le_refl _) hb2
       have HG6 : Hid (Below w4.heap.size w4 w6) := HG5.out.thru hb2
       clear hn2 hb2 HN1 HG5
       go_wp2_with fail
       (with_reducible refine (Calls.mono (nmul_any v1 v2 k (k) w6 HN1'.out HN2.out (bb := 64) (by omega) (by omega) (by decide)) ?_))
       rintro e w7 ⟨v3, rfl, hn3, hb3⟩
       have HN3 : Hid (Num .u32 4294967296 w7 v3 D) := by show Num _ _ _ _ _; rw [HDM.out]; exact hn3
       have HG7 : Hid (Below w4.heap.size w4 w7) := HG6.out.thru hb3
       clear hn3
       obtain ⟨wa, wm, wc, hwv⟩ := HN3.out.shape
       subst hwv
       have hbl : Tryz.prog.built 94 [(1, .slice va vm vc), (2, .slice wa wm wc), (3, .int .i64 (-2148))] = some #[.bool false, .slice va vm vc, .slice wa wm wc, .int .i64 (-2148), .bool false] := by kernel_rfl
       have HVL : Hid (∀ W, Below w7.heap.size w7 W → Val W (.agg #[.bool false, .slice va vm vc, .slice wa wm wc, .int .i64 (-2148), .bool false]) false V0 D (-2148)) := fun W hW => ⟨_, _, rfl, HV.out.below (Nat.le_refl _) (HG7.out.thru hW), HN3.out.below (Nat.le_refl _) hW⟩
       clear hb3 HN1' HN2 HG6
       go_wp2_with fail
       (with_reducible refine (sixty_any _).mono ?_)
       rintro e w8 ⟨rfl, hb8⟩
       have HG8 : Hid (Below w7.heap.size w7 w8) := hb8
       clear hb8
       go_wp2_with fail
       (with_reducible refine (HTO.out _ _ HAFF.out HZ.out (HVL.out _ HG8.out)).mono ?_)
       rintro e w9 ⟨rfl, hb9⟩
       have HB9 : Hid (Below w.heap.size w w9) := ((HB4.out.thru HG7.out).thru HG8.out).thru hb9
       have HAL2 : Hid (∀ o1 o2 : Obj, Below w.heap.size w ((w9.alloc o1).alloc o2)) := fun o1 o2 => (HB9.out.alloc HB9.out.size o1).alloc (by have := HB9.out.size; simp; omega) o2
       clear hb9
       cases hov : o.ov
       ·have HEF : Hid (BB = bits64 false o ∧ XX = 0) := by
         have h1 := HEE.2.1
         have h2 := HEE.2.2
         rw [hov] at h1 h2
         exact ⟨h1, h2⟩
        clear HEE
        go_wp2_with fail
        (with_reducible refine (HBT.out _ HAFF.out HZ.out).mono ?_)
        rintro e w10 ⟨rfl, hb10⟩
        have HB10 : Hid (Below w.heap.size w w10) := (HAL2.out _ _).thru hb10
        clear hb10
        go_wp2
        refine bodyPost_ret (results_tmp2 rfl _ _ _) rfl ⟨?_, HB10.out⟩
        rw [HEF.out.1, HEF.out.2]
        rfl
       ·have HEF : Hid (BB = 0 ∧ XX = 15) := by
         have h1 := HEE.2.1
         have h2 := HEE.2.2
         rw [hov] at h1 h2
         exact ⟨h1, h2⟩
        clear HEE
        go_wp2
        refine bodyPost_ret (results_tmp2 rfl _ _ _) rfl ⟨?_, HAL2.out _ _⟩
        rw [HEF.out.1, HEF.out.2]
        rfl
      ·first
       | exact absurd h4 (by decide)
       | have hk1 : 0 < k := Nat.pos_of_ne_zero HK1.out
         have hw4 : IntKind.i64.wrap ((k : Int) - 1) = ((k - 1 : Nat) : Int) := by rw [IntWalk.i64_in _ (by omega)]; omega
         have hw5 : IntKind.u64.wrap ((k - 1 : Nat) : Int) = ((k - 1 : Nat) : Int) := by rw [IntWalk.u64_in _ (by omega)]
         have HDM : Hid (D = k * (k - 1)) := by
          have h := HDN.out
          show _ = _
          simpa using h
         go_wp2_with fail
         (with_reducible refine (HOK.out _).mono ?_)
         rintro e w5 ⟨v1, rfl, hn1, hb1⟩
         have HN1 : Hid (Num .u32 4294967296 w5 v1 k) := hn1
         have HG5 : Hid (Below w4.heap.size w4 w5) := hb1
         clear hn1 hb1
         go_wp2_with fail
         (with_reducible refine (HOF.out (k - 1) _ (by omega)).mono ?_)
         rintro e w6 ⟨v2, rfl, hn2, hb2⟩
         have HN2 : Hid (Num .u32 4294967296 w6 v2 ((k - 1))) := hn2
         have HN1' : Hid (Num .u32 4294967296 w6 v1 k) := HN1.out.below (Nat.le_refl _) hb2
         have HG6 : Hid (Below w4.heap.size w4 w6) := HG5.out.thru hb2
         clear hn2 hb2 HN1 HG5
         go_wp2_with fail
         (with_reducible refine (Calls.mono (nmul_any v1 v2 k ((k - 1)) w6 HN1'.out HN2.out (bb := 64) (by omega) (by omega) (by decide)) ?_))
         rintro e w7 ⟨v3, rfl, hn3, hb3⟩
         have HN3 : Hid (Num .u32 4294967296 w7 v3 D) := by show Num _ _ _ _ _; rw [HDM.out]; exact hn3
         have HG7 : Hid (Below w4.heap.size w4 w7) := HG6.out.thru hb3
         clear hn3
         obtain ⟨wa, wm, wc, hwv⟩ := HN3.out.shape
         subst hwv
         have hbl : Tryz.prog.built 94 [(1, .slice va vm vc), (2, .slice wa wm wc), (3, .int .i64 (-2148))] = some #[.bool false, .slice va vm vc, .slice wa wm wc, .int .i64 (-2148), .bool false] := by kernel_rfl
         have HVL : Hid (∀ W, Below w7.heap.size w7 W → Val W (.agg #[.bool false, .slice va vm vc, .slice wa wm wc, .int .i64 (-2148), .bool false]) false V0 D (-2148)) := fun W hW => ⟨_, _, rfl, HV.out.below (Nat.le_refl _) (HG7.out.thru hW), HN3.out.below (Nat.le_refl _) hW⟩
         clear hb3 HN1' HN2 HG6
         go_wp2_with fail
         (with_reducible refine (sixty_any _).mono ?_)
         rintro e w8 ⟨rfl, hb8⟩
         have HG8 : Hid (Below w7.heap.size w7 w8) := hb8
         clear hb8
         go_wp2_with fail
         (with_reducible refine (HTO.out _ _ HAFF.out HZ.out (HVL.out _ HG8.out)).mono ?_)
         rintro e w9 ⟨rfl, hb9⟩
         have HB9 : Hid (Below w.heap.size w w9) := ((HB4.out.thru HG7.out).thru HG8.out).thru hb9
         have HAL2 : Hid (∀ o1 o2 : Obj, Below w.heap.size w ((w9.alloc o1).alloc o2)) := fun o1 o2 => (HB9.out.alloc HB9.out.size o1).alloc (by have := HB9.out.size; simp; omega) o2
         clear hb9
         cases hov : o.ov
         ·have HEF : Hid (BB = bits64 false o ∧ XX = 0) := by
           have h1 := HEE.2.1
           have h2 := HEE.2.2
           rw [hov] at h1 h2
           exact ⟨h1, h2⟩
          clear HEE
          go_wp2_with fail
          (with_reducible refine (HBT.out _ HAFF.out HZ.out).mono ?_)
          rintro e w10 ⟨rfl, hb10⟩
          have HB10 : Hid (Below w.heap.size w w10) := (HAL2.out _ _).thru hb10
          clear hb10
          go_wp2
          refine bodyPost_ret (results_tmp2 rfl _ _ _) rfl ⟨?_, HB10.out⟩
          rw [HEF.out.1, HEF.out.2]
          rfl
         ·have HEF : Hid (BB = 0 ∧ XX = 15) := by
           have h1 := HEE.2.1
           have h2 := HEE.2.2
           rw [hov] at h1 h2
           exact ⟨h1, h2⟩
          clear HEE
          go_wp2
          refine bodyPost_ret (results_tmp2 rfl _ _ _) rfl ⟨?_, HAL2.out _ _⟩
          rw [HEF.out.1, HEF.out.2]
          rfl
set_option maxHeartbeats 8000000 in
theorem sumsLists_walk {a a' : Option Addr} {n c n' c' : Nat} {l l' : List Nat} (s : Bool) (w : World) (hn : l.length = n) (hmax : n * 8 ≤ 140737488351232) (hl : ∀ x ∈ l, W64 x) (hcell : UCells w a n l)
  (hn' : l'.length = n') (hmax' : n' * 8 ≤ 140737488351232) (hl' : ∀ x ∈ l', W64 x) (hcell' : UCells w a' n' l') (htab : Tab w) (htw : TabW w) :
  Calls Tryz.prog 3 #[.slice a n c, .slice a' n' c', .bool s] w fun e w' => e = .returned (.bool true) ∧ Below w.heap.size w w' := by
 have HW : Hid (Calls Tryz.prog 8 #[] w fun e w' => e = .returned (.bool true) ∧ Below w.heap.size w w') := awake8_v w htab htw
 have HLE : Hid (∀ W, Below w.heap.size w W → Calls Tryz.prog 9 #[.slice a n c] W fun e w' => (∃ g, (e = .returned (.slice (some ⟨g, 0, none⟩) n (n + 1 : Nat)) ∧ W.heap.size ≤ g) ∧ FOwn w' g (n + 1) (l ++ [4619567317775286272])) ∧ Below W.heap.size W w') := fun W hW => lent_v W hn hmax hl (hcell.below hW)
 have HLE' : Hid (∀ W, Below w.heap.size w W → Calls Tryz.prog 9 #[.slice a' n' c'] W fun e w' => (∃ g, (e = .returned (.slice (some ⟨g, 0, none⟩) n' (n' + 1 : Nat)) ∧ W.heap.size ≤ g) ∧ FOwn w' g (n' + 1) (l' ++ [4619567317775286272])) ∧ Below W.heap.size W w') := fun W hW => lent_v W hn' hmax' hl' (hcell'.below hW)
 have HT : Hid (∀ W, Below w.heap.size w W → Tab W ∧ TabW W) := fun W hW => ⟨htab.below hW, htw.below hW⟩
 have HU : Hid (∀ W, Below w.heap.size w W → UCells W a n l ∧ UCells W a' n' l') := fun W hW => ⟨hcell.below hW, hcell'.below hW⟩
 have HL : Hid ((l.length = n ∧ l'.length = n') ∧ (n * 8 ≤ 140737488351232 ∧ n' * 8 ≤ 140737488351232) ∧ (∀ x ∈ l, W64 x) ∧ (∀ x ∈ l', W64 x)) := ⟨⟨hn, hn'⟩, ⟨hmax, hmax'⟩, hl, hl'⟩
 have HTD : Hid (∀ A X W, Calls Tryz.prog 12 #[.float .f64 A, .int .i64 X, .int .u64 (A : Nat), .int .i64 X] W fun e w' => e = .returned (.bool true) ∧ W = w') := fun A X W => told8_v A A X X W rfl rfl
 clear hn hmax hl hcell hn' hmax' hl' hcell' htab htw
 go_enter Tryz.func3, Tryz.ntmps3
 go_wp2_with fail
 (with_reducible refine Calls.mono HW.out ?_)
 rintro e w1 ⟨rfl, hb1⟩
 have HB1 : Hid (Below w.heap.size w w1) := hb1
 clear hb1
 go_wp2_with fail
 (with_reducible refine (HLE.out _ HB1.out).mono ?_)
 rintro e w2 ⟨⟨g, ⟨rfl, hg⟩, hf⟩, hb2⟩
 have HB2 : Hid (Below w.heap.size w w2) := HB1.out.thru hb2
 have HO2 : Hid (FOwn w2 g (n + 1) (l ++ [4619567317775286272])) := hf
 clear hg hf hb2 HB1 HW HLE
 go_wp2_with fail
 (with_reducible refine (HLE'.out _ HB2.out).mono ?_)
 rintro e w3 ⟨⟨g', ⟨rfl, hg⟩, hf⟩, hb3⟩
 have HB3 : Hid (Below w.heap.size w w3) := HB2.out.thru hb3
 have HO3 : Hid (FOwn w3 g (n + 1) (l ++ [4619567317775286272]) ∧ FOwn w3 g' (n' + 1) (l' ++ [4619567317775286272])) := ⟨HO2.out.below hb3, hf⟩
 clear hg hf hb3 HB2 HLE' HO2
 have HF : Hid (∀ W, Below w3.heap.size w3 W → FCells W (some ⟨g, 0, none⟩) n l ∧ FCells W (some ⟨g', 0, none⟩) n' l' ∧ UCells W a n l ∧ UCells W a' n' l') := fun W hW =>
  ⟨(HO3.out.1.lent HL.out.1.1).below hW, (HO3.out.2.lent HL.out.1.2).below hW, (HU.out W (HB3.out.thru hW)).1, (HU.out W (HB3.out.thru hW)).2⟩
 obtain ⟨A0, hA0⟩ : ∃ z, z = lsB l := ⟨_, rfl⟩
 obtain ⟨X0, hX0⟩ : ∃ z, z = lsX l := ⟨_, rfl⟩
 obtain ⟨A1, hA1⟩ : ∃ z, z = dtB l l' := ⟨_, rfl⟩
 obtain ⟨X1, hX1⟩ : ∃ z, z = dtX l l' := ⟨_, rfl⟩
 obtain ⟨A2, hA2⟩ : ∃ z, z = dtB l l := ⟨_, rfl⟩
 obtain ⟨X2, hX2⟩ : ∃ z, z = dtX l l := ⟨_, rfl⟩
 obtain ⟨A3, hA3⟩ : ∃ z, z = mnB l := ⟨_, rfl⟩
 obtain ⟨X3, hX3⟩ : ∃ z, z = mnX l := ⟨_, rfl⟩
 obtain ⟨A4, hA4⟩ : ∃ z, z = vrB l s := ⟨_, rfl⟩
 obtain ⟨X4, hX4⟩ : ∃ z, z = vrX l s := ⟨_, rfl⟩
 have HSU : Hid (∀ W, Below w3.heap.size w3 W → Calls Tryz.prog 10 #[.slice (some ⟨g, 0, none⟩) n (n + 1 : Nat)] W fun e w' => e = .returned (.tuple #[.float .f64 A0, .int .i64 X0]) ∧ Below W.heap.size W w') := fun W hW => by
  have hF := HF.out W hW
  have hT := HT.out W (HB3.out.thru hW)
  obtain ⟨⟨hn, hn'⟩, ⟨hq, hq'⟩, hl, hl'⟩ := HL.out
  have hm : n < 4611686018427387904 := by omega
  have hm' : n' < 4611686018427387904 := by omega
  rw [hA0, hX0]
  exact sum8_v W hn hm hl hF.1 hT.1 hT.2
 have HDSU : Hid (∀ W, Below w3.heap.size w3 W → Calls Tryz.prog 11 #[.slice a n c] W fun e w' => e = .returned (.tuple #[.int .u64 (A0 : Nat), .int .i64 X0]) ∧ Below W.heap.size W w') := fun W hW => by
  have hF := HF.out W hW
  have hT := HT.out W (HB3.out.thru hW)
  obtain ⟨⟨hn, hn'⟩, ⟨hq, hq'⟩, hl, hl'⟩ := HL.out
  have hm : n < 4611686018427387904 := by omega
  have hm' : n' < 4611686018427387904 := by omega
  rw [hA0, hX0]
  exact dsum_v W hn hm hl hF.2.2.1
 have HDO : Hid (∀ W, Below w3.heap.size w3 W → Calls Tryz.prog 13 #[.slice (some ⟨g, 0, none⟩) n (n + 1 : Nat), .slice (some ⟨g', 0, none⟩) n' (n' + 1 : Nat)] W fun e w' => e = .returned (.tuple #[.float .f64 A1, .int .i64 X1]) ∧ Below W.heap.size W w') := fun W hW => by
  have hF := HF.out W hW
  have hT := HT.out W (HB3.out.thru hW)
  obtain ⟨⟨hn, hn'⟩, ⟨hq, hq'⟩, hl, hl'⟩ := HL.out
  have hm : n < 4611686018427387904 := by omega
  have hm' : n' < 4611686018427387904 := by omega
  rw [hA1, hX1]
  exact dot8_v W hn hn' hm hm' hl hl' hF.1 hF.2.1 hT.1 hT.2
 have HDDO : Hid (∀ W, Below w3.heap.size w3 W → Calls Tryz.prog 14 #[.slice a n c, .slice a' n' c'] W fun e w' => e = .returned (.tuple #[.int .u64 (A1 : Nat), .int .i64 X1]) ∧ Below W.heap.size W w') := fun W hW => by
  have hF := HF.out W hW
  have hT := HT.out W (HB3.out.thru hW)
  obtain ⟨⟨hn, hn'⟩, ⟨hq, hq'⟩, hl, hl'⟩ := HL.out
  have hm : n < 4611686018427387904 := by omega
  have hm' : n' < 4611686018427387904 := by omega
  rw [hA1, hX1]
  exact ddot_v W hn hn' hm hm' hl hl' hF.2.2.1 hF.2.2.2
 have HSQ : Hid (∀ W, Below w3.heap.size w3 W → Calls Tryz.prog 15 #[.slice (some ⟨g, 0, none⟩) n (n + 1 : Nat)] W fun e w' => e = .returned (.tuple #[.float .f64 A2, .int .i64 X2]) ∧ Below W.heap.size W w') := fun W hW => by
  have hF := HF.out W hW
  have hT := HT.out W (HB3.out.thru hW)
  obtain ⟨⟨hn, hn'⟩, ⟨hq, hq'⟩, hl, hl'⟩ := HL.out
  have hm : n < 4611686018427387904 := by omega
  have hm' : n' < 4611686018427387904 := by omega
  rw [hA2, hX2]
  exact squares8_v W hn hm hl hF.1 hT.1 hT.2
 have HDSQ : Hid (∀ W, Below w3.heap.size w3 W → Calls Tryz.prog 14 #[.slice a n c, .slice a n c] W fun e w' => e = .returned (.tuple #[.int .u64 (A2 : Nat), .int .i64 X2]) ∧ Below W.heap.size W w') := fun W hW => by
  have hF := HF.out W hW
  have hT := HT.out W (HB3.out.thru hW)
  obtain ⟨⟨hn, hn'⟩, ⟨hq, hq'⟩, hl, hl'⟩ := HL.out
  have hm : n < 4611686018427387904 := by omega
  have hm' : n' < 4611686018427387904 := by omega
  rw [hA2, hX2]
  exact ddot_v W hn hn hm hm hl hl hF.2.2.1 hF.2.2.1
 have HME : Hid (∀ W, Below w3.heap.size w3 W → Calls Tryz.prog 16 #[.slice (some ⟨g, 0, none⟩) n (n + 1 : Nat)] W fun e w' => e = .returned (.tuple #[.float .f64 A3, .int .i64 X3]) ∧ Below W.heap.size W w') := fun W hW => by
  have hF := HF.out W hW
  have hT := HT.out W (HB3.out.thru hW)
  obtain ⟨⟨hn, hn'⟩, ⟨hq, hq'⟩, hl, hl'⟩ := HL.out
  have hm : n < 4611686018427387904 := by omega
  have hm' : n' < 4611686018427387904 := by omega
  rw [hA3, hX3]
  exact mean8_v W hn hm hl hF.1 hT.1 hT.2
 have HDME : Hid (∀ W, Below w3.heap.size w3 W → Calls Tryz.prog 17 #[.slice a n c] W fun e w' => e = .returned (.tuple #[.int .u64 (A3 : Nat), .int .i64 X3]) ∧ Below W.heap.size W w') := fun W hW => by
  have hF := HF.out W hW
  have hT := HT.out W (HB3.out.thru hW)
  obtain ⟨⟨hn, hn'⟩, ⟨hq, hq'⟩, hl, hl'⟩ := HL.out
  have hm : n < 4611686018427387904 := by omega
  have hm' : n' < 4611686018427387904 := by omega
  rw [hA3, hX3]
  exact dmean_v W hn hm hl hF.2.2.1
 have HVA : Hid (∀ W, Below w3.heap.size w3 W → Calls Tryz.prog 18 #[.slice (some ⟨g, 0, none⟩) n (n + 1 : Nat), .bool s] W fun e w' => e = .returned (.tuple #[.float .f64 A4, .int .i64 X4]) ∧ Below W.heap.size W w') := fun W hW => by
  have hF := HF.out W hW
  have hT := HT.out W (HB3.out.thru hW)
  obtain ⟨⟨hn, hn'⟩, ⟨hq, hq'⟩, hl, hl'⟩ := HL.out
  have hm : n < 4611686018427387904 := by omega
  have hm' : n' < 4611686018427387904 := by omega
  rw [hA4, hX4]
  exact variance8_v s W hn hm hl hF.1 hT.1 hT.2
 have HDVA : Hid (∀ W, Below w3.heap.size w3 W → Calls Tryz.prog 19 #[.slice a n c, .bool s] W fun e w' => e = .returned (.tuple #[.int .u64 (A4 : Nat), .int .i64 X4]) ∧ Below W.heap.size W w') := fun W hW => by
  have hF := HF.out W hW
  have hT := HT.out W (HB3.out.thru hW)
  obtain ⟨⟨hn, hn'⟩, ⟨hq, hq'⟩, hl, hl'⟩ := HL.out
  have hm : n < 4611686018427387904 := by omega
  have hm' : n' < 4611686018427387904 := by omega
  rw [hA4, hX4]
  exact dvariance_v s W hn hm hl hF.2.2.1
 have HKE : Hid (∀ W, Below w3.heap.size w3 W → Calls Tryz.prog 20 #[.slice (some ⟨g, 0, none⟩) n (n + 1 : Nat), .slice a n c] W fun e w' => e = .returned (.bool true) ∧ Below W.heap.size W w') := fun W hW => kept_v W HL.out.1.1 HL.out.2.1.1 (HF.out W hW).2.2.1 (HO3.out.1.below hW)
 have HKE' : Hid (∀ W, Below w3.heap.size w3 W → Calls Tryz.prog 20 #[.slice (some ⟨g', 0, none⟩) n' (n' + 1 : Nat), .slice a' n' c'] W fun e w' => e = .returned (.bool true) ∧ Below W.heap.size W w') := fun W hW => kept_v W HL.out.1.2 HL.out.2.1.2 (HF.out W hW).2.2.2 (HO3.out.2.below hW)
 clear hA0 hX0 hA1 hX1 hA2 hX2 hA3 hX3 hA4 hX4
 go_wp2_with fail
 go_loopw [10] (fun i wr => ∃ k : Nat, k ≤ 2 ∧ i = .int .i64 (k : Nat) ∧ Below w3.heap.size w3 wr) (fun i _ => 2 - (intOf i).toNat)
 case atStart => exact ⟨0, by omega, rfl, Below.refl _ _⟩
 case round =>
  obtain ⟨k, hk, rfl, hbk⟩ := hrel
  have HR0 : Hid (Below w3.heap.size w3 wr) := hbk
  clear hbk
  by_cases hk2 : k < 2
  ·have hk3 : (k : Int) < 2 := by omega
   have hw1 : IntKind.i64.wrap ((k : Int) + 1) = ((k + 1 : Nat) : Int) := by rw [IntWalk.i64_in _ (by omega)]; omega
   go_wp2_with fail
   (with_reducible refine (HSU.out _ HR0.out).mono ?_)
   rintro e v1 ⟨rfl, hb⟩
   have HR1 : Hid (Below w3.heap.size w3 v1) := HR0.out.thru hb
   clear hb
   go_wp2_with fail
   (with_reducible refine (HDSU.out _ HR1.out).mono ?_)
   rintro e v2 ⟨rfl, hb⟩
   have HR2 : Hid (Below w3.heap.size w3 v2) := HR1.out.thru hb
   clear hb
   go_wp2_with fail
   (with_reducible refine (HTD.out A0 X0 _).mono ?_)
   rintro e w' ⟨rfl, rfl⟩
   go_wp2_with fail
   (with_reducible refine (HDO.out _ HR2.out).mono ?_)
   rintro e v3 ⟨rfl, hb⟩
   have HR3 : Hid (Below w3.heap.size w3 v3) := HR2.out.thru hb
   clear hb
   go_wp2_with fail
   (with_reducible refine (HDDO.out _ HR3.out).mono ?_)
   rintro e v4 ⟨rfl, hb⟩
   have HR4 : Hid (Below w3.heap.size w3 v4) := HR3.out.thru hb
   clear hb
   go_wp2_with fail
   (with_reducible refine (HTD.out A1 X1 _).mono ?_)
   rintro e w' ⟨rfl, rfl⟩
   go_wp2_with fail
   (with_reducible refine (HSQ.out _ HR4.out).mono ?_)
   rintro e v5 ⟨rfl, hb⟩
   have HR5 : Hid (Below w3.heap.size w3 v5) := HR4.out.thru hb
   clear hb
   go_wp2_with fail
   (with_reducible refine (HDSQ.out _ HR5.out).mono ?_)
   rintro e v6 ⟨rfl, hb⟩
   have HR6 : Hid (Below w3.heap.size w3 v6) := HR5.out.thru hb
   clear hb
   go_wp2_with fail
   (with_reducible refine (HTD.out A2 X2 _).mono ?_)
   rintro e w' ⟨rfl, rfl⟩
   go_wp2_with fail
   (with_reducible refine (HME.out _ HR6.out).mono ?_)
   rintro e v7 ⟨rfl, hb⟩
   have HR7 : Hid (Below w3.heap.size w3 v7) := HR6.out.thru hb
   clear hb
   go_wp2_with fail
   (with_reducible refine (HDME.out _ HR7.out).mono ?_)
   rintro e v8 ⟨rfl, hb⟩
   have HR8 : Hid (Below w3.heap.size w3 v8) := HR7.out.thru hb
   clear hb
   go_wp2_with fail
   (with_reducible refine (HTD.out A3 X3 _).mono ?_)
   rintro e w' ⟨rfl, rfl⟩
   go_wp2_with fail
   (with_reducible refine (HVA.out _ HR8.out).mono ?_)
   rintro e v9 ⟨rfl, hb⟩
   have HR9 : Hid (Below w3.heap.size w3 v9) := HR8.out.thru hb
   clear hb
   go_wp2_with fail
   (with_reducible refine (HDVA.out _ HR9.out).mono ?_)
   rintro e v10 ⟨rfl, hb⟩
   have HR10 : Hid (Below w3.heap.size w3 v10) := HR9.out.thru hb
   clear hb
   go_wp2_with fail
   (with_reducible refine (HTD.out A4 X4 _).mono ?_)
   rintro e w' ⟨rfl, rfl⟩
   clear HR0 HR1 HR2 HR3 HR4 HR5 HR6 HR7 HR8 HR9
   go_wp2
   go_roundw
   case rel => exact ⟨k + 1, by omega, by first | rfl | rw [hw1], HR10.out⟩
   case measure => simp [intOf]; omega
  ·obtain rfl : k = 2 := by omega
   go_wp2_with fail
   (with_reducible refine (HKE.out _ HR0.out).mono ?_)
   rintro e v1 ⟨rfl, hb⟩
   have HR1 : Hid (Below w3.heap.size w3 v1) := HR0.out.thru hb
   clear hb
   go_wp2_with fail
   (with_reducible refine (HKE'.out _ HR1.out).mono ?_)
   rintro e v2 ⟨rfl, hb⟩
   have HR2 : Hid (Below w.heap.size w v2) := (HB3.out.thru HR1.out).thru hb
   clear hb
   go_wp2
   go_ret
   exact ⟨rfl, HR2.out⟩
end Go.Proofs.YtlffojopfilfeaaGreatDoor
