import Derived.Test.YtlbokicainimnaaGreatDoorQBH
import Derived.Test.YtlbokicainimnaaGreatDoorQRG
namespace Go.Proofs.YtlbokicainimnaaGreatDoor
open Go.RowKit Go.Lib
def QV (a b : Dc) (M D : Nat) : Prop:=(1000 < farV a b ∧ M = 1 * 2 ^ 3000 ∧ D = 1) ∨ (farV a b < -1000 ∧ M = 1 ∧ D = 1 * 2 ^ 4000) ∨ (-1000 ≤ farV a b ∧ farV a b ≤ 1000 ∧ M = qM a b ∧ D = qD a b)
theorem quo_bits {N l j k : Nat} (h : N < 10 ^ l) (hl : l + j ≤ k) : N * 10 ^ j < 2 ^ (4 * k + 1):=by
 refine Nat.lt_of_lt_of_le (Nat.mul_lt_mul_of_pos_right h (ten_pos j)) ?_
 rw [← Nat.pow_add]
 exact Nat.le_trans (Nat.pow_le_pow_right (by decide) hl) (Nat.le_of_lt (ten_lt2 k))
theorem qm_bits {a b : Dc} (ha : a.ok) (hb : b.ok) {k : Nat} (h1 : a.s.length + (a.e - b.e).natAbs ≤ k) (h2 : b.s.length + (a.e - b.e).natAbs ≤ k) : qM a b < 2 ^ (4 * k + 1) ∧ qD a b < 2 ^ (4 * k + 1):=
 ⟨quo_bits (ok_val ha) (by omega),quo_bits (ok_val hb) (by omega)⟩
theorem far_ex {a b : Dc} (ha : a.ok) (hb : b.ok) {f : Nat} (h1 : -(f : Int) ≤ farV a b) (h2 : farV a b ≤ f) : a.s.length + (a.e - b.e).natAbs ≤ 2 * 8192 + f ∧ b.s.length + (a.e - b.e).natAbs ≤ 2 * 8192 + f:=by
 have:=ok_len ha
 have:=ok_len hb
 unfold farV at h1 h2
 omega
theorem two_lt {j k : Nat} (h : j < k) : 1 * 2 ^ j < 2 ^ k:=by rw [Nat.one_mul]; exact Nat.pow_lt_pow_right (by decide) h
theorem QV.bd {a b : Dc} {M D : Nat} (ha : a.ok) (hb : b.ok) (h : QV a b M D) : ∃ bb,bb ≤ 80000 ∧ 8000 ≤ bb ∧ M < 2 ^ bb ∧ D < 2 ^ bb:=by
 obtain ⟨k,hk⟩ : ∃ k,k = 2 * 8192 + 1000:=⟨_,rfl⟩
 obtain ⟨x,hx⟩ : ∃ x,x = 3000:=⟨_,rfl⟩
 obtain ⟨y,hy⟩ : ∃ y,y = 4000:=⟨_,rfl⟩
 refine ⟨4 * k + 1,by omega,by omega,?_⟩
 unfold QV at h
 rw [← hx,← hy] at h
 rcases h with ⟨-,rfl,rfl⟩ | ⟨-,rfl,rfl⟩ | ⟨h1,h2,rfl,rfl⟩
 ·have h2 : 1 < 2 ^ (4 * k + 1):=Nat.one_lt_two_pow (by omega)
  exact ⟨two_lt (by omega),h2⟩
 ·have h2 : 1 < 2 ^ (4 * k + 1):=Nat.one_lt_two_pow (by omega)
  exact ⟨h2,two_lt (by omega)⟩
 ·obtain ⟨h3,h4⟩:=far_ex ha hb (f:=1000) h1 h2
  exact qm_bits ha hb (by omega) (by omega)
theorem QV.pos {a b : Dc} {M D : Nat} (ha : a.ok) (hb : b.ok) (h0 : a.s ≠ []) (h1 : b.s ≠ []) (h : QV a b M D) : 0 < M ∧ 0 < D:=by
 obtain ⟨x,hx⟩ : ∃ x,x = 3000:=⟨_,rfl⟩
 obtain ⟨y,hy⟩ : ∃ y,y = 4000:=⟨_,rfl⟩
 unfold QV at h
 rw [← hx,← hy] at h
 rcases h with ⟨-,rfl,rfl⟩ | ⟨-,rfl,rfl⟩ | ⟨-,-,rfl,rfl⟩
 ·exact ⟨Nat.mul_pos (by decide) (Nat.two_pow_pos _),by decide⟩
 ·exact ⟨by decide,Nat.mul_pos (by decide) (Nat.two_pow_pos _)⟩
 ·exact ⟨qM_pos ha h0,qD_pos hb h1⟩
theorem quo_same {a b : Dc} {M D c T l : Nat} {neg : Bool} {mode : Int} (hc : 1 ≤ c) (hTc : T + c ≤ 1024) (hl : l ≤ 1074) (ha : a.ok) (hb : b.ok) (h0 : a.s ≠ []) (h1 : b.s ≠ []) (h : QV a b M D) : outG c (-(l : Int)) T neg mode (ratMag M D 0) = outG c (-(l : Int)) T neg mode (quoG a b):=by
 have hp:=h.pos ha hb h0 h1
 have hok : (ratMag M D 0).Ok:=ratMag_ok hp.2
 obtain ⟨x,hx⟩ : ∃ x,x = 3000:=⟨_,rfl⟩
 obtain ⟨y,hy⟩ : ∃ y,y = 4000:=⟨_,rfl⟩
 unfold QV at h
 rw [← hx,← hy] at h
 rcases h with ⟨g,rfl,rfl⟩ | ⟨g,rfl,rfl⟩ | ⟨-,-,rfl,rfl⟩
 ·exact far_out hc (by omega) hok (quoG_ok hb h1) (far_up (k:=x) (by omega) (by decide) (by omega)) (quo_far_up hTc ha hb h0 h1 (by omega))
 ·exact far_out hc (by omega) hok (quoG_ok hb h1) (far_down (k:=y - 1) (by omega) (by decide) (by rw [Nat.one_mul,Nat.one_mul]; exact Nat.pow_lt_pow_right (by decide) (by omega))) (quo_far_down hl ha hb h0 h1 (by omega))
 ·rfl
end Go.Proofs.YtlbokicainimnaaGreatDoor
set_option maxRecDepth 100000
namespace Go.Proofs.YtlbokicainimnaaGreatDoor
open Go Go.RowKit
section
variable {P : Program}
theorem run_storeVar_two (w : World) (g k : Nat) (t ty : TypeId) (cs : Array Value) (x y : Value) (hg : w.heap[g]? = some (.cells cs t (0, 0))) (hk : k + 2 ≤ cs.size) (hi : (P.info? ty).map (·.size) = some 2) (h1 : x.oneCell' = true) (h2 : y.oneCell' = true) :
  (storeVar ty ⟨g,k,none⟩ (.agg #[x,y])).run P w = .ok () (w.setRow g (cs.toList.take k ++ [x,y] ++ cs.toList.drop (k + 2)).toArray):=by
 have:=run_storeCells_at (P:=P) g k t [x,y] 0 cs w hg (by simpa using hk) (by intro v hv; simp at hv; rcases hv with rfl | rfl <;> assumption)
 cases hq : P.info? ty with
 | none=>simp [hq] at hi
 | some i =>
   have hs : i.size = 2:=by simp [hq] at hi; exact hi
   simp only [Nat.add_zero,List.length_cons,List.length_nil,Nat.zero_add] at this
   simp [storeVar,sizeOf,typeInfo,hq,Value.cells,hs,this]
theorem wp_store_two {o : Oper} {a : Act} {w : World} {K : Act → World → Prop} {Q : Exit → Act → World → Prop} (ty : TypeId) (p q : Operand) (ho : o.op = .store ty p q)
  (g k : Nat) (x y : Value) (hx : a.eval p = .pointer (some ⟨g,k,none⟩)) (hy : a.eval q = .agg #[x,y])
  (t : TypeId) (cs : Array Value) (hg : w.heap[g]? = some (.cells cs t (0,0))) (hk : k + 2 ≤ cs.size) (hi : (P.info? ty).map (·.size) = some 2) (h1 : x.oneCell' = true) (h2 : y.oneCell' = true)
  (h : K (a.put o.dst undef) (w.setRow g (cs.toList.take k ++ [x,y] ++ cs.toList.drop (k + 2)).toArray)) : o.wp P a w K Q:=by
 unfold Oper.wp execOp
 simp only [ho,hx,hy,Instr.storeAt,Instr.sureAddr,Sem.run_bind,Sem.run_pure,Result.andThen_ok,run_storeVar_two w g k t ty cs x y hg hk hi h1 h2]
 exact h
end
def VRow (W : World) (g : Nat) (neg : Bool) : Prop:=∃ x a m c y a' m' c',W.heap[g]? = some (.cells #[.bool neg,.bool false,.bool x,.slice a m c,.bool y,.slice a' m' c'] 202 (0,0))
def VN (W : World) (g : Nat) (neg : Bool) (M : Nat) : Prop:=∃ a m c y a' m' c',W.heap[g]? = some (.cells #[.bool neg,.bool false,.bool false,.slice a m c,.bool y,.slice a' m' c'] 202 (0,0)) ∧ Num .u64 18446744073709551616 W (.slice a m c) M
def VD (W : World) (g : Nat) (neg : Bool) (D : Nat) : Prop:=∃ x a m c a' m' c',W.heap[g]? = some (.cells #[.bool neg,.bool false,.bool x,.slice a m c,.bool false,.slice a' m' c'] 202 (0,0)) ∧ Num .u64 18446744073709551616 W (.slice a' m' c') D
theorem VN.row {W : World} {g : Nat} {neg : Bool} {M : Nat} (h : VN W g neg M) : VRow W g neg:=by obtain ⟨a,m,c,y,a',m',c',h1,-⟩:=h; exact ⟨_,a,m,c,y,a',m',c',h1⟩
theorem VRow.lt {W : World} {g : Nat} {neg : Bool} (h : VRow W g neg) : g < W.heap.size:=by obtain ⟨x,a,m,c,y,a',m',c',h1⟩:=h; exact blk_lt h1
theorem VRow.below {W W' : World} {g : Nat} {neg : Bool} (h : VRow W g neg) (hb : Below W.heap.size W W') : VRow W' g neg:=by
 obtain ⟨x,a,m,c,y,a',m',c',h1⟩:=h; exact ⟨x,a,m,c,y,a',m',c',hb.blk h1 (blk_lt h1)⟩
theorem VN.below {W W' : World} {g : Nat} {neg : Bool} {M : Nat} (h : VN W g neg M) (hb : Below W.heap.size W W') : VN W' g neg M:=by
 obtain ⟨a,m,c,y,a',m',c',h1,h2⟩:=h; exact ⟨a,m,c,y,a',m',c',hb.blk h1 (blk_lt h1),h2.below (Nat.le_refl _) hb⟩
theorem VD.below {W W' : World} {g : Nat} {neg : Bool} {M : Nat} (h : VD W g neg M) (hb : Below W.heap.size W W') : VD W' g neg M:=by
 obtain ⟨x,a,m,c,a',m',c',h1,h2⟩:=h; exact ⟨x,a,m,c,a',m',c',hb.blk h1 (blk_lt h1),h2.below (Nat.le_refl _) hb⟩
theorem no_u64v (p q x y : Bool) (a a' : Option Addr) (m c m' c' : Nat) : ∀ (i : Nat) z,(#[Value.bool p,Value.bool q,Value.bool x,Value.slice a m c,Value.bool y,Value.slice a' m' c'] : Array Value)[i]? ≠ some (.int .u64 z):=by
 intro i z
 match i with
 | 0=>simp
 | 1=>simp
 | 2=>simp
 | 3=>simp
 | 4=>simp
 | 5=>simp
 | _ + 6=>simp
theorem WideI.vset {W : World} {g : Nat} {neg : Bool} {cs : Array Value} {v : Value} {V : Int} (h : WideI W v V) (hg : VRow W g neg) : WideI (W.setRow g cs) v V:=by
 obtain ⟨a,m,c,rfl,hn⟩:=h
 obtain ⟨x,a1,m1,c1,y,a2,m2,c2,h1⟩:=hg
 exact ⟨a,m,c,rfl,num_setRow hn h1 (no_u64v _ _ _ _ _ _ _ _ _ _)⟩
def Left2 (g : Nat) (neg : Bool) (W W' : World) : Prop:=VRow W' g neg ∧ (∀ g',g' ≠ g → W'.heap[g']? = W.heap[g']?) ∧ (∀ v V,WideI W v V → WideI W' v V) ∧ (∀ B w,B ≤ g → Below B w W → Below B w W')
theorem store_num {P : Program} {o : Oper} {ac : Act} {W : World} {K : Act → World → Prop} {Q : Exit → Act → World → Prop} (ty : TypeId) (p q : Operand) (ho : o.op = .store ty p q) (hi : (P.info? ty).map (·.size) = some 2) (g : Nat) (neg : Bool) (M : Nat) (v : Value) (hx : ac.eval p = .pointer (some ⟨g, 2, none⟩)) (hy : ac.eval q = v) (hv : WideI W v (M : Nat)) (hr : VRow W g neg)
  (h : ∀ W',VN W' g neg M → (∀ D,VD W g neg D → VD W' g neg D) → Left2 g neg W W' → K (ac.put o.dst undef) W') : o.wp P ac W K Q:=by
 obtain ⟨a,m,c,rfl,hn⟩:=hv.nat
 have hr0:=hr
 obtain ⟨x,a1,m1,c1,y,a2,m2,c2,h1⟩:=hr
 refine wp_store_two ty p q ho g 2 (.bool false) (.slice a m c) hx hy _ _ h1 (by simp) hi rfl rfl ?_
 have hW : (W.setRow g #[.bool neg,.bool false,.bool false,.slice a m c,.bool y,.slice a2 m2 c2]).heap[g]? = some (.cells #[.bool neg,.bool false,.bool false,.slice a m c,.bool y,.slice a2 m2 c2] 202 (0,0)):=setRow_heap W g _ _ _ _ h1
 refine h (W.setRow g #[.bool neg,.bool false,.bool false,.slice a m c,.bool y,.slice a2 m2 c2]) ⟨a,m,c,y,a2,m2,c2,hW,num_setRow hn h1 (no_u64v _ _ _ _ _ _ _ _ _ _)⟩ ?_ ⟨⟨_,_,_,_,_,_,_,_,hW⟩,fun g' hg=>setRow_other W g g' _ hg,fun v V hv=>hv.vset hr0,fun B w hB hb=>below_setRow hb hB _⟩
 rintro D ⟨x',b1,n1,d1,b2,n2,d2,k1,k2⟩
 rw [h1] at k1
 cases k1
 exact ⟨_,_,_,_,_,_,_,hW,num_setRow k2 h1 (no_u64v _ _ _ _ _ _ _ _ _ _)⟩
theorem store_den {P : Program} {o : Oper} {ac : Act} {W : World} {K : Act → World → Prop} {Q : Exit → Act → World → Prop} (ty : TypeId) (p q : Operand) (ho : o.op = .store ty p q) (hi : (P.info? ty).map (·.size) = some 2) (g : Nat) (neg : Bool) (M : Nat) (v : Value) (hx : ac.eval p = .pointer (some ⟨g, 4, none⟩)) (hy : ac.eval q = v) (hv : WideI W v (M : Nat)) (hr : VRow W g neg)
  (h : ∀ W',VD W' g neg M → (∀ D,VN W g neg D → VN W' g neg D) → Left2 g neg W W' → K (ac.put o.dst undef) W') : o.wp P ac W K Q:=by
 obtain ⟨a,m,c,rfl,hn⟩:=hv.nat
 have hr0:=hr
 obtain ⟨x,a1,m1,c1,y,a2,m2,c2,h1⟩:=hr
 refine wp_store_two ty p q ho g 4 (.bool false) (.slice a m c) hx hy _ _ h1 (by simp) hi rfl rfl ?_
 have hW : (W.setRow g #[.bool neg,.bool false,.bool x,.slice a1 m1 c1,.bool false,.slice a m c]).heap[g]? = some (.cells #[.bool neg,.bool false,.bool x,.slice a1 m1 c1,.bool false,.slice a m c] 202 (0,0)):=setRow_heap W g _ _ _ _ h1
 refine h (W.setRow g #[.bool neg,.bool false,.bool x,.slice a1 m1 c1,.bool false,.slice a m c]) ⟨x,a1,m1,c1,a,m,c,hW,num_setRow hn h1 (no_u64v _ _ _ _ _ _ _ _ _ _)⟩ ?_ ⟨⟨_,_,_,_,_,_,_,_,hW⟩,fun g' hg=>setRow_other W g g' _ hg,fun v V hv=>hv.vset hr0,fun B w hB hb=>below_setRow hb hB _⟩
 rintro D ⟨b1,n1,d1,y',b2,n2,d2,k1,k2⟩
 rw [h1] at k1
 cases k1
 exact ⟨_,_,_,_,_,_,_,hW,num_setRow k2 h1 (no_u64v _ _ _ _ _ _ _ _ _ _)⟩
theorem storeL_num {P : Program} {ops : Array Oper} {rest : List Oper} {o : Oper} {ac : Act} {W : World} {Q : Exit → Act → World → Prop} (hgd : o.guard = none) (ty : TypeId) (p q : Operand) (ho : o.op = .store ty p q) (hi : (P.info? ty).map (·.size) = some 2) (g : Nat) (neg : Bool) (M : Nat) (v : Value) (hx : ac.eval p = .pointer (some ⟨g, 2, none⟩)) (hy : ac.eval q = v) (hv : WideI W v (M : Nat)) (hr : VRow W g neg)
  (h : ∀ W',VN W' g neg M → (∀ D,VD W g neg D → VD W' g neg D) → Left2 g neg W W' → wpList P ops Q rest (ac.put o.dst undef) W') : wpList P ops Q (o :: rest) ac W:=
 wpList_plain hgd fun _ hK=>store_num ty p q ho hi g neg M v hx hy hv hr fun W' h1 h2 h3=>hK _ _ (h W' h1 h2 h3)
theorem storeL_den {P : Program} {ops : Array Oper} {rest : List Oper} {o : Oper} {ac : Act} {W : World} {Q : Exit → Act → World → Prop} (hgd : o.guard = none) (ty : TypeId) (p q : Operand) (ho : o.op = .store ty p q) (hi : (P.info? ty).map (·.size) = some 2) (g : Nat) (neg : Bool) (M : Nat) (v : Value) (hx : ac.eval p = .pointer (some ⟨g, 4, none⟩)) (hy : ac.eval q = v) (hv : WideI W v (M : Nat)) (hr : VRow W g neg)
  (h : ∀ W',VD W' g neg M → (∀ D,VN W g neg D → VN W' g neg D) → Left2 g neg W W' → wpList P ops Q rest (ac.put o.dst undef) W') : wpList P ops Q (o :: rest) ac W:=
 wpList_plain hgd fun _ hK=>store_den ty p q ho hi g neg M v hx hy hv hr fun W' h1 h2 h3=>hK _ _ (h W' h1 h2 h3)
theorem VN.both {W : World} {g : Nat} {neg : Bool} {M D : Nat} (h : VN W g neg M) (h' : VD W g neg D) : ∃ a m c a' m' c',W.heap[g]? = some (.cells #[.bool neg,.bool false,.bool false,.slice a m c,.bool false,.slice a' m' c'] 202 (0,0)) ∧ Num .u64 18446744073709551616 W (.slice a m c) M ∧ Num .u64 18446744073709551616 W (.slice a' m' c') D:=by
 obtain ⟨a,m,c,y,a1,m1,c1,h1,h2⟩:=h
 obtain ⟨x,b,n,d,b1,n1,d1,k1,k2⟩:=h'
 rw [h1] at k1
 cases k1
 exact ⟨_,_,_,_,_,_,h1,h2,k2⟩
def QG (w : World) (a b : Dc) (g : Nat) (W : World) : Prop:=Below w.heap.size w W ∧ W.heap[w.heap.size]? = some (.cells #[.bool a.neg,.string (bs a.s),.int .i64 a.e] 35 (0,0)) ∧ W.heap[w.heap.size + 1]? = some (.cells #[.bool b.neg,.string (bs b.s),.int .i64 b.e] 35 (0,0)) ∧
 W.heap[w.heap.size + 2]? = some (.cells #[.bool false,.bool false,.bool false,.slice none 0 0,.bool false,.slice none 0 0] 202 (0,0)) ∧ VRow W g (a.neg != b.neg) ∧ w.heap.size + 3 ≤ g
theorem QG.below {w W W' : World} {a b : Dc} {g : Nat} (h : QG w a b g W) (hb : Below W.heap.size W W') : QG w a b g W':=by
 obtain ⟨h1,h2,h3,h4,h5,h6⟩:=h
 exact ⟨h1.thru hb,hb.blk h2 (blk_lt h2),hb.blk h3 (blk_lt h3),hb.blk h4 (blk_lt h4),h5.below hb,h6⟩
theorem QG.left2 {w W W' : World} {a b : Dc} {g : Nat} (h : QG w a b g W) (hl : Left2 g (a.neg != b.neg) W W') : QG w a b g W':=by
 obtain ⟨h1,h2,h3,h4,h5,h6⟩:=h
 obtain ⟨k1,k2,-,k4⟩:=hl
 exact ⟨k4 _ _ (by omega) h1,(k2 _ (by omega)).trans h2,(k2 _ (by omega)).trans h3,(k2 _ (by omega)).trans h4,k1,h6⟩
theorem QG.c1 {w W : World} {a b : Dc} {g : Nat} (h : QG w a b g W) : W.cell? ⟨w.heap.size,0,none⟩ = some (.bool a.neg) ∧ W.cell? ⟨w.heap.size,1,none⟩ = some (.string (bs a.s)) ∧ W.cell? ⟨w.heap.size,2,none⟩ = some (.int .i64 a.e):=
 ⟨cell_of_row W _ 0 _ _ _ h.2.1,cell_of_row W _ 1 _ _ _ h.2.1,cell_of_row W _ 2 _ _ _ h.2.1⟩
theorem QG.c2 {w W : World} {a b : Dc} {g : Nat} (h : QG w a b g W) : W.cell? ⟨w.heap.size + 1,0,none⟩ = some (.bool b.neg) ∧ W.cell? ⟨w.heap.size + 1,1,none⟩ = some (.string (bs b.s)) ∧ W.cell? ⟨w.heap.size + 1,2,none⟩ = some (.int .i64 b.e):=
 ⟨cell_of_row W _ 0 _ _ _ h.2.2.1,cell_of_row W _ 1 _ _ _ h.2.2.1,cell_of_row W _ 2 _ _ _ h.2.2.1⟩
def QuoVQ (a b : Dc) (w : World) (e : Ending) (w' : World) : Prop:=∃ a1 m1 c1 a2 m2 c2 M D,e = .returned (.agg #[.bool (a.neg != b.neg),.bool false,.bool false,.slice a1 m1 c1,.bool false,.slice a2 m2 c2]) ∧ Num .u64 18446744073709551616 w' (.slice a1 m1 c1) M ∧ Num .u64 18446744073709551616 w' (.slice a2 m2 c2) D ∧ QV a b M D ∧ Below w.heap.size w w'
theorem quov_end {fn : Func} {p : Tmp} (hf : fn.results = #[.cell p 202]) {tmps : Array Value} {w W : World} {a b : Dc} {a1 a2 : Option Addr} {m1 c1 m2 c2 M D : Nat} {g : Nat} (hp : tmps.getD p undef = .pointer (some ⟨w.heap.size + 2, 0, none⟩)) (hG : QG w a b g W)
  (h1 : Num .u64 18446744073709551616 W (.slice a1 m1 c1) M) (h2 : Num .u64 18446744073709551616 W (.slice a2 m2 c2) D) (hv : QV a b M D) : bodyPost Tryz.prog fn (QuoVQ a b w) .ret ⟨tmps,[]⟩ (W.setRow (w.heap.size + 2) #[.bool (a.neg != b.neg),.bool false,.bool false,.slice a1 m1 c1,.bool false,.slice a2 m2 c2]):=by
 refine bodyPost_ret (results_cell_row hf _ _ (w.heap.size + 2) 202 _ _ _ hp (setRow_heap _ _ _ _ _ _ hG.2.2.2.1) Tryz.underlying202 rfl (by kernel_rfl)) rfl ⟨a1,m1,c1,a2,m2,c2,M,D,rfl,?_,?_,hv,below_setRow hG.1 (by omega) _⟩
 ·exact num_setRow h1 hG.2.2.2.1 (no_u64v _ _ _ _ _ _ _ _ _ _)
 ·exact num_setRow h2 hG.2.2.2.1 (no_u64v _ _ _ _ _ _ _ _ _ _)
theorem ok_nines {d : Dc} (h : d.ok) {k : Nat} (hk : 4 * 8192 + 1 ≤ k) : dval d.s < 2 ^ k:=by
 refine Nat.lt_of_lt_of_le (ok_val h) (Nat.le_trans (Nat.le_of_lt (ten_lt2 _)) (Nat.pow_le_pow_right (by decide) ?_))
 have:=ok_len h
 omega
set_option maxHeartbeats 8000000 in
theorem quotient_v (a b : Dc) (ha : a.ok) (hb : b.ok) (h0 : a.s ≠ []) (h1 : b.s ≠ []) (w : World) :
  Calls Tryz.prog 168 #[.agg #[.bool a.neg,.string (bs a.s),.int .i64 a.e],.agg #[.bool b.neg,.string (bs b.s),.int .i64 b.e]] w (QuoVQ a b w):=by
 obtain ⟨w3,hw3⟩ : ∃ W,W = (((w.alloc (.cells #[.bool a.neg,.string (bs a.s),.int .i64 a.e] 35)).alloc (.cells #[.bool b.neg,.string (bs b.s),.int .i64 b.e] 35)).alloc (.cells #[.bool false,.bool false,.bool false,.slice none 0 0,.bool false,.slice none 0 0] 202)):=⟨_,rfl⟩
 have hba : Below w.heap.size w w3:=by rw [hw3]; exact (((Below.refl _ _).alloc (Nat.le_refl _) _).alloc (by simp) _).alloc (by simp; omega) _
 have hsz : w3.heap.size = w.heap.size + 3:=by rw [hw3]; simp
 have q0 : w3.heap[w.heap.size]? = some (.cells #[.bool a.neg,.string (bs a.s),.int .i64 a.e] 35 (0,0)):=by rw [hw3]; exact (heap_alloc_old _ _ (by simp; omega)).trans ((heap_alloc_old _ _ (by simp)).trans (heap_alloc_new _ _))
 have q1 : w3.heap[w.heap.size + 1]? = some (.cells #[.bool b.neg,.string (bs b.s),.int .i64 b.e] 35 (0,0)):=by rw [hw3]; exact (heap_alloc_old _ _ (by simp)).trans (heap_alloc2_new w _ _)
 have q2 : w3.heap[w.heap.size + 2]? = some (.cells #[.bool false,.bool false,.bool false,.slice none 0 0,.bool false,.slice none 0 0] 202 (0,0)):=by
  rw [hw3]
  have:=heap_alloc2_new (w.alloc (.cells #[.bool a.neg,.string (bs a.s),.int .i64 a.e] 35)) (.cells #[.bool b.neg,.string (bs b.s),.int .i64 b.e] 35) (.cells #[.bool false,.bool false,.bool false,.slice none 0 0,.bool false,.slice none 0 0] 202)
  simpa using this
 obtain ⟨ng,hng⟩ : ∃ x,x = (a.neg != b.neg):=⟨_,rfl⟩
 have HNG : Hid (ng = (a.neg != b.neg)):=hng
 have HX : Hid (∀ W,Below w3.heap.size w3 W → Below w.heap.size w W ∧ W.heap[w.heap.size]? = some (.cells #[.bool a.neg,.string (bs a.s),.int .i64 a.e] 35 (0,0)) ∧ W.heap[w.heap.size + 1]? = some (.cells #[.bool b.neg,.string (bs b.s),.int .i64 b.e] 35 (0,0)) ∧ W.heap[w.heap.size + 2]? = some (.cells #[.bool false,.bool false,.bool false,.slice none 0 0,.bool false,.slice none 0 0] 202 (0,0))):=fun W hW=>
  ⟨hba.trans (hW.mono hba.size),hW.blk q0 (by omega),hW.blk q1 (by omega),hW.blk q2 (by omega)⟩
 have HSZ : Hid (w3.heap.size = w.heap.size + 3):=hsz
 have HA : Hid a.ok:=ha
 have HB : Hid b.ok:=hb
 have HA0 : Hid (a.s ≠ []):=h0
 have HB0 : Hid (b.s ≠ []):=h1
 have HW1 : Hid (∀ W,Calls Tryz.prog 103 #[.int .u64 1] W (WideR ((1 : Nat) : Int) W)):=fun W=>word_v 1 W (by decide)
 have HPA : Hid (∀ W,Calls Tryz.prog 161 #[.string (bs a.s)] W (WideR (dval a.s : Nat) W)):=fun W=>iparse_v (bs a.s) W (ok_dig ha) (by have:=ok_len ha; show a.s.length ≤ _; omega)
 have HPB : Hid (∀ W,Calls Tryz.prog 161 #[.string (bs b.s)] W (WideR (dval b.s : Nat) W)):=fun W=>iparse_v (bs b.s) W (ok_dig hb) (by have:=ok_len hb; show b.s.length ≤ _; omega)
 have eA:=ok_exp ha
 have eB:=ok_exp hb
 have lA:=ok_len ha
 have lB:=ok_len hb
 clear ha hb h0 h1 hba hsz q0 q1 q2
 go_enter Tryz.func168,Tryz.ntmps168
 go_upto_region 1 with fail
 rw [← hw3]
 clear hw3
 have h1 : once [(8,0),(9,1),(10,2),(11,3),(12,4),(13,5),(14,6),(15,7),(5,8)] = true:=by kernel_rfl
 have h2 : within [(8,0),(9,1),(10,2),(11,3),(12,4),(13,5),(14,6),(15,7),(5,8)] 70 = true:=by kernel_rfl
 let S : Nat → (Nat → Value) → World → Prop:=fun i xs W=>match i with
  | 0=>xs 0 = .pointer (some ⟨w.heap.size,0,none⟩)
  | 1=>xs 1 = .bool a.neg
  | 2=>xs 2 = .pointer (some ⟨w.heap.size + 1,0,none⟩)
  | 3=>xs 3 = .bool b.neg
  | 4=>xs 4 = .bool ng
  | 5=>WideI W (xs 5) ((1 : Nat) : Int)
  | 6=>WideI W (xs 6) ((1 : Nat) : Int)
  | 7=>∃ a1 m1 c1 a2 m2 c2,(xs 7) = .agg #[.bool ng,.bool false,.bool false,.slice a1 m1 c1,.bool false,.slice a2 m2 c2] ∧ Num .u64 18446744073709551616 W (.slice a1 m1 c1) 1 ∧ Num .u64 18446744073709551616 W (.slice a2 m2 c2) 1
  | 8=>∃ g,(xs 8) = .pointer (some ⟨g,0,none⟩) ∧ w3.heap.size ≤ g ∧ g < W.heap.size ∧ W.heap[g]? = some (.cells #[.bool false,.bool false,.bool false,.slice none 0 0,.bool false,.slice none 0 0] 202 (0,0))
  | _=>True
 have hstab : ∀ j ys W W',S j ys W → Below W.heap.size W W' → S j ys W':=by
  intro j ys W W' h hb
  match j,h with
  | 0,h=>exact h
  | 1,h=>exact h
  | 2,h=>exact h
  | 3,h=>exact h
  | 4,h=>exact h
  | 5,h=>exact h.below hb
  | 6,h=>exact h.below hb
  | 7,⟨a1,m1,c1,a2,m2,c2,e1,n1,n2⟩=>exact ⟨a1,m1,c1,a2,m2,c2,e1,n1.below (Nat.le_refl _) hb,n2.below (Nat.le_refl _) hb⟩
  | 8,⟨g,s1,s2,s3,s4⟩=>exact ⟨g,s1,s2,Nat.lt_of_lt_of_le s3 hb.size,hb.blk s4 s3⟩
  | _ + 9,h=>exact trivial
 refine wp_region_flow3T 9 10 4 [(8,0),(9,1),(10,2),(11,3),(12,4),(13,5),(14,6),(15,7),(5,8)] [8] S (fun _ W=>(fun W=>Below w3.heap.size w3 W) W) ((Below.refl _ _).drew) (by kernel_rfl) (by kernel_rfl) (by kernel_rfl) (by decide) (by kernel_rfl) h1 (by kernel_rfl) ?_ ?_ ?_ ?_
 ·intro j hj xs W h
  simp only [List.mem_cons,List.not_mem_nil,or_false] at hj
  rcases hj with rfl
  ·obtain ⟨g,s1,s2,s3,s4⟩:=h; exact ⟨g,s1,s3⟩
 ·intro j xs ys W e h
  match j,e,h with
  | 0,e,h=>exact c_ (e 0 (.inl rfl)) h
  | 1,e,h=>exact c_ (e 1 (.inl rfl)) h
  | 2,e,h=>exact c_ (e 2 (.inl rfl)) h
  | 3,e,h=>exact c_ (e 3 (.inl rfl)) h
  | 4,e,h=>exact c_ (e 4 (.inl rfl)) h
  | 5,e,h=>exact (congrArg (fun z=>WideI W z _) (e 5 (.inl rfl))).mp h
  | 6,e,h=>exact (congrArg (fun z=>WideI W z _) (e 6 (.inl rfl))).mp h
  | 7,e,⟨a1,m1,c1,a2,m2,c2,e1,r⟩=>exact ⟨a1,m1,c1,a2,m2,c2,(e 7 (.inl rfl)).symm.trans e1,r⟩
  | 8,e,⟨g,s1,r⟩=>exact ⟨g,(e 8 (.inl rfl)).symm.trans s1,r⟩
  | _ + 9,e,h=>exact trivial
 ·refine ⟨⟨⟨⟨⟨⟨⟨⟨⟨trivial,?_⟩,?_⟩,?_⟩,?_⟩,?_⟩,?_⟩,?_⟩,?_⟩,?_⟩
  ·refine flow3_step _ (some 8) rfl rfl rfl h1 h2 gI gB hstab fun ac xs W Dn he hni hG hS K hK=>?_
   have e0 : ac.eval (.tmp 2) = .pointer (some ⟨w.heap.size,0,none⟩):=he 2
   refine op_any (.fieldAddr 35 (.tmp 2) 0) rfl (.pointer (some ⟨w.heap.size,0,none⟩)) (fun o' ho'=>?_) (hK _ _ rfl bR (fun h=>absurd h (by decide)))
   simp only [execOp,ho',e0]
   go_simp
  ·refine flow3_step _ (some 9) rfl rfl rfl h1 h2 gI gB hstab fun ac xs W Dn he hni hG hS K hK=>?_
   have e0:=(he 8).trans (hS 0 (by kernel_rfl))
   refine op_any (.load 4 (.tmp 8)) rfl (.bool a.neg) (fun o' ho'=>?_) (hK _ _ rfl bR (fun h=>absurd h (by decide)))
   simp only [execOp,ho',e0]
   have hc:=cell_of_row W w.heap.size 0 _ _ _ (HX.out W hG).2.1
   go_simp
  ·refine flow3_step _ (some 10) rfl rfl rfl h1 h2 gI gB hstab fun ac xs W Dn he hni hG hS K hK=>?_
   have e0 : ac.eval (.tmp 3) = .pointer (some ⟨w.heap.size + 1,0,none⟩):=he 3
   refine op_any (.fieldAddr 35 (.tmp 3) 0) rfl (.pointer (some ⟨w.heap.size + 1,0,none⟩)) (fun o' ho'=>?_) (hK _ _ rfl bR (fun h=>absurd h (by decide)))
   simp only [execOp,ho',e0]
   go_simp
  ·refine flow3_step _ (some 11) rfl rfl rfl h1 h2 gI gB hstab fun ac xs W Dn he hni hG hS K hK=>?_
   have e0:=(he 10).trans (hS 2 (by kernel_rfl))
   refine op_any (.load 4 (.tmp 10)) rfl (.bool b.neg) (fun o' ho'=>?_) (hK _ _ rfl bR (fun h=>absurd h (by decide)))
   simp only [execOp,ho',e0]
   have hc:=cell_of_row W (w.heap.size + 1) 0 _ _ _ (HX.out W hG).2.2.1
   go_simp
  ·refine flow3_step _ (some 12) rfl rfl rfl h1 h2 gI gB hstab fun ac xs W Dn he hni hG hS K hK=>?_
   have k0 : (!(a.neg == b.neg)) = ng:=by rw [HNG.out]; rfl
   have e0:=(he 9).trans (hS 1 (by kernel_rfl))
   have e1:=(he 11).trans (hS 3 (by kernel_rfl))
   refine op_any (.binOp .neq 4 (.tmp 9) (.tmp 11) 4) rfl (.bool ng) (fun o' ho'=>?_) (hK _ _ rfl bR (fun h=>absurd h (by decide)))
   simp only [execOp,ho',e0,e1]
   go_simp
  ·refine flow3_step _ (some 13) rfl rfl rfl h1 h2 gI gB hstab fun ac xs W Dn he hni hG hS K hK=>?_
   refine op_call 103 _ _ rfl _ (by simp only [List.map,eval_const]) (by go_simp) (HW1.out W) ?_
   rintro e' W' ⟨u,rfl,hi',hb'⟩
   exact ⟨_,rfl,hK _ _ hi' hb' (fun h=>absurd h (by decide))⟩
  ·refine flow3_step _ (some 14) rfl rfl rfl h1 h2 gI gB hstab fun ac xs W Dn he hni hG hS K hK=>?_
   refine op_call 103 _ _ rfl _ (by simp only [List.map,eval_const]) (by go_simp) (HW1.out W) ?_
   rintro e' W' ⟨u,rfl,hi',hb'⟩
   exact ⟨_,rfl,hK _ _ hi' hb' (fun h=>absurd h (by decide))⟩
  ·refine flow3_step _ (some 15) rfl rfl rfl h1 h2 gI gB hstab fun ac xs W Dn he hni hG hS K hK=>?_
   obtain ⟨a1,m1,c1,e1,n1⟩:=WideI.nat (N:=1) (hS 5 (by kernel_rfl))
   obtain ⟨a2,m2,c2,e2,n2⟩:=WideI.nat (N:=1) (hS 6 (by kernel_rfl))
   have f0 : ac.tmps[12]?.getD undef = .bool ng:=by rw [← Array.getD_eq_getD_getElem?]; exact (he 12).trans (hS 4 (by kernel_rfl))
   have f1 : ac.tmps[13]?.getD undef = .agg #[.bool false,.slice a1 m1 c1]:=by rw [← Array.getD_eq_getD_getElem?]; exact (he 13).trans e1
   have f2 : ac.tmps[14]?.getD undef = .agg #[.bool false,.slice a2 m2 c2]:=by rw [← Array.getD_eq_getD_getElem?]; exact (he 14).trans e2
   refine op_any (.build 202 #[(0,.tmp 12),(2,.tmp 13),(3,.tmp 14)]) rfl (.agg #[.bool ng,.bool false,.bool false,.slice a1 m1 c1,.bool false,.slice a2 m2 c2]) (fun o' ho'=>?_) (hK _ _ ⟨_,_,_,_,_,_,rfl,n1,n2⟩ bR (fun h=>absurd h (by decide)))
   simp only [execOp,ho']
   go_simp
  ·refine flow3_step _ (some 5) rfl rfl rfl h1 h2 gI gB hstab fun ac xs W Dn he hni hG hS K hK=>?_
   have hsz:=hG.size
   refine op_anyw (.alloc 202) rfl (.pointer (some ⟨W.heap.size,0,none⟩)) (W.alloc (.cells #[.bool false,.bool false,.bool false,.slice none 0 0,.bool false,.slice none 0 0] 202)) ?_ ?_
   ·intro o' ho'
    simp only [execOp,ho']
    go_simp
   ·exact hK _ _ ⟨_,rfl,by omega,by simp,heap_alloc_new _ _⟩ (bR.alloc (Nat.le_refl _) _) (fun _=>rfl)
 ·intro xs W4 Dn hall hG hS hD
  obtain ⟨g5,s8,hg5,hg6,hr5⟩:=hS 8 (by decide)
  obtain ⟨a1,m1,c1,a2,m2,c2,s7,n1,n2⟩:=hS 7 (by decide)
  simp only [layAll,s7,s8,List.setIfInBounds_toArray,List.set_cons_succ,List.set_cons_zero]
  clear hS hD hall hstab S s7 s8 h1 h2
  obtain ⟨y1,y2,y3,y4⟩:=HX.out W4 hG
  have hw5:=setRow_heap W4 g5 _ #[.bool ng,.bool false,.bool false,.slice a1 m1 c1,.bool false,.slice a2 m2 c2] _ _ hr5
  have hsz:=HSZ.out
  have hVN : VN (W4.setRow g5 #[.bool ng,.bool false,.bool false,.slice a1 m1 c1,.bool false,.slice a2 m2 c2]) g5 ng 1:=⟨_,_,_,_,_,_,_,hw5,num_setRow n1 hr5 (no_u64v _ _ _ _ _ _ _ _ _ _)⟩
  have hVD : VD (W4.setRow g5 #[.bool ng,.bool false,.bool false,.slice a1 m1 c1,.bool false,.slice a2 m2 c2]) g5 ng 1:=⟨_,_,_,_,_,_,_,hw5,num_setRow n2 hr5 (no_u64v _ _ _ _ _ _ _ _ _ _)⟩
  have hQG : QG w a b g5 (W4.setRow g5 #[.bool ng,.bool false,.bool false,.slice a1 m1 c1,.bool false,.slice a2 m2 c2]):=⟨below_setRow y1 (by omega) _,(setRow_other W4 g5 _ _ (by omega)).trans y2,(setRow_other W4 g5 _ _ (by omega)).trans y3,(setRow_other W4 g5 _ _ (by omega)).trans y4,by rw [← HNG.out]; exact hVN.row,by omega⟩
  refine wpList_store_row rfl 202 (.tmp 5) (.tmp 15) rfl g5 #[.bool ng,.bool false,.bool false,.slice a1 m1 c1,.bool false,.slice a2 m2 c2] rfl rfl _ _ hr5 (by kernel_rfl) rfl (by simp [Value.oneCell']) ?_
  obtain ⟨w5,hw5⟩ : ∃ W,W = W4.setRow g5 #[.bool ng,.bool false,.bool false,.slice a1 m1 c1,.bool false,.slice a2 m2 c2]:=⟨_,rfl⟩
  rw [← hw5] at hVN hVD hQG ⊢
  clear hw5 y1 y2 y3 y4 n1 n2 hr5 hg5 hg6 hG
  clear hsz
  have HVN : Hid (VN w5 g5 ng 1):=hVN
  have HVD : Hid (VD w5 g5 ng 1):=hVD
  have HQG : Hid (QG w a b g5 w5):=hQG
  obtain ⟨-,-,ca⟩:=hQG.c1
  obtain ⟨-,-,cb⟩:=hQG.c2
  have da:=hQG.c1.2.1
  have db:=hQG.c2.2.1
  clear hVN hVD hQG hng
  obtain ⟨ex,hex⟩ : ∃ x,x = a.e - b.e:=⟨_,rfl⟩
  obtain ⟨far,hfar⟩ : ∃ x,x = farV a b:=⟨_,rfl⟩
  have HEX : Hid (ex = a.e - b.e):=hex
  have HFAR : Hid (far = farV a b):=hfar
  unfold farV at hfar
  have z1 : ((bs a.s).size : Int) = (a.s.length : Nat):=rfl
  have z2 : ((bs b.s).size : Int) = (b.s.length : Nat):=rfl
  have i1 : IntKind.i64.wrap (a.e - b.e) = ex:=by rw [hex]; exact IntWalk.i64_in _ (by omega)
  have i2 : IntKind.i64.wrap ((a.s.length : Int) - b.s.length) = (a.s.length : Int) - b.s.length:=IntWalk.i64_in _ (by omega)
  have i3 : IntKind.i64.wrap ((a.s.length : Int) - b.s.length + ex) = far:=by rw [hfar,hex]; exact IntWalk.i64_in _ (by omega)
  have HEB : Hid (-40000 ≤ ex ∧ ex ≤ 40000 ∧ ex = far - a.s.length + b.s.length ∧ a.s.length ≤ 8192 ∧ b.s.length ≤ 8192):=by show _ ∧ _; omega
  clear hex hfar lA lB
  obtain ⟨na,hna⟩ : ∃ n,n = dval a.s:=⟨_,rfl⟩
  obtain ⟨nb,hnb⟩ : ∃ n,n = dval b.s:=⟨_,rfl⟩
  have HNA : Hid (na = dval a.s ∧ nb = dval b.s):=⟨hna,hnb⟩
  rw [← hna] at HPA
  rw [← hnb] at HPB
  clear hna hnb eA eB
  by_cases hf : 1000 < far
  ·obtain ⟨K,hK⟩ : ∃ K,K = 1 * 2 ^ 3000:=⟨_,rfl⟩
   have HK3 : Hid (K = 1 * 2 ^ 3000):=hK
   have HL : Hid (∀ W v,WideI W v ((1 : Nat) : Int) → Calls Tryz.prog 104 #[v,.int .i64 3000] W (WideR ((K : Nat) : Int) W)):=fun W v hv=>by
    rw [hK]; exact left_i v 1 3000 3000 W rfl hv (bb:=1) (by decide) (by decide) (by decide)
   clear hK
   obtain ⟨p1,p2,p3,py,p4,p5,p6,r5,n5⟩:=HVN.out
   have k2:=cell_of_row w5 g5 2 _ _ _ r5
   have k3:=cell_of_row w5 g5 3 _ _ _ r5
   have HN5 : Hid _:=n5
   clear n5 r5
   go_wp2_with fail
   refine (HL.out _ _ (.mk HN5.out)).mono ?_
   rintro e w6 ⟨v,rfl,hv,hb6⟩
   have HV6 : Hid _:=hv
   obtain ⟨y1,y2,y3,rfl,hn⟩:=hv.nat
   have HY : Hid (WideI w6 (.agg #[.bool false,.slice y1 y2 y3]) (K : Nat)):=.mk hn
   have HQ6 : Hid (QG w a b g5 w6):=HQG.out.below hb6
   have HN6 : Hid (VN w6 g5 ng 1):=HVN.out.below hb6
   have HD6 : Hid (VD w6 g5 ng 1):=HVD.out.below hb6
   clear hn hv HV6 hb6 k2 k3 ca cb da db i1 i2 i3 z1 z2
   go_upto_region 6 with (refine storeL_num rfl 123 (.tmp 36) (.tmp 35) rfl (by kernel_rfl) g5 ng K _ rfl rfl HY.out HN6.out.row ?_; intro w7 e1 e2 e3)
   have HQ7 : Hid (QG w a b g5 w7):=HQ6.out.left2 (by rw [← HNG.out]; exact e3)
   obtain ⟨b1,b2,b3,d1,d2,d3,r9,n1,n2⟩:=VN.both e1 (e2 _ HD6.out)
   have HN1 : Hid _:=n1
   have HN2 : Hid _:=n2
   have r4:=HQ7.out.2.2.2.1
   have k0:=cell_of_row _ g5 0 _ _ _ r9
   have k1:=cell_of_row _ g5 1 _ _ _ r9
   have k2:=cell_of_row _ g5 2 _ _ _ r9
   have k3:=cell_of_row _ g5 3 _ _ _ r9
   have k4:=cell_of_row _ g5 4 _ _ _ r9
   have k5:=cell_of_row _ g5 5 _ _ _ r9
   clear n1 n2 r9
   go_wp2_with (refine wpList_store_row rfl 202 (.tmp 4) (.tmp 37) rfl (w.heap.size + 2) #[.bool ng,.bool false,.bool false,.slice b1 b2 b3,.bool false,.slice d1 d2 d3] rfl rfl _ _ r4 (by kernel_rfl) rfl (by simp [Value.oneCell']) ?_)
   rw [HNG.out]
   exact quov_end (p:=4) rfl rfl HQ7.out HN1.out HN2.out (.inl ⟨by rw [← HFAR.out]; exact hf,HK3.out,rfl⟩)
  by_cases hg : far < -1000
  ·obtain ⟨K,hK⟩ : ∃ K,K = 1 * 2 ^ 4000:=⟨_,rfl⟩
   have HK3 : Hid (K = 1 * 2 ^ 4000):=hK
   have HL : Hid (∀ W v,WideI W v ((1 : Nat) : Int) → Calls Tryz.prog 104 #[v,.int .i64 4000] W (WideR ((K : Nat) : Int) W)):=fun W v hv=>by
    rw [hK]; exact left_i v 1 4000 4000 W rfl hv (bb:=1) (by decide) (by decide) (by decide)
   clear hK
   obtain ⟨py,p4,p5,p6,p1,p2,p3,r5,n5⟩:=HVD.out
   have k2:=cell_of_row w5 g5 4 _ _ _ r5
   have k3:=cell_of_row w5 g5 5 _ _ _ r5
   have HN5 : Hid _:=n5
   clear n5 r5
   go_wp2_with fail
   refine (HL.out _ _ (.mk HN5.out)).mono ?_
   rintro e w6 ⟨v,rfl,hv,hb6⟩
   have HV6 : Hid _:=hv
   obtain ⟨y1,y2,y3,rfl,hn⟩:=hv.nat
   have HY : Hid (WideI w6 (.agg #[.bool false,.slice y1 y2 y3]) (K : Nat)):=.mk hn
   have HQ6 : Hid (QG w a b g5 w6):=HQG.out.below hb6
   have HN6 : Hid (VN w6 g5 ng 1):=HVN.out.below hb6
   have HD6 : Hid (VD w6 g5 ng 1):=HVD.out.below hb6
   clear hn hv HV6 hb6 k2 k3 ca cb da db i1 i2 i3 z1 z2
   go_upto_region 9 with (refine storeL_den rfl 123 (.tmp 44) (.tmp 43) rfl (by kernel_rfl) g5 ng K _ rfl rfl HY.out HN6.out.row ?_; intro w7 e1 e2 e3)
   have HQ7 : Hid (QG w a b g5 w7):=HQ6.out.left2 (by rw [← HNG.out]; exact e3)
   obtain ⟨b1,b2,b3,d1,d2,d3,r9,n1,n2⟩:=VN.both (e2 _ HN6.out) e1
   have HN1 : Hid _:=n1
   have HN2 : Hid _:=n2
   have r4:=HQ7.out.2.2.2.1
   have k0:=cell_of_row _ g5 0 _ _ _ r9
   have k1:=cell_of_row _ g5 1 _ _ _ r9
   have k2:=cell_of_row _ g5 2 _ _ _ r9
   have k3:=cell_of_row _ g5 3 _ _ _ r9
   have k4:=cell_of_row _ g5 4 _ _ _ r9
   have k5:=cell_of_row _ g5 5 _ _ _ r9
   clear n1 n2 r9
   go_wp2_with (refine wpList_store_row rfl 202 (.tmp 4) (.tmp 45) rfl (w.heap.size + 2) #[.bool ng,.bool false,.bool false,.slice b1 b2 b3,.bool false,.slice d1 d2 d3] rfl rfl _ _ r4 (by kernel_rfl) rfl (by simp [Value.oneCell']) ?_)
   rw [HNG.out]
   exact quov_end (p:=4) rfl rfl HQ7.out HN1.out HN2.out (.inr (.inl ⟨by rw [← HFAR.out]; exact hg,rfl,HK3.out⟩))
  have HMID : Hid (-1000 ≤ far ∧ far ≤ 1000):=⟨by omega,by omega⟩
  go_upto_region 10 with fail
  clear hf hg ca cb da db i1 i2 i3 z1 z2
  have HQ5 : Hid (QG w a b g5 w5.drew):=HQG.out.below ((Below.refl _ _).drew)
  have hng2:=HNG.out
  have h1 : once [(46,0),(47,1),(48,2),(49,3),(50,4),(51,5),(52,6),(53,8)] = true:=by kernel_rfl
  have h2 : within [(46,0),(47,1),(48,2),(49,3),(50,4),(51,5),(52,6),(53,8)] 70 = true:=by kernel_rfl
  let S : Nat → (Nat → Value) → World → Prop:=fun i xs W=>match i with
   | 0=>xs 0 = .pointer (some ⟨w.heap.size,1,none⟩)
   | 1=>xs 1 = .string (bs a.s)
   | 2=>WideI W (xs 2) ((na : Nat) : Int)
   | 3=>xs 3 = .pointer (some ⟨w.heap.size + 1,1,none⟩)
   | 4=>xs 4 = .string (bs b.s)
   | 5=>WideI W (xs 5) ((nb : Nat) : Int)
   | 6=>xs 6 = .pointer (some ⟨g5,2,none⟩)
   | 7=>VN W g5 ng (na)
   | 8=>xs 8 = .pointer (some ⟨g5,4,none⟩)
   | 9=>VD W g5 ng (nb)
   | _=>True
  have hstab : ∀ j ys W W',S j ys W → Below W.heap.size W W' → S j ys W':=by
   intro j ys W W' h hb
   match j,h with
   | 0,h=>exact h
   | 1,h=>exact h
   | 2,h=>exact h.below hb
   | 3,h=>exact h
   | 4,h=>exact h
   | 5,h=>exact h.below hb
   | 6,h=>exact h
   | 7,h=>exact h.below hb
   | 8,h=>exact h
   | 9,h=>exact h.below hb
   | _ + 10,h=>exact trivial
  refine wp_region_flow3T 10 10 4 [(46,0),(47,1),(48,2),(49,3),(50,4),(51,5),(52,6),(53,8)] [] S (fun _ W=>(QG w a b g5) W) HQ5.out (by kernel_rfl) (by kernel_rfl) (by kernel_rfl) (by decide) (by kernel_rfl) h1 (by kernel_rfl) ?_ ?_ ?_ ?_
  ·exact fun j hj=>by cases hj
  ·intro j xs ys W e h
   match j,e,h with
   | 0,e,h=>exact c_ (e 0 (.inl rfl)) h
   | 1,e,h=>exact c_ (e 1 (.inl rfl)) h
   | 2,e,h=>exact (congrArg (fun z=>WideI W z _) (e 2 (.inl rfl))).mp h
   | 3,e,h=>exact c_ (e 3 (.inl rfl)) h
   | 4,e,h=>exact c_ (e 4 (.inl rfl)) h
   | 5,e,h=>exact (congrArg (fun z=>WideI W z _) (e 5 (.inl rfl))).mp h
   | 6,e,h=>exact c_ (e 6 (.inl rfl)) h
   | 7,e,h=>exact h
   | 8,e,h=>exact c_ (e 8 (.inl rfl)) h
   | 9,e,h=>exact h
   | _ + 10,e,h=>exact trivial
  ·refine ⟨⟨⟨⟨⟨⟨⟨⟨⟨⟨trivial,?_⟩,?_⟩,?_⟩,?_⟩,?_⟩,?_⟩,?_⟩,?_⟩,?_⟩,?_⟩
   ·refine flow3_step _ (some 46) rfl rfl rfl h1 h2 (fun D W _ h=>h) (fun D W W' h hb=>h.below hb) hstab fun ac xs W Dn he hni hG hS K hK=>?_
    have e0 : ac.eval (.tmp 2) = .pointer (some ⟨w.heap.size,0,none⟩):=he 2
    refine op_any (.fieldAddr 35 (.tmp 2) 1) rfl (.pointer (some ⟨w.heap.size,1,none⟩)) (fun o' ho'=>?_) (hK _ _ rfl bR nA)
    simp only [execOp,ho',e0]
    go_simp
   ·refine flow3_step _ (some 47) rfl rfl rfl h1 h2 (fun D W _ h=>h) (fun D W W' h hb=>h.below hb) hstab fun ac xs W Dn he hni hG hS K hK=>?_
    have e0:=(he 46).trans (hS 0 (by kernel_rfl))
    refine op_any (.load 9 (.tmp 46)) rfl (.string (bs a.s)) (fun o' ho'=>?_) (hK _ _ rfl bR nA)
    simp only [execOp,ho',e0]
    have hc:=hG.c1.2.1
    go_simp
   ·refine flow3_step _ (some 48) rfl rfl rfl h1 h2 (fun D W _ h=>h) (fun D W W' h hb=>h.below hb) hstab fun ac xs W Dn he hni hG hS K hK=>?_
    have e0:=(he 47).trans (hS 1 (by kernel_rfl))
    refine op_call 161 _ _ rfl _ (by simp only [List.map,e0]) (by go_simp) (HPA.out W) ?_
    rintro e' W' ⟨u,rfl,hi',hb'⟩
    exact ⟨_,rfl,hK _ _ hi' hb' nA⟩
   ·refine flow3_step _ (some 49) rfl rfl rfl h1 h2 (fun D W _ h=>h) (fun D W W' h hb=>h.below hb) hstab fun ac xs W Dn he hni hG hS K hK=>?_
    have e0 : ac.eval (.tmp 3) = .pointer (some ⟨w.heap.size + 1,0,none⟩):=he 3
    refine op_any (.fieldAddr 35 (.tmp 3) 1) rfl (.pointer (some ⟨w.heap.size + 1,1,none⟩)) (fun o' ho'=>?_) (hK _ _ rfl bR nA)
    simp only [execOp,ho',e0]
    go_simp
   ·refine flow3_step _ (some 50) rfl rfl rfl h1 h2 (fun D W _ h=>h) (fun D W W' h hb=>h.below hb) hstab fun ac xs W Dn he hni hG hS K hK=>?_
    have e0:=(he 49).trans (hS 3 (by kernel_rfl))
    refine op_any (.load 9 (.tmp 49)) rfl (.string (bs b.s)) (fun o' ho'=>?_) (hK _ _ rfl bR nA)
    simp only [execOp,ho',e0]
    have hc:=hG.c2.2.1
    go_simp
   ·refine flow3_step _ (some 51) rfl rfl rfl h1 h2 (fun D W _ h=>h) (fun D W W' h hb=>h.below hb) hstab fun ac xs W Dn he hni hG hS K hK=>?_
    have e0:=(he 50).trans (hS 4 (by kernel_rfl))
    refine op_call 161 _ _ rfl _ (by simp only [List.map,e0]) (by go_simp) (HPB.out W) ?_
    rintro e' W' ⟨u,rfl,hi',hb'⟩
    exact ⟨_,rfl,hK _ _ hi' hb' nA⟩
   ·refine flow3_step _ (some 52) rfl rfl rfl h1 h2 (fun D W _ h=>h) (fun D W W' h hb=>h.below hb) hstab fun ac xs W Dn he hni hG hS K hK=>?_
    have e0 : ac.eval (.tmp 5) = .pointer (some ⟨g5,0,none⟩):=he 5
    refine op_any (.fieldAddr 202 (.tmp 5) 2) rfl (.pointer (some ⟨g5,2,none⟩)) (fun o' ho'=>?_) (hK _ _ rfl bR nA)
    simp only [execOp,ho',e0]
    go_simp
   ·refine flow3_store _ rfl rfl rfl h1 h2 (by decide) fun ac xs W Dn he hni hG hS K hK=>?_
    refine store_num 123 (.tmp 52) (.tmp 48) rfl (by kernel_rfl) g5 ng (na) (xs 2) ((he 52).trans (hS 6 (by kernel_rfl))) (he 48) (hS 2 (by kernel_rfl)) (by rw [hng2]; exact hG.2.2.2.2.1) ?_
    intro W2 k1 k2 k3
    have hself:=k1
    have hG2:=hG.left2 (by rw [← hng2]; exact k3)
    refine hK _ hself hG2 ?_
    intro j ys h
    match j,h with
    | 0,h=>exact h
    | 1,h=>exact h
    | 2,h=>exact k3.2.2.1 _ _ h
    | 3,h=>exact h
    | 4,h=>exact h
    | 5,h=>exact k3.2.2.1 _ _ h
    | 6,h=>exact h
    | 7,_=>exact hself
    | 8,h=>exact h
    | 9,h=>exact k2 _ h
    | _ + 10,h=>exact trivial
   ·refine flow3_step _ (some 53) rfl rfl rfl h1 h2 (fun D W _ h=>h) (fun D W W' h hb=>h.below hb) hstab fun ac xs W Dn he hni hG hS K hK=>?_
    have e0 : ac.eval (.tmp 5) = .pointer (some ⟨g5,0,none⟩):=he 5
    refine op_any (.fieldAddr 202 (.tmp 5) 3) rfl (.pointer (some ⟨g5,4,none⟩)) (fun o' ho'=>?_) (hK _ _ rfl bR nA)
    simp only [execOp,ho',e0]
    go_simp
   ·refine flow3_store _ rfl rfl rfl h1 h2 (by decide) fun ac xs W Dn he hni hG hS K hK=>?_
    refine store_den 123 (.tmp 53) (.tmp 51) rfl (by kernel_rfl) g5 ng (nb) (xs 5) ((he 53).trans (hS 8 (by kernel_rfl))) (he 51) (hS 5 (by kernel_rfl)) (by rw [hng2]; exact hG.2.2.2.2.1) ?_
    intro W2 k1 k2 k3
    have hself:=k1
    have hG2:=hG.left2 (by rw [← hng2]; exact k3)
    refine hK _ hself hG2 ?_
    intro j ys h
    match j,h with
    | 0,h=>exact h
    | 1,h=>exact h
    | 2,h=>exact k3.2.2.1 _ _ h
    | 3,h=>exact h
    | 4,h=>exact h
    | 5,h=>exact k3.2.2.1 _ _ h
    | 6,h=>exact h
    | 7,h=>exact k2 _ h
    | 8,h=>exact h
    | 9,_=>exact hself
    | _ + 10,h=>exact trivial
  ·intro xs W8 Dn hall hG hS hD
   have HN8 : Hid (VN W8 g5 ng na):=hS 7 (by decide)
   have HD8 : Hid (VD W8 g5 ng nb):=hS 9 (by decide)
   have HQ8 : Hid (QG w a b g5 W8):=hG
   simp only [layAll,List.setIfInBounds_toArray,List.set_cons_succ,List.set_cons_zero]
   clear hS hD hall hstab S hG h1 h2 HQ5
   show wpList Tryz.prog _ _ [] _ _
   have HV8 : Hid (QG w a b g5 W8.drew ∧ VN W8.drew g5 ng na ∧ VD W8.drew g5 ng nb):=⟨HQ8.out.below ((Below.refl _ _).drew),HN8.out.below ((Below.refl _ _).drew),HD8.out.below ((Below.refl _ _).drew)⟩
   clear hng2
   by_cases hx : 0 ≤ ex
   ·obtain ⟨k,hke⟩ : ∃ k : Nat,ex = k:=⟨ex.toNat,by omega⟩
    have HKX : Hid (ex = (k : Int)):=hke
    obtain ⟨b2,hb2⟩ : ∃ b,b = 4 * 50000 + 1:=⟨_,rfl⟩
    have hk : k ≤ 40000:=by have:=HEB.out; omega
    have HT : Hid (∀ W,Calls Tryz.prog 160 #[.int .i64 ex] W (WideR ((10 ^ k : Nat) : Int) W)):=fun W=>by rw [hke]; exact ten_n k W (by omega)
    have HM : Hid (∀ W x y,WideI W x ((na : Nat) : Int) → WideI W y ((10 ^ k : Nat) : Int) → Calls Tryz.prog 106 #[x,y] W (WideR ((na * 10 ^ k : Nat) : Int) W)):=fun W x y hx hy=>
     mul_n x y na (10 ^ k) W hx hy (bb:=b2) (by rw [HNA.out.1]; exact ok_nines HA.out (by omega)) (Nat.lt_of_lt_of_le (ten_lt2 k) (Nat.pow_le_pow_right (by decide) (by omega))) (by omega)
    clear hk hke hb2
    go_upto_region 12 with fail
    have h1 : once [(56,0),(57,1),(58,2),(59,3),(60,4),(61,5)] = true:=by kernel_rfl
    have h2 : within [(56,0),(57,1),(58,2),(59,3),(60,4),(61,5)] 70 = true:=by kernel_rfl
    let S : Nat → (Nat → Value) → World → Prop:=fun i xs W=>match i with
     | 0=>xs 0 = .pointer (some ⟨g5,2,none⟩)
     | 1=>WideI W (xs 1) ((na : Nat) : Int)
     | 2=>xs 2 = .int .i64 ex
     | 3=>WideI W (xs 3) ((10 ^ k : Nat) : Int)
     | 4=>WideI W (xs 4) ((na * 10 ^ k : Nat) : Int)
     | 5=>xs 5 = .pointer (some ⟨g5,2,none⟩)
     | _=>True
    have hstab : ∀ j ys W W',S j ys W → Below W.heap.size W W' → S j ys W':=by
     intro j ys W W' h hb
     match j,h with
     | 0,h=>exact h
     | 1,h=>exact h.below hb
     | 2,h=>exact h
     | 3,h=>exact h.below hb
     | 4,h=>exact h.below hb
     | 5,h=>exact h
     | _ + 6,h=>exact trivial
    refine wp_region_flow3T 6 7 4 [(56,0),(57,1),(58,2),(59,3),(60,4),(61,5)] [] S (fun _ W=>(fun W=>QG w a b g5 W ∧ VN W g5 ng na ∧ VD W g5 ng nb) W) HV8.out (by kernel_rfl) (by kernel_rfl) (by kernel_rfl) (by decide) (by kernel_rfl) h1 (by kernel_rfl) ?_ ?_ ?_ ?_
    ·exact fun j hj=>by cases hj
    ·intro j xs ys W e h
     match j,e,h with
     | 0,e,h=>exact c_ (e 0 (.inl rfl)) h
     | 1,e,h=>exact (congrArg (fun z=>WideI W z _) (e 1 (.inl rfl))).mp h
     | 2,e,h=>exact c_ (e 2 (.inl rfl)) h
     | 3,e,h=>exact (congrArg (fun z=>WideI W z _) (e 3 (.inl rfl))).mp h
     | 4,e,h=>exact (congrArg (fun z=>WideI W z _) (e 4 (.inl rfl))).mp h
     | 5,e,h=>exact c_ (e 5 (.inl rfl)) h
     | _ + 6,e,h=>exact trivial
    ·refine ⟨⟨⟨⟨⟨⟨trivial,?_⟩,?_⟩,?_⟩,?_⟩,?_⟩,?_⟩
     ·refine flow3_step _ (some 56) rfl rfl rfl h1 h2 (fun D W _ h=>h) (fun D W W' h hb=>⟨h.1.below hb,h.2.1.below hb,h.2.2.below hb⟩) hstab fun ac xs W Dn he hni hG hS K hK=>?_
      have e0 : ac.eval (.tmp 5) = .pointer (some ⟨g5,0,none⟩):=he 5
      refine op_any (.fieldAddr 202 (.tmp 5) 2) rfl (.pointer (some ⟨g5,2,none⟩)) (fun o' ho'=>?_) (hK _ _ rfl bR nA)
      simp only [execOp,ho',e0]
      go_simp
     ·refine flow3_step _ (some 57) rfl rfl rfl h1 h2 (fun D W _ h=>h) (fun D W W' h hb=>⟨h.1.below hb,h.2.1.below hb,h.2.2.below hb⟩) hstab fun ac xs W Dn he hni hG hS K hK=>?_
      obtain ⟨p1,p2,p3,py,p4,p5,p6,r5,n5⟩:=hG.2.1
      have k2:=cell_of_row W g5 2 _ _ _ r5
      have k3:=cell_of_row W g5 3 _ _ _ r5
      have e0:=(he 56).trans (hS 0 (by kernel_rfl))
      refine op_any (.load 123 (.tmp 56)) rfl (.agg #[.bool false,.slice p1 p2 p3]) (fun o' ho'=>?_) (hK _ _ (.mk n5) bR nA)
      simp only [execOp,ho',e0]
      go_simp
     ·refine flow3_step _ (some 58) rfl rfl rfl h1 h2 (fun D W _ h=>h) (fun D W W' h hb=>⟨h.1.below hb,h.2.1.below hb,h.2.2.below hb⟩) hstab fun ac xs W Dn he hni hG hS K hK=>?_
      exact op_move (.tmp 6) (.inl rfl) (hK _ _ (he 6) bR nA)
     ·refine flow3_step _ (some 59) rfl rfl rfl h1 h2 (fun D W _ h=>h) (fun D W W' h hb=>⟨h.1.below hb,h.2.1.below hb,h.2.2.below hb⟩) hstab fun ac xs W Dn he hni hG hS K hK=>?_
      have e0:=(he 58).trans (hS 2 (by kernel_rfl))
      refine op_call 160 _ _ rfl _ (by simp only [List.map,e0]) (by go_simp) (HT.out W) ?_
      rintro e' W' ⟨u,rfl,hi',hb'⟩
      exact ⟨_,rfl,hK _ _ hi' hb' nA⟩
     ·refine flow3_step _ (some 60) rfl rfl rfl h1 h2 (fun D W _ h=>h) (fun D W W' h hb=>⟨h.1.below hb,h.2.1.below hb,h.2.2.below hb⟩) hstab fun ac xs W Dn he hni hG hS K hK=>?_
      have e0 : ac.eval (.tmp 57) = xs 1:=he 57
      have e1 : ac.eval (.tmp 59) = xs 3:=he 59
      refine op_call 106 _ _ rfl _ (by simp only [List.map,e0,e1]) (by go_simp) (HM.out W _ _ (hS 1 (by kernel_rfl)) (hS 3 (by kernel_rfl))) ?_
      rintro e' W' ⟨u,rfl,hi',hb'⟩
      exact ⟨_,rfl,hK _ _ hi' hb' nA⟩
     ·refine flow3_step _ (some 61) rfl rfl rfl h1 h2 (fun D W _ h=>h) (fun D W W' h hb=>⟨h.1.below hb,h.2.1.below hb,h.2.2.below hb⟩) hstab fun ac xs W Dn he hni hG hS K hK=>?_
      have e0 : ac.eval (.tmp 5) = .pointer (some ⟨g5,0,none⟩):=he 5
      refine op_any (.fieldAddr 202 (.tmp 5) 2) rfl (.pointer (some ⟨g5,2,none⟩)) (fun o' ho'=>?_) (hK _ _ rfl bR nA)
      simp only [execOp,ho',e0]
      go_simp
    ·intro xs W9 Dn hall hG hS hD
     have HY : Hid (WideI W9 (xs 4) ((na * 10 ^ k : Nat) : Int)):=hS 4 (by decide)
     have s5 : xs 5 = _:=hS 5 (by decide)
     have HV9 : Hid (QG w a b g5 W9 ∧ VN W9 g5 ng na ∧ VD W9 g5 ng nb):=hG
     simp only [layAll,s5,List.setIfInBounds_toArray,List.set_cons_succ,List.set_cons_zero]
     clear hS hD hall hstab S hG h1 h2 HV8 s5
     refine storeL_num rfl 123 (.tmp 61) (.tmp 60) rfl (by kernel_rfl) g5 ng (na * 10 ^ k) (xs 4) rfl rfl HY.out HV9.out.2.1.row ?_
     intro w7 e1 e2 e3
     have HQ7 : Hid (QG w a b g5 w7):=HV9.out.1.left2 (by rw [← HNG.out]; exact e3)
     show wpList Tryz.prog _ _ [] _ _
     obtain ⟨b1,b2,b3,d1,d2,d3,r9,n1,n2⟩:=VN.both e1 (e2 _ HV9.out.2.2)
     have HN1 : Hid _:=n1
     have HN2 : Hid _:=n2
     have r4:=HQ7.out.2.2.2.1
     have k0:=cell_of_row _ g5 0 _ _ _ r9
     have k1:=cell_of_row _ g5 1 _ _ _ r9
     have k2:=cell_of_row _ g5 2 _ _ _ r9
     have k3:=cell_of_row _ g5 3 _ _ _ r9
     have k4:=cell_of_row _ g5 4 _ _ _ r9
     have k5:=cell_of_row _ g5 5 _ _ _ r9
     clear n1 n2 r9
     go_wp2_with (refine wpList_store_row rfl 202 (.tmp 4) (.tmp 69) rfl (w.heap.size + 2) #[.bool ng,.bool false,.bool false,.slice b1 b2 b3,.bool false,.slice d1 d2 d3] rfl rfl _ _ r4 (by kernel_rfl) rfl (by simp [Value.oneCell']) ?_)
     rw [HNG.out]
     exact quov_end (p:=4) rfl rfl HQ7.out HN1.out HN2.out (.inr (.inr ⟨by rw [← HFAR.out]; exact HMID.out.1,by rw [← HFAR.out]; exact HMID.out.2,by unfold qM quoM; rw [← HEX.out,HNA.out.1,HKX.out,Int.toNat_natCast],by unfold qD quoD; rw [← HEX.out,HNA.out.2,HKX.out,show (-(k : Int)).toNat = 0 by omega,Nat.pow_zero,Nat.mul_one]⟩))
   ·obtain ⟨k,hke⟩ : ∃ k : Nat,ex = -(k : Int):=⟨(-ex).toNat,by omega⟩
    obtain ⟨b2,hb2⟩ : ∃ b,b = 4 * 50000 + 1:=⟨_,rfl⟩
    have hk : k ≤ 40000:=by have:=HEB.out; omega
    have HKE : Hid (IntKind.i64.wrap (-ex) = (k : Int)):=by show _ = _; rw [hke,Int.neg_neg]; exact IntWalk.i64_in _ (by omega)
    have HKX : Hid (ex = -(k : Int)):=hke
    have HT : Hid (∀ W,Calls Tryz.prog 160 #[.int .i64 (k : Nat)] W (WideR ((10 ^ k : Nat) : Int) W)):=fun W=>ten_n k W (by omega)
    have HM : Hid (∀ W x y,WideI W x ((nb : Nat) : Int) → WideI W y ((10 ^ k : Nat) : Int) → Calls Tryz.prog 106 #[x,y] W (WideR ((nb * 10 ^ k : Nat) : Int) W)):=fun W x y hx hy=>
     mul_n x y nb (10 ^ k) W hx hy (bb:=b2) (by rw [HNA.out.2]; exact ok_nines HB.out (by omega)) (Nat.lt_of_lt_of_le (ten_lt2 k) (Nat.pow_le_pow_right (by decide) (by omega))) (by omega)
    clear hk hke hb2
    go_upto_region 13 with fail
    have h1 : once [(62,0),(63,1),(64,2),(65,3),(66,4),(67,5),(68,6)] = true:=by kernel_rfl
    have h2 : within [(62,0),(63,1),(64,2),(65,3),(66,4),(67,5),(68,6)] 70 = true:=by kernel_rfl
    let S : Nat → (Nat → Value) → World → Prop:=fun i xs W=>match i with
     | 0=>xs 0 = .pointer (some ⟨g5,4,none⟩)
     | 1=>WideI W (xs 1) ((nb : Nat) : Int)
     | 2=>xs 2 = .int .i64 ex
     | 3=>xs 3 = .int .i64 (k : Nat)
     | 4=>WideI W (xs 4) ((10 ^ k : Nat) : Int)
     | 5=>WideI W (xs 5) ((nb * 10 ^ k : Nat) : Int)
     | 6=>xs 6 = .pointer (some ⟨g5,4,none⟩)
     | _=>True
    have hstab : ∀ j ys W W',S j ys W → Below W.heap.size W W' → S j ys W':=by
     intro j ys W W' h hb
     match j,h with
     | 0,h=>exact h
     | 1,h=>exact h.below hb
     | 2,h=>exact h
     | 3,h=>exact h
     | 4,h=>exact h.below hb
     | 5,h=>exact h.below hb
     | 6,h=>exact h
     | _ + 7,h=>exact trivial
    refine wp_region_flow3T 7 8 4 [(62,0),(63,1),(64,2),(65,3),(66,4),(67,5),(68,6)] [] S (fun _ W=>(fun W=>QG w a b g5 W ∧ VN W g5 ng na ∧ VD W g5 ng nb) W) HV8.out (by kernel_rfl) (by kernel_rfl) (by kernel_rfl) (by decide) (by kernel_rfl) h1 (by kernel_rfl) ?_ ?_ ?_ ?_
    ·exact fun j hj=>by cases hj
    ·intro j xs ys W e h
     match j,e,h with
     | 0,e,h=>exact c_ (e 0 (.inl rfl)) h
     | 1,e,h=>exact (congrArg (fun z=>WideI W z _) (e 1 (.inl rfl))).mp h
     | 2,e,h=>exact c_ (e 2 (.inl rfl)) h
     | 3,e,h=>exact c_ (e 3 (.inl rfl)) h
     | 4,e,h=>exact (congrArg (fun z=>WideI W z _) (e 4 (.inl rfl))).mp h
     | 5,e,h=>exact (congrArg (fun z=>WideI W z _) (e 5 (.inl rfl))).mp h
     | 6,e,h=>exact c_ (e 6 (.inl rfl)) h
     | _ + 7,e,h=>exact trivial
    ·refine ⟨⟨⟨⟨⟨⟨⟨trivial,?_⟩,?_⟩,?_⟩,?_⟩,?_⟩,?_⟩,?_⟩
     ·refine flow3_step _ (some 62) rfl rfl rfl h1 h2 (fun D W _ h=>h) (fun D W W' h hb=>⟨h.1.below hb,h.2.1.below hb,h.2.2.below hb⟩) hstab fun ac xs W Dn he hni hG hS K hK=>?_
      have e0 : ac.eval (.tmp 5) = .pointer (some ⟨g5,0,none⟩):=he 5
      refine op_any (.fieldAddr 202 (.tmp 5) 3) rfl (.pointer (some ⟨g5,4,none⟩)) (fun o' ho'=>?_) (hK _ _ rfl bR nA)
      simp only [execOp,ho',e0]
      go_simp
     ·refine flow3_step _ (some 63) rfl rfl rfl h1 h2 (fun D W _ h=>h) (fun D W W' h hb=>⟨h.1.below hb,h.2.1.below hb,h.2.2.below hb⟩) hstab fun ac xs W Dn he hni hG hS K hK=>?_
      obtain ⟨py,p4,p5,p6,p1,p2,p3,r5,n5⟩:=hG.2.2
      have k2:=cell_of_row W g5 4 _ _ _ r5
      have k3:=cell_of_row W g5 5 _ _ _ r5
      have e0:=(he 62).trans (hS 0 (by kernel_rfl))
      refine op_any (.load 123 (.tmp 62)) rfl (.agg #[.bool false,.slice p1 p2 p3]) (fun o' ho'=>?_) (hK _ _ (.mk n5) bR nA)
      simp only [execOp,ho',e0]
      go_simp
     ·refine flow3_step _ (some 64) rfl rfl rfl h1 h2 (fun D W _ h=>h) (fun D W W' h hb=>⟨h.1.below hb,h.2.1.below hb,h.2.2.below hb⟩) hstab fun ac xs W Dn he hni hG hS K hK=>?_
      exact op_move (.tmp 6) (.inl rfl) (hK _ _ (he 6) bR nA)
     ·refine flow3_step _ (some 65) rfl rfl rfl h1 h2 (fun D W _ h=>h) (fun D W W' h hb=>⟨h.1.below hb,h.2.1.below hb,h.2.2.below hb⟩) hstab fun ac xs W Dn he hni hG hS K hK=>?_
      have k0:=HKE.out
      have e0:=(he 64).trans (hS 2 (by kernel_rfl))
      refine op_any (.unOp .neg 3 (.tmp 64)) rfl (.int .i64 (k : Nat)) (fun o' ho'=>?_) (hK _ _ rfl bR nA)
      simp only [execOp,ho',e0]
      go_simp
     ·refine flow3_step _ (some 66) rfl rfl rfl h1 h2 (fun D W _ h=>h) (fun D W W' h hb=>⟨h.1.below hb,h.2.1.below hb,h.2.2.below hb⟩) hstab fun ac xs W Dn he hni hG hS K hK=>?_
      have e0:=(he 65).trans (hS 3 (by kernel_rfl))
      refine op_call 160 _ _ rfl _ (by simp only [List.map,e0]) (by go_simp) (HT.out W) ?_
      rintro e' W' ⟨u,rfl,hi',hb'⟩
      exact ⟨_,rfl,hK _ _ hi' hb' nA⟩
     ·refine flow3_step _ (some 67) rfl rfl rfl h1 h2 (fun D W _ h=>h) (fun D W W' h hb=>⟨h.1.below hb,h.2.1.below hb,h.2.2.below hb⟩) hstab fun ac xs W Dn he hni hG hS K hK=>?_
      have e0 : ac.eval (.tmp 63) = xs 1:=he 63
      have e1 : ac.eval (.tmp 66) = xs 4:=he 66
      refine op_call 106 _ _ rfl _ (by simp only [List.map,e0,e1]) (by go_simp) (HM.out W _ _ (hS 1 (by kernel_rfl)) (hS 4 (by kernel_rfl))) ?_
      rintro e' W' ⟨u,rfl,hi',hb'⟩
      exact ⟨_,rfl,hK _ _ hi' hb' nA⟩
     ·refine flow3_step _ (some 68) rfl rfl rfl h1 h2 (fun D W _ h=>h) (fun D W W' h hb=>⟨h.1.below hb,h.2.1.below hb,h.2.2.below hb⟩) hstab fun ac xs W Dn he hni hG hS K hK=>?_
      have e0 : ac.eval (.tmp 5) = .pointer (some ⟨g5,0,none⟩):=he 5
      refine op_any (.fieldAddr 202 (.tmp 5) 3) rfl (.pointer (some ⟨g5,4,none⟩)) (fun o' ho'=>?_) (hK _ _ rfl bR nA)
      simp only [execOp,ho',e0]
      go_simp
    ·intro xs W9 Dn hall hG hS hD
     have HY : Hid (WideI W9 (xs 5) ((nb * 10 ^ k : Nat) : Int)):=hS 5 (by decide)
     have s6 : xs 6 = _:=hS 6 (by decide)
     have HV9 : Hid (QG w a b g5 W9 ∧ VN W9 g5 ng na ∧ VD W9 g5 ng nb):=hG
     simp only [layAll,s6,List.setIfInBounds_toArray,List.set_cons_succ,List.set_cons_zero]
     clear hS hD hall hstab S hG h1 h2 HV8 s6
     refine storeL_den rfl 123 (.tmp 68) (.tmp 67) rfl (by kernel_rfl) g5 ng (nb * 10 ^ k) (xs 5) rfl rfl HY.out HV9.out.2.1.row ?_
     intro w7 e1 e2 e3
     have HQ7 : Hid (QG w a b g5 w7):=HV9.out.1.left2 (by rw [← HNG.out]; exact e3)
     show wpList Tryz.prog _ _ [] _ _
     obtain ⟨b1,b2,b3,d1,d2,d3,r9,n1,n2⟩:=VN.both (e2 _ HV9.out.2.1) e1
     have HN1 : Hid _:=n1
     have HN2 : Hid _:=n2
     have r4:=HQ7.out.2.2.2.1
     have k0:=cell_of_row _ g5 0 _ _ _ r9
     have k1:=cell_of_row _ g5 1 _ _ _ r9
     have k2:=cell_of_row _ g5 2 _ _ _ r9
     have k3:=cell_of_row _ g5 3 _ _ _ r9
     have k4:=cell_of_row _ g5 4 _ _ _ r9
     have k5:=cell_of_row _ g5 5 _ _ _ r9
     clear n1 n2 r9
     go_wp2_with (refine wpList_store_row rfl 202 (.tmp 4) (.tmp 69) rfl (w.heap.size + 2) #[.bool ng,.bool false,.bool false,.slice b1 b2 b3,.bool false,.slice d1 d2 d3] rfl rfl _ _ r4 (by kernel_rfl) rfl (by simp [Value.oneCell']) ?_)
     rw [HNG.out]
     exact quov_end (p:=4) rfl rfl HQ7.out HN1.out HN2.out (.inr (.inr ⟨by rw [← HFAR.out]; exact HMID.out.1,by rw [← HFAR.out]; exact HMID.out.2,by unfold qM quoM; rw [← HEX.out,HNA.out.1,show ex.toNat = 0 by omega,Nat.pow_zero,Nat.mul_one],by unfold qD quoD; rw [← HEX.out,HNA.out.2,HKX.out,Int.neg_neg,Int.toNat_natCast]⟩))
end Go.Proofs.YtlbokicainimnaaGreatDoor
namespace Go.Proofs.YtlbokicainimnaaGreatDoor
open Go.RowKit
def RatioQ (r : RA) (w : World) (e : Ending) (w' : World) : Prop:=e = .returned (.tuple #[.float .f64 r.bits,.agg #[.bool r.ine,.bool r.ov,.bool r.un],.int .i64 r.err]) ∧ Below w.heap.size w w'
theorem results_tct {fn : Func} {p u q : Tmp} {ty : TypeId} (h : fn.results = #[.tmp p, .cell u ty, .tmp q]) (tmps : Array Value) (P : Program) (w : World) :
  (results fn tmps).run P w =
   ((asAddr (tmps.getD u undef)).run P w).andThen fun a w₁=>((loadVar ty a).run P w₁).andThen fun x w₂=>.ok (.tuple #[tmps.getD p undef,x,tmps.getD q undef]) w₂:=by
 simp only [results,h]
 simp [Sem.run_bind,Result.andThen]
theorem ratio_end {fn : Func} {p u q : Tmp} (hf : fn.results = #[.tmp p, .cell u 76, .tmp q]) {tmps : Array Value} {w0 w : World} {g0 x : Nat} {y : Int} {a b c : Bool} {r : RA}
  (hp : tmps.getD p undef = .float .f64 x) (hq : tmps.getD q undef = .int .i64 y) (hu : tmps.getD u undef = .pointer (some ⟨g0,0,none⟩))
  (hg : w.heap[g0]? = some (.cells #[.bool a,.bool b,.bool c] 76 (0,0))) (hb : Below w0.heap.size w0 w) (hr : r = ⟨x,a,b,c,y⟩) : bodyPost Tryz.prog fn (RatioQ r w0) .ret ⟨tmps,[]⟩ w:=by
 subst hr
 have hu' : tmps[u]?.getD undef = .pointer (some ⟨g0,0,none⟩):=by simpa using hu
 refine bodyPost_ret (v:=.tuple #[tmps.getD p undef,.agg #[.bool a,.bool b,.bool c],tmps.getD q undef]) ?_ rfl ⟨?_,hb⟩
 ·rw [results_tct hf]
  simp [hu',asAddr,run_loadVar_row (P:=Tryz.prog) w g0 _ 76 #[.bool a,.bool b,.bool c] (0,0) _ hg Tryz.underlying76 rfl (by kernel_rfl),Result.andThen]
 ·show _ = Ending.returned (.tuple #[_,_,_])
  rw [hp,hq]
theorem number_quo {a b : Dc} (ha : a.ok) (hb : b.ok) (h0 : a.s ≠ []) (h1 : b.s ≠ []) {mode : Int} (hm : 1 ≤ mode ∧ mode ≤ 6) {a1 a2 : Option Addr} {m1 c1 m2 c2 M D : Nat} {w : World} (n1 : Num .u64 18446744073709551616 w (.slice a1 m1 c1) M) (n2 : Num .u64 18446744073709551616 w (.slice a2 m2 c2) D) (hv : QV a b M D) :
  Calls Tryz.prog 169 #[.agg #[.bool (a.neg != b.neg),.bool false,.bool false,.slice a1 m1 c1,.bool false,.slice a2 m2 c2],.int .i64 mode] w (NumberQ (a.neg != b.neg) (outG 53 (-1074) 971 (a.neg != b.neg) mode (quoG a b)) w):=by
 obtain ⟨bb,h2,h3,h4,h5⟩:=hv.bd ha hb
 have hp:=hv.pos ha hb h0 h1
 have hs : outG 53 (-1074) 971 (a.neg != b.neg) mode (ratMag M D 0) = outG 53 (-1074) 971 (a.neg != b.neg) mode (quoG a b):=quo_same (c:=53) (T:=971) (l:=1074) (by decide) (by decide) (by decide) ha hb h0 h1 hv
 refine number_walk mode _ false a1 a2 m1 c1 m2 c2 _ w (fun W hW=>?_) ?_
 ·have:=float53_rat mode hm (a.neg != b.neg) a1 a2 m1 c1 m2 c2 M D W (n1.below (Nat.le_refl _) hW) (n2.below (Nat.le_refl _) hW) h4 h5 (by omega) hp.1 hp.2
  rw [← hs]; exact this
 ·rcases out_range (b:=53) (L:=-1074) (T:=971) (neg:=a.neg != b.neg) (mode:=mode) (by decide) (by decide) (quoG_ok hb h1) with h | h
  ·exact .inl ⟨h,out_inf h⟩
  ·exact .inr h
theorem decs_two {w : World} {g : Nat} {a b : Dc} (h : w.heap[g]? = some (.cells #[.bool a.neg,.string (bs a.s),.int .i64 a.e,.bool b.neg,.string (bs b.s),.int .i64 b.e] 35 (0,0))) : DecsAt w g [a,b]:=by
 intro i hi
 have hi : i < 2:=hi
 match i with
 | 0=>exact ⟨cell_of_row w g 0 _ _ _ h,cell_of_row w g 1 _ _ _ h,cell_of_row w g 2 _ _ _ h⟩
 | 1=>exact ⟨cell_of_row w g 3 _ _ _ h,cell_of_row w g 4 _ _ _ h,cell_of_row w g 5 _ _ _ h⟩
 | i + 2=>omega
theorem bs_emp (l : List UInt8) : (bs l).toList.isEmpty = decide (l = []):=by
 have h0 : (bs []).toList = []:=by
  unfold ByteArray.toList ByteArray.toList.loop
  rfl
 have h1:=bs_inj (l:=l) (r:=[])
 rw [h0] at h1
 rw [Bool.eq_iff_iff,List.isEmpty_iff,decide_eq_true_eq]
 exact h1
theorem decs_one {w : World} {g : Nat} {a : Dc} (h : w.heap[g]? = some (.cells #[.bool a.neg,.string (bs a.s),.int .i64 a.e] 35 (0,0))) : DecsAt w g [a]:=by
 intro i hi
 have hi : i < 1:=hi
 match i with
 | 0=>exact ⟨cell_of_row w g 0 _ _ _ h,cell_of_row w g 1 _ _ _ h,cell_of_row w g 2 _ _ _ h⟩
 | i + 1=>omega
set_option maxHeartbeats 4000000 in
theorem ratio_v (a b : Dc) (m : Int) (w : World) (hsa : a.s.length ≤ 9223372036854775807) (hsb : b.s.length ≤ 9223372036854775807) :
  Calls Tryz.prog 109 #[.agg #[.bool a.neg,.string (bs a.s),.int .i64 a.e],.agg #[.bool b.neg,.string (bs b.s),.int .i64 b.e],.int .i64 m] w (RatioQ (ratioA a b m) w):=by
 obtain ⟨R,hR⟩ : ∃ R,R = ratioA a b m:=⟨_,rfl⟩
 rw [← hR]
 have HR : Hid (R = ratioA a b m):=hR
 obtain ⟨w4,hw4⟩ : ∃ W,W = ((((w.alloc (.cells #[.bool a.neg,.string (bs a.s),.int .i64 a.e] 35)).alloc (.cells #[.bool b.neg,.string (bs b.s),.int .i64 b.e] 35)).alloc (.cells #[.bool false,.bool false,.bool false] 76)).alloc (.cells #[.bool a.neg,.string (bs a.s),.int .i64 a.e,.bool b.neg,.string (bs b.s),.int .i64 b.e] 35)):=⟨_,rfl⟩
 have hba : Below w.heap.size w w4:=by rw [hw4]; exact ((((Below.refl _ _).alloc (Nat.le_refl _) _).alloc (by simp) _).alloc (by simp; omega) _).alloc (by simp; omega) _
 have hsz : w4.heap.size = w.heap.size + 4:=by rw [hw4]; simp
 have hk : Kept [(w.heap.size + 3,.cells #[.bool a.neg,.string (bs a.s),.int .i64 a.e,.bool b.neg,.string (bs b.s),.int .i64 b.e] 35 (0,0)),(w.heap.size + 2,.cells #[.bool false,.bool false,.bool false] 76 (0,0)),(w.heap.size + 1,decO b),(w.heap.size,decO a)] w4:=by
  rw [hw4]
  have:=((((Kept.nil w).dec a).dec b).push (.cells #[.bool false,.bool false,.bool false] 76 (0,0))).push (.cells #[.bool a.neg,.string (bs a.s),.int .i64 a.e,.bool b.neg,.string (bs b.s),.int .i64 b.e] 35 (0,0))
  simpa using this
 have q0:=hk _ (.tail _ (.tail _ (.tail _ (.head _))))
 have q1:=hk _ (.tail _ (.tail _ (.head _)))
 have q2:=hk _ (.tail _ (.head _))
 have q3:=hk _ (.head _)
 have HX : Hid (∀ W,Below w4.heap.size w4 W → W.heap[w.heap.size]? = some (.cells #[.bool a.neg,.string (bs a.s),.int .i64 a.e] 35 (0,0)) ∧ W.heap[w.heap.size + 1]? = some (.cells #[.bool b.neg,.string (bs b.s),.int .i64 b.e] 35 (0,0)) ∧ W.heap[w.heap.size + 2]? = some (.cells #[.bool false,.bool false,.bool false] 76 (0,0)) ∧ Below w.heap.size w W):=fun W hW=>
  ⟨hW.blk q0 (by omega),hW.blk q1 (by omega),hW.blk q2 (by omega),hba.trans (hW.mono hba.size)⟩
 obtain ⟨p,hp⟩ : ∃ p,p = ([a,b].all (fun d=>d.okB) && decide (1 ≤ m ∧ m ≤ 6)):=⟨_,rfl⟩
 have HM : Hid (Calls Tryz.prog 107 #[.int .i64 m,.slice (some ⟨w.heap.size + 3,0,none⟩) 2 2] w4 fun e w'=>e = .returned (.bool p) ∧ Below w4.heap.size w4 w'):=by
  have:=may_v m [a,b] (w.heap.size + 3) 2 w4 (by omega) (decs_two q3) (by simp) (by omega) (by simp; exact ⟨hsa,hsb⟩)
  rw [← hp] at this
  exact this
 have HP : Hid (p = true ↔ (a.ok ∧ b.ok ∧ 1 ≤ m ∧ m ≤ 6)):=by
  show _ ↔ _
  rw [hp]
  simp [okB_iff,and_assoc]
 have HSZ : Hid (w4.heap.size = w.heap.size + 4):=hsz
 clear hR hba hsz hk q0 q1 q2 q3 hp
 go_enter Tryz.func109,Tryz.ntmps109
 go_wp2_with fail
 rw [← hw4]
 clear hw4
 refine Calls.mono HM.out ?_
 rintro e w5 ⟨rfl,hb5⟩
 have HB5 : Hid (Below w4.heap.size w4 w5):=hb5
 have hr2:=(HX.out w5 hb5).2.2.1
 obtain ⟨f0,c0,f1,c1,f2,c2,r3⟩:=rw3 hr2
 have HR3 : Hid _:=r3
 have hbw:=(HX.out w5 hb5).2.2.2
 have HBW : Hid (Below w.heap.size w w5):=hbw
 have ka:=cell_of_row w5 w.heap.size 1 _ _ _ (HX.out w5 hb5).1
 have kb:=cell_of_row w5 (w.heap.size + 1) 1 _ _ _ (HX.out w5 hb5).2.1
 clear hb5 hr2 r3 hbw HM
 cases p
 ·clear ka kb
  have HRN : Hid (R = RA.no 1):=by
   show _ = _
   rw [HR.out]; unfold ratioA
   rw [if_pos (fun h=>by have:=HP.out.2 h; cases this)]
  go_wp2
  exact ratio_end (p:=6) (u:=7) (q:=8) rfl rfl rfl rfl (HR3.out _ _ _) (below_row3 HBW.out (by omega) _ _ _) HRN.out
 obtain ⟨oa,ob,m1,m2⟩:=HP.out.1 rfl
 have HRN : Hid (R = if b.s = [] then RA.no 13 else if a.s = [] then RA.no 0 else ⟨bits64 (a.neg != b.neg) (outG 53 (-1074) 971 (a.neg != b.neg) m (quoG a b)),(outG 53 (-1074) 971 (a.neg != b.neg) m (quoG a b)).ine,(outG 53 (-1074) 971 (a.neg != b.neg) m (quoG a b)).ov,(outG 53 (-1074) 971 (a.neg != b.neg) m (quoG a b)).un,0⟩):=by
  show _ = _
  rw [HR.out]; unfold ratioA
  rw [if_neg (fun h=>h ⟨oa,ob,m1,m2⟩)]
 have HOA : Hid a.ok:=oa
 have HOB : Hid b.ok:=ob
 have HM6 : Hid (1 ≤ m ∧ m ≤ 6):=⟨m1,m2⟩
 clear HP HR oa ob m1 m2 hsa hsb
 have HSB : Hid ((bs b.s).toList.isEmpty = decide (b.s = [])):=bs_emp _
 have HSA : Hid ((bs a.s).toList.isEmpty = decide (a.s = [])):=bs_emp _
 by_cases hb0 : b.s = []
 ·have HRM : Hid (R = RA.no 13):=by show _ = _; rw [HRN.out,if_pos hb0]
  have he : (bs b.s).toList.isEmpty = true:=by rw [HSB.out,decide_eq_true hb0]
  clear ka hb0
  go_wp2
  exact ratio_end (p:=6) (u:=7) (q:=8) rfl rfl rfl rfl (HR3.out _ _ _) (below_row3 HBW.out (by omega) _ _ _) HRM.out
 have he : (bs b.s).toList.isEmpty = false:=by rw [HSB.out,decide_eq_false hb0]
 have HB0 : Hid (b.s ≠ []):=hb0
 by_cases ha0 : a.s = []
 ·have HRM : Hid (R = RA.no 0):=by show _ = _; rw [HRN.out,if_neg hb0,if_pos ha0]
  have hf : (bs a.s).toList.isEmpty = true:=by rw [HSA.out,decide_eq_true ha0]
  clear ha0 hb0
  go_wp2
  exact ratio_end (p:=6) (u:=7) (q:=8) rfl rfl rfl rfl (HR3.out _ _ _) (below_row3 HBW.out (by omega) _ _ _) HRM.out
 have hf : (bs a.s).toList.isEmpty = false:=by rw [HSA.out,decide_eq_false ha0]
 have HA0 : Hid (a.s ≠ []):=ha0
 obtain ⟨o,ho⟩ : ∃ o,o = outG 53 (-1074) 971 (a.neg != b.neg) m (quoG a b):=⟨_,rfl⟩
 have HO : Hid (o = outG 53 (-1074) 971 (a.neg != b.neg) m (quoG a b)):=ho
 have HRM : Hid (R = ⟨bits64 (a.neg != b.neg) o,o.ine,o.ov,o.un,0⟩):=by show _ = _; rw [HRN.out,if_neg hb0,if_neg ha0,← ho]
 have ka0:=cell_of_row w5 w.heap.size 0 _ _ _ (HX.out w5 HB5.out).1
 have ka2:=cell_of_row w5 w.heap.size 2 _ _ _ (HX.out w5 HB5.out).1
 have kb0:=cell_of_row w5 (w.heap.size + 1) 0 _ _ _ (HX.out w5 HB5.out).2.1
 have kb2:=cell_of_row w5 (w.heap.size + 1) 2 _ _ _ (HX.out w5 HB5.out).2.1
 clear HRN ha0 hb0 ho HSA HSB f0 c0 f1 c1 f2 c2 HR3
 go_wp2_with fail
 refine (quotient_v a b HOA.out HOB.out HA0.out HB0.out _).mono ?_
 rintro e w6 ⟨a1,m1,c1,a2,m2,c2,M,D,rfl,n1,n2,hv,hb6⟩
 have HN : Hid (∀ W,Below w6.heap.size w6 W → Calls Tryz.prog 169 #[.agg #[.bool (a.neg != b.neg),.bool false,.bool false,.slice a1 m1 c1,.bool false,.slice a2 m2 c2],.int .i64 m] W (NumberQ (a.neg != b.neg) o W)):=fun W hW=>by
  rw [HO.out]; exact number_quo HOA.out HOB.out HA0.out HB0.out HM6.out (n1.below (Nat.le_refl _) hW) (n2.below (Nat.le_refl _) hW) hv
 have HB6 : Hid (Below w4.heap.size w4 w6):=HB5.out.thru hb6
 clear n1 n2 hv hb6 HB5 HBW ka kb ka0 ka2 kb0 kb2
 go_wp2_with fail
 refine (HN.out _ (Below.refl _ _)).mono ?_
 rintro e w7 ⟨rfl,hb7⟩
 have HB7 : Hid (Below w4.heap.size w4 w7):=HB6.out.thru hb7
 clear hb7 HN HB6
 go_upto_region 8 with fail
 obtain ⟨w8,hw8⟩ : ∃ W,W = w7.alloc (.cells #[.bool o.ine,.bool o.ov,.bool o.un] 76):=⟨_,rfl⟩
 have HB8 : Hid (Below w4.heap.size w4 w8):=by show Below _ _ _; rw [hw8]; exact HB7.out.alloc HB7.out.size _
 have HRF : Hid (w8.heap[w7.heap.size]? = some (.cells #[.bool o.ine,.bool o.ov,.bool o.un] 76 (0,0))):=by show _ = _; rw [hw8]; exact heap_alloc_new _ _
 rw [← hw8]
 clear hw8 HB7
 have h1 : once [(37,0),(38,1),(6,2)] = true:=by kernel_rfl
 have h2 : within [(37,0),(38,1),(6,2)] 39 = true:=by kernel_rfl
 refine wp_region_flow 3 5 [(37,0),(38,1),(6,2)] [] (fun i v W=>match i with
  | 0=>v = .float .f64 (bits64 (a.neg != b.neg) o)
  | 1=>v = .agg #[.bool o.ine,.bool o.ov,.bool o.un]
  | _=>v = .float .f64 (bits64 (a.neg != b.neg) o)) w8.heap.size (Nat.le_refl _) (by kernel_rfl) (by kernel_rfl) (by kernel_rfl) (by decide) (by kernel_rfl) h1 (by kernel_rfl) ?_ ?_ ?_ ?_
 ·intro j v W W' h hb
  match j,h with
  | 0,h=>exact h
  | 1,h=>exact h
  | _ + 2,h=>exact h
 ·exact fun j hj=>by cases hj
 ·refine ⟨⟨⟨trivial,?_⟩,?_⟩,?_⟩
  ·refine flow_step _ 37 rfl rfl (fun d h=>by simpa using h) h1 h2 fun ac xs W he hb hS K hK=>?_
   exact op_move (.tmp 9) (.inl rfl) (hK _ _ (he 9) bR nA)
  ·refine flow_step _ 38 rfl rfl (fun d h=>by simpa using h) h1 h2 fun ac xs W he hb hS K hK=>?_
   exact wp_load_row 76 (.tmp 10) rfl w7.heap.size (he 10) _ _ _ _ (hb.blk HRF.out (blk_lt HRF.out)) Tryz.underlying76 rfl (by kernel_rfl) (hK _ _ rfl bR nA)
  ·refine flow_step _ 6 rfl rfl (fun d h=>by simpa using h) h1 h2 fun ac xs W he hb hS K hK=>?_
   exact op_move (.tmp 37) (.inr rfl) (hK _ _ ((he 37).trans (hS 0 (by kernel_rfl))) bR nA)
 ·intro xs WL hb hS hD
  have s0 : xs 0 = _:=hS 0 (by decide)
  have s1 : xs 1 = _:=hS 1 (by decide)
  have s2 : xs 2 = _:=hS 2 (by decide)
  have HBL : Hid (Below w4.heap.size w4 WL):=HB8.out.thru hb
  have r2 : WL.heap[w.heap.size + 2]? = some (.cells #[.bool false,.bool false,.bool false] 76 (0,0)):=(HX.out _ HBL.out).2.2.1
  obtain ⟨f0,c0,f1,c1,f2,c2,r3⟩:=rw3 r2
  have HR3 : Hid _:=r3
  have HBW : Hid (Below w.heap.size w WL):=(HX.out _ HBL.out).2.2.2
  simp only [layAll,s0,s1,s2,List.setIfInBounds_toArray,List.set_cons_succ,List.set_cons_zero]
  clear hS hD hb r2 r3 s0 s1 s2 h1 h2
  go_wp2
  exact ratio_end (p:=6) (u:=7) (q:=8) rfl rfl rfl rfl (HR3.out _ _ _) (below_row3 HBW.out (by omega) _ _ _) HRM.out
end Go.Proofs.YtlbokicainimnaaGreatDoor
