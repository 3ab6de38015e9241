import Derived.WalkKit
namespace Go.Proofs.YtlbokicainimnaaGreatDoor
open Go.RowKit
def lval (B : Nat) : List Nat → Nat
 | []=>0
 | x :: t=>x + B * lval B t
theorem lval_cons (B x : Nat) (t : List Nat) : lval B (x :: t) = x + B * lval B t:=rfl
theorem lval_append (B : Nat) (s t : List Nat) : lval B (s ++ t) = lval B s + B ^ s.length * lval B t:=by
 induction s with
 | nil=>simp [lval]
 | cons x s ih=>simp only [List.cons_append,lval_cons,ih,List.length_cons,Nat.pow_succ,Nat.mul_add]; rw [Nat.mul_comm (B ^ s.length) B,Nat.mul_assoc]; omega
theorem lval_lt {B : Nat} (s : List Nat) (h : ∀ x ∈ s,x < B) : lval B s < B ^ s.length:=by
 induction s with
 | nil=>simp [lval]
 | cons x s ih =>
   have h1:=h x (by simp)
   have h2:=ih fun y hy=>h y (by simp [hy])
   rw [lval_cons,List.length_cons,Nat.pow_succ,Nat.mul_comm (B ^ s.length) B]
   calc x + B * lval B s < B + B * lval B s:=by omega
    _ = B * (lval B s + 1):=by rw [Nat.mul_add]; omega
    _ ≤ B * B ^ s.length:=Nat.mul_le_mul_left _ h2
theorem lval_take_succ (B : Nat) (xs : List Nat) (i : Nat) (hi : i < xs.length) : lval B (xs.take (i + 1)) = lval B (xs.take i) + B ^ i * xs.getD i 0:=by
 rw [List.take_succ_eq_append_getElem hi,lval_append]
 simp [lval,Nat.min_eq_left (Nat.le_of_lt hi),List.getElem?_eq_getElem hi]
theorem lval_zeros (B n : Nat) : lval B (List.replicate n 0) = 0:=by
 induction n with
 | zero=>rfl
 | succ n ih=>simp [List.replicate_succ,lval_cons,ih]
theorem lval_all_zero (B : Nat) (s : List Nat) (h : ∀ x ∈ s,x = 0) : lval B s = 0:=by
 induction s with
 | nil=>rfl
 | cons x s ih=>rw [lval_cons,h x (by simp),ih fun y hy=>h y (by simp [hy])]; simp
def Norm (xs : List Nat) : Prop:=xs.length = 0 ∨ xs.getD (xs.length - 1) 0 ≠ 0
def Limbs (k : IntKind) (B : Nat) (w : World) (v : Value) (xs : List Nat) : Prop:=
 ∃ a n c,v = .slice a n c ∧ xs.length = n ∧ n ≤ c ∧ c ≤ 9223372036854775807 ∧ (∀ x ∈ xs,x < B) ∧
  (0 < n → ∃ b o,a = some ⟨b,o,none⟩ ∧ b < w.heap.size ∧ ∀ i,i < n → w.cell? ⟨b,o + i,none⟩ = some (.int k (xs.getD i 0 : Nat)))
theorem Limbs.below {k : IntKind} {B : Nat} {w w' : World} {v : Value} {xs : List Nat} (h : Limbs k B w v xs) {M : Nat} (hM : w.heap.size ≤ M) (hb : Below M w w') : Limbs k B w' v xs:=by
 obtain ⟨a,n,c,rfl,h1,h2,h3,h4,h5⟩:=h
 refine ⟨a,n,c,rfl,h1,h2,h3,h4,fun hn=>?_⟩
 obtain ⟨b,o,rfl,hs,hc⟩:=h5 hn
 refine ⟨b,o,rfl,Nat.lt_of_lt_of_le hs hb.size,fun i hi=>?_⟩
 rw [hb.cell (by show b < M; omega)]
 exact hc i hi
def Num (k : IntKind) (B : Nat) (w : World) (v : Value) (N : Nat) : Prop:=∃ xs,Limbs k B w v xs ∧ lval B xs = N ∧ Norm xs
theorem Num.below {k : IntKind} {B : Nat} {w w' : World} {v : Value} {N : Nat} (h : Num k B w v N) {M : Nat} (hM : w.heap.size ≤ M) (hb : Below M w w') : Num k B w' v N:=by
 obtain ⟨xs,h1,h2,h3⟩:=h
 exact ⟨xs,h1.below hM hb,h2,h3⟩
theorem _root_.Go.RowKit.Below.thru {a b w' : World} (h : Below a.heap.size a b) (hb : Below b.heap.size b w') : Below a.heap.size a w':=h.trans (hb.mono h.size)
theorem Num.shape {k : IntKind} {B : Nat} {w : World} {v : Value} {N : Nat} (h : Num k B w v N) : ∃ a n c,v = .slice a n c:=by
 obtain ⟨xs,⟨a,n,c,h,_⟩,_⟩:=h
 exact ⟨a,n,c,h⟩
theorem norm_length {s : Nat} {xs : List Nat} (hn : Norm xs) {b : Nat} (h : lval (2 ^ s) xs < 2 ^ b) (h0 : 0 < xs.length) : s * (xs.length - 1) < b:=by
 rcases hn with hn | hn
 ·omega
 have h1:=lval_take_succ (2 ^ s) xs (xs.length - 1) (by omega)
 rw [show xs.length - 1 + 1 = xs.length by omega,List.take_length] at h1
 have h2 : (2 ^ s) ^ (xs.length - 1) ≤ lval (2 ^ s) xs:=by
  rw [h1]
  have:=Nat.le_mul_of_pos_right ((2 ^ s) ^ (xs.length - 1)) (show 0 < xs.getD (xs.length - 1) 0 by omega)
  omega
 rw [← Nat.pow_mul] at h2
 exact (Nat.pow_lt_pow_iff_right (by decide)).mp (Nat.lt_of_le_of_lt h2 h)
theorem limbs_own {k : IntKind} {B : Nat} {w : World} {base : Nat} {e : TypeId} {g n c : Nat} {xs : List Nat} (h : w.ownsRow base e 1 (.slice (some ⟨g, 0, none⟩) n c) n (xs.map fun (x : Nat) => Value.int k x))
  (hc : c ≤ 9223372036854775807) (hx : ∀ x ∈ xs,x < B) : Limbs k B w (.slice (some ⟨g,0,none⟩) n c) xs:=by
 have hl : xs.length = n:=by simpa using h.1
 have hcc : n ≤ c ∧ g < w.heap.size:=by
  rcases h.2 with ⟨h',_⟩ | ⟨g',cap',cur,h',_,hg,hnc,_⟩
  ·simp at h'
  ·simp only [Value.slice.injEq,Option.some.injEq,Addr.mk.injEq,and_true,true_and] at h'
   obtain ⟨rfl,rfl⟩:=h'
   exact ⟨hnc,(Array.getElem?_eq_some_iff.mp hg).1⟩
 refine ⟨_,n,c,rfl,hl,hcc.1,hc,hx,fun hn=>⟨g,0,rfl,hcc.2,fun i hi=>?_⟩⟩
 rw [Nat.zero_add,h.cellAt i (by omega)]
 simp [List.getElem?_eq_getElem (show i < xs.length by omega)]
theorem lval_take_of_zeros (B : Nat) (xs : List Nat) (m : Nat) (hm : m ≤ xs.length) (h : ∀ i,m ≤ i → i < xs.length → xs.getD i 0 = 0) : lval B (xs.take m) = lval B xs:=by
 conv=>rhs; rw [← List.take_append_drop m xs,lval_append]
 rw [lval_all_zero B (xs.drop m),Nat.mul_zero,Nat.add_zero]
 intro x hx
 obtain ⟨i,hi,rfl⟩:=List.getElem_of_mem hx
 have:=h (m + i) (by omega) (by simp at hi; omega)
 simp [List.getElem?_eq_getElem (show m + i < xs.length by simp at hi; omega)] at this
 simpa using this
theorem Limbs.take {k : IntKind} {B : Nat} {w : World} {a : Option Addr} {n c : Nat} {xs : List Nat} (h : Limbs k B w (.slice a n c) xs) {m : Nat} (hm : m ≤ n) : Limbs k B w (.slice a m c) (xs.take m):=by
 obtain ⟨a,n,c,h0,h1,h2,h3,h4,h5⟩:=h
 cases h0
 refine ⟨a,m,c,rfl,by simp; omega,by omega,h3,fun x hx=>h4 x (List.mem_of_mem_take hx),fun hn=>?_⟩
 obtain ⟨b,o,rfl,hs,hc⟩:=h5 (by omega)
 refine ⟨b,o,rfl,hs,fun i hi=>?_⟩
 rw [hc i (by omega)]
 simp [hi]
def OwnW (k : IntKind) (e : TypeId) (w : World) (g L : Nat) (ys : List Nat) : Prop:=w.ownsRow g e 1 (.slice (some ⟨g,0,none⟩) L L) L (ys.map fun (x : Nat)=>Value.int k x)
section
variable {k : IntKind} {e : TypeId} {w : World} {g L : Nat} {ys : List Nat}
theorem OwnW.length (h : OwnW k e w g L ys) : ys.length = L:=by simpa using h.1
theorem OwnW.made (h : w.ownsRow g e 1 (.slice (some ⟨g,0,none⟩) L L) L (madeCells (Value.int k 0).cells (L * 1)).toList) : OwnW k e w g L (List.replicate L 0):=by
 have e1 : (madeCells (Value.int k 0).cells (L * 1)).toList = (List.replicate L 0).map fun (x : Nat)=>Value.int k x:=by
  apply List.ext_getElem
  ·simp [madeCells]
  ·intro i h1 h2
   simp [madeCells,Value.cells,Nat.mod_one]
 unfold OwnW
 rwa [e1] at h
theorem OwnW.cell (h : OwnW k e w g L ys) {j : Nat} (hj : j < L) : w.cell? ⟨g,j,none⟩ = some (.int k (ys.getD j 0 : Nat)):=by
 have hl:=h.length
 rw [World.ownsRow.cellAt h j (by omega)]
 simp [List.getElem?_eq_getElem (show j < ys.length by omega)]
theorem OwnW.frozen (h : OwnW k e w g L ys) (j : Nat) : w.frozen? ⟨g,j,none⟩ = false:=World.ownsRow.frozenAt h j
theorem OwnW.set (h : OwnW k e w g L ys) (j v : Nat) : OwnW k e (w.setCell ⟨g,j,none⟩ (.int k v)) g L (ys.set j v):=by
 have:=(World.ownsRow.stored h j (.int k v)).1
 unfold OwnW
 rwa [List.map_set]
theorem OwnW.drew (h : OwnW k e w g L ys) : OwnW k e w.drew g L ys:=h
theorem OwnW.limbs {B : Nat} (h : OwnW k e w g L ys) (hL : L ≤ 9223372036854775807) (hx : ∀ y ∈ ys,y < B) : Limbs k B w (.slice (some ⟨g,0,none⟩) L L) ys:=limbs_own h hL hx
end
theorem heap_alloc3_0 (w : World) (A B C : Obj) : (((w.alloc A).alloc B).alloc C).heap[w.heap.size]? = some A:=by
 rw [heap_alloc_old ((w.alloc A).alloc B) C (by simp; omega),heap_alloc2_old]
theorem heap_alloc3_1 (w : World) (A B C : Obj) : (((w.alloc A).alloc B).alloc C).heap[w.heap.size + 1]? = some B:=by
 rw [heap_alloc_old ((w.alloc A).alloc B) C (by simp),heap_alloc2_new]
theorem heap_alloc3_2 (w : World) (A B C : Obj) : (((w.alloc A).alloc B).alloc C).heap[w.heap.size + 2]? = some C:=by
 have:=heap_alloc_new ((w.alloc A).alloc B) C
 simpa using this
theorem cell_past {w : World} {g j : Nat} {u : Value} {p : Addr} (h : p.block ≠ g) : (w.setCell ⟨g,j,none⟩ u).cell? p = w.cell? p:=World.cell?_of_block (heap_setCell_other w _ _ _ h)
theorem lval_set (B : Nat) (ys : List Nat) (j v : Nat) (hj : j < ys.length) : lval B (ys.set j v) + B ^ j * ys.getD j 0 = lval B ys + B ^ j * v:=by
 induction ys generalizing j with
 | nil=>simp at hj
 | cons y ys ih =>
   match j with
   | 0=>simp [lval_cons]; omega
   | j + 1 =>
     have:=ih j (by simpa using hj)
     simp only [List.set_cons_succ,lval_cons,List.getD_cons_succ,Nat.pow_succ]
     rw [Nat.mul_comm (B ^ j) B,Nat.mul_assoc,Nat.mul_assoc]
     have e : B * (lval B (ys.set j v) + B ^ j * ys.getD j 0) = B * (lval B ys + B ^ j * v):=by rw [this]
     rw [Nat.mul_add,Nat.mul_add] at e
     omega
theorem getD_set_same {ys : List Nat} {j v : Nat} (hj : j < ys.length) : (ys.set j v).getD j 0 = v:=by simp [hj]
theorem getD_set_other {ys : List Nat} {j i v : Nat} (h : i ≠ j) : (ys.set j v).getD i 0 = ys.getD i 0:=by
 simp only [List.getD_eq_getElem?_getD,List.getElem?_set_ne (Ne.symm h)]
theorem mem_set_lt {B : Nat} {ys : List Nat} {j v : Nat} (h : ∀ y ∈ ys,y < B) (hv : v < B) : ∀ y ∈ ys.set j v,y < B:=by
 intro y hy
 rcases List.mem_or_eq_of_mem_set hy with hy | rfl
 ·exact h y hy
 ·exact hv
theorem getD_lt {B : Nat} (hB : 0 < B) {ys : List Nat} (h : ∀ y ∈ ys,y < B) (j : Nat) : ys.getD j 0 < B:=by
 by_cases hj : j < ys.length
 ·have : ys.getD j 0 = ys[j]:=by simp [hj]
  rw [this]; exact h _ (List.getElem_mem hj)
 ·simp [List.getElem?_eq_none (show ys.length ≤ j by omega)]; exact hB
theorem or_add {a b r : Nat} (ha : a < 2 ^ r) (hb : b % 2 ^ r = 0) : a ||| b = a + b:=by
 have : b = 2 ^ r * (b / 2 ^ r):=by have:=Nat.div_add_mod b (2 ^ r); omega
 rw [this,Nat.or_comm,← Nat.two_pow_add_eq_or_of_lt ha,Nat.add_comm]
def MulInv (B : Nat) (xs ys : List Nat) (i : Nat) (zs : List Nat) : Prop:=
 zs.length = xs.length + ys.length ∧ (∀ z ∈ zs,z < B) ∧ lval B zs = lval B (xs.take i) * lval B ys ∧ ∀ t,i + ys.length ≤ t → zs.getD t 0 = 0
def MulIn (B : Nat) (xs ys : List Nat) (i j c : Nat) (zs : List Nat) : Prop:=
 zs.length = xs.length + ys.length ∧ (∀ z ∈ zs,z < B) ∧ c < B ∧ lval B zs + B ^ (i + j) * c = lval B (xs.take i) * lval B ys + B ^ i * (xs.getD i 0 * lval B (ys.take j)) ∧
  ∀ t,i + ys.length ≤ t → zs.getD t 0 = 0
theorem mul_start {B : Nat} {xs ys zs : List Nat} {i : Nat} (h : MulInv B xs ys i zs) (hB : 0 < B) : MulIn B xs ys i 0 0 zs:=by
 obtain ⟨h1,h2,h3,h4⟩:=h
 exact ⟨h1,h2,hB,by simp [h3,lval],h4⟩
theorem mul_in {B : Nat} {xs ys zs : List Nat} {i j c : Nat} (h : MulIn B xs ys i j c zs) (hi : i < xs.length) (hj : j < ys.length)
  {v c' : Nat} (hv : v < B) (hc : c' < B) (he : v + B * c' = xs.getD i 0 * ys.getD j 0 + c + zs.getD (i + j) 0) : MulIn B xs ys i (j + 1) c' (zs.set (i + j) v):=by
 obtain ⟨h1,h2,h3,h4,h5⟩:=h
 refine ⟨by simp [h1],mem_set_lt h2 hv,hc,?_,fun t ht=>by rw [getD_set_other (by omega)]; exact h5 t ht⟩
 have s:=lval_set B zs (i + j) v (by omega)
 rw [lval_take_succ B ys j hj,Nat.mul_add,Nat.mul_add]
 have e2:=congrArg (B ^ (i + j) * ·) he
 simp only [Nat.mul_add] at e2
 rw [show i + (j + 1) = (i + j) + 1 by omega,Nat.pow_succ,Nat.mul_assoc]
 have e3 : B ^ i * (xs.getD i 0 * (B ^ j * ys.getD j 0)) = B ^ (i + j) * (xs.getD i 0 * ys.getD j 0):=by rw [Nat.pow_add]; ac_rfl
 omega
theorem mul_out {B : Nat} {xs ys zs : List Nat} {i c : Nat} (h : MulIn B xs ys i ys.length c zs) (hi : i < xs.length) : MulInv B xs ys (i + 1) (zs.set (i + ys.length) c):=by
 obtain ⟨h1,h2,h3,h4,h5⟩:=h
 refine ⟨by simp [h1],mem_set_lt h2 h3,?_,fun t ht=>by rw [getD_set_other (by omega)]; exact h5 t (by omega)⟩
 have s:=lval_set B zs (i + ys.length) c (by omega)
 rw [h5 _ (Nat.le_refl _),Nat.mul_zero,Nat.add_zero] at s
 rw [s,h4,List.take_length,lval_take_succ B xs i hi,Nat.add_mul,Nat.mul_assoc]
theorem mul_done {B : Nat} {xs ys zs : List Nat} (h : MulInv B xs ys xs.length zs) : lval B zs = lval B xs * lval B ys:=by
 rw [h.2.2.1,List.take_length]
theorem mul_words {B a b c z : Nat} (ha : a < B) (hb : b < B) (hc : c < B) (hz : z < B) :
  (a * b / B + (a * b % B + c) / B) < B ∧ (a * b / B + (a * b % B + c) / B + (z + (a * b % B + c) % B) / B) < B ∧
   (z + (a * b % B + c) % B) % B + B * (a * b / B + (a * b % B + c) / B + (z + (a * b % B + c) % B) / B) = a * b + c + z:=by
 have e1:=Nat.div_add_mod (a * b) B
 have e2:=Nat.div_add_mod (a * b % B + c) B
 have e3:=Nat.div_add_mod (z + (a * b % B + c) % B) B
 have key : (z + (a * b % B + c) % B) % B + B * (a * b / B + (a * b % B + c) / B + (z + (a * b % B + c) % B) / B) = a * b + c + z:=by
  rw [Nat.mul_add,Nat.mul_add]; omega
 have hab : a * b + c + z < B * B:=by
  have h1 : a * b ≤ (B - 1) * (B - 1):=Nat.mul_le_mul (by omega) (by omega)
  obtain ⟨d,rfl⟩ : ∃ d,B = d + 1:=⟨B - 1,by omega⟩
  rw [Nat.add_sub_cancel] at h1
  rw [Nat.mul_add,Nat.add_mul]
  omega
 have h2 : a * b / B + (a * b % B + c) / B + (z + (a * b % B + c) % B) / B < B:=by
  apply Nat.lt_of_mul_lt_mul_left (a:=B)
  omega
 exact ⟨Nat.lt_of_le_of_lt (Nat.le_add_right _ _) h2,h2,key⟩
structure DQ (y1 y0 u t q r : Nat) : Prop where
 sum : q * y1 + r = u
 ge : (u * 4294967296 + t) / (y1 * 4294967296 + y0) ≤ q
section
variable {y1 y0 u t q r : Nat}
theorem dq_bounds (hy : 0 < y1 * 4294967296 + y0) {Q : Nat} (hQ : (u * 4294967296 + t) / (y1 * 4294967296 + y0) = Q) :
  Q * y1 * 4294967296 + Q * y0 ≤ u * 4294967296 + t ∧ u * 4294967296 + t < Q * y1 * 4294967296 + Q * y0 + (y1 * 4294967296 + y0):=by
 have h1:=Nat.div_add_mod (u * 4294967296 + t) (y1 * 4294967296 + y0)
 have h2:=Nat.mod_lt (u * 4294967296 + t) hy
 rw [hQ,Nat.mul_comm,Nat.mul_add,← Nat.mul_assoc] at h1
 omega
theorem dq_start (hy : 0 < y1) (ht : t < 4294967296) : DQ y1 y0 u t (u / y1) (u % y1):=by
 refine ⟨by rw [Nat.mul_comm]; exact Nat.div_add_mod u y1,?_⟩
 rw [Nat.le_div_iff_mul_le hy]
 obtain ⟨Q,hQ⟩ : ∃ Q,(u * 4294967296 + t) / (y1 * 4294967296 + y0) = Q:=⟨_,rfl⟩
 have:=dq_bounds (by omega) hQ
 rw [hQ]
 omega
theorem dq_big (hu : u < y1 * 4294967296 + y0) (ht : t < 4294967296) (hq : 4294967296 ≤ q) : (u * 4294967296 + t) / (y1 * 4294967296 + y0) < q:=by
 obtain ⟨Q,hQ⟩ : ∃ Q,(u * 4294967296 + t) / (y1 * 4294967296 + y0) = Q:=⟨_,rfl⟩
 have:=dq_bounds (by omega) hQ
 rw [hQ]
 by_cases hlt : Q < 4294967296
 ·omega
 have a:=Nat.mul_le_mul_right y1 (show 4294967296 ≤ Q by omega)
 have b:=Nat.mul_le_mul_right y0 (show 4294967296 ≤ Q by omega)
 omega
theorem dq_prod (h : DQ y1 y0 u t q r) (hy : 0 < y1) (hlt : 4294967296 * r + t < q * y0) : (u * 4294967296 + t) / (y1 * 4294967296 + y0) < q:=by
 obtain ⟨Q,hQ⟩ : ∃ Q,(u * 4294967296 + t) / (y1 * 4294967296 + y0) = Q:=⟨_,rfl⟩
 have:=dq_bounds (by omega) hQ
 have hs:=h.sum
 rw [hQ]
 refine Decidable.byContradiction fun hn=>?_
 have a:=Nat.mul_le_mul_right y1 (show q ≤ Q by omega)
 have b:=Nat.mul_le_mul_right y0 (show q ≤ Q by omega)
 omega
theorem dq_next (h : DQ y1 y0 u t q r) (hlt : (u * 4294967296 + t) / (y1 * 4294967296 + y0) < q) : DQ y1 y0 u t (q - 1) (r + y1):=by
 refine ⟨?_,Nat.le_sub_one_of_lt hlt⟩
 have hq : 0 < q:=Nat.lt_of_le_of_lt (Nat.zero_le _) hlt
 obtain ⟨p,rfl⟩ : ∃ p,q = p + 1:=⟨q - 1,by omega⟩
 have:=h.sum
 rw [Nat.add_mul] at this
 rw [Nat.add_sub_cancel]
 omega
theorem dq_stop (h : DQ y1 y0 u t q r) (hy : 0 < y1) (hle : q * y0 ≤ 4294967296 * r + t) : q = (u * 4294967296 + t) / (y1 * 4294967296 + y0):=by
 have hg:=h.ge
 have hs:=h.sum
 obtain ⟨Q,hQ⟩ : ∃ Q,(u * 4294967296 + t) / (y1 * 4294967296 + y0) = Q:=⟨_,rfl⟩
 have:=dq_bounds (by omega) hQ
 rw [hQ] at hg ⊢
 refine Decidable.byContradiction fun hn=>?_
 have a:=Nat.mul_le_mul_right y1 (show Q + 1 ≤ q by omega)
 have b:=Nat.mul_le_mul_right y0 (show Q + 1 ≤ q by omega)
 rw [Nat.add_mul] at a b
 omega
theorem dq_break (h : DQ y1 y0 u t q r) (hy : 0 < y1) (hu : u < y1 * 4294967296 + y0) (h0 : y0 < 4294967296) (hr : 4294967296 ≤ r) : q < 4294967296 ∧ q = (u * 4294967296 + t) / (y1 * 4294967296 + y0):=by
 have hs:=h.sum
 have hq : q < 4294967296:=by
  refine Decidable.byContradiction fun hn=>?_
  have a:=Nat.mul_le_mul_right y1 (show 4294967296 ≤ q by omega)
  omega
 refine ⟨hq,dq_stop h hy ?_⟩
 have a : q * y0 ≤ 4294967296 * 4294967296:=Nat.mul_le_mul (by omega) (by omega)
 omega
theorem dq_rest (hq : q = (u * 4294967296 + t) / (y1 * 4294967296 + y0)) (hu : u < y1 * 4294967296 + y0) (ht : t < 4294967296) :
  q < 4294967296 ∧ q * (y1 * 4294967296 + y0) + (u * 4294967296 + t) % (y1 * 4294967296 + y0) = u * 4294967296 + t ∧ (u * 4294967296 + t) % (y1 * 4294967296 + y0) < y1 * 4294967296 + y0:=by
 refine ⟨?_,by rw [hq,Nat.mul_comm]; exact Nat.div_add_mod _ _,Nat.mod_lt _ (by omega)⟩
 rw [hq,Nat.div_lt_iff_lt_mul (by omega)]
 have : (u + 1) * 4294967296 ≤ (y1 * 4294967296 + y0) * 4294967296:=Nat.mul_le_mul_right _ (by omega)
 omega
end
theorem dq_both {y hi32 a b q1 q0 m1 : Nat} (h1 : q1 * y + m1 = hi32 * 4294967296 + a) (m2 : Nat) (h2 : q0 * y + m2 = m1 * 4294967296 + b) (hm2 : m2 < y) :
  q1 * 4294967296 + q0 = (hi32 * 18446744073709551616 + a * 4294967296 + b) / y ∧ m2 = (hi32 * 18446744073709551616 + a * 4294967296 + b) % y:=by
 have e : hi32 * 18446744073709551616 + a * 4294967296 + b = y * (q1 * 4294967296 + q0) + m2:=by
  rw [Nat.mul_add,← Nat.mul_assoc,Nat.mul_comm y,Nat.mul_comm y]
  omega
 rw [e,Nat.mul_add_div (by omega),Nat.div_eq_of_lt hm2,Nat.mul_add_mod,Nat.mod_eq_of_lt hm2]
 omega
theorem div_shift (N y s : Nat) : N * 2 ^ s / (y * 2 ^ s) = N / y ∧ N * 2 ^ s % (y * 2 ^ s) = N % y * 2 ^ s:=
 ⟨Nat.mul_div_mul_right _ _ (Nat.two_pow_pos s),Nat.mul_mod_mul_right ..⟩
theorem lval_drop_next (B : Nat) (xs : List Nat) (k : Nat) (hk : k < xs.length) : lval B (xs.drop k) = xs.getD k 0 + B * lval B (xs.drop (k + 1)):=by
 rw [List.drop_eq_getElem_cons hk,lval_cons]
 simp [List.getElem?_eq_getElem hk]
theorem drop_set_next (zs : List Nat) (k v : Nat) : (zs.set k v).drop (k + 1) = zs.drop (k + 1):=by
 apply List.ext_getElem?
 intro i
 rw [List.getElem?_drop,List.getElem?_drop,List.getElem?_set_ne (by omega)]
def ShortInv (B d : Nat) (xs : List Nat) (k rest : Nat) (zs : List Nat) : Prop:=
 zs.length = xs.length ∧ (∀ z ∈ zs,z < B) ∧ rest < d ∧ lval B (xs.drop k) = d * lval B (zs.drop k) + rest
theorem short_step {B d k rest : Nat} {xs zs : List Nat} (h : ShortInv B d xs (k + 1) rest zs) (hk : k < xs.length) (hx : ∀ x ∈ xs, x < B) (hB : 0 < B) :
  ShortInv B d xs k ((rest * B + xs.getD k 0) % d) (zs.set k ((rest * B + xs.getD k 0) / d)) ∧ (rest * B + xs.getD k 0) / d < B:=by
 obtain ⟨h1,h2,h3,h4⟩:=h
 have hxk:=getD_lt hB hx k
 have hq : (rest * B + xs.getD k 0) / d < B:=by
  rw [Nat.div_lt_iff_lt_mul (by omega),Nat.mul_comm B]
  have:=Nat.mul_le_mul_right B (show rest + 1 ≤ d by omega)
  rw [Nat.add_mul] at this
  omega
 refine ⟨⟨by simp [h1],mem_set_lt h2 hq,Nat.mod_lt _ (by omega),?_⟩,hq⟩
 rw [lval_drop_next B xs k hk,h4,lval_drop_next B _ k (by simp; omega),drop_set_next,getD_set_same (by omega)]
 have e:=Nat.div_add_mod (rest * B + xs.getD k 0) d
 rw [Nat.mul_add,Nat.mul_add,← Nat.mul_assoc,← Nat.mul_assoc,Nat.mul_comm d B,Nat.mul_comm B rest]
 omega
theorem digit_top {B n V D a b c : Nat} (hB : 0 < B) (hc : 0 < c) (hV : V < (a * B + b + 1) * B ^ n) (hD : c * B ^ n ≤ D) : V / D ≤ (a * B + b) / c:=by
 have hp:=Nat.pow_pos (n:=n) hB
 rw [Nat.le_div_iff_mul_le hc]
 have h1:=Nat.div_mul_le_self V D
 have h2:=Nat.mul_le_mul_left (V / D) hD
 rw [← Nat.mul_assoc] at h2
 have h3 : V / D * c * B ^ n < (a * B + b + 1) * B ^ n:=by omega
 have:=Nat.lt_of_mul_lt_mul_right h3
 omega
structure QuoInv (B X D n L k : Nat) (us zs : List Nat) : Prop where
 lu : us.length = L
 bu : ∀ u ∈ us,u < B
 lz : zs.length + n = L
 bz : ∀ z ∈ zs,z < B
 sum : lval B us + D * (B ^ k * lval B (zs.drop k)) = X
 less : lval B (us.drop k) < D
 noughts : ∀ j,k + n ≤ j → us.getD j 0 = 0
theorem lval_take_drop (B : Nat) (us : List Nat) (k : Nat) (hk : k ≤ us.length) : lval B us = lval B (us.take k) + B ^ k * lval B (us.drop k):=by
 conv=>lhs; rw [← List.take_append_drop k us,lval_append]
 rw [List.length_take,Nat.min_eq_left hk]
theorem lval_noughts (B : Nat) (us : List Nat) (k : Nat) (h : ∀ j,k ≤ j → us.getD j 0 = 0) : lval B (us.drop k) = 0:=by
 apply lval_all_zero
 intro x hx
 obtain ⟨i,hi,rfl⟩:=List.getElem_of_mem hx
 have:=h (k + i) (by omega)
 simp only [List.length_drop] at hi
 rw [List.getD_eq_getElem?_getD,List.getElem?_eq_getElem (by omega)] at this
 simpa using this
theorem quo_part {B X D n L k : Nat} {us zs : List Nat} (h : QuoInv B X D n L (k + 1) us zs) (hk : k + n < L) (hB : 0 < B) :
  lval B ((us.drop k).take (n + 1)) = lval B (us.drop k) ∧ lval B (us.drop k) < B * D:=by
 have e : lval B ((us.drop k).take (n + 1)) = lval B (us.drop k):=by
  rw [lval_take_drop B (us.drop k) (n + 1) (by simp [h.lu]; omega),List.drop_drop,lval_noughts B us (k + (n + 1)) (fun j hj=>h.noughts j (by omega)),Nat.mul_zero]
  rfl
 refine ⟨e,?_⟩
 rw [lval_drop_next B us k (by rw [h.lu]; omega)]
 have h1:=getD_lt hB h.bu k
 have h2:=Nat.mul_le_mul_left B (show lval B (us.drop (k + 1)) + 1 ≤ D from h.less)
 rw [Nat.mul_add] at h2
 omega
theorem quo_step {B X D n L k : Nat} {us zs vs : List Nat} (h : QuoInv B X D n L (k + 1) us zs) (hk : k + n < L) (hB : 0 < B) (hD : D < B ^ n) (hD0 : 0 < D)
  (hl : vs.length = n + 1) (hv : ∀ v ∈ vs,v < B) {q : Nat} (hq : q = lval B (us.drop k) / D) (he : lval B vs = lval B (us.drop k) - q * D) :
  QuoInv B X D n L k (us.take k ++ vs ++ us.drop (k + (n + 1))) (zs.set k q) ∧ q < B:=by
 obtain ⟨e1,e2⟩:=quo_part h hk hB
 have hz:=lval_noughts B us (k + (n + 1)) fun j hj=>h.noughts j (by omega)
 have hqb : q < B:=by rw [hq,Nat.div_lt_iff_lt_mul hD0]; exact e2
 have hle : q * D ≤ lval B (us.drop k):=by rw [hq]; exact Nat.div_mul_le_self _ _
 have hmod : lval B vs = lval B (us.drop k) % D:=by
  have:=Nat.div_add_mod (lval B (us.drop k)) D
  rw [← hq,Nat.mul_comm] at this
  omega
 have hvl : lval B vs < D:=by rw [hmod]; exact Nat.mod_lt _ hD0
 have hlu:=h.lu
 have hlt : (us.take k).length = k:=by simp; omega
 have hd : (us.take k ++ vs ++ us.drop (k + (n + 1))).drop k = vs ++ us.drop (k + (n + 1)):=by
  rw [List.append_assoc]
  conv=>lhs; arg 1; rw [← hlt]
  rw [List.drop_left]
 have hval : lval B (vs ++ us.drop (k + (n + 1))) = lval B vs:=by rw [lval_append,hz,Nat.mul_zero,Nat.add_zero]
 refine ⟨⟨by simp [hl]; omega,?_,by simpa using h.lz,mem_set_lt h.bz hqb,?_,by rw [hd,hval]; exact hvl,?_⟩,hqb⟩
 ·intro u hu
  rcases List.mem_append.mp hu with hu | hu
  ·rcases List.mem_append.mp hu with hu | hu
   ·exact h.bu u (List.mem_of_mem_take hu)
   ·exact hv u hu
  ·exact h.bu u (List.mem_of_mem_drop hu)
 ·rw [List.append_assoc,lval_append,hval,hlt,lval_drop_next B _ k (by simp; have:=h.lz; omega),drop_set_next,getD_set_same (by have:=h.lz; omega)]
  have hs:=h.sum
  rw [lval_take_drop B us k (by omega),Nat.pow_succ] at hs
  rw [he,← hs]
  obtain ⟨c,hc⟩ : ∃ c,lval B (us.drop k) = q * D + c:=⟨lval B (us.drop k) - q * D,by omega⟩
  rw [hc,Nat.add_sub_cancel_left,Nat.mul_add (B ^ k),Nat.mul_add (B ^ k),Nat.mul_add D,show B ^ k * (q * D) = D * (B ^ k * q) by ac_rfl,
   show D * (B ^ k * B * lval B (zs.drop (k + 1))) = D * (B ^ k * (B * lval B (zs.drop (k + 1)))) by ac_rfl]
  omega
 ·intro j hj
  by_cases hj2 : j = k + n
  ·subst hj2
   have t:=lval_take_succ B vs n (by omega)
   rw [← hl,List.take_length] at t
   have g : (us.take k ++ vs ++ us.drop (k + (n + 1))).getD (k + n) 0 = vs.getD n 0:=by
    simp only [List.getD_eq_getElem?_getD]
    rw [List.getElem?_append_left (by simp [hl]; omega),List.getElem?_append_right (by omega),hlt,Nat.add_sub_cancel_left]
   rw [g]
   refine Decidable.byContradiction fun hn=>?_
   have:=Nat.le_mul_of_pos_right (B ^ n) (show 0 < vs.getD n 0 by omega)
   omega
  ·simp only [List.getD_eq_getElem?_getD]
   rw [List.getElem?_append_right (by simp [hl]; omega),List.getElem?_drop]
   have:=h.noughts j (by omega)
   rw [List.getD_eq_getElem?_getD] at this
   have e : k + (n + 1) + (j - (us.take k ++ vs).length) = j:=by simp [hl]; omega
   rw [e]; exact this
theorem quo_done {B X D n L : Nat} {us zs : List Nat} (h : QuoInv B X D n L 0 us zs) : lval B zs = X / D ∧ lval B us = X % D:=by
 have hs:=h.sum
 have hl:=h.less
 simp only [List.drop_zero,Nat.pow_zero,Nat.one_mul] at hs hl
 rw [← hs,Nat.add_comm,Nat.mul_add_div (by omega),Nat.div_eq_of_lt hl,Nat.mul_add_mod,Nat.mod_eq_of_lt hl]
 omega
theorem limbs_own_any {k : IntKind} {B : Nat} {w : World} {base : Nat} {e : TypeId} {v : Value} {n : Nat} {xs : List Nat} (h : w.ownsRow base e 1 v n (xs.map fun (x : Nat)=>Value.int k x)) (hx : ∀ x ∈ xs,x < B) : Limbs k B w v xs:=by
 rcases h.2 with ⟨rfl,rfl⟩ | ⟨g,cap,cur,rfl,hb,hg,hnc,hm,_,_⟩
 ·have : xs = []:=List.eq_nil_of_length_eq_zero (by simpa using h.1)
  subst this
  exact ⟨_,0,0,rfl,rfl,Nat.le_refl _,by decide,hx,fun h=>absurd h (by omega)⟩
 ·exact limbs_own h (by unfold maxLen at hm; omega) hx
theorem trim_num {k : IntKind} {B : Nat} {w : World} {a : Option Addr} {n c m : Nat} {xs : List Nat} (h : Limbs k B w (.slice a n c) xs) (hm : m ≤ n) (hz : ∀ i, m ≤ i → i < n → xs.getD i 0 = 0)
  (hlast : m = 0 ∨ xs.getD (m - 1) 0 ≠ 0) : Num k B w (.slice a m c) (lval B xs):=by
 have hl : xs.length = n:=by obtain ⟨_,_,_,h0,h1,_⟩:=h; cases h0; exact h1
 refine ⟨xs.take m,h.take hm,lval_take_of_zeros B xs m (by omega) (by rw [hl]; exact hz),?_⟩
 unfold Norm
 rcases hlast with rfl | hlast
 ·left; simp
 ·by_cases h0 : m = 0
  ·left; simp [h0]
  ·right
   rw [List.length_take,Nat.min_eq_left (by omega)]
   simp only [List.getD_eq_getElem?_getD,List.getElem?_take,if_pos (show m - 1 < m by omega)]
   simpa using hlast
theorem lval_take_nextG (B : Nat) (xs : List Nat) (k : Nat) : lval B (xs.take (k + 1)) = lval B (xs.take k) + B ^ k * xs.getD k 0:=by
 by_cases h : k < xs.length
 ·exact lval_take_succ B xs k h
 ·rw [List.take_of_length_le (by omega),List.take_of_length_le (by omega)]
  simp [List.getElem?_eq_none (show xs.length ≤ k by omega)]
theorem take_set_sameG (zs : List Nat) (k v : Nat) : (zs.set k v).take k = zs.take k:=by
 apply List.ext_getElem?
 intro i
 simp only [List.getElem?_take]
 split
 ·rw [List.getElem?_set_ne (by omega)]
 ·rfl
def AddInv (B n : Nat) (xs ys : List Nat) (k c : Nat) (zs : List Nat) : Prop:=
 zs.length = n + 1 ∧ (∀ z ∈ zs,z < B) ∧ c ≤ 1 ∧ lval B (zs.take k) + B ^ k * c = lval B (xs.take k) + lval B (ys.take k)
theorem add_step {B n k c : Nat} {xs ys zs : List Nat} (h : AddInv B n xs ys k c zs) (hk : k < n) (hB : 1 < B) (hx : ∀ x ∈ xs, x < B) (hy : ∀ y ∈ ys, y < B) :
  AddInv B n xs ys (k + 1) ((c + xs.getD k 0 + ys.getD k 0) / B) (zs.set k ((c + xs.getD k 0 + ys.getD k 0) % B)):=by
 obtain ⟨h1,h2,h3,h4⟩:=h
 have hx1:=getD_lt (by omega) hx k
 have hy1:=getD_lt (by omega) hy k
 obtain ⟨x,ex⟩ : ∃ x,xs.getD k 0 = x:=⟨_,rfl⟩
 obtain ⟨y,ey⟩ : ∃ y,ys.getD k 0 = y:=⟨_,rfl⟩
 rw [ex] at hx1 ⊢
 rw [ey] at hy1 ⊢
 refine ⟨by simp [h1],mem_set_lt h2 (Nat.mod_lt _ (by omega)),?_,?_⟩
 ·have : (c + x + y) / B < 2:=by rw [Nat.div_lt_iff_lt_mul (by omega)]; omega
  omega
 ·rw [lval_take_nextG,lval_take_nextG,lval_take_nextG,take_set_sameG,getD_set_same (by omega),Nat.pow_succ,Nat.mul_assoc,ex,ey]
  have e:=congrArg (B ^ k * ·) (Nat.div_add_mod (c + x + y) B)
  simp only [Nat.mul_add] at e
  omega
theorem add_done {B n c : Nat} {xs ys zs : List Nat} (h : AddInv B n xs ys n c zs) (hx : xs.length ≤ n) (hy : ys.length ≤ n) (hB : 1 < B) :
  lval B (zs.set n c) = lval B xs + lval B ys ∧ ∀ z ∈ zs.set n c,z < B:=by
 obtain ⟨h1,h2,h3,h4⟩:=h
 refine ⟨?_,mem_set_lt h2 (by omega)⟩
 rw [List.take_of_length_le hx,List.take_of_length_le hy] at h4
 have t:=lval_take_nextG B (zs.set n c) n
 rw [List.take_of_length_le (by simp; omega),take_set_sameG,getD_set_same (by omega)] at t
 omega
def SubInv (B : Nat) (xs ys : List Nat) (k b : Nat) (zs : List Nat) : Prop:=
 zs.length = xs.length ∧ (∀ z ∈ zs,z < B) ∧ b ≤ 1 ∧ lval B (zs.take k) + lval B (ys.take k) = lval B (xs.take k) + B ^ k * b
theorem sub_step {B k b d b' : Nat} {xs ys zs : List Nat} (h : SubInv B xs ys k b zs) (hk : k < xs.length) (hd : d < B) (hb : b' ≤ 1) (he : d + ys.getD k 0 + b = xs.getD k 0 + B * b') :
  SubInv B xs ys (k + 1) b' (zs.set k d):=by
 obtain ⟨h1,h2,h3,h4⟩:=h
 refine ⟨by simp [h1],mem_set_lt h2 hd,hb,?_⟩
 rw [lval_take_nextG,lval_take_nextG,lval_take_nextG,take_set_sameG,getD_set_same (by omega),Nat.pow_succ,Nat.mul_assoc]
 have e:=congrArg (B ^ k * ·) he
 simp only [Nat.mul_add] at e
 omega
theorem sub_done {B b : Nat} {xs ys zs : List Nat} (h : SubInv B xs ys xs.length b zs) (hy : ys.length ≤ xs.length) (hle : lval B ys ≤ lval B xs) : lval B zs = lval B xs - lval B ys:=by
 obtain ⟨hl,hB,hb,hv⟩:=h
 rw [← hl,List.take_length,hl,List.take_length,List.take_of_length_le hy] at hv
 have:=lval_lt zs hB
 rw [hl] at this
 have hb0 : b = 0:=by
  match b,hb with
  | 0,_=>rfl
  | 1,_=>exfalso; rw [Nat.mul_one] at hv; omega
 subst hb0
 omega
def UpInv (s q r : Nat) (xs : List Nat) (k : Nat) (ys : List Nat) : Prop:=
 ys.length = xs.length + q + 1 ∧ (∀ y ∈ ys,y < 2 ^ s) ∧ lval (2 ^ s) ys = lval (2 ^ s) (xs.take k) * 2 ^ (s * q + r) ∧
  ys.getD (k + q) 0 < 2 ^ r ∧ ∀ j,k + q < j → ys.getD j 0 = 0
theorem up_step {s q r : Nat} {xs : List Nat} {k : Nat} {ys : List Nat} (h : UpInv s q r xs k ys) (hr : r < s) (hk : k < xs.length) (hx : ∀ x ∈ xs, x < 2 ^ s) :
  UpInv s q r xs (k + 1) ((ys.set (k + q) (ys.getD (k + q) 0 ||| (xs.getD k 0 * 2 ^ r) % 2 ^ s)).set (k + q + 1) (ys.getD (k + q + 1) 0 ||| xs.getD k 0 * 2 ^ r / 2 ^ s)):=by
 obtain ⟨hl,hB,hval,hlow,hz⟩:=h
 have hxk:=getD_lt (B:=2 ^ s) (Nat.two_pow_pos s) hx k
 have hy:=getD_lt (B:=2 ^ s) (Nat.two_pow_pos s) hB (k + q)
 have hz1:=hz (k + q + 1) (by omega)
 rw [hz1,Nat.zero_or]
 obtain ⟨x,ex⟩ : ∃ x,x = xs.getD k 0:=⟨_,rfl⟩
 have hsplit:=Nat.div_add_mod (x * 2 ^ r) (2 ^ s)
 have hB2 : 2 ^ s = 2 ^ (s - r) * 2 ^ r:=by rw [← Nat.pow_add,show s - r + r = s by omega]
 have hlo : (x * 2 ^ r) % 2 ^ s % 2 ^ r = 0:=by
  rw [hB2,Nat.mul_comm x,Nat.mul_comm (2 ^ (s - r)),Nat.mul_mod_mul_left]
  exact Nat.mul_mod_right _ _
 rw [or_add hlow (by rw [← ex]; exact hlo),← ex]
 have hhi2 : x * 2 ^ r / 2 ^ s < 2 ^ r:=by
  rw [Nat.div_lt_iff_lt_mul (Nat.two_pow_pos s),Nat.mul_comm]
  exact Nat.mul_lt_mul_of_pos_left (by omega) (Nat.two_pow_pos r)
 have h64 : 2 ^ r < 2 ^ s:=Nat.pow_lt_pow_right (by decide) hr
 have hv : ys.getD (k + q) 0 + x * 2 ^ r % 2 ^ s < 2 ^ s:=by
  rw [← or_add (a:=ys.getD (k + q) 0) (b:=x * 2 ^ r % 2 ^ s) hlow hlo]
  exact Nat.or_lt_two_pow hy (Nat.mod_lt _ (Nat.two_pow_pos s))
 refine ⟨by simp [hl],mem_set_lt (mem_set_lt hB hv) (by omega),?_,?_,?_⟩
 ·have s1:=lval_set (2 ^ s) ys (k + q) (ys.getD (k + q) 0 + x * 2 ^ r % 2 ^ s) (by omega)
  have s2:=lval_set (2 ^ s) (ys.set (k + q) (ys.getD (k + q) 0 + x * 2 ^ r % 2 ^ s)) (k + q + 1) (x * 2 ^ r / 2 ^ s) (by simp; omega)
  rw [getD_set_other (by omega),hz1,Nat.mul_zero,Nat.add_zero] at s2
  rw [s2,lval_take_succ _ _ _ hk,← ex,Nat.add_mul,← hval]
  rw [Nat.mul_add] at s1
  have e1 : (2 ^ s) ^ k * x * 2 ^ (s * q + r) = (2 ^ s) ^ (k + q) * (x * 2 ^ r):=by
   rw [Nat.pow_add,Nat.pow_mul,Nat.pow_add (2 ^ s) k q]
   ac_rfl
  rw [e1]
  have e2 : (2 ^ s) ^ (k + q) * (x * 2 ^ r) = (2 ^ s) ^ (k + q + 1) * (x * 2 ^ r / 2 ^ s) + (2 ^ s) ^ (k + q) * (x * 2 ^ r % 2 ^ s):=by
   conv=>lhs; rw [← hsplit,Nat.mul_add]
   rw [Nat.pow_succ]; ac_rfl
  rw [e2]
  omega
 ·rw [show k + 1 + q = k + q + 1 by omega,getD_set_same (by simp; omega)]
  exact hhi2
 ·intro j hj
  rw [getD_set_other (by omega),getD_set_other (by omega)]
  exact hz j (by omega)
def halfW (s : Nat) (xs : List Nat) (k : Nat) : Nat:=xs.getD k 0 / 2 + (xs.getD (k + 1) 0 % 2) * 2 ^ (s - 1)
theorem lval_half {s : Nat} (hs : 1 ≤ s) (t : List Nat) (h : ∀ x ∈ t,x < 2 ^ s) : lval (2 ^ s) ((List.range t.length).map (halfW s t)) = lval (2 ^ s) t / 2:=by
 have hB : 2 ^ s = 2 * 2 ^ (s - 1):=by rw [Nat.mul_comm,← Nat.pow_succ]; congr 1; omega
 induction t with
 | nil=>simp [lval]
 | cons x t ih =>
   have ih':=ih fun y hy=>h y (by simp [hy])
   have hf : halfW s (x :: t) ∘ Nat.succ = halfW s t:=by
    funext i
    simp [halfW]
   rw [List.length_cons,List.range_succ_eq_map,List.map_cons,List.map_map,hf,lval_cons,lval_cons,ih']
   obtain ⟨P,hP⟩ : ∃ P,2 ^ (s - 1) = P:=⟨_,rfl⟩
   have e2 : lval (2 ^ s) t % 2 = t.getD 0 0 % 2:=by
    cases t with
    | nil=>simp [lval]
    | cons y t =>
      rw [lval_cons,hB,Nat.mul_assoc]
      simp
   have e5 : halfW s (x :: t) 0 = x / 2 + P * (t.getD 0 0 % 2):=by
    simp [halfW,Nat.mul_comm,hP]
   rw [e5,← e2]
   obtain ⟨L,hL⟩ : ∃ L,lval (2 ^ s) t = L:=⟨_,rfl⟩
   rw [hL,hB,hP]
   have e3:=Nat.div_add_mod L 2
   have e4 : 2 * P * L = 2 * (P * L):=by rw [Nat.mul_assoc]
   have e6:=congrArg (P * ·) e3
   simp only [Nat.mul_add] at e6
   rw [e4,Nat.mul_assoc]
   have e7 : P * (2 * (L / 2)) = 2 * (P * (L / 2)):=by ac_rfl
   omega
end Go.Proofs.YtlbokicainimnaaGreatDoor
