import Derived.Test.YtlbokicainimnaaGreatDoorQQD
import Derived.Test.YtlbokicainimnaaGreatDoorQQG
import Derived.Test.YtlbokicainimnaaGreatDoorQQF
set_option maxRecDepth 100000
namespace Go.Proofs.YtlbokicainimnaaGreatDoor
open Go.RowKit
theorem norm_zero {B : Nat} {xs : List Nat} (hn : Norm xs) (hB : 0 < B) : lval B xs = 0 ↔ xs.length = 0:=by
 constructor
 ·intro h
  rcases hn with hn | hn
  ·exact hn
  ·by_cases h0 : xs.length = 0
   ·exact h0
   exfalso
   have h1:=lval_take_succ B xs (xs.length - 1) (by omega)
   rw [show xs.length - 1 + 1 = xs.length by omega,List.take_length,h] at h1
   have h2 : B ^ (xs.length - 1) * xs.getD (xs.length - 1) 0 = 0:=by omega
   rcases Nat.mul_eq_zero.mp h2 with h2 | h2
   ·have:=Nat.pow_pos (n:=xs.length - 1) hB; omega
   ·exact hn h2
 ·intro h
  rw [List.eq_nil_of_length_eq_zero h]; rfl
theorem lval_mod {B : Nat} {xs : List Nat} (h : ∀ x ∈ xs,x < B) : lval B xs % B = xs.getD 0 0:=by
 cases xs with
 | nil=>simp [lval]
 | cons x t=>rw [lval_cons,Nat.add_mul_mod_self_left,Nat.mod_eq_of_lt (h x (by simp))]; rfl
theorem blen_top {s : Nat} {xs : List Nat} (hn : Norm xs) (h : ∀ x ∈ xs,x < 2 ^ s) (h0 : 0 < xs.length) : blen (lval (2 ^ s) xs) = s * (xs.length - 1) + blen (xs.getD (xs.length - 1) 0):=by
 have hlast : xs.getD (xs.length - 1) 0 ≠ 0:=by rcases hn with hn | hn; omega; exact hn
 have h1:=lval_take_succ (2 ^ s) xs (xs.length - 1) (by omega)
 rw [show xs.length - 1 + 1 = xs.length by omega,List.take_length] at h1
 have h2:=lval_lt (B:=2 ^ s) (xs.take (xs.length - 1)) fun x hx=>h x (List.mem_of_mem_take hx)
 rw [List.length_take,Nat.min_eq_left (by omega)] at h2
 obtain ⟨b1,b2,b3⟩:=blen_pos hlast
 have e1 : (2 ^ s) ^ (xs.length - 1) = 2 ^ (s * (xs.length - 1)):=(Nat.pow_mul ..).symm
 rw [e1] at h1 h2
 have lo : 2 ^ (s * (xs.length - 1) + (blen (xs.getD (xs.length - 1) 0) - 1)) ≤ lval (2 ^ s) xs:=by
  rw [Nat.pow_add,h1]
  have:=Nat.mul_le_mul_left (2 ^ (s * (xs.length - 1))) b1
  omega
 have hi : lval (2 ^ s) xs < 2 ^ (s * (xs.length - 1) + blen (xs.getD (xs.length - 1) 0)):=by
  rw [Nat.pow_add,h1]
  have:=Nat.mul_le_mul_left (2 ^ (s * (xs.length - 1))) (show xs.getD (xs.length - 1) 0 + 1 ≤ _ from b2)
  rw [Nat.mul_add] at this
  omega
 have:=blen_le hi
 have:=blen_ge lo
 omega
theorem low_any (neg : Bool) (s : Value) (N : Nat) (w : World) (h : Num .u64 18446744073709551616 w s N) :
  Calls Tryz.prog 197 #[.agg #[.bool neg,s]] w fun e w'=>e = .returned (.int .u64 (N % 18446744073709551616 : Nat)) ∧ Below w.heap.size w w':=by
 obtain ⟨xs,⟨a,m,c,rfl,hm,hmc,hc,hx,hcell⟩,rfl,hnorm⟩:=h
 have HX : Hid (∀ x ∈ xs,x < 18446744073709551616):=hx
 clear hx
 rw [lval_mod HX.out]
 by_cases h0 : 0 < m
 ·obtain ⟨b,o,rfl,hb,hcc⟩:=hcell h0
  have h1 : w.cell? ⟨b,o,none⟩ = some (.int .u64 (xs.getD 0 0 : Nat)):=hcc 0 h0
  obtain ⟨x,hxe⟩ : ∃ x,x = xs.getD 0 0:=⟨_,rfl⟩
  rw [← hxe] at h1 ⊢
  clear hcell hcc hxe
  go_enter Tryz.func197,Tryz.ntmps197
  go_wp2
  go_ret
  exact ⟨rfl,(Below.refl _ _).alloc (Nat.le_refl _) _⟩
 ·have : xs = []:=List.eq_nil_of_length_eq_zero (by omega)
  subst this
  clear hcell
  go_enter Tryz.func197,Tryz.ntmps197
  go_wp2
  go_ret
  exact ⟨rfl,(Below.refl _ _).alloc (Nat.le_refl _) _⟩
theorem bits_any (neg : Bool) (s : Value) (N : Nat) (w : World) (h : Num .u64 18446744073709551616 w s N) {bb : Nat} (hN : N < 2 ^ bb) (hbb : bb ≤ 4294967296) :
  Calls Tryz.prog 196 #[.agg #[.bool neg,s]] w fun e w'=>e = .returned (.int .i64 (blen N : Nat)) ∧ Below w.heap.size w w':=by
 obtain ⟨xs,⟨a,m,c,rfl,hm,hmc,hc,hx,hcell⟩,rfl,hnorm⟩:=h
 have HX : Hid (∀ x ∈ xs,x < 18446744073709551616):=hx
 clear hx
 by_cases h0 : 0 < m
 ·obtain ⟨b,o,rfl,hb,hcc⟩:=hcell h0
  have h1:=hcc (m - 1) (by omega)
  have h2:=blen_top (s:=64) hnorm HX.out (by omega)
  have h3 : 64 * (m - 1) < bb:=by rw [← hm]; exact norm_length (s:=64) hnorm hN (by omega)
  have hw : W64 (xs.getD (m - 1) 0):=getD_lt (by decide) HX.out _
  rw [hm,show (2 ^ 64 : Nat) = 18446744073709551616 from rfl] at h2
  have hle : blen (xs.getD (m - 1) 0) ≤ 64:=blen_le hw
  rw [h2]
  obtain ⟨x,hxe⟩ : ∃ x,x = xs.getD (m - 1) 0:=⟨_,rfl⟩
  rw [← hxe] at h1 hw hle ⊢
  obtain ⟨l,hl⟩ : ∃ l,l = blen x:=⟨_,rfl⟩
  have HW : Hid (W64 x):=hw
  have HL : Hid (l = blen x):=hl
  rw [← hl] at hle ⊢
  clear hcell hcc hxe h2 hN hw hl
  go_enter Tryz.func196,Tryz.ntmps196
  go_wp2_with (go_at_call 192; refine (len_any x _ HW.out).mono ?_; rw [← HL.out]; rintro e w' ⟨rfl,rfl⟩)
  go_ret
  exact ⟨ret_int (by omega),(Below.refl _ _).alloc (Nat.le_refl _) _⟩
 ·have : xs = []:=List.eq_nil_of_length_eq_zero (by omega)
  subst this
  clear hcell
  go_enter Tryz.func196,Tryz.ntmps196
  go_wp2
  go_ret
  exact ⟨rfl,(Below.refl _ _).alloc (Nat.le_refl _) _⟩
theorem sign_any (neg : Bool) (s : Value) (N : Nat) (w : World) (h : Num .u64 18446744073709551616 w s N) :
  Calls Tryz.prog 178 #[.agg #[.bool neg,s]] w fun e w'=>e = .returned (.int .i64 (if N = 0 then 0 else if neg then -1 else 1)) ∧ Below w.heap.size w w':=by
 obtain ⟨xs,⟨a,m,c,rfl,hm,hmc,hc,hx,hcell⟩,rfl,hnorm⟩:=h
 have hz:=norm_zero (B:=18446744073709551616) hnorm (by decide)
 rw [hm] at hz
 clear hx hcell hc
 by_cases h0 : 0 < m
 ·rw [if_neg (fun h=>by rw [hz] at h; omega)]
  clear hz
  cases neg
  all_goals
   go_enter Tryz.func178,Tryz.ntmps178
   go_wp2
   go_ret
   exact ⟨rfl,(Below.refl _ _).alloc (Nat.le_refl _) _⟩
 ·have : m = 0:=by omega
  rw [if_pos (hz.mpr this)]
  subst this
  clear hz
  go_enter Tryz.func178,Tryz.ntmps178
  go_wp2
  go_ret
  exact ⟨rfl,(Below.refl _ _).alloc (Nat.le_refl _) _⟩
theorem lval_split (B : Nat) (xs : List Nat) (i : Nat) (hi : i < xs.length) : lval B xs = lval B (xs.take i) + B ^ i * (xs.getD i 0 + B * lval B (xs.drop (i + 1))):=by
 conv=>lhs; rw [← List.take_append_drop (i + 1) xs,lval_append]
 rw [lval_take_succ B xs i hi,List.length_take,Nat.min_eq_left (by omega),Nat.mul_add,Nat.pow_succ,Nat.mul_assoc]
 omega
theorem lval_less {B : Nat} {xs ys : List Nat} {i : Nat} (hl : xs.length = ys.length) (hi : i < xs.length) (hx : ∀ x ∈ xs, x < B) (hd : xs.drop (i + 1) = ys.drop (i + 1)) (h : xs.getD i 0 < ys.getD i 0) :
  lval B xs < lval B ys:=by
 rw [lval_split B xs i hi,lval_split B ys i (by omega),hd]
 have h1:=lval_lt (B:=B) (xs.take i) fun x h=>hx x (List.mem_of_mem_take h)
 rw [List.length_take,Nat.min_eq_left (by omega)] at h1
 have h2 : B ^ i * (xs.getD i 0 + 1 + B * lval B (ys.drop (i + 1))) ≤ B ^ i * (ys.getD i 0 + B * lval B (ys.drop (i + 1))):=Nat.mul_le_mul_left _ (by omega)
 rw [show xs.getD i 0 + 1 + B * lval B (ys.drop (i + 1)) = (xs.getD i 0 + B * lval B (ys.drop (i + 1))) + 1 by omega,Nat.mul_add,Nat.mul_one] at h2
 omega
theorem lval_longer {B : Nat} {xs ys : List Nat} (hl : ys.length < xs.length) (hn : Norm xs) (hy : ∀ y ∈ ys,y < B) (hB : 0 < B) : lval B ys < lval B xs:=by
 have h1:=lval_lt (B:=B) ys hy
 have h2:=lval_take_succ B xs (xs.length - 1) (by omega)
 rw [show xs.length - 1 + 1 = xs.length by omega,List.take_length] at h2
 have hlast : xs.getD (xs.length - 1) 0 ≠ 0:=by rcases hn with hn | hn; omega; exact hn
 have h3 : B ^ ys.length ≤ B ^ (xs.length - 1):=Nat.pow_le_pow_right hB (by omega)
 have h4:=Nat.le_mul_of_pos_right (B ^ (xs.length - 1)) (show 0 < xs.getD (xs.length - 1) 0 by omega)
 omega
theorem drop_one {xs ys : List Nat} {i : Nat} (hl : xs.length = ys.length) (hi : i < xs.length) (hd : xs.drop (i + 1) = ys.drop (i + 1)) (h : xs.getD i 0 = ys.getD i 0) : xs.drop i = ys.drop i:=by
 rw [List.drop_eq_getElem_cons hi,List.drop_eq_getElem_cons (by omega : i < ys.length),hd]
 congr 1
 simpa [List.getElem?_eq_getElem hi,List.getElem?_eq_getElem (show i < ys.length by omega)] using h
def CmpQ (M N : Nat) (w : World) (e : Ending) (w' : World) : Prop:=∃ r : Int,e = .returned (.int .i64 r) ∧ (r < 0 ↔ M < N) ∧ (0 < r ↔ N < M) ∧ Below w.heap.size w w'
theorem CmpQ.mk {M N : Nat} {w w' : World} (r : Int) (h1 : r < 0 ↔ M < N) (h2 : 0 < r ↔ N < M) (hb : Below w.heap.size w w') : CmpQ M N w (.returned (.int .i64 r)) w':=⟨r,rfl,h1,h2,hb⟩
theorem compare_any (s t : Value) (M N : Nat) (w : World) (h : Num .u64 18446744073709551616 w s M) (h' : Num .u64 18446744073709551616 w t N) :
  Calls Tryz.prog 215 #[s,t] w (CmpQ M N w):=by
 obtain ⟨xs,⟨a,m,c,rfl,hm,hmc,hc,hx,hcell⟩,rfl,hnorm⟩:=h
 obtain ⟨ys,⟨a',m',c',rfl,hm',hmc',hc',hy,hcell'⟩,rfl,hnorm'⟩:=h'
 have HX : Hid (∀ x ∈ xs,x < 18446744073709551616):=hx
 have HY : Hid (∀ x ∈ ys,x < 18446744073709551616):=hy
 clear hx hy
 by_cases hne : m = m'
 ·subst hne
  clear hmc' hc'
  go_enter Tryz.func215,Tryz.ntmps215
  go_wp2
  go_loopw [5] (fun i wr=>∃ k : Nat,k ≤ m ∧ i = .int .i64 ((k : Int) - 1) ∧ Below w.heap.size w wr ∧ Hid (xs.drop k = ys.drop k)) (fun i _=>(intOf i + 1).toNat)
  case atStart=>
   refine ⟨m,Nat.le_refl _,rfl,Below.refl _ _,?_⟩
   show xs.drop m = ys.drop m
   rw [List.drop_eq_nil_of_le (by omega),List.drop_eq_nil_of_le (by omega)]
  case round=>
   obtain ⟨k,hk,rfl,hbk,hd⟩:=hrel
   by_cases hk0 : k = 0
   ·subst hk0
    have e : xs = ys:=by simpa using hd.out
    go_wp2
    go_ret
    exact CmpQ.mk 0 (by rw [e]; omega) (by rw [e]; omega) hbk
   ·obtain ⟨j,rfl⟩ : ∃ j,k = j + 1:=⟨k - 1,by omega⟩
    obtain ⟨b,o,rfl,hb,hcc⟩:=hcell (by omega)
    obtain ⟨b',o',rfl,hb',hcc'⟩:=hcell' (by omega)
    have h1:=(hbk.cell (p:=⟨b,o + j,none⟩) hb).trans (hcc j (by omega))
    have h2:=(hbk.cell (p:=⟨b',o' + j,none⟩) hb').trans (hcc' j (by omega))
    obtain ⟨x,hxe⟩ : ∃ x,x = xs.getD j 0:=⟨_,rfl⟩
    obtain ⟨y,hye⟩ : ∃ y,y = ys.getD j 0:=⟨_,rfl⟩
    rw [← hxe] at h1
    rw [← hye] at h2
    have HXE : Hid (x = xs.getD j 0):=hxe
    have HYE : Hid (y = ys.getD j 0):=hye
    clear hcc hcc' hcell hcell' hxe hye
    have hlt : (j : Int) < m:=by omega
    rcases Nat.lt_trichotomy x y with hxy | hxy | hxy
    ·have hxy' : (x : Int) < y:=by omega
     go_wp2
     go_region
     go_wp2
     go_ret
     have hl:=lval_less (B:=18446744073709551616) (xs:=xs) (ys:=ys) (i:=j) (by omega) (by omega) HX.out hd.out (by rw [← HXE.out,← HYE.out]; exact hxy)
     exact CmpQ.mk (-1) (by omega) (by omega) hbk.drew
    ·subst hxy
     go_wp2
     go_region
     go_wp2
     go_region
     go_wp2
     go_roundw
     case rel=>exact ⟨j,by omega,by go_num,hbk.drew.drew,drop_one (by omega) (by omega) hd.out (by rw [← HXE.out,← HYE.out])⟩
     case measure=>simp [intOf]
    ·have hxy' : (y : Int) < x:=by omega
     have hxy2 : ¬ (x : Int) < y:=by omega
     go_wp2
     go_region
     go_wp2
     go_region
     go_wp2
     go_ret
     have hl:=lval_less (B:=18446744073709551616) (xs:=ys) (ys:=xs) (i:=j) (by omega) (by omega) HY.out hd.out.symm (by rw [← HXE.out,← HYE.out]; exact hxy)
     exact CmpQ.mk 1 (by omega) (by omega) hbk.drew.drew
 ·go_enter Tryz.func215,Tryz.ntmps215
  go_wp2
  go_ret
  refine CmpQ.mk _ ?_ ?_ (Below.refl _ _)
  ·constructor
   ·intro h
    exact lval_longer (by omega) hnorm' HX.out (by decide)
   ·intro h
    by_cases h2 : m' < m
    ·have:=lval_longer (B:=18446744073709551616) (by omega) hnorm HY.out (by decide); omega
    ·omega
  ·constructor
   ·intro h
    exact lval_longer (by omega) hnorm HY.out (by decide)
   ·intro h
    by_cases h2 : m < m'
    ·have:=lval_longer (B:=18446744073709551616) (by omega) hnorm' HX.out (by decide); omega
    ·omega
def MinusInv (xs ys : List Nat) (k b : Nat) (zs : List Nat) : Prop:=
 zs.length = xs.length ∧ (∀ z ∈ zs,z < 18446744073709551616) ∧ b ≤ 1 ∧
  lval 18446744073709551616 (zs.take k) + lval 18446744073709551616 (ys.take k) = lval 18446744073709551616 (xs.take k) + 18446744073709551616 ^ k * b
theorem lval_take_next (B : Nat) (xs : List Nat) (k : Nat) : lval B (xs.take (k + 1)) = lval B (xs.take k) + B ^ k * xs.getD k 0:=by
 by_cases h : k < xs.length
 ·exact lval_take_succ B xs k h
 ·rw [List.take_of_length_le (by omega),List.take_of_length_le (by omega)]
  simp [List.getElem?_eq_none (show xs.length ≤ k by omega)]
theorem take_set_same (zs : List Nat) (k v : Nat) : (zs.set k v).take k = zs.take k:=by
 apply List.ext_getElem?
 intro i
 simp only [List.getElem?_take]
 split
 ·rw [List.getElem?_set_ne (by omega)]
 ·rfl
theorem minus_step {xs ys zs : List Nat} {k b : Nat} (h : MinusInv xs ys k b zs) (hk : k < xs.length) (hx : ∀ x ∈ xs, x < 18446744073709551616) (hy : ∀ y ∈ ys, y < 18446744073709551616) :
  MinusInv xs ys (k + 1) (if xs.getD k 0 < ys.getD k 0 + b then 1 else 0) (zs.set k ((xs.getD k 0 + 18446744073709551616 - ys.getD k 0 - b) % 18446744073709551616)):=by
 obtain ⟨hl,hB,hb,hv⟩:=h
 have h1:=getD_lt (B:=18446744073709551616) (by decide) hx k
 have h2:=getD_lt (B:=18446744073709551616) (by decide) hy k
 refine ⟨by simp [hl],mem_set_lt hB (Nat.mod_lt _ (by decide)),by split <;> omega,?_⟩
 rw [lval_take_next,lval_take_next,lval_take_next,take_set_same,getD_set_same (by omega)]
 have e : (xs.getD k 0 + 18446744073709551616 - ys.getD k 0 - b) % 18446744073709551616 + ys.getD k 0 + b = xs.getD k 0 + 18446744073709551616 * (if xs.getD k 0 < ys.getD k 0 + b then 1 else 0):=by
  split <;> omega
 have e2:=congrArg (18446744073709551616 ^ k * ·) e
 simp only [Nat.mul_add] at e2
 rw [Nat.pow_succ,Nat.mul_assoc]
 omega
theorem minus_done {xs ys zs : List Nat} {b : Nat} (h : MinusInv xs ys xs.length b zs) (hy : ys.length ≤ xs.length) (hle : lval 18446744073709551616 ys ≤ lval 18446744073709551616 xs) :
  lval 18446744073709551616 zs = lval 18446744073709551616 xs - lval 18446744073709551616 ys:=by
 obtain ⟨hl,hB,hb,hv⟩:=h
 rw [← hl,List.take_length,hl,List.take_length,List.take_of_length_le hy] at hv
 have:=lval_lt zs hB
 rw [hl] at this
 have hb0 : b = 0:=by
  match b,hb with
  | 0,_=>rfl
  | 1,_=>exfalso; rw [Nat.mul_one] at hv; omega
 subst hb0
 omega
def RowQ (n N : Nat) (w : World) (e : Ending) (w' : World) : Prop:=
 ∃ v zs,e = .returned v ∧ Limbs .u64 18446744073709551616 w' v zs ∧ zs.length = n ∧ lval 18446744073709551616 zs = N ∧ Below w.heap.size w w'
theorem minus_any (s t : Value) (xs ys : List Nat) (w : World) (h : Limbs .u64 18446744073709551616 w s xs) (h' : Limbs .u64 18446744073709551616 w t ys) (hlen : ys.length ≤ xs.length) (hmax : xs.length ≤ 134217732)
  (hle : lval 18446744073709551616 ys ≤ lval 18446744073709551616 xs) :
  Calls Tryz.prog 227 #[s,t] w (RowQ xs.length (lval 18446744073709551616 xs - lval 18446744073709551616 ys) w):=by
 obtain ⟨a,m,c,rfl,hm,hmc,hc,hx,hcell⟩:=h
 obtain ⟨a',m',c',rfl,hm',hmc',hc',hy,hcell'⟩:=h'
 have HX : Hid (∀ x ∈ xs,x < 18446744073709551616):=hx
 have HY : Hid (∀ x ∈ ys,x < 18446744073709551616):=hy
 have HLE : Hid (lval 18446744073709551616 ys ≤ lval 18446744073709551616 xs):=hle
 clear hx hy hle
 obtain ⟨N,hN⟩ : ∃ N,N = lval 18446744073709551616 xs - lval 18446744073709551616 ys:=⟨_,rfl⟩
 rw [hm,← hN]
 rw [hm] at hmax hlen
 rw [hm'] at hlen
 have HN : Hid (N = lval 18446744073709551616 xs - lval 18446744073709551616 ys):=hN
 clear hN
 obtain ⟨i0,hi,hz0,hz1,hz2⟩:=info_parts Tryz.infoW
 go_enter Tryz.func227,Tryz.ntmps227
 go_wp2_with (at_make; refine wpList_make_full _ rfl _ _ 39 rfl w.heap.size 22 i0 (.int .u64 0) 1 Tryz.underlying39 hi hz0 hz1 .i64 .i64 _ _ m rfl rfl (by omega) (by omega) (by rw [hz2]; omega) (by unfold maxLen; omega) (by simp) ?_; intro w1 hown hgrow; have hbel : Below w.heap.size w w1:=(Below.refl _ _).grown hgrow (Nat.le_refl _) (by simp))
 have hown' : OwnW .u64 22 w1 w.heap.size m (List.replicate m 0):=OwnW.made (by simpa using hown)
 clear hown hgrow
 go_loopw [6,14] (fun b i wr=>∃ k bb zs,k ≤ m ∧ i = .int .i64 (k : Nat) ∧ b = .int .u64 (bb : Nat) ∧ OwnW .u64 22 wr w.heap.size m zs ∧ Below w.heap.size w wr ∧ MinusInv xs ys k bb zs) (fun _ i _=>m - (intOf i).toNat)
 case atStart=>
  refine ⟨0,0,_,Nat.zero_le _,rfl,rfl,hown',hbel,by simp [hm],?_,by omega,?_⟩
  ·intro z hz
   simp at hz
   omega
  ·simp [lval]
 case round=>
  obtain ⟨k,bb,zs,hk,rfl,rfl,hownk,hbk,hinv⟩:=hrel
  have HI : Hid (MinusInv xs ys k bb zs):=hinv
  have HO : Hid (OwnW .u64 22 wr w.heap.size m zs):=hownk
  clear hown' hbel
  by_cases hkm : k < m
  ·obtain ⟨b,o,rfl,hb,hcc⟩:=hcell (by omega)
   have hx1:=(hbk.cell (p:=⟨b,o + k,none⟩) hb).trans (hcc k hkm)
   have hc1:=hownk.cell hkm
   have hf1:=hownk.frozen k
   have hbb : bb ≤ 1:=hinv.2.2.1
   have hst:=minus_step hinv (by omega) HX.out HY.out
   have hxk:=getD_lt (B:=18446744073709551616) (by decide) HX.out k
   have hyk:=getD_lt (B:=18446744073709551616) (by decide) HY.out k
   obtain ⟨x,hxe⟩ : ∃ x,x = xs.getD k 0:=⟨_,rfl⟩
   obtain ⟨y,hye⟩ : ∃ y,y = ys.getD k 0:=⟨_,rfl⟩
   rw [← hxe] at hx1 hst hxk
   rw [← hye] at hst hyk
   have hsub:=fun w=>sub64_run x y bb hbb w
   obtain ⟨d,hd⟩ : ∃ d,d = (x + 18446744073709551616 - y - bb) % 18446744073709551616:=⟨_,rfl⟩
   obtain ⟨b2,hb2⟩ : ∃ b2,b2 = if x < y + bb then 1 else 0:=⟨_,rfl⟩
   rw [← hd,← hb2] at hst
   simp only [← hd,← hb2] at hsub
   have HS : Hid (MinusInv xs ys (k + 1) b2 (zs.set k d)):=hst
   have HYE : Hid (y = ys.getD k 0):=hye
   clear hinv hownk hst hxe hd hb2 hye hxk hyk hbb hcell hcc
   by_cases hk' : k < m'
   ·obtain ⟨b',o',rfl,hb',hcc'⟩:=hcell' (by omega)
    have hy1:=(hbk.cell (p:=⟨b',o' + k,none⟩) hb').trans (hcc' k hk')
    rw [← HYE.out] at hy1
    clear hcell' hcc'
    go_wp2
    go_roundw
    case rel=>exact ⟨k + 1,b2,_,by omega,by go_num,rfl,HO.out.set k d,hbk.setCell (Nat.le_refl _) _,HS.out⟩
    case measure=>simp [intOf]; omega
   ·have hy0 : y = 0:=by rw [HYE.out]; simp [List.getElem?_eq_none (show ys.length ≤ k by omega)]
    subst hy0
    simp only [show ((0 : Nat) : Int) = 0 from rfl] at hsub
    clear hcell'
    go_wp2
    go_roundw
    case rel=>exact ⟨k + 1,b2,_,by omega,by go_num,rfl,HO.out.set k d,hbk.setCell (Nat.le_refl _) _,HS.out⟩
    case measure=>simp [intOf]; omega
  ·have hkm' : k = m:=by omega
   subst hkm'
   clear hinv hownk
   go_wp2
   go_ret
   have hi2:=HI.out
   rw [← hm] at hi2
   exact ⟨_,zs,rfl,HO.out.limbs (by omega) hi2.2.1,by rw [hi2.1,hm],by rw [HN.out]; exact minus_done hi2 (by omega) HLE.out,hbk⟩
theorem add64_run0 (x y : Nat) (w : World) :
  (callFunc 159 #[.int .u64 x,.int .u64 y,.int .u64 0]).run Tryz.prog w =
   .ok (.value (.tuple #[.int .u64 (((x + y) % 18446744073709551616 : Nat) : Int),.int .u64 (((x + y) / 18446744073709551616 : Nat) : Int)])) w:=add64_run x y 0 (by decide) w
theorem mul_any (na nb : Bool) (s t : Value) (M N : Nat) (w : World) (h : Num .u64 18446744073709551616 w s M) (h' : Num .u64 18446744073709551616 w t N) {bb : Nat} (hM : M < 2 ^ bb) (hN : N < 2 ^ bb) (hbb : bb ≤ 4294967296) :
  Calls Tryz.prog 106 #[.agg #[.bool na,s],.agg #[.bool nb,t]] w (WideQ ((na != nb) && M * N != 0) (M * N) w):=by
 obtain ⟨xs,hL,rfl,hnorm⟩:=h
 obtain ⟨ys,hL',rfl,hnorm'⟩:=h'
 obtain ⟨a,m,c,rfl,hm,hmc,hc,hx,hcell⟩:=hL
 obtain ⟨a',m',c',rfl,hm',hmc',hc',hy,hcell'⟩:=hL'
 have hml : m ≤ 67108865:=by
  by_cases h0 : 0 < m
  ·have:=norm_length (s:=64) hnorm hM (by omega)
   rw [hm] at this
   omega
  ·omega
 have hml' : m' ≤ 67108865:=by
  by_cases h0 : 0 < m'
  ·have:=norm_length (s:=64) hnorm' hN (by omega)
   rw [hm'] at this
   omega
  ·omega
 have HX : Hid (∀ x ∈ xs,x < 18446744073709551616):=hx
 have HY : Hid (∀ x ∈ ys,x < 18446744073709551616):=hy
 clear hx hy hM hN hbb hmc hmc' hc hc' hnorm hnorm'
 obtain ⟨i0,hi,hz0,hz1,hz2⟩:=info_parts Tryz.infoW
 go_enter Tryz.func106,Tryz.ntmps106
 go_wp2_with (at_make; refine wpList_make_full _ rfl _ _ 39 rfl (w.heap.size + 3) 22 i0 (.int .u64 0) 1 Tryz.underlying39 hi hz0 hz1 .i64 .i64 _ _ (m + m') rfl rfl (by omega) (by omega) (by rw [hz2]; omega) (by unfold maxLen; omega) (by simp) ?_; intro w1 hown hgrow; have hbel : Below (w.heap.size + 3) _ w1:=(Below.refl _ _).grown hgrow (by simp) (by simp); obtain ⟨x0,x1,x2,x3,-,-⟩:=row2 (hbel.blk (heap_alloc3_0 w _ _ _) (by omega)); obtain ⟨y0,y1,y2,y3,-,-⟩:=row2 (hbel.blk (heap_alloc3_1 w _ _ _) (by omega)))
 have hown' : OwnW .u64 22 w1 (w.heap.size + 3) (m + m') (List.replicate (m + m') 0):=OwnW.made (by simpa using hown)
 clear hown hgrow
 go_loopw [25] (fun i wr=>∃ k zs,k ≤ m ∧ i = .int .i64 (k : Nat) ∧ OwnW .u64 22 wr (w.heap.size + 3) (m + m') zs ∧ Below (w.heap.size + 3) w1 wr ∧ MulInv 18446744073709551616 xs ys k zs) (fun i _=>m - (intOf i).toNat)
 case atStart=>
  refine ⟨0,_,Nat.zero_le _,rfl,hown',Below.refl _ _,by simp [hm,hm'],?_,?_,?_⟩
  ·intro z hz
   simp at hz
   omega
  ·simp [lval,lval_zeros]
  ·intro t _
   simp only [List.getD_eq_getElem?_getD,List.getElem?_replicate]
   split <;> rfl
 case round=>
  obtain ⟨k,zs,hk,rfl,hownk,hbk,hinv⟩:=hrel
  have HI : Hid (MulInv 18446744073709551616 xs ys k zs):=hinv
  have HO : Hid (OwnW .u64 22 wr (w.heap.size + 3) (m + m') zs):=hownk
  have HB : Hid (Below (w.heap.size + 3) w1 wr):=hbk
  clear hown' hinv hownk
  have hbw : ∀ b o v,b < w.heap.size → w.cell? ⟨b,o,none⟩ = some v → w1.cell? ⟨b,o,none⟩ = some v:=fun b o v hb h=>by
   rw [hbel.cell (by show b < _; omega),World.cell?_alloc_past _ _ _ (by simp; omega),World.cell?_alloc_past _ _ _ (by simp; omega),World.cell?_alloc_past _ _ _ hb]
   exact h
  have HW : Hid (∀ b o v,b < w.heap.size → w.cell? ⟨b,o,none⟩ = some v → w1.cell? ⟨b,o,none⟩ = some v):=hbw
  have HB0 : Hid (w1.heap[w.heap.size + 1]? = some (.cells #[.bool nb,.slice a' m' c'] 123 (0,0))):=hbel.blk (heap_alloc3_1 w _ _ _) (by omega)
  obtain ⟨f0,f1,f2,f3,-,-⟩:=row2 (hbk.blk (hbel.blk (heap_alloc3_1 w _ _ _) (by omega)) (by omega))
  by_cases hkm : k < m
  ·obtain ⟨b,o,rfl,hb,hcc⟩:=hcell (by omega)
   have hx1:=(hbk.cell (p:=⟨b,o + k,none⟩) (by show b < _; omega)).trans (hbw _ _ _ hb (hcc k hkm))
   obtain ⟨x,hxe⟩ : ∃ x,x = xs.getD k 0:=⟨_,rfl⟩
   rw [← hxe] at hx1
   have HXE : Hid (x = xs.getD k 0):=hxe
   clear hxe hcell hcc hbel hbk hbw
   go_wp2
   go_loopw [8,33] (fun c j wq=>∃ l cc us,l ≤ m' ∧ j = .int .i64 (l : Nat) ∧ c = .int .u64 (cc : Nat) ∧ OwnW .u64 22 wq (w.heap.size + 3) (m + m') us ∧ Below (w.heap.size + 3) w1 wq ∧ MulIn 18446744073709551616 xs ys k l cc us) (fun _ j _=>m' - (intOf j).toNat)
   case atStart=>exact ⟨0,0,zs,Nat.zero_le _,rfl,rfl,HO.out,HB.out,mul_start HI.out (by decide)⟩
   case round=>
    obtain ⟨l,cc,us,hl,rfl,rfl,hownl,hbl,hin⟩:=hrel
    have HI2 : Hid (MulIn 18446744073709551616 xs ys k l cc us):=hin
    have HO2 : Hid (OwnW .u64 22 wr (w.heap.size + 3) (m + m') us):=hownl
    have HB2 : Hid (Below (w.heap.size + 3) w1 wr):=hbl
    obtain ⟨g0,g1,g2,g3,-,-⟩:=row2 (hbl.blk HB0.out (by omega))
    by_cases hlm : l < m'
    ·obtain ⟨b',o',rfl,hb',hcc'⟩:=hcell' (by omega)
     have hy1:=(hbl.cell (p:=⟨b',o' + l,none⟩) (by show b' < _; omega)).trans (HW.out _ _ _ hb' (hcc' l hlm))
     have hc1:=hownl.cell (j:=k + l) (by omega)
     have hf1:=hownl.frozen (k + l)
     have hxb : x < 18446744073709551616:=by rw [HXE.out]; exact getD_lt (by decide) HX.out k
     have hyb:=getD_lt (B:=18446744073709551616) (by decide) HY.out l
     have hzb:=getD_lt (B:=18446744073709551616) (by decide) hin.2.1 (k + l)
     have hcb:=hin.2.2.1
     obtain ⟨m1,m2,m3⟩:=mul_words hxb hyb hcb hzb
     have hst:=fun v c' hv hc he=>mul_in hin (by omega) (by omega) (v:=v) (c':=c') hv hc he
     obtain ⟨y,hye⟩ : ∃ y,y = ys.getD l 0:=⟨_,rfl⟩
     obtain ⟨z,hze⟩ : ∃ z,z = us.getD (k + l) 0:=⟨_,rfl⟩
     rw [← hye] at hy1 hyb m1 m2 m3
     rw [← hze] at hc1 hzb m2 m3
     have hmul:=mul64_any x y
     have ha1:=add64_run0 (x * y % 18446744073709551616) cc
     have ha2:=add64_run0 z ((x * y % 18446744073709551616 + cc) % 18446744073709551616)
     obtain ⟨h0,e0⟩ : ∃ h0,h0 = x * y / 18446744073709551616:=⟨_,rfl⟩
     obtain ⟨l0,e1⟩ : ∃ l0,l0 = x * y % 18446744073709551616:=⟨_,rfl⟩
     rw [← e0,← e1] at m1 m2 m3
     rw [← e1] at ha1 ha2
     obtain ⟨l1,e2⟩ : ∃ l1,l1 = (l0 + cc) % 18446744073709551616:=⟨_,rfl⟩
     obtain ⟨c1,e3⟩ : ∃ c1,c1 = (l0 + cc) / 18446744073709551616:=⟨_,rfl⟩
     rw [← e2] at m2 m3 ha2
     rw [← e3] at m1 m2 m3
     obtain ⟨v,e4⟩ : ∃ v,v = (z + l1) % 18446744073709551616:=⟨_,rfl⟩
     obtain ⟨c2,e5⟩ : ∃ c2,c2 = (z + l1) / 18446744073709551616:=⟨_,rfl⟩
     rw [← e5] at m2 m3
     rw [← e4] at m3
     simp only [← e2,← e3] at ha1
     simp only [← e4,← e5] at ha2
     have hw1 : IntKind.u64.wrap ((h0 : Int) + c1) = ((h0 + c1 : Nat) : Int):=by rw [IntKind.wrap_u64]; omega
     have hw2 : IntKind.u64.wrap (((h0 + c1 : Nat) : Int) + c2) = ((h0 + c1 + c2 : Nat) : Int):=by rw [IntKind.wrap_u64]; omega
     have HS : Hid (MulIn 18446744073709551616 xs ys k (l + 1) (h0 + c1 + c2) (us.set (k + l) v)):=
      hst _ _ (by rw [e4]; exact Nat.mod_lt _ (by decide)) m2 (by rw [m3,← HXE.out,← hye,← hze])
     obtain ⟨h1,e6⟩ : ∃ h1,h1 = h0 + c1:=⟨_,rfl⟩
     rw [← e6] at hw1 hw2 HS
     obtain ⟨h2,e7⟩ : ∃ h2,h2 = h1 + c2:=⟨_,rfl⟩
     rw [← e7] at hw2 HS
     have HM : Hid (∀ w,Calls Tryz.prog 158 #[.int .u64 x,.int .u64 y] w fun e w'=>e = .returned (.tuple #[.int .u64 (h0 : Nat),.int .u64 (l0 : Nat)]) ∧ w = w'):=by
      intro w
      have:=hmul w hxb hyb
      rw [← e0,← e1] at this
      exact this
     clear hmul hst m1 m2 m3 e0 e1 e2 e3 e4 e5 e6 e7 hye hze hxb hyb hzb hcb hin hownl hcell' hcc' hbl
     go_wp2_with (go_at_call 158; refine (HM.out _).mono ?_; rintro e w' ⟨rfl,rfl⟩)
     go_roundw
     case rel=>exact ⟨l + 1,h2,_,by omega,by go_num,rfl,HO2.out.set (k + l) v,HB2.out.setCell (by simp) _,HS.out⟩
     case measure=>simp [intOf]; omega
    ·have hlm' : l = m':=by omega
     subst hlm'
     have hc1:=hownl.cell (j:=k + l) (by omega)
     have hf1:=hownl.frozen (k + l)
     clear hin hownl hbl hcell'
     go_wp2
     go_roundw
     case rel=>
      have hi2:=HI2.out
      rw [← hm'] at hi2
      have:=mul_out hi2 (by omega)
      rw [hm'] at this
      exact ⟨k + 1,_,by omega,by go_num,HO2.out.set (k + l) cc,HB2.out.setCell (by simp) _,this⟩
     case measure=>simp [intOf]; omega
  ·have hkm' : k = m:=by omega
   subst hkm'
   obtain ⟨z0,z1,z2,z3,-,-⟩:=row2 (hbk.blk (hbel.blk (heap_alloc3_0 w _ _ _) (by omega)) (by omega))
   have hR:=hbk.blk (hbel.blk (heap_alloc3_2 w _ _ _) (by omega)) (by omega)
   have hi2:=HI.out
   have hlimb:=HO.out.limbs (B:=18446744073709551616) (by omega) hi2.2.1
   have hys : lval 18446744073709551616 zs = lval 18446744073709551616 xs * lval 18446744073709551616 ys:=by
    rw [← hm] at hi2
    exact mul_done hi2
   have M:=fun b=>made_any b _ _ _ hlimb
   rw [hys] at M
   have hw : w.heap.size + 3 ≤ wr.heap.size:=by have:=hbk.size; have:=hbel.size; simp at this; omega
   clear hlimb hys hi2 hbw hcell hcell'
   cases na
   all_goals cases nb
   all_goals
    go_wp2_with fail
    refine Calls.mono (M _) ?_
    rintro e w' ⟨v,rfl,⟨s,rfl,hnum,hneg⟩,hb⟩
    obtain ⟨sa,sn,sc,rfl⟩:=hnum.shape
    have hres:=hb.blk hR (by omega)
    obtain ⟨f0,f1,c0,c1,f2,c2⟩:=row2 hres
    have HN : Hid (_ = true → _ ≠ 0):=hneg
    clear hneg
    go_wp2
    refine wide_end (p:=4) rfl rfl hres hnum ?_ (by omega) HN.out
    exact ((((Below.refl _ _).alloc (Nat.le_refl _) _).alloc (by simp) _).alloc (by simp; omega) _).trans ((hbel.mono (by omega)).trans ((hbk.mono (by omega)).trans (hb.mono (by omega))))
def PowInv (S G : Nat) (w : World) (N n p : Nat) (wr : World) : Prop:=
 ∃ u v a m c a' m' c',wr.heap[S]? = some (.cells #[.bool false,.slice a m c] 123 (0,0)) ∧ Num .u64 18446744073709551616 wr (.slice a m c) (N ^ v) ∧
  wr.heap[G]? = some (.cells #[.bool false,.slice a' m' c'] 123 (0,0)) ∧ Num .u64 18446744073709551616 wr (.slice a' m' c') (N ^ u) ∧
  wr.heap[S + 1]? = some (.cells #[.bool false,.slice none 0 0] 123 (0,0)) ∧ Below S w wr ∧ u + v * p = n ∧ S + 1 < G
theorem row2_other {w : World} {g k : Nat} {x : Option Obj} (h : w.heap[k]? = x) (hk : k ≠ g) (u v : Value) : ((w.setCell ⟨g,0,none⟩ u).setCell ⟨g,1,none⟩ v).heap[k]? = x:=by
 rw [heap_setCell_other _ _ _ _ (by exact hk),heap_setCell_other _ _ _ _ (by exact hk)]
 exact h
theorem below_row {B g : Nat} {a w : World} (h : Below B a w) (hg : B ≤ g) (u v : Value) : Below B a ((w.setCell ⟨g,0,none⟩ u).setCell ⟨g,1,none⟩ v):=(h.setCell (by exact hg) _).setCell (by exact hg) _
theorem ipow_any (s : Value) (N n : Nat) (w : World) (h : Num .u64 18446744073709551616 w s N) {bb : Nat} (hbd : ∀ i, i ≤ n → N ^ i < 2 ^ bb) (hbb : bb ≤ 4294967296) (hn : n ≤ 4294967296) :
  Calls Tryz.prog 145 #[.agg #[.bool false,s],.int .i64 (n : Nat)] w (WideQ false (N ^ n) w):=by
 obtain ⟨a,m,c,rfl⟩:=h.shape
 have HB : Hid (∀ i,i ≤ n → N ^ i < 2 ^ bb):=hbd
 clear hbd
 go_enter Tryz.func145,Tryz.ntmps145
 go_wp2_with fail
 refine (word_any 1 _ (by decide)).mono ?_
 rintro e w1 ⟨v,rfl,⟨s,rfl,hnum,hneg⟩,hb⟩
 clear hneg
 obtain ⟨sa,sn,sc,rfl⟩:=hnum.shape
 have hsz : w.heap.size + 2 ≤ w1.heap.size:=by have:=hb.size; simpa using this
 have b0:=hb.blk (heap_alloc2_old w _ _) (by simp; omega)
 have b1:=hb.blk (heap_alloc2_new w _ _) (by simp)
 have hst : PowInv w.heap.size w1.heap.size w N n n (w1.alloc (.cells #[.bool false,.slice sa sn sc] 123)):=by
  have hbw : Below w.heap.size w w1:=(((Below.refl _ _).alloc (Nat.le_refl _) _).alloc (by simp) _).trans (hb.mono (by simp; omega))
  have hb2 : Below w1.heap.size w1 (w1.alloc (.cells #[.bool false,.slice sa sn sc] 123)):=(Below.refl _ _).alloc (Nat.le_refl _) _
  exact ⟨0,1,_,_,_,_,_,_,(hb2.blk b0 (by omega)),by rw [Nat.pow_one]; exact (h.below (Nat.le_refl _) hbw).below (Nat.le_refl _) hb2,
   heap_alloc_new w1 _,by simpa [lval] using hnum.below (Nat.le_refl _) hb2,hb2.blk b1 (by omega),hbw.trans (hb2.mono (by omega)),by omega,by omega⟩
 have HST : Hid (PowInv w.heap.size w1.heap.size w N n n (w1.alloc (.cells #[.bool false,.slice sa sn sc] 123))):=hst
 have HG : Hid (w.heap.size + 2 ≤ w1.heap.size):=hsz
 clear hst hnum hb b0 b1 hsz
 go_wp2
 go_loopw [1] (fun i wr=>∃ p,p ≤ n ∧ i = .int .i64 (p : Nat) ∧ PowInv w.heap.size w1.heap.size w N n p wr) (fun i _=>(intOf i).toNat)
 case atStart=>exact ⟨n,Nat.le_refl _,rfl,HST.out⟩
 case round=>
  obtain ⟨p,hp,rfl,hinv⟩:=hrel
  obtain ⟨u,v,xa,xm,xc,oa,om,oc,hX,hXN,hO,hON,hR,hbel,hsum,hSG⟩:=hinv
  clear HST
  have HXN : Hid (Num .u64 18446744073709551616 wr (.slice xa xm xc) (N ^ v)):=hXN
  have HON : Hid (Num .u64 18446744073709551616 wr (.slice oa om oc) (N ^ u)):=hON
  obtain ⟨x0,x1,x2,x3,x4,x5⟩:=row2 hX
  obtain ⟨o0,o1,o2,o3,o4,o5⟩:=row2 hO
  obtain ⟨r0,r1,r2,r3,r4,r5⟩:=row2 hR
  have HX : Hid _:=hX
  have HO : Hid _:=hO
  have HR : Hid _:=hR
  clear hXN hON hX hO hR
  by_cases hp0 : p = 0
  ·subst hp0
   go_wp2
   exact wide_end (p:=4) rfl rfl HR.out (by have:=HON.out; rwa [show u = n by simpa using hsum] at this) hbel (by omega) (by simp)
  ·have hpI : (0 : Int) < p:=by omega
   have hup : u ≤ n ∧ v ≤ n:=by
    have : v ≤ v * p:=Nat.le_mul_of_pos_right _ (by omega)
    omega
   have hgX:=(Array.getElem?_eq_some_iff.mp HX.out).1
   have hgO:=(Array.getElem?_eq_some_iff.mp HO.out).1
   have hgR:=(Array.getElem?_eq_some_iff.mp HR.out).1
   by_cases hodd : p % 2 = 1
   ·have ho : (p : Int) % 2 = 1:=by omega
    go_wp2_with fail
    refine (mul_any false false _ _ _ _ _ HON.out HXN.out (HB.out _ hup.1) (HB.out _ hup.2) hbb).mono ?_
    rintro e w2 ⟨v',rfl,⟨s,rfl,hnum,-⟩,hb⟩
    obtain ⟨sa,sn,sc,rfl⟩:=hnum.shape
    have hX2:=hb.blk HX.out hgX
    have hO2:=hb.blk HO.out hgO
    have hR2:=hb.blk HR.out hgR
    obtain ⟨q0,q1,q2,q3,q4,q5⟩:=row2 hO2
    have hN2:=hnum.row hO2 false (.slice sa sn sc)
    have hNX2:=(HXN.out.below (Nat.le_refl _) hb).row hO2 false (.slice sa sn sc)
    have hX3:=row2_other (g:=w1.heap.size) hX2 (by omega) (.bool false) (.slice sa sn sc)
    have hO3:=row2_set hO2 (.bool false) (.slice sa sn sc)
    have hR3:=row2_other (g:=w1.heap.size) hR2 (by omega) (.bool false) (.slice sa sn sc)
    have hb3:=below_row (hbel.trans (hb.mono (Nat.le_of_lt hgX))) (g:=w1.heap.size) (by omega) (.bool false) (.slice sa sn sc)
    have HN2 : Hid (Num .u64 18446744073709551616 _ _ _):=hN2
    have HNX2 : Hid (Num .u64 18446744073709551616 _ _ _):=hNX2
    have HX3 : Hid _:=hX3
    have HO3 : Hid _:=hO3
    have HR3 : Hid _:=hR3
    obtain ⟨t0,t1,t2,t3,t4,t5⟩:=row2 hX3
    clear hN2 hNX2 hX3 hO3 hR3 hX2 hO2 hR2 hnum hb hbel x0 x1 x2 x3 x4 x5 o0 o1 o2 o3 o4 o5 r0 r1 r2 r3 r4 r5
    by_cases hp1 : p = 1
    ·subst hp1
     go_wp2
     go_roundw
     case rel=>
      refine ⟨0,by omega,by simp,u + v,v,_,_,_,_,_,_,HX3.out,HNX2.out,HO3.out,by rw [Nat.pow_add]; exact HN2.out,HR3.out,hb3,by omega,hSG⟩
     case measure=>simp [intOf]
    ·have hp1' : (1 : Int) < p:=by omega
     have hlt : ∀ {w : World} {g x},w.heap[g]? = some x → g < w.heap.size:=fun h=>(Array.getElem?_eq_some_iff.mp h).1
     go_wp2_with fail
     refine (mul_any false false _ _ _ _ _ HNX2.out HNX2.out (HB.out _ hup.2) (HB.out _ hup.2) hbb).mono ?_
     rintro e w3 ⟨v',rfl,⟨s,rfl,hnum,-⟩,hb⟩
     obtain ⟨da,dn,dc,rfl⟩:=hnum.shape
     have hX2:=hb.blk HX3.out (hlt HX3.out)
     have hO2:=hb.blk HO3.out (hlt HO3.out)
     have hR2:=hb.blk HR3.out (hlt HR3.out)
     have hX4 : Hid _:=row2_set hX2 (.bool false) (.slice da dn dc)
     have hO4 : Hid _:=row2_other (g:=w.heap.size) hO2 (by omega) (.bool false) (.slice da dn dc)
     have hR4 : Hid _:=row2_other (g:=w.heap.size) hR2 (by omega) (.bool false) (.slice da dn dc)
     have hNX4 : Hid _:=hnum.row hX2 false (.slice da dn dc)
     have hNO4 : Hid _:=(Num.below HN2.out (Nat.le_refl _) hb).row hX2 false (.slice da dn dc)
     have hb4 : Hid _:=below_row (hb3.trans (hb.mono (Nat.le_of_lt (hlt HX3.out)))) (g:=w.heap.size) (Nat.le_refl _) (.bool false) (.slice da dn dc)
     obtain ⟨q0,q1,q2,q3,q4,q5⟩:=row2 hX2
     clear hnum hb hX2 hO2 hR2
     go_wp2
     go_roundw
     case rel=>
      refine ⟨p / 2,by omega,by go_num,u + v,v + v,_,_,_,_,_,_,hX4.out,by rw [Nat.pow_add]; exact hNX4.out,hO4.out,by rw [Nat.pow_add]; exact hNO4.out,hR4.out,hb4.out,?_,hSG⟩
      have e : v * p = v * (p % 2) + v * (2 * (p / 2)):=by rw [← Nat.mul_add]; congr 1; omega
      rw [hodd,Nat.mul_one] at e
      rw [Nat.add_mul,show v * (2 * (p / 2)) = v * (p / 2) + v * (p / 2) by rw [Nat.two_mul,Nat.mul_add]] at *
      omega
     case measure=>simp [intOf]; omega
   ·have ho : (p : Int) % 2 = 0:=by omega
    have hp1' : (1 : Int) < p:=by omega
    clear hgX hgO hgR
    have hlt : ∀ {w : World} {g x},w.heap[g]? = some x → g < w.heap.size:=fun h=>(Array.getElem?_eq_some_iff.mp h).1
    go_wp2_with fail
    refine (mul_any false false _ _ _ _ _ HXN.out HXN.out (HB.out _ hup.2) (HB.out _ hup.2) hbb).mono ?_
    rintro e w3 ⟨v',rfl,⟨s,rfl,hnum,-⟩,hb⟩
    obtain ⟨da,dn,dc,rfl⟩:=hnum.shape
    have hX2:=hb.blk HX.out (hlt HX.out)
    have hO2:=hb.blk HO.out (hlt HO.out)
    have hR2:=hb.blk HR.out (hlt HR.out)
    have hX4 : Hid _:=row2_set hX2 (.bool false) (.slice da dn dc)
    have hO4 : Hid _:=row2_other (g:=w.heap.size) hO2 (by omega) (.bool false) (.slice da dn dc)
    have hR4 : Hid _:=row2_other (g:=w.heap.size) hR2 (by omega) (.bool false) (.slice da dn dc)
    have hNX4 : Hid _:=hnum.row hX2 false (.slice da dn dc)
    have hNO4 : Hid _:=(Num.below HON.out (Nat.le_refl _) hb).row hX2 false (.slice da dn dc)
    have hb4 : Hid _:=below_row (hbel.trans (hb.mono (Nat.le_of_lt (hlt HX.out)))) (g:=w.heap.size) (Nat.le_refl _) (.bool false) (.slice da dn dc)
    obtain ⟨q0,q1,q2,q3,q4,q5⟩:=row2 hX2
    clear hnum hb hX2 hO2 hR2
    go_wp2
    go_roundw
    case rel=>
     refine ⟨p / 2,by omega,by go_num,u,v + v,_,_,_,_,_,_,hX4.out,by rw [Nat.pow_add]; exact hNX4.out,hO4.out,hNO4.out,hR4.out,hb4.out,?_,hSG⟩
     have e : v * p = v * (p % 2) + v * (2 * (p / 2)):=by rw [← Nat.mul_add]; congr 1; omega
     rw [show p % 2 = 0 by omega,Nat.mul_zero,Nat.zero_add] at e
     rw [Nat.add_mul,show v * (2 * (p / 2)) = v * (p / 2) + v * (p / 2) by rw [Nat.two_mul,Nat.mul_add]] at *
     omega
    case measure=>simp [intOf]; omega
theorem wpower_any (N n : Nat) (w : World) (hN : N < 18446744073709551616) {bb : Nat} (hbd : ∀ i, i ≤ n → N ^ i < 2 ^ bb) (hbb : bb ≤ 4294967296) (hn : n ≤ 4294967296) :
  Calls Tryz.prog 99 #[.int .u64 (N : Nat),.int .i64 (n : Nat)] w (WideQ false (N ^ n) w):=by
 have HN : Hid (N < 18446744073709551616):=hN
 have HB : Hid (∀ i,i ≤ n → N ^ i < 2 ^ bb):=hbd
 clear hbd hN
 go_enter Tryz.func99,Tryz.ntmps99
 go_wp2_with fail
 refine (word_any N _ HN.out).mono ?_
 rintro e w1 ⟨v,rfl,⟨s,rfl,hnum,-⟩,hb⟩
 have h1:=hb.blk (heap_alloc_new w _) (by simp)
 go_wp2_with fail
 refine (ipow_any _ N n _ hnum HB.out hbb hn).mono ?_
 rintro e w2 ⟨v,rfl,⟨s,rfl,hnum2,-⟩,hb2⟩
 obtain ⟨da,dn,dc,rfl⟩:=hnum2.shape
 have h2:=hb2.blk h1 (by have:=hb.size; simp at this; omega)
 obtain ⟨q0,q1,q2,q3,q4,q5⟩:=row2 h2
 go_wp2
 exact wide_end (p:=4) rfl rfl h2 hnum2 (((Below.refl _ _).alloc (Nat.le_refl _) _).trans ((hb.mono (by simp)).trans (hb2.mono (by have:=hb.size; simp at this; omega)))) (Nat.le_refl _) (by simp)
end Go.Proofs.YtlbokicainimnaaGreatDoor
