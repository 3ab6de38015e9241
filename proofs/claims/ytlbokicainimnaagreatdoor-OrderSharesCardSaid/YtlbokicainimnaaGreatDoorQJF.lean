import Derived.Test.YtlbokicainimnaaGreatDoorQRR
import Derived.Test.YtlbokicainimnaaGreatDoorQRG
namespace Go.Proofs.YtlbokicainimnaaGreatDoor
open Go Go.RowKit Go.Lib
def InO (P : List Nat) : Prop:=P.Pairwise (fun x y=>keyB x ≤ keyB y)
def leK (x y : Nat) : Bool:=decide (keyB x ≤ keyB y)
def ordL (l : List Nat) : List Nat:=(l.map oneB).mergeSort leK
theorem ordL_perm (l : List Nat) : (ordL l).Perm (l.map oneB):=List.mergeSort_perm _ _
theorem ordL_len (l : List Nat) : (ordL l).length = l.length:=by rw [(ordL_perm l).length_eq,List.length_map]
theorem ordL_ord (l : List Nat) : InO (ordL l):=by
 have h:=List.pairwise_mergeSort (le:=leK) (fun a b c h1 h2=>by unfold leK at *; simp at *; omega) (fun a b=>by unfold leK; simp; omega) (l.map oneB)
 exact h.imp (fun h=>of_decide_eq_true h)
def Oned (x : Nat) : Prop:=W64 x ∧ (nanB x = true → x = theNaN)
theorem oned_one {x : Nat} (h : W64 x) : Oned (oneB x):=by
 unfold oneB
 split
 ·exact ⟨by unfold W64 theNaN; decide,fun _=>rfl⟩
 ·rename_i g; exact ⟨h,fun k=>absurd k g⟩
theorem oned_map {l : List Nat} (h : ∀ x ∈ l,W64 x) : ∀ x ∈ l.map oneB,Oned x:=by
 intro x hx
 obtain ⟨y,hy,rfl⟩:=List.mem_map.1 hx
 exact oned_one (h y hy)
theorem ordL_oned {l : List Nat} (h : ∀ x ∈ l,W64 x) : ∀ x ∈ ordL l,Oned x:=fun x hx=>oned_map h x ((ordL_perm l).mem_iff.1 hx)
theorem ord_one {P Q : List Nat} (hp : P.Perm Q) (h1 : InO P) (h2 : InO Q) (ho : ∀ x ∈ P,Oned x) : P = Q:=by
 refine hp.eq_of_pairwise (le:=fun x y=>keyB x ≤ keyB y) (fun a b ha hb g1 g2=>?_) h1 h2
 have oa:=ho a ha
 have ob:=ho b (hp.mem_iff.2 hb)
 exact key_inj a b oa.1 ob.1 oa.2 ob.2 (Int.le_antisymm g1 g2)
theorem ordL_one {P l : List Nat} (hp : P.Perm (l.map oneB)) (h1 : InO P) (hw : ∀ x ∈ l,W64 x) : P = ordL l:=
 ord_one (hp.trans (ordL_perm l).symm) h1 (ordL_ord l) (fun x hx=>oned_map hw x (hp.mem_iff.1 hx))
def ShA (P zs : List Nat) (k : Nat) : Prop:=k ≤ P.length ∧ zs.length = P.length + 1 ∧ zs.take k = P.take k ∧ zs.drop (k + 1) = P.drop k
theorem sh_start (P : List Nat) (b : Nat) : ShA P (P ++ [b]) P.length:=by
 refine ⟨Nat.le_refl _,by simp,by simp,?_⟩
 rw [List.drop_eq_nil_of_le (by simp),List.drop_eq_nil_of_le (Nat.le_refl _)]
theorem sh_get {P zs : List Nat} {k : Nat} (h : ShA P zs (k + 1)) : zs.getD k 0 = P.getD k 0:=by
 obtain ⟨h1,h2,h3,h4⟩:=h
 have e:=congrArg (fun l=>l.getD k 0) h3
 simp only [List.getD_eq_getElem?_getD,List.getElem?_take,show k < k + 1 by omega,if_true] at e
 rw [List.getD_eq_getElem?_getD,List.getD_eq_getElem?_getD]
 exact e
theorem sh_step {P zs : List Nat} {k : Nat} (h : ShA P zs (k + 1)) : ShA P (zs.set (k + 1) (P.getD k 0)) k:=by
 obtain ⟨h1,h2,h3,h4⟩:=h
 have e3 : ∀ i,i < k + 1 → zs[i]? = P[i]?:=fun i hi=>by
  have e:=congrArg (fun l=>l[i]?) h3
  simpa [List.getElem?_take,hi] using e
 have e4 : ∀ i,zs[k + 2 + i]? = P[k + 1 + i]?:=fun i=>by
  have e:=congrArg (fun l=>l[i]?) h4
  simpa [List.getElem?_drop] using e
 refine ⟨by omega,by simp [h2],?_,?_⟩
 ·apply List.ext_getElem?
  intro i
  rw [List.getElem?_take,List.getElem?_take]
  by_cases hi : i < k
  ·rw [if_pos hi,if_pos hi,List.getElem?_set_ne (by omega)]
   exact e3 i (by omega)
  ·rw [if_neg hi,if_neg hi]
 ·apply List.ext_getElem?
  intro i
  rw [List.getElem?_drop,List.getElem?_drop]
  cases i with
  | zero =>
    rw [Nat.add_zero,Nat.add_zero,List.getElem?_set_self (by omega),List.getD_eq_getElem?_getD,List.getElem?_eq_getElem (show k < P.length by omega)]
    show _ = P[k]?
    rw [List.getElem?_eq_getElem (show k < P.length by omega)]
    rfl
  | succ j =>
    rw [List.getElem?_set_ne (by omega)]
    have:=e4 j
    rw [show k + 1 + (j + 1) = k + 2 + j by omega,show k + (j + 1) = k + 1 + j by omega]
    exact this
theorem sh_end {P zs : List Nat} {k : Nat} (h : ShA P zs k) (b : Nat) : zs.set k b = P.take k ++ b :: P.drop k:=by
 obtain ⟨h1,h2,h3,h4⟩:=h
 rw [List.set_eq_take_append_cons_drop,if_pos (by omega),h3,h4]
theorem drop_cons {P : List Nat} {k : Nat} (h : k < P.length) : P.drop k = P.getD k 0 :: P.drop (k + 1):=by
 rw [List.drop_eq_getElem_cons h,List.getD_eq_getElem?_getD,List.getElem?_eq_getElem h]
 rfl
theorem ins_ord {P : List Nat} {k b : Nat} (hP : InO P) (h1 : k ≤ P.length) (h2 : ∀ x ∈ P.drop k, keyB b ≤ keyB x) (h3 : k = 0 ∨ keyB (P.getD (k - 1) 0) ≤ keyB b) :
  InO (P.take k ++ b :: P.drop k) ∧ (P.take k ++ b :: P.drop k).Perm (P ++ [b]):=by
 have hsp : InO (P.take k ++ P.drop k):=by rw [List.take_append_drop]; exact hP
 obtain ⟨p1,p2,p3⟩:=List.pairwise_append.1 hsp
 refine ⟨List.pairwise_append.2 ⟨p1,List.pairwise_cons.2 ⟨h2,p2⟩,fun x hx y hy=>?_⟩,?_⟩
 ·have hxb : keyB x ≤ keyB b := by
   rcases h3 with rfl | h3
   ·simp at hx
   ·obtain ⟨i,hi,rfl⟩:=List.mem_take_iff_getElem.1 hx
    refine Int.le_trans ?_ h3
    have hk : k - 1 < P.length:=by omega
    rw [List.getD_eq_getElem?_getD,List.getElem?_eq_getElem hk]
    show keyB P[i] ≤ keyB P[k - 1]
    by_cases e : i = k - 1
    ·subst e; exact Int.le_refl _
    ·exact List.pairwise_iff_getElem.1 hP i (k - 1) (by omega) hk (by omega)
  rcases List.mem_cons.1 hy with rfl | hy
  ·exact hxb
  ·exact p3 x hx y hy
 ·refine List.perm_middle.trans ?_
  rw [List.take_append_drop]
  exact (List.perm_append_singleton b P).symm
def InsAt (l : List Nat) (i : Nat) (P : List Nat) : Prop:=InO P ∧ P.Perm ((l.take i).map oneB)
theorem ins_start (l : List Nat) : InsAt l 0 []:=⟨List.Pairwise.nil,by simp⟩
theorem ins_len {l P : List Nat} {i : Nat} (h : InsAt l i P) (hi : i ≤ l.length) : P.length = i:=by rw [h.2.length_eq]; simp; omega
theorem ins_next {l P : List Nat} {i k : Nat} (h : InsAt l i P) (hi : i < l.length) (h1 : k ≤ P.length) (h2 : ∀ x ∈ P.drop k, keyB (oneB (l.getD i 0)) ≤ keyB x) (h3 : k = 0 ∨ keyB (P.getD (k - 1) 0) ≤ keyB (oneB (l.getD i 0))) :
  InsAt l (i + 1) (P.take k ++ oneB (l.getD i 0) :: P.drop k):=by
 obtain ⟨a,b⟩:=ins_ord h.1 h1 h2 h3
 refine ⟨a,b.trans ?_⟩
 rw [List.take_succ_eq_append_getElem hi,List.map_append]
 rw [List.getD_eq_getElem?_getD,List.getElem?_eq_getElem hi]
 exact h.2.append_right _
theorem ins_done {l P : List Nat} (h : InsAt l l.length P) (hw : ∀ x ∈ l,W64 x) : P = ordL l:=by
 refine ordL_one ?_ h.1 hw
 have:=h.2
 rwa [List.take_length] at this
end Go.Proofs.YtlbokicainimnaaGreatDoor
set_option maxRecDepth 100000
namespace Go.Proofs.YtlbokicainimnaaGreatDoor
open Go Go.RowKit
open Go.Lib hiding intOf
theorem Tryz.infoF9 : (Tryz.prog.info? 24).map (fun i=>(i.zero,i.size,i.bytes)) = some (some (.float .f64 0),1,8):=by kernel_rfl
theorem Tryz.infoU9 : (Tryz.prog.info? 22).map (fun i=>(i.zero,i.size,i.bytes)) = some (some (.int .u64 0),1,8):=by kernel_rfl
def flo (l : List Nat) : List Value:=l.map (Value.float .f64)
def ulo (l : List Nat) : List Value:=l.map (fun x : Nat=>Value.int .u64 x)
theorem flo_next {l : List Nat} {k : Nat} (h : k < l.length) : flo (l.take k) ++ [.float .f64 (l.getD k 0)] = flo (l.take (k + 1)):=by
 unfold flo
 rw [List.take_succ_eq_append_getElem h,List.map_append]
 simp [List.getD,h]
theorem flo_get {l : List Nat} {k : Nat} (h : k < l.length) : (flo l)[k]? = some (.float .f64 (l.getD k 0)):=by
 unfold flo; simp [List.getD,h]
theorem ulo_get {l : List Nat} {k : Nat} (h : k < l.length) : (ulo l)[k]? = some (.int .u64 (l.getD k 0 : Nat)):=by
 unfold ulo; simp [List.getD,h]
def UIn (w : World) (a : Option Addr) (n : Nat) (l : List Nat) : Prop:=0 < n → ∃ b o,a = some ⟨b,o,none⟩ ∧ b < w.heap.size ∧ ∀ k,k < n → w.cell? ⟨b,o + k,none⟩ = some (.int .u64 (l.getD k 0 : Nat))
theorem UIn.below {w w' : World} {a : Option Addr} {n : Nat} {l : List Nat} (h : UIn w a n l) (hb : Below w.heap.size w w') : UIn w' a n l:=fun hn=>by
 obtain ⟨b,o,h1,h2,h3⟩:=h hn
 exact ⟨b,o,h1,Nat.lt_of_lt_of_le h2 hb.size,fun k hk=>(hb.cell (p:=⟨b,o + k,none⟩) h2).trans (h3 k hk)⟩
def FIn (w : World) (a : Option Addr) (n : Nat) (l : List Nat) : Prop:=0 < n → ∃ b o,a = some ⟨b,o,none⟩ ∧ b < w.heap.size ∧ ∀ k,k < n → w.cell? ⟨b,o + k,none⟩ = some (.float .f64 (l.getD k 0))
theorem FIn.below {w w' : World} {a : Option Addr} {n : Nat} {l : List Nat} (h : FIn w a n l) (hb : Below w.heap.size w w') : FIn w' a n l:=fun hn=>by
 obtain ⟨b,o,h1,h2,h3⟩:=h hn
 exact ⟨b,o,h1,Nat.lt_of_lt_of_le h2 hb.size,fun k hk=>(hb.cell (p:=⟨b,o + k,none⟩) h2).trans (h3 k hk)⟩
def FOn (w : World) (base : Nat) (v : Value) (n : Nat) (l : List Nat) : Prop:=w.ownsRow base 24 1 v n (flo l)
def UOn (w : World) (base : Nat) (v : Value) (n : Nat) (l : List Nat) : Prop:=w.ownsRow base 22 1 v n (ulo l)
theorem FOn.len {w : World} {base : Nat} {v : Value} {n : Nat} {l : List Nat} (h : FOn w base v n l) : l.length = n:=by have:=h.1; simpa [flo] using this
theorem UOn.len {w : World} {base : Nat} {v : Value} {n : Nat} {l : List Nat} (h : UOn w base v n l) : l.length = n:=by have:=h.1; simpa [ulo] using this
theorem FOn.cell {w : World} {base n c g : Nat} {l : List Nat} (h : FOn w base (.slice (some ⟨g,0,none⟩) n c) n l) {j : Nat} (hj : j < n) : w.cell? ⟨g,j,none⟩ = some (.float .f64 (l.getD j 0)):=by
 have hl:=h.len
 have:=World.ownsRow.cellAt h j (by omega)
 rw [this,flo_get (by omega)]
theorem UOn.cell {w : World} {base n c g : Nat} {l : List Nat} (h : UOn w base (.slice (some ⟨g,0,none⟩) n c) n l) {j : Nat} (hj : j < n) : w.cell? ⟨g,j,none⟩ = some (.int .u64 (l.getD j 0 : Nat)):=by
 have hl:=h.len
 have:=World.ownsRow.cellAt h j (by omega)
 rw [this,ulo_get (by omega)]
theorem FOn.lt {w : World} {base n c g : Nat} {l : List Nat} (h : FOn w base (.slice (some ⟨g,0,none⟩) n c) n l) : base ≤ g ∧ g < w.heap.size:=World.ownsRow.lt h g rfl
theorem UOn.lt {w : World} {base n c g : Nat} {l : List Nat} (h : UOn w base (.slice (some ⟨g,0,none⟩) n c) n l) : base ≤ g ∧ g < w.heap.size:=World.ownsRow.lt h g rfl
theorem own_some9 {w : World} {base : Nat} {e : TypeId} {v : Value} {n : Nat} {xs : List Value} (h : w.ownsRow base e 1 v n xs) (hn : 0 < n) : ∃ g c,v = .slice (some ⟨g,0,none⟩) n c ∧ base ≤ g ∧ g < w.heap.size ∧ n ≤ c ∧ c ≤ maxLen:=by
 obtain ⟨h1,h2⟩:=h
 rcases h2 with ⟨rfl,rfl⟩ | ⟨g,c,cur,rfl,h3,h4,h5,h6,-⟩
 ·omega
 ·exact ⟨g,c,rfl,h3,(Array.getElem?_eq_some_iff.1 h4).1,h5,h6⟩
theorem FOn.fin {w : World} {base n c g m : Nat} {l r : List Nat} (h : FOn w base (.slice (some ⟨g,0,none⟩) n c) n (l ++ r)) (hm : m = l.length) (hn : m ≤ n) : FIn w (some ⟨g,0,none⟩) m l:=fun _=>
 ⟨g,0,rfl,h.lt.2,fun k hk=>by
  rw [Nat.zero_add,h.cell (by omega)]
  simp [List.getD,List.getElem?_append_left (show k < l.length by omega)]⟩
def mark9 : Nat:=4620130267728707584
theorem flo_mark {l : List Nat} {k : Nat} : flo (l ++ List.replicate k mark9) ++ [.float .f64 4620130267728707584] = flo (l ++ List.replicate (k + 1) mark9):=by
 unfold flo
 rw [List.replicate_succ',← List.append_assoc,List.map_append (l₂:=[mark9])]
 rfl
set_option maxHeartbeats 4000000 in
theorem floats9_v {a : Option Addr} {n c : Nat} {l : List Nat} (w : World) (hn : l.length = n) (hmax : n * 8 ≤ 140737488351232) (hcell : UIn w a n l) :
  Calls Tryz.prog 19 #[.slice a n c] w fun e w'=>(∃ g cp,e = .returned (.tuple #[.slice (some ⟨g,0,none⟩) n cp,.slice (some ⟨g,0,none⟩) (n + 8 : Nat) cp]) ∧ FOn w' w.heap.size (.slice (some ⟨g,0,none⟩) (n + 8 : Nat) cp) (n + 8) (l ++ List.replicate 8 mark9)) ∧ Below w.heap.size w w':=by
 have HCELL : Hid (UIn w a n l):=hcell
 have HNX : Hid (∀ k,k < n → flo (l.take k) ++ [.float .f64 (l.getD k 0)] = flo (l.take (k + 1))):=fun k hk=>flo_next (by omega)
 obtain ⟨i0,hi,hz0,hz1,hz2⟩:=info_parts Tryz.infoF9
 clear hcell
 go_enter Tryz.func19,Tryz.ntmps19
 go_wp2_with fail
 go_loopw [4,5] (fun v i wr=>∃ k : Nat,k ≤ n ∧ i = .int .i64 (k : Nat) ∧ wr.ownsRow w.heap.size 24 1 v k (flo (l.take k)) ∧ Below w.heap.size w wr) (fun _ i _=>n - (intOf i).toNat)
 case atStart=>exact ⟨0,Nat.zero_le _,rfl,World.ownsRow_nil _ _ _ _,Below.refl _ _⟩
 case round=>
  obtain ⟨k,hk,rfl,hown,hbk⟩:=hrel
  have HOW : Hid _:=hown
  have HBK : Hid (Below w.heap.size w wr):=hbk
  by_cases hkn : k < n
  ·obtain ⟨b,o,rfl,hb,hcc⟩:=HCELL.out (by omega)
   obtain ⟨x,hx⟩ : ∃ x,x = l.getD k 0:=⟨_,rfl⟩
   have hck:=(hbk.cell (p:=⟨b,o + k,none⟩) hb).trans (hcc k hkn)
   rw [← hx] at hck
   have hnx:=HNX.out k hkn
   rw [← hx] at hnx
   have HN1 : Hid (flo (l.take k) ++ [.float .f64 x] = flo (l.take (k + 1))):=hnx
   have hw1 : IntKind.i64.wrap ((k : Int) + 1) = ((k + 1 : Nat) : Int):=by rw [IntWalk.i64_in _ (by omega)]; omega
   clear hcc hown hbk hx hnx
   go_wp2_with (at_builtin; (refine wpList_append_own _ rfl _ _ 40 rfl w.heap.size 24 i0 (.float .f64 0) 1 8 Tryz.underlying40 hi hz0 hz1 hz2 rfl (by decide) _ _ _ rfl (World.ownsRow.alloc HOW.out _) ⟨wr.heap.size,0,none⟩ 1 1 [.float .f64 x] rfl rfl (by intro j z hj; match j with | 0=>(obtain rfl : z = .float .f64 x:=by simpa using hj.symm); exact cell_of_row _ _ _ _ _ _ (heap_alloc_new _ _) | j + 1=>simp at hj) (by intro z hz; simp at hz; subst hz; rfl) (by unfold maxLen; omega) (by omega) (by have:=HBK.out.size; simp at this ⊢; omega) ?_; intro v' w2 hown' hgrow _; have HOW2 : Hid (w2.ownsRow w.heap.size 24 1 v' (k + 1) (flo (l.take (k + 1)))):=(by rw [← HN1.out]; exact hown'); have HB2 : Hid (Below w.heap.size w w2):=(HBK.out.alloc HBK.out.size _).grown hgrow (by have:=HBK.out.size; simp at this ⊢; omega) (fun k hk=>(World.ownsRow.lt HOW.out k hk).1); clear hown' hgrow))
   go_roundw
   case rel=>exact ⟨k + 1,by omega,by first | rfl | rw [hw1],HOW2.out,HB2.out⟩
   case measure=>simp [intOf]; omega
  ·have e : k = n:=by omega
   subst e
   have HTK : Hid (l.take k = l ++ List.replicate 0 mark9):=by
    have h : l.take l.length = l:=List.take_length
    rw [hn] at h
    show _ = _
    rw [h]; simp
   have HOW1 : Hid (wr.ownsRow w.heap.size 24 1 u4 k (flo (l ++ List.replicate 0 mark9))):=by rw [← HTK.out]; exact HOW.out
   clear hown hbk hk hkn HOW HTK
   go_wp2_with fail
   go_loopw [4,6] (fun v i wq=>∃ j : Nat,j ≤ 8 ∧ i = .int .i64 (j : Nat) ∧ wq.ownsRow w.heap.size 24 1 v (k + j) (flo (l ++ List.replicate j mark9)) ∧ Below w.heap.size w wq) (fun _ i _=>8 - (intOf i).toNat)
   case atStart=>exact ⟨0,Nat.zero_le _,rfl,HOW1.out,HBK.out⟩
   case round=>
    rename_i wp
    obtain ⟨j,hj,rfl,hown,hbj⟩:=hrel
    have HOJ : Hid _:=hown
    have HBJ : Hid (Below w.heap.size w wr):=hbj
    by_cases hj8 : j < 8
    ·have HN1 : Hid (flo (l ++ List.replicate j mark9) ++ [.float .f64 4620130267728707584] = flo (l ++ List.replicate (j + 1) mark9)):=flo_mark
     clear hown hbj HOW1 HBK
     go_wp2_with (at_builtin; (refine wpList_append_own _ rfl _ _ 40 rfl w.heap.size 24 i0 (.float .f64 0) 1 8 Tryz.underlying40 hi hz0 hz1 hz2 rfl (by decide) _ _ _ rfl (World.ownsRow.alloc HOJ.out _) ⟨wr.heap.size,0,none⟩ 1 1 [.float .f64 4620130267728707584] rfl rfl (by intro j z hj; match j with | 0=>(obtain rfl : z = .float .f64 4620130267728707584:=by simpa using hj.symm); exact cell_of_row _ _ _ _ _ _ (heap_alloc_new _ _) | j + 1=>simp at hj) (by intro z hz; simp at hz; subst hz; rfl) (by unfold maxLen; omega) (by omega) (by have:=HBJ.out.size; simp at this ⊢; omega) ?_; intro v' w2 hown' hgrow _; have HOW2 : Hid (w2.ownsRow w.heap.size 24 1 v' (k + (j + 1)) (flo (l ++ List.replicate (j + 1) mark9))):=(by rw [← HN1.out]; exact hown'); have HB2 : Hid (Below w.heap.size w w2):=(HBJ.out.alloc HBJ.out.size _).grown hgrow (by have:=HBJ.out.size; simp at this ⊢; omega) (fun k hk=>(World.ownsRow.lt HOJ.out k hk).1); clear hown' hgrow))
     go_roundw
     case rel=>exact ⟨j + 1,by omega,by first | rfl | go_num,HOW2.out,HB2.out⟩
     case measure=>simp [intOf]; omega
    ·obtain rfl : j = 8:=by omega
     obtain ⟨g,cp,rfl,hg1,hg2,hg3,hg4⟩:=own_some9 hown (by omega)
     unfold maxLen at hg4
     clear hown hbj HOW1 HBK hg1 hg2
     go_wp2
     go_ret2
     exact ⟨⟨g,cp,rfl,HOJ.out⟩,HBJ.out⟩
end Go.Proofs.YtlbokicainimnaaGreatDoor
namespace Go.Proofs.YtlbokicainimnaaGreatDoor
open Go Go.RowKit Go.Lib
theorem norm_exp53 {N : Nat} (h0 : 0 < N) (h : N < 9007199254740992) : ∃ i,i ≤ 52 ∧ 4503599627370496 ≤ N * 2 ^ i ∧ N * 2 ^ i < 9007199254740992:=by
 obtain ⟨h1,h2,h3⟩:=blen_pos (n:=N) (by omega)
 have h4 : blen N ≤ 53:=blen_le (show N < 2 ^ 53 from h)
 refine ⟨53 - blen N,by omega,?_,?_⟩
 ·have:=Nat.mul_le_mul_right (2 ^ (53 - blen N)) h1
  rw [← Nat.pow_add,show blen N - 1 + (53 - blen N) = 52 by omega] at this
  simpa using this
 ·have:=Nat.mul_lt_mul_of_pos_right h2 (Nat.two_pow_pos (53 - blen N))
  rw [← Nat.pow_add,show blen N + (53 - blen N) = 53 by omega] at this
  simpa using this
theorem float_whole (n : Int) (h : n.natAbs < 9007199254740992) : ∃ b,Go.FloatKind.f64.nearest n = b ∧ W64 b ∧ finB b = true ∧ valB b = n * 2 ^ LP:=by
 have hl:=LP_eq
 rcases Nat.eq_zero_or_pos n.natAbs with h0 | h0
 ·obtain rfl : n = 0:=by omega
  rw [Int.zero_mul]
  exact ⟨0,by kernel_rfl,by unfold W64; decide,by kernel_rfl,by kernel_rfl⟩
 ·obtain ⟨i,hi,h1,h2⟩:=norm_exp53 h0 h
  obtain ⟨R,g1,g2⟩:=nearest_near' Ieee.double (by decide) (decide (n < 0)) n.natAbs 0
  have hr : rv 52 ((LP - i) * 4503599627370496 + n.natAbs * 2 ^ i) = n.natAbs * 2 ^ i * 2 ^ (LP - i):=rv_qK 52 _ _ (by omega) (by omega)
  have hx:=Near.exact 52 ((LP - i) * 4503599627370496 + n.natAbs * 2 ^ i) 1 (by decide)
  have he : n.natAbs * 2 ^ i * 2 ^ (LP - i) = n.natAbs * 2 ^ LP:=by rw [Nat.mul_assoc,← Nat.pow_add,show i + (LP - i) = LP by omega]
  rw [hr,Nat.mul_one] at hx
  rw [D_lp'] at g2
  have hR : R = (LP - i) * 4503599627370496 + n.natAbs * 2 ^ i:=by
   refine Near.uniq (by decide) (Near.cross (Nat.two_pow_pos _) (by decide) ?_ g2) hx
   rw [he,Nat.mul_one,Nat.mul_assoc,← Nat.pow_add]
   congr 2; omega
  have hlt : (LP - i) * 4503599627370496 + n.natAbs * 2 ^ i < 9218868437227405312:=by rw [hl]; omega
  rw [D_inf,hR,Nat.min_eq_left (by omega)] at g1
  obtain ⟨w1,w2,w3⟩:=sg_word' (decide (n < 0)) ((LP - i) * 4503599627370496 + n.natAbs * 2 ^ i) (by omega)
  refine ⟨sgW (decide (n < 0)) + ((LP - i) * 4503599627370496 + n.natAbs * 2 ^ i),?_,w1,?_,?_⟩
  ·show Ieee.double.nearest (decide (n < 0)) n.natAbs 0 = _
   rw [g1]
   show Ieee.Format.word _ _ _ = _
   unfold Ieee.Format.word sgW; rw [D_sw]; cases decide (n < 0) <;> simp
  ·unfold finB; rw [w3]; simpa using hlt
  ·unfold valB
   rw [w2,w3,hr,he]
   by_cases hn : n < 0
   ·rw [decide_eq_true hn,if_pos rfl]; push_cast; rw [show (n.natAbs : Int) = -n by omega,Int.neg_mul,Int.neg_neg]
   ·rw [decide_eq_false hn]; simp only [Bool.false_eq_true,if_false]; push_cast; rw [show (n.natAbs : Int) = n by omega]
theorem int_rep {n : Int} (h : n.natAbs < 10 ^ 30) : Rep (mkD n 0) n 0:=int_room h
theorem rep_nil9 {d : Dc} {W e : Int} (h : Rep d W e) : d.s = [] ↔ W = 0:=by
 constructor
 ·intro h0
  have hd:=ok_nil h.ok h0
  subst hd
  obtain ⟨-,j,h1,h2,h3⟩:=h
  have hv : Dc.none.v = 0:=by decide
  rw [hv,Int.zero_mul] at h3
  rcases Int.mul_eq_zero.1 h3.symm with h | h
  ·exact h
  ·exact absurd h (pow_pos10 _)
 ·intro h0
  rw [h0] at h
  rw [rep_zero h]
  rfl
theorem whole_part {d : Dc} {U L : Nat} (h : Rep d (U : Int) (-(L : Int))) : d.neg = false ∧ (d.s = [] ∨ placesC d 0 5 = (mkD ((U / 10 ^ L : Nat) : Int) 0,mkX ((U / 10 ^ L : Nat) : Int) 0)) ∧ (d.s = [] → U = 0):=by
 have hz : d.s = [] → U = 0:=fun h0=>by have:=(rep_nil9 h).1 h0; omega
 obtain ⟨j,hj⟩ : ∃ j : Nat,j = L + d.e.natAbs:=⟨_,rfl⟩
 have h1:=h.all j (by omega) (by omega)
 have hn : d.neg = false:=by
  by_cases h0 : d.s = []
  ·rw [ok_nil h.ok h0]; rfl
  ·cases hn : d.neg
   ·rfl
   ·have hp:=ok_pos h.ok h0
    have hv : d.v = -(dval d.s : Int):=by unfold Dc.v sg; rw [if_pos hn]
    have p1 : (0 : Int) < 10 ^ (d.e + j).toNat:=Int.pow_pos (by decide)
    have p2 : (0 : Int) ≤ (U : Int) * 10 ^ (-(L : Int) + j).toNat:=Int.mul_nonneg (by omega) (Int.le_of_lt (Int.pow_pos (by decide)))
    have p3 : d.v * 10 ^ (d.e + j).toNat < 0:=Int.mul_neg_of_neg_of_pos (by omega) p1
    omega
 refine ⟨hn,?_,hz⟩
 by_cases h0 : d.s = []
 ·exact .inl h0
 ·right
  have hv : d.v = (dval d.s : Int):=by unfold Dc.v sg; rw [hn]; rfl
  rw [hv] at h1
  have h2 : dval d.s * 10 ^ (d.e + j).toNat = U * 10 ^ (-(L : Int) + j).toNat:=by exact_mod_cast h1
  unfold placesC
  by_cases hd : -0 - d.e ≤ 0
  ·rw [if_pos hd]
   have e1 : (d.e + j).toNat = d.e.toNat + j:=by omega
   have e2 : j = L + (-(L : Int) + j).toNat:=by omega
   have h3 : U = dval d.s * 10 ^ d.e.toNat * 10 ^ L:=by
    refine Nat.eq_of_mul_eq_mul_right (Nat.pow_pos (n:=(-(L : Int) + j).toNat) (show 0 < 10 by decide)) ?_
    rw [← h2,e1,Nat.mul_assoc,Nat.mul_assoc,← Nat.pow_add,← Nat.pow_add]
    congr 2; omega
   have h4 : U / 10 ^ L = dval d.s * 10 ^ d.e.toNat:=by rw [h3]; exact Nat.mul_div_cancel _ (Nat.pow_pos (by decide))
   have hr : Rep d ((U / 10 ^ L : Nat) : Int) 0:=by
    refine ⟨h.ok,0,by omega,by omega,?_⟩
    rw [hv,h4]
    push_cast
    rw [Int.add_zero,Int.mul_one]
   obtain ⟨m1,m2⟩:=hr.mk
   rw [m1,m2]
  ·rw [if_neg hd,unit_zero]
   have e1 : dval d.s / 10 ^ (-0 - d.e).toNat = U / 10 ^ L:=by
    have e3 : (-0 - d.e).toNat + (d.e + j).toNat = j:=by omega
    have e4 : L + (-(L : Int) + j).toNat = j:=by omega
    rw [← Nat.mul_div_mul_right (dval d.s) (10 ^ (-0 - d.e).toNat) (Nat.pow_pos (n:=(d.e + j).toNat) (show 0 < 10 by decide)),← Nat.pow_add,e3,h2,← Nat.mul_div_mul_right U (10 ^ L) (Nat.pow_pos (n:=(-(L : Int) + j).toNat) (show 0 < 10 by decide)),← Nat.pow_add,e4]
   rw [e1,hn]
   obtain ⟨q1,q2⟩:=mkD_sg false (U / 10 ^ L) 0
   have hs : sg false (U / 10 ^ L) = ((U / 10 ^ L : Nat) : Int):=rfl
   rw [hs] at q1 q2
   rw [q1,q2]
   rfl
theorem share_facts {p : Nat} {K V : Nat} (hf : finB p = true) (hV : valB p = V) (h1 : V ≤ 2 ^ LP) (hK : K < 9007199254740992) :
  mulX (ofD p) (mkD K 0) = 0 ∧ (mulD (ofD p) (mkD K 0)).ok ∧ placesA (mulD (ofD p) (mkD K 0)) 0 5 = (mkD ((V * K / 2 ^ LP : Nat) : Int) 0,0) ∧
  addX (mulD (ofD p) (mkD K 0)) (negD (mkD ((V * K / 2 ^ LP : Nat) : Int) 0)) = 0 ∧
  Rep (addD (mulD (ofD p) (mkD K 0)) (negD (mkD ((V * K / 2 ^ LP : Nat) : Int) 0))) (((V * K % 2 ^ LP) * 5 ^ LP : Nat) : Int) (-(LP : Int)) ∧
  V * K / 2 ^ LP ≤ K ∧ (V * K % 2 ^ LP ≠ 0 → V * K / 2 ^ LP < K):=by
 have p2 : 0 < 2 ^ LP:=Nat.two_pow_pos _
 have hq : V * K / 2 ^ LP ≤ K:=Nat.div_le_of_le_mul (Nat.mul_le_mul_right K h1)
 have hq2 : V * K % 2 ^ LP ≠ 0 → V * K / 2 ^ LP < K:=fun hr=>by
  refine Nat.lt_of_le_of_ne hq fun e=>hr ?_
  have h2:=Nat.div_add_mod (V * K) (2 ^ LP)
  rw [e] at h2
  have h3:=Nat.mul_le_mul_right K h1
  omega
 obtain ⟨r,-⟩:=of_rep (of_room hf)
 have k1 : Rep (mkD (K : Int) 0) (K : Int) 0:=int_rep (by omega)
 obtain ⟨m1,m2⟩:=mul_rep r k1
 have eH : valB p * 5 ^ LP * (K : Int) = ((V * K * 5 ^ LP : Nat) : Int):=by rw [hV]; push_cast; ac_rfl
 have hb : V * K * 5 ^ LP < 10 ^ (LP + 16):=by
  have t1 : V * K ≤ 2 ^ LP * K:=Nat.mul_le_mul_right K h1
  have t2 : (10 : Nat) ^ (LP + 16) = 2 ^ LP * 10 ^ 16 * 5 ^ LP:=by rw [Nat.pow_add,show (10 : Nat) ^ LP = 2 ^ LP * 5 ^ LP by rw [← Nat.mul_pow]]; ac_rfl
  rw [t2]
  refine Nat.mul_lt_mul_of_pos_right (Nat.lt_of_le_of_lt t1 ?_) (Nat.pow_pos (by decide))
  exact Nat.mul_lt_mul_of_pos_left (Nat.lt_trans hK (by decide)) p2
 rw [eH,Int.add_zero] at m1 m2
 have hL:=LP_eq
 have hx : mkX ((V * K * 5 ^ LP : Nat) : Int) (-(LP : Int)) = 0:=mk_room (m:=LP + 16) (by omega) (by omega) (by omega) (by omega)
 have hR:=rep_mk hx
 rw [← m1] at hR
 generalize hH : mulD (ofD p) (mkD (K : Int) 0) = H at *
 have hdiv : V * K * 5 ^ LP / 10 ^ LP = V * K / 2 ^ LP:=by
  rw [show (10 : Nat) ^ LP = 2 ^ LP * 5 ^ LP by rw [← Nat.mul_pow]]
  exact Nat.mul_div_mul_right _ _ (Nat.pow_pos (by decide))
 obtain ⟨w1,w2,w3⟩:=whole_part hR
 rw [hdiv] at w2
 have hqr : (((V * K / 2 ^ LP : Nat) : Int)).natAbs < 10 ^ 30:=by
  have h5:=hq
  generalize V * K / 2 ^ LP = q at h5 ⊢
  omega
 have hqR:=int_rep hqr
 have hpl : placesA H 0 5 = (mkD ((V * K / 2 ^ LP : Nat) : Int) 0,0):=by
  unfold placesA
  rw [if_neg (fun h=>h ⟨hR.ok,by decide,by decide,by decide,by decide⟩)]
  by_cases h0 : H.s = []
  ·have hU:=w3 h0
   have hVK : V * K = 0:=by
    rcases Nat.mul_eq_zero.1 hU with h | h
    ·exact h
    ·exact absurd h (Nat.pos_iff_ne_zero.1 (Nat.pow_pos (by decide)))
   rw [if_pos h0,ok_nil hR.ok h0,hVK,Nat.zero_div]
   have:=(mk_zero 0).1
   show _ = (mkD 0 0,0)
   rw [this]
  ·rw [if_neg h0]
   rcases w2 with h | h
   ·exact absurd h h0
   ·rw [h]
    have:=hqR.mk.2
    rw [this]
 have hqd : Rep (mkD ((V * K / 2 ^ LP : Nat) : Int) 0) (((V * K / 2 ^ LP * 10 ^ LP : Nat)) : Int) (-(LP : Int)):=by
  have h:=hqR
  rw [show (0 : Int) = -(LP : Int) + (LP : Nat) by omega] at h
  have h2:=rep_down LP h
  rw [show -(LP : Int) + (LP : Nat) = 0 by omega] at h2
  push_cast at h2 ⊢
  exact h2
 obtain ⟨a1,a2⟩:=add_rep hR hqd.neg
 have hsub : (((V * K * 5 ^ LP : Nat)) : Int) + -((V * K / 2 ^ LP * 10 ^ LP : Nat) : Int) = (((V * K % 2 ^ LP) * 5 ^ LP : Nat) : Int):=by
  have h2:=Nat.div_add_mod (V * K) (2 ^ LP)
  have h3 : V * K * 5 ^ LP = V * K / 2 ^ LP * 10 ^ LP + V * K % 2 ^ LP * 5 ^ LP:=by
   rw [show (10 : Nat) ^ LP = 2 ^ LP * 5 ^ LP by rw [← Nat.mul_pow],← Nat.mul_assoc,← Nat.add_mul]
   congr 1
   rw [Nat.mul_comm (V * K / 2 ^ LP)]
   exact h2.symm
  omega
 rw [hsub] at a1 a2
 have hlt : (V * K % 2 ^ LP) * 5 ^ LP < 10 ^ (LP + 16):=Nat.lt_of_le_of_lt (Nat.mul_le_mul_right _ (Nat.mod_le _ _)) hb
 have hx2 : mkX (((V * K % 2 ^ LP) * 5 ^ LP : Nat) : Int) (-(LP : Int)) = 0:=mk_room (m:=LP + 16) (by omega) (by omega) (by omega) (by omega)
 have hF:=rep_mk hx2
 rw [← a1] at hF
 exact ⟨m2.trans hx,hR.ok,hpl,a2.trans hx2,hF,hq,hq2⟩
end Go.Proofs.YtlbokicainimnaaGreatDoor
