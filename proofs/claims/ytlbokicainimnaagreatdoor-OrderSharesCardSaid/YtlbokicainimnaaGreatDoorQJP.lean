import Derived.Test.YtlbokicainimnaaGreatDoorQWL
import Derived.Test.YtlbokicainimnaaGreatDoorQJF
import Derived.Sort.OwnSorted
set_option maxRecDepth 100000
namespace Go.Proofs.YtlbokicainimnaaGreatDoor
open Go Go.RowKit
open Go.Lib hiding intOf
structure OneT where
 val : Nat
 ok : Oned val
instance : Inhabited OneT:=⟨⟨0,by unfold Oned W64; decide⟩⟩
theorem oneT_ext {x y : OneT} (h : x.val = y.val) : x = y:=by
 cases x; cases y; cases h; rfl
def encO (x : OneT) : Value:=.float .f64 x.val
def cfO (x y : OneT) : Int:=orderB x.val y.val
theorem ltO (x y : OneT) : ltOf cfO x y = decide (keyB x.val < keyB y.val):=by
 unfold ltOf cfO orderB
 by_cases h1 : keyB x.val < keyB y.val
 ·simp [h1]
 ·by_cases h2 : keyB y.val < keyB x.val <;> simp [h1,h2]
theorem swoO : Go.Sort.SWO (ltOf cfO) where
 irrefl x:=by rw [ltO]; simp
 trans x y z h1 h2:=by rw [ltO] at *; simp at *; omega
 ntrans x y z h1 h2:=by rw [ltO] at *; simp at *; omega
theorem totO (x y : OneT) (h1 : ltOf cfO x y = false) (h2 : ltOf cfO y x = false) : x = y:=by
 rw [ltO] at h1 h2
 have h1:=of_decide_eq_false h1
 have h2:=of_decide_eq_false h2
 exact oneT_ext (key_inj x.val y.val x.ok.1 y.ok.1 x.ok.2 y.ok.2 (by omega))
def oneT (l : List Nat) (h : ∀ x ∈ l,Oned x) : List OneT:=l.attach.map fun x=>OneT.mk x.1 (h x.1 x.2)
theorem oneT_val (l : List Nat) (h : ∀ x ∈ l,Oned x) : (oneT l h).map OneT.val = l:=by
 unfold oneT
 rw [List.map_map]
 have : (OneT.val ∘ fun x : {x // x ∈ l}=>OneT.mk x.1 (h x.1 x.2)) = Subtype.val:=rfl
 rw [this,List.attach_map_subtype_val]
theorem sort_val (L : List OneT) (l : List Nat) (hw : ∀ x ∈ l,W64 x) (h : L.map OneT.val = l.map oneB) : (L.mergeSort fun x y=>!(ltOf cfO) y x).map OneT.val = ordL l:=by
 refine ordL_one ?_ ?_ hw
 ·rw [← h]
  exact (List.mergeSort_perm _ _).map _
 ·have hp:=List.pairwise_mergeSort (le:=fun x y=>!(ltOf cfO) y x) (fun a b c h1 h2=>by simp only [ltO] at *; simp at *; omega) (fun a b=>by simp only [ltO]; simp; omega) L
  unfold InO
  rw [List.pairwise_map]
  refine hp.imp fun {a b} h=>?_
  rw [ltO] at h
  simp at h
  omega
theorem sort_clos (x y : OneT) (W : World) : Calls Tryz.prog 79 #[encO x,encO y] W fun e w'=>e = .returned (.int .i64 (cfO x y)) ∧ ∃ q,w' = W.drewN q:=by
 have hcon:=order_any x.val y.val W x.ok.1 y.ok.1
 unfold cfO encO
 generalize orderB x.val y.val = r at hcon ⊢
 go_enter Tryz.func79,Tryz.ntmps79
 go_wp2_with (go_at_call 29; refine hcon.mono ?_; rintro e w' ⟨rfl,rfl⟩)
 go_ret
 exact ⟨rfl,0,rfl⟩
theorem heap_sortedO {w : World} {g n : Nat} {os : Array Obj} {cur : Array Value} {e : TypeId} {fr : Nat × Nat} (d : Array OneT) (hb : w.heap[g]? = some (.cells cur e fr)) :
  (Go.Sort.grow (Go.Sort.putRow encO (Go.Sort.ahead w n) g 0 d) os).heap[g]? = some (.cells (Go.Sort.putCells encO 0 d cur) e fr):=by
 have hg : g < w.heap.size:=(Array.getElem?_eq_some_iff.1 hb).1
 rw [Go.Sort.heap_grow_old _ _ (by simpa using hg)]
 simp [Go.Sort.putRow,Go.Sort.mapBlock,Go.Sort.ahead,Array.getElem?_modify,hb,Go.Sort.onCells]
theorem grownBy_sortedO {w : World} {g n : Nat} {os : Array Obj} (d : Array OneT) : w.grownBy (Go.Sort.grow (Go.Sort.putRow encO (Go.Sort.ahead w n) g 0 d) os) (some g):=by
 refine ⟨rfl,rfl,rfl,by simp,fun k hk hne=>?_⟩
 rw [Go.Sort.heap_grow_old _ _ (by simpa using hk)]
 have : g ≠ k:=fun e=>hne (by rw [e])
 simp [Go.Sort.putRow,Go.Sort.mapBlock,Go.Sort.ahead,Array.getElem?_modify,this]
theorem take_putCellsO (cur : Array Value) (ts : List OneT) (h : ts.length ≤ cur.size) : (Go.Sort.putCells encO 0 ts.toArray cur).toList.take ts.length = ts.map encO:=by
 apply List.ext_getElem?
 intro j
 by_cases hj : j < ts.length
 ·rw [List.getElem?_take_of_lt hj,Array.getElem?_toList]
  simp [Go.Sort.putCells,hj,show j < cur.size by omega]
 ·rw [List.getElem?_take_eq_none (by omega),List.getElem?_eq_none (by simp; omega)]
theorem holds_O {w : World} {base g n c : Nat} {ys : List Nat} (h : FOn w base (.slice (some ⟨g,0,none⟩) n c) n ys) (ho : ∀ x ∈ ys,Oned x) : Go.Sort.Holds encO w g 0 (oneT ys ho).toArray:=by
 have hl:=h.len
 have hv:=oneT_val ys ho
 intro j hj
 have hlen : (oneT ys ho).length = ys.length:=by have:=congrArg List.length hv; simpa using this
 have hj' : j < ys.length:=by rw [← hlen]; simpa using hj
 refine ⟨?_,World.ownsRow.frozenAt h _⟩
 rw [Nat.zero_add,h.cell (by omega)]
 have e:=congrArg (fun l=>l.getD j 0) hv
 simp only [List.getD_eq_getElem?_getD,List.getElem?_map] at e
 rw [List.getD_eq_getElem?_getD]
 have hj2 : j < (oneT ys ho).length:=by omega
 rw [List.getElem?_eq_getElem hj2] at e
 rw [← e]
 simp [encO,hj2]
theorem sorted_own {w : World} {base g n c k : Nat} {os : Array Obj} {ys : List Nat} (h : FOn w base (.slice (some ⟨g, 0, none⟩) n c) n ys) (ts : List OneT) (hl : ts.length = n) :
  FOn (Go.Sort.grow (Go.Sort.putRow encO (Go.Sort.ahead w k) g 0 ts.toArray) os) base (.slice (some ⟨g,0,none⟩) n c) n (ts.map OneT.val):=by
 rcases h.2 with ⟨h1,-⟩ | ⟨g',c',cur,h1,h2,h3,h4,h5,h6,-⟩
 ·cases h1
 ·simp only [Value.slice.injEq,Option.some.injEq,Addr.mk.injEq,and_true,true_and] at h1
  obtain ⟨rfl,rfl⟩:=h1
  have e : flo (ts.map OneT.val) = ts.map encO:=by unfold flo; rw [List.map_map]; rfl
  refine ⟨by simp [flo,hl],.inr ⟨g,c,_,rfl,h2,heap_sortedO _ h3,h4,h5,by simp [Go.Sort.putCells,h6],?_⟩⟩
  rw [Nat.mul_one,e,← hl]
  exact take_putCellsO cur ts (by omega)
theorem FOn.made {w : World} {g n : Nat} (h : w.ownsRow g 24 1 (.slice (some ⟨g,0,none⟩) n n) n (madeCells (Value.float .f64 0).cells (n * 1)).toList) : FOn w g (.slice (some ⟨g,0,none⟩) n n) n (List.replicate n 0):=by
 have e1 : (madeCells (Value.float .f64 0).cells (n * 1)).toList = flo (List.replicate n 0):=by
  unfold flo
  apply List.ext_getElem
  ·simp [madeCells]
  ·intro i h1 h2
   simp [madeCells,Value.cells,Nat.mod_one]
 unfold FOn
 rwa [e1] at h
theorem FOn.row {w : World} {base g n : Nat} {ys : List Nat} (h : FOn w base (.slice (some ⟨g,0,none⟩) n n) n ys) : ∃ cur,w.heap[g]? = some (.cells cur 24 (0,0)) ∧ cur.size = n ∧ base ≤ g ∧ n ≤ maxLen:=by
 rcases h.2 with ⟨h1,-⟩ | ⟨g',c',cur,h1,h2,h3,h4,h5,h6,-⟩
 ·cases h1
 ·simp only [Value.slice.injEq,Option.some.injEq,Addr.mk.injEq,and_true,true_and] at h1
  obtain ⟨rfl,rfl⟩:=h1
  exact ⟨cur,h3,by omega,h2,h5⟩
theorem FOn.laid {w : World} {base g n : Nat} {l : List Nat} {cur : Array Value} (hg : w.heap[g]? = some (.cells cur 24 (0, 0))) (hc : cur.size = n) (hb : base ≤ g) (hm : n ≤ maxLen) (hl : l.length = n) :
  FOn (w.setRow g (cur.toList.take 0 ++ flo l ++ cur.toList.drop (0 + (flo l).length)).toArray) base (.slice (some ⟨g,0,none⟩) n n) n l:=by
 have hfl : (flo l).length = n:=by simp [flo,hl]
 have e : (cur.toList.take 0 ++ flo l ++ cur.toList.drop (0 + (flo l).length)).toArray = (flo l).toArray:=by
  rw [List.take_zero,List.nil_append,List.drop_eq_nil_of_le (by simp; omega),List.append_nil]
 rw [e]
 exact ⟨by omega,.inr ⟨g,n,(flo l).toArray,rfl,hb,setRow_heap w g _ _ _ _ hg,Nat.le_refl _,hm,by simp [hfl],by rw [Nat.mul_one]; exact List.take_of_length_le (by simp [hfl])⟩⟩
theorem FOn.set {w : World} {base g n c : Nat} {ys : List Nat} (h : FOn w base (.slice (some ⟨g,0,none⟩) n c) n ys) (j v : Nat) : FOn (w.setCell ⟨g,j,none⟩ (.float .f64 v)) base (.slice (some ⟨g,0,none⟩) n c) n (ys.set j v):=by
 have:=(World.ownsRow.stored h j (.float .f64 v)).1
 unfold FOn flo
 rwa [List.map_set]
theorem FOn.fro {w : World} {base g n c : Nat} {ys : List Nat} (h : FOn w base (.slice (some ⟨g,0,none⟩) n c) n ys) (j : Nat) : w.frozen? ⟨g,j,none⟩ = false:=World.ownsRow.frozenAt h j
@[go_sem] theorem run_store_float9 {P : Program} {w : World} {a : Addr} {m : Mode} (k : FloatKind) (b : Nat) : (store a (.float k b) m).run P w = stored P w a (.float k b) m:=run_store P w a _ m rfl
theorem clip9_v (g n c : Nat) (w : World) (_ : n ≤ c) (_ : c ≤ 9223372036854775807) : Calls Tryz.prog 80 #[.slice (some ⟨g,0,none⟩) n c] w fun e w'=>e = .returned (.slice (some ⟨g,0,none⟩) n n) ∧ w' = w:=by
 go_enter Tryz.func80,Tryz.ntmps80
 go_wp2
 go_ret
 exact ⟨rfl,rfl⟩
theorem one_step {l ys : List Nat} {k : Nat} (hk : k < l.length) (h : ys = (l.take k).map oneB ++ l.drop k) : ys.getD k 0 = l.getD k 0 ∧ ys.set k (oneB (l.getD k 0)) = (l.take (k + 1)).map oneB ++ l.drop (k + 1):=by
 have hlen : ((l.take k).map oneB).length = k:=by simp; omega
 have hd : l.drop k = l.getD k 0 :: l.drop (k + 1):=by
  rw [List.drop_eq_getElem_cons hk,List.getD_eq_getElem?_getD,List.getElem?_eq_getElem hk]; rfl
 constructor
 ·rw [h,List.getD_eq_getElem?_getD,List.getElem?_append_right (by omega),hlen,Nat.sub_self,hd]; rfl
 ·rw [h,List.set_append_right _ _ (by omega),hlen,Nat.sub_self,hd,List.set_cons_zero,List.take_succ_eq_append_getElem hk,List.map_append,List.append_assoc]
  congr 1
  rw [List.getD_eq_getElem?_getD,List.getElem?_eq_getElem hk]
  rfl
set_option maxHeartbeats 8000000 in
theorem sorted9_v {a : Option Addr} {n c : Nat} {l : List Nat} (w : World) (hn : l.length = n) (hmax : n * 8 ≤ 140737488355328) (hl : ∀ x ∈ l, W64 x) (hcell : FIn w a n l) :
  Calls Tryz.prog 31 #[.slice a n c] w fun e w'=>(∃ g,e = .returned (.slice (some ⟨g,0,none⟩) n n) ∧ FOn w' w.heap.size (.slice (some ⟨g,0,none⟩) n n) n (ordL l)) ∧ Below w.heap.size w w':=by
 obtain ⟨i0,hi,hz0,hz1,hz2⟩:=info_parts Tryz.infoF9
 have HL : Hid (∀ x ∈ l,W64 x):=hl
 have HCELL : Hid (FIn w a n l):=hcell
 have hcap : n ≤ 9223372036854775807:=by omega
 clear hcell hl
 have eg : ∀ args w,(callFunc 79 args).run Tryz.prog w = .ok (.enter 79 args) w:=enters_of Tryz.func79 (by kernel_rfl) rfl
 have EG : Hid _:=eg
 clear eg
 by_cases hn0 : n = 0
 ·subst hn0
  obtain rfl : l = []:=List.eq_nil_of_length_eq_zero hn
  go_enter Tryz.func31,Tryz.ntmps31
  go_wp2_with (at_make; refine wpList_make_full _ rfl _ _ 40 rfl w.heap.size 24 i0 (.float .f64 0) 1 Tryz.underlying40 hi hz0 hz1 .i64 .i64 _ _ 0 rfl rfl (by omega) (by omega) (by rw [hz2]; omega) (by unfold maxLen; omega) (by simp) ?_; intro w2 hown hgrow; have HO2 : Hid (FOn w2 w.heap.size (.slice (some ⟨w.heap.size,0,none⟩) 0 0) 0 []):=FOn.made hown; have HB2 : Hid (Below w.heap.size w w2):=(Below.refl _ _).grown hgrow (Nat.le_refl _) (by simp); clear hown hgrow; have hcop:=run_copy_none (P:=Tryz.prog) w2 40 40 3 24 (some ⟨w.heap.size,0,none⟩) a 0 0 0 c Tryz.underlying40 (by kernel_rfl) rfl)
  clear hcop
  go_loopw [13] (fun i wr=>i = .int .i64 0 ∧ wr = w2) (fun _ _=>0)
  case atStart=>exact ⟨rfl,rfl⟩
  case round=>
   obtain ⟨rfl,rfl⟩:=hrel
   go_wp2_with fail
   refine Calls.mono (Tryz.slices_SortFunc_none (α:=OneT) _ _ _ _) ?_
   rintro e w5 ⟨rfl,rfl⟩
   go_wp2_with (go_at_call 80; with_reducible refine (clip9_v _ 0 0 _ (Nat.le_refl _) (by decide)).mono ?_; rintro e w' ⟨rfl,rfl⟩)
   go_ret
   exact ⟨⟨_,rfl,by rw [show ordL [] = [] from List.eq_nil_of_length_eq_zero (by rw [ordL_len]; rfl)]; exact HO2.out⟩,HB2.out⟩
 ·obtain ⟨b,o,rfl,hb,hcc⟩:=HCELL.out (by omega)
  have HC : Hid (∀ k,k < n → w.cell? ⟨b,o + k,none⟩ = some (.float .f64 (l.getD k 0))):=hcc
  clear hcc
  go_enter Tryz.func31,Tryz.ntmps31
  go_wp2_with (at_make; refine wpList_make_full _ rfl _ _ 40 rfl w.heap.size 24 i0 (.float .f64 0) 1 Tryz.underlying40 hi hz0 hz1 .i64 .i64 _ _ n rfl rfl (by omega) (by omega) (by rw [hz2]; omega) (by unfold maxLen; omega) (by simp) ?_; intro w2 hown hgrow; have HO2 : Hid (FOn w2 w.heap.size (.slice (some ⟨w.heap.size,0,none⟩) n n) n (List.replicate n 0)):=FOn.made hown; have HB2 : Hid (Below w.heap.size w w2):=(Below.refl _ _).grown hgrow (Nat.le_refl _) (by simp); clear hown hgrow; obtain ⟨cur,hr1,hr2,hr3,hr4⟩:=HO2.out.row; have hcop:=run_copy_row (P:=Tryz.prog) w2 40 40 3 24 w.heap.size 0 n n ⟨b,o,none⟩ n c cur 24 (flo l) Tryz.underlying40 (by kernel_rfl) hr1 (by simp [flo,hn]) (by intro j v hj; have hj2 : j < n:=(by have:=(List.getElem?_eq_some_iff.1 hj).1; simp [flo] at this; omega); rw [flo_get (by omega)] at hj; cases hj; rw [show (Addr.mk b o none).add j = ⟨b,o + j,none⟩ by unfold Addr.add; split <;> simp_all,HB2.out.cell hb]; exact HC.out j hj2) (by simp [flo]; omega) (by intro v hv; obtain ⟨z,_,rfl⟩:=List.mem_map.mp hv; rfl); have HO3 : Hid (FOn (w2.setRow w.heap.size (cur.toList.take 0 ++ flo l ++ cur.toList.drop (0 + (flo l).length)).toArray) w.heap.size (.slice (some ⟨w.heap.size,0,none⟩) n n) n l):=FOn.laid hr1 hr2 hr3 hr4 hn; have HB3 : Hid (Below w.heap.size w (w2.setRow w.heap.size (cur.toList.take 0 ++ flo l ++ cur.toList.drop (0 + (flo l).length)).toArray)):=(Below.refl _ _).grown (grown_setRow HB2.out _) (Nat.le_refl _) (fun k hk=>by cases hk; exact Nat.le_refl _); have HG : Hid (w.heap.size < w2.heap.size):=(Array.getElem?_eq_some_iff.1 hr1).1; clear hr1 hr2 hr3 hr4 HO2; obtain ⟨CS,hCS⟩ : ∃ CS : Array Value,CS = (cur.toList.take 0 ++ flo l ++ cur.toList.drop (0 + (flo l).length)).toArray:=⟨_,rfl⟩; rw [← hCS] at hcop HO3 HB3; clear hCS)
  obtain ⟨w3,hw3⟩ : ∃ W,W = w2.setRow w.heap.size CS:=⟨_,rfl⟩
  rw [← hw3] at HO3 HB3 ⊢
  clear hw3 hcop
  obtain ⟨g,hg⟩ : ∃ g,g = w.heap.size:=⟨_,rfl⟩
  rw [← hg] at HO3 ⊢
  have HGW : Hid (w.heap.size = g):=hg.symm
  clear hg HG HB2
  go_loopw [13] (fun i wr=>∃ (k : Nat) (ys : List Nat),k ≤ n ∧ i = .int .i64 (k : Nat) ∧ (FOn wr g (.slice (some ⟨g,0,none⟩) n n) n ys ∧ ys = (l.take k).map oneB ++ l.drop k) ∧ Below w.heap.size w wr) (fun i _=>n - (intOf i).toNat)
  case atStart=>exact ⟨0,l,Nat.zero_le _,rfl,⟨HO3.out,by simp⟩,HB3.out⟩
  case round=>
   obtain ⟨k,ys,hk,rfl,⟨ho,hys⟩,hbk⟩:=hrel
   have HO : Hid (FOn wr g (.slice (some ⟨g,0,none⟩) n n) n ys):=ho
   have HB : Hid (Below w.heap.size w wr):=hbk
   clear hbk HO3 HB3
   by_cases hkn : k < n
   ·obtain ⟨e1,e2⟩:=one_step (by omega) hys
    obtain ⟨x,hx⟩ : ∃ x,x = l.getD k 0:=⟨_,rfl⟩
    rw [← hx] at e1 e2
    have E2 : Hid _:=e2
    have hc1:=ho.cell hkn
    have hf1:=ho.fro k
    rw [e1] at hc1
    have hk1 : (k : Int) < n:=by omega
    have hw1 : IntKind.i64.wrap ((k : Int) + 1) = ((k + 1 : Nat) : Int):=by rw [IntWalk.i64_in _ (by omega)]; omega
    clear ho hys e1 e2 hx
    go_wp2_with (go_at_call 77; with_reducible refine (one_any _ _).mono ?_; rintro e w' ⟨rfl,rfl⟩)
    go_roundw
    case rel=>exact ⟨k + 1,ys.set k (oneB x),by omega,by first | rfl | rw [hw1],⟨HO.out.set k (oneB x),E2.out⟩,HB.out.setCell (Nat.le_of_eq HGW.out) _⟩
    case measure=>simp [intOf]; omega
   ·obtain rfl : k = n:=by omega
    have hyl : ys = l.map oneB:=by
     have h1 : l.take l.length = l:=List.take_length
     have h2 : l.drop l.length = []:=List.drop_length
     rw [hn] at h1 h2
     rw [hys,h1,h2,List.append_nil]
    subst hyl
    have ho1:=oned_map HL.out
    have hg1:=ho.lt.2
    have hts:=sort_val (oneT (l.map oneB) ho1) l HL.out (oneT_val _ _)
    obtain ⟨ts,hts2⟩ : ∃ ts,ts = (oneT (l.map oneB) ho1).mergeSort fun x y=>!(ltOf cfO) y x:=⟨_,rfl⟩
    have hlen : (oneT (l.map oneB) ho1).length = k:=by
     have:=congrArg List.length (oneT_val (l.map oneB) ho1)
     simpa [hn] using this
    have hsz : (oneT (l.map oneB) ho1).toArray.size = k:=by simpa using hlen
    have hS:=Tryz.slices_SortFunc_total encO (fun _=>rfl) cfO swoO 79 #[] g 0 k (oneT (l.map oneB) ho1).toArray wr EG.out (CmpReads.lays (fun _ _ _ _ x y=>sort_clos x y _)) (holds_O ho ho1) hg1 (by rw [hsz]; omega) totO
    rw [hsz] at hS
    rw [List.toList_toArray,← hts2] at hS
    rw [← hts2] at hts
    have htl : ts.length = k:=by rw [hts2,List.length_mergeSort]; exact hlen
    have HS : Hid _:=hS
    have HTS : Hid (ts.map OneT.val = ordL l ∧ ts.length = k):=⟨hts,htl⟩
    have hk1 : ¬ (k : Int) < k:=by omega
    clear hS hts htl hts2 hlen hsz ho hys hg1
    go_wp2_with fail
    refine Calls.mono HS.out ?_
    rintro e w5 ⟨rfl,q,os,rfl⟩
    have HO5 : Hid (FOn (sortWorld encO wr g 0 q ts.toArray os) g (.slice (some ⟨g,0,none⟩) k k) k (ordL l)):=by
     have:=sorted_own (k:=q) (os:=os) HO.out ts HTS.out.2
     rw [HTS.out.1] at this
     exact this
    have HB5 : Hid (Below w.heap.size w (sortWorld encO wr g 0 q ts.toArray os)):=HB.out.grown (grownBy_sortedO ts.toArray) HB.out.size (fun j hj=>by cases hj; exact Nat.le_of_eq HGW.out)
    clear HS HO HB
    go_wp2_with (go_at_call 80; with_reducible refine (clip9_v _ _ _ _ (Nat.le_refl _) hcap).mono ?_; rintro e w' ⟨rfl,rfl⟩)
    go_ret
    exact ⟨⟨g,rfl,by rw [HGW.out]; exact HO5.out⟩,HB5.out⟩
theorem ulo_push {l : List Nat} {x : Nat} : ulo l ++ [.int .u64 (x : Nat)] = ulo (l ++ [x]):=by
 unfold ulo; rw [List.map_append]; rfl
theorem UOn.set {w : World} {base g n c : Nat} {ys : List Nat} (h : UOn w base (.slice (some ⟨g,0,none⟩) n c) n ys) (j v : Nat) : UOn (w.setCell ⟨g,j,none⟩ (.int .u64 (v : Nat))) base (.slice (some ⟨g,0,none⟩) n c) n (ys.set j v):=by
 have:=(World.ownsRow.stored h j (.int .u64 (v : Nat))).1
 unfold UOn ulo
 rwa [List.map_set]
theorem UOn.fro {w : World} {base g n c : Nat} {ys : List Nat} (h : UOn w base (.slice (some ⟨g,0,none⟩) n c) n ys) (j : Nat) : w.frozen? ⟨g,j,none⟩ = false:=World.ownsRow.frozenAt h j
theorem ins_w64 {l P : List Nat} {i : Nat} (h : InsAt l i P) (hw : ∀ x ∈ l,W64 x) : ∀ x ∈ P,W64 x:=fun x hx=>by
 have:=h.2.mem_iff.1 hx
 obtain ⟨y,hy,rfl⟩:=List.mem_map.1 this
 exact (oned_one (hw y (List.mem_of_mem_take hy))).1
set_option maxHeartbeats 8000000 in
theorem rsorted9_v {a : Option Addr} {n c : Nat} {l : List Nat} (w : World) (hn : l.length = n) (hmax : n * 8 ≤ 140737488355328) (hl : ∀ x ∈ l, W64 x) (hcell : UIn w a n l) :
  Calls Tryz.prog 36 #[.slice a n c] w fun e w'=>(∃ v,e = .returned v ∧ UOn w' w.heap.size v n (ordL l)) ∧ Below w.heap.size w w':=by
 obtain ⟨i0,hi,hz0,hz1,hz2⟩:=info_parts Tryz.infoU9
 have HL : Hid (∀ x ∈ l,W64 x):=hl
 have HCELL : Hid (UIn w a n l):=hcell
 have HLN : Hid (l.length = n):=hn
 clear hcell hl
 go_enter Tryz.func36,Tryz.ntmps36
 go_wp2_with fail
 go_loopw [3,4] (fun v i wr=>∃ (k : Nat) (P : List Nat),(k ≤ n ∧ i = .int .i64 (k : Nat)) ∧ UOn wr w.heap.size v k P ∧ InsAt l k P ∧ Below w.heap.size w wr) (fun _ i _=>n - (intOf i).toNat)
 case atStart=>exact ⟨0,[],⟨Nat.zero_le _,by first | rfl | go_num⟩,World.ownsRow_nil _ _ _ _,ins_start l,Below.refl _ _⟩
 case round=>
  obtain ⟨k,P,⟨hk,rfl⟩,hown,hins,hbk⟩:=hrel
  have HOW : Hid (UOn wr w.heap.size u3 k P):=hown
  have HIN : Hid (InsAt l k P):=hins
  have HBK : Hid (Below w.heap.size w wr):=hbk
  have hPl : P.length = k:=ins_len hins (by have:=HLN.out; omega)
  by_cases hkn : k < n
  ·obtain ⟨b,o,rfl,hb,hcc⟩:=HCELL.out (by omega)
   obtain ⟨x,hx⟩ : ∃ x,x = l.getD k 0:=⟨_,rfl⟩
   have hck:=(hbk.cell (p:=⟨b,o + k,none⟩) hb).trans (hcc k hkn)
   rw [← hx] at hck
   have hxw : W64 x:=by rw [hx,List.getD_eq_getElem?_getD,List.getElem?_eq_getElem (by have:=HLN.out; omega)]; exact HL.out _ (List.getElem_mem _)
   obtain ⟨y,hy⟩ : ∃ y,y = oneB x:=⟨_,rfl⟩
   have hyw : W64 y:=by rw [hy]; exact (oned_one hxw).1
   have HY : Hid (y = oneB (l.getD k 0)):=by rw [← hx]; exact hy
   have HYW : Hid (W64 y):=hyw
   have HPL : Hid (P.length = k):=hPl
   have hone : ∀ W,Calls Tryz.prog 85 #[.int .u64 (x : Nat)] W fun e w'=>e = .returned (.int .u64 (y : Nat)) ∧ W = w':=fun W=>by rw [hy]; exact ref_one x W hxw
   have hk1 : (k : Int) < n:=by omega
   have hw0 : IntKind.i64.wrap (((k + 1 : Nat) : Int) - 1) = (k : Int):=by rw [IntWalk.i64_in _ (by omega)]; omega
   have hw1 : IntKind.i64.wrap ((k : Int) + 1) = ((k + 1 : Nat) : Int):=by rw [IntWalk.i64_in _ (by omega)]; omega
   clear hcc hown hins hbk hx hy hxw hyw hPl
   go_wp2_with (first | (go_at_call 85; with_reducible refine (hone _).mono ?_; rintro e w' ⟨rfl,rfl⟩) | (at_builtin; (refine wpList_append_own _ rfl _ _ 39 rfl w.heap.size 22 i0 (.int .u64 0) 1 8 Tryz.underlying39 hi hz0 hz1 hz2 rfl (by decide) _ _ _ rfl (World.ownsRow.alloc HOW.out _) ⟨wr.heap.size,0,none⟩ 1 1 [.int .u64 (y : Nat)] rfl rfl (by intro j z hj; match j with | 0=>(obtain rfl : z = .int .u64 (y : Nat):=by simpa using hj.symm); exact cell_of_row _ _ _ _ _ _ (heap_alloc_new _ _) | j + 1=>simp at hj) (by intro z hz; simp at hz; subst hz; rfl) (by unfold maxLen; omega) (by omega) (by have:=HBK.out.size; simp at this ⊢; omega) ?_; intro v' w2 hown' hgrow _; have HOW2 : Hid (UOn w2 w.heap.size v' (k + 1) (P ++ [y])):=(by unfold UOn; rw [← ulo_push]; exact hown'); have HB2 : Hid (Below w.heap.size w w2):=(HBK.out.alloc HBK.out.size _).grown hgrow (by have:=HBK.out.size; simp at this ⊢; omega) (fun k hk=>(World.ownsRow.lt HOW.out k hk).1); clear hown' hgrow; obtain ⟨g,cp,rfl,hg1,hg2,hg3,hg4⟩:=own_some9 HOW2.out (by omega); have HG : Hid (w.heap.size ≤ g ∧ cp ≤ 9223372036854775807):=⟨hg1,hg4⟩; clear hg1 hg2 hg3 hg4)))
   clear hone
   go_loopw [6] (fun kv wq=>∃ (q : Nat) (us : List Nat),(kv = .int .i64 (q : Nat) ∧ q ≤ k) ∧ ShA P us q ∧ UOn wq w.heap.size (.slice (some ⟨g,0,none⟩) (k + 1 : Nat) cp) (k + 1) us ∧ (∀ z ∈ P.drop q,keyB y ≤ keyB z) ∧ Below w.heap.size w wq) (fun kv _=>(intOf kv).toNat)
   case atStart=>exact ⟨k,P ++ [y],⟨by first | rfl | rw [hw0],Nat.le_refl _⟩,by have:=sh_start P y; rw [HPL.out] at this; exact this,HOW2.out,(by rw [List.drop_eq_nil_of_le (Nat.le_of_eq HPL.out)]; exact fun _ h=>absurd h (List.not_mem_nil)),HB2.out⟩
   case round=>
    rename_i wo
    obtain ⟨q,us,⟨rfl,hqk⟩,hsh,hou,hdr,hbq⟩:=hrel
    have HSH : Hid (ShA P us q):=hsh
    have HOU : Hid (UOn wr w.heap.size (.slice (some ⟨g,0,none⟩) (k + 1 : Nat) cp) (k + 1) us):=hou
    have HDR : Hid (∀ z ∈ P.drop q,keyB y ≤ keyB z):=hdr
    have HBQ : Hid (Below w.heap.size w wr):=hbq
    clear HOW2 HB2 hck hw0
    have hend : q = 0 ∨ keyB (P.getD (q - 1) 0) ≤ keyB y → UOn (wr.setCell ⟨g,q,none⟩ (.int .u64 (y : Nat))) w.heap.size (.slice (some ⟨g,0,none⟩) (k + 1 : Nat) cp) (k + 1) (P.take q ++ y :: P.drop q) ∧ InsAt l (k + 1) (P.take q ++ y :: P.drop q):=fun h3=>by
     refine ⟨?_,?_⟩
     ·rw [← sh_end HSH.out y]; exact HOU.out.set q y
     ·rw [HY.out] at h3 ⊢
      exact ins_next HIN.out (by have:=HLN.out; omega) (by have:=HPL.out; omega) (fun z hz=>by have:=HDR.out z hz; rwa [HY.out] at this) h3
    have HEND : Hid _:=hend
    have hfq:=hou.fro q
    have hcq:=hou.cell (j:=q) (by omega)
    obtain ⟨uq,huq⟩ : ∃ u,u = us.getD q 0:=⟨_,rfl⟩
    rw [← huq] at hcq
    clear huq
    have hq1 : (q : Int) < ((k + 1 : Nat) : Int):=by omega
    by_cases hq0 : q = 0
    ·subst hq0
     have HE0 : Hid _:=HEND.out (.inl rfl)
     clear hsh hou hdr hbq hend HEND HSH HDR
     go_wp2
     go_roundw
     case rel=>exact ⟨k + 1,_,⟨by omega,by first | rfl | rw [hw1]⟩,HE0.out.1,HE0.out.2,HBQ.out.setCell HG.out.1 _⟩
     case measure=>simp [intOf]; omega
    ·obtain ⟨r,rfl⟩ : ∃ r,q = r + 1:=⟨q - 1,by omega⟩
     have hgt:=sh_get hsh
     obtain ⟨z,hz⟩ : ∃ z,z = P.getD r 0:=⟨_,rfl⟩
     have hcr:=hou.cell (j:=r) (by omega)
     rw [hgt,← hz] at hcr
     have hzw : W64 z:=by
      have hrP : r < P.length:=by have:=HPL.out; omega
      rw [hz,List.getD_eq_getElem?_getD,List.getElem?_eq_getElem hrP]
      exact ins_w64 HIN.out HL.out _ (List.getElem_mem hrP)
     have hord:=fun W=>ref_order y z W HYW.out hzw
     have hst:=sh_step hsh
     rw [← hz] at hst
     have HST : Hid (ShA P (us.set (r + 1) z) r):=hst
     have HZ : Hid (z = P.getD r 0):=hz
     have hr1 : IntKind.i64.wrap (((r + 1 : Nat) : Int) - 1) = (r : Int):=by rw [IntWalk.i64_in _ (by omega)]; omega
     have hr0 : (0 : Int) < ((r + 1 : Nat) : Int):=by omega
     have hr2 : (r : Int) < ((k + 1 : Nat) : Int):=by omega
     clear hsh hou hdr hbq hend hgt hz hst
     by_cases hlt : keyB y < keyB z
     ·have ho1 : orderB y z = -1:=by unfold orderB; rw [if_pos hlt]
      rw [ho1] at hord
      have HDR2 : Hid (∀ t ∈ P.drop r,keyB y ≤ keyB t):=fun t ht=>by
       rw [drop_cons (by have:=HPL.out; omega),← HZ.out] at ht
       rcases List.mem_cons.1 ht with rfl | ht
       ·omega
       ·exact HDR.out t ht
      clear HEND HSH HDR
      go_wp2_with (go_at_call 86; with_reducible refine (hord _).mono ?_; rintro e w' ⟨rfl,rfl⟩)
      go_roundw
      case rel=>exact ⟨r,us.set (r + 1) z,⟨by first | rfl | rw [hr1],by omega⟩,HST.out,HOU.out.set (r + 1) z,HDR2.out,HBQ.out.setCell HG.out.1 _⟩
      case measure=>simp [intOf]
     ·have ho1 : 0 ≤ orderB y z:=by unfold orderB; rw [if_neg hlt]; split <;> omega
      have ho2 : ¬ orderB y z < 0:=by omega
      generalize orderB y z = oo at hord ho1 ho2
      have HE0 : Hid _:=HEND.out (.inr (by rw [Nat.add_sub_cancel,← HZ.out]; omega))
      clear HEND HSH HDR ho1
      go_wp2_with (go_at_call 86; with_reducible refine (hord _).mono ?_; rintro e w' ⟨rfl,rfl⟩)
      go_roundw
      case rel=>exact ⟨k + 1,_,⟨by omega,by first | rfl | rw [hw1]⟩,HE0.out.1,HE0.out.2,HBQ.out.setCell HG.out.1 _⟩
      case measure=>simp [intOf]; omega
  ·obtain rfl : k = n:=by omega
   have HPE : Hid (P = ordL l):=by
    have h:=hins
    rw [← HLN.out] at h
    exact ins_done h HL.out
   have hk1 : ¬ (k : Int) < k:=by omega
   clear hown hins hbk hPl
   go_wp2
   go_ret
   exact ⟨⟨_,rfl,by rw [← HPE.out]; exact HOW.out⟩,HBK.out⟩
end Go.Proofs.YtlbokicainimnaaGreatDoor
