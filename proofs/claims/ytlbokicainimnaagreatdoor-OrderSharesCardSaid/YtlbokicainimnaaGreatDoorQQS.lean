import Derived.Deep.RegionHeld3
import Derived.Laws.CopyOwn
import Derived.Test.YtlbokicainimnaaGreatDoorRows
namespace Go.Proofs.YtlbokicainimnaaGreatDoor
open Go
def Did (l : Array Bool) (i : Nat) : Prop:=l.getD i false = true
def needs (md : Region.Mode) (ops : Array Oper) (i : Nat) : List Nat:=((ops[i]?).map fun o=>(o.after.toList.filter fun e=>Region.binds md e).map (·.on)).getD []
def topo (md : Region.Mode) (ops : Array Oper) : Bool:=(List.range ops.size).all fun i=>(needs md ops i).all fun j=>decide (j < i)
def cnt (l : Array Bool) : Nat → Nat
 | 0=>0
 | n + 1=>cnt l n + (if l.getD n true then 0 else 1)
def AllBelow (p : Nat → Prop) : Nat → Prop
 | 0=>True
 | n + 1=>AllBelow p n ∧ p n
theorem AllBelow.at {p : Nat → Prop} : ∀ {n : Nat},AllBelow p n → ∀ i,i < n → p i
 | n + 1,h,i,hi=>if e : i = n then e ▸ h.2 else AllBelow.at h.1 i (by omega)
theorem did_set {l : Array Bool} {i : Nat} (h : i < l.size) (j : Nat) : Did (l.setIfInBounds i true) j ↔ (j = i ∨ Did l j):=by
 unfold Did
 rw [Array.getD_eq_getD_getElem?,Array.getD_eq_getD_getElem?,Array.getElem?_setIfInBounds]
 by_cases e : i = j
 ·subst e; simp [h]
 ·rw [if_neg e]
  constructor
  ·exact .inr
  ·rintro (rfl | h)
   ·exact absurd rfl e
   ·exact h
theorem getD_set {l : Array Bool} {i : Nat} (h : i < l.size) (j : Nat) : (l.setIfInBounds i true).getD j true = if j = i then true else l.getD j true:=by
 rw [Array.getD_eq_getD_getElem?,Array.getD_eq_getD_getElem?,Array.getElem?_setIfInBounds]
 by_cases e : i = j
 ·subst e; simp [h]
 ·rw [if_neg e,if_neg (fun h=>e h.symm)]
theorem not_did {l : Array Bool} {i : Nat} (h : l.getD i true = false) : ¬ Did l i ∧ i < l.size:=by
 unfold Did
 rw [Array.getD_eq_getD_getElem?] at h ⊢
 rcases Nat.lt_or_ge i l.size with g | g
 ·rw [Array.getElem?_eq_getElem g] at h ⊢
  simp at h ⊢
  exact ⟨h,g⟩
 ·rw [Array.getElem?_eq_none g] at h
  simp at h
theorem did_of {l : Array Bool} {i : Nat} (h : l.getD i true = true) (hi : i < l.size) : Did l i:=by
 unfold Did
 rw [Array.getD_eq_getD_getElem?,Array.getElem?_eq_getElem hi] at h ⊢
 exact h
theorem cnt_le (l : Array Bool) : ∀ n,cnt l n ≤ n
 | 0=>Nat.le_refl _
 | n + 1=>by have:=cnt_le l n; unfold cnt; split <;> omega
theorem cnt_set_ge {l : Array Bool} {i : Nat} (h : i < l.size) : ∀ n,cnt (l.setIfInBounds i true) n ≤ cnt l n
 | 0=>Nat.le_refl _
 | n + 1 => by
   have:=cnt_set_ge h n
   unfold cnt
   rw [getD_set h]
   by_cases e : n = i
   ·rw [if_pos e]; simp; omega
   ·rw [if_neg e]; omega
theorem cnt_set {l : Array Bool} {i : Nat} (h : l.getD i true = false) : ∀ n,i < n → cnt (l.setIfInBounds i true) n + 1 ≤ cnt l n
 | n + 1, hi => by
   have hs:=(not_did h).2
   unfold cnt
   rw [getD_set hs]
   by_cases e : n = i
   ·subst e
    have:=cnt_set_ge hs n
    rw [if_pos rfl,h]; simp; omega
   ·have:=cnt_set h n (by omega)
    rw [if_neg e]; omega
theorem cnt_zero {l : Array Bool} : ∀ n,cnt l n = 0 → ∀ i,i < n → l.getD i true = true
 | n + 1, h, i, hi => by
   unfold cnt at h
   by_cases e : i = n
   ·subst e
    cases g : l.getD i true
    ·rw [g] at h; simp at h
    ·rfl
   ·exact cnt_zero n (by omega) i (by omega)
section
variable {P : Program} {ops : Array Oper} {Q : Exit → Act → World → Prop} {md : Region.Mode} {l : Array Bool}
theorem mem_ready {i : Nat} : i ∈ Region.ready md ops l ↔ (i < ops.size ∧ l.getD i true = false ∧ ∀ j,(needs md ops i).contains j = true → Did l j):=by
 unfold Region.ready
 rw [List.mem_filter,List.mem_range,Bool.and_eq_true]
 refine and_congr_right fun hi=>and_congr (by simp) ?_
 unfold needs
 rw [Array.getElem?_eq_getElem hi]
 simp only [Option.map_some,Option.getD_some,Array.all_eq_true_iff_forall_mem]
 constructor
 ·intro h j hj
  rw [List.contains_iff_mem,List.mem_map] at hj
  obtain ⟨e,he,rfl⟩:=hj
  rw [List.mem_filter] at he
  have:=h e (by simpa using he.1)
  rw [he.2] at this
  unfold Did
  simpa using this
 ·intro h e he
  cases hb : Region.binds md e
  ·simp
  ·have:=h e.on (by rw [List.contains_iff_mem,List.mem_map]; exact ⟨e,by rw [List.mem_filter]; exact ⟨by simpa using he,hb⟩,rfl⟩)
   unfold Did at this
   simpa using this
theorem all_did (ht : topo md ops = true) (hl : l.size = ops.size) (h : Region.ready md ops l = []) : ∀ i,i < ops.size → Did l i:=by
 intro i
 induction i using Nat.strongRecOn with
 | ind i ih =>
   intro hi
   cases g : l.getD i true
   ·have : i ∈ Region.ready md ops l := mem_ready.2 ⟨hi, g, fun j hj => by
     unfold topo at ht
     rw [List.all_eq_true] at ht
     have h1:=ht i (List.mem_range.2 hi)
     rw [List.all_eq_true] at h1
     have h2:=h1 j (by rwa [List.contains_iff_mem] at hj)
     have h3 : j < i:=by simpa using h2
     exact ih j h3 (by omega)⟩
    rw [h] at this
    cases this
   ·exact did_of g (by omega)
def Shut (md : Region.Mode) (ops : Array Oper) (l : Array Bool) : Prop:=∀ i j,(needs md ops i).contains j = true → Did l i → Did l j
theorem Shut.set {i : Nat} (hi : i < l.size) (h : Shut md ops l) (hn : ∀ j,(needs md ops i).contains j = true → Did l j) : Shut md ops (l.setIfInBounds i true):=by
 intro k j hj hk
 rw [did_set hi] at hk ⊢
 rcases hk with rfl | hk
 ·exact .inr (hn j hj)
 ·exact .inr (h k j hj hk)
theorem Did.old {i j : Nat} (hi : i < l.size) (h : Did (l.setIfInBounds i true) j) (hij : j ≠ i:=by decide) : Did l j:=((did_set hi j).1 h).resolve_left hij
def StepAt (P : Program) (md : Region.Mode) (ops : Array Oper) (Q : Exit → Act → World → Prop) (I : Array Bool → Act → World → Prop) (i : Nat) : Prop:=
 ∀ l a w,i < l.size → I l a w → ¬ Did l i → (∀ j,(needs md ops i).contains j = true → Did l j) → Shut md ops l → wpOp P ops Q i (I (l.setIfInBounds i true)) a w
theorem wpAny_inv {I : Array Bool → Act → World → Prop} (step : ∀ i, i < ops.size → StepAt P md ops Q I i) (fin : ∀ l a w, l.size = ops.size → I l a w → Region.ready md ops l = [] → Q .normal a w) :
  ∀ fuel l a w,l.size = ops.size → cnt l ops.size ≤ fuel → Shut md ops l → I l a w → wpAny P md ops Q fuel l a w
 | 0, l, a, w, hl, hc, hs, h => by
   have hr : Region.ready md ops l = []:=by
    refine List.eq_nil_iff_forall_not_mem.2 fun i hi=>?_
    obtain ⟨h1,h2,-⟩:=mem_ready.1 hi
    have:=cnt_zero (l:=l) ops.size (by omega) i h1
    rw [this] at h2
    cases h2
   exact ⟨hr,fin l a w hl h hr⟩
 | fuel + 1, l, a, w, hl, hc, hs, h => ⟨fun hr => fin l a w hl h hr, fun i hi => by
   obtain ⟨h1,h2,h3⟩:=mem_ready.1 hi
   refine wpOp_mono (fun a' w' h'=>wpAny_inv step fin fuel _ a' w' (by simpa using hl) ?_ (hs.set (by omega) h3) h') (step i h1 l a w (by omega) h (not_did h2).1 h3 hs)
   have:=cnt_set h2 ops.size h1
   omega⟩
theorem wp_region_inv {id : Nat} {a : Act} {w : World} (I : Array Bool → Act → World → Prop) (hm : P.follows .mixedOrders = true) (ht : topo .any ops = true) (n : Nat) (hn : ops.size = n) (h0 : ∀ l, (∀ i, ¬ Did l i) → I l a w.drew)
  (step : AllBelow (StepAt P .any ops Q I) n) (fin : ∀ l a w,(∀ i,i < n → Did l i) → I l a w → Q .normal a w) : (Code.region id ops true).wp P Q a w:=by
 subst hn
 refine wp_region_any hm ?_
 have hno : ∀ i,¬ Did (Array.replicate ops.size false) i:=fun i=>by
  unfold Did
  rw [Array.getD_eq_getD_getElem?,Array.getElem?_replicate]
  split <;> simp
 exact wpAny_inv (I:=I) step.at (fun l a w hl h hr=>fin l a w (all_did ht hl hr) h) _ _ a _ (by simp) (cnt_le _ _) (fun i j _ h=>absurd h (hno i)) (h0 _ hno)
def RowD (W : World) (B : Nat) (t : Value) (g : Nat) (ty : TypeId) (done : Prop) (fin : Array Value) : Prop:=
 t = .pointer (some ⟨g,0,none⟩) ∧ B ≤ g ∧ g < W.heap.size ∧ ∃ fs,W.heap[g]? = some (.cells fs ty (0,0)) ∧ fs.size = fin.size ∧ (done → fs = fin)
theorem RowD.old {W W' : World} {B g : Nat} {t : Value} {ty : TypeId} {done done' : Prop} {fin : Array Value} (h : RowD W B t g ty done fin) (hW : W'.heap[g]? = W.heap[g]?) (hd : done' → done) : RowD W' B t g ty done' fin:=by
 obtain ⟨h1,h2,h3,fs,h4,h5,h6⟩:=h
 have:=hW.trans h4
 exact ⟨h1,h2,(Array.getElem?_eq_some_iff.mp this).1,fs,this,h5,fun h=>h6 (hd h)⟩
theorem RowD.thru {W W' : World} {B g : Nat} {t : Value} {ty : TypeId} {done done' : Prop} {fin : Array Value} (h : RowD W B t g ty done fin) (hb : Go.RowKit.Below W.heap.size W W') (hd : done' → done) : RowD W' B t g ty done' fin:=
 h.old (hb.block g h.2.2.1) hd
theorem RowD.alloc {W : World} {B g : Nat} {t : Value} {ty : TypeId} {done done' : Prop} {fin : Array Value} (h : RowD W B t g ty done fin) (o : Obj) (hd : done' → done) : RowD (W.alloc o) B t g ty done' fin:=
 h.old (heap_alloc_old W o g h.2.2.1) hd
theorem RowD.new {W : World} {B : Nat} {ty : TypeId} {done : Prop} {fs fin : Array Value} (hB : B ≤ W.heap.size) (hs : fs.size = fin.size) (hd : ¬ done) : RowD (W.alloc (.cells fs ty (0,0))) B (.pointer (some ⟨W.heap.size,0,none⟩)) W.heap.size ty done fin:=
 ⟨rfl,hB,by show _ < (W.heap.push _).size; simp,fs,heap_alloc_new W _,hs,fun h=>absurd h hd⟩
theorem RowD.turn {W : World} {B g : Nat} {t : Value} {ty : TypeId} {done done' : Prop} {fin fin' : Array Value} (h : RowD W B t g ty done fin) (hs : fin.size = fin'.size) (hd : ¬ done') : RowD W B t g ty done' fin':=by
 obtain ⟨h1,h2,h3,fs,h4,h5,h6⟩:=h
 exact ⟨h1,h2,h3,fs,h4,h5.trans hs,fun h=>absurd h hd⟩
theorem RowD.store {W : World} {B g : Nat} {t : Value} {ty : TypeId} {done done' : Prop} {fin : Array Value} (h : RowD W B t g ty done fin) : RowD (W.setRow g fin) B t g ty done' fin:=by
 obtain ⟨h1,h2,h3,fs,h4,h5,h6⟩:=h
 have:=setRow_heap W g fs fin ty (0,0) h4
 exact ⟨h1,h2,(Array.getElem?_eq_some_iff.mp this).1,fin,this,rfl,fun _=>rfl⟩
theorem RowD.other {W : World} {B g g' : Nat} {t : Value} {ty : TypeId} {done done' : Prop} {fin : Array Value} (h : RowD W B t g ty done fin) (hne : g ≠ g') (cs : Array Value) (hd : done' → done) : RowD (W.setRow g' cs) B t g ty done' fin:=
 h.old (setRow_other W g' g cs hne) hd
end
end Go.Proofs.YtlbokicainimnaaGreatDoor
namespace Go.Proofs.YtlbokicainimnaaGreatDoor
open Go Go.RowKit
def layAll : List (Nat × Nat) → (Nat → Value) → Array Value → Array Value
 | [],_,t=>t
 | p :: r,xs,t=>layAll r xs (t.setIfInBounds p.1 (xs p.2))
theorem set_same (t : Array Value) (d : Nat) : t.setIfInBounds d (t.getD d undef) = t:=by
 apply Array.ext_getElem?
 intro i
 rw [Array.getElem?_setIfInBounds]
 by_cases h : d = i
 ·subst h
  rw [if_pos rfl,Array.getD_eq_getD_getElem?]
  rcases Nat.lt_or_ge d t.size with g | g
  ·rw [if_pos g,Array.getElem?_eq_getElem g]; rfl
  ·rw [if_neg (by omega),Array.getElem?_eq_none g]
 ·rw [if_neg h]
theorem layAll_same (xs : Nat → Value) : ∀ (ds : List (Nat × Nat)) (t : Array Value),(∀ p ∈ ds,xs p.2 = t.getD p.1 undef) → layAll ds xs t = t
 | [],_,_=>rfl
 | p :: r, t, h => by
   have h1:=h p (by simp)
   show layAll r xs (t.setIfInBounds p.1 (xs p.2)) = t
   rw [h1,set_same]
   exact layAll_same xs r t fun q hq=>h q (by simp [hq])
theorem set_comm (t : Array Value) (d e : Nat) (u v : Value) (h : d ≠ e) : (t.setIfInBounds d u).setIfInBounds e v = (t.setIfInBounds e v).setIfInBounds d u:=by
 apply Array.ext_getElem?
 intro i
 simp only [Array.getElem?_setIfInBounds,Array.size_setIfInBounds]
 by_cases h1 : e = i
 ·subst h1; simp [h]
 ·simp [h1]
theorem set_set (t : Array Value) (d : Nat) (u v : Value) : (t.setIfInBounds d u).setIfInBounds d v = t.setIfInBounds d v:=by
 apply Array.ext_getElem?
 intro i
 simp only [Array.getElem?_setIfInBounds,Array.size_setIfInBounds]
 by_cases h1 : d = i
 ·subst h1; simp
 ·simp [h1]
theorem layAll_set (d : Nat) (v : Value) (xs : Nat → Value) : ∀ (ds : List (Nat × Nat)) (t : Array Value),(∀ p ∈ ds,p.1 ≠ d) → layAll ds xs (t.setIfInBounds d v) = (layAll ds xs t).setIfInBounds d v
 | [],_,_=>rfl
 | p :: r, t, h => by
   show layAll r xs ((t.setIfInBounds d v).setIfInBounds p.1 (xs p.2)) = (layAll r xs (t.setIfInBounds p.1 (xs p.2))).setIfInBounds d v
   rw [set_comm _ _ _ _ _ (fun e=>h p (by simp) e.symm),layAll_set d v xs r _ fun q hq=>h q (by simp [hq])]
theorem layAll_other (i : Nat) (v : Value) (xs : Nat → Value) : ∀ (ds : List (Nat × Nat)) (t : Array Value),(∀ p ∈ ds,p.2 ≠ i) → layAll ds (fun j=>if j = i then v else xs j) t = layAll ds xs t
 | [],_,_=>rfl
 | p :: r, t, h => by
   show layAll r _ (t.setIfInBounds p.1 (if p.2 = i then v else xs p.2)) = layAll r xs (t.setIfInBounds p.1 (xs p.2))
   rw [if_neg (h p (by simp))]
   exact layAll_other i v xs r _ fun q hq=>h q (by simp [hq])
def once : List (Nat × Nat) → Bool
 | []=>true
 | p :: r=>r.all (fun q=>q.1 != p.1 && q.2 != p.2) && once r
theorem layAll_put (d i : Nat) (v : Value) (xs : Nat → Value) : ∀ (ds : List (Nat × Nat)) (t : Array Value),once ds = true → (d,i) ∈ ds → layAll ds (fun j=>if j = i then v else xs j) t = (layAll ds xs t).setIfInBounds d v
 | [],_,_,h=>by cases h
 | p :: r, t, ho, h => by
   unfold once at ho
   rw [Bool.and_eq_true,List.all_eq_true] at ho
   have ho1 : ∀ q ∈ r,q.1 ≠ p.1 ∧ q.2 ≠ p.2:=fun q hq=>by
    have:=ho.1 q hq
    rw [Bool.and_eq_true] at this
    simpa using this
   show layAll r _ (t.setIfInBounds p.1 (if p.2 = i then v else xs p.2)) = (layAll r xs (t.setIfInBounds p.1 (xs p.2))).setIfInBounds d v
   rcases List.mem_cons.1 h with e | h
   ·have e1 : p.1 = d:=by rw [← e]
    have e2 : p.2 = i:=by rw [← e]
    subst e1 e2
    rw [if_pos rfl,layAll_other _ _ _ _ _ fun q hq=>(ho1 q hq).2,← layAll_set _ _ _ _ _ fun q hq=>(ho1 q hq).1,set_set]
   ·rw [if_neg (fun e=>(ho1 _ h).2 e.symm)]
    exact layAll_put d i v xs r _ ho.2 h
def look (ds : List (Nat × Nat)) (xs : Nat → Value) (t : Array Value) (d : Nat) : Value:=
 match ds.find? (fun p=>p.1 == d) with
 | some p=>xs p.2
 | none=>t.getD d undef
def within (ds : List (Nat × Nat)) (n : Nat) : Bool:=ds.all fun p=>decide (p.1 < n)
theorem layAll_look (xs : Nat → Value) (d : Nat) : ∀ (ds : List (Nat × Nat)) (t : Array Value),once ds = true → within ds t.size = true → (layAll ds xs t).getD d undef = look ds xs t d
 | [],_,_,_=>rfl
 | p :: r, t, ho, hw => by
   unfold once at ho
   rw [Bool.and_eq_true,List.all_eq_true] at ho
   unfold within at hw
   rw [List.all_eq_true] at hw
   have hp : p.1 < t.size:=by simpa using hw p (by simp)
   have ih:=layAll_look xs d r (t.setIfInBounds p.1 (xs p.2)) ho.2 (by
    unfold within; rw [List.all_eq_true]; intro q hq; rw [Array.size_setIfInBounds]; exact hw q (by simp [hq]))
   show (layAll r xs (t.setIfInBounds p.1 (xs p.2))).getD d undef = _
   rw [ih]
   unfold look
   by_cases h : p.1 = d
   ·have hn : r.find? (fun q => q.1 == d) = none := by
     rw [List.find?_eq_none]
     intro q hq hh
     have:=ho.1 q hq
     rw [Bool.and_eq_true] at this
     have h2 : q.1 ≠ p.1:=by simpa using this.1
     exact h2 (by rw [h]; simpa using hh)
    rw [hn,List.find?_cons_of_pos (by simpa using h)]
    show (t.setIfInBounds p.1 (xs p.2)).getD d undef = xs p.2
    rw [Array.getD_eq_getD_getElem?,Array.getElem?_setIfInBounds,if_pos h,if_pos hp]; rfl
   ·rw [List.find?_cons_of_neg (by simpa using h)]
    cases r.find? (fun q=>q.1 == d) with
    | some q=>rfl
    | none =>
      show (t.setIfInBounds p.1 (xs p.2)).getD d undef = t.getD d undef
      rw [Array.getD_eq_getD_getElem?,Array.getElem?_setIfInBounds,if_neg h,Array.getD_eq_getD_getElem?]
def tailed (ops : Array Oper) (m : Nat) : Bool:=(List.range ops.size).all fun i=>decide (i < m) || (List.range i).all fun j=>(needs .any ops i).contains j || (needs .any ops i).any fun k=>(needs .any ops k).contains j
section
variable {P : Program} {ops : Array Oper} {Q : Exit → Act → World → Prop}
def FlowAt (P : Program) (ops : Array Oper) (Q : Exit → Act → World → Prop) (ds : List (Nat × Nat)) (al : List Nat) (S : Nat → Value → World → Prop) (t0 : Array Value) (df : List Deferred) (B : Nat) (w : World) (i : Nat) : Prop:=
 ∀ xs W,Below B w W → (∀ j,(needs .any ops i).contains j = true → S j (xs j) W) → ∀ K : Act → World → Prop,∀ d,(d,i) ∈ ds →
  (∀ v W',S i v W' → Below W.heap.size W W' → (i ∈ al → v = .pointer (some ⟨W.heap.size,0,none⟩)) → K (Act.put ⟨layAll ds xs t0,df⟩ (some d) v) W') →
  ∃ o,ops[i]? = some o ∧ (if Region.wanted o (yielded ops (layAll ds xs t0)) = true then Oper.wp P o ⟨layAll ds xs t0,df⟩ W K Q else K (Act.put ⟨layAll ds xs t0,df⟩ o.dst undef) W)
theorem wp_region_flow {id : Nat} {t0 : Array Value} {df : List Deferred} {w : World} (m n : Nat) (ds : List (Nat × Nat)) (al : List Nat) (S : Nat → Value → World → Prop) (B : Nat) (hB : B ≤ w.heap.size)
  (hm : P.follows .mixedOrders = true) (ht : topo .any ops = true) (hn : ops.size = n) (hmn : m ≤ n) (htl : tailed ops m = true) (ho : once ds = true) (hds : ((List.range m).all fun i=>ds.any fun p=>p.2 == i) = true)
  (hstab : ∀ j v W W',S j v W → Below W.heap.size W W' → S j v W')
  (hal : ∀ j ∈ al,∀ v W,S j v W → ∃ g,v = .pointer (some ⟨g,0,none⟩) ∧ g < W.heap.size)
  (step : AllBelow (FlowAt P ops Q ds al S t0 df B w) m)
  (tail : ∀ xs W,Below B w W → (∀ j,j < m → S j (xs j) W) → (∀ i ∈ al,∀ j ∈ al,i < m → j < m → i ≠ j → xs i ≠ xs j) → wpList P ops Q (ops.toList.drop m) ⟨layAll ds xs t0,df⟩ W) :
  (Code.region id ops true).wp P Q ⟨t0,df⟩ w:=by
 subst hn
 have htl' : ∀ i,i < ops.size → m ≤ i → ∀ j,j < i → ((needs .any ops i).contains j = true ∨ ∃ k,(needs .any ops i).contains k = true ∧ (needs .any ops k).contains j = true):=fun i hi hmi j hj=>by
  unfold tailed at htl
  rw [List.all_eq_true] at htl
  have h1:=htl i (List.mem_range.2 hi)
  rw [Bool.or_eq_true,decide_eq_true_eq,List.all_eq_true] at h1
  rcases h1 with h1 | h1
  ·omega
  ·have h2:=h1 j (List.mem_range.2 hj)
   rw [Bool.or_eq_true] at h2
   rcases h2 with h2 | h2
   ·exact .inl h2
   ·rw [List.any_eq_true] at h2
    obtain ⟨k,hk,hk2⟩:=h2
    exact .inr ⟨k,List.contains_iff_mem.2 hk,hk2⟩
 have tolist : ∀ i (hi : i < ops.size),ops.toList.drop i = ops[i] :: ops.toList.drop (i + 1):=fun i hi=>by
  rw [List.drop_eq_getElem_cons (by simpa using hi)]; simp
 have wplist_at : ∀ i (hi : i < ops.size) a W (K : Act → World → Prop),(∀ a' W',wpList P ops Q (ops.toList.drop (i + 1)) a' W' → K a' W') → wpList P ops Q (ops.toList.drop i) a W → wpOp P ops Q i K a W:=fun i hi a W K hK h=>by
  rw [tolist i hi] at h
  refine wpOp_mono hK ?_
  unfold wpOp
  rw [Array.getElem?_eq_getElem hi]
  exact h
 have tailstart : ∀ l a W,(∃ xs,a = ⟨layAll ds xs t0,df⟩ ∧ Below B w W ∧ (∀ j,j < m → Did l j → S j (xs j) W) ∧ (∀ i ∈ al,∀ j ∈ al,i < m → j < m → i ≠ j → Did l i → Did l j → xs i ≠ xs j)) → (∀ j,j < m → Did l j) → wpList P ops Q (ops.toList.drop m) a W:=by
  rintro l a W ⟨xs,rfl,hb,hs,hd⟩ hall
  exact tail xs W hb (fun j hj=>hs j hj (hall j hj)) fun i hi j hj h1 h2 hij=>hd i hi j hj h1 h2 hij (hall i h1) (hall j h2)
 refine wp_region_inv (fun l a W=>(∃ k,m ≤ k ∧ k ≤ ops.size ∧ (∀ i,i < ops.size → (Did l i ↔ i < k)) ∧ wpList P ops Q (ops.toList.drop k) a W) ∨
  ((∀ i,m ≤ i → i < ops.size → ¬ Did l i) ∧ ∃ xs,a = ⟨layAll ds xs t0,df⟩ ∧ Below B w W ∧ (∀ j,j < m → Did l j → S j (xs j) W) ∧ (∀ i ∈ al,∀ j ∈ al,i < m → j < m → i ≠ j → Did l i → Did l j → xs i ≠ xs j))) hm ht ops.size rfl ?_ ?_ ?_
 ·intro l hl
  refine .inr ⟨fun i _ _=>hl i,fun i=>((ds.find? fun p=>p.2 == i).map fun p=>t0.getD p.1 undef).getD undef,?_,(Below.refl _ _).drew,fun j _ h=>absurd h (hl j),fun i _ j _ _ _ _ h=>absurd h (hl i)⟩
  rw [layAll_same]
  intro p hp
  have : ds.find? (fun q=>q.2 == p.2) = some p:=by
   clear step tail hal hds tailstart
   induction ds with
   | nil=>cases hp
   | cons q r ih =>
     unfold once at ho
     rw [Bool.and_eq_true,List.all_eq_true] at ho
     rcases List.mem_cons.1 hp with e | hp
     ·subst e
      rw [List.find?_cons_of_pos (by simp)]
     ·have:=ho.1 p hp
      rw [Bool.and_eq_true] at this
      have h2 : p.2 ≠ q.2:=by simpa using this.2
      rw [List.find?_cons_of_neg (by simpa using fun e=>h2 e.symm)]
      exact ih ho.2 hp
  rw [this]; rfl
 ·have key : ∀ i, i < ops.size → StepAt P .any ops Q (fun l a W => (∃ k, m ≤ k ∧ k ≤ ops.size ∧ (∀ i, i < ops.size → (Did l i ↔ i < k)) ∧ wpList P ops Q (ops.toList.drop k) a W) ∨
   ((∀ i,m ≤ i → i < ops.size → ¬ Did l i) ∧ ∃ xs,a = ⟨layAll ds xs t0,df⟩ ∧ Below B w W ∧ (∀ j,j < m → Did l j → S j (xs j) W) ∧ (∀ i ∈ al,∀ j ∈ al,i < m → j < m → i ≠ j → Did l i → Did l j → xs i ≠ xs j))) i:=by
   intro i hi l a W hil hI hnd hneed hshut
   rcases Nat.lt_or_ge i m with him | him
   ·rcases hI with ⟨k,hk,-,hkd,-⟩ | ⟨hno,xs,rfl,hb,hS,hD⟩
    ·exact absurd ((hkd i hi).2 (by omega)) hnd
    ·obtain ⟨d, hd⟩ : ∃ d, (d, i) ∈ ds := by
      rw [List.all_eq_true] at hds
      have:=hds i (List.mem_range.2 him)
      rw [List.any_eq_true] at this
      obtain ⟨p,hp,he⟩:=this
      have : p.2 = i:=by simpa using he
      exact ⟨p.1,by rw [← this]; exact hp⟩
     have hjm : ∀ j,(needs .any ops i).contains j = true → j < m:=fun j hj=>by
      unfold topo at ht
      rw [List.all_eq_true] at ht
      have h1:=ht i (List.mem_range.2 hi)
      rw [List.all_eq_true] at h1
      have h2:=h1 j (by rwa [List.contains_iff_mem] at hj)
      have h3 : j < i:=by simpa using h2
      omega
     obtain ⟨o,ho2,hst⟩:=step.at i him xs W hb (fun j hj=>hS j (hjm j hj) (hneed j hj)) (K:=fun a' W'=>(∃ k,m ≤ k ∧ k ≤ ops.size ∧ (∀ i',i' < ops.size → (Did (l.setIfInBounds i true) i' ↔ i' < k)) ∧ wpList P ops Q (ops.toList.drop k) a' W') ∨
      ((∀ i',m ≤ i' → i' < ops.size → ¬ Did (l.setIfInBounds i true) i') ∧ ∃ xs,a' = ⟨layAll ds xs t0,df⟩ ∧ Below B w W' ∧ (∀ j,j < m → Did (l.setIfInBounds i true) j → S j (xs j) W') ∧ (∀ i' ∈ al,∀ j ∈ al,i' < m → j < m → i' ≠ j → Did (l.setIfInBounds i true) i' → Did (l.setIfInBounds i true) j → xs i' ≠ xs j))) d hd
      (fun v W' hv hb' hfr=>.inr ⟨fun i' h1 h2 h3=>by
       rcases (did_set hil i').1 h3 with e | e
       ·omega
       ·exact hno i' h1 h2 e,fun j=>if j = i then v else xs j,by rw [layAll_put d i v xs ds t0 ho hd]; rfl,hb.trans (hb'.mono (Nat.le_trans hB hb.size)),fun j h1 h2=>by
       show S j (if j = i then v else xs j) W'
       by_cases e : j = i
       ·subst e; rw [if_pos rfl]; exact hv
       ·rw [if_neg e]
        exact hstab j _ W W' (hS j h1 (((did_set hil j).1 h2).resolve_left e)) hb',fun i' h1 j h2 h3 h4 h5 h6 h7=>by
       show (if i' = i then v else xs i') ≠ if j = i then v else xs j
       by_cases e : i' = i
       ·subst e
        have e2 : j ≠ i':=fun e=>h5 e.symm
        rw [if_pos rfl,if_neg e2,hfr h1]
        obtain ⟨g,hg,hg2⟩:=hal j h2 _ _ (hS j h4 (((did_set hil j).1 h7).resolve_left e2))
        rw [hg]
        intro hh
        simp at hh
        omega
       ·rw [if_neg e]
        by_cases e2 : j = i
        ·subst e2
         rw [if_pos rfl,hfr h2]
         obtain ⟨g,hg,hg2⟩:=hal i' h1 _ _ (hS i' h3 (((did_set hil i').1 h6).resolve_left e))
         rw [hg]
         intro hh
         simp at hh
         omega
        ·rw [if_neg e2]
         exact hD i' h1 j h2 h3 h4 h5 (((did_set hil i').1 h6).resolve_left e) (((did_set hil j).1 h7).resolve_left e2)⟩)
     unfold wpOp
     rw [ho2]
     show if Region.wanted o (yielded ops _) = true then _ else _
     split
     ·rename_i hw; rw [if_pos hw] at hst; exact .inl hst
     ·rename_i hw; rw [if_neg hw] at hst; exact hst
   ·have hbel : ∀ j, j < i → Did l j := fun j hj => by
     rcases htl' i hi him j hj with g | ⟨k,g1,g2⟩
     ·exact hneed j g
     ·exact hshut k j g2 (hneed k g1)
    have habove : ∀ j,i < j → j < ops.size → ¬ Did l j:=fun j hj hjs hd=>hnd (by
     rcases htl' j hjs (by omega) i hj with g | ⟨k,g1,g2⟩
     ·exact hshut j i g hd
     ·exact hshut k i g2 (hshut j k g1 hd))
    have hset : ∀ i',i' < ops.size → (Did (l.setIfInBounds i true) i' ↔ i' < i + 1):=fun i' h1=>by
     rw [did_set hil]
     constructor
     ·rintro (e | e)
      ·omega
      ·rcases Nat.lt_or_ge i i' with g | g
       ·exact absurd e (habove i' g h1)
       ·omega
     ·intro e
      rcases Nat.lt_or_ge i' i with g | g
      ·exact .inr (hbel i' g)
      ·exact .inl (by omega)
    refine wplist_at i hi a W _ (fun a' W' h=>.inl ⟨i + 1,by omega,hi,hset,h⟩) ?_
    rcases hI with ⟨k,hk,hks,hkd,hw⟩ | ⟨hno,hx⟩
    ·have : k = i := by
      have h1 : ¬ i < k:=fun h=>hnd ((hkd i hi).2 h)
      rcases Nat.lt_or_ge k i with g | g
      ·exact absurd ((hkd k (by omega)).1 (hbel k g)) (by omega)
      ·omega
     subst this
     exact hw
    ·have : i = m := by
      rcases Nat.lt_or_ge m i with g | g
      ·exact absurd (hbel m g) (hno m (Nat.le_refl _) (by omega))
      ·omega
     subst this
     exact tailstart l a W hx hbel
  have gen : ∀ k,k ≤ ops.size → AllBelow (StepAt P .any ops Q (fun l a W=>(∃ k,m ≤ k ∧ k ≤ ops.size ∧ (∀ i,i < ops.size → (Did l i ↔ i < k)) ∧ wpList P ops Q (ops.toList.drop k) a W) ∨
   ((∀ i,m ≤ i → i < ops.size → ¬ Did l i) ∧ ∃ xs,a = ⟨layAll ds xs t0,df⟩ ∧ Below B w W ∧ (∀ j,j < m → Did l j → S j (xs j) W) ∧ (∀ i ∈ al,∀ j ∈ al,i < m → j < m → i ≠ j → Did l i → Did l j → xs i ≠ xs j)))) k:=by
   intro k
   induction k with
   | zero=>intro _; trivial
   | succ k ih=>intro h; exact ⟨ih (by omega),key k (by omega)⟩
  exact gen _ (Nat.le_refl _)
 ·rintro l a W hall (⟨k,hk,hks,hkd,hw⟩ | ⟨hno,hx⟩)
  ·have : k = ops.size := by
    rcases Nat.lt_or_ge k ops.size with g | g
    ·exact absurd ((hkd k g).1 (hall k g)) (by omega)
    ·omega
   subst this
   rw [List.drop_eq_nil_of_le (by simp)] at hw
   exact hw
  ·have : m = ops.size := by
    rcases Nat.lt_or_ge m ops.size with g | g
    ·exact absurd (hall m g) (hno m (Nat.le_refl _) g)
    ·omega
   have:=tailstart l a W hx fun j hj=>hall j (by omega)
   rw [List.drop_eq_nil_of_le (by simp; omega)] at this
   exact this
theorem eval_const (a : Act) (v : Value) : a.eval (.const v) = v:=rfl
theorem op_val {o : Oper} {a : Act} {W : World} {K : Act → World → Prop} (v : Value) (h : (execOp a.eval o).run P W = .ok (.value v) W) (hk : K (a.put o.dst v) W) : Oper.wp P o a W K Q:=by
 unfold Oper.wp; rw [h]; exact hk
theorem op_any {o : Oper} {a : Act} {W : World} {K : Act → World → Prop} (op : Op) (ho : o.op = op) (v : Value) (h : ∀ o' : Oper,o'.op = op → (execOp a.eval o').run P W = .ok (.value v) W) (hk : K (a.put o.dst v) W) : Oper.wp P o a W K Q:=op_val v (h o ho) hk
theorem op_anyw {o : Oper} {a : Act} {W : World} {K : Act → World → Prop} (op : Op) (ho : o.op = op) (v : Value) (W1 : World) (h : ∀ o' : Oper,o'.op = op → (execOp a.eval o').run P W = .ok (.value v) W1) (hk : K (a.put o.dst v) W1) : Oper.wp P o a W K Q:=by
 unfold Oper.wp; rw [h o ho]; exact hk
theorem op_move {o : Oper} {a : Act} {W : World} {K : Act → World → Prop} (x : Operand) (ho : o.op = .move x ∨ o.op = .assign x) (hk : K (a.put o.dst (a.eval x)) W) : Oper.wp P o a W K Q:=by
 refine op_val _ ?_ hk
 unfold execOp
 rcases ho with h | h <;> rw [h] <;> rfl
theorem op_call {o : Oper} {a : Act} {W : World} {K : Act → World → Prop} (f : FuncId) (l : List Operand) (tys : Array TypeId) (ho : o.op = .call { callee := .value (.func f), args := l.toArray, argTypes := tys }) (vl : List Value) (hvs : l.map a.eval = vl) (hcf : (callFunc f vl.toArray).run P W = .ok (.enter f vl.toArray) W)
  {R : Ending → World → Prop} (hc : Calls P f vl.toArray W R) (hk : ∀ e W',R e W' → ∃ v,e = .returned v ∧ K (a.put o.dst v) W') : Oper.wp P o a W K Q:=by
 have hvs' : l.toArray.map a.eval = vl.toArray:=by rw [List.map_toArray,hvs]
 unfold Oper.wp execOp
 simp only [ho,resolve,hvs',Act.eval]
 go_simp
 refine hc.mono fun e W' h=>?_
 obtain ⟨v,rfl,h2⟩:=hk e W' h
 exact h2
theorem flow_step {ds : List (Nat × Nat)} {al : List Nat} {S : Nat → Value → World → Prop} {t0 : Array Value} {df : List Deferred} {B : Nat} {w : World} {i : Nat} (o : Oper) (d0 : Nat) (ho : ops[i]? = some o) (hgd : o.guard = none) (hd : ∀ d, (d, i) ∈ ds → d = d0) (h1 : once ds = true) (h2 : within ds t0.size = true)
  (h : ∀ (a : Act) xs W,(∀ d,a.eval (.tmp d) = look ds xs t0 d) → Below B w W → (∀ j,(needs .any ops i).contains j = true → S j (xs j) W) → ∀ K : Act → World → Prop,
   (∀ v W',S i v W' → Below W.heap.size W W' → (i ∈ al → v = .pointer (some ⟨W.heap.size,0,none⟩)) → K (a.put (some d0) v) W') → Oper.wp P o a W K Q) : FlowAt P ops Q ds al S t0 df B w i:=by
 intro xs W hb hS K d hd1 hK
 have:=hd d hd1
 subst this
 refine ⟨o,ho,?_⟩
 have hw : Region.wanted o (yielded ops (layAll ds xs t0)) = true:=by simp [Region.wanted,hgd]
 rw [if_pos hw]
 exact h ⟨layAll ds xs t0,df⟩ xs W (fun d=>layAll_look xs d ds t0 h1 h2) hb hS K hK
end
theorem gI {B i : Nat} {w0 : World} : ∀ (D : Nat → Prop) (W : World),¬ D i → Below B w0 W → Below B w0 W:=fun _ _ _ h=>h
theorem gB {w0 : World} : ∀ (_ : Nat → Prop) (W W' : World),Below w0.heap.size w0 W → Below W.heap.size W W' → Below w0.heap.size w0 W':=fun _ _ _ h hb=>h.trans (hb.mono h.size)
theorem nA {i : Nat} {p : Prop} (h : i ∈ ([] : List Nat)) : p:=absurd h List.not_mem_nil
theorem c_ {a b c : Value} (e : a = b) (h : a = c) : b = c:=e.symm.trans h
theorem bR {B : Nat} {w : World} : Below B w w:=Below.refl _ _
section
variable {P : Program} {ops : Array Oper} {Q : Exit → Act → World → Prop}
def FlowAt2 (P : Program) (ops : Array Oper) (Q : Exit → Act → World → Prop) (ds : List (Nat × Nat)) (al : List Nat) (S : Nat → Value → World → Prop) (G : (Nat → Prop) → World → Prop) (t0 : Array Value) (df : List Deferred) (i : Nat) : Prop:=
 ∀ xs W (D : Nat → Prop),¬ D i → G D W → (∀ j,(needs .any ops i).contains j = true → S j (xs j) W ∧ D j) → ∀ K : Act → World → Prop,∀ d : Option Nat,(∀ e,d = some e → (e,i) ∈ ds) → (d = none → ∀ p ∈ ds,p.2 ≠ i) → ops[i]?.map (·.dst) = some d →
  (∀ v W',S i v W' → G (fun j=>j = i ∨ D j) W' → (∀ j u,S j u W → S j u W') → (i ∈ al → v = .pointer (some ⟨W.heap.size,0,none⟩)) → K (Act.put ⟨layAll ds xs t0,df⟩ d v) W') →
  ∃ o,ops[i]? = some o ∧ (if Region.wanted o (yielded ops (layAll ds xs t0)) = true then Oper.wp P o ⟨layAll ds xs t0,df⟩ W K Q else K (Act.put ⟨layAll ds xs t0,df⟩ o.dst undef) W)
theorem wp_region_flow2 {id : Nat} {t0 : Array Value} {df : List Deferred} {w : World} (m n : Nat) (ds : List (Nat × Nat)) (al : List Nat) (S : Nat → Value → World → Prop) (G : (Nat → Prop) → World → Prop) (hG0 : G (fun _ => False) w.drew)
  (hm : P.follows .mixedOrders = true) (ht : topo .any ops = true) (hn : ops.size = n) (hmn : m ≤ n) (htl : tailed ops m = true) (ho : once ds = true) (hds : ((List.range m).all fun i=>match ops[i]? with | some o=>(match o.dst with | some d=>ds.contains (d,i) | none=>ds.all fun p=>p.2 != i) | none=>false) = true)
  (hal : ∀ j ∈ al,∀ v W,S j v W → ∃ g,v = .pointer (some ⟨g,0,none⟩) ∧ g < W.heap.size)
  (step : AllBelow (FlowAt2 P ops Q ds al S G t0 df) m)
  (tail : ∀ xs W (D : Nat → Prop),(∀ j,j < m → D j) → G D W → (∀ j,j < m → S j (xs j) W) → (∀ i ∈ al,∀ j ∈ al,i < m → j < m → i ≠ j → xs i ≠ xs j) → wpList P ops Q (ops.toList.drop m) ⟨layAll ds xs t0,df⟩ W) :
  (Code.region id ops true).wp P Q ⟨t0,df⟩ w:=by
 subst hn
 have htl' : ∀ i,i < ops.size → m ≤ i → ∀ j,j < i → ((needs .any ops i).contains j = true ∨ ∃ k,(needs .any ops i).contains k = true ∧ (needs .any ops k).contains j = true):=fun i hi hmi j hj=>by
  unfold tailed at htl
  rw [List.all_eq_true] at htl
  have h1:=htl i (List.mem_range.2 hi)
  rw [Bool.or_eq_true,decide_eq_true_eq,List.all_eq_true] at h1
  rcases h1 with h1 | h1
  ·omega
  ·have h2:=h1 j (List.mem_range.2 hj)
   rw [Bool.or_eq_true] at h2
   rcases h2 with h2 | h2
   ·exact .inl h2
   ·rw [List.any_eq_true] at h2
    obtain ⟨k,hk,hk2⟩:=h2
    exact .inr ⟨k,List.contains_iff_mem.2 hk,hk2⟩
 have tolist : ∀ i (hi : i < ops.size),ops.toList.drop i = ops[i] :: ops.toList.drop (i + 1):=fun i hi=>by
  rw [List.drop_eq_getElem_cons (by simpa using hi)]; simp
 have wplist_at : ∀ i (hi : i < ops.size) a W (K : Act → World → Prop),(∀ a' W',wpList P ops Q (ops.toList.drop (i + 1)) a' W' → K a' W') → wpList P ops Q (ops.toList.drop i) a W → wpOp P ops Q i K a W:=fun i hi a W K hK h=>by
  rw [tolist i hi] at h
  refine wpOp_mono hK ?_
  unfold wpOp
  rw [Array.getElem?_eq_getElem hi]
  exact h
 have tailstart : ∀ l a W,(∃ xs,a = ⟨layAll ds xs t0,df⟩ ∧ G (Did l) W ∧ (∀ j,j < m → Did l j → S j (xs j) W) ∧ (∀ i ∈ al,∀ j ∈ al,i < m → j < m → i ≠ j → Did l i → Did l j → xs i ≠ xs j)) → (∀ j,j < m → Did l j) → wpList P ops Q (ops.toList.drop m) a W:=by
  rintro l a W ⟨xs,rfl,hb,hs,hd⟩ hall
  exact tail xs W (Did l) hall hb (fun j hj=>hs j hj (hall j hj)) fun i hi j hj h1 h2 hij=>hd i hi j hj h1 h2 hij (hall i h1) (hall j h2)
 have hGz : ∀ l : Array Bool,(∀ i,¬ Did l i) → G (Did l) w.drew:=fun l hl=>by
  have e : (fun _=>False) = Did l:=funext fun i=>propext ⟨fun h=>h.elim,fun h=>hl i h⟩
  rw [← e]; exact hG0
 refine wp_region_inv (fun l a W=>(∃ k,m ≤ k ∧ k ≤ ops.size ∧ (∀ i,i < ops.size → (Did l i ↔ i < k)) ∧ wpList P ops Q (ops.toList.drop k) a W) ∨
  ((∀ i,m ≤ i → i < ops.size → ¬ Did l i) ∧ ∃ xs,a = ⟨layAll ds xs t0,df⟩ ∧ G (Did l) W ∧ (∀ j,j < m → Did l j → S j (xs j) W) ∧ (∀ i ∈ al,∀ j ∈ al,i < m → j < m → i ≠ j → Did l i → Did l j → xs i ≠ xs j))) hm ht ops.size rfl ?_ ?_ ?_
 ·intro l hl
  refine .inr ⟨fun i _ _=>hl i,fun i=>((ds.find? fun p=>p.2 == i).map fun p=>t0.getD p.1 undef).getD undef,?_,hGz l hl,fun j _ h=>absurd h (hl j),fun i _ j _ _ _ _ h=>absurd h (hl i)⟩
  rw [layAll_same]
  intro p hp
  have : ds.find? (fun q=>q.2 == p.2) = some p:=by
   clear step tail hal hds tailstart hG0 hGz
   induction ds with
   | nil=>cases hp
   | cons q r ih =>
     unfold once at ho
     rw [Bool.and_eq_true,List.all_eq_true] at ho
     rcases List.mem_cons.1 hp with e | hp
     ·subst e
      rw [List.find?_cons_of_pos (by simp)]
     ·have:=ho.1 p hp
      rw [Bool.and_eq_true] at this
      have h2 : p.2 ≠ q.2:=by simpa using this.2
      rw [List.find?_cons_of_neg (by simpa using fun e=>h2 e.symm)]
      exact ih ho.2 hp
  rw [this]; rfl
 ·have key : ∀ i, i < ops.size → StepAt P .any ops Q (fun l a W => (∃ k, m ≤ k ∧ k ≤ ops.size ∧ (∀ i, i < ops.size → (Did l i ↔ i < k)) ∧ wpList P ops Q (ops.toList.drop k) a W) ∨
   ((∀ i,m ≤ i → i < ops.size → ¬ Did l i) ∧ ∃ xs,a = ⟨layAll ds xs t0,df⟩ ∧ G (Did l) W ∧ (∀ j,j < m → Did l j → S j (xs j) W) ∧ (∀ i ∈ al,∀ j ∈ al,i < m → j < m → i ≠ j → Did l i → Did l j → xs i ≠ xs j))) i:=by
   intro i hi l a W hil hI hnd hneed hshut
   rcases Nat.lt_or_ge i m with him | him
   ·rcases hI with ⟨k,hk,-,hkd,-⟩ | ⟨hno,xs,rfl,hb,hS,hD⟩
    ·exact absurd ((hkd i hi).2 (by omega)) hnd
    ·obtain ⟨o, d, hoi, hod, hd1, hd2⟩ : ∃ (o : Oper) (d : Option Nat), ops[i]? = some o ∧ o.dst = d ∧ (∀ e, d = some e → (e, i) ∈ ds) ∧ (d = none → ∀ p ∈ ds, p.2 ≠ i) := by
      rw [List.all_eq_true] at hds
      have:=hds i (List.mem_range.2 him)
      rw [Array.getElem?_eq_getElem hi] at this ⊢
      refine ⟨_,_,rfl,rfl,?_⟩
      cases hdd : (ops[i]).dst with
      | some d =>
        simp only [hdd] at this
        exact ⟨(fun e he=>by cases he; exact List.contains_iff_mem.1 this),(fun h=>by cases h)⟩
      | none =>
        simp only [hdd,List.all_eq_true] at this
        exact ⟨(fun e he=>by cases he),fun _ p hp=>by simpa using this p hp⟩
     have hjm : ∀ j,(needs .any ops i).contains j = true → j < m:=fun j hj=>by
      unfold topo at ht
      rw [List.all_eq_true] at ht
      have h1:=ht i (List.mem_range.2 hi)
      rw [List.all_eq_true] at h1
      have h2:=h1 j (by rwa [List.contains_iff_mem] at hj)
      have h3 : j < i:=by simpa using h2
      omega
     have hex : (fun j=>j = i ∨ Did l j) = Did (l.setIfInBounds i true):=funext fun j=>propext (did_set hil j).symm
     obtain ⟨o,ho2,hst⟩:=step.at i him xs W (Did l) hnd hb (fun j hj=>⟨hS j (hjm j hj) (hneed j hj),hneed j hj⟩) (K:=fun a' W'=>(∃ k,m ≤ k ∧ k ≤ ops.size ∧ (∀ i',i' < ops.size → (Did (l.setIfInBounds i true) i' ↔ i' < k)) ∧ wpList P ops Q (ops.toList.drop k) a' W') ∨
      ((∀ i',m ≤ i' → i' < ops.size → ¬ Did (l.setIfInBounds i true) i') ∧ ∃ xs,a' = ⟨layAll ds xs t0,df⟩ ∧ G (Did (l.setIfInBounds i true)) W' ∧ (∀ j,j < m → Did (l.setIfInBounds i true) j → S j (xs j) W') ∧ (∀ i' ∈ al,∀ j ∈ al,i' < m → j < m → i' ≠ j → Did (l.setIfInBounds i true) i' → Did (l.setIfInBounds i true) j → xs i' ≠ xs j))) d hd1 hd2 (by rw [hoi,← hod]; rfl)
      (fun v W' hv hb' hst' hfr=>.inr ⟨fun i' h1 h2 h3=>by
       rcases (did_set hil i').1 h3 with e | e
       ·omega
       ·exact hno i' h1 h2 e,fun j=>if j = i then v else xs j,(by
       cases d with
       | some d=>rw [layAll_put d i v xs ds t0 ho (hd1 d rfl)]; rfl
       | none=>rw [layAll_other i v xs ds t0 (hd2 rfl)]; rfl),(by rw [← hex]; exact hb'),fun j h1 h2=>by
       show S j (if j = i then v else xs j) W'
       by_cases e : j = i
       ·subst e; rw [if_pos rfl]; exact hv
       ·rw [if_neg e]
        exact hst' j _ (hS j h1 (((did_set hil j).1 h2).resolve_left e)),fun i' h1 j h2 h3 h4 h5 h6 h7=>by
       show (if i' = i then v else xs i') ≠ if j = i then v else xs j
       by_cases e : i' = i
       ·subst e
        have e2 : j ≠ i':=fun e=>h5 e.symm
        rw [if_pos rfl,if_neg e2,hfr h1]
        obtain ⟨g,hg,hg2⟩:=hal j h2 _ _ (hS j h4 (((did_set hil j).1 h7).resolve_left e2))
        rw [hg]
        intro hh
        simp at hh
        omega
       ·rw [if_neg e]
        by_cases e2 : j = i
        ·subst e2
         rw [if_pos rfl,hfr h2]
         obtain ⟨g,hg,hg2⟩:=hal i' h1 _ _ (hS i' h3 (((did_set hil i').1 h6).resolve_left e))
         rw [hg]
         intro hh
         simp at hh
         omega
        ·rw [if_neg e2]
         exact hD i' h1 j h2 h3 h4 h5 (((did_set hil i').1 h6).resolve_left e) (((did_set hil j).1 h7).resolve_left e2)⟩)
     unfold wpOp
     rw [ho2]
     show if Region.wanted o (yielded ops _) = true then _ else _
     split
     ·rename_i hw; rw [if_pos hw] at hst; exact .inl hst
     ·rename_i hw; rw [if_neg hw] at hst; exact hst
   ·have hbel : ∀ j, j < i → Did l j := fun j hj => by
     rcases htl' i hi him j hj with g | ⟨k,g1,g2⟩
     ·exact hneed j g
     ·exact hshut k j g2 (hneed k g1)
    have habove : ∀ j,i < j → j < ops.size → ¬ Did l j:=fun j hj hjs hd=>hnd (by
     rcases htl' j hjs (by omega) i hj with g | ⟨k,g1,g2⟩
     ·exact hshut j i g hd
     ·exact hshut k i g2 (hshut j k g1 hd))
    have hset : ∀ i',i' < ops.size → (Did (l.setIfInBounds i true) i' ↔ i' < i + 1):=fun i' h1=>by
     rw [did_set hil]
     constructor
     ·rintro (e | e)
      ·omega
      ·rcases Nat.lt_or_ge i i' with g | g
       ·exact absurd e (habove i' g h1)
       ·omega
     ·intro e
      rcases Nat.lt_or_ge i' i with g | g
      ·exact .inr (hbel i' g)
      ·exact .inl (by omega)
    refine wplist_at i hi a W _ (fun a' W' h=>.inl ⟨i + 1,by omega,hi,hset,h⟩) ?_
    rcases hI with ⟨k,hk,hks,hkd,hw⟩ | ⟨hno,hx⟩
    ·have : k = i := by
      have h1 : ¬ i < k:=fun h=>hnd ((hkd i hi).2 h)
      rcases Nat.lt_or_ge k i with g | g
      ·exact absurd ((hkd k (by omega)).1 (hbel k g)) (by omega)
      ·omega
     subst this
     exact hw
    ·have : i = m := by
      rcases Nat.lt_or_ge m i with g | g
      ·exact absurd (hbel m g) (hno m (Nat.le_refl _) (by omega))
      ·omega
     subst this
     exact tailstart l a W hx hbel
  have gen : ∀ k,k ≤ ops.size → AllBelow (StepAt P .any ops Q (fun l a W=>(∃ k,m ≤ k ∧ k ≤ ops.size ∧ (∀ i,i < ops.size → (Did l i ↔ i < k)) ∧ wpList P ops Q (ops.toList.drop k) a W) ∨
   ((∀ i,m ≤ i → i < ops.size → ¬ Did l i) ∧ ∃ xs,a = ⟨layAll ds xs t0,df⟩ ∧ G (Did l) W ∧ (∀ j,j < m → Did l j → S j (xs j) W) ∧ (∀ i ∈ al,∀ j ∈ al,i < m → j < m → i ≠ j → Did l i → Did l j → xs i ≠ xs j)))) k:=by
   intro k
   induction k with
   | zero=>intro _; trivial
   | succ k ih=>intro h; exact ⟨ih (by omega),key k (by omega)⟩
  exact gen _ (Nat.le_refl _)
 ·rintro l a W hall (⟨k,hk,hks,hkd,hw⟩ | ⟨hno,hx⟩)
  ·have : k = ops.size := by
    rcases Nat.lt_or_ge k ops.size with g | g
    ·exact absurd ((hkd k g).1 (hall k g)) (by omega)
    ·omega
   subst this
   rw [List.drop_eq_nil_of_le (by simp)] at hw
   exact hw
  ·have : m = ops.size := by
    rcases Nat.lt_or_ge m ops.size with g | g
    ·exact absurd (hall m g) (hno m (Nat.le_refl _) g)
    ·omega
   have:=tailstart l a W hx fun j hj=>hall j (by omega)
   rw [List.drop_eq_nil_of_le (by simp; omega)] at this
   exact this
theorem flow2_step {ds : List (Nat × Nat)} {al : List Nat} {S : Nat → Value → World → Prop} {G : (Nat → Prop) → World → Prop} {t0 : Array Value} {df : List Deferred} {i : Nat} (o : Oper) (d0 : Option Nat) (ho : ops[i]? = some o) (hgd : o.guard = none) (hd : o.dst = d0) (h1 : once ds = true) (h2 : within ds t0.size = true)
  (hGi : ∀ D W,¬ D i → G D W → G (fun j=>j = i ∨ D j) W) (hGb : ∀ D W W',G D W → Below W.heap.size W W' → G D W') (hstab : ∀ j v W W',S j v W → Below W.heap.size W W' → S j v W')
  (h : ∀ (a : Act) xs W (D : Nat → Prop),(∀ d,a.eval (.tmp d) = look ds xs t0 d) → ¬ D i → G D W → (∀ j,(needs .any ops i).contains j = true → S j (xs j) W) → ∀ K : Act → World → Prop,
   (∀ v W',S i v W' → Below W.heap.size W W' → (i ∈ al → v = .pointer (some ⟨W.heap.size,0,none⟩)) → K (a.put d0 v) W') → Oper.wp P o a W K Q) : FlowAt2 P ops Q ds al S G t0 df i:=by
 intro xs W D hD hG hS K d hd1 hd2 hd3 hK
 have hdd : d = d0 := by rw [ho] at hd3; have : o.dst = d := by simpa using hd3
                         rw [← this,hd]
 subst hdd
 refine ⟨o,ho,?_⟩
 have hw : Region.wanted o (yielded ops (layAll ds xs t0)) = true:=by simp [Region.wanted,hgd]
 rw [if_pos hw]
 exact h ⟨layAll ds xs t0,df⟩ xs W D (fun d=>layAll_look xs d ds t0 h1 h2) hD hG (fun j hj=>(hS j hj).1) K fun v W' hv hb hf=>hK v W' hv (hGb _ _ _ (hGi D W hD hG) hb) (fun j u hu=>hstab j u W W' hu hb) hf
theorem flow2_store {ds : List (Nat × Nat)} {al : List Nat} {S : Nat → Value → World → Prop} {G : (Nat → Prop) → World → Prop} {t0 : Array Value} {df : List Deferred} {i : Nat} (o : Oper) (ho : ops[i]? = some o) (hgd : o.guard = none) (hd : o.dst = none) (h1 : once ds = true) (h2 : within ds t0.size = true) (hial : i ∉ al)
  (h : ∀ (a : Act) xs W (D : Nat → Prop),(∀ d,a.eval (.tmp d) = look ds xs t0 d) → ¬ D i → G D W → (∀ j,(needs .any ops i).contains j = true → S j (xs j) W) → ∀ K : Act → World → Prop,
   (∀ W',S i undef W' → G (fun j=>j = i ∨ D j) W' → (∀ j u,S j u W → S j u W') → K (a.put o.dst undef) W') → Oper.wp P o a W K Q) : FlowAt2 P ops Q ds al S G t0 df i:=by
 intro xs W D hD hG hS K d hd1 hd2 hd3 hK
 have hdd : d = none := by rw [ho] at hd3; have : o.dst = d := by simpa using hd3
                           rw [← this,hd]
 subst hdd
 refine ⟨o,ho,?_⟩
 have hw : Region.wanted o (yielded ops (layAll ds xs t0)) = true:=by simp [Region.wanted,hgd]
 rw [if_pos hw]
 exact h ⟨layAll ds xs t0,df⟩ xs W D (fun d=>layAll_look xs d ds t0 h1 h2) hD hG (fun j hj=>(hS j hj).1) K fun W' hv hg hst=>by
  rw [hd]; exact hK undef W' hv hg hst (fun h=>absurd h hial)
end
section
variable {P : Program} {ops : Array Oper} {Q : Exit → Act → World → Prop}
def FlowAt3 (P : Program) (ops : Array Oper) (Q : Exit → Act → World → Prop) (ds : List (Nat × Nat)) (al : List Nat) (S : Nat → (Nat → Value) → World → Prop) (G : (Nat → Prop) → World → Prop) (t0 : Array Value) (df : List Deferred) (i : Nat) : Prop:=
 ∀ xs W (D : Nat → Prop),¬ D i → G D W → (∀ j,(needs .any ops i).contains j = true → S j xs W ∧ D j) → ∀ K : Act → World → Prop,∀ d : Option Nat,(∀ e,d = some e → (e,i) ∈ ds) → (d = none → ∀ p ∈ ds,p.2 ≠ i) → ops[i]?.map (·.dst) = some d →
  (∀ v W',S i (fun j=>if j = i then v else xs j) W' → G (fun j=>j = i ∨ D j) W' → (∀ j (ys : Nat → Value),S j ys W → S j ys W') → (i ∈ al → v = .pointer (some ⟨W.heap.size,0,none⟩)) → K (Act.put ⟨layAll ds xs t0,df⟩ d v) W') →
  ∃ o,ops[i]? = some o ∧ (if Region.wanted o (yielded ops (layAll ds xs t0)) = true then Oper.wp P o ⟨layAll ds xs t0,df⟩ W K Q else K (Act.put ⟨layAll ds xs t0,df⟩ o.dst undef) W)
theorem wp_region_flow3G {id : Nat} {t0 : Array Value} {df : List Deferred} {w : World} (m n : Nat) (ds : List (Nat × Nat)) (al : List Nat) (S : Nat → (Nat → Value) → World → Prop) (G : (Nat → Prop) → World → Prop) (hG0 : G (fun _ => False) w.drew)
  (hm : P.follows .mixedOrders = true) (ht : topo .any ops = true) (hn : ops.size = n) (hmn : m ≤ n) (htl' : ∀ i,i < ops.size → m ≤ i → ∀ j,j < i → ∀ D : Nat → Prop,(∀ k,(needs .any ops i).contains k = true → D k) → (∀ x y,(needs .any ops x).contains y = true → D x → D y) → D j) (ho : once ds = true) (hds : ((List.range m).all fun i=>match ops[i]? with | some o=>(match o.dst with | some d=>ds.contains (d,i) | none=>ds.all fun p=>p.2 != i) | none=>false) = true)
  (hal : ∀ j ∈ al,∀ (xs : Nat → Value) W,S j xs W → ∃ g,xs j = .pointer (some ⟨g,0,none⟩) ∧ g < W.heap.size)
  (hc : ∀ j (xs ys : Nat → Value) W,(∀ k,k = j ∨ (needs .any ops j).contains k = true → xs k = ys k) → S j xs W → S j ys W)
  (step : AllBelow (FlowAt3 P ops Q ds al S G t0 df) m)
  (tail : ∀ xs W (D : Nat → Prop),(∀ j,j < m → D j) → G D W → (∀ j,j < m → S j xs W) → (∀ i ∈ al,∀ j ∈ al,i < m → j < m → i ≠ j → xs i ≠ xs j) → wpList P ops Q (ops.toList.drop m) ⟨layAll ds xs t0,df⟩ W) :
  (Code.region id ops true).wp P Q ⟨t0,df⟩ w:=by
 subst hn
 have tolist : ∀ i (hi : i < ops.size),ops.toList.drop i = ops[i] :: ops.toList.drop (i + 1):=fun i hi=>by
  rw [List.drop_eq_getElem_cons (by simpa using hi)]; simp
 have wplist_at : ∀ i (hi : i < ops.size) a W (K : Act → World → Prop),(∀ a' W',wpList P ops Q (ops.toList.drop (i + 1)) a' W' → K a' W') → wpList P ops Q (ops.toList.drop i) a W → wpOp P ops Q i K a W:=fun i hi a W K hK h=>by
  rw [tolist i hi] at h
  refine wpOp_mono hK ?_
  unfold wpOp
  rw [Array.getElem?_eq_getElem hi]
  exact h
 have tailstart : ∀ l a W,(∃ xs,a = ⟨layAll ds xs t0,df⟩ ∧ G (Did l) W ∧ (∀ j,j < m → Did l j → S j xs W) ∧ (∀ i ∈ al,∀ j ∈ al,i < m → j < m → i ≠ j → Did l i → Did l j → xs i ≠ xs j)) → (∀ j,j < m → Did l j) → wpList P ops Q (ops.toList.drop m) a W:=by
  rintro l a W ⟨xs,rfl,hb,hs,hd⟩ hall
  exact tail xs W (Did l) hall hb (fun j hj=>hs j hj (hall j hj)) fun i hi j hj h1 h2 hij=>hd i hi j hj h1 h2 hij (hall i h1) (hall j h2)
 have hGz : ∀ l : Array Bool,(∀ i,¬ Did l i) → G (Did l) w.drew:=fun l hl=>by
  have e : (fun _=>False) = Did l:=funext fun i=>propext ⟨fun h=>h.elim,fun h=>hl i h⟩
  rw [← e]; exact hG0
 refine wp_region_inv (fun l a W=>(∃ k,m ≤ k ∧ k ≤ ops.size ∧ (∀ i,i < ops.size → (Did l i ↔ i < k)) ∧ wpList P ops Q (ops.toList.drop k) a W) ∨
  ((∀ i,m ≤ i → i < ops.size → ¬ Did l i) ∧ ∃ xs,a = ⟨layAll ds xs t0,df⟩ ∧ G (Did l) W ∧ (∀ j,j < m → Did l j → S j xs W) ∧ (∀ i ∈ al,∀ j ∈ al,i < m → j < m → i ≠ j → Did l i → Did l j → xs i ≠ xs j))) hm ht ops.size rfl ?_ ?_ ?_
 ·intro l hl
  refine .inr ⟨fun i _ _=>hl i,fun i=>((ds.find? fun p=>p.2 == i).map fun p=>t0.getD p.1 undef).getD undef,?_,hGz l hl,fun j _ h=>absurd h (hl j),fun i _ j _ _ _ _ h=>absurd h (hl i)⟩
  rw [layAll_same]
  intro p hp
  have : ds.find? (fun q=>q.2 == p.2) = some p:=by
   clear step tail hal hds tailstart hG0 hGz
   induction ds with
   | nil=>cases hp
   | cons q r ih =>
     unfold once at ho
     rw [Bool.and_eq_true,List.all_eq_true] at ho
     rcases List.mem_cons.1 hp with e | hp
     ·subst e
      rw [List.find?_cons_of_pos (by simp)]
     ·have:=ho.1 p hp
      rw [Bool.and_eq_true] at this
      have h2 : p.2 ≠ q.2:=by simpa using this.2
      rw [List.find?_cons_of_neg (by simpa using fun e=>h2 e.symm)]
      exact ih ho.2 hp
  rw [this]; rfl
 ·have key : ∀ i, i < ops.size → StepAt P .any ops Q (fun l a W => (∃ k, m ≤ k ∧ k ≤ ops.size ∧ (∀ i, i < ops.size → (Did l i ↔ i < k)) ∧ wpList P ops Q (ops.toList.drop k) a W) ∨
   ((∀ i,m ≤ i → i < ops.size → ¬ Did l i) ∧ ∃ xs,a = ⟨layAll ds xs t0,df⟩ ∧ G (Did l) W ∧ (∀ j,j < m → Did l j → S j xs W) ∧ (∀ i ∈ al,∀ j ∈ al,i < m → j < m → i ≠ j → Did l i → Did l j → xs i ≠ xs j))) i:=by
   intro i hi l a W hil hI hnd hneed hshut
   rcases Nat.lt_or_ge i m with him | him
   ·rcases hI with ⟨k,hk,-,hkd,-⟩ | ⟨hno,xs,rfl,hb,hS,hD⟩
    ·exact absurd ((hkd i hi).2 (by omega)) hnd
    ·obtain ⟨o, d, hoi, hod, hd1, hd2⟩ : ∃ (o : Oper) (d : Option Nat), ops[i]? = some o ∧ o.dst = d ∧ (∀ e, d = some e → (e, i) ∈ ds) ∧ (d = none → ∀ p ∈ ds, p.2 ≠ i) := by
      rw [List.all_eq_true] at hds
      have:=hds i (List.mem_range.2 him)
      rw [Array.getElem?_eq_getElem hi] at this ⊢
      refine ⟨_,_,rfl,rfl,?_⟩
      cases hdd : (ops[i]).dst with
      | some d =>
        simp only [hdd] at this
        exact ⟨(fun e he=>by cases he; exact List.contains_iff_mem.1 this),(fun h=>by cases h)⟩
      | none =>
        simp only [hdd,List.all_eq_true] at this
        exact ⟨(fun e he=>by cases he),fun _ p hp=>by simpa using this p hp⟩
     have hjm : ∀ j,(needs .any ops i).contains j = true → j < m:=fun j hj=>by
      unfold topo at ht
      rw [List.all_eq_true] at ht
      have h1:=ht i (List.mem_range.2 hi)
      rw [List.all_eq_true] at h1
      have h2:=h1 j (by rwa [List.contains_iff_mem] at hj)
      have h3 : j < i:=by simpa using h2
      omega
     have hex : (fun j=>j = i ∨ Did l j) = Did (l.setIfInBounds i true):=funext fun j=>propext (did_set hil j).symm
     obtain ⟨o,ho2,hst⟩:=step.at i him xs W (Did l) hnd hb (fun j hj=>⟨hS j (hjm j hj) (hneed j hj),hneed j hj⟩) (K:=fun a' W'=>(∃ k,m ≤ k ∧ k ≤ ops.size ∧ (∀ i',i' < ops.size → (Did (l.setIfInBounds i true) i' ↔ i' < k)) ∧ wpList P ops Q (ops.toList.drop k) a' W') ∨
      ((∀ i',m ≤ i' → i' < ops.size → ¬ Did (l.setIfInBounds i true) i') ∧ ∃ xs,a' = ⟨layAll ds xs t0,df⟩ ∧ G (Did (l.setIfInBounds i true)) W' ∧ (∀ j,j < m → Did (l.setIfInBounds i true) j → S j xs W') ∧ (∀ i' ∈ al,∀ j ∈ al,i' < m → j < m → i' ≠ j → Did (l.setIfInBounds i true) i' → Did (l.setIfInBounds i true) j → xs i' ≠ xs j))) d hd1 hd2 (by rw [hoi,← hod]; rfl)
      (fun v W' hv hb' hst' hfr=>.inr ⟨fun i' h1 h2 h3=>by
       rcases (did_set hil i').1 h3 with e | e
       ·omega
       ·exact hno i' h1 h2 e,fun j=>if j = i then v else xs j,(by
       cases d with
       | some d=>rw [layAll_put d i v xs ds t0 ho (hd1 d rfl)]; rfl
       | none=>rw [layAll_other i v xs ds t0 (hd2 rfl)]; rfl),(by rw [← hex]; exact hb'),fun j h1 h2=>by
       by_cases e : j = i
       ·subst e; exact hv
       ·have hdj:=((did_set hil j).1 h2).resolve_left e
        refine hc j xs _ W' (fun k hk=>?_) (hst' j xs (hS j h1 hdj))
        have hki : k ≠ i:=by
         rcases hk with hk | hk
         ·rw [hk]; exact e
         ·intro hh; subst hh; exact hnd (hshut j k hk hdj)
        show xs k = if k = i then v else xs k
        rw [if_neg hki],fun i' h1 j h2 h3 h4 h5 h6 h7=>by
       show (if i' = i then v else xs i') ≠ if j = i then v else xs j
       by_cases e : i' = i
       ·subst e
        have e2 : j ≠ i':=fun e=>h5 e.symm
        rw [if_pos rfl,if_neg e2,hfr h1]
        obtain ⟨g,hg,hg2⟩:=hal j h2 _ _ (hS j h4 (((did_set hil j).1 h7).resolve_left e2))
        rw [hg]
        intro hh
        simp at hh
        omega
       ·rw [if_neg e]
        by_cases e2 : j = i
        ·subst e2
         rw [if_pos rfl,hfr h2]
         obtain ⟨g,hg,hg2⟩:=hal i' h1 _ _ (hS i' h3 (((did_set hil i').1 h6).resolve_left e))
         rw [hg]
         intro hh
         simp at hh
         omega
        ·rw [if_neg e2]
         exact hD i' h1 j h2 h3 h4 h5 (((did_set hil i').1 h6).resolve_left e) (((did_set hil j).1 h7).resolve_left e2)⟩)
     unfold wpOp
     rw [ho2]
     show if Region.wanted o (yielded ops _) = true then _ else _
     split
     ·rename_i hw; rw [if_pos hw] at hst; exact .inl hst
     ·rename_i hw; rw [if_neg hw] at hst; exact hst
   ·have hbel : ∀ j,j < i → Did l j:=fun j hj=>htl' i hi him j hj (Did l) hneed fun x y h1 h2=>hshut x y h1 h2
    have habove : ∀ j,i < j → j < ops.size → ¬ Did l j:=fun j hj hjs hd=>hnd (htl' j hjs (by omega) i hj (Did l) (fun k h1=>hshut j k h1 hd) fun x y h1 h2=>hshut x y h1 h2)
    have hset : ∀ i',i' < ops.size → (Did (l.setIfInBounds i true) i' ↔ i' < i + 1):=fun i' h1=>by
     rw [did_set hil]
     constructor
     ·rintro (e | e)
      ·omega
      ·rcases Nat.lt_or_ge i i' with g | g
       ·exact absurd e (habove i' g h1)
       ·omega
     ·intro e
      rcases Nat.lt_or_ge i' i with g | g
      ·exact .inr (hbel i' g)
      ·exact .inl (by omega)
    refine wplist_at i hi a W _ (fun a' W' h=>.inl ⟨i + 1,by omega,hi,hset,h⟩) ?_
    rcases hI with ⟨k,hk,hks,hkd,hw⟩ | ⟨hno,hx⟩
    ·have : k = i := by
      have h1 : ¬ i < k:=fun h=>hnd ((hkd i hi).2 h)
      rcases Nat.lt_or_ge k i with g | g
      ·exact absurd ((hkd k (by omega)).1 (hbel k g)) (by omega)
      ·omega
     subst this
     exact hw
    ·have : i = m := by
      rcases Nat.lt_or_ge m i with g | g
      ·exact absurd (hbel m g) (hno m (Nat.le_refl _) (by omega))
      ·omega
     subst this
     exact tailstart l a W hx hbel
  have gen : ∀ k,k ≤ ops.size → AllBelow (StepAt P .any ops Q (fun l a W=>(∃ k,m ≤ k ∧ k ≤ ops.size ∧ (∀ i,i < ops.size → (Did l i ↔ i < k)) ∧ wpList P ops Q (ops.toList.drop k) a W) ∨
   ((∀ i,m ≤ i → i < ops.size → ¬ Did l i) ∧ ∃ xs,a = ⟨layAll ds xs t0,df⟩ ∧ G (Did l) W ∧ (∀ j,j < m → Did l j → S j xs W) ∧ (∀ i ∈ al,∀ j ∈ al,i < m → j < m → i ≠ j → Did l i → Did l j → xs i ≠ xs j)))) k:=by
   intro k
   induction k with
   | zero=>intro _; trivial
   | succ k ih=>intro h; exact ⟨ih (by omega),key k (by omega)⟩
  exact gen _ (Nat.le_refl _)
 ·rintro l a W hall (⟨k,hk,hks,hkd,hw⟩ | ⟨hno,hx⟩)
  ·have : k = ops.size := by
    rcases Nat.lt_or_ge k ops.size with g | g
    ·exact absurd ((hkd k g).1 (hall k g)) (by omega)
    ·omega
   subst this
   rw [List.drop_eq_nil_of_le (by simp)] at hw
   exact hw
  ·have : m = ops.size := by
    rcases Nat.lt_or_ge m ops.size with g | g
    ·exact absurd (hall m g) (hno m (Nat.le_refl _) g)
    ·omega
   have:=tailstart l a W hx fun j hj=>hall j (by omega)
   rw [List.drop_eq_nil_of_le (by simp; omega)] at this
   exact this
theorem wp_region_flow3 {id : Nat} {t0 : Array Value} {df : List Deferred} {w : World} (m n : Nat) (ds : List (Nat × Nat)) (al : List Nat) (S : Nat → (Nat → Value) → World → Prop) (G : (Nat → Prop) → World → Prop) (hG0 : G (fun _ => False) w.drew)
  (hm : P.follows .mixedOrders = true) (ht : topo .any ops = true) (hn : ops.size = n) (hmn : m ≤ n) (htl : tailed ops m = true) (ho : once ds = true) (hds : ((List.range m).all fun i=>match ops[i]? with | some o=>(match o.dst with | some d=>ds.contains (d,i) | none=>ds.all fun p=>p.2 != i) | none=>false) = true)
  (hal : ∀ j ∈ al,∀ (xs : Nat → Value) W,S j xs W → ∃ g,xs j = .pointer (some ⟨g,0,none⟩) ∧ g < W.heap.size)
  (hc : ∀ j (xs ys : Nat → Value) W,(∀ k,k = j ∨ (needs .any ops j).contains k = true → xs k = ys k) → S j xs W → S j ys W)
  (step : AllBelow (FlowAt3 P ops Q ds al S G t0 df) m)
  (tail : ∀ xs W (D : Nat → Prop),(∀ j,j < m → D j) → G D W → (∀ j,j < m → S j xs W) → (∀ i ∈ al,∀ j ∈ al,i < m → j < m → i ≠ j → xs i ≠ xs j) → wpList P ops Q (ops.toList.drop m) ⟨layAll ds xs t0,df⟩ W) :
  (Code.region id ops true).wp P Q ⟨t0,df⟩ w:=by
 refine wp_region_flow3G m n ds al S G hG0 hm ht hn hmn (fun i hi hmi j hj D hD hsh=>?_) ho hds hal hc step tail
 unfold tailed at htl
 rw [List.all_eq_true] at htl
 have h1:=htl i (List.mem_range.2 hi)
 rw [Bool.or_eq_true,decide_eq_true_eq,List.all_eq_true] at h1
 rcases h1 with h1 | h1
 ·omega
 ·have h2:=h1 j (List.mem_range.2 hj)
  rw [Bool.or_eq_true] at h2
  rcases h2 with h2 | h2
  ·exact hD j h2
  ·rw [List.any_eq_true] at h2
   obtain ⟨k,hk,hk2⟩:=h2
   exact hsh k j hk2 (hD k (List.contains_iff_mem.2 hk))
def reachL (ops : Array Oper) : Nat → List Nat → List Nat
 | 0,l=>l
 | n + 1,l=>reachL ops n (l ++ l.flatMap fun k=>needs .any ops k)
def tailedT (ops : Array Oper) (m n : Nat) : Bool:=(List.range ops.size).all fun i=>decide (i < m) || (List.range i).all fun j=>(reachL ops n (needs .any ops i)).contains j
theorem reachL_ok {D : Nat → Prop} (hsh : ∀ x y,(needs .any ops x).contains y = true → D x → D y) : ∀ n l,(∀ k ∈ l,D k) → ∀ k ∈ reachL ops n l,D k
 | 0,l,h,k,hk=>h k hk
 | n + 1, l, h, k, hk => by
   refine reachL_ok hsh n _ (fun k hk=>?_) k hk
   rcases List.mem_append.1 hk with hk | hk
   ·exact h k hk
   ·obtain ⟨x,hx,hk⟩:=List.mem_flatMap.1 hk
    exact hsh x k (List.contains_iff_mem.2 hk) (h x hx)
theorem wp_region_flow3T {id : Nat} {t0 : Array Value} {df : List Deferred} {w : World} (m n f : Nat) (ds : List (Nat × Nat)) (al : List Nat) (S : Nat → (Nat → Value) → World → Prop) (G : (Nat → Prop) → World → Prop) (hG0 : G (fun _ => False) w.drew)
  (hm : P.follows .mixedOrders = true) (ht : topo .any ops = true) (hn : ops.size = n) (hmn : m ≤ n) (htl : tailedT ops m f = true) (ho : once ds = true) (hds : ((List.range m).all fun i=>match ops[i]? with | some o=>(match o.dst with | some d=>ds.contains (d,i) | none=>ds.all fun p=>p.2 != i) | none=>false) = true)
  (hal : ∀ j ∈ al,∀ (xs : Nat → Value) W,S j xs W → ∃ g,xs j = .pointer (some ⟨g,0,none⟩) ∧ g < W.heap.size)
  (hc : ∀ j (xs ys : Nat → Value) W,(∀ k,k = j ∨ (needs .any ops j).contains k = true → xs k = ys k) → S j xs W → S j ys W)
  (step : AllBelow (FlowAt3 P ops Q ds al S G t0 df) m)
  (tail : ∀ xs W (D : Nat → Prop),(∀ j,j < m → D j) → G D W → (∀ j,j < m → S j xs W) → (∀ i ∈ al,∀ j ∈ al,i < m → j < m → i ≠ j → xs i ≠ xs j) → wpList P ops Q (ops.toList.drop m) ⟨layAll ds xs t0,df⟩ W) :
  (Code.region id ops true).wp P Q ⟨t0,df⟩ w:=by
 refine wp_region_flow3G m n ds al S G hG0 hm ht hn hmn (fun i hi hmi j hj D hD hsh=>?_) ho hds hal hc step tail
 unfold tailedT at htl
 rw [List.all_eq_true] at htl
 have h1:=htl i (List.mem_range.2 hi)
 rw [Bool.or_eq_true,decide_eq_true_eq,List.all_eq_true] at h1
 rcases h1 with h1 | h1
 ·omega
 ·exact reachL_ok hsh f _ (fun k hk=>hD k (List.contains_iff_mem.2 hk)) j (List.contains_iff_mem.1 (h1 j (List.mem_range.2 hj)))
theorem flow3_step {ds : List (Nat × Nat)} {al : List Nat} {S : Nat → (Nat → Value) → World → Prop} {G : (Nat → Prop) → World → Prop} {t0 : Array Value} {df : List Deferred} {i : Nat} (o : Oper) (d0 : Option Nat) (ho : ops[i]? = some o) (hgd : o.guard = none) (hd : o.dst = d0) (h1 : once ds = true) (h2 : within ds t0.size = true)
  (hGi : ∀ D W,¬ D i → G D W → G (fun j=>j = i ∨ D j) W) (hGb : ∀ D W W',G D W → Below W.heap.size W W' → G D W') (hstab : ∀ j (ys : Nat → Value) W W',S j ys W → Below W.heap.size W W' → S j ys W')
  (h : ∀ (a : Act) xs W (D : Nat → Prop),(∀ d,a.eval (.tmp d) = look ds xs t0 d) → ¬ D i → G D W → (∀ j,(needs .any ops i).contains j = true → S j xs W) → ∀ K : Act → World → Prop,
   (∀ v W',S i (fun j=>if j = i then v else xs j) W' → Below W.heap.size W W' → (i ∈ al → v = .pointer (some ⟨W.heap.size,0,none⟩)) → K (a.put d0 v) W') → Oper.wp P o a W K Q) : FlowAt3 P ops Q ds al S G t0 df i:=by
 intro xs W D hD hG hS K d hd1 hd2 hd3 hK
 have hdd : d = d0 := by rw [ho] at hd3; have : o.dst = d := by simpa using hd3
                         rw [← this,hd]
 subst hdd
 refine ⟨o,ho,?_⟩
 have hw : Region.wanted o (yielded ops (layAll ds xs t0)) = true:=by simp [Region.wanted,hgd]
 rw [if_pos hw]
 exact h ⟨layAll ds xs t0,df⟩ xs W D (fun d=>layAll_look xs d ds t0 h1 h2) hD hG (fun j hj=>(hS j hj).1) K fun v W' hv hb hf=>hK v W' hv (hGb _ _ _ (hGi D W hD hG) hb) (fun j u hu=>hstab j u W W' hu hb) hf
theorem flow3_store {ds : List (Nat × Nat)} {al : List Nat} {S : Nat → (Nat → Value) → World → Prop} {G : (Nat → Prop) → World → Prop} {t0 : Array Value} {df : List Deferred} {i : Nat} (o : Oper) (ho : ops[i]? = some o) (hgd : o.guard = none) (hd : o.dst = none) (h1 : once ds = true) (h2 : within ds t0.size = true) (hial : i ∉ al)
  (h : ∀ (a : Act) xs W (D : Nat → Prop),(∀ d,a.eval (.tmp d) = look ds xs t0 d) → ¬ D i → G D W → (∀ j,(needs .any ops i).contains j = true → S j xs W) → ∀ K : Act → World → Prop,
   (∀ W',S i (fun j=>if j = i then undef else xs j) W' → G (fun j=>j = i ∨ D j) W' → (∀ j (ys : Nat → Value),S j ys W → S j ys W') → K (a.put o.dst undef) W') → Oper.wp P o a W K Q) : FlowAt3 P ops Q ds al S G t0 df i:=by
 intro xs W D hD hG hS K d hd1 hd2 hd3 hK
 have hdd : d = none := by rw [ho] at hd3; have : o.dst = d := by simpa using hd3
                           rw [← this,hd]
 subst hdd
 refine ⟨o,ho,?_⟩
 have hw : Region.wanted o (yielded ops (layAll ds xs t0)) = true:=by simp [Region.wanted,hgd]
 rw [if_pos hw]
 exact h ⟨layAll ds xs t0,df⟩ xs W D (fun d=>layAll_look xs d ds t0 h1 h2) hD hG (fun j hj=>(hS j hj).1) K fun W' hv hg hst=>by
  rw [hd]; exact hK undef W' hv hg hst (fun h=>absurd h hial)
end
end Go.Proofs.YtlbokicainimnaaGreatDoor
