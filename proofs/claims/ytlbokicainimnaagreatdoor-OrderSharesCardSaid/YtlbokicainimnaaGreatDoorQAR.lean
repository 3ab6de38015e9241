import Derived.Test.YtlbokicainimnaaGreatDoorQQV
import Derived.Test.YtlbokicainimnaaGreatDoorQWN
namespace Go.Proofs.YtlbokicainimnaaGreatDoor
open Go.RowKit
theorem num_setRow {w : World} {g : Nat} {cs old : Array Value} {t : TypeId} {s : Value} {N : Nat} (h : Num .u64 18446744073709551616 w s N) (hg : w.heap[g]? = some (.cells old t (0, 0))) (hno : ∀ (i : Nat) z, old[i]? ≠ some (.int .u64 z)) :
  Num .u64 18446744073709551616 (w.setRow g cs) s N:=by
 obtain ⟨xs,⟨p,n,cc,rfl,h1,h2,h3,h4,h5⟩,h6,h7⟩:=h
 refine ⟨xs,⟨p,n,cc,rfl,h1,h2,h3,h4,fun hn=>?_⟩,h6,h7⟩
 obtain ⟨b',o,rfl,hs,hc⟩:=h5 hn
 have hbg : b' ≠ g:=by
  rintro rfl
  have:=hc 0 hn
  simp [World.cell?,hg] at this
  exact hno _ _ this
 refine ⟨b',o,rfl,by rw [setRow_size]; exact hs,fun i hi=>?_⟩
 rw [← hc i hi]
 exact World.cell?_of_block (setRow_other _ _ _ _ hbg)
theorem WideI.nat {w : World} {x : Value} {N : Nat} (h : WideI w x (N : Int)) : ∃ a m c,x = .agg #[.bool false,.slice a m c] ∧ Num .u64 18446744073709551616 w (.slice a m c) N:=by
 obtain ⟨a,m,c,rfl,hn⟩:=h
 rw [decide_eq_false (by omega)]
 exact ⟨a,m,c,rfl,by simpa using hn⟩
theorem WideI.mk {w : World} {N : Nat} {a : Option Addr} {m c : Nat} (h : Num .u64 18446744073709551616 w (.slice a m c) N) : WideI w (.agg #[.bool false,.slice a m c]) (N : Int):=by
 refine ⟨a,m,c,by rw [decide_eq_false (by omega)],by simpa using h⟩
theorem WideQ.nat {N : Nat} {w : World} {b : Bool} {e : Ending} {w' : World} (h : WideQ b N w e w') (hb : b = false) : WideR (N : Int) w e w':=by
 subst hb
 exact h.toR (by rw [decide_eq_false (by omega)]) (by omega)
theorem left_n (x : Value) (N n : Nat) (w : World) (h : WideI w x (N : Int)) {bb : Nat} (hN : N < 2 ^ bb) (hbb : bb ≤ 4294967296) (hn : n ≤ 4294967296) :
  Calls Tryz.prog 104 #[x,.int .i64 (n : Nat)] w (WideR ((N * 2 ^ n : Nat) : Int) w):=by
 obtain ⟨a,m,c,rfl,hk⟩:=h.nat
 have:=left_any false (.slice a m c) N (n / 64) (n % 64) n w hk (by omega) (by omega) (by omega) hN hbb
 rw [show 64 * (n / 64) + n % 64 = n by omega] at this
 exact this.mono fun e w' hq=>hq.nat rfl
theorem bits_n (x : Value) (N : Nat) (w : World) (h : WideI w x (N : Int)) {bb : Nat} (hN : N < 2 ^ bb) (hbb : bb ≤ 4294967296) :
  Calls Tryz.prog 196 #[x] w fun e w'=>e = .returned (.int .i64 (blen N : Nat)) ∧ Below w.heap.size w w':=by
 obtain ⟨a,m,c,rfl,hk⟩:=h.nat
 exact bits_any false _ N w hk hN hbb
theorem sign_n (x : Value) (N : Nat) (w : World) (h : WideI w x (N : Int)) :
  Calls Tryz.prog 178 #[x] w fun e w'=>e = .returned (.int .i64 (if N = 0 then 0 else 1)) ∧ Below w.heap.size w w':=by
 obtain ⟨a,m,c,rfl,hk⟩:=h.nat
 exact sign_any false _ N w hk
theorem low_n (x : Value) (N : Nat) (w : World) (h : WideI w x (N : Int)) :
  Calls Tryz.prog 197 #[x] w fun e w'=>e = .returned (.int .u64 (N % 18446744073709551616 : Nat)) ∧ Below w.heap.size w w':=by
 obtain ⟨a,m,c,rfl,hk⟩:=h.nat
 exact low_any false _ N w hk
def WideR2 (Q R : Nat) (w : World) (e : Ending) (w' : World) : Prop:=∃ v v',e = .returned (.tuple #[v,v']) ∧ WideI w' v (Q : Int) ∧ WideI w' v' (R : Int) ∧ Below w.heap.size w w'
theorem quo_n (x y : Value) (M D : Nat) (w : World) (h : WideI w x (M : Int)) (h' : WideI w y (D : Int)) {bb : Nat} (hM : M < 2 ^ bb) (hbb : bb ≤ 4294900000) :
  Calls Tryz.prog 162 #[x,y] w (WideR2 (M / D) (M % D) w):=by
 obtain ⟨a,m,c,rfl,hk⟩:=h.nat
 obtain ⟨a',m',c',rfl,hk'⟩:=h'.nat
 refine (quo_any _ _ M D w hk hk' hM hbb).mono ?_
 rintro e w' ⟨v,v',rfl,⟨s,rfl,hs,-⟩,⟨s',rfl,hs',-⟩,hb⟩
 obtain ⟨b1,b2,b3,rfl⟩:=hs.shape
 obtain ⟨c1,c2,c3,rfl⟩:=hs'.shape
 exact ⟨_,_,rfl,.mk hs,.mk hs',hb⟩
theorem add_n (x y : Value) (M N : Nat) (w : World) (h : WideI w x (M : Int)) (h' : WideI w y (N : Int)) {bb : Nat} (hM : M < 2 ^ bb) (hN : N < 2 ^ bb) (hbb : bb ≤ 4294967296) :
  Calls Tryz.prog 166 #[x,y] w (WideR ((M + N : Nat) : Int) w):=by
 rw [Int.natCast_add]
 exact iadd_v x y M N w h h' (by simpa using hM) (by simpa using hN) hbb
theorem mul_n (x y : Value) (M N : Nat) (w : World) (h : WideI w x (M : Int)) (h' : WideI w y (N : Int)) {bb : Nat} (hM : M < 2 ^ bb) (hN : N < 2 ^ bb) (hbb : bb ≤ 4294967296) :
  Calls Tryz.prog 106 #[x,y] w (WideR ((M * N : Nat) : Int) w):=by
 rw [Int.natCast_mul]
 exact imul_v x y M N w h h' (by simpa using hM) (by simpa using hN) hbb
theorem cmp_n (x y : Value) (M N : Nat) (w : World) (h : WideI w x (M : Int)) (h' : WideI w y (N : Int)) {bb : Nat} (hM : M < 2 ^ bb) (hN : N < 2 ^ bb) (hbb : bb ≤ 4294967296) :
  Calls Tryz.prog 163 #[x,y] w fun e w'=>e = .returned (.int .i64 (ncmp M N)) ∧ Below w.heap.size w w':=by
 have e : ncmp M N = if (M : Int) = N then 0 else if (M : Int) < N then -1 else 1:=by unfold ncmp; split <;> split <;> (try split) <;> omega
 rw [e]
 exact icmp_v x y M N w h h' (by simpa using hM) (by simpa using hN) hbb
def IntRow (w : World) (g : Nat) : Prop:=∃ (x : Bool) (a : Option Addr) (m c : Nat),w.heap[g]? = some (.cells #[.bool x,.slice a m c] 123 (0,0))
def IR (w : World) (g N : Nat) : Prop:=∃ (a : Option Addr) (m c : Nat),w.heap[g]? = some (.cells #[.bool false,.slice a m c] 123 (0,0)) ∧ Num .u64 18446744073709551616 w (.slice a m c) N
theorem IR.row {w : World} {g N : Nat} (h : IR w g N) : IntRow w g:=by obtain ⟨a,m,c,h1,-⟩:=h; exact ⟨_,a,m,c,h1⟩
theorem IR.lt {w : World} {g N : Nat} (h : IR w g N) : g < w.heap.size:=by obtain ⟨a,m,c,h1,-⟩:=h; exact blk_lt h1
theorem IntRow.lt {w : World} {g : Nat} (h : IntRow w g) : g < w.heap.size:=by obtain ⟨x,a,m,c,h1⟩:=h; exact blk_lt h1
theorem IR.below {w w' : World} {g N : Nat} (h : IR w g N) (hb : Below w.heap.size w w') : IR w' g N:=by
 obtain ⟨a,m,c,h1,h2⟩:=h
 exact ⟨a,m,c,hb.blk h1 (blk_lt h1),h2.below (Nat.le_refl _) hb⟩
theorem IntRow.below {w w' : World} {g : Nat} (h : IntRow w g) (hb : Below w.heap.size w w') : IntRow w' g:=by
 obtain ⟨x,a,m,c,h1⟩:=h
 exact ⟨x,a,m,c,hb.blk h1 (blk_lt h1)⟩
theorem no_u64 (x : Bool) (a : Option Addr) (m c : Nat) : ∀ (i : Nat) z,(#[Value.bool x,Value.slice a m c] : Array Value)[i]? ≠ some (.int .u64 z):=by
 intro i z
 match i with
 | 0=>simp
 | 1=>simp
 | _ + 2=>simp
theorem WideI.set {w : World} {g : Nat} {cs : Array Value} {v : Value} {V : Int} (h : WideI w v V) (hg : IntRow w g) : WideI (w.setRow g cs) v V:=by
 obtain ⟨a,m,c,rfl,hn⟩:=h
 obtain ⟨x,a',m',c',h1⟩:=hg
 exact ⟨a,m,c,rfl,num_setRow hn h1 (no_u64 _ _ _ _)⟩
theorem IR.set {w : World} {g g' N : Nat} {cs : Array Value} (h : IR w g' N) (hg : IntRow w g) (hne : g' ≠ g) : IR (w.setRow g cs) g' N:=by
 obtain ⟨a,m,c,h1,h2⟩:=h
 obtain ⟨x,a',m',c',h3⟩:=hg
 exact ⟨a,m,c,(setRow_other w g g' _ hne).trans h1,num_setRow h2 h3 (no_u64 _ _ _ _)⟩
theorem IR.self {w : World} {g N : Nat} {cs : Array Value} (hg : IntRow w g) (hv : WideI w (.agg cs) (N : Int)) : IR (w.setRow g cs) g N:=by
 obtain ⟨a,m,c,e,hn⟩:=hv.nat
 cases e
 obtain ⟨x,a',m',c',h3⟩:=hg
 exact ⟨a,m,c,setRow_heap w g _ _ _ _ h3,num_setRow hn h3 (no_u64 _ _ _ _)⟩
theorem IR.val {w : World} {g N : Nat} (h : IR w g N) : ∃ (a : Option Addr) (m c : Nat),w.heap[g]? = some (.cells #[.bool false,.slice a m c] 123 (0,0)) ∧ WideI w (.agg #[.bool false,.slice a m c]) (N : Int):=by
 obtain ⟨a,m,c,h1,h2⟩:=h
 exact ⟨a,m,c,h1,.mk h2⟩
theorem intRow_new (w : World) : IntRow (w.alloc (.cells #[.bool false,.slice none 0 0] 123)) w.heap.size:=⟨_,_,_,_,heap_alloc_new _ _⟩
theorem IR.new {w : World} {N : Nat} {a : Option Addr} {m c : Nat} (h : WideI w (.agg #[.bool false,.slice a m c]) (N : Int)) : IR (w.alloc (.cells #[.bool false,.slice a m c] 123)) w.heap.size N:=by
 obtain ⟨a',m',c',e,hn⟩:=h.nat
 cases e
 exact ⟨a,m,c,heap_alloc_new _ _,hn.below (Nat.le_refl _) ((Below.refl _ _).alloc (Nat.le_refl _) _)⟩
theorem IR.put {w : World} {g N : Nat} {a : Option Addr} {m c : Nat} (hg : IntRow w g) (hv : Num .u64 18446744073709551616 w (.slice a m c) N) : IR ((w.setCell ⟨g,0,none⟩ (.bool false)).setCell ⟨g,1,none⟩ (.slice a m c)) g N:=by
 obtain ⟨x,a',m',c',h3⟩:=hg
 exact ⟨a,m,c,row2_set h3 _ _,hv.row h3 _ _⟩
theorem IR.off {w : World} {g g' N : Nat} {v : Value} (h : IR w g' N) (hg : IntRow w g) (hne : g' ≠ g) (y : Bool) : IR ((w.setCell ⟨g,0,none⟩ (.bool y)).setCell ⟨g,1,none⟩ v) g' N:=by
 obtain ⟨a,m,c,h1,h2⟩:=h
 obtain ⟨x,a',m',c',h3⟩:=hg
 exact ⟨a,m,c,row2_other h1 hne _ _,h2.row h3 _ _⟩
end Go.Proofs.YtlbokicainimnaaGreatDoor
