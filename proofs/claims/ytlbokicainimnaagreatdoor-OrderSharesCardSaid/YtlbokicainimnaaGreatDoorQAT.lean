import Derived.Test.YtlbokicainimnaaGreatDoorQAR
import Derived.Test.YtlbokicainimnaaGreatDoorQQW
namespace Go.Proofs.YtlbokicainimnaaGreatDoor
open Go.RowKit
open Go.Lib hiding intOf
theorem ten_lt2 (k : Nat) : 10 ^ k < 2 ^ (4 * k + 1):=by
 have h2 : 2 ^ (4 * k + 1) = 16 ^ k * 2:=by rw [Nat.pow_succ,Nat.pow_mul]
 have h3 : 10 ^ k ≤ 16 ^ k:=Nat.pow_le_pow_left (by decide) k
 have h4 : 0 < 10 ^ k:=Nat.pow_pos (by decide)
 omega
end Go.Proofs.YtlbokicainimnaaGreatDoor
set_option maxRecDepth 100000
namespace Go.Proofs.YtlbokicainimnaaGreatDoor
open Go.RowKit
theorem kindP_row {fn : Func} {p : Tmp} (h : fn.results = #[.cell p 248]) (tmps : Array Value) (w : World) (g : Nat) (a b c : Value)
  (hp : tmps.getD p undef = .pointer (some ⟨g,0,none⟩)) (hg : w.heap[g]? = some (.cells #[a,b,c] 248 (0,0))) : (results fn tmps).run Tryz.prog w = .ok (.agg #[a,b,c]) w:=
 results_cell_row h tmps w g _ _ _ _ hp hg Tryz.underlying248 rfl (by kernel_rfl)
theorem numbers_v (w : World) : Calls Tryz.prog 229 #[] w fun e w'=>e = .returned (.agg #[.int .i64 53,.int .i64 (-1074),.int .i64 971]) ∧ Below w.heap.size w w':=by
 go_enter Tryz.func229,Tryz.ntmps229
 go_wp2
 exact bodyPost_ret (kindP_row rfl _ _ w.heap.size _ _ _ rfl (heap_alloc_new _ _)) rfl ⟨rfl,(Below.refl _ _).alloc (Nat.le_refl _) _⟩
theorem ten_n (n : Nat) (w : World) (hn : n ≤ 100000) : Calls Tryz.prog 160 #[.int .i64 (n : Nat)] w (WideR ((10 ^ n : Nat) : Int) w):=by
 have HP : Hid (∀ W,Calls Tryz.prog 99 #[.int .u64 10,.int .i64 (n : Nat)] W (WideR ((10 ^ n : Nat) : Int) W)):=fun W=>
  power_v 10 n W (by decide) (bb:=4 * n + 1) (fun i hi=>Nat.lt_of_lt_of_le (ten_lt2 i) (Nat.pow_le_pow_right (by decide) (by omega))) (by omega) (by omega)
 have HB0 : Hid (Below w.heap.size w (w.alloc (.cells #[.bool false,.slice none 0 0] 123))):=(Below.refl _ _).alloc (Nat.le_refl _) _
 have q0:=new_blk w (.cells #[.bool false,.slice none 0 0] 123)
 have HQ0 : Hid _:=q0
 clear hn q0
 go_enter Tryz.func160,Tryz.ntmps160
 go_wp2_with fail
 refine (HP.out _).mono ?_
 rintro e w1 ⟨v,rfl,hv,hb⟩
 obtain ⟨a,m,c,rfl,hnm⟩:=hv.nat
 have q1:=hb.blk HQ0.out (blk_lt HQ0.out)
 obtain ⟨f0,f1,c0,c1,f2,c2⟩:=row2 q1
 have HQ1 : Hid _:=q1
 have HN : Hid (Num .u64 18446744073709551616 w1 (.slice a m c) (10 ^ n)):=hnm
 have HB1 : Hid (Below w.heap.size w w1):=HB0.out.thru hb
 clear hv hnm q1 hb
 go_wp2
 exact wide_endV (p:=2) rfl rfl HQ1.out HN.out HB1.out (Nat.le_refl _) (by rw [decide_eq_false (Int.not_lt.2 (Int.natCast_nonneg _))])
def DecsAt (w : World) (g : Nat) (ds : List Dc) : Prop:=∀ i (h : i < ds.length),w.cell? ⟨g,i * 3,none⟩ = some (.bool ds[i].neg) ∧ w.cell? ⟨g,i * 3 + 1,none⟩ = some (.string (bs ds[i].s)) ∧ w.cell? ⟨g,i * 3 + 2,none⟩ = some (.int .i64 ds[i].e)
theorem take_okB {α : Type} {p : α → Bool} {l : List α} {j : Nat} (hj : j < l.length) (h : (l.take j).all p = true) (hp : p l[j] = true) : (l.take (j + 1)).all p = true:=by
 rw [List.take_succ_eq_append_getElem hj,List.all_append,h]; simp [hp]
theorem may_v (m : Int) (ds : List Dc) (g c : Nat) (w : World) (hg : g < w.heap.size) (hd : DecsAt w g ds) (hc : ds.length ≤ c) (hc2 : c ≤ 1000) (hs : ∀ d ∈ ds, d.s.length ≤ 9223372036854775807) :
  Calls Tryz.prog 107 #[.int .i64 m,.slice (some ⟨g,0,none⟩) ds.length c] w fun e w'=>e = .returned (.bool (ds.all (fun d=>d.okB) && decide (1 ≤ m ∧ m ≤ 6))) ∧ Below w.heap.size w w':=by
 obtain ⟨r,hr⟩ : ∃ r,r = (ds.all (fun d=>d.okB) && decide (1 ≤ m ∧ m ≤ 6)):=⟨_,rfl⟩
 rw [← hr]
 obtain ⟨n,hn⟩ : ∃ n,n = ds.length:=⟨_,rfl⟩
 rw [← hn]
 have HR : Hid (r = (ds.all (fun d=>d.okB) && decide (1 ≤ m ∧ m ≤ 6))):=hr
 have HN : Hid (n = ds.length):=hn
 have HD : Hid (DecsAt w g ds):=hd
 have HS : Hid (∀ d ∈ ds,d.s.length ≤ 9223372036854775807):=hs
 have HG : Hid (g < w.heap.size):=hg
 have hnc : n ≤ c:=by omega
 clear hr hn hd hs hg
 go_enter Tryz.func107,Tryz.ntmps107
 go_upto_region 2 with fail
 go_loopw [9] (fun i wr=>∃ j : Nat,j ≤ n ∧ i = .int .i64 (j : Nat) ∧ (ds.take j).all (fun d=>d.okB) = true ∧ Below w.heap.size w wr) (fun i _=>n - (intOf i).toNat)
 case atStart=>exact ⟨0,Nat.zero_le _,by first | rfl | go_num,by simp,Below.refl _ _⟩
 case round=>
  obtain ⟨j,hj,rfl,hall,hb⟩:=hrel
  have HB : Hid (Below w.heap.size w wr):=hb
  have HAL : Hid ((ds.take j).all (fun d=>d.okB) = true):=hall
  clear hall
  by_cases hjn : j < n
  ·have hjl : j < ds.length:=by have:=HN.out; omega
   obtain ⟨k0,k1,k2⟩:=HD.out j hjl
   obtain ⟨d,hd⟩ : ∃ d,d = ds[j]:=⟨_,rfl⟩
   rw [← hd] at k0 k1 k2
   have c0:=(hb.cell (p:=⟨g,j * 3,none⟩) HG.out).trans k0
   have c1:=(hb.cell (p:=⟨g,j * 3 + 1,none⟩) HG.out).trans k1
   have c2:=(hb.cell (p:=⟨g,j * 3 + 2,none⟩) HG.out).trans k2
   have HV : Hid (∀ W,Calls Tryz.prog 119 #[.agg #[.bool d.neg,.string (bs d.s),.int .i64 d.e]] W fun en w'=>en = .returned (.bool d.okB) ∧ Below W.heap.size W w'):=fun W=>valid_v d W (HS.out d (by rw [hd]; exact List.getElem_mem _))
   have HK : Hid (d.okB = true → (ds.take (j + 1)).all (fun d=>d.okB) = true):=fun h=>take_okB hjl HAL.out (by rw [← hd]; exact h)
   have HF : Hid (d.okB = false → r = false):=fun h=>by
    rw [HR.out]
    have : ds.all (fun d=>d.okB) = false:=by
     rw [List.all_eq_false]
     exact ⟨d,by rw [hd]; exact List.getElem_mem _,by rw [h]; decide⟩
    rw [this]; rfl
   clear k0 k1 k2 hd hb
   go_wp2_with fail
   refine (HV.out _).mono ?_
   rintro e w1 ⟨rfl,hb1⟩
   have HB1 : Hid (Below w.heap.size w w1):=(HB.out.alloc HB.out.size _).thru hb1
   obtain ⟨ok,hok⟩ : ∃ b,b = d.okB:=⟨_,rfl⟩
   rw [← hok] at HK HF ⊢
   clear hb1 hok c0 c1 c2 HV
   cases ok
   ·have HFF:=HF.out rfl
    subst HFF
    go_wp2
    go_ret
    exact ⟨rfl,HB1.out⟩
   ·have HKK : Hid _:=HK.out rfl
    go_wp2
    go_roundw
    case rel=>exact ⟨j + 1,by omega,by go_num,HKK.out,HB1.out⟩
    case measure=>simp [intOf]; omega
  ·have hjn' : j = n:=by omega
   subst hjn'
   have HA : Hid (r = decide (1 ≤ m ∧ m ≤ 6)):=by
    show _ = _
    have:=HAL.out
    rw [List.take_of_length_le (by have:=HN.out; omega)] at this
    rw [HR.out,this,Bool.true_and]
   by_cases h1 : 1 ≤ m
   ·by_cases h2 : m ≤ 6
    ·have HT : Hid (r = true):=by show _ = _; rw [HA.out,decide_eq_true ⟨h1,h2⟩]
     go_wp2
     go_ret
     exact ⟨by rw [HT.out]; rfl,HB.out⟩
    ·have HT : Hid (r = false):=by show _ = _; rw [HA.out,decide_eq_false (by omega)]
     go_wp2
     go_ret
     exact ⟨by rw [HT.out]; rfl,HB.out⟩
   ·have HT : Hid (r = false):=by show _ = _; rw [HA.out,decide_eq_false (by omega)]
    go_wp2
    go_ret
    exact ⟨by rw [HT.out]; rfl,HB.out⟩
end Go.Proofs.YtlbokicainimnaaGreatDoor
