import Derived.Test.YtlbokicainimnaaGreatDoorQQT
import Derived.Deep.RegionHeld3
import Derived.Laws.CopyOwn
import Derived.Lib.AppendIntMem
import Derived.Shelf.Pu.ParseUintPublic10
import Derived.Shelf.SlSortCmp.NoneTotal
import Derived.Shelf.Small.Utf8
import Derived.Shelf.Strconv.Itoa3
import Derived.Shelf.Strconv.ParseUint10At
import Derived.Shelf.Strconv.ParseUint10Empty
import Derived.Shelf.Strconv.RangeError
import Derived.Shelf.Strconv.SyntaxError
import Derived.Shelf.Strings.AsciiSet
import Derived.Shelf.Strings.Builder2Cap
import Derived.Shelf.Strings.BuilderK
import Derived.Shelf.Strings.Repeat
import Derived.Shelf.Strings.Runes
import Derived.Shelf.Strings.Trim
import Derived.Shelf.Unicode.Decode
import Derived.Shelf.Unicode.DecodeAny
import Derived.Test.YtlbokicainimnaaGreatDoorQMA
namespace Go.Proofs.YtlbokicainimnaaGreatDoor
open Go Go.RowKit Go.Lib
theorem rep_down {d : Dc} {W e : Int} (k : Nat) (h : Rep d W (e + k)) : Rep d (W * 10 ^ k) e:=by
 obtain ⟨j,hj⟩ : ∃ j : Nat,j = d.e.natAbs + e.natAbs:=⟨_,rfl⟩
 have h1:=h.all j (by omega) (by omega)
 refine ⟨h.ok,j,by omega,by omega,?_⟩
 rw [h1,Int.mul_assoc,← Int.pow_add]
 congr 2
 omega
end Go.Proofs.YtlbokicainimnaaGreatDoor
namespace Go.Proofs.YtlbokicainimnaaGreatDoor
open Go Go.RowKit
theorem nleft_n (s : Value) (N n : Nat) (w : World) (h : Num .u32 4294967296 w s N) {bb : Nat} (hN : N < 2 ^ bb) (hbb : bb ≤ 4294967296) (hn : n ≤ 4000000) : Calls Tryz.prog 55 #[s,.int .i64 (n : Nat)] w (NatQ (N * 2 ^ n) w):=by
 have:=nleft_any s N (n / 32) (n % 32) n w h (by omega) (by omega) (by omega) hN hbb
 rwa [show 32 * (n / 32) + n % 32 = n by omega] at this
end Go.Proofs.YtlbokicainimnaaGreatDoor
set_option maxRecDepth 100000
namespace Go.Proofs.YtlbokicainimnaaGreatDoor
open Go.RowKit
theorem isDig_iff (c : UInt8) : isDig c = true ↔ 48 ≤ c.toNat ∧ c.toNat ≤ 57:=by unfold isDig; simp
theorem all_false {l : List UInt8} {k : Nat} (h : k < l.length) (hd : ¬ (48 ≤ l[k].toNat ∧ l[k].toNat ≤ 57)) : l.all isDig = false:=by
 rw [List.all_eq_false]
 exact ⟨l[k],List.getElem_mem h,fun e=>hd ((isDig_iff _).1 e)⟩
theorem all_true {l : List UInt8} (h : ∀ j (hj : j < l.length),48 ≤ l[j].toNat ∧ l[j].toNat ≤ 57) : l.all isDig = true:=by
 rw [List.all_eq_true]
 intro x hx
 obtain ⟨j,hj,rfl⟩:=List.mem_iff_getElem.1 hx
 exact (isDig_iff _).2 (h j hj)
theorem all_dig {l : List UInt8} : l.all isDig = true ↔ allDig l:=by
 rw [List.all_eq_true]; exact Iff.rfl
theorem number_any (s : ByteArray) (w : World) (hs : s.size ≤ 9223372036854775807) :
  Calls Tryz.prog 177 #[.string s] w fun e w'=>e = .returned (.bool ((bl s).all isDig)) ∧ Below w.heap.size w w':=by
 obtain ⟨r,hr⟩ : ∃ r,r = (bl s).all isDig:=⟨_,rfl⟩
 rw [← hr]
 have HR : Hid (r = (bl s).all isDig):=hr
 clear hr
 go_enter Tryz.func177,Tryz.ntmps177
 go_wp2
 go_loopw [6] (fun i wr=>∃ k : Nat,k ≤ s.size ∧ i = .int .i64 (k : Nat) ∧ (∀ j (h : j < k) (h' : j < s.size),48 ≤ (s[j]'h').toNat ∧ (s[j]'h').toNat ≤ 57) ∧ Below w.heap.size w wr) (fun i _=>s.size - (intOf i).toNat)
 case atStart=>exact ⟨0,Nat.zero_le _,rfl,fun j h=>absurd h (Nat.not_lt_zero _),Below.refl _ _⟩
 case round=>
  obtain ⟨k,hk,rfl,hd,hb⟩:=hrel
  have HD : Hid _:=hd
  have HB : Hid _:=hb
  clear hd hb
  by_cases hkn : k < s.size
  ·obtain ⟨c,hc⟩ : ∃ c,c = (s[k]'hkn).toNat:=⟨_,rfl⟩
   by_cases h1 : c < 48
   ·have h1' : (((s[k]'hkn).toNat : Nat) : Int) < 48:=by omega
    clear hc h1
    go_wp2
    go_ret
    have hf : r = false:=by
     rw [HR.out]
     refine all_false (k:=k) hkn ?_
     rintro ⟨a,-⟩
     have : 48 ≤ (s[k]'hkn).toNat:=a
     omega
    rw [hf]
    exact ⟨rfl,HB.out⟩
   ·by_cases h2 : 57 < c
    ·have h1' : ¬ (((s[k]'hkn).toNat : Nat) : Int) < 48:=by omega
     have h2' : 57 < (((s[k]'hkn).toNat : Nat) : Int):=by omega
     clear hc h1 h2
     go_wp2
     go_ret
     have hf : r = false:=by
      rw [HR.out]
      refine all_false (k:=k) hkn ?_
      rintro ⟨-,a⟩
      have : (s[k]'hkn).toNat ≤ 57:=a
      omega
     rw [hf]
     exact ⟨rfl,HB.out⟩
    ·have h1' : ¬ (((s[k]'hkn).toNat : Nat) : Int) < 48:=by omega
     have h2' : ¬ 57 < (((s[k]'hkn).toNat : Nat) : Int):=by omega
     have HC : Hid (48 ≤ (s[k]'hkn).toNat ∧ (s[k]'hkn).toNat ≤ 57):=by show _ ∧ _; omega
     clear hc h1 h2
     go_wp2
     go_roundw
     case rel=>
      refine ⟨k + 1,by omega,by go_num,fun j h h'=>?_,by first | exact HB.out | exact HB.out.drew⟩
      by_cases e : j = k
      ·subst e; exact HC.out
      ·exact HD.out j (by omega) h'
     case measure=>simp [intOf]; omega
  ·have hke : k = s.size:=by omega
   subst hke
   go_wp2
   go_ret
   have hf : r = true:=by
    rw [HR.out]
    refine all_true ?_
    intro j hj
    exact HD.out j hj hj
   rw [hf]
   exact ⟨rfl,HB.out⟩
end Go.Proofs.YtlbokicainimnaaGreatDoor
