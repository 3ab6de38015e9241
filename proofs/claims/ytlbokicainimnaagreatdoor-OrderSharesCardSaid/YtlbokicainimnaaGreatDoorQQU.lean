import Derived.Test.YtlbokicainimnaaGreatDoorQQN
import Derived.Test.YtlbokicainimnaaGreatDoorQQR
import Derived.Test.YtlbokicainimnaaGreatDoorQQL
import Derived.Test.YtlbokicainimnaaGreatDoorQQS
set_option maxRecDepth 100000
namespace Go.Proofs.YtlbokicainimnaaGreatDoor
open Go.RowKit
theorem num_len64 {w : World} {a : Option Addr} {m c Y : Nat} (h : Num .u64 18446744073709551616 w (.slice a m c) Y) : m ≤ 9223372036854775807 ∧ (m = 0 ↔ Y = 0):=by
 obtain ⟨xs,hl,hv,hn⟩:=h
 have h0:=norm_zero hn (show 0 < 18446744073709551616 by decide)
 obtain ⟨_,_,_,e,hm,hmc,hc,-,-⟩:=hl
 cases e
 rw [hv] at h0
 refine ⟨by omega,?_⟩
 rw [h0]
 omega
def slN : Value → Nat
 | .slice _ n _=>n
 | _=>0
theorem own_slN {w : World} {base : Nat} {e : TypeId} {k : Nat} {v : Value} {n : Nat} {xs : List Value} (h : w.ownsRow base e k v n xs) : slN v = n:=by
 obtain ⟨a,c,rfl⟩:=own_slN0 h
 rfl
theorem Tryz.infoS : (Tryz.prog.info? 9).map (fun i=>(i.zero,i.size,i.bytes)) = some (some (.string ⟨#[]⟩),1,16):=by kernel_rfl
set_option maxHeartbeats 2000000 in
theorem itext_any (s : Value) (N : Nat) (w : World) (h : Num .u64 18446744073709551616 w s N) {bb : Nat} (hN : N < 2 ^ bb) (hbb : bb ≤ 4294967296) (htab : Tab w) :
  Calls Tryz.prog 105 #[.agg #[.bool false,s]] w fun e w'=>e = .returned (.string (bs (Lib.decDigits N))) ∧ Below w.heap.size w w':=by
 obtain ⟨a,m,c,rfl⟩:=h.shape
 obtain ⟨hm,hz⟩:=num_len64 h
 have hb0 : Below w.heap.size w (w.alloc (.cells #[.bool false,.slice a m c] 123)):=(Below.refl _ _).alloc (Nat.le_refl _) _
 have q0:=new_blk w (.cells #[.bool false,.slice a m c] 123)
 obtain ⟨f0,f1,c0,c1,-,-⟩:=row2 q0
 by_cases hN0 : N = 0
 ·subst hN0
  obtain rfl:=hz.2 rfl
  have HB : Hid _:=hb0
  clear hb0 q0 h htab hN
  go_enter Tryz.func105,Tryz.ntmps105
  go_wp2
  go_ret
  exact ⟨by rw [Go.Lib.decDigits,dif_pos (by decide)]; rfl,HB.out⟩
 ·have hm0 : (m == 0) = false := by
   rw [beq_eq_false_iff_ne]; exact fun e=>hN0 (hz.1 e)
  have HAB : Hid (∀ W,Below w.heap.size w W → Calls Tryz.prog 151 #[.agg #[.bool false,.slice a m c]] W (WideQ false N W)):=fun W hW=>iabs_any _ _ _ W (h.below (Nat.le_refl _) hW)
  have HB0 : Hid _:=hb0
  have HQ0 : Hid _:=q0
  have HT : Hid (Tab w):=htab
  have HN : Hid (N < 2 ^ bb ∧ bb ≤ 4294967296 ∧ 0 < N):=⟨hN,hbb,by omega⟩
  obtain ⟨i0,hi0,hz0,hz1,hz2⟩:=info_parts Tryz.infoS
  clear hb0 q0 h htab hN hbb hz
  go_enter Tryz.func105,Tryz.ntmps105
  go_wp2_with fail
  refine (HAB.out _ HB0.out).mono ?_
  rintro e w1 ⟨v,rfl,⟨y,rfl,hy,-⟩,hb1⟩
  obtain ⟨ya,ym,yc,rfl⟩:=hy.shape
  have HB1 : Hid _:=HB0.out.trans (hb1.mono HB0.out.size)
  have HY : Hid (Num .u64 18446744073709551616 w1 (.slice ya ym yc) N):=hy
  have q1:=hb1.blk HQ0.out (by simp)
  obtain ⟨f0,f1,c0,c1,-,-⟩:=row2 q1
  have HQ1 : Hid _:=q1
  clear hb1 hy q1 HAB HB0 HQ0
  go_wp2
  go_loopw [3,4] (fun v p wr=>∃ (k Y g : Nat) (L : List ByteArray) (sa : Option Addr) (sm sc : Nat),p = .pointer (some ⟨g,0,none⟩) ∧ wr.heap[g]? = some (.cells #[.bool false,.slice sa sm sc] 123 (0,0)) ∧
   Num .u64 18446744073709551616 wr (.slice sa sm sc) Y ∧ w1.heap.size ≤ g ∧ v.ownBlock ≠ some g ∧ wr.ownsRow w1.heap.size 9 1 v k (L.map fun (s : ByteArray)=>Value.string s) ∧ TextInv N k Y L ∧ slN v = k ∧ Below w1.heap.size w1 wr) (fun v _ _=>bb - slN v)
  case atStart=>
   exact ⟨0,N,w1.heap.size,[],ya,ym,yc,rfl,new_blk _ _,HY.out.below (Nat.le_refl _) ((Below.refl _ _).alloc (Nat.le_refl _) _),Nat.le_refl _,by simp [Value.ownBlock],World.ownsRow_nil _ _ _ _,text_start N,rfl,(Below.refl _ _).alloc (Nat.le_refl _) _⟩
  case round=>
   obtain ⟨k,Y,g,L,sa,sm,sc,rfl,hrow,hnum,hg,hne,hown,hinv,hsl,hbel⟩:=hrel
   obtain ⟨hsm,hsz⟩:=num_len64 hnum
   obtain ⟨f0,f1,c0,c1,-,-⟩:=row2 hrow
   have HROW : Hid _:=hrow
   have HNUM : Hid (Num .u64 18446744073709551616 wr (.slice sa sm sc) Y):=hnum
   have HOWN : Hid (wr.ownsRow w1.heap.size 9 1 u3 k (L.map fun (s : ByteArray)=>Value.string s)):=hown
   have HINV : Hid (TextInv N k Y L):=hinv
   have HBEL : Hid (Below w1.heap.size w1 wr):=hbel
   have HNE : Hid (u3.ownBlock ≠ some g):=hne
   by_cases hY : Y = 0
   ·have hsm0 : sm = 0:=hsz.2 hY
    subst hsm0
    subst hY
    have HE : Hid (bareD N = joinR L):=text_end HINV.out
    have hk0 : 0 < k:=by
     rcases Nat.eq_zero_or_pos k with e | e
     ·subst e
      have:=HINV.out.2.1
      rw [Nat.pow_zero,Nat.div_one] at this
      have:=HN.out.2.2
      omega
     ·exact e
    obtain ⟨gl,cap,cur,rfl,hgl,hcur,hkc,hcm,hcs,htk⟩ : ∃ gl cap cur,u3 = .slice (some ⟨gl,0,none⟩) k cap ∧ w1.heap.size ≤ gl ∧ wr.heap[gl]? = some (.cells cur 9 (0,0)) ∧ k ≤ cap ∧ cap ≤ maxLen ∧ cur.size = cap * 1 ∧ cur.toList.take (k * 1) = L.map fun (s : ByteArray)=>Value.string s:=by
     rcases HOWN.out.2 with ⟨-,e⟩ | h
     ·omega
     ·exact h
    have hlenL : L.length = k:=HINV.out.1
    have HCELL : Hid (∀ j (h : j < L.length),wr.cell? ⟨gl,j,none⟩ = some (.string L[j])):=fun j hj=>by
     have h1:=HOWN.out.cells (g:=gl) rfl j (.string L[j]) (by rw [List.getElem?_map,List.getElem?_eq_getElem hj]; rfl)
     rw [Lib.add_plain] at h1
     simpa using h1
    have HLN : Hid (L.length = k):=hlenL
    have hkm : k ≤ 9223372036854775807:=by unfold maxLen at hcm; omega
    have q1:=hbel.blk HQ1.out (show w.heap.size < w1.heap.size from blk_lt HQ1.out)
    obtain ⟨-,-,y2,y3,-,-⟩:=row2 (((Below.refl wr.heap.size wr).alloc (Nat.le_refl _) (.cells #[.pointer none,.slice none 0 0] 181)).blk q1 (blk_lt q1))
    have hBW : Below w.heap.size w wr:=HB1.out.trans (hbel.mono HB1.out.size)
    have HBW : Hid _:=hBW
    have HLB : Hid ((joinR L).length ≤ 4294967296):=by
     show _ ≤ _
     rw [← HE.out]
     exact Nat.le_trans (bare_len_bits HN.out.1) HN.out.2.1
    have wk : IntKind.i64.wrap ((k : Int) - 1) = (k : Int) - 1:=IntWalk.i64_in _ (by omega)
    have hgw : gl < wr.heap.size:=blk_lt hcur
    have HGW : Hid (gl < wr.heap.size):=hgw
    clear hrow hnum hown hinv hbel hne hsz hgl hcur hkc hcm hcs htk hlenL hBW q1 HROW HNUM HOWN HNE hgw
    rename World=>w3
    go_wp2
    go_loopw [9] (fun i wq=>∃ j : Nat,j ≤ k ∧ i = .int .i64 ((j : Int) - 1) ∧ Lib.IsBuilder 181 5 w3.heap.size w3.heap.size (Lib.byteCells (joinR (L.drop j))) wq ∧ Below w3.heap.size w3 wq) (fun i _=>(intOf i + 1).toNat)
    case atStart=>
     refine ⟨k,Nat.le_refl _,rfl,?_,(Below.refl _ _).alloc (Nat.le_refl _) _⟩
     rw [List.drop_eq_nil_of_le (by have:=HLN.out; omega)]
     exact builder_new _ _ (Nat.le_refl _)
    case round=>
     obtain ⟨j,hj,rfl,hbd,hbq⟩:=hrel
     have HBD : Hid (Lib.IsBuilder 181 5 w3.heap.size w3.heap.size (Lib.byteCells (joinR (L.drop j))) wr):=hbd
     have HBQ : Hid (Below w3.heap.size w3 wr):=hbq
     clear hbd hbq y2 y3 f0 f1 c0 c1
     by_cases hj0 : j = 0
     ·subst hj0
      go_wp2_with fail
      refine (bstring_any _ _ _ _ HBD.out HBQ.out.size).mono ?_
      rintro e w' ⟨rfl,hb⟩
      go_wp2
      go_ret
      refine ⟨?_,HBW.out.thru (HBQ.out.trans hb)⟩
      rw [dec_bare HN.out.2.2,HE.out]; rfl
     ·have hjl : j - 1 < L.length:=by have:=HLN.out; omega
      have hc:=(HBQ.out.cell (p:=⟨gl,j - 1,none⟩) HGW.out).trans (HCELL.out (j - 1) hjl)
      obtain ⟨s,hs⟩ : ∃ s,s = L[j - 1]:=⟨_,rfl⟩
      rw [← hs] at hc
      have hd:=joinR_drop L (j - 1) hjl
      rw [← hs,show j - 1 + 1 = j by omega] at hd
      have HD : Hid (joinR (L.drop (j - 1)) = joinR (L.drop j) ++ bl s):=hd
      have hle : (joinR (L.drop j)).length + s.size ≤ 140737488355328:=by
       have h1:=joinR_len_le L (j - 1)
       rw [hd,List.length_append,bl_len] at h1
       have:=HLB.out
       omega
      have HWS : Hid _:=wstring_any w3.heap.size w3.heap.size _ s wr HBD.out hle HBQ.out.size
      clear hd hs hle hjl
      go_wp2_with fail
      refine Calls.mono HWS.out ?_
      rintro e w' ⟨rfl,hbd',hb'⟩
      have HBD' : Hid _:=hbd'
      have HB' : Hid _:=hb'
      clear hbd' hb'
      go_wp2
      go_roundw
      case rel=>
       refine ⟨j - 1,by omega,by go_num,?_,HBQ.out.trans HB'.out⟩
       rw [HD.out]; exact HBD'.out
      case measure=>simp [intOf]; omega
   ·have hp : (0 : Int) < (sm : Int):=by omega
    have HYP : Hid (0 < Y):=Nat.pos_of_ne_zero hY
    clear hrow hnum hown hinv hbel hne hY hsz
    obtain ⟨Q,hQ⟩ : ∃ Q,Q = Y / 1000000000000000000:=⟨_,rfl⟩
    obtain ⟨R,hR⟩ : ∃ R,R = Y % 1000000000000000000:=⟨_,rfl⟩
    have HQR : Hid (Q = Y / 1000000000000000000 ∧ R = Y % 1000000000000000000):=⟨hQ,hR⟩
    have hkb:=text_count HINV.out HYP.out HN.out.1
    have HKB : Hid (k < bb ∧ k < N):=hkb
    have hYb : Y < 2 ^ bb:=by
     have:=HINV.out.2.1
     rw [this]
     exact Nat.lt_of_le_of_lt (Nat.div_le_self _ _) HN.out.1
    have HSH : Hid (Calls Tryz.prog 152 #[.agg #[.bool false,.slice sa sm sc],.int .u64 1000000000000000000] wr fun e w'=>∃ m c,e = .returned (.tuple #[.agg #[.bool false,.slice (some ⟨wr.heap.size + 2,0,none⟩) m c],.int .u64 (R : Nat)]) ∧ Num .u64 18446744073709551616 w' (.slice (some ⟨wr.heap.size + 2,0,none⟩) m c) Q ∧ Below wr.heap.size wr w'):=by
     rw [hQ,hR]
     exact short_at false _ Y 1000000000000000000 _ HNUM.out (by decide) (by decide) hYb HN.out.2.1
    have hR18 : R < 1000000000000000000:=by rw [hR]; exact Nat.mod_lt _ (by decide)
    have HTW : Hid (∀ W,Below wr.heap.size wr W → Tab W):=fun W hW=>HT.out.below ((HB1.out.trans (HBEL.out.mono HB1.out.size)).thru hW)
    have HGL : Hid (g < wr.heap.size):=blk_lt HROW.out
    clear hkb hYb hQ hR hR18
    go_wp2_with fail
    refine HSH.out.mono ?_
    rintro e w2 ⟨qm,qc,rfl,hq,hb2⟩
    have HB2 : Hid _:=hb2
    have HQN : Hid (Num .u64 18446744073709551616 w2 (.slice (some ⟨wr.heap.size + 2,0,none⟩) qm qc) Q):=hq
    clear hq hb2
    go_wp2_with fail
    refine (format_any R (by have:=HQR.out.2; omega) _ (HTW.out _ (HB2.out.alloc HB2.out.size _))).mono ?_
    rintro e w4 ⟨rfl,hb4⟩
    have HB4 : Hid _:=hb4
    have HR5 : Hid (w4.heap[w2.heap.size]? = some (.cells #[.bool false,.slice (some ⟨wr.heap.size + 2,0,none⟩) qm qc] 123 (0,0))):=hb4.blk (new_blk _ _) (by simp)
    clear hb4
    obtain ⟨f0,f1,c0,c1,-,-⟩:=row2 HR5.out
    obtain ⟨hqm,hqz⟩:=num_len64 HQN.out
    obtain ⟨t,ht⟩ : ∃ t,t = bs (Lib.decDigits R):=⟨_,rfl⟩
    rw [← ht]
    obtain ⟨l18,-⟩ : t.size ≤ 18 ∧ True:=by
     have:=dec_len_le R 18 (by decide) (by have:=HQR.out.2; rw [this]; exact Nat.mod_lt _ (by decide))
     exact ⟨by rw [ht]; exact this,trivial⟩
    have HTT : Hid (t = bs (Lib.decDigits R)):=ht
    have h18 : IntKind.i64.wrap (18 - (t.size : Int)) = ((18 - t.size : Nat) : Int):=by rw [IntWalk.i64_in _ (by omega)]; omega
    clear ht
    by_cases hQ0 : Q = 0
    -- BEGIN
    ·have hq0 : qm = 0:=hqz.2 hQ0
     subst hq0
     clear hqz
     go_upto_region 10 with fail
     have HTP : Hid (t = bs (piece Y)):=by
      show t = _
      unfold piece
      rw [HTT.out,← HQR.out.1,← HQR.out.2,if_pos hQ0]
     have R5 : Hid (w4.heap[w2.heap.size]? = some (.cells #[.bool false,.slice (some ⟨wr.heap.size + 2,0,none⟩) 0 qc] 123 (0,0))):=HR5.out
     have BR : Hid (Below wr.heap.size wr w4):=(HB2.out.alloc HB2.out.size _).thru HB4.out
     have BW : Hid (Below w1.heap.size w1 w4):=HBEL.out.thru BR.out
     have R4 : Hid (w4.heap[g]? = some (.cells #[.bool false,.slice sa sm sc] 123 (0,0))):=BR.out.blk HROW.out HGL.out
     have QN : Hid (Num .u64 18446744073709551616 w4 (.slice (some ⟨wr.heap.size + 2,0,none⟩) 0 qc) Q):=HQN.out.below (Nat.le_refl _) (((Below.refl _ _).alloc (Nat.le_refl _) _).thru HB4.out)
     have OW : Hid (w4.ownsRow w1.heap.size 9 1 u3 k (L.map fun (s : ByteArray)=>Value.string s)):=own_below HOWN.out BR.out
     have OL : Hid (u3.ownBlock ≠ some (wr.heap.size + 2)):=own_lt HOWN.out (Nat.le_add_right _ 2)
     obtain ⟨hk32,-⟩ : k + 1 ≤ 4294967297 ∧ True:=⟨by have:=HKB.out.1; have:=HN.out.2.1; omega,trivial⟩
     clear f0 f1 c0 c1
     have HE5 : Hid (w2.heap.size < w4.heap.size):=blk_lt R5.out
     have HE4 : Hid (g < w2.heap.size):=Nat.lt_of_lt_of_le HGL.out HB2.out.size
     have HB02 : Hid (wr.heap.size + 2 ≤ wr.heap.size + 2):=Nat.le_refl _
     refine wp_region_inv (fun l ac W => ∃ v3 v37 v38 v39 v40 v41 : Value, ac = { tmps := #[.agg #[.bool false, .slice a m c], .pointer (some ⟨w.heap.size, 0, none⟩), .string ⟨#[]⟩, v3, .pointer (some ⟨g, 0, none⟩), .pointer (some ⟨w2.heap.size, 0, none⟩), .int .u64 (R : Nat), .string t, undef, undef, .pointer (some ⟨w.heap.size, 1, none⟩), .slice a m c, .int .i64 (m : Nat), .bool false, .agg #[.bool false, .slice a m c], .agg #[.bool false, .slice ya ym yc], .pointer (some ⟨g, 1, none⟩), .slice sa sm sc, .int .i64 (sm : Nat), .bool true, .tuple #[.agg #[.bool false, .slice (some ⟨wr.heap.size + 2, 0, none⟩) 0 qc], .int .u64 (R : Nat)], .agg #[.bool false, .slice sa sm sc], .tuple #[.agg #[.bool false, .slice (some ⟨wr.heap.size + 2, 0, none⟩) 0 qc], .int .u64 (R : Nat)], .agg #[.bool false, .slice (some ⟨wr.heap.size + 2, 0, none⟩) 0 qc], .int .u64 (R : Nat), .int .u64 (R : Nat), .string t, .pointer (some ⟨w2.heap.size, 1, none⟩), .slice (some ⟨wr.heap.size + 2, 0, none⟩) 0 qc, .int .i64 (0 : Nat), .bool false, u31, u32, u33, u34, u35, u36, v37, v38, v39, v40, v41, u42, undef, undef, undef, undef, undef, undef, undef, undef, undef, undef, undef, undef, undef, undef, undef, undef], defers := [] } ∧ Below w1.heap.size w1 W ∧ W.heap[w2.heap.size]? = some (.cells #[.bool false, (.slice (some ⟨wr.heap.size + 2, 0, none⟩) 0 qc)] 123 (0, 0)) ∧
       Num .u64 18446744073709551616 W (.slice (some ⟨wr.heap.size + 2,0,none⟩) 0 qc) Q ∧ (∃ y0,W.heap[g]? = some (.cells #[.bool false,y0] 123 (0,0)) ∧ (Did l 6 → y0 = (.slice (some ⟨wr.heap.size + 2,0,none⟩) 0 qc))) ∧ (¬ Did l 3 → W.ownsRow w1.heap.size 9 1 u3 k (L.map fun (s : ByteArray)=>Value.string s) ∧ u3.ownBlock ≠ some (wr.heap.size + 2)) ∧
       (¬ Did l 5 → v3 = u3) ∧ (Did l 0 → v37 = u3) ∧ (Did l 1 → v38 = .string t) ∧ (Did l 2 → ∃ gn,v39 = .slice (some ⟨gn,0,none⟩) 1 1 ∧ (¬ Did l 3 → W.cell? ⟨gn,0,none⟩ = some (.string t))) ∧
       (Did l 3 → W.ownsRow w1.heap.size 9 1 v40 (k + 1) ((L.map fun (s : ByteArray)=>Value.string s) ++ [.string t])) ∧ (Did l 4 → v41 = .agg #[.bool false,(.slice (some ⟨wr.heap.size + 2,0,none⟩) 0 qc)]) ∧ (Did l 5 → v3 = v40)) (by kernel_rfl) (by kernel_rfl) 7 (by kernel_rfl) ?_ ?_ ?_
     ·intro l hl
      exact ⟨u3,u37,u38,u39,u40,u41,rfl,BW.out.drew,R5.out,QN.out,⟨_,R4.out,fun h=>absurd h (hl _)⟩,fun _=>⟨OW.out,OL.out⟩,fun _=>rfl,fun h=>absurd h (hl _),fun h=>absurd h (hl _),fun h=>absurd h (hl _),fun h=>absurd h (hl _),fun h=>absurd h (hl _),fun h=>absurd h (hl _)⟩
     ·refine ⟨⟨⟨⟨⟨⟨⟨trivial,?_⟩,?_⟩,?_⟩,?_⟩,?_⟩,?_⟩,?_⟩
      all_goals
       rintro l a' W hi ⟨v3,v37,v38,v39,v40,v41,rfl,hb,h5,hqn,⟨y0,h4,d6⟩,how,n5,d0,d1,d2,d3,d4,d5⟩ hn hd hs
      ·have e5 : ¬ Did l 5:=fun h=>hn (hs 5 0 (by kernel_rfl) h)
       obtain rfl:=n5 e5
       refine wpOp_step rfl fun K hK=>?_
       go_simp
       refine hK _ _ ?_
       exact ⟨_,_,v38,v39,v40,v41,rfl,hb,h5,hqn,⟨y0,h4,fun h=>d6 (h.old hi)⟩,fun h=>how fun g=>h ((did_set hi _).2 (.inr g)),fun _=>rfl,fun _=>rfl,fun h=>d1 (h.old hi),fun h=>by obtain ⟨gn,r1,r2⟩:=d2 (h.old hi); exact ⟨gn,r1,fun h=>r2 fun g=>h ((did_set hi _).2 (.inr g))⟩,fun h=>d3 (h.old hi),fun h=>d4 (h.old hi),fun h=>d5 (h.old hi)⟩
      ·refine wpOp_step rfl fun K hK=>?_
       go_simp
       refine hK _ _ ?_
       exact ⟨v3,v37,_,v39,v40,v41,rfl,hb,h5,hqn,⟨y0,h4,fun h=>d6 (h.old hi)⟩,fun h=>how fun g=>h ((did_set hi _).2 (.inr g)),fun h=>n5 fun g=>h ((did_set hi _).2 (.inr g)),fun h=>d0 (h.old hi),fun _=>rfl,fun h=>by obtain ⟨gn,r1,r2⟩:=d2 (h.old hi); exact ⟨gn,r1,fun h=>r2 fun g=>h ((did_set hi _).2 (.inr g))⟩,fun h=>d3 (h.old hi),fun h=>d4 (h.old hi),fun h=>d5 (h.old hi)⟩
      ·obtain rfl:=d1 (hd 1 (by kernel_rfl))
       have e3 : ¬ Did l 3:=fun h=>hn (hs 3 2 (by kernel_rfl) h)
       refine wpOp_step rfl fun K hK=>?_
       go_simp
       refine hK _ _ ?_
       exact ⟨v3,v37,_,_,v40,v41,rfl,hb.alloc hb.size _,((Below.refl W.heap.size W).alloc (Nat.le_refl _) _).blk h5 (blk_lt h5),hqn.below (Nat.le_refl _) ((Below.refl _ _).alloc (Nat.le_refl _) _),⟨y0,((Below.refl W.heap.size W).alloc (Nat.le_refl _) _).blk h4 (blk_lt h4),fun h=>d6 (h.old hi)⟩,fun _=>⟨(how e3).1.alloc _,(how e3).2⟩,fun h=>n5 fun g=>h ((did_set hi _).2 (.inr g)),fun h=>d0 (h.old hi),fun _=>rfl,fun _=>⟨_,rfl,fun _=>cell_of_row _ _ _ _ _ _ (heap_alloc_new W _)⟩,fun h=>absurd (h.old hi) e3,fun h=>d4 (h.old hi),fun h=>d5 (h.old hi)⟩
      ·obtain rfl:=d0 (hd 0 (by kernel_rfl))
       obtain ⟨gn,rfl,hcn⟩:=d2 (hd 2 (by kernel_rfl))
       have hcn:=hcn hn
       obtain ⟨ho,hol⟩:=how hn
       have e5 : ¬ Did l 5:=fun h=>hn (hs 5 3 (by kernel_rfl) h)
       refine wpOp_step rfl fun K hK=>step_pl rfl (wp_append_own _ _ _ 173 rfl w1.heap.size 9 i0 (.string ⟨#[]⟩) 1 16 Tryz.underlying173 hi0 hz0 hz1 hz2 rfl (by decide) _ k _ rfl ho ⟨gn,0,none⟩ 1 1 [.string t] rfl rfl (by intro j z hj; match j with | 0=>(obtain rfl : z = .string t:=by simpa using hj.symm); exact hcn | j + 1=>simp at hj) (by intro z hz; simp at hz; subst hz; rfl) (by unfold maxLen; omega) (by omega) (by have:=hb.size; omega) fun v' W' ho' hgr _=>hK _ _ ?_)
       have b1:=hgr.block _ (blk_lt h5) (fun e=>own_ne ho h5 (by decide) e.symm)
       have b2:=hgr.block _ (blk_lt h4) (fun e=>own_ne ho h4 (by decide) e.symm)
       exact ⟨v3,_,v38,_,v',v41,rfl,hb.grown hgr (by have:=hb.size; omega) (fun z hz=>(ho.lt z hz).1),b1.trans h5,hqn.grown hgr (fun e=>hol e.symm),⟨y0,b2.trans h4,fun h=>d6 (h.old hi)⟩,fun h=>absurd ((did_set hi _).2 (.inl rfl)) h,fun h=>n5 fun g=>h ((did_set hi _).2 (.inr g)),fun _=>rfl,fun h=>d1 (h.old hi),fun _=>⟨gn,rfl,fun h=>absurd ((did_set hi _).2 (.inl rfl)) h⟩,fun _=>ho',fun h=>d4 (h.old hi),fun h=>absurd (h.old hi) e5⟩
      ·refine wpOp_step rfl fun K hK=>step_pl rfl (wp_load_row 123 (.tmp 5) rfl w2.heap.size rfl _ _ _ _ h5 Tryz.underlying123 rfl (by kernel_rfl) (hK _ _ ?_))
       exact ⟨v3,v37,v38,v39,v40,_,rfl,hb,h5,hqn,⟨y0,h4,fun h=>d6 (h.old hi)⟩,fun h=>how fun g=>h ((did_set hi _).2 (.inr g)),fun h=>n5 fun g=>h ((did_set hi _).2 (.inr g)),fun h=>d0 (h.old hi),fun h=>d1 (h.old hi),fun h=>by obtain ⟨gn,r1,r2⟩:=d2 (h.old hi); exact ⟨gn,r1,fun h=>r2 fun g=>h ((did_set hi _).2 (.inr g))⟩,fun h=>d3 (h.old hi),fun _=>rfl,fun h=>d5 (h.old hi)⟩
      ·have e3:=hd 3 (by kernel_rfl)
       refine wpOp_step rfl fun K hK=>?_
       go_simp
       refine hK _ _ ?_
       exact ⟨_,v37,v38,v39,v40,v41,rfl,hb,h5,hqn,⟨y0,h4,fun h=>d6 (h.old hi)⟩,fun h=>absurd ((did_set hi _).2 (.inr e3)) h,fun h=>absurd ((did_set hi _).2 (.inl rfl)) h,fun h=>d0 (h.old hi),fun h=>d1 (h.old hi),fun h=>by obtain ⟨gn,r1,r2⟩:=d2 (h.old hi); exact ⟨gn,r1,fun h=>r2 fun g=>h ((did_set hi _).2 (.inr g))⟩,fun h=>d3 (h.old hi),fun h=>d4 (h.old hi),fun _=>rfl⟩
      ·have e3:=hd 3 (by kernel_rfl)
       have e5:=hd 5 (by kernel_rfl)
       obtain rfl:=d4 (hd 4 (by kernel_rfl))
       have hoo:=d3 e3
       refine wpOp_step rfl fun K hK=>step_pl rfl (wp_store_row 123 (.tmp 4) (.tmp 41) rfl g #[.bool false,(.slice (some ⟨wr.heap.size + 2,0,none⟩) 0 qc)] rfl rfl _ _ h4 (by kernel_rfl) rfl (by simp [Value.oneCell']) (hK _ _ ?_))
       exact ⟨v3,v37,v38,v39,v40,_,rfl,below_setRow hb hg _,(setRow_other W g _ _ (by have:=HE4.out; omega)).trans h5,hqn.same (by rw [setRow_size]; exact Nat.le_refl _) (setRow_other W g _ _ (by have:=HGL.out; omega)),⟨_,setRow_heap W g _ _ _ _ h4,fun _=>rfl⟩,fun h=>absurd ((did_set hi _).2 (.inr e3)) h,fun h=>absurd ((did_set hi _).2 (.inr e5)) h,fun h=>d0 (h.old hi),fun h=>d1 (h.old hi),fun h=>by obtain ⟨gn,r1,r2⟩:=d2 (h.old hi); exact ⟨gn,r1,fun h=>absurd ((did_set hi _).2 (.inr e3)) h⟩,fun _=>own_setRow hoo (own_ne hoo h4 (by decide)) _,fun _=>rfl,fun _=>d5 e5⟩
     ·rintro l a' W hall ⟨v3,v37,v38,v39,v40,v41,rfl,hb,h5,hqn,⟨y0,h4,d6⟩,how,n5,d0,d1,d2,d3,d4,d5⟩
      obtain rfl:=d6 (hall 6 (by decide))
      obtain rfl:=d5 (hall 5 (by decide))
      have HO : Hid (W.ownsRow w1.heap.size 9 1 v3 (k + 1) ((L.map fun (s : ByteArray)=>Value.string s) ++ [.string t])):=d3 (hall 3 (by decide))
      have HBF : Hid (Below w1.heap.size w1 W):=hb
      have HQF : Hid (Num .u64 18446744073709551616 W (.slice (some ⟨wr.heap.size + 2,0,none⟩) 0 qc) Q):=hqn
      clear how n5 d0 d1 d2 d3 d4 d5 d6 hall hb hqn
      obtain ⟨x0,x1,x2,x3,-,-⟩:=row2 h4
      go_wp2
      go_roundw
      case rel=>
       exact ⟨k + 1,Q,W.heap.size,L ++ [t],_,_,_,rfl,new_blk _ _,HQF.out.below (Nat.le_refl _) ((Below.refl _ _).alloc (Nat.le_refl _) _),HBF.out.size,own_lt HO.out (Nat.le_refl _),by rw [List.map_append]; exact HO.out.alloc _,by have:=text_next HINV.out HYP.out HTP.out; rwa [← HQR.out.1] at this,own_slN HO.out,HBF.out.alloc HBF.out.size _⟩
      case measure=>
       have e1 : slN v3 = k + 1:=own_slN HO.out
       have e2:=HKB.out.1
       show bb - slN v3 < bb - slN u3
       omega
    ·have hq0 : (0 : Int) < (qm : Int):=by omega
     clear hqz
     obtain ⟨hcat,-⟩ : ¬ (9223372036854775807 < (Lib.repeatL [48] (18 - t.size)).length + t.size) ∧ True:=by
      rw [rep_one,List.length_replicate]; exact ⟨by omega,trivial⟩
     go_wp2_with fail
     refine (Tryz.strings_Repeat ⟨#[48]⟩ (18 - t.size) _ (by omega) (by show 1 * _ ≤ _; omega)).mono ?_
     rintro e w5 ⟨rfl,hb5⟩
     go_upto_region 10 with fail
     obtain ⟨T,hT⟩ : ∃ T : ByteArray,T = ⟨(Lib.repeatL [48] (18 - t.size)).toArray⟩ ++ t:=⟨_,rfl⟩
     have HTP : Hid (T = bs (piece Y)):=by
      show T = _
      unfold piece
      have hsz : t.size = (Lib.decDigits R).length:=by rw [HTT.out]; rfl
      rw [← HQR.out.1,← HQR.out.2,if_neg hQ0,hT,← hsz,rep_one]
      refine bl_inj ?_
      rw [bl_append,HTT.out]; rfl
     simp only [← hT]
     clear hT
     have R5 : Hid (w5.heap[w2.heap.size]? = some (.cells #[.bool false,.slice (some ⟨wr.heap.size + 2,0,none⟩) qm qc] 123 (0,0))):=hb5.blk HR5.out (blk_lt HR5.out)
     have BR : Hid (Below wr.heap.size wr w5):=((HB2.out.alloc HB2.out.size _).thru HB4.out).thru hb5
     have BW : Hid (Below w1.heap.size w1 w5):=HBEL.out.thru BR.out
     have R4 : Hid (w5.heap[g]? = some (.cells #[.bool false,.slice sa sm sc] 123 (0,0))):=BR.out.blk HROW.out HGL.out
     have QN : Hid (Num .u64 18446744073709551616 w5 (.slice (some ⟨wr.heap.size + 2,0,none⟩) qm qc) Q):=HQN.out.below (Nat.le_refl _) ((((Below.refl _ _).alloc (Nat.le_refl _) _).thru HB4.out).thru hb5)
     have OW : Hid (w5.ownsRow w1.heap.size 9 1 u3 k (L.map fun (s : ByteArray)=>Value.string s)):=own_below HOWN.out BR.out
     have OL : Hid (u3.ownBlock ≠ some (wr.heap.size + 2)):=own_lt HOWN.out (Nat.le_add_right _ 2)
     obtain ⟨hk32,-⟩ : k + 1 ≤ 4294967297 ∧ True:=⟨by have:=HKB.out.1; have:=HN.out.2.1; omega,trivial⟩
     clear f0 f1 c0 c1
     have HE5 : Hid (w2.heap.size < w5.heap.size):=blk_lt R5.out
     have HE4 : Hid (g < w2.heap.size):=Nat.lt_of_lt_of_le HGL.out HB2.out.size
     have HB02 : Hid (wr.heap.size + 2 ≤ wr.heap.size + 2):=Nat.le_refl _
     refine wp_region_inv (fun l ac W => ∃ v3 v37 v38 v39 v40 v41 : Value, ac = { tmps := #[.agg #[.bool false, .slice a m c], .pointer (some ⟨w.heap.size, 0, none⟩), .string ⟨#[]⟩, v3, .pointer (some ⟨g, 0, none⟩), .pointer (some ⟨w2.heap.size, 0, none⟩), .int .u64 (R : Nat), .string T, undef, undef, .pointer (some ⟨w.heap.size, 1, none⟩), .slice a m c, .int .i64 (m : Nat), .bool false, .agg #[.bool false, .slice a m c], .agg #[.bool false, .slice ya ym yc], .pointer (some ⟨g, 1, none⟩), .slice sa sm sc, .int .i64 (sm : Nat), .bool true, .tuple #[.agg #[.bool false, .slice (some ⟨wr.heap.size + 2, 0, none⟩) qm qc], .int .u64 (R : Nat)], .agg #[.bool false, .slice sa sm sc], .tuple #[.agg #[.bool false, .slice (some ⟨wr.heap.size + 2, 0, none⟩) qm qc], .int .u64 (R : Nat)], .agg #[.bool false, .slice (some ⟨wr.heap.size + 2, 0, none⟩) qm qc], .int .u64 (R : Nat), .int .u64 (R : Nat), .string t, .pointer (some ⟨w2.heap.size, 1, none⟩), .slice (some ⟨wr.heap.size + 2, 0, none⟩) qm qc, .int .i64 (qm : Nat), .bool true, .string t, .int .i64 (t.size : Nat), .int .i64 ((18 - t.size : Nat) : Int), .string ⟨(Lib.repeatL [48] (18 - t.size)).toArray⟩, .string t, .string T, v37, v38, v39, v40, v41, u42, undef, undef, undef, undef, undef, undef, undef, undef, undef, undef, undef, undef, undef, undef, undef, undef], defers := [] } ∧ Below w1.heap.size w1 W ∧ W.heap[w2.heap.size]? = some (.cells #[.bool false, (.slice (some ⟨wr.heap.size + 2, 0, none⟩) qm qc)] 123 (0, 0)) ∧
       Num .u64 18446744073709551616 W (.slice (some ⟨wr.heap.size + 2,0,none⟩) qm qc) Q ∧ (∃ y0,W.heap[g]? = some (.cells #[.bool false,y0] 123 (0,0)) ∧ (Did l 6 → y0 = (.slice (some ⟨wr.heap.size + 2,0,none⟩) qm qc))) ∧ (¬ Did l 3 → W.ownsRow w1.heap.size 9 1 u3 k (L.map fun (s : ByteArray)=>Value.string s) ∧ u3.ownBlock ≠ some (wr.heap.size + 2)) ∧
       (¬ Did l 5 → v3 = u3) ∧ (Did l 0 → v37 = u3) ∧ (Did l 1 → v38 = .string T) ∧ (Did l 2 → ∃ gn,v39 = .slice (some ⟨gn,0,none⟩) 1 1 ∧ (¬ Did l 3 → W.cell? ⟨gn,0,none⟩ = some (.string T))) ∧
       (Did l 3 → W.ownsRow w1.heap.size 9 1 v40 (k + 1) ((L.map fun (s : ByteArray)=>Value.string s) ++ [.string T])) ∧ (Did l 4 → v41 = .agg #[.bool false,(.slice (some ⟨wr.heap.size + 2,0,none⟩) qm qc)]) ∧ (Did l 5 → v3 = v40)) (by kernel_rfl) (by kernel_rfl) 7 (by kernel_rfl) ?_ ?_ ?_
     ·intro l hl
      exact ⟨u3,u37,u38,u39,u40,u41,rfl,BW.out.drew,R5.out,QN.out,⟨_,R4.out,fun h=>absurd h (hl _)⟩,fun _=>⟨OW.out,OL.out⟩,fun _=>rfl,fun h=>absurd h (hl _),fun h=>absurd h (hl _),fun h=>absurd h (hl _),fun h=>absurd h (hl _),fun h=>absurd h (hl _),fun h=>absurd h (hl _)⟩
     ·refine ⟨⟨⟨⟨⟨⟨⟨trivial,?_⟩,?_⟩,?_⟩,?_⟩,?_⟩,?_⟩,?_⟩
      all_goals
       rintro l a' W hi ⟨v3,v37,v38,v39,v40,v41,rfl,hb,h5,hqn,⟨y0,h4,d6⟩,how,n5,d0,d1,d2,d3,d4,d5⟩ hn hd hs
      ·have e5 : ¬ Did l 5:=fun h=>hn (hs 5 0 (by kernel_rfl) h)
       obtain rfl:=n5 e5
       refine wpOp_step rfl fun K hK=>?_
       go_simp
       refine hK _ _ ?_
       exact ⟨_,_,v38,v39,v40,v41,rfl,hb,h5,hqn,⟨y0,h4,fun h=>d6 (h.old hi)⟩,fun h=>how fun g=>h ((did_set hi _).2 (.inr g)),fun _=>rfl,fun _=>rfl,fun h=>d1 (h.old hi),fun h=>by obtain ⟨gn,r1,r2⟩:=d2 (h.old hi); exact ⟨gn,r1,fun h=>r2 fun g=>h ((did_set hi _).2 (.inr g))⟩,fun h=>d3 (h.old hi),fun h=>d4 (h.old hi),fun h=>d5 (h.old hi)⟩
      ·refine wpOp_step rfl fun K hK=>?_
       go_simp
       refine hK _ _ ?_
       exact ⟨v3,v37,_,v39,v40,v41,rfl,hb,h5,hqn,⟨y0,h4,fun h=>d6 (h.old hi)⟩,fun h=>how fun g=>h ((did_set hi _).2 (.inr g)),fun h=>n5 fun g=>h ((did_set hi _).2 (.inr g)),fun h=>d0 (h.old hi),fun _=>rfl,fun h=>by obtain ⟨gn,r1,r2⟩:=d2 (h.old hi); exact ⟨gn,r1,fun h=>r2 fun g=>h ((did_set hi _).2 (.inr g))⟩,fun h=>d3 (h.old hi),fun h=>d4 (h.old hi),fun h=>d5 (h.old hi)⟩
      ·obtain rfl:=d1 (hd 1 (by kernel_rfl))
       have e3 : ¬ Did l 3:=fun h=>hn (hs 3 2 (by kernel_rfl) h)
       refine wpOp_step rfl fun K hK=>?_
       go_simp
       refine hK _ _ ?_
       exact ⟨v3,v37,_,_,v40,v41,rfl,hb.alloc hb.size _,((Below.refl W.heap.size W).alloc (Nat.le_refl _) _).blk h5 (blk_lt h5),hqn.below (Nat.le_refl _) ((Below.refl _ _).alloc (Nat.le_refl _) _),⟨y0,((Below.refl W.heap.size W).alloc (Nat.le_refl _) _).blk h4 (blk_lt h4),fun h=>d6 (h.old hi)⟩,fun _=>⟨(how e3).1.alloc _,(how e3).2⟩,fun h=>n5 fun g=>h ((did_set hi _).2 (.inr g)),fun h=>d0 (h.old hi),fun _=>rfl,fun _=>⟨_,rfl,fun _=>cell_of_row _ _ _ _ _ _ (heap_alloc_new W _)⟩,fun h=>absurd (h.old hi) e3,fun h=>d4 (h.old hi),fun h=>d5 (h.old hi)⟩
      ·obtain rfl:=d0 (hd 0 (by kernel_rfl))
       obtain ⟨gn,rfl,hcn⟩:=d2 (hd 2 (by kernel_rfl))
       have hcn:=hcn hn
       obtain ⟨ho,hol⟩:=how hn
       have e5 : ¬ Did l 5:=fun h=>hn (hs 5 3 (by kernel_rfl) h)
       refine wpOp_step rfl fun K hK=>step_pl rfl (wp_append_own _ _ _ 173 rfl w1.heap.size 9 i0 (.string ⟨#[]⟩) 1 16 Tryz.underlying173 hi0 hz0 hz1 hz2 rfl (by decide) _ k _ rfl ho ⟨gn,0,none⟩ 1 1 [.string T] rfl rfl (by intro j z hj; match j with | 0=>(obtain rfl : z = .string T:=by simpa using hj.symm); exact hcn | j + 1=>simp at hj) (by intro z hz; simp at hz; subst hz; rfl) (by unfold maxLen; omega) (by omega) (by have:=hb.size; omega) fun v' W' ho' hgr _=>hK _ _ ?_)
       have b1:=hgr.block _ (blk_lt h5) (fun e=>own_ne ho h5 (by decide) e.symm)
       have b2:=hgr.block _ (blk_lt h4) (fun e=>own_ne ho h4 (by decide) e.symm)
       exact ⟨v3,_,v38,_,v',v41,rfl,hb.grown hgr (by have:=hb.size; omega) (fun z hz=>(ho.lt z hz).1),b1.trans h5,hqn.grown hgr (fun e=>hol e.symm),⟨y0,b2.trans h4,fun h=>d6 (h.old hi)⟩,fun h=>absurd ((did_set hi _).2 (.inl rfl)) h,fun h=>n5 fun g=>h ((did_set hi _).2 (.inr g)),fun _=>rfl,fun h=>d1 (h.old hi),fun _=>⟨gn,rfl,fun h=>absurd ((did_set hi _).2 (.inl rfl)) h⟩,fun _=>ho',fun h=>d4 (h.old hi),fun h=>absurd (h.old hi) e5⟩
      ·refine wpOp_step rfl fun K hK=>step_pl rfl (wp_load_row 123 (.tmp 5) rfl w2.heap.size rfl _ _ _ _ h5 Tryz.underlying123 rfl (by kernel_rfl) (hK _ _ ?_))
       exact ⟨v3,v37,v38,v39,v40,_,rfl,hb,h5,hqn,⟨y0,h4,fun h=>d6 (h.old hi)⟩,fun h=>how fun g=>h ((did_set hi _).2 (.inr g)),fun h=>n5 fun g=>h ((did_set hi _).2 (.inr g)),fun h=>d0 (h.old hi),fun h=>d1 (h.old hi),fun h=>by obtain ⟨gn,r1,r2⟩:=d2 (h.old hi); exact ⟨gn,r1,fun h=>r2 fun g=>h ((did_set hi _).2 (.inr g))⟩,fun h=>d3 (h.old hi),fun _=>rfl,fun h=>d5 (h.old hi)⟩
      ·have e3:=hd 3 (by kernel_rfl)
       refine wpOp_step rfl fun K hK=>?_
       go_simp
       refine hK _ _ ?_
       exact ⟨_,v37,v38,v39,v40,v41,rfl,hb,h5,hqn,⟨y0,h4,fun h=>d6 (h.old hi)⟩,fun h=>absurd ((did_set hi _).2 (.inr e3)) h,fun h=>absurd ((did_set hi _).2 (.inl rfl)) h,fun h=>d0 (h.old hi),fun h=>d1 (h.old hi),fun h=>by obtain ⟨gn,r1,r2⟩:=d2 (h.old hi); exact ⟨gn,r1,fun h=>r2 fun g=>h ((did_set hi _).2 (.inr g))⟩,fun h=>d3 (h.old hi),fun h=>d4 (h.old hi),fun _=>rfl⟩
      ·have e3:=hd 3 (by kernel_rfl)
       have e5:=hd 5 (by kernel_rfl)
       obtain rfl:=d4 (hd 4 (by kernel_rfl))
       have hoo:=d3 e3
       refine wpOp_step rfl fun K hK=>step_pl rfl (wp_store_row 123 (.tmp 4) (.tmp 41) rfl g #[.bool false,(.slice (some ⟨wr.heap.size + 2,0,none⟩) qm qc)] rfl rfl _ _ h4 (by kernel_rfl) rfl (by simp [Value.oneCell']) (hK _ _ ?_))
       exact ⟨v3,v37,v38,v39,v40,_,rfl,below_setRow hb hg _,(setRow_other W g _ _ (by have:=HE4.out; omega)).trans h5,hqn.same (by rw [setRow_size]; exact Nat.le_refl _) (setRow_other W g _ _ (by have:=HGL.out; omega)),⟨_,setRow_heap W g _ _ _ _ h4,fun _=>rfl⟩,fun h=>absurd ((did_set hi _).2 (.inr e3)) h,fun h=>absurd ((did_set hi _).2 (.inr e5)) h,fun h=>d0 (h.old hi),fun h=>d1 (h.old hi),fun h=>by obtain ⟨gn,r1,r2⟩:=d2 (h.old hi); exact ⟨gn,r1,fun h=>absurd ((did_set hi _).2 (.inr e3)) h⟩,fun _=>own_setRow hoo (own_ne hoo h4 (by decide)) _,fun _=>rfl,fun _=>d5 e5⟩
     ·rintro l a' W hall ⟨v3,v37,v38,v39,v40,v41,rfl,hb,h5,hqn,⟨y0,h4,d6⟩,how,n5,d0,d1,d2,d3,d4,d5⟩
      obtain rfl:=d6 (hall 6 (by decide))
      obtain rfl:=d5 (hall 5 (by decide))
      have HO : Hid (W.ownsRow w1.heap.size 9 1 v3 (k + 1) ((L.map fun (s : ByteArray)=>Value.string s) ++ [.string T])):=d3 (hall 3 (by decide))
      have HBF : Hid (Below w1.heap.size w1 W):=hb
      have HQF : Hid (Num .u64 18446744073709551616 W (.slice (some ⟨wr.heap.size + 2,0,none⟩) qm qc) Q):=hqn
      clear how n5 d0 d1 d2 d3 d4 d5 d6 hall hb hqn
      obtain ⟨x0,x1,x2,x3,-,-⟩:=row2 h4
      go_wp2
      go_roundw
      case rel=>
       exact ⟨k + 1,Q,W.heap.size,L ++ [T],_,_,_,rfl,new_blk _ _,HQF.out.below (Nat.le_refl _) ((Below.refl _ _).alloc (Nat.le_refl _) _),HBF.out.size,own_lt HO.out (Nat.le_refl _),by rw [List.map_append]; exact HO.out.alloc _,by have:=text_next HINV.out HYP.out HTP.out; rwa [← HQR.out.1] at this,own_slN HO.out,HBF.out.alloc HBF.out.size _⟩
      case measure=>
       have e1 : slN v3 = k + 1:=own_slN HO.out
       have e2:=HKB.out.1
       show bb - slN v3 < bb - slN u3
       omega
    -- END
end Go.Proofs.YtlbokicainimnaaGreatDoor
