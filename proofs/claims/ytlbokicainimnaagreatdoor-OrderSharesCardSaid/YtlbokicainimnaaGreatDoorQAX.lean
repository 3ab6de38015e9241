import Derived.Test.YtlbokicainimnaaGreatDoorQAA
import Derived.Test.YtlbokicainimnaaGreatDoorQAR
set_option maxRecDepth 100000
namespace Go.Proofs.YtlbokicainimnaaGreatDoor
open Go.RowKit
theorem left_i (x : Value) (N k : Nat) (n : Int) (w : World) (hn : n = (k : Nat)) (h : WideI w x (N : Int)) {bb : Nat} (hN : N < 2 ^ bb) (hbb : bb ≤ 4294967296) (hk : k ≤ 4294967296) :
  Calls Tryz.prog 104 #[x,.int .i64 n] w (WideR ((N * 2 ^ k : Nat) : Int) w):=by
 subst hn; exact left_n x N k w h hN hbb hk
def AtQ (g : Mag) (e : Int) (w : World) (en : Ending) (w' : World) : Prop:=∃ v,en = .returned (.tuple #[v,.int .i64 (g.H e),.bool (g.Z e)]) ∧ WideI w' v (g.Q e : Nat) ∧ Below w.heap.size w w'
section
variable {P : Program} {ops : Array Oper} {Q : Exit → Act → World → Prop}
theorem wanted_of {ds : List (Nat × Nat)} {t0 : Array Value} {j0 dj : Nat} {b0 bv : Bool} {o : Oper} {xs : Nat → Value} (hgd : o.guard = some (j0, b0)) (hoj : (ops[j0]?).bind (·.dst) = some dj)
  (hlk : look ds xs t0 dj = xs j0) (hv : xs j0 = .bool bv) (h1 : once ds = true) (h2 : within ds t0.size = true) : Region.wanted o (yielded ops (layAll ds xs t0)) = (bv == b0):=by
 have hl:=layAll_look xs dj ds t0 h1 h2
 rw [hlk,hv] at hl
 have hget : (layAll ds xs t0)[dj]? = some (.bool bv):=by
  rw [Array.getD_eq_getD_getElem?] at hl
  cases hc : (layAll ds xs t0)[dj]? with
  | none=>rw [hc] at hl; cases hl
  | some v=>rw [hc] at hl; exact congrArg some hl
 unfold Region.wanted
 rw [hgd]
 show (yielded ops (layAll ds xs t0) j0 == some b0) = _
 unfold yielded
 rw [hoj]
 show ((match (layAll ds xs t0)[dj]? with | some (.bool b)=>some b | _=>none) == some b0) = _
 rw [hget]
 cases bv <;> cases b0 <;> rfl
theorem flow3_stepG {ds : List (Nat × Nat)} {al : List Nat} {S : Nat → (Nat → Value) → World → Prop} {G : (Nat → Prop) → World → Prop} {t0 : Array Value} {df : List Deferred} {i : Nat} (o : Oper) (d0 j0 dj : Nat) (b0 : Bool) (ho : ops[i]? = some o) (hgd : o.guard = some (j0, b0)) (hoj : (ops[j0]?).bind (·.dst) = some dj) (hnj : (needs .any ops i).contains j0 = true)
  (hlk : ∀ xs : Nat → Value,look ds xs t0 dj = xs j0) (hSj : ∀ (xs : Nat → Value) W,S j0 xs W → xs j0 = .bool b0) (_hd : ∀ d,(d,i) ∈ ds → d = d0) (hdo : o.dst = some d0) (h1 : once ds = true) (h2 : within ds t0.size = true)
  (hGi : ∀ D W,¬ D i → G D W → G (fun j=>j = i ∨ D j) W) (hGb : ∀ D W W',G D W → Below W.heap.size W W' → G D W') (hstab : ∀ j (ys : Nat → Value) W W',S j ys W → Below W.heap.size W W' → S j ys W')
  (h : ∀ (a : Act) xs W (D : Nat → Prop),(∀ d,a.eval (.tmp d) = look ds xs t0 d) → ¬ D i → G D W → (∀ j,(needs .any ops i).contains j = true → S j xs W) → ∀ K : Act → World → Prop,
   (∀ v W',S i (fun j=>if j = i then v else xs j) W' → Below W.heap.size W W' → (i ∈ al → v = .pointer (some ⟨W.heap.size,0,none⟩)) → K (a.put (some d0) v) W') → Oper.wp P o a W K Q) : FlowAt3 P ops Q ds al S G t0 df i:=by
 intro xs W D hD hG hS K d hd1 hd2 hd3 hK
 have hdd : d = some d0 := by rw [ho] at hd3; have : o.dst = d := by simpa using hd3
                              rw [← this,hdo]
 subst hdd
 refine ⟨o,ho,?_⟩
 have hw:=wanted_of hgd hoj (hlk xs) (hSj xs W (hS j0 hnj).1) h1 h2
 rw [show (b0 == b0) = true by cases b0 <;> rfl] at hw
 rw [if_pos hw]
 exact h ⟨layAll ds xs t0,df⟩ xs W D (fun d=>layAll_look xs d ds t0 h1 h2) hD hG (fun j hj=>(hS j hj).1) K fun v W' hv hb hf=>hK v W' hv (hGb _ _ _ (hGi D W hD hG) hb) (fun j u hu=>hstab j u W W' hu hb) hf
theorem flow3_skip {ds : List (Nat × Nat)} {al : List Nat} {S : Nat → (Nat → Value) → World → Prop} {G : (Nat → Prop) → World → Prop} {t0 : Array Value} {df : List Deferred} {i : Nat} (o : Oper) (d0 j0 dj : Nat) (b0 : Bool) (ho : ops[i]? = some o) (hgd : o.guard = some (j0, b0)) (hoj : (ops[j0]?).bind (·.dst) = some dj) (hnj : (needs .any ops i).contains j0 = true)
  (hlk : ∀ xs : Nat → Value,look ds xs t0 dj = xs j0) (hSj : ∀ (xs : Nat → Value) W,S j0 xs W → xs j0 = .bool (!b0)) (_hd : ∀ d,(d,i) ∈ ds → d = d0) (_hdo : o.dst = some d0) (h1 : once ds = true) (h2 : within ds t0.size = true)
  (hGi : ∀ D W,¬ D i → G D W → G (fun j=>j = i ∨ D j) W) (hSi : ∀ (xs : Nat → Value) W,S i xs W) (hal : i ∉ al) : FlowAt3 P ops Q ds al S G t0 df i:=by
 intro xs W D hD hG hS K d hd1 hd2 hd3 hK
 have hdd : o.dst = d:=by rw [ho] at hd3; simpa using hd3
 refine ⟨o,ho,?_⟩
 have hw:=wanted_of hgd hoj (hlk xs) (hSj xs W (hS j0 hnj).1) h1 h2
 rw [show ((!b0) == b0) = false by cases b0 <;> rfl] at hw
 rw [if_neg (by rw [hw]; decide),hdd]
 exact hK undef W (hSi _ _) (hGi D W hD hG) (fun j ys h=>h) (fun h=>absurd h hal)
end
def Rows (w : World) (l : List (Nat × Nat)) (W : World) : Prop:=Below w.heap.size w W ∧ IntRow W (w.heap.size + 1) ∧ ∀ p ∈ l,IR W p.1 p.2 ∧ w.heap.size + 2 ≤ p.1
theorem Rows.at {w W : World} {l : List (Nat × Nat)} (h : Rows w l W) {g N : Nat} (hm : (g,N) ∈ l) : IR W g N:=(h.2.2 _ hm).1
theorem Rows.res {w W : World} {l : List (Nat × Nat)} (h : Rows w l W) : IntRow W (w.heap.size + 1):=h.2.1
theorem Rows.below {w W W' : World} {l : List (Nat × Nat)} (h : Rows w l W) (hb : Below W.heap.size W W') : Rows w l W':=
 ⟨h.1.thru hb,h.2.1.below hb,fun p hp=>⟨(h.2.2 p hp).1.below hb,(h.2.2 p hp).2⟩⟩
theorem Rows.set {w W : World} {l : List (Nat × Nat)} (h : Rows w l W) (ya : Option Addr) (ym yc : Nat) : Rows w l (W.setRow (w.heap.size + 1) #[.bool false,.slice ya ym yc]):=by
 refine ⟨below_setRow h.1 (by omega) _,?_,fun p hp=>⟨(h.2.2 p hp).1.set h.2.1 (by have:=(h.2.2 p hp).2; omega),(h.2.2 p hp).2⟩⟩
 obtain ⟨x,a,m,c,e⟩:=h.2.1
 exact ⟨_,_,_,_,setRow_heap W _ _ _ _ _ e⟩
theorem Rows.cons {w W : World} {l : List (Nat × Nat)} (h : Rows w l W) {g N : Nat} (hi : IR W g N) (hg : w.heap.size + 2 ≤ g) : Rows w ((g,N) :: l) W:=
 ⟨h.1,h.2.1,fun p hp=>by rcases List.mem_cons.1 hp with rfl | hp; exact ⟨hi,hg⟩; exact h.2.2 p hp⟩
theorem results_ctt {fn : Func} {p u v : Tmp} {ty : TypeId} (h : fn.results = #[.cell p ty, .tmp u, .tmp v]) (tmps : Array Value) (P : Program) (w : World) :
  (results fn tmps).run P w =
   ((asAddr (tmps.getD p undef)).run P w).andThen fun a w₁=>((loadVar ty a).run P w₁).andThen fun x w₂=>.ok (.tuple #[x,tmps.getD u undef,tmps.getD v undef]) w₂:=by
 simp only [results,h]
 simp [Sem.run_bind,Result.andThen]
theorem int_row_tt {fn : Func} {p u v : Tmp} (h : fn.results = #[.cell p 123, .tmp u, .tmp v]) (tmps : Array Value) (w : World) (g : Nat) (x y : Value)
  (hp : tmps.getD p undef = .pointer (some ⟨g,0,none⟩)) (hg : w.heap[g]? = some (.cells #[x,y] 123 (0,0))) : (results fn tmps).run Tryz.prog w = .ok (.tuple #[.agg #[x,y],tmps.getD u undef,tmps.getD v undef]) w:=by
 have hp' : tmps[p]?.getD undef = .pointer (some ⟨g,0,none⟩):=by simpa using hp
 rw [results_ctt h]
 simp [hp',asAddr,run_loadVar_row (P:=Tryz.prog) w g _ 123 #[x,y] (0,0) _ hg Tryz.underlying123 rfl (by kernel_rfl),Result.andThen]
theorem at_end2 {fn : Func} {p q r : Tmp} (hf : fn.results = #[.cell p 123, .tmp q, .tmp r]) {tmps : Array Value} {w0 w : World} {g0 : Nat} {N : Nat} {h : Int} {z : Bool} {g : Mag} {e : Int}
  (hp : tmps.getD p undef = .pointer (some ⟨g0,0,none⟩)) (hq : tmps.getD q undef = .int .i64 h) (hr : tmps.getD r undef = .bool z) (hg : IR w g0 N) (hb : Below w0.heap.size w0 w) (hN : N = g.Q e) (hh : h = g.H e) (hz : z = g.Z e) :
  bodyPost Tryz.prog fn (AtQ g e w0) .ret ⟨tmps,[]⟩ w:=by
 obtain ⟨a,m,c,e1,hv⟩:=hg
 refine bodyPost_ret (int_row_tt hf _ _ g0 _ _ hp e1) rfl ⟨.agg #[.bool false,.slice a m c],?_,?_,hb⟩
 ·show _ = Ending.returned (.tuple #[_,_,_])
  rw [← hh,← hz,← hq,← hr]
 ·rw [← hN]; exact .mk hv
set_option maxHeartbeats 8000000 in
theorem at_rat (neg : Bool) (a a' : Option Addr) (m c m' c' M D : Nat) (e : Int) (w : World) (hM : Num .u64 18446744073709551616 w (.slice a m c) M) (hD : Num .u64 18446744073709551616 w (.slice a' m' c') D) {bb : Nat} (h1 : M < 2 ^ bb) (h2 : D < 2 ^ bb) (hbb : bb ≤ 1000000) (he1 : -1000000 ≤ e) (he2 : e ≤ 1000000) :
  Calls Tryz.prog 253 #[.agg #[.bool neg,.bool false,.bool false,.slice a m c,.bool false,.slice a' m' c'],.int .i64 e] w (AtQ (ratMag M D 0) e w):=by
 obtain ⟨w2,hw2⟩ : ∃ W,W = (w.alloc (.cells #[.bool neg,.bool false,.bool false,.slice a m c,.bool false,.slice a' m' c'] 202)).alloc (.cells #[.bool false,.slice none 0 0] 123):=⟨_,rfl⟩
 have hba : Below w.heap.size w w2:=by rw [hw2]; exact ((Below.refl _ _).alloc (Nat.le_refl _) _).alloc (by simp) _
 have hq0 : w2.heap[w.heap.size]? = some (.cells #[.bool neg,.bool false,.bool false,.slice a m c,.bool false,.slice a' m' c'] 202 (0,0)):=by
  rw [hw2]; exact (((Below.refl _ (w.alloc (.cells #[.bool neg,.bool false,.bool false,.slice a m c,.bool false,.slice a' m' c'] 202))).alloc (Nat.le_refl _) _).blk (heap_alloc_new w _) (by simp))
 have hq1 : w2.heap[w.heap.size + 1]? = some (.cells #[.bool false,.slice none 0 0] 123 (0,0)):=by rw [hw2]; exact heap_alloc2_new w _ _
 have hsz : w2.heap.size = w.heap.size + 2:=by rw [hw2]; simp
 have HX : Hid (∀ W,Below w2.heap.size w2 W → W.heap[w.heap.size]? = some (.cells #[.bool neg,.bool false,.bool false,.slice a m c,.bool false,.slice a' m' c'] 202 (0,0)) ∧ W.heap[w.heap.size + 1]? = some (.cells #[.bool false,.slice none 0 0] 123 (0,0)) ∧ Num .u64 18446744073709551616 W (.slice a m c) M ∧ Num .u64 18446744073709551616 W (.slice a' m' c') D):=fun W hW=>
  ⟨hW.blk hq0 (by omega),hW.blk hq1 (by omega),hM.below (Nat.le_refl _) (hba.trans (hW.mono hba.size)),hD.below (Nat.le_refl _) (hba.trans (hW.mono hba.size))⟩
 have HB0 : Hid (Below w.heap.size w w2):=hba
 have HSZ : Hid (w2.heap.size = w.heap.size + 2):=hsz
 have HBD : Hid (M < 2 ^ bb ∧ D < 2 ^ bb ∧ bb ≤ 1000000):=⟨h1,h2,hbb⟩
 clear hM hD h1 h2 hbb hba hq0 hq1 hsz
 go_enter Tryz.func253,Tryz.ntmps253
 go_upto_region 1 with fail
 rw [← hw2]
 clear hw2
 have h1 : once [(15,0),(16,1),(17,2),(18,3),(7,4),(8,5)] = true:=by kernel_rfl
 have h2 : within [(15,0),(16,1),(17,2),(18,3),(7,4),(8,5)] 78 = true:=by kernel_rfl
 let S : Nat → (Nat → Value) → World → Prop:=fun i xs W=>match i with
  | 0=>(xs 0) = .pointer (some ⟨w.heap.size,2,none⟩)
  | 1=>(xs 1) = .agg #[.bool false,.slice a m c]
  | 2=>(xs 2) = .pointer (some ⟨w.heap.size,4,none⟩)
  | 3=>(xs 3) = .agg #[.bool false,.slice a' m' c']
  | 4=>∃ g,xs 4 = .pointer (some ⟨g,0,none⟩) ∧ w2.heap.size ≤ g ∧ IntRow W g
  | 5=>∃ g,xs 5 = .pointer (some ⟨g,0,none⟩) ∧ w2.heap.size ≤ g ∧ IntRow W g
  | 6=>∃ g,xs 4 = .pointer (some ⟨g,0,none⟩) ∧ w2.heap.size ≤ g ∧ IR W g (M)
  | _=>True
 have hstab : ∀ j ys W W',S j ys W → Below W.heap.size W W' → S j ys W':=by
  intro j ys W W' h hb
  match j,h with
  | 0,h=>exact h
  | 1,h=>exact h
  | 2,h=>exact h
  | 3,h=>exact h
  | 4,⟨g,s1,s2,s3⟩=>exact ⟨g,s1,s2,s3.below hb⟩
  | 5,⟨g,s1,s2,s3⟩=>exact ⟨g,s1,s2,s3.below hb⟩
  | 6,⟨g,s1,s2,s3⟩=>exact ⟨g,s1,s2,s3.below hb⟩
  | _ + 7,h=>exact trivial
 refine wp_region_flow3 7 8 [(15,0),(16,1),(17,2),(18,3),(7,4),(8,5)] [4,5] S (fun _ W=>Below w2.heap.size w2 W) ((Below.refl _ _).drew) (by kernel_rfl) (by kernel_rfl) (by kernel_rfl) (by decide) (by kernel_rfl) h1 (by kernel_rfl) ?_ ?_ ?_ ?_
 ·intro j hj xs W h
  simp only [List.mem_cons,List.not_mem_nil,or_false] at hj
  rcases hj with rfl | rfl
  ·obtain ⟨g,s1,_,s3⟩:=h; exact ⟨g,s1,s3.lt⟩
  ·obtain ⟨g,s1,_,s3⟩:=h; exact ⟨g,s1,s3.lt⟩
 ·intro j xs ys W e h
  match j,e,h with
  | 0,e,h=>exact (e 0 (.inl rfl)).symm.trans h
  | 1,e,h=>exact (e 1 (.inl rfl)).symm.trans h
  | 2,e,h=>exact (e 2 (.inl rfl)).symm.trans h
  | 3,e,h=>exact (e 3 (.inl rfl)).symm.trans h
  | 4,e,⟨g,s1,r⟩=>exact ⟨g,(e 4 (.inl rfl)).symm.trans s1,r⟩
  | 5,e,⟨g,s1,r⟩=>exact ⟨g,(e 5 (.inl rfl)).symm.trans s1,r⟩
  | 6,e,⟨g,s1,r⟩=>exact ⟨g,(e 4 (.inr (by kernel_rfl))).symm.trans s1,r⟩
  | _ + 7,e,h=>exact trivial
 ·refine ⟨⟨⟨⟨⟨⟨⟨trivial,?_⟩,?_⟩,?_⟩,?_⟩,?_⟩,?_⟩,?_⟩
  ·refine flow3_step _ (some 15) rfl rfl rfl h1 h2 (fun D W _ h=>h) (fun D W W' h hb=>h.thru hb) hstab fun ac xs W Dn he hni hb hS K hK=>?_
   have e0 : ac.eval (.tmp 2) = .pointer (some ⟨w.heap.size,0,none⟩):=he 2
   refine op_any (.fieldAddr 202 (.tmp 2) 2) rfl (.pointer (some ⟨w.heap.size,2,none⟩)) (fun o' ho'=>?_) (hK _ _ rfl (Below.refl _ _) (fun h=>absurd h (by decide)))
   simp only [execOp,ho',e0]
   go_simp
  ·refine flow3_step _ (some 16) rfl rfl rfl h1 h2 (fun D W _ h=>h) (fun D W W' h hb=>h.thru hb) hstab fun ac xs W Dn he hni hb hS K hK=>?_
   have k2:=cell_of_row W w.heap.size 2 _ _ _ (HX.out W hb).1
   have k3:=cell_of_row W w.heap.size 3 _ _ _ (HX.out W hb).1
   have e0 : ac.eval (.tmp 15) = _:=(he 15).trans (hS 0 (by kernel_rfl))
   refine op_any (.load 123 (.tmp 15)) rfl (.agg #[.bool false,.slice a m c]) (fun o' ho'=>?_) (hK _ _ rfl (Below.refl _ _) (fun h=>absurd h (by decide)))
   simp only [execOp,ho',e0]
   go_simp
  ·refine flow3_step _ (some 17) rfl rfl rfl h1 h2 (fun D W _ h=>h) (fun D W W' h hb=>h.thru hb) hstab fun ac xs W Dn he hni hb hS K hK=>?_
   have e0 : ac.eval (.tmp 2) = .pointer (some ⟨w.heap.size,0,none⟩):=he 2
   refine op_any (.fieldAddr 202 (.tmp 2) 3) rfl (.pointer (some ⟨w.heap.size,4,none⟩)) (fun o' ho'=>?_) (hK _ _ rfl (Below.refl _ _) (fun h=>absurd h (by decide)))
   simp only [execOp,ho',e0]
   go_simp
  ·refine flow3_step _ (some 18) rfl rfl rfl h1 h2 (fun D W _ h=>h) (fun D W W' h hb=>h.thru hb) hstab fun ac xs W Dn he hni hb hS K hK=>?_
   have k4:=cell_of_row W w.heap.size 4 _ _ _ (HX.out W hb).1
   have k5:=cell_of_row W w.heap.size 5 _ _ _ (HX.out W hb).1
   have e0 : ac.eval (.tmp 17) = _:=(he 17).trans (hS 2 (by kernel_rfl))
   refine op_any (.load 123 (.tmp 17)) rfl (.agg #[.bool false,.slice a' m' c']) (fun o' ho'=>?_) (hK _ _ rfl (Below.refl _ _) (fun h=>absurd h (by decide)))
   simp only [execOp,ho',e0]
   go_simp
  ·refine flow3_step _ (some 7) rfl rfl rfl h1 h2 (fun D W _ h=>h) (fun D W W' h hb=>h.thru hb) hstab fun ac xs W Dn he hni hb hS K hK=>?_
   have hsz:=hb.size
   refine op_anyw (.alloc 123) rfl (.pointer (some ⟨W.heap.size,0,none⟩)) (W.alloc (.cells #[.bool false,.slice none 0 0] 123)) ?_ ?_
   ·intro o' ho'
    simp only [execOp,ho']
    go_simp
   ·exact hK _ _ ⟨_,rfl,by omega,intRow_new _⟩ ((Below.refl _ _).alloc (Nat.le_refl _) _) (fun _=>rfl)
  ·refine flow3_step _ (some 8) rfl rfl rfl h1 h2 (fun D W _ h=>h) (fun D W W' h hb=>h.thru hb) hstab fun ac xs W Dn he hni hb hS K hK=>?_
   have hsz:=hb.size
   refine op_anyw (.alloc 123) rfl (.pointer (some ⟨W.heap.size,0,none⟩)) (W.alloc (.cells #[.bool false,.slice none 0 0] 123)) ?_ ?_
   ·intro o' ho'
    simp only [execOp,ho']
    go_simp
   ·exact hK _ _ ⟨_,rfl,by omega,intRow_new _⟩ ((Below.refl _ _).alloc (Nat.le_refl _) _) (fun _=>rfl)
  ·refine flow3_store _ rfl rfl rfl h1 h2 (by decide) fun ac xs W Dn he hni hb hS K hK=>?_
   obtain ⟨g,s1,s2,hrow0⟩:=hS 4 (by kernel_rfl)
   have hi0 : WideI W (xs 1) ((M : Nat) : Int):=by have e:=hS 1 (by kernel_rfl); rw [show xs 1 = _ from e]; exact .mk (HX.out W hb).2.2.1
   obtain ⟨ya,ym,yc,ey,-⟩:=hi0.nat
   have hvy : ac.eval (.tmp 16) = .agg #[.bool false,.slice ya ym yc]:=(he 16).trans ey
   obtain ⟨z1,z2,z3,z4,s4⟩:=id hrow0
   refine wp_store_row 123 (.tmp 7) (.tmp 16) rfl g #[.bool false,.slice ya ym yc] ((he 7).trans s1) hvy _ _ s4 (by kernel_rfl) rfl (by simp [Value.oneCell']) ?_
   have hself : IR (W.setRow g #[.bool false,.slice ya ym yc]) g _:=.self hrow0 (by rw [← ey]; exact hi0)
   refine hK _ ⟨g,s1,s2,hself⟩ (below_setRow hb s2 _) ?_
   intro j ys h
   match j,h with
   | 0,h=>exact h
   | 1,h=>exact h
   | 2,h=>exact h
   | 3,h=>exact h
   | 4, ⟨g1, u1, u2, u3⟩ =>
     by_cases hg : g1 = g
     ·subst hg; exact ⟨g1,u1,u2,hself.row⟩
     ·obtain ⟨x1,x2,x3,x4,x5⟩:=u3; exact ⟨g1,u1,u2,x1,x2,x3,x4,(setRow_other W g g1 _ hg).trans x5⟩
   | 5, ⟨g1, u1, u2, u3⟩ =>
     by_cases hg : g1 = g
     ·subst hg; exact ⟨g1,u1,u2,hself.row⟩
     ·obtain ⟨x1,x2,x3,x4,x5⟩:=u3; exact ⟨g1,u1,u2,x1,x2,x3,x4,(setRow_other W g g1 _ hg).trans x5⟩
   | 6, ⟨g1, u1, u2, u4⟩ =>
     by_cases hg : g1 = g
     ·subst hg; exact ⟨g1,u1,u2,hself⟩
     ·exact ⟨g1,u1,u2,u4.set hrow0 hg⟩
   | _ + 7,h=>exact trivial
 ·intro xs w3 Dn hall hb hS hD
  have s1 : xs 1 = _:=hS 1 (by decide)
  have s3 : xs 3 = _:=hS 3 (by decide)
  obtain ⟨g7,t1,t2,t3⟩:=hS 6 (by decide)
  obtain ⟨g8,u1,u2,u3⟩:=hS 5 (by decide)
  have hne : g7 ≠ g8:=by
   have:=hD 4 (by decide) 5 (by decide) (by decide) (by decide) (by decide)
   rw [t1,u1] at this; intro hh; exact this (by rw [hh])
  obtain ⟨-,-,n1,n2⟩:=HX.out _ hb
  obtain ⟨y1,y2,y3,y4,u5⟩:=id u3
  obtain ⟨f3,f4,c3,c4,f5,c5⟩:=row2 u5
  have HR7 : Hid (IR ((w3.setCell ⟨g8,0,none⟩ (.bool false)).setCell ⟨g8,1,none⟩ (.slice a' m' c')) g7 M):=t3.off u3 hne false
  have HR8 : Hid (IR ((w3.setCell ⟨g8,0,none⟩ (.bool false)).setCell ⟨g8,1,none⟩ (.slice a' m' c')) g8 D):=.put u3 n2
  have HB3 : Hid (Below w2.heap.size w2 ((w3.setCell ⟨g8,0,none⟩ (.bool false)).setCell ⟨g8,1,none⟩ (.slice a' m' c'))):=below_row hb u2 _ _
  have HG : Hid (w2.heap.size ≤ g7 ∧ w2.heap.size ≤ g8 ∧ g7 ≠ g8):=⟨t2,u2,hne⟩
  generalize xs 0 = x0 at *
  generalize xs 2 = x2 at *
  simp only [layAll,s1,s3,t1,u1]
  clear hS hD hall hstab S s1 s3 t1 t2 t3 u1 u2 u3 hb n1 n2 u5 hne
  obtain ⟨w4,hw4⟩ : ∃ W,W = ((w3.setCell ⟨g8,0,none⟩ (.bool false)).setCell ⟨g8,1,none⟩ (.slice a' m' c')):=⟨_,rfl⟩
  rw [← hw4] at HR7 HR8 HB3
  go_upto_region 2 with fail
  rw [← hw4]
  clear hw4 f3 f4 c3 c4 f5 c5
  have kb:=cell_of_row w4 w.heap.size 1 _ _ _ (HX.out _ HB3.out).1
  have i1 : IntKind.i64.wrap (2 * e) = 2 * e:=IntWalk.i64_in _ (by omega)
  obtain ⟨s,hs⟩ : ∃ s,s = e:=⟨_,rfl⟩
  have HS : Hid (s = e):=hs
  have i2 : IntKind.i64.wrap (-s) = -s:=IntWalk.i64_in _ (by omega)
  rw [← hs] at i1
  go_upto_if 25 with fail
  rw [← hs]
  clear hs kb i1
  go_cut [28] (fun _ wx=>IR wx g7 (toN M 0 e) ∧ IR wx g8 (toD D 0 e) ∧ Below w2.heap.size w2 wx)
  case first=>as_aux_lemma=>
   obtain ⟨ra,rm,rc,p7,n7⟩:=HR7.out
   obtain ⟨ta,tm,tc,p8,n8⟩:=HR8.out
   have P7 : Hid _:=p7
   have P8 : Hid _:=p8
   by_cases h0 : 0 ≤ s
   ·obtain ⟨f0,f1,c0,c1,-,-⟩:=row2 p8
    have N8 : Hid (Num .u64 18446744073709551616 w4 (.slice ta tm tc) D):=n8
    obtain ⟨k,hk⟩ : ∃ k : Nat,s = k:=⟨s.toNat,by omega⟩
    have HK : Hid (k ≤ 4294967296):=by show _ ≤ _; have:=HS.out; omega
    have HKS : Hid (s = k):=hk
    clear p7 p8 n7 n8 hk
    go_wp2_with fail
    refine (left_i _ D k _ _ HKS.out (.mk N8.out) HBD.out.2.1 (by have:=HBD.out.2.2; omega) HK.out).mono ?_
    rintro en w5 ⟨v,rfl,hv,hb5⟩
    obtain ⟨ya,ym,yc,rfl,hy⟩:=hv.nat
    have q8:=hb5.blk P8.out (blk_lt P8.out)
    obtain ⟨f2,f3,c2,c3,f4,c4⟩:=row2 q8
    have R8 : Hid (IR ((w5.setCell ⟨g8,0,none⟩ (.bool false)).setCell ⟨g8,1,none⟩ (.slice ya ym yc)) g8 (D * 2 ^ k)):=.put ⟨_,_,_,_,q8⟩ hy
    have R7 : Hid (IR ((w5.setCell ⟨g8,0,none⟩ (.bool false)).setCell ⟨g8,1,none⟩ (.slice ya ym yc)) g7 M):=(HR7.out.below hb5).off ⟨_,_,_,_,q8⟩ HG.out.2.2 false
    have B5 : Hid (Below w2.heap.size w2 ((w5.setCell ⟨g8,0,none⟩ (.bool false)).setCell ⟨g8,1,none⟩ (.slice ya ym yc))):=below_row (HB3.out.thru hb5) HG.out.2.1 _ _
    clear hv hy hb5 q8 f0 f1 c0 c1
    go_wp2
    go_meet
    refine ⟨?_,?_,B5.out⟩
    ·rw [show toN M 0 e = M by unfold toN; rw [show (0 - e).toNat = 0 by have:=HS.out; have:=HKS.out; omega,Nat.pow_zero,Nat.mul_one]]; exact R7.out
    ·rw [show toD D 0 e = D * 2 ^ k by unfold toD; rw [show (e - 0).toNat = k by have:=HS.out; have:=HKS.out; omega]]; exact R8.out
   ·obtain ⟨f0,f1,c0,c1,-,-⟩:=row2 p7
    have N7 : Hid (Num .u64 18446744073709551616 w4 (.slice ra rm rc) M):=n7
    obtain ⟨k,hk⟩ : ∃ k : Nat,-s = k:=⟨(-s).toNat,by omega⟩
    have HK : Hid (k ≤ 4294967296):=by show _ ≤ _; have:=HS.out; omega
    have HKS : Hid (-s = k):=hk
    clear p7 p8 n7 n8 hk
    go_wp2_with fail
    refine (left_i _ M k _ _ HKS.out (.mk N7.out) HBD.out.1 (by have:=HBD.out.2.2; omega) HK.out).mono ?_
    rintro en w5 ⟨v,rfl,hv,hb5⟩
    obtain ⟨ya,ym,yc,rfl,hy⟩:=hv.nat
    have q7:=hb5.blk P7.out (blk_lt P7.out)
    obtain ⟨f2,f3,c2,c3,f4,c4⟩:=row2 q7
    have R7 : Hid (IR ((w5.setCell ⟨g7,0,none⟩ (.bool false)).setCell ⟨g7,1,none⟩ (.slice ya ym yc)) g7 (M * 2 ^ k)):=.put ⟨_,_,_,_,q7⟩ hy
    have R8 : Hid (IR ((w5.setCell ⟨g7,0,none⟩ (.bool false)).setCell ⟨g7,1,none⟩ (.slice ya ym yc)) g8 D):=(HR8.out.below hb5).off ⟨_,_,_,_,q7⟩ (Ne.symm HG.out.2.2) false
    have B5 : Hid (Below w2.heap.size w2 ((w5.setCell ⟨g7,0,none⟩ (.bool false)).setCell ⟨g7,1,none⟩ (.slice ya ym yc))):=below_row (HB3.out.thru hb5) HG.out.1 _ _
    clear hv hy hb5 q7 f0 f1 c0 c1
    go_wp2
    go_meet
    refine ⟨?_,?_,B5.out⟩
    ·rw [show toN M 0 e = M * 2 ^ k by unfold toN; rw [show (0 - e).toNat = k by have:=HS.out; have:=HKS.out; omega]]; exact R7.out
    ·rw [show toD D 0 e = D by unfold toD; rw [show (e - 0).toNat = 0 by have:=HS.out; have:=HKS.out; omega,Nat.pow_zero,Nat.mul_one]]; exact R8.out
  case rest=>
  obtain ⟨HA,HC,HB⟩:=hcut
  obtain ⟨kk,hkk⟩ : ∃ k,k = 2000000:=⟨_,rfl⟩
  obtain ⟨b2,hb2⟩ : ∃ b2,b2 = bb + kk:=⟨_,rfl⟩
  obtain ⟨NN,hNN⟩ : ∃ X,X = toN M 0 e:=⟨_,rfl⟩
  obtain ⟨DD,hDD⟩ : ∃ X,X = toD D 0 e:=⟨_,rfl⟩
  have HND : Hid (NN < 2 ^ b2 ∧ DD < 2 ^ b2 ∧ b2 ≤ 3000000):=by
   refine ⟨?_,?_,by have:=HBD.out.2.2; omega⟩
   ·rw [hNN,hb2,Nat.pow_add]
    exact Nat.mul_lt_mul_of_lt_of_le HBD.out.1 (Nat.pow_le_pow_right (by decide) (by omega)) (Nat.two_pow_pos _)
   ·rw [hDD,hb2,Nat.pow_add]
    exact Nat.mul_lt_mul_of_lt_of_le HBD.out.2.1 (Nat.pow_le_pow_right (by decide) (by omega)) (Nat.two_pow_pos _)
  rw [← hNN] at HA
  rw [← hDD] at HC
  have HGG : Hid ((ratMag M D 0).Q e = NN / DD ∧ (ratMag M D 0).H e = ncmp (NN % DD * 2) DD ∧ (ratMag M D 0).Z e = decide (NN % DD = 0)):=by rw [hNN,hDD]; exact ⟨rfl,rfl,rfl⟩
  clear hNN hDD hb2 hkk HR7 HR8 HB3 HBD HS i2
  obtain ⟨ra,rm,rc,p7,n7⟩:=HA
  obtain ⟨ta,tm,tc,p8,n8⟩:=HC
  obtain ⟨f0,f1,c0,c1,-,-⟩:=row2 p7
  obtain ⟨f2,f3,c2,c3,-,-⟩:=row2 p8
  have P8 : Hid _:=p8
  have N8 : Hid (Num .u64 18446744073709551616 wc (.slice ta tm tc) DD):=n8
  have P7 : Hid _:=p7
  have N7 : Hid (Num .u64 18446744073709551616 wc (.slice ra rm rc) NN):=n7
  have HBC : Hid (Below w2.heap.size w2 wc):=HB
  clear p7 p8 n7 n8 HB
  go_wp2_with fail
  refine (quo_n _ _ NN DD _ (.mk N7.out) (.mk N8.out) HND.out.1 (by have:=HND.out.2.2; omega)).mono ?_
  rintro en w6 ⟨v,v',rfl,hv,hv',hb6⟩
  obtain ⟨qa,qm,qc,rfl,hq⟩:=hv.nat
  obtain ⟨sa,sm,sc,rfl,hr⟩:=hv'.nat
  obtain ⟨w7,hw7⟩ : ∃ W,W = (w6.alloc (.cells #[.bool false,.slice qa qm qc] 123)).alloc (.cells #[.bool false,.slice sa sm sc] 123):=⟨_,rfl⟩
  have hb7 : Below w6.heap.size w6 w7:=by rw [hw7]; exact ((Below.refl _ _).alloc (Nat.le_refl _) _).alloc (by simp) _
  have hb5 : Below w6.heap.size w6 (w6.alloc (.cells #[.bool false,.slice qa qm qc] 123)):=(Below.refl _ _).alloc (Nat.le_refl _) _
  have H10 : Hid (IR w7 w6.heap.size (NN / DD)):=by rw [hw7]; exact (IR.new (.mk hq)).below ((Below.refl _ _).alloc (Nat.le_refl _) _)
  have H11 : Hid (IR w7 (w6.heap.size + 1) (NN % DD)):=by
   rw [hw7]
   have h:=IR.new (w:=w6.alloc (.cells #[.bool false,.slice qa qm qc] 123)) (.mk (hr.below (Nat.le_refl _) hb5))
   have e : (w6.alloc (.cells #[.bool false,.slice qa qm qc] 123)).heap.size = w6.heap.size + 1:=by simp
   rwa [e] at h
  have H8 : Hid (IR w7 g8 DD):=⟨ta,tm,tc,(hb6.thru hb7).blk P8.out (blk_lt P8.out),N8.out.below (Nat.le_refl _) (hb6.thru hb7)⟩
  have H7 : Hid (IR w7 g7 NN):=⟨ra,rm,rc,(hb6.thru hb7).blk P7.out (blk_lt P7.out),N7.out.below (Nat.le_refl _) (hb6.thru hb7)⟩
  have HB6 : Hid (Below w2.heap.size w2 w6):=HBC.out.thru hb6
  have HB7 : Hid (Below w2.heap.size w2 w7):=(HBC.out.thru hb6).thru hb7
  clear hv hv' hq hr hb6 hb7 hb5 f0 f1 c0 c1 f2 f3 c2 c3 P7 P8 N7 N8 HBC
  go_upto_region 9 with fail
  rw [← hw7]
  clear hw7
  have hz6 : w2.heap.size ≤ w6.heap.size:=HB6.out.size
  have HRW : Hid (Rows w [(w6.heap.size,NN / DD),(w6.heap.size + 1,NN % DD),(g8,DD),(g7,NN)] w7):=
   Rows.cons (Rows.cons (Rows.cons (Rows.cons (l:=[]) ⟨HB0.out.trans (HB7.out.mono HB0.out.size),⟨_,_,_,_,(HX.out _ HB7.out).2.1⟩,fun p hp=>by cases hp⟩ H7.out (by have:=HG.out.1; have:=HSZ.out; omega)) H8.out (by have:=HG.out.2.1; have:=HSZ.out; omega)) H11.out (by have:=HSZ.out; omega)) H10.out (by have:=HSZ.out; omega)
  have kb:=cell_of_row w7 w.heap.size 1 _ _ _ (HX.out _ HB7.out).1
  have HXR : Hid _:=(HX.out _ HB7.out).1
  go_upto_region 10 with fail
  clear kb
  obtain ⟨hh,hhe⟩ : ∃ h,h = ncmp (NN % DD * 2 ^ 1) DD:=⟨_,rfl⟩
  obtain ⟨sg,hsg⟩ : ∃ h : Int,h = (if NN % DD = 0 then 0 else 1):=⟨_,rfl⟩
  obtain ⟨zz,hzz⟩ : ∃ z,z = decide (NN % DD = 0):=⟨_,rfl⟩
  have HH : Hid (hh = ncmp (NN % DD * 2 ^ 1) DD):=hhe
  have HSG : Hid (sg = (if NN % DD = 0 then 0 else 1)):=hsg
  have HZZ : Hid (((sg : Int) == 0) = zz):=by
   show _ = _
   rw [hsg,hzz]
   by_cases h : NN % DD = 0
   ·rw [if_pos h,decide_eq_true h]; rfl
   ·rw [if_neg h,decide_eq_false h]; rfl
  have HGQ : Hid ((ratMag M D 0).Q e = NN / DD):=HGG.out.1
  have HGH : Hid ((ratMag M D 0).H e = hh):=by rw [hhe,Nat.pow_one]; exact HGG.out.2.1
  have HGZ : Hid ((ratMag M D 0).Z e = zz):=by rw [hzz]; exact HGG.out.2.2
  have HRB : Hid (NN % DD < 2 ^ b2 ∧ NN % DD * 2 ^ 1 < 2 ^ (b2 + 1) ∧ DD < 2 ^ (b2 + 1)):=by
   have h1 : NN % DD < 2 ^ b2:=Nat.lt_of_le_of_lt (Nat.mod_le _ _) HND.out.1
   have h2:=HND.out.2.1
   refine ⟨h1,?_,?_⟩
   ·rw [Nat.pow_succ 2 b2]; omega
   ·rw [Nat.pow_succ 2 b2]; omega
  clear hhe hsg hzz
  have h1 : once [(42,0),(43,1),(44,2),(45,3),(46,4),(47,5),(48,6),(49,7),(5,9)] = true:=by kernel_rfl
  have h2 : within [(42,0),(43,1),(44,2),(45,3),(46,4),(47,5),(48,6),(49,7),(5,9)] 78 = true:=by kernel_rfl
  let S : Nat → (Nat → Value) → World → Prop:=fun i xs W=>match i with
   | 0=>WideI W (xs 0) ((NN / DD : Nat) : Int)
   | 1=>WideI W (xs 1) ((NN % DD : Nat) : Int)
   | 2=>WideI W (xs 2) ((NN % DD * 2 ^ 1 : Nat) : Int)
   | 3=>WideI W (xs 3) ((DD : Nat) : Int)
   | 4=>(xs 4) = .int .i64 hh
   | 5=>WideI W (xs 5) ((NN % DD : Nat) : Int)
   | 6=>(xs 6) = .int .i64 sg
   | 7=>(xs 7) = .bool zz
   | 8=>IR W (w.heap.size + 1) (NN / DD)
   | 9=>(xs 9) = .int .i64 hh
   | _=>True
  have hstab : ∀ j ys W W',S j ys W → Below W.heap.size W W' → S j ys W':=by
   intro j ys W W' h hb
   match j,h with
   | 0,h=>exact h.below hb
   | 1,h=>exact h.below hb
   | 2,h=>exact h.below hb
   | 3,h=>exact h.below hb
   | 4,h=>exact h
   | 5,h=>exact h.below hb
   | 6,h=>exact h
   | 7,h=>exact h
   | 8,h=>exact h.below hb
   | 9,h=>exact h
   | _ + 10,h=>exact trivial
  refine wp_region_flow3 10 11 [(42,0),(43,1),(44,2),(45,3),(46,4),(47,5),(48,6),(49,7),(5,9)] [] S (fun _ W=>Rows w [(w6.heap.size,NN / DD),(w6.heap.size + 1,NN % DD),(g8,DD),(g7,NN)] W) (HRW.out.below ((Below.refl _ _).drew)) (by kernel_rfl) (by kernel_rfl) (by kernel_rfl) (by decide) (by kernel_rfl) h1 (by kernel_rfl) (fun j hj=>by cases hj) ?_ ?_ ?_
  ·intro j xs ys W e h
   match j,e,h with
   | 0,e,h=>exact (congrArg (fun z=>WideI W z _) (e 0 (.inl rfl))).mp h
   | 1,e,h=>exact (congrArg (fun z=>WideI W z _) (e 1 (.inl rfl))).mp h
   | 2,e,h=>exact (congrArg (fun z=>WideI W z _) (e 2 (.inl rfl))).mp h
   | 3,e,h=>exact (congrArg (fun z=>WideI W z _) (e 3 (.inl rfl))).mp h
   | 4,e,h=>exact (e 4 (.inl rfl)).symm.trans h
   | 5,e,h=>exact (congrArg (fun z=>WideI W z _) (e 5 (.inl rfl))).mp h
   | 6,e,h=>exact (e 6 (.inl rfl)).symm.trans h
   | 7,e,h=>exact (e 7 (.inl rfl)).symm.trans h
   | 8,e,h=>exact h
   | 9,e,h=>exact (e 9 (.inl rfl)).symm.trans h
   | _ + 10,e,h=>exact trivial
  ·refine ⟨⟨⟨⟨⟨⟨⟨⟨⟨⟨trivial,?_⟩,?_⟩,?_⟩,?_⟩,?_⟩,?_⟩,?_⟩,?_⟩,?_⟩,?_⟩
   ·refine flow3_step _ (some 42) rfl rfl rfl h1 h2 (fun D W _ h=>h) (fun D W W' h hb=>h.below hb) hstab fun ac xs W Dn he hni hG hS K hK=>?_
    obtain ⟨ra,rm,rc,hrow,hval⟩:=(hG.at (g:=w6.heap.size) (N:=NN / DD) (by simp)).val
    exact wp_load_row 123 (.tmp 10) rfl w6.heap.size (he 10) _ _ _ _ hrow Tryz.underlying123 rfl (by kernel_rfl) (hK _ _ hval (Below.refl _ _) (fun h=>absurd h (by decide)))
   ·refine flow3_step _ (some 43) rfl rfl rfl h1 h2 (fun D W _ h=>h) (fun D W W' h hb=>h.below hb) hstab fun ac xs W Dn he hni hG hS K hK=>?_
    obtain ⟨ra,rm,rc,hrow,hval⟩:=(hG.at (g:=(w6.heap.size + 1)) (N:=NN % DD) (by simp)).val
    exact wp_load_row 123 (.tmp 11) rfl (w6.heap.size + 1) (he 11) _ _ _ _ hrow Tryz.underlying123 rfl (by kernel_rfl) (hK _ _ hval (Below.refl _ _) (fun h=>absurd h (by decide)))
   ·refine flow3_step _ (some 44) rfl rfl rfl h1 h2 (fun D W _ h=>h) (fun D W W' h hb=>h.below hb) hstab fun ac xs W Dn he hni hG hS K hK=>?_
    have hl : Calls Tryz.prog 104 #[xs 1,.int .i64 1] W (WideR ((NN % DD * 2 ^ 1 : Nat) : Int) W):=left_n (xs 1) (NN % DD) 1 W (hS 1 (by kernel_rfl)) HRB.out.1 (by have:=HND.out.2.2; omega) (by decide)
    have e0 : ac.eval (.tmp 43) = xs 1:=he 43
    refine op_call 104 _ _ rfl _ (by simp only [List.map,eval_const,e0]) (by go_simp) (hl) ?_
    rintro e' W' ⟨u,rfl,hi',hb'⟩
    exact ⟨_,rfl,hK _ _ hi' hb' (fun h=>absurd h (by decide))⟩
   ·refine flow3_step _ (some 45) rfl rfl rfl h1 h2 (fun D W _ h=>h) (fun D W W' h hb=>h.below hb) hstab fun ac xs W Dn he hni hG hS K hK=>?_
    obtain ⟨ra,rm,rc,hrow,hval⟩:=(hG.at (g:=g8) (N:=DD) (by simp)).val
    exact wp_load_row 123 (.tmp 8) rfl g8 (he 8) _ _ _ _ hrow Tryz.underlying123 rfl (by kernel_rfl) (hK _ _ hval (Below.refl _ _) (fun h=>absurd h (by decide)))
   ·refine flow3_step _ (some 46) rfl rfl rfl h1 h2 (fun D W _ h=>h) (fun D W W' h hb=>h.below hb) hstab fun ac xs W Dn he hni hG hS K hK=>?_
    have hl:=cmp_n (xs 2) (xs 3) _ _ W (hS 2 (by kernel_rfl)) (hS 3 (by kernel_rfl)) HRB.out.2.1 HRB.out.2.2 (by have:=HND.out.2.2; omega)
    rw [← HH.out] at hl
    have e0 : ac.eval (.tmp 44) = xs 2:=he 44
    have e1 : ac.eval (.tmp 45) = xs 3:=he 45
    refine op_call 163 _ _ rfl _ (by simp only [List.map,e0,e1]) (by go_simp) (hl) ?_
    rintro e' W' ⟨rfl,hb'⟩
    exact ⟨_,rfl,hK _ _ (rfl) hb' (fun h=>absurd h (by decide))⟩
   ·refine flow3_step _ (some 47) rfl rfl rfl h1 h2 (fun D W _ h=>h) (fun D W W' h hb=>h.below hb) hstab fun ac xs W Dn he hni hG hS K hK=>?_
    obtain ⟨ra,rm,rc,hrow,hval⟩:=(hG.at (g:=(w6.heap.size + 1)) (N:=NN % DD) (by simp)).val
    exact wp_load_row 123 (.tmp 11) rfl (w6.heap.size + 1) (he 11) _ _ _ _ hrow Tryz.underlying123 rfl (by kernel_rfl) (hK _ _ hval (Below.refl _ _) (fun h=>absurd h (by decide)))
   ·refine flow3_step _ (some 48) rfl rfl rfl h1 h2 (fun D W _ h=>h) (fun D W W' h hb=>h.below hb) hstab fun ac xs W Dn he hni hG hS K hK=>?_
    have hl:=sign_n (xs 5) _ W (hS 5 (by kernel_rfl))
    rw [← HSG.out] at hl
    have e0 : ac.eval (.tmp 47) = xs 5:=he 47
    refine op_call 178 _ _ rfl _ (by simp only [List.map,e0]) (by go_simp) (hl) ?_
    rintro e' W' ⟨rfl,hb'⟩
    exact ⟨_,rfl,hK _ _ (rfl) hb' (fun h=>absurd h (by decide))⟩
   ·refine flow3_step _ (some 49) rfl rfl rfl h1 h2 (fun D W _ h=>h) (fun D W W' h hb=>h.below hb) hstab fun ac xs W Dn he hni hG hS K hK=>?_
    have k0 : ((sg : Int) == 0) = zz:=HZZ.out
    have e0 : ac.eval (.tmp 48) = _:=(he 48).trans (hS 6 (by kernel_rfl))
    refine op_any (.binOp .eql 3 (.tmp 48) (.const (.int .i64 0)) 3) rfl (.bool zz) (fun o' ho'=>?_) (hK _ _ rfl (Below.refl _ _) (fun h=>absurd h (by decide)))
    simp only [execOp,ho',e0]
    go_simp
   ·refine flow3_store _ rfl rfl rfl h1 h2 (by decide) fun ac xs W Dn he hni hG hS K hK=>?_
    have hrow0:=hG.res
    have hi0 : WideI W (xs 0) ((NN / DD : Nat) : Int):=hS 0 (by kernel_rfl)
    obtain ⟨ya,ym,yc,ey,-⟩:=hi0.nat
    have hvy : ac.eval (.tmp 42) = .agg #[.bool false,.slice ya ym yc]:=(he 42).trans ey
    obtain ⟨z1,z2,z3,z4,s4⟩:=id hrow0
    refine wp_store_row 123 (.tmp 4) (.tmp 42) rfl (w.heap.size + 1) #[.bool false,.slice ya ym yc] (he 4) hvy _ _ s4 (by kernel_rfl) rfl (by simp [Value.oneCell']) ?_
    have hself : IR (W.setRow (w.heap.size + 1) #[.bool false,.slice ya ym yc]) (w.heap.size + 1) _:=.self hrow0 (by rw [← ey]; exact hi0)
    refine hK _ hself (hG.set _ _ _) ?_
    intro j ys h
    match j,h with
    | 0,h=>exact h.set hrow0
    | 1,h=>exact h.set hrow0
    | 2,h=>exact h.set hrow0
    | 3,h=>exact h.set hrow0
    | 4,h=>exact h
    | 5,h=>exact h.set hrow0
    | 6,h=>exact h
    | 7,h=>exact h
    | 8,_=>exact hself
    | 9,h=>exact h
    | _ + 10,h=>exact trivial
   ·refine flow3_step _ (some 5) rfl rfl rfl h1 h2 (fun D W _ h=>h) (fun D W W' h hb=>h.below hb) hstab fun ac xs W Dn he hni hG hS K hK=>?_
    exact op_move (.tmp 46) (.inr rfl) (hK _ _ ((he 46).trans (hS 4 (by kernel_rfl))) (Below.refl _ _) (fun h=>absurd h (by decide)))
  ·intro xs W9 Dn hall hG hS hD
   have s7 : xs 7 = _:=hS 7 (by decide)
   have s9 : xs 9 = _:=hS 9 (by decide)
   have HIR : Hid (IR W9 (w.heap.size + 1) (NN / DD)):=hS 8 (by decide)
   have HBF : Hid (Below w.heap.size w W9):=hG.1
   generalize xs 0 = x0 at *
   generalize xs 1 = x1 at *
   generalize xs 2 = x2 at *
   generalize xs 3 = x3 at *
   generalize xs 4 = x4 at *
   generalize xs 5 = x5 at *
   generalize xs 6 = x6 at *
   simp only [layAll,s7,s9]
   clear hS hD hall hstab S s7 s9 hG
   go_wp2
   exact at_end2 (p:=4) (q:=5) (r:=6) rfl rfl rfl rfl HIR.out HBF.out HGQ.out.symm HGH.out.symm HGZ.out.symm
end Go.Proofs.YtlbokicainimnaaGreatDoor
