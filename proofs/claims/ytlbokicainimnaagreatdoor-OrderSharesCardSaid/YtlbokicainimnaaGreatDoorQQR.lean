import Derived.Test.YtlbokicainimnaaGreatDoorQJE
namespace Go.Proofs
open Go.Shelf
def Tryz.lays169_ren : Go.Shelf.Ren:=⟨fun | 169=>157 | n=>n,fun | 70=>179 | 9=>9 | 0=>0 | 72=>181 | 37=>151 | 127=>238 | 3=>3 | 5=>5 | n=>n,fun | n=>n⟩
theorem Tryz.lays169 : Go.Proofs.Lays.n169 Tryz.prog Tryz.lays169_ren:={
 mixed:=by kernel_rfl
 f169:=Tryz.func157.trans (congrArg some (by kernel_rfl))
 t0:=Tryz.underlying0
 a0:=Tryz.isAgg0
 z0:=Tryz.sizeOf0
 v0:=Tryz.zeroValue0
 t3:=Tryz.underlying3
 a3:=Tryz.isAgg3
 z3:=Tryz.sizeOf3
 v3:=Tryz.zeroValue3
 t9:=Tryz.underlying9
 a9:=Tryz.isAgg9
 z9:=Tryz.sizeOf9
 v9:=Tryz.zeroValue9
 t37:=Tryz.underlying151
 a37:=Tryz.isAgg151
 z37:=Tryz.sizeOf151
 v37:=Tryz.zeroValue151
 t70:=Tryz.underlying179
 a70:=Tryz.isAgg179
 z70:=Tryz.sizeOf179
 v70:=Tryz.zeroValue179
 t72:=Tryz.underlying181
 a72:=Tryz.isAgg181
 z72:=Tryz.sizeOf181
 v72:=Tryz.zeroValue181
 t127:=Tryz.underlying238
 a127:=Tryz.isAgg238
 z127:=Tryz.sizeOf238
 v127:=Tryz.zeroValue238 }
theorem Tryz.Builder_Extra_169 : Builder.Extra Tryz.prog Tryz.lays169_ren:={
 sizeBuilder:=by kernel_rfl
 liesBuilder:=by kernel_rfl
 t5:=Tryz.underlying5
 a5:=Tryz.isAgg5
 z5:=Tryz.sizeOf5
 v5:=Tryz.zeroValue5
 infoByte:=by kernel_rfl
 cellsByte:=by kernel_rfl
 sizeByte:=by kernel_rfl
 neB5:=by decide }
open Go.RowKit in
theorem Tryz.Builder_String_any (B b : Nat) (l : List UInt8) (w : World) (h : Lib.IsBuilder 181 5 B b (Lib.byteCells l) w) (hBw : B ≤ w.heap.size) :
  Calls Tryz.prog 157 #[.pointer (some ⟨b,0,none⟩)] w fun e w'=>e = .returned (.string ⟨l.toArray⟩) ∧ Below B w w':=Any.Builder_String_any Tryz.lays169 Tryz.Builder_Extra_169 B b l w h hBw
open Go.RowKit in
def Tryz.lays161_ren : Go.Shelf.Ren:=⟨fun | 161=>147 | 231=>199 | 227=>200 | 233=>201 | 235=>202 | 228=>238 | 197=>239 | 151=>240 | 260=>257 | 152=>258 | 137=>272 | 119=>273 | 224=>274 | 225=>275 | 217=>280 | 266=>282 | n=>n,fun | 9=>9 | 4=>4 | 3=>3 | 5=>5 | 117=>230 | 116=>229 | 0=>0 | 124=>233 | 105=>257 | 21=>21 | 119=>287 | 46=>147 | 139=>290 | 138=>289 | n=>n,fun | 3=>6 | 4=>7 | n=>n⟩
theorem Tryz.lays161 : Go.Proofs.Lays.n161 Tryz.prog Tryz.lays161_ren:={
 mixed:=by kernel_rfl
 f119:=Tryz.func273.trans (congrArg some (by kernel_rfl))
 f137:=Tryz.func272.trans (congrArg some (by kernel_rfl))
 f151:=Tryz.func240.trans (congrArg some (by kernel_rfl))
 f152:=Tryz.func258.trans (congrArg some (by kernel_rfl))
 f161:=Tryz.func147.trans (congrArg some (by kernel_rfl))
 f197:=Tryz.func239.trans (congrArg some (by kernel_rfl))
 f217:=Tryz.func280.trans (congrArg some (by kernel_rfl))
 f224:=Tryz.func274.trans (congrArg some (by kernel_rfl))
 f225:=Tryz.func275.trans (congrArg some (by kernel_rfl))
 f227:=Tryz.func200.trans (congrArg some (by kernel_rfl))
 f228:=Tryz.func238.trans (congrArg some (by kernel_rfl))
 f231:=Tryz.func199.trans (congrArg some (by kernel_rfl))
 f233:=Tryz.func201.trans (congrArg some (by kernel_rfl))
 f235:=Tryz.func202.trans (congrArg some (by kernel_rfl))
 f260:=Tryz.func257.trans (congrArg some (by kernel_rfl))
 f266:=Tryz.func282.trans (congrArg some (by kernel_rfl))
 t0:=Tryz.underlying0
 a0:=Tryz.isAgg0
 z0:=Tryz.sizeOf0
 v0:=Tryz.zeroValue0
 t3:=Tryz.underlying3
 a3:=Tryz.isAgg3
 z3:=Tryz.sizeOf3
 v3:=Tryz.zeroValue3
 t4:=Tryz.underlying4
 a4:=Tryz.isAgg4
 z4:=Tryz.sizeOf4
 v4:=Tryz.zeroValue4
 t5:=Tryz.underlying5
 a5:=Tryz.isAgg5
 z5:=Tryz.sizeOf5
 v5:=Tryz.zeroValue5
 t9:=Tryz.underlying9
 a9:=Tryz.isAgg9
 z9:=Tryz.sizeOf9
 v9:=Tryz.zeroValue9
 t21:=Tryz.underlying21
 a21:=Tryz.isAgg21
 z21:=Tryz.sizeOf21
 v21:=Tryz.zeroValue21
 t46:=Tryz.underlying147
 a46:=Tryz.isAgg147
 z46:=Tryz.sizeOf147
 v46:=Tryz.zeroValue147
 t105:=Tryz.underlying257
 a105:=Tryz.isAgg257
 z105:=Tryz.sizeOf257
 v105:=Tryz.zeroValue257
 t116:=Tryz.underlying229
 a116:=Tryz.isAgg229
 z116:=Tryz.sizeOf229
 t117:=Tryz.underlying230
 a117:=Tryz.isAgg230
 z117:=Tryz.sizeOf230
 v117:=Tryz.zeroValue230
 t119:=Tryz.underlying287
 a119:=Tryz.isAgg287
 z119:=Tryz.sizeOf287
 t124:=Tryz.underlying233
 a124:=Tryz.isAgg233
 z124:=Tryz.sizeOf233
 v124:=Tryz.zeroValue233
 t138:=Tryz.underlying289
 a138:=Tryz.isAgg289
 z138:=Tryz.sizeOf289
 v138:=Tryz.zeroValue289
 t139:=Tryz.underlying290
 a139:=Tryz.isAgg290
 z139:=Tryz.sizeOf290
 v139:=Tryz.zeroValue290
 g3:=by kernel_rfl
 g4:=by kernel_rfl }
open Go.RowKit in
theorem Tryz.strings_TrimLeft_one (s : ByteArray) (c : UInt8) (hc : c.toNat < 128) (w : World) :
  Calls Tryz.prog 147 #[.string s,.string ⟨#[c]⟩] w fun e w'=>e = .returned (.string ⟨(Lib.trimLeftB s.data.toList c).toArray⟩) ∧ w' = w:=Any.strings_TrimLeft_one Tryz.lays161 s c hc w
def Tryz.lays162_ren : Go.Shelf.Ren:=⟨fun | 162=>148 | 232=>203 | 227=>200 | 234=>204 | 236=>205 | 228=>238 | 271=>241 | 151=>240 | 120=>259 | 197=>239 | 152=>258 | 260=>257 | 137=>272 | 119=>273 | 224=>274 | 225=>275 | 217=>280 | 266=>282 | n=>n,fun | 9=>9 | 4=>4 | 3=>3 | 5=>5 | 117=>230 | 116=>229 | 0=>0 | 124=>233 | 21=>21 | 105=>257 | 46=>147 | 119=>287 | 139=>290 | 138=>289 | n=>n,fun | 3=>6 | 4=>7 | n=>n⟩
theorem Tryz.lays162 : Go.Proofs.Lays.n162 Tryz.prog Tryz.lays162_ren:={
 mixed:=by kernel_rfl
 f119:=Tryz.func273.trans (congrArg some (by kernel_rfl))
 f120:=Tryz.func259.trans (congrArg some (by kernel_rfl))
 f137:=Tryz.func272.trans (congrArg some (by kernel_rfl))
 f151:=Tryz.func240.trans (congrArg some (by kernel_rfl))
 f152:=Tryz.func258.trans (congrArg some (by kernel_rfl))
 f162:=Tryz.func148.trans (congrArg some (by kernel_rfl))
 f197:=Tryz.func239.trans (congrArg some (by kernel_rfl))
 f217:=Tryz.func280.trans (congrArg some (by kernel_rfl))
 f224:=Tryz.func274.trans (congrArg some (by kernel_rfl))
 f225:=Tryz.func275.trans (congrArg some (by kernel_rfl))
 f227:=Tryz.func200.trans (congrArg some (by kernel_rfl))
 f228:=Tryz.func238.trans (congrArg some (by kernel_rfl))
 f232:=Tryz.func203.trans (congrArg some (by kernel_rfl))
 f234:=Tryz.func204.trans (congrArg some (by kernel_rfl))
 f236:=Tryz.func205.trans (congrArg some (by kernel_rfl))
 f260:=Tryz.func257.trans (congrArg some (by kernel_rfl))
 f266:=Tryz.func282.trans (congrArg some (by kernel_rfl))
 f271:=Tryz.func241.trans (congrArg some (by kernel_rfl))
 t0:=Tryz.underlying0
 a0:=Tryz.isAgg0
 z0:=Tryz.sizeOf0
 v0:=Tryz.zeroValue0
 t3:=Tryz.underlying3
 a3:=Tryz.isAgg3
 z3:=Tryz.sizeOf3
 v3:=Tryz.zeroValue3
 t4:=Tryz.underlying4
 a4:=Tryz.isAgg4
 z4:=Tryz.sizeOf4
 v4:=Tryz.zeroValue4
 t5:=Tryz.underlying5
 a5:=Tryz.isAgg5
 z5:=Tryz.sizeOf5
 v5:=Tryz.zeroValue5
 t9:=Tryz.underlying9
 a9:=Tryz.isAgg9
 z9:=Tryz.sizeOf9
 v9:=Tryz.zeroValue9
 t21:=Tryz.underlying21
 a21:=Tryz.isAgg21
 z21:=Tryz.sizeOf21
 v21:=Tryz.zeroValue21
 t46:=Tryz.underlying147
 a46:=Tryz.isAgg147
 z46:=Tryz.sizeOf147
 v46:=Tryz.zeroValue147
 t105:=Tryz.underlying257
 a105:=Tryz.isAgg257
 z105:=Tryz.sizeOf257
 v105:=Tryz.zeroValue257
 t116:=Tryz.underlying229
 a116:=Tryz.isAgg229
 z116:=Tryz.sizeOf229
 t117:=Tryz.underlying230
 a117:=Tryz.isAgg230
 z117:=Tryz.sizeOf230
 v117:=Tryz.zeroValue230
 t119:=Tryz.underlying287
 a119:=Tryz.isAgg287
 z119:=Tryz.sizeOf287
 t124:=Tryz.underlying233
 a124:=Tryz.isAgg233
 z124:=Tryz.sizeOf233
 v124:=Tryz.zeroValue233
 t138:=Tryz.underlying289
 a138:=Tryz.isAgg289
 z138:=Tryz.sizeOf289
 v138:=Tryz.zeroValue289
 t139:=Tryz.underlying290
 a139:=Tryz.isAgg290
 z139:=Tryz.sizeOf290
 v139:=Tryz.zeroValue290
 g3:=by kernel_rfl
 g4:=by kernel_rfl }
open Go.RowKit in
theorem Tryz.strings_TrimRight_one (s : ByteArray) (c : UInt8) (hc : c.toNat < 128) (w : World) (hs : s.size ≤ 9223372036854775807) :
  Calls Tryz.prog 148 #[.string s,.string ⟨#[c]⟩] w fun e w'=>e = .returned (.string ⟨(Lib.trimRightB s.data.toList c).toArray⟩) ∧ w' = w:=Any.strings_TrimRight_one Tryz.lays162 s c hc w hs
open Go.RowKit in
open Go.Lib in
def Tryz.lays283_ren : Go.Shelf.Ren:=⟨fun | 283=>242 | n=>n,fun | 3=>3 | 9=>9 | 4=>4 | n=>n,fun | n=>n⟩
theorem Tryz.lays283 : Go.Proofs.Lays.n283 Tryz.prog Tryz.lays283_ren:={
 mixed:=by kernel_rfl
 f283:=Tryz.func242.trans (congrArg some (by kernel_rfl))
 t3:=Tryz.underlying3
 a3:=Tryz.isAgg3
 z3:=Tryz.sizeOf3
 v3:=Tryz.zeroValue3
 t4:=Tryz.underlying4
 a4:=Tryz.isAgg4
 z4:=Tryz.sizeOf4
 v4:=Tryz.zeroValue4
 t9:=Tryz.underlying9
 a9:=Tryz.isAgg9
 z9:=Tryz.sizeOf9
 v9:=Tryz.zeroValue9 }
open Go.Lib in
theorem Tryz.internal_strconv_small (i : Nat) (h : i < 100) (w : World) :
  Calls Tryz.prog 242 #[.int .i64 i] w fun e w'=>e = .returned (.string ⟨(Lib.decDigits i).toArray⟩) ∧ w' = w:=Any.internal_strconv_small Tryz.lays283 i h w
def Tryz.laysM284_ren : Go.Shelf.Ren:=⟨fun | 284=>243 | 129=>192 | 317=>260 | 318=>261 | n=>n,fun | 53=>22 | 3=>3 | 212=>279 | 0=>0 | 4=>4 | 46=>147 | 5=>5 | 9=>9 | n=>n,fun | 17=>5 | n=>n⟩
theorem Tryz.laysM284 : Go.Proofs.LaysM.n284 Tryz.prog Tryz.laysM284_ren:={
 mixed:=by kernel_rfl
 f129:=Tryz.func192.trans (congrArg some (by kernel_rfl))
 f284:=Tryz.func243.trans (congrArg some (by kernel_rfl))
 f317:=Tryz.func260.trans (congrArg some (by kernel_rfl))
 f318:=Tryz.func261.trans (congrArg some (by kernel_rfl))
 t0:=Tryz.underlying0
 a0:=Tryz.isAgg0
 z0:=Tryz.sizeOf0
 v0:=Tryz.zeroValue0
 t3:=Tryz.underlying3
 a3:=Tryz.isAgg3
 z3:=Tryz.sizeOf3
 v3:=Tryz.zeroValue3
 t4:=Tryz.underlying4
 a4:=Tryz.isAgg4
 z4:=Tryz.sizeOf4
 v4:=Tryz.zeroValue4
 t5:=Tryz.underlying5
 a5:=Tryz.isAgg5
 z5:=Tryz.sizeOf5
 v5:=Tryz.zeroValue5
 t9:=Tryz.underlying9
 a9:=Tryz.isAgg9
 z9:=Tryz.sizeOf9
 v9:=Tryz.zeroValue9
 t46:=Tryz.underlying147
 a46:=Tryz.isAgg147
 z46:=Tryz.sizeOf147
 v46:=Tryz.zeroValue147
 t53:=Tryz.underlying22
 a53:=Tryz.isAgg22
 z53:=Tryz.sizeOf22
 v53:=Tryz.zeroValue22
 t212:=Tryz.underlying279
 a212:=Tryz.isAgg279
 z212:=Tryz.sizeOf279
 v212:=Tryz.zeroValue279
 g17:=by kernel_rfl
 i0:=by kernel_rfl
 i3:=by kernel_rfl
 i4:=by kernel_rfl
 i5:=by kernel_rfl
 i9:=by kernel_rfl
 i46:=by kernel_rfl
 i53:=by kernel_rfl
 i212:=by kernel_rfl
 m17:=by kernel_rfl }
open Go.Lib in
theorem Tryz.internal_strconv_numDigits (u : Nat) (h1 : 1 ≤ u) (h2 : u < 18446744073709551616) (w : World) (htab : Lib.TabIs Tryz.prog w "internal/strconv.uint64pow10" .u64 Lib.pow10Tab) :
  Calls Tryz.prog 243 #[.int .u64 u] w fun e w'=>e = .returned (.int .i64 (Lib.nDigits u)) ∧ w' = w:=Any.internal_strconv_numDigits Tryz.laysM284 u h1 h2 w htab
def Tryz.lays285_ren : Go.Shelf.Ren:=⟨fun | 285=>244 | n=>n,fun | 37=>151 | 53=>22 | 3=>3 | 4=>4 | 51=>149 | 9=>9 | 5=>5 | 0=>0 | n=>n,fun | n=>n⟩
theorem Tryz.lays285 : Go.Proofs.Lays.n285 Tryz.prog Tryz.lays285_ren:={
 mixed:=by kernel_rfl
 f285:=Tryz.func244.trans (congrArg some (by kernel_rfl))
 t0:=Tryz.underlying0
 a0:=Tryz.isAgg0
 z0:=Tryz.sizeOf0
 v0:=Tryz.zeroValue0
 t3:=Tryz.underlying3
 a3:=Tryz.isAgg3
 z3:=Tryz.sizeOf3
 v3:=Tryz.zeroValue3
 t4:=Tryz.underlying4
 a4:=Tryz.isAgg4
 z4:=Tryz.sizeOf4
 v4:=Tryz.zeroValue4
 t5:=Tryz.underlying5
 a5:=Tryz.isAgg5
 z5:=Tryz.sizeOf5
 v5:=Tryz.zeroValue5
 t9:=Tryz.underlying9
 a9:=Tryz.isAgg9
 z9:=Tryz.sizeOf9
 v9:=Tryz.zeroValue9
 t37:=Tryz.underlying151
 a37:=Tryz.isAgg151
 z37:=Tryz.sizeOf151
 v37:=Tryz.zeroValue151
 t51:=Tryz.underlying149
 a51:=Tryz.isAgg149
 z51:=Tryz.sizeOf149
 v51:=Tryz.zeroValue149
 t53:=Tryz.underlying22
 a53:=Tryz.isAgg22
 z53:=Tryz.sizeOf22
 v53:=Tryz.zeroValue22 }
open Go.RowKit Go.Sort Go.Lib in
theorem Tryz.internal_strconv_formatBase10 (blk off cap : Nat) (u : Nat) (d : Array UInt8) (w : World) (hH : Holds (fun (b : UInt8) => Value.int .u8 (b.toNat : Int)) w blk off d) (hu : u < 10 ^ d.size) (hu64 : u < 18446744073709551616) (hsz : d.size < 4611686018427387904) :
  Calls Tryz.prog 244 #[.slice (some ⟨blk,off,none⟩) d.size cap,.int .u64 u] w fun e w'=>
   e = .returned (.tuple #[]) ∧ ∃ (n v' : Nat) (dk : Array UInt8),w' = (putRow (fun (b : UInt8)=>Value.int .u8 (b.toNat : Int)) w blk off dk).drewN n ∧ FmtInv d.size u 0 v' dk:=Any.internal_strconv_formatBase10 Tryz.lays285 blk off cap u d w hH hu hu64 hsz
open Go.RowKit Go.Sort Go.Lib in
def Tryz.laysM316_ren : Go.Shelf.Ren:=⟨fun | 316=>206 | n=>n,fun | 9=>9 | 3=>3 | 4=>4 | 37=>151 | 0=>0 | 127=>238 | 5=>5 | n=>n,fun | n=>n⟩
theorem Tryz.laysM316 : Go.Proofs.LaysM.n316 Tryz.prog Tryz.laysM316_ren:={
 mixed:=by kernel_rfl
 f316:=Tryz.func206.trans (congrArg some (by kernel_rfl))
 t0:=Tryz.underlying0
 a0:=Tryz.isAgg0
 z0:=Tryz.sizeOf0
 v0:=Tryz.zeroValue0
 t3:=Tryz.underlying3
 a3:=Tryz.isAgg3
 z3:=Tryz.sizeOf3
 v3:=Tryz.zeroValue3
 t4:=Tryz.underlying4
 a4:=Tryz.isAgg4
 z4:=Tryz.sizeOf4
 v4:=Tryz.zeroValue4
 t9:=Tryz.underlying9
 a9:=Tryz.isAgg9
 z9:=Tryz.sizeOf9
 v9:=Tryz.zeroValue9
 t37:=Tryz.underlying151
 a37:=Tryz.isAgg151
 z37:=Tryz.sizeOf151
 v37:=Tryz.zeroValue151
 t127:=Tryz.underlying238
 a127:=Tryz.isAgg238
 z127:=Tryz.sizeOf238
 v127:=Tryz.zeroValue238
 t5:=Tryz.underlying5
 a5:=Tryz.isAgg5
 z5:=Tryz.sizeOf5
 v5:=Tryz.zeroValue5
 i0:=by kernel_rfl
 i3:=by kernel_rfl
 i4:=by kernel_rfl
 i5:=by kernel_rfl
 i9:=by kernel_rfl
 i37:=by kernel_rfl
 i127:=by kernel_rfl }
open Go.RowKit in
theorem Tryz.stringslite_Clone (s : ByteArray) (w : World) (hlim : s.size ≤ 281474976710656) :
  Calls Tryz.prog 206 #[.string s] w fun e w'=>e = .returned (.string s) ∧ Below w.heap.size w w':=Any.stringslite_Clone Tryz.laysM316 s w hlim
open Go.RowKit in
def Tryz.laysPu14_ren : Go.Shelf.Ren:=⟨fun | 14=>214 | 16=>250 | 17=>251 | 19=>265 | 20=>266 | 21=>267 | 22=>268 | 23=>269 | 24=>270 | 25=>206 | 27=>279 | 26=>278 | 28=>281 | 29=>283 | 30=>242 | 31=>243 | 32=>244 | 33=>245 | 35=>192 | 34=>260 | 36=>261 | 37=>262 | 38=>263 | 39=>276 | 40=>277 | n=>n,fun | 9=>9 | 3=>3 | 22=>22 | 24=>183 | 25=>239 | 4=>4 | 34=>282 | 5=>5 | 36=>147 | 37=>151 | 0=>0 | 39=>284 | 21=>21 | 44=>295 | 47=>238 | 50=>301 | 48=>299 | 2=>2 | 52=>261 | 55=>263 | 59=>279 | 60=>149 | 20=>20 | 61=>280 | 65=>297 | 66=>298 | 67=>130 | n=>n,fun | 0=>9 | 1=>10 | 2=>5 | 3=>11 | 4=>12 | n=>n⟩
theorem Tryz.laysPu14 : Go.Proofs.LaysPu.n14 Tryz.prog Tryz.laysPu14_ren:={
 mixed:=by kernel_rfl
 f14:=Tryz.func214.trans (congrArg some (by kernel_rfl))
 f16:=Tryz.func250.trans (congrArg some (by kernel_rfl))
 f17:=Tryz.func251.trans (congrArg some (by kernel_rfl))
 f19:=Tryz.func265.trans (congrArg some (by kernel_rfl))
 f20:=Tryz.func266.trans (congrArg some (by kernel_rfl))
 f21:=Tryz.func267.trans (congrArg some (by kernel_rfl))
 f22:=Tryz.func268.trans (congrArg some (by kernel_rfl))
 f23:=Tryz.func269.trans (congrArg some (by kernel_rfl))
 f24:=Tryz.func270.trans (congrArg some (by kernel_rfl))
 f25:=Tryz.func206.trans (congrArg some (by kernel_rfl))
 f26:=Tryz.func278.trans (congrArg some (by kernel_rfl))
 f27:=Tryz.func279.trans (congrArg some (by kernel_rfl))
 f28:=Tryz.func281.trans (congrArg some (by kernel_rfl))
 f29:=Tryz.func283.trans (congrArg some (by kernel_rfl))
 f30:=Tryz.func242.trans (congrArg some (by kernel_rfl))
 f31:=Tryz.func243.trans (congrArg some (by kernel_rfl))
 f32:=Tryz.func244.trans (congrArg some (by kernel_rfl))
 f33:=Tryz.func245.trans (congrArg some (by kernel_rfl))
 f34:=Tryz.func260.trans (congrArg some (by kernel_rfl))
 f35:=Tryz.func192.trans (congrArg some (by kernel_rfl))
 f36:=Tryz.func261.trans (congrArg some (by kernel_rfl))
 f37:=Tryz.func262.trans (congrArg some (by kernel_rfl))
 f38:=Tryz.func263.trans (congrArg some (by kernel_rfl))
 f39:=Tryz.func276.trans (congrArg some (by kernel_rfl))
 f40:=Tryz.func277.trans (congrArg some (by kernel_rfl))
 t0:=Tryz.underlying0
 a0:=Tryz.isAgg0
 z0:=Tryz.sizeOf0
 v0:=Tryz.zeroValue0
 i0:=by kernel_rfl
 t2:=Tryz.underlying2
 a2:=Tryz.isAgg2
 z2:=Tryz.sizeOf2
 v2:=Tryz.zeroValue2
 i2:=by kernel_rfl
 t3:=Tryz.underlying3
 a3:=Tryz.isAgg3
 z3:=Tryz.sizeOf3
 v3:=Tryz.zeroValue3
 i3:=by kernel_rfl
 t4:=Tryz.underlying4
 a4:=Tryz.isAgg4
 z4:=Tryz.sizeOf4
 v4:=Tryz.zeroValue4
 i4:=by kernel_rfl
 t5:=Tryz.underlying5
 a5:=Tryz.isAgg5
 z5:=Tryz.sizeOf5
 v5:=Tryz.zeroValue5
 i5:=by kernel_rfl
 t9:=Tryz.underlying9
 a9:=Tryz.isAgg9
 z9:=Tryz.sizeOf9
 v9:=Tryz.zeroValue9
 i9:=by kernel_rfl
 t20:=Tryz.underlying20
 a20:=Tryz.isAgg20
 z20:=Tryz.sizeOf20
 v20:=Tryz.zeroValue20
 i20:=by kernel_rfl
 t21:=Tryz.underlying21
 a21:=Tryz.isAgg21
 z21:=Tryz.sizeOf21
 v21:=Tryz.zeroValue21
 i21:=by kernel_rfl
 t22:=Tryz.underlying22
 a22:=Tryz.isAgg22
 z22:=Tryz.sizeOf22
 v22:=Tryz.zeroValue22
 i22:=by kernel_rfl
 t24:=Tryz.underlying183
 a24:=Tryz.isAgg183
 z24:=Tryz.sizeOf183
 v24:=Tryz.zeroValue183
 i24:=by kernel_rfl
 t25:=Tryz.underlying239
 a25:=Tryz.isAgg239
 z25:=Tryz.sizeOf239
 v25:=Tryz.zeroValue239
 i25:=by kernel_rfl
 t34:=Tryz.underlying282
 a34:=Tryz.isAgg282
 z34:=Tryz.sizeOf282
 v34:=Tryz.zeroValue282
 i34:=by kernel_rfl
 c34:=by kernel_rfl
 t36:=Tryz.underlying147
 a36:=Tryz.isAgg147
 z36:=Tryz.sizeOf147
 v36:=Tryz.zeroValue147
 i36:=by kernel_rfl
 t37:=Tryz.underlying151
 a37:=Tryz.isAgg151
 z37:=Tryz.sizeOf151
 v37:=Tryz.zeroValue151
 i37:=by kernel_rfl
 t39:=Tryz.underlying284
 a39:=Tryz.isAgg284
 z39:=Tryz.sizeOf284
 v39:=Tryz.zeroValue284
 i39:=by kernel_rfl
 t44:=Tryz.underlying295
 a44:=Tryz.isAgg295
 z44:=Tryz.sizeOf295
 v44:=Tryz.zeroValue295
 i44:=by kernel_rfl
 t47:=Tryz.underlying238
 a47:=Tryz.isAgg238
 z47:=Tryz.sizeOf238
 v47:=Tryz.zeroValue238
 i47:=by kernel_rfl
 t48:=Tryz.underlying299
 a48:=Tryz.isAgg299
 z48:=Tryz.sizeOf299
 v48:=Tryz.zeroValue299
 i48:=by kernel_rfl
 t50:=Tryz.underlying301
 a50:=Tryz.isAgg301
 z50:=Tryz.sizeOf301
 v50:=Tryz.zeroValue301
 i50:=by kernel_rfl
 t52:=Tryz.underlying261
 a52:=Tryz.isAgg261
 z52:=Tryz.sizeOf261
 v52:=Tryz.zeroValue261
 i52:=by kernel_rfl
 t55:=Tryz.underlying263
 a55:=Tryz.isAgg263
 z55:=Tryz.sizeOf263
 v55:=Tryz.zeroValue263
 i55:=by kernel_rfl
 t59:=Tryz.underlying279
 a59:=Tryz.isAgg279
 z59:=Tryz.sizeOf279
 v59:=Tryz.zeroValue279
 i59:=by kernel_rfl
 t60:=Tryz.underlying149
 a60:=Tryz.isAgg149
 z60:=Tryz.sizeOf149
 v60:=Tryz.zeroValue149
 i60:=by kernel_rfl
 t61:=Tryz.underlying280
 a61:=Tryz.isAgg280
 z61:=Tryz.sizeOf280
 t65:=Tryz.underlying297
 a65:=Tryz.isAgg297
 z65:=Tryz.sizeOf297
 v65:=Tryz.zeroValue297
 i65:=by kernel_rfl
 t66:=Tryz.underlying298
 a66:=Tryz.isAgg298
 z66:=Tryz.sizeOf298
 v66:=Tryz.zeroValue298
 i66:=by kernel_rfl
 t67:=Tryz.underlying130
 a67:=Tryz.isAgg130
 z67:=Tryz.sizeOf130
 v67:=Tryz.zeroValue130
 i67:=by kernel_rfl
 g0:=by kernel_rfl
 m0:=by kernel_rfl
 g1:=by kernel_rfl
 m1:=by kernel_rfl
 g2:=by kernel_rfl
 m2:=by kernel_rfl
 g3:=by kernel_rfl
 m3:=by kernel_rfl
 g4:=by kernel_rfl
 m4:=by kernel_rfl }
open Go.RowKit in
theorem Tryz.strconv_ParseUint_10_at64_ok (s : ByteArray) (hmax : s.size ≤ 9223372036854775806) (u : Nat) (h : Lib.parseUintB 64 s.data.toList = .ok u) (w : World) :
  Calls Tryz.prog 214 #[.string s,.int .i64 10,.int .i64 64] w fun e w'=>e = .returned (.tuple #[.int .u64 u,.nilIface]) ∧ (w' = w ∨ w' = Lib.bytesWorld w 5 s):=Any.strconv_ParseUint_10_at64_ok Tryz.laysPu14 s hmax u h w
open Go.RowKit Go.Lib in
def Tryz.lays105_ren : Go.Shelf.Ren:=⟨fun | 105=>154 | 212=>209 | 99=>210 | 165=>211 | 166=>156 | 170=>212 | 169=>157 | 263=>246 | 264=>158 | 206=>247 | 240=>213 | 241=>248 | 276=>249 | 277=>264 | n=>n,fun | 9=>9 | 3=>3 | 4=>4 | 20=>20 | 0=>0 | 46=>147 | 109=>234 | 5=>5 | 72=>181 | 76=>185 | 51=>149 | 146=>265 | 53=>22 | 148=>187 | 70=>179 | 37=>151 | 75=>183 | 127=>238 | 164=>267 | 80=>130 | n=>n,fun | n=>n⟩
theorem Tryz.lays105 : Go.Proofs.Lays.n105 Tryz.prog Tryz.lays105_ren:={
 mixed:=by kernel_rfl
 f99:=Tryz.func210.trans (congrArg some (by kernel_rfl))
 f105:=Tryz.func154.trans (congrArg some (by kernel_rfl))
 f165:=Tryz.func211.trans (congrArg some (by kernel_rfl))
 f166:=Tryz.func156.trans (congrArg some (by kernel_rfl))
 f169:=Tryz.func157.trans (congrArg some (by kernel_rfl))
 f170:=Tryz.func212.trans (congrArg some (by kernel_rfl))
 f206:=Tryz.func247.trans (congrArg some (by kernel_rfl))
 f212:=Tryz.func209.trans (congrArg some (by kernel_rfl))
 f240:=Tryz.func213.trans (congrArg some (by kernel_rfl))
 f241:=Tryz.func248.trans (congrArg some (by kernel_rfl))
 f263:=Tryz.func246.trans (congrArg some (by kernel_rfl))
 f264:=Tryz.func158.trans (congrArg some (by kernel_rfl))
 f276:=Tryz.func249.trans (congrArg some (by kernel_rfl))
 f277:=Tryz.func264.trans (congrArg some (by kernel_rfl))
 t0:=Tryz.underlying0
 a0:=Tryz.isAgg0
 z0:=Tryz.sizeOf0
 v0:=Tryz.zeroValue0
 t3:=Tryz.underlying3
 a3:=Tryz.isAgg3
 z3:=Tryz.sizeOf3
 v3:=Tryz.zeroValue3
 t4:=Tryz.underlying4
 a4:=Tryz.isAgg4
 z4:=Tryz.sizeOf4
 v4:=Tryz.zeroValue4
 t5:=Tryz.underlying5
 a5:=Tryz.isAgg5
 z5:=Tryz.sizeOf5
 v5:=Tryz.zeroValue5
 t9:=Tryz.underlying9
 a9:=Tryz.isAgg9
 z9:=Tryz.sizeOf9
 v9:=Tryz.zeroValue9
 t20:=Tryz.underlying20
 a20:=Tryz.isAgg20
 z20:=Tryz.sizeOf20
 v20:=Tryz.zeroValue20
 t37:=Tryz.underlying151
 a37:=Tryz.isAgg151
 z37:=Tryz.sizeOf151
 v37:=Tryz.zeroValue151
 t46:=Tryz.underlying147
 a46:=Tryz.isAgg147
 z46:=Tryz.sizeOf147
 v46:=Tryz.zeroValue147
 t51:=Tryz.underlying149
 a51:=Tryz.isAgg149
 z51:=Tryz.sizeOf149
 v51:=Tryz.zeroValue149
 t53:=Tryz.underlying22
 a53:=Tryz.isAgg22
 z53:=Tryz.sizeOf22
 v53:=Tryz.zeroValue22
 t70:=Tryz.underlying179
 a70:=Tryz.isAgg179
 z70:=Tryz.sizeOf179
 v70:=Tryz.zeroValue179
 t72:=Tryz.underlying181
 a72:=Tryz.isAgg181
 z72:=Tryz.sizeOf181
 v72:=Tryz.zeroValue181
 t75:=Tryz.underlying183
 a75:=Tryz.isAgg183
 z75:=Tryz.sizeOf183
 v75:=Tryz.zeroValue183
 t76:=Tryz.underlying185
 a76:=Tryz.isAgg185
 z76:=Tryz.sizeOf185
 v76:=Tryz.zeroValue185
 t109:=Tryz.underlying234
 a109:=Tryz.isAgg234
 z109:=Tryz.sizeOf234
 v109:=Tryz.zeroValue234
 t127:=Tryz.underlying238
 a127:=Tryz.isAgg238
 z127:=Tryz.sizeOf238
 v127:=Tryz.zeroValue238
 t146:=Tryz.underlying265
 a146:=Tryz.isAgg265
 z146:=Tryz.sizeOf265
 v146:=Tryz.zeroValue265
 t148:=Tryz.underlying187
 a148:=Tryz.isAgg187
 z148:=Tryz.sizeOf187
 v148:=Tryz.zeroValue187
 t164:=Tryz.underlying267
 a164:=Tryz.isAgg267
 z164:=Tryz.sizeOf267
 v164:=Tryz.zeroValue267 }
theorem Tryz.Builder_Extra_105 : Builder.Extra Tryz.prog Tryz.lays105_ren:={
 sizeBuilder:=by kernel_rfl
 liesBuilder:=by kernel_rfl
 t5:=Tryz.underlying5
 a5:=Tryz.isAgg5
 z5:=Tryz.sizeOf5
 v5:=Tryz.zeroValue5
 infoByte:=by kernel_rfl
 cellsByte:=by kernel_rfl
 sizeByte:=by kernel_rfl
 neB5:=by decide }
open Go.RowKit Go.Lib in
theorem Tryz.strings_Repeat (s : ByteArray) (c : Nat) (w : World) (hc : c ≤ 9223372036854775807) (hlen : s.size * c ≤ 140737488355328) :
  Calls Tryz.prog 154 #[.string s,.int .i64 c] w fun e w'=>e = .returned (.string ⟨(Lib.repeatL s.data.toList c).toArray⟩) ∧ Below w.heap.size w w':=Any.strings_Repeat Tryz.lays105 Tryz.Builder_Extra_105 s c w hc hlen
open Go.RowKit Go.Lib in
open Go.RowKit Go.Lib Go.Sort in
def Tryz.laysSlF6_f78_ren : Go.Shelf.Ren:=⟨fun | 6=>78 | 15=>135 | 14=>134 | 28=>191 | 29=>192 | 20=>183 | 21=>184 | 22=>185 | 23=>186 | 24=>187 | 25=>188 | 26=>189 | 27=>190 | 46=>231 | 47=>232 | 48=>233 | 49=>234 | 50=>235 | 57=>254 | n=>n,fun | 22=>40 | 24=>24 | 25=>50 | 3=>3 | 39=>147 | 0=>0 | 53=>149 | 55=>22 | 4=>4 | 46=>218 | 45=>217 | 50=>118 | 5=>5 | 9=>9 | 66=>251 | 70=>254 | 76=>272 | 77=>273 | n=>n,fun | n=>n⟩
theorem Tryz.laysSlF6_f78 : Go.Proofs.SlLaysF.n6 Tryz.prog Tryz.laysSlF6_f78_ren:={
 mixed:=by kernel_rfl
 f6:=⟨Tryz.f78.name,by decide,Tryz.func78.trans (congrArg some (by kernel_rfl))⟩
 f14:=⟨Tryz.f134.name,by decide,Tryz.func134.trans (congrArg some (by kernel_rfl))⟩
 f15:=Tryz.func135.trans (congrArg some (by kernel_rfl))
 f20:=⟨Tryz.f183.name,by decide,Tryz.func183.trans (congrArg some (by kernel_rfl))⟩
 f21:=⟨Tryz.f184.name,by decide,Tryz.func184.trans (congrArg some (by kernel_rfl))⟩
 f22:=⟨Tryz.f185.name,by decide,Tryz.func185.trans (congrArg some (by kernel_rfl))⟩
 f23:=⟨Tryz.f186.name,by decide,Tryz.func186.trans (congrArg some (by kernel_rfl))⟩
 f24:=⟨Tryz.f187.name,by decide,Tryz.func187.trans (congrArg some (by kernel_rfl))⟩
 f25:=⟨Tryz.f188.name,by decide,Tryz.func188.trans (congrArg some (by kernel_rfl))⟩
 f26:=⟨Tryz.f189.name,by decide,Tryz.func189.trans (congrArg some (by kernel_rfl))⟩
 f27:=⟨Tryz.f190.name,by decide,Tryz.func190.trans (congrArg some (by kernel_rfl))⟩
 f28:=Tryz.func191.trans (congrArg some (by kernel_rfl))
 f29:=Tryz.func192.trans (congrArg some (by kernel_rfl))
 f46:=⟨Tryz.f231.name,by decide,Tryz.func231.trans (congrArg some (by kernel_rfl))⟩
 f47:=Tryz.func232.trans (congrArg some (by kernel_rfl))
 f48:=Tryz.func233.trans (congrArg some (by kernel_rfl))
 f49:=⟨Tryz.f234.name,by decide,Tryz.func234.trans (congrArg some (by kernel_rfl))⟩
 f50:=⟨Tryz.f235.name,by decide,Tryz.func235.trans (congrArg some (by kernel_rfl))⟩
 f57:=⟨Tryz.f254.name,by decide,Tryz.func254.trans (congrArg some (by kernel_rfl))⟩
 t0:=Tryz.underlying0
 a0:=Tryz.isAgg0
 z0:=Tryz.sizeOf0
 v0:=Tryz.zeroValue0
 t3:=Tryz.underlying3
 a3:=Tryz.isAgg3
 z3:=Tryz.sizeOf3
 v3:=Tryz.zeroValue3
 t4:=Tryz.underlying4
 a4:=Tryz.isAgg4
 z4:=Tryz.sizeOf4
 v4:=Tryz.zeroValue4
 t5:=Tryz.underlying5
 a5:=Tryz.isAgg5
 z5:=Tryz.sizeOf5
 v5:=Tryz.zeroValue5
 t9:=Tryz.underlying9
 a9:=Tryz.isAgg9
 z9:=Tryz.sizeOf9
 v9:=Tryz.zeroValue9
 t22:=Tryz.underlying40
 a22:=Tryz.isAgg40
 z22:=Tryz.sizeOf40
 v22:=Tryz.zeroValue40
 a24:=Tryz.isAgg24
 z24:=Tryz.sizeOf24
 t25:=Tryz.underlying50
 a25:=Tryz.isAgg50
 z25:=Tryz.sizeOf50
 v25:=Tryz.zeroValue50
 t39:=Tryz.underlying147
 a39:=Tryz.isAgg147
 z39:=Tryz.sizeOf147
 v39:=Tryz.zeroValue147
 t45:=Tryz.underlying217
 a45:=Tryz.isAgg217
 z45:=Tryz.sizeOf217
 v45:=Tryz.zeroValue217
 t46:=Tryz.underlying218
 a46:=Tryz.isAgg218
 z46:=Tryz.sizeOf218
 v46:=Tryz.zeroValue218
 t50:=Tryz.underlying118
 a50:=Tryz.isAgg118
 z50:=Tryz.sizeOf118
 v50:=Tryz.zeroValue118
 t53:=Tryz.underlying149
 a53:=Tryz.isAgg149
 z53:=Tryz.sizeOf149
 v53:=Tryz.zeroValue149
 t55:=Tryz.underlying22
 a55:=Tryz.isAgg22
 z55:=Tryz.sizeOf22
 v55:=Tryz.zeroValue22
 t66:=Tryz.underlying251
 a66:=Tryz.isAgg251
 z66:=Tryz.sizeOf251
 v66:=Tryz.zeroValue251
 t70:=Tryz.underlying254
 a70:=Tryz.isAgg254
 z70:=Tryz.sizeOf254
 v70:=Tryz.zeroValue254
 t76:=Tryz.underlying272
 a76:=Tryz.isAgg272
 z76:=Tryz.sizeOf272
 v76:=Tryz.zeroValue272
 t77:=Tryz.underlying273
 a77:=Tryz.isAgg273
 z77:=Tryz.sizeOf273
 v77:=Tryz.zeroValue273 }
open Go.RowKit Go.Lib Go.Sort in
def Tryz.laysSlF06_f78_ren : Go.Shelf.Ren:=⟨fun | 6=>78 | 15=>135 | 14=>134 | 28=>191 | 29=>192 | 20=>183 | 21=>184 | 22=>185 | 23=>186 | 24=>187 | 25=>188 | 26=>189 | 27=>190 | 46=>231 | 47=>232 | 48=>233 | 49=>234 | 50=>235 | 57=>254 | n=>n,fun | 22=>40 | 24=>24 | 25=>50 | 3=>3 | 39=>147 | 0=>0 | 53=>149 | 55=>22 | 4=>4 | 46=>218 | 45=>217 | 50=>118 | 5=>5 | 9=>9 | 66=>251 | 70=>254 | 76=>272 | 77=>273 | n=>n,fun | n=>n⟩
theorem Tryz.laysSlF06_f78 : Go.Proofs.SlLaysF0.n6 Tryz.prog Tryz.laysSlF06_f78_ren:={
 mixed:=by kernel_rfl
 f6:=⟨Tryz.f78.name,by decide,Tryz.func78.trans (congrArg some (by kernel_rfl))⟩
 f14:=⟨Tryz.f134.name,by decide,Tryz.func134.trans (congrArg some (by kernel_rfl))⟩
 f15:=Tryz.func135.trans (congrArg some (by kernel_rfl))
 f20:=⟨Tryz.f183.name,by decide,Tryz.func183.trans (congrArg some (by kernel_rfl))⟩
 f21:=⟨Tryz.f184.name,by decide,Tryz.func184.trans (congrArg some (by kernel_rfl))⟩
 f22:=⟨Tryz.f185.name,by decide,Tryz.func185.trans (congrArg some (by kernel_rfl))⟩
 f23:=⟨Tryz.f186.name,by decide,Tryz.func186.trans (congrArg some (by kernel_rfl))⟩
 f24:=⟨Tryz.f187.name,by decide,Tryz.func187.trans (congrArg some (by kernel_rfl))⟩
 f25:=⟨Tryz.f188.name,by decide,Tryz.func188.trans (congrArg some (by kernel_rfl))⟩
 f26:=⟨Tryz.f189.name,by decide,Tryz.func189.trans (congrArg some (by kernel_rfl))⟩
 f27:=⟨Tryz.f190.name,by decide,Tryz.func190.trans (congrArg some (by kernel_rfl))⟩
 f28:=Tryz.func191.trans (congrArg some (by kernel_rfl))
 f29:=Tryz.func192.trans (congrArg some (by kernel_rfl))
 f46:=⟨Tryz.f231.name,by decide,Tryz.func231.trans (congrArg some (by kernel_rfl))⟩
 f47:=Tryz.func232.trans (congrArg some (by kernel_rfl))
 f48:=Tryz.func233.trans (congrArg some (by kernel_rfl))
 f49:=⟨Tryz.f234.name,by decide,Tryz.func234.trans (congrArg some (by kernel_rfl))⟩
 f50:=⟨Tryz.f235.name,by decide,Tryz.func235.trans (congrArg some (by kernel_rfl))⟩
 f57:=⟨Tryz.f254.name,by decide,Tryz.func254.trans (congrArg some (by kernel_rfl))⟩
 t0:=Tryz.underlying0
 a0:=Tryz.isAgg0
 z0:=Tryz.sizeOf0
 v0:=Tryz.zeroValue0
 t3:=Tryz.underlying3
 a3:=Tryz.isAgg3
 z3:=Tryz.sizeOf3
 v3:=Tryz.zeroValue3
 t4:=Tryz.underlying4
 a4:=Tryz.isAgg4
 z4:=Tryz.sizeOf4
 v4:=Tryz.zeroValue4
 t5:=Tryz.underlying5
 a5:=Tryz.isAgg5
 z5:=Tryz.sizeOf5
 v5:=Tryz.zeroValue5
 t9:=Tryz.underlying9
 a9:=Tryz.isAgg9
 z9:=Tryz.sizeOf9
 v9:=Tryz.zeroValue9
 t22:=Tryz.underlying40
 a22:=Tryz.isAgg40
 z22:=Tryz.sizeOf40
 v22:=Tryz.zeroValue40
 t25:=Tryz.underlying50
 a25:=Tryz.isAgg50
 z25:=Tryz.sizeOf50
 v25:=Tryz.zeroValue50
 t39:=Tryz.underlying147
 a39:=Tryz.isAgg147
 z39:=Tryz.sizeOf147
 v39:=Tryz.zeroValue147
 t45:=Tryz.underlying217
 a45:=Tryz.isAgg217
 z45:=Tryz.sizeOf217
 v45:=Tryz.zeroValue217
 t46:=Tryz.underlying218
 a46:=Tryz.isAgg218
 z46:=Tryz.sizeOf218
 v46:=Tryz.zeroValue218
 t50:=Tryz.underlying118
 a50:=Tryz.isAgg118
 z50:=Tryz.sizeOf118
 v50:=Tryz.zeroValue118
 t53:=Tryz.underlying149
 a53:=Tryz.isAgg149
 z53:=Tryz.sizeOf149
 v53:=Tryz.zeroValue149
 t55:=Tryz.underlying22
 a55:=Tryz.isAgg22
 z55:=Tryz.sizeOf22
 v55:=Tryz.zeroValue22
 t66:=Tryz.underlying251
 a66:=Tryz.isAgg251
 z66:=Tryz.sizeOf251
 v66:=Tryz.zeroValue251
 t70:=Tryz.underlying254
 a70:=Tryz.isAgg254
 z70:=Tryz.sizeOf254
 v70:=Tryz.zeroValue254
 t76:=Tryz.underlying272
 a76:=Tryz.isAgg272
 z76:=Tryz.sizeOf272
 v76:=Tryz.zeroValue272
 t77:=Tryz.underlying273
 a77:=Tryz.isAgg273
 z77:=Tryz.sizeOf273
 v77:=Tryz.zeroValue273 }
open Go.RowKit Go.Lib Go.Sort in
theorem Tryz.slices_SortFunc_none {α : Type} [Inhabited α] (p : Option Addr) (cap : Nat) (fv : Value) (w : World) :
  Calls Tryz.prog 78 #[.slice p 0 cap,fv] w fun e w'=>e = .returned (.tuple #[]) ∧ w' = w:=AnyF.slices_SortFunc_none Tryz.laysSlF06_f78 p cap fv w
open Go.RowKit Go.Lib Go.Sort in
theorem Tryz.slices_SortFunc_total {α : Type} [Inhabited α] (enc : α → Value) (h1 : OneCell enc) (cf : α → α → Int) (hO : SWO (ltOf cf)) (g : Nat) (cb : Array Value) (blk off cap : Nat) (d : Array α) (w : World) (eg : ∀ args w, (callFunc g args).run Tryz.prog w = .ok (.enter g args) w) (hcmp : CmpLays1 Tryz.prog g cb enc cf blk off d.size w) (hH : Holds enc w blk off d) (hblk : blk < w.heap.size) (hsz : d.size < 4611686018427387904) (hT : ∀ x y, (ltOf cf) x y = false → (ltOf cf) y x = false → x = y) :
  Calls Tryz.prog 78 #[.slice (some ⟨blk,off,none⟩) d.size cap,.func (.func g) #[] cb] w fun e w'=>
   e = .returned (.tuple #[]) ∧ ∃ n os,w' = sortWorld enc w blk off n (d.toList.mergeSort fun x y=>!(ltOf cf) y x).toArray os:=Any.slices_SortFunc_total Tryz.laysSlF6_f78 enc h1 cf hO g cb blk off cap d w eg hcmp hH hblk hsz hT
end Go.Proofs
set_option maxRecDepth 100000
namespace Go.Proofs.YtlbokicainimnaaGreatDoor
open Go.RowKit
theorem dec_row_tmp {fn : Func} {p u : Tmp} (h : fn.results = #[.cell p 35, .tmp u]) (tmps : Array Value) (w : World) (g : Nat) (x y z : Value)
  (hp : tmps.getD p undef = .pointer (some ⟨g,0,none⟩)) (hg : w.heap[g]? = some (.cells #[x,y,z] 35 (0,0))) : (results fn tmps).run Tryz.prog w = .ok (.tuple #[.agg #[x,y,z],tmps.getD u undef]) w:=by
 have hp' : tmps[p]?.getD undef = .pointer (some ⟨g,0,none⟩):=by simpa using hp
 rw [results_cell_tmp h]
 simp [hp',asAddr,run_loadVar_row (P:=Tryz.prog) w g _ 35 #[x,y,z] (0,0) _ hg Tryz.underlying35 rfl (by kernel_rfl),Result.andThen]
def DecR (neg : Bool) (N : Nat) (e : Int) (w : World) (en : Ending) (w' : World) : Prop:=
 en = .returned (.tuple #[.agg #[.bool (madeS neg N e),.string (bs (madeL N e)),.int .i64 (madeE N e)],.int .i64 (madeX N e)]) ∧ Below w.heap.size w w'
theorem clone_any (s : ByteArray) (w : World) (hs : s.size ≤ 281474976710656) : Calls Tryz.prog 149 #[.string s] w fun e w'=>e = .returned (.string s) ∧ Below w.heap.size w w':=by
 go_enter Tryz.func149,Tryz.ntmps149
 go_wp2_with (go_at_call 206; refine (Tryz.stringslite_Clone s _ hs).mono ?_; rintro e w' ⟨rfl,hb⟩)
 go_ret
 exact ⟨rfl,hb⟩
theorem new_blk (w : World) (o : Obj) : (w.alloc o).heap[w.heap.size]? = some o:=by
 show (w.heap.push o)[w.heap.size]? = _
 simp
theorem blk_lt {w : World} {g : Nat} {o : Obj} (h : w.heap[g]? = some o) : g < w.heap.size:=(Array.getElem?_eq_some_iff.1 h).1
theorem rw3 {w : World} {g : Nat} {a b c : Value} {t : TypeId} (h : w.heap[g]? = some (.cells #[a, b, c] t (0, 0))) :
  w.frozen? ⟨g,0,none⟩ = false ∧ w.cell? ⟨g,0,none⟩ = some a ∧ (∀ u,(w.setCell ⟨g,0,none⟩ u).frozen? ⟨g,1,none⟩ = false) ∧ (∀ u,(w.setCell ⟨g,0,none⟩ u).cell? ⟨g,1,none⟩ = some b) ∧
   (∀ u v,((w.setCell ⟨g,0,none⟩ u).setCell ⟨g,1,none⟩ v).frozen? ⟨g,2,none⟩ = false) ∧ (∀ u v,((w.setCell ⟨g,0,none⟩ u).setCell ⟨g,1,none⟩ v).cell? ⟨g,2,none⟩ = some c) ∧
   ∀ u v x,(((w.setCell ⟨g,0,none⟩ u).setCell ⟨g,1,none⟩ v).setCell ⟨g,2,none⟩ x).heap[g]? = some (.cells #[u,v,x] t (0,0)):=by
 have h1:=fun u=>heap_setCell_same w g 0 _ _ u h
 have h2:=fun u v=>heap_setCell_same _ g 1 _ _ v (h1 u)
 have h3:=fun u v x=>heap_setCell_same _ g 2 _ _ x (h2 u v)
 exact ⟨frozen_of_row w g 0 _ _ h,cell_of_row w g 0 _ _ _ h,fun u=>frozen_of_row _ g 1 _ _ (h1 u),fun u=>cell_of_row _ g 1 _ _ _ (h1 u),fun u v=>frozen_of_row _ g 2 _ _ (h2 u v),fun u v=>cell_of_row _ g 2 _ _ _ (h2 u v),h3⟩
theorem below_row3 {B g : Nat} {a w : World} (h : Below B a w) (hg : B ≤ g) (x y z : Value) : Below B a (((w.setCell ⟨g,0,none⟩ x).setCell ⟨g,1,none⟩ y).setCell ⟨g,2,none⟩ z):=
 ((h.setCell (by exact hg) _).setCell (by exact hg) _).setCell (by exact hg) _
theorem dec_end {fn : Func} {p u : Tmp} (hf : fn.results = #[.cell p 35, .tmp u]) {tmps : Array Value} {w0 w : World} {g : Nat} {b : Bool} {s : ByteArray} {e x : Int} {neg : Bool} {N : Nat} {e0 : Int}
  (hp : tmps.getD p undef = .pointer (some ⟨g,0,none⟩)) (hu : tmps.getD u undef = .int .i64 x) (hg : w.heap[g]? = some (.cells #[.bool b,.string s,.int .i64 e] 35 (0,0)))
  (h1 : b = madeS neg N e0) (h2 : s = bs (madeL N e0)) (h3 : e = madeE N e0) (h4 : x = madeX N e0) (hb : Below w0.heap.size w0 w) :
  bodyPost Tryz.prog fn (DecR neg N e0 w0) .ret ⟨tmps,[]⟩ w:=by
 subst h1 h2 h3 h4
 refine bodyPost_ret (dec_row_tmp hf _ _ g _ _ _ hp hg) rfl ⟨?_,hb⟩
 show _ = Ending.returned (.tuple #[_,_])
 rw [← hu]
theorem made_zero (neg : Bool) (e : Int) : madeX 0 e = 0 ∧ madeS neg 0 e = false ∧ madeL 0 e = [] ∧ madeE 0 e = 0:=by
 unfold madeS madeL madeE madeX; simp
theorem made_err {N : Nat} {e x : Int} (neg : Bool) (h : madeX N e = x) (hx : x ≠ 0) : madeS neg N e = false ∧ madeL N e = [] ∧ madeE N e = 0:=by
 unfold madeS madeL madeE; rw [h]; simp [hx]
theorem made_ok {N : Nat} {e : Int} (neg : Bool) (hN : 0 < N) (h : madeX N e = 0) : madeS neg N e = neg ∧ madeL N e = bareD (strip N) ∧ madeE N e = e + tz N:=by
 unfold madeS madeL madeE; rw [h]; simp [show ¬ N = 0 by omega]
theorem dmade_any (neg : Bool) (s : ByteArray) (e : Int) (w : World) (hd : allDig (bl s)) (hs : s.size ≤ 4611686018427387904) :
  Calls Tryz.prog 102 #[.bool neg,.string s,.int .i64 e] w (DecR neg (dval (bl s)) e w):=by
 obtain ⟨N,hN⟩ : ∃ N,N = dval (bl s):=⟨_,rfl⟩
 have ht:=trimL_bare (bl s) hd
 have hts : (bareD N).length ≤ s.size:=by
  rw [hN,← ht,← bl_len]
  exact (List.dropWhile_sublist _).length_le
 rw [← hN] at ht ⊢
 obtain ⟨t,htt⟩ : ∃ t,t = bs (bareD N):=⟨_,rfl⟩
 have htl : t.size = (bareD N).length:=by rw [htt]; rfl
 have HTL : Hid (∀ W,Calls Tryz.prog 147 #[.string s,.string ⟨#[48]⟩] W fun e w'=>e = .returned (.string t) ∧ w' = W):=fun W=>by
  refine (Tryz.strings_TrimLeft_one s 48 (by decide) W).mono ?_
  rintro e w' ⟨rfl,rfl⟩
  refine ⟨?_,rfl⟩
  rw [show Lib.trimLeftB s.data.toList 48 = bareD N from ht,htt]
  rfl
 have hb0 : Below w.heap.size w (w.alloc (.cells #[.bool false,.string ⟨#[]⟩,.int .i64 0] 35)):=(Below.refl _ _).alloc (Nat.le_refl _) _
 have HB0 : Hid _:=hb0
 clear hb0 hN hd
 rcases Nat.eq_zero_or_pos N with g | g
 ·subst g
  have h0 : t.toList.isEmpty = true:=by rw [htt]; show (ByteArray.mk _).toList.isEmpty = true; rw [ByteArray.toList_mk]; rfl
  clear htt htl ht
  go_enter Tryz.func102,Tryz.ntmps102
  go_wp2_with (go_at_call 147; refine (HTL.out _).mono ?_; rintro e w' ⟨rfl,rfl⟩)
  obtain ⟨m1,m2,m3,m4⟩:=made_zero neg e
  exact dec_end rfl rfl rfl (new_blk _ _) m2.symm (by rw [m3]; rfl) m4.symm m1.symm HB0.out
 ·have h0 : t.toList.isEmpty = false := by
   rw [htt]; show (ByteArray.mk _).toList.isEmpty = false; rw [ByteArray.toList_mk,bare_step N g]
   cases bareD (N / 10) <;> rfl
  obtain ⟨u,huu⟩ : ∃ u,u = bs (bareD (strip N)):=⟨_,rfl⟩
  have hul : u.size = (bareD (strip N)).length:=by rw [huu]; rfl
  have HTR : Hid (∀ W,Calls Tryz.prog 148 #[.string t,.string ⟨#[48]⟩] W fun e w'=>e = .returned (.string u) ∧ w' = W):=fun W=>by
   refine (Tryz.strings_TrimRight_one t 48 (by decide) W (by omega)).mono ?_
   rintro e w' ⟨rfl,rfl⟩
   refine ⟨?_,rfl⟩
   rw [show Lib.trimRightB t.data.toList 48 = bareD (strip N) by rw [htt]; exact trimR_bare N g,huu]
   rfl
  have hlen:=bare_len_tz N g
  obtain ⟨k,hk⟩ : ∃ k,k = tz N:=⟨_,rfl⟩
  have HU : Hid (u = bs (bareD (strip N))):=huu
  have HX : Hid (madeX N e = if 8192 < u.size then 12 else if 20000 - (k : Int) < e ∨ e < -20000 - (k : Int) then 11 else 0):=by
   show _ = _; unfold madeX; rw [if_neg (show ¬ N = 0 by omega),hul,hk]
  have HK : Hid (k = tz N):=hk
  have hut : t.size = u.size + k:=by rw [htl,hul,hk]; exact hlen
  have hts' : t.size ≤ 4611686018427387904:=by omega
  clear huu hul hk hlen htl hts htt ht
  by_cases hlong : 8192 < u.size
  ·have hL : (8192 : Int) < (u.size : Int):=by omega
   have hx : madeX N e = 12:=by rw [HX.out,if_pos hlong]
   have HX2 : Hid _:=hx
   clear hx hut hlong
   go_enter Tryz.func102,Tryz.ntmps102
   go_wp2_with (first | (go_at_call 147; refine (HTL.out _).mono ?_; rintro e w' ⟨rfl,rfl⟩) | (go_at_call 148; refine (HTR.out _).mono ?_; rintro e w' ⟨rfl,rfl⟩))
   obtain ⟨m2,m3,m4⟩:=made_err neg HX2.out (by decide)
   exact dec_end rfl rfl rfl (new_blk _ _) m2.symm (by rw [m3]; rfl) m4.symm HX2.out.symm HB0.out
  ·have hL : ¬ (8192 : Int) < (u.size : Int):=by omega
   have hsub : IntKind.i64.wrap ((t.size : Int) - (u.size : Int)) = (k : Int):=by rw [IntWalk.i64_in _ (by omega)]; omega
   have w1 : IntKind.i64.wrap (20000 - (k : Int)) = 20000 - (k : Int):=IntWalk.i64_in _ (by omega)
   have w2 : IntKind.i64.wrap (-20000 - (k : Int)) = -20000 - (k : Int):=IntWalk.i64_in _ (by omega)
   by_cases hr1 : 20000 - (k : Int) < e
   ·have hx : madeX N e = 11:=by rw [HX.out,if_neg hlong,if_pos (.inl hr1)]
    have HX2 : Hid _:=hx
    clear hx hut hlong
    go_enter Tryz.func102,Tryz.ntmps102
    go_wp2_with (first | (go_at_call 147; refine (HTL.out _).mono ?_; rintro e w' ⟨rfl,rfl⟩) | (go_at_call 148; refine (HTR.out _).mono ?_; rintro e w' ⟨rfl,rfl⟩))
    obtain ⟨m2,m3,m4⟩:=made_err neg HX2.out (by decide)
    exact dec_end rfl rfl rfl (new_blk _ _) m2.symm (by rw [m3]; rfl) m4.symm HX2.out.symm HB0.out
   ·by_cases hr2 : e < -20000 - (k : Int)
    ·have hx : madeX N e = 11:=by rw [HX.out,if_neg hlong,if_pos (.inr hr2)]
     have HX2 : Hid _:=hx
     clear hx hut hlong
     go_enter Tryz.func102,Tryz.ntmps102
     go_wp2_with (first | (go_at_call 147; refine (HTL.out _).mono ?_; rintro e w' ⟨rfl,rfl⟩) | (go_at_call 148; refine (HTR.out _).mono ?_; rintro e w' ⟨rfl,rfl⟩))
     obtain ⟨m2,m3,m4⟩:=made_err neg HX2.out (by decide)
     exact dec_end rfl rfl rfl (new_blk _ _) m2.symm (by rw [m3]; rfl) m4.symm HX2.out.symm HB0.out
    ·have hx : madeX N e = 0:=by rw [HX.out,if_neg hlong,if_neg (by omega)]
     have HX2 : Hid _:=hx
     have w3 : IntKind.i64.wrap (e + (k : Int)) = e + (k : Int):=IntWalk.i64_in _ (by omega)
     have HUL : Hid (u.size ≤ 281474976710656):=by show _ ≤ _; omega
     have HG : Hid (0 < N):=g
     clear hx hut hlong g
     go_enter Tryz.func102,Tryz.ntmps102
     go_wp2_with (first | (go_at_call 147; refine (HTL.out _).mono ?_; rintro e w' ⟨rfl,rfl⟩) | (go_at_call 148; refine (HTR.out _).mono ?_; rintro e w' ⟨rfl,rfl⟩) | fail)
     go_at_call 149
     refine (clone_any u _ HUL.out).mono ?_
     rintro e' w' ⟨rfl,hb⟩
     have hrow:=hb.blk (new_blk w _) (by simp)
     obtain ⟨f0,c0,f1,c1,f2,c2,r3⟩:=rw3 hrow
     have HR : Hid _:=r3
     have HBB : Hid (Below w.heap.size w w'):=HB0.out.trans (hb.mono (by simp))
     clear hrow r3 hb
     go_wp2
     obtain ⟨m2,m3,m4⟩:=made_ok neg HG.out HX2.out
     exact dec_end rfl rfl rfl (HR.out _ _ _) m2.symm (by rw [m3]; exact HU.out) (by rw [m4,HK.out]) HX2.out.symm (below_row3 HBB.out (Nat.le_refl _) _ _ _)
theorem Made_any (neg : Bool) (s : ByteArray) (e : Int) (w : World) (hd : allDig (bl s)) (hs : s.size ≤ 4611686018427387904) :
  Calls Tryz.prog 167 #[.bool neg,.string s,.int .i64 e] w (DecR neg (dval (bl s)) e w):=by
 have HN : Hid (∀ W,Calls Tryz.prog 177 #[.string s] W fun e w'=>e = .returned (.bool true) ∧ Below W.heap.size W w'):=fun W=>by
  rw [← all_dig.2 hd]; exact number_any s W (by omega)
 have HM : Hid (∀ W,Calls Tryz.prog 102 #[.bool neg,.string s,.int .i64 e] W (DecR neg (dval (bl s)) e W)):=fun W=>dmade_any neg s e W hd hs
 have HB0 : Hid (Below w.heap.size w (w.alloc (.cells #[.bool false,.string ⟨#[]⟩,.int .i64 0] 35))):=(Below.refl _ _).alloc (Nat.le_refl _) _
 clear hd hs
 go_enter Tryz.func167,Tryz.ntmps167
 go_wp2_with fail
 refine (HN.out _).mono ?_
 rintro e' w' ⟨rfl,hb⟩
 have HBB : Hid (Below w.heap.size w w'):=HB0.out.trans (hb.mono (by simp))
 have HROW : Hid _:=hb.blk (new_blk w _) (by simp)
 clear hb
 go_wp2_with fail
 refine (HM.out _).mono ?_
 rintro e' w'' ⟨rfl,hb⟩
 have hlt : w.heap.size < w'.heap.size:=blk_lt HROW.out
 have hrow:=hb.blk HROW.out hlt
 obtain ⟨f0,c0,f1,c1,f2,c2,r3⟩:=rw3 hrow
 have HR : Hid _:=r3
 have HB2 : Hid (Below w.heap.size w w''):=HBB.out.trans (hb.mono (by omega))
 clear hrow r3 hb hlt
 go_wp2
 exact dec_end rfl rfl rfl (HR.out _ _ _) rfl rfl rfl rfl (below_row3 HB2.out (Nat.le_refl _) _ _ _)
end Go.Proofs.YtlbokicainimnaaGreatDoor
namespace Go.Proofs.YtlbokicainimnaaGreatDoor
open Go.RowKit Go.Lib Go.Sort
def Tab (w : World) : Prop := Lib.TabIs Tryz.prog w "internal/strconv.uint64pow10" .u64 Lib.pow10Tab
theorem Tab.below {w w' : World} (h : Tab w) (hb : Below w.heap.size w w') : Tab w':=Lib.tabBelow_of_tabIs h w' hb
set_option maxHeartbeats 2000000 in
theorem iformat_any (u : Nat) (hu64 : u < 18446744073709551616) (w : World) (htab : Tab w) :
  Calls Tryz.prog 208 #[.int .u64 u,.int .i64 10] w fun e w'=>e = .returned (.string (bs (decDigits u))) ∧ Below w.heap.size w w':=by
 by_cases hs : u < 100
 ·have h1 : ((u : Nat) : Int) < 100:=by omega
  have hw : IntKind.i64.wrap (u : Int) = (u : Int):=IntWalk.i64_in _ (by omega)
  go_enter Tryz.func208,Tryz.ntmps208
  go_wp2_with (go_at_call 242; refine (Tryz.internal_strconv_small u hs _).mono ?_; rintro e w' ⟨rfl,rfl⟩)
  go_ret
  exact ⟨rfl,Below.refl _ _⟩
 ·have h1 : ¬ ((u : Nat) : Int) < 100:=by omega
  have hu1 : 1 ≤ u:=by omega
  have hnd20 : Lib.nDigits u ≤ 20:=by have:=Lib.numDigits_eq u hu1 hu64; split at this <;> omega
  have hal : Tryz.prog.arrayLen 261 = 24:=by simp [Program.arrayLen,Tryz.underlying261]
  have hsl1 : ∀ W,(Instr.sliceAt 261 (.pointer (some ⟨w.heap.size,0,none⟩)) none (some (.int .i64 (Lib.nDigits u : Int))) none).run Tryz.prog W = .ok (.slice (some ⟨w.heap.size,0,none⟩) (Lib.nDigits u) 24) W:=fun W=>by
   rw [run_sliceAt_array_h W 261 ⟨w.heap.size,0,none⟩ (by simp [Program.arrayLen,Program.elem,Tryz.underlying261]) .i64 (Lib.nDigits u : Int) (by omega) (by rw [hal]; omega)]
   go_simp
  have hH0:=Lib.holds_zero0 w 261 (Lib.nDigits u) (by omega)
  have hfmt:=Tryz.internal_strconv_formatBase10 w.heap.size 0 24 u (Array.replicate (Lib.nDigits u) 0) (w.alloc (.cells Lib.zeros24 261)) hH0 (by rw [Array.size_replicate]; exact Lib.lt_pow_nDigits u) hu64 (by rw [Array.size_replicate]; omega)
  rw [Array.size_replicate] at hfmt
  have HH0:=Lib.hid hH0
  have HT : Hid (Tab w):=htab
  have HND : Hid (∀ W,W = w.alloc (.cells Lib.zeros24 261) → Calls Tryz.prog 243 #[.int .u64 u] W fun e w'=>e = .returned (.int .i64 (Lib.nDigits u)) ∧ w' = W):=fun W hW=>by
   subst hW
   exact Tryz.internal_strconv_numDigits u hu1 hu64 _ (HT.out.below ((Below.refl _ _).alloc (Nat.le_refl _) _))
  clear hH0 hal htab hs
  go_enter Tryz.func208,Tryz.ntmps208
  go_wp2_with (go_at_call 243; refine (HND.out _ rfl).mono ?_; rintro e w' ⟨rfl,rfl⟩)
  go_at_call 244
  refine hfmt.mono ?_
  rintro e w' ⟨rfl,k,v',dk,rfl,hF⟩
  have hcv : (convert 151 9 (.slice (some ⟨w.heap.size,0,none⟩) (Lib.nDigits u) 24)).run Tryz.prog ((putRow (fun (b : UInt8)=>Value.int .u8 (b.toNat : Int)) (w.alloc (.cells Lib.zeros24 261)) w.heap.size 0 dk).drewN k) = .ok (.string (bs (decDigits u))) ((putRow (fun (b : UInt8)=>Value.int .u8 (b.toNat : Int)) (w.alloc (.cells Lib.zeros24 261)) w.heap.size 0 dk).drewN k):=by
   have h:=run_convert_bytes_back (P:=Tryz.prog) ((putRow (fun (b : UInt8)=>Value.int .u8 (b.toNat : Int)) (w.alloc (.cells Lib.zeros24 261)) w.heap.size 0 dk).drewN k) 151 9 5 ⟨w.heap.size,0,none⟩ 24 (Lib.decDigits u) Tryz.underlying151 Tryz.underlying5 Tryz.underlying9 (fun j hj=>by
    rw [Lib.row_is_numeral hF j hj,Lib.add_plain,World.cell?_drewN]
    exact cell?_putRow (fun (b : UInt8)=>Value.int .u8 (b.toNat : Int)) _ w.heap.size 0 _ dk HH0.out (by rw [hF.size,Array.size_replicate]) j (by rw [hF.size]; rw [Lib.decDigits_length] at hj; exact hj))
   rw [Lib.decDigits_length] at h
   exact h
  go_wp2
  go_ret
  obtain ⟨os,eo⟩:=Lib.fin_at w (.cells Lib.zeros24 261) dk k 0
  refine ⟨rfl,?_⟩
  rw [eo]
  exact Lib.below_grow _ _ (Nat.le_refl _) _ _
theorem format_any (u : Nat) (hu64 : u < 18446744073709551616) (w : World) (htab : Tab w) :
  Calls Tryz.prog 153 #[.int .u64 u,.int .i64 10] w fun e w'=>e = .returned (.string (bs (decDigits u))) ∧ Below w.heap.size w w':=by
 have HF : Hid _:=iformat_any u hu64 w htab
 clear htab
 go_enter Tryz.func153,Tryz.ntmps153
 go_wp2_with fail
 refine Calls.mono HF.out ?_
 rintro e w' ⟨rfl,hb⟩
 go_wp2
 go_ret
 exact ⟨rfl,hb⟩
end Go.Proofs.YtlbokicainimnaaGreatDoor
namespace Go.Proofs.YtlbokicainimnaaGreatDoor
open Go.Shelf
theorem lays166 : Go.Proofs.Lays.n166 Tryz.prog Tryz.lays105_ren:={ Tryz.lays105 with }
open Go.RowKit
theorem wstring_any (B b : Nat) (l : List UInt8) (s : ByteArray) (w : World) (h : Lib.IsBuilder 181 5 B b (Lib.byteCells l) w) (hlen : l.length + s.size ≤ 140737488355328) (hBw : B ≤ w.heap.size) :
  Calls Tryz.prog 156 #[.pointer (some ⟨b,0,none⟩),.string s] w fun e w'=>e = .returned (.tuple #[.int .i64 s.size,.nilIface]) ∧ Lib.IsBuilder 181 5 B b (Lib.byteCells (l ++ bl s)) w' ∧ Below B w w':=by
 refine (Any.Builder_WriteString lays166 Tryz.Builder_Extra_105 B b _ s w h (by rw [Lib.byteCells_length]; exact hlen) hBw).mono ?_
 rintro e w' ⟨rfl,h1,h2⟩
 refine ⟨rfl,Or.inr ?_,h2⟩
 have e : Lib.byteCells l ++ Lib.strCells s = Lib.byteCells (l ++ bl s):=by
  show _ ++ Lib.strCells ⟨(bl s).toArray⟩ = _
  rw [Lib.strCells_toArray]; unfold Lib.byteCells; rw [List.map_append]
 rw [← e]; exact h1
theorem bstring_any (B b : Nat) (l : List UInt8) (w : World) (h : Lib.IsBuilder 181 5 B b (Lib.byteCells l) w) (hBw : B ≤ w.heap.size) :
  Calls Tryz.prog 157 #[.pointer (some ⟨b,0,none⟩)] w fun e w'=>e = .returned (.string (bs l)) ∧ Below B w w':=Tryz.Builder_String_any B b l w h hBw
theorem builder_new (B : Nat) (w : World) (hB : B ≤ w.heap.size) : Lib.IsBuilder 181 5 B w.heap.size (Lib.byteCells []) (w.alloc (.cells #[.pointer none,.slice none 0 0] 181)):=
 Or.inl ⟨hB,_,new_blk w _,World.ownsRow_nil _ _ _ _,by simp [Value.ownBlock]⟩
end Go.Proofs.YtlbokicainimnaaGreatDoor
namespace Go.Proofs.YtlbokicainimnaaGreatDoor
open Go.Lib
def joinR (L : List ByteArray) : List UInt8:=(L.reverse.map bl).flatten
theorem joinR_nil : joinR [] = []:=rfl
theorem joinR_snoc (L : List ByteArray) (s : ByteArray) : joinR (L ++ [s]) = bl s ++ joinR L:=by unfold joinR; simp
theorem joinR_app (L M : List ByteArray) : joinR (L ++ M) = joinR M ++ joinR L:=by unfold joinR; simp
theorem joinR_drop (L : List ByteArray) (i : Nat) (hi : i < L.length) : joinR (L.drop i) = joinR (L.drop (i + 1)) ++ bl L[i]:=by
 rw [List.drop_eq_getElem_cons hi]
 show joinR ([L[i]] ++ L.drop (i + 1)) = _
 rw [joinR_app]
 unfold joinR; simp
theorem joinR_len_le (L : List ByteArray) (i : Nat) : (joinR (L.drop i)).length ≤ (joinR L).length:=by
 have h : joinR L = joinR (L.drop i) ++ joinR (L.take i):=by rw [← joinR_app,List.take_append_drop]
 rw [h,List.length_append]; omega
def piece (Y : Nat) : List UInt8:=
 if Y / 1000000000000000000 = 0 then decDigits (Y % 1000000000000000000) else List.replicate (18 - (decDigits (Y % 1000000000000000000)).length) 48 ++ decDigits (Y % 1000000000000000000)
theorem piece_bare (Y : Nat) (h : 0 < Y) : bareD Y = bareD (Y / 1000000000000000000) ++ piece Y:=by
 unfold bareD piece
 rw [if_neg (show ¬ Y = 0 by omega)]
 by_cases g : Y / 1000000000000000000 = 0
 ·rw [if_pos g,if_pos g,Nat.mod_eq_of_lt (by omega)]; rfl
 ·rw [if_neg g,if_neg g]; exact (dec_row Y (by omega)).1
def TextInv (N k Y : Nat) (L : List ByteArray) : Prop:=L.length = k ∧ Y = N / 1000000000000000000 ^ k ∧ bareD N = bareD Y ++ joinR L
theorem text_start (N : Nat) : TextInv N 0 N []:=⟨rfl,by rw [Nat.pow_zero,Nat.div_one],by rw [joinR_nil,List.append_nil]⟩
theorem text_next {N k Y : Nat} {L : List ByteArray} (h : TextInv N k Y L) (hY : 0 < Y) {s : ByteArray} (hs : s = bs (piece Y)) : TextInv N (k + 1) (Y / 1000000000000000000) (L ++ [s]):=by
 obtain ⟨h1,h2,h3⟩:=h
 refine ⟨by simp [h1],by rw [Nat.pow_succ,← Nat.div_div_eq_div_mul,← h2],?_⟩
 rw [h3,joinR_snoc,piece_bare Y hY,List.append_assoc,hs,bl_bs]
theorem text_count {N k Y : Nat} {L : List ByteArray} (h : TextInv N k Y L) (hY : 0 < Y) {bb : Nat} (hN : N < 2 ^ bb) : k < bb ∧ k < N:=by
 obtain ⟨-,h2,-⟩:=h
 have h3 : 1000000000000000000 ^ k ≤ N:=by
  rcases Nat.lt_or_ge N (1000000000000000000 ^ k) with g | g
  ·rw [Nat.div_eq_of_lt g] at h2; omega
  ·exact g
 have h4 : 2 ^ k ≤ 1000000000000000000 ^ k:=Nat.pow_le_pow_left (by decide) k
 have h5 : k < 2 ^ k:=Nat.lt_two_pow_self
 refine ⟨?_,by omega⟩
 rcases Nat.lt_or_ge k bb with g | g
 ·exact g
 ·have:=Nat.pow_le_pow_right (show 0 < 2 by decide) g
  omega
theorem text_end {N k : Nat} {L : List ByteArray} (h : TextInv N k 0 L) : bareD N = joinR L:=h.2.2
theorem bare_len_bits {N bb : Nat} (hN : N < 2 ^ bb) : (bareD N).length ≤ bb:=
 bare_len_le N bb (Nat.lt_of_lt_of_le hN (Nat.pow_le_pow_left (by decide) bb))
theorem dec_bare {N : Nat} (h : 0 < N) : decDigits N = bareD N:=by unfold bareD; rw [if_neg (by omega)]
end Go.Proofs.YtlbokicainimnaaGreatDoor
