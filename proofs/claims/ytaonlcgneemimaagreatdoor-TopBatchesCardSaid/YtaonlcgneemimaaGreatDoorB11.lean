/- TopBatches: contracts of library functions; no condition. -/
import Derived.Shelf.Strings.Builder1
import Derived.Shelf.Strings.Builder2
import Derived.Shelf.Strings.OnBuilder
import Derived.Shelf.Strings.Search1
import Derived.Shelf.Strings.Search2
import Derived.Shelf.Strings.Search3
import Derived.Shelf.Strings.Count
import Derived.Shelf.LaysM
import Derived.Shelf.Strings.Shaped
import Derived.Shelf.Strings.Prefix
import Derived.Shelf.Strings.Split
import Derived.Shelf.Strings.SplitShaped
import Derived.Shelf.Unicode.DecodeSlow
import Derived.Shelf.Slices.Equal
import Derived.Ground.Names2Prog
import Derived.Shelf.Slices.Clone
import Derived.Shelf.Slices.Empties2
import Derived.Shelf.Bytes.SlSearch0
import Derived.Ground.SlbCloneProg
import Derived.Shelf.Bytes.SlClone
import Derived.Ground.SlgnProg
import Derived.Shelf.SlicesE.Index
import Derived.Ground.SlgmProg
import Derived.Shelf.SortM.Plain
import Derived.Shelf.SortM.SortNone
import Derived.Shelf.Bytes.SlEqualAll
import Derived.Shelf.Bytes.Small
import Derived.Test.YtaonlcgneemimaaGreatDoorProg
namespace Go.Proofs
open Go.Shelf
def Tryz.lays156_ren:Go.Shelf.Ren:=⟨fun | 156 => 173 | 165 => 205 | 166 => 206 | 169 => 207 | 240 => 240 | 241 => 241 | 276 => 259 | 277 => 260 | n => n,fun | 31 => 36 | 9 => 9 | 3 => 3 | 4 => 4 | 0 => 0 | 20 => 20 | 72 => 289 | 76 => 292 | 70 => 287 | 37 => 33 | 75 => 291 | 127 => 323 | 164 => 339 | 5 => 5 | 80 => 294 | n => n,fun | n => n⟩
theorem Tryz.lays156:Go.Proofs.Lays.n156 Tryz.prog Tryz.lays156_ren:={
 mixed:=by kernel_rfl
 f156:=Tryz.func173.trans (congrArg some (by kernel_rfl))
 f165:=Tryz.func205.trans (congrArg some (by kernel_rfl))
 f166:=Tryz.func206.trans (congrArg some (by kernel_rfl))
 f169:=Tryz.func207.trans (congrArg some (by kernel_rfl))
 f240:=Tryz.func240.trans (congrArg some (by kernel_rfl))
 f241:=Tryz.func241.trans (congrArg some (by kernel_rfl))
 f276:=Tryz.func259.trans (congrArg some (by kernel_rfl))
 f277:=Tryz.func260.trans (congrArg some (by kernel_rfl))
 t0:=Tryz.underlying0
 a0:=Tryz.isAgg0
 z0:=Tryz.sizeOf0
 v0:=Tryz.zeroValue0
 t3:=Tryz.underlying3
 a3:=Tryz.isAgg3
 z3:=Tryz.sizeOf3
 v3:=Tryz.zeroValue3
 t4:=Tryz.underlying4
 a4:=Tryz.isAgg4
 z4:=Tryz.sizeOf4
 v4:=Tryz.zeroValue4
 t9:=Tryz.underlying9
 a9:=Tryz.isAgg9
 z9:=Tryz.sizeOf9
 v9:=Tryz.zeroValue9
 t20:=Tryz.underlying20
 a20:=Tryz.isAgg20
 z20:=Tryz.sizeOf20
 v20:=Tryz.zeroValue20
 t31:=Tryz.underlying36
 a31:=Tryz.isAgg36
 z31:=Tryz.sizeOf36
 v31:=Tryz.zeroValue36
 t37:=Tryz.underlying33
 a37:=Tryz.isAgg33
 z37:=Tryz.sizeOf33
 v37:=Tryz.zeroValue33
 t70:=Tryz.underlying287
 a70:=Tryz.isAgg287
 z70:=Tryz.sizeOf287
 v70:=Tryz.zeroValue287
 t72:=Tryz.underlying289
 a72:=Tryz.isAgg289
 z72:=Tryz.sizeOf289
 v72:=Tryz.zeroValue289
 t75:=Tryz.underlying291
 a75:=Tryz.isAgg291
 z75:=Tryz.sizeOf291
 v75:=Tryz.zeroValue291
 t76:=Tryz.underlying292
 a76:=Tryz.isAgg292
 z76:=Tryz.sizeOf292
 v76:=Tryz.zeroValue292
 t127:=Tryz.underlying323
 a127:=Tryz.isAgg323
 z127:=Tryz.sizeOf323
 v127:=Tryz.zeroValue323
 t164:=Tryz.underlying339
 a164:=Tryz.isAgg339
 z164:=Tryz.sizeOf339
 v164:=Tryz.zeroValue339 }
theorem Tryz.Builder_Extra_156:Builder.Extra Tryz.prog Tryz.lays156_ren:={
 sizeBuilder:=by kernel_rfl
 liesBuilder:=by kernel_rfl
 t5:=Tryz.underlying5
 a5:=Tryz.isAgg5
 z5:=Tryz.sizeOf5
 v5:=Tryz.zeroValue5
 infoByte:=by kernel_rfl
 cellsByte:=by kernel_rfl
 sizeByte:=by kernel_rfl
 neB5:=by decide }
open Go.RowKit in
theorem Tryz.strings_Join (bk o c:Nat) (xs:List ByteArray) (sep:ByteArray) (w:World) (hcells:∀ (j:Nat) x,xs[j]? = some x → w.cell? ⟨bk,o + j,none⟩ = some (.string x)) (hbk:bk < w.heap.size) (hN:xs.length ≤ 140737488355328) (hcap:xs.length ≤ c) (hlen:(Lib.join (xs.map (·.data.toList)) sep.data.toList).length ≤ 140737488355328) :
  Calls Tryz.prog 173 #[.slice (some ⟨bk,o,none⟩) xs.length c,.string sep] w fun e w' => e = .returned (.string ⟨(Lib.join (xs.map (·.data.toList)) sep.data.toList).toArray⟩) ∧ Below w.heap.size w w':=Any.strings_Join Tryz.lays156 Tryz.Builder_Extra_156 bk o c xs sep w hcells hbk hN hcap hlen
def Tryz.lays206_ren:Go.Shelf.Ren:=⟨fun | 206 => 176 | n => n,fun | 9 => 9 | 4 => 4 | 3 => 3 | n => n,fun | n => n⟩
def Tryz.lays99_ren:Go.Shelf.Ren:=⟨fun | 99 => 141 | 206 => 176 | n => n,fun | 9 => 9 | 4 => 4 | 3 => 3 | n => n,fun | n => n⟩
theorem Tryz.lays99:Go.Proofs.Lays.n99 Tryz.prog Tryz.lays99_ren:={
 mixed:=by kernel_rfl
 f99:=Tryz.func141.trans (congrArg some (by kernel_rfl))
 f206:=Tryz.func176.trans (congrArg some (by kernel_rfl))
 t3:=Tryz.underlying3
 a3:=Tryz.isAgg3
 z3:=Tryz.sizeOf3
 v3:=Tryz.zeroValue3
 t4:=Tryz.underlying4
 a4:=Tryz.isAgg4
 z4:=Tryz.sizeOf4
 v4:=Tryz.zeroValue4
 t9:=Tryz.underlying9
 a9:=Tryz.isAgg9
 z9:=Tryz.sizeOf9
 v9:=Tryz.zeroValue9 }
open Go.RowKit Go.Lib in
theorem Tryz.strings_HasPrefix (s p:ByteArray) (w:World) :
  Calls Tryz.prog 141 #[.string s,.string p] w fun e w' => e = .returned (.bool (Lib.hasPrefix s.data.toList p.data.toList)) ∧ w' = w:=Any.strings_HasPrefix Tryz.lays99 s p w
def Tryz.lays221_ren:Go.Shelf.Ren:=⟨fun | 221 => 177 | 268 => 210 | 138 => 211 | 143 => 212 | 195 => 244 | 197 => 245 | 218 => 246 | 219 => 247 | 260 => 261 | 217 => 262 | 225 => 263 | 224 => 264 | 267 => 265 | 266 => 268 | 314 => 269 | n => n,fun | 9 => 9 | 3 => 3 | 31 => 36 | 4 => 4 | 0 => 0 | 105 => 327 | 21 => 21 | 5 => 5 | 46 => 239 | 119 => 343 | 139 => 346 | 138 => 345 | 146 => 347 | 51 => 128 | n => n,fun | 1 => 1 | 3 => 2 | 4 => 3 | n => n⟩
def Tryz.lays146_ren:Go.Shelf.Ren:=⟨fun | 146 => 142 | 221 => 177 | 268 => 210 | 138 => 211 | 143 => 212 | 195 => 244 | 197 => 245 | 218 => 246 | 219 => 247 | 260 => 261 | 217 => 262 | 225 => 263 | 224 => 264 | 267 => 265 | 266 => 268 | 314 => 269 | n => n,fun | 9 => 9 | 31 => 36 | 3 => 3 | 4 => 4 | 0 => 0 | 105 => 327 | 21 => 21 | 5 => 5 | 46 => 239 | 119 => 343 | 139 => 346 | 138 => 345 | 146 => 347 | 51 => 128 | n => n,fun | 1 => 1 | 3 => 2 | 4 => 3 | n => n⟩
theorem Tryz.lays146:Go.Proofs.Lays.n146 Tryz.prog Tryz.lays146_ren:={
 mixed:=by kernel_rfl
 f138:=Tryz.func211.trans (congrArg some (by kernel_rfl))
 f143:=Tryz.func212.trans (congrArg some (by kernel_rfl))
 f146:=Tryz.func142.trans (congrArg some (by kernel_rfl))
 f195:=Tryz.func244.trans (congrArg some (by kernel_rfl))
 f197:=Tryz.func245.trans (congrArg some (by kernel_rfl))
 f217:=Tryz.func262.trans (congrArg some (by kernel_rfl))
 f218:=Tryz.func246.trans (congrArg some (by kernel_rfl))
 f219:=Tryz.func247.trans (congrArg some (by kernel_rfl))
 f221:=Tryz.func177.trans (congrArg some (by kernel_rfl))
 f224:=Tryz.func264.trans (congrArg some (by kernel_rfl))
 f225:=Tryz.func263.trans (congrArg some (by kernel_rfl))
 f260:=Tryz.func261.trans (congrArg some (by kernel_rfl))
 f266:=Tryz.func268.trans (congrArg some (by kernel_rfl))
 f267:=Tryz.func265.trans (congrArg some (by kernel_rfl))
 f268:=Tryz.func210.trans (congrArg some (by kernel_rfl))
 f314:=Tryz.func269.trans (congrArg some (by kernel_rfl))
 t0:=Tryz.underlying0
 a0:=Tryz.isAgg0
 z0:=Tryz.sizeOf0
 v0:=Tryz.zeroValue0
 t3:=Tryz.underlying3
 a3:=Tryz.isAgg3
 z3:=Tryz.sizeOf3
 v3:=Tryz.zeroValue3
 t4:=Tryz.underlying4
 a4:=Tryz.isAgg4
 z4:=Tryz.sizeOf4
 v4:=Tryz.zeroValue4
 t5:=Tryz.underlying5
 a5:=Tryz.isAgg5
 z5:=Tryz.sizeOf5
 v5:=Tryz.zeroValue5
 t9:=Tryz.underlying9
 a9:=Tryz.isAgg9
 z9:=Tryz.sizeOf9
 v9:=Tryz.zeroValue9
 t21:=Tryz.underlying21
 a21:=Tryz.isAgg21
 z21:=Tryz.sizeOf21
 v21:=Tryz.zeroValue21
 t31:=Tryz.underlying36
 a31:=Tryz.isAgg36
 z31:=Tryz.sizeOf36
 v31:=Tryz.zeroValue36
 t46:=Tryz.underlying239
 a46:=Tryz.isAgg239
 z46:=Tryz.sizeOf239
 v46:=Tryz.zeroValue239
 t51:=Tryz.underlying128
 a51:=Tryz.isAgg128
 z51:=Tryz.sizeOf128
 v51:=Tryz.zeroValue128
 t105:=Tryz.underlying327
 a105:=Tryz.isAgg327
 z105:=Tryz.sizeOf327
 v105:=Tryz.zeroValue327
 t119:=Tryz.underlying343
 a119:=Tryz.isAgg343
 z119:=Tryz.sizeOf343
 t138:=Tryz.underlying345
 a138:=Tryz.isAgg345
 z138:=Tryz.sizeOf345
 v138:=Tryz.zeroValue345
 t139:=Tryz.underlying346
 a139:=Tryz.isAgg346
 z139:=Tryz.sizeOf346
 v139:=Tryz.zeroValue346
 t146:=Tryz.underlying347
 a146:=Tryz.isAgg347
 z146:=Tryz.sizeOf347
 v146:=Tryz.zeroValue347
 g1:=by kernel_rfl
 g3:=by kernel_rfl
 g4:=by kernel_rfl }
open Go.RowKit Go.Lib in
theorem Tryz.strings_Split (s sep:ByteArray) (m:Int) (w:World) (hs:s.size < 4294967281) (hm:w.cell? ⟨1,0,none⟩ = some (.int .i64 m)) (h1:1 ≤ sep.size) :
  Calls Tryz.prog 142 #[.string s,.string sep] w fun e w' =>
   e = .returned (.slice (some ⟨w.heap.size,0,none⟩) (Lib.countB s sep + 1) (Lib.countB s sep + 1)) ∧ w' = w.alloc (.cells ((Lib.splitB sep 0 (Lib.countB s sep) s).map Value.string).toArray 9):=Any.strings_Split Tryz.lays146 (by kernel_rfl) s sep m w hs hm h1
def Tryz.lays193_ren:Go.Shelf.Ren:=⟨fun | 193 => 145 | n => n,fun | 31 => 36 | 9 => 9 | 4 => 4 | 3 => 3 | 0 => 0 | n => n,fun | n => n⟩
theorem Tryz.lays193:Go.Proofs.Lays.n193 Tryz.prog Tryz.lays193_ren:={
 mixed:=by kernel_rfl
 f193:=Tryz.func145.trans (congrArg some (by kernel_rfl))
 t0:=Tryz.underlying0
 a0:=Tryz.isAgg0
 z0:=Tryz.sizeOf0
 v0:=Tryz.zeroValue0
 t3:=Tryz.underlying3
 a3:=Tryz.isAgg3
 z3:=Tryz.sizeOf3
 v3:=Tryz.zeroValue3
 t4:=Tryz.underlying4
 a4:=Tryz.isAgg4
 z4:=Tryz.sizeOf4
 v4:=Tryz.zeroValue4
 t9:=Tryz.underlying9
 a9:=Tryz.isAgg9
 z9:=Tryz.sizeOf9
 v9:=Tryz.zeroValue9
 t31:=Tryz.underlying36
 a31:=Tryz.isAgg36
 z31:=Tryz.sizeOf36
 v31:=Tryz.zeroValue36 }
open Go.RowKit Go.Lib in
theorem Tryz.slices_Equal_string (b1 o1 n c b2 o2 m d:Nat) (xs ys:List ByteArray) (w:World) (hx:n ≤ xs.length) (hy:m ≤ ys.length) (hbig:n ≤ 9223372036854775807) (hbig2:m ≤ 9223372036854775807) (hc1:∀ j,j < xs.length → w.cell? ⟨b1,o1 + j,none⟩ = some (.string (xs.getD j ByteArray.empty))) (hc2:∀ j,j < ys.length → w.cell? ⟨b2,o2 + j,none⟩ = some (.string (ys.getD j ByteArray.empty))) :
  Calls Tryz.prog 145 #[.slice (some ⟨b1,o1,none⟩) n c,.slice (some ⟨b2,o2,none⟩) m d] w fun e w' => e = .returned (.bool (decide (xs.take n = ys.take m))) ∧ ∃ q,w' = w.drewN q:=Any.slices_Equal_string Tryz.lays193 b1 o1 n c b2 o2 m d xs ys w hx hy hbig hbig2 hc1 hc2
open Go.RowKit Go.Lib in
theorem Tryz.slices_Equal_string_empty (a1 a2:Option Addr) (c m d:Nat) (w:World) (hbig2:m ≤ 9223372036854775807) :
  Calls Tryz.prog 145 #[.slice a1 0 c,.slice a2 m d] w fun e w' => e = .returned (.bool (decide (m = 0))) ∧ w' = w:=Any.slices_Equal_string_empty Tryz.lays193 a1 a2 c m d w hbig2
def Tryz.lays115_ren:Go.Shelf.Ren:=⟨fun | 115 => 149 | n => n,fun | 37 => 33 | 4 => 4 | 9 => 9 | 5 => 5 | n => n,fun | n => n⟩
theorem Tryz.lays115:Go.Proofs.Lays.n115 Tryz.prog Tryz.lays115_ren:={
 mixed:=by kernel_rfl
 f115:=Tryz.func149.trans (congrArg some (by kernel_rfl))
 t4:=Tryz.underlying4
 a4:=Tryz.isAgg4
 z4:=Tryz.sizeOf4
 v4:=Tryz.zeroValue4
 t9:=Tryz.underlying9
 a9:=Tryz.isAgg9
 z9:=Tryz.sizeOf9
 v9:=Tryz.zeroValue9
 t37:=Tryz.underlying33
 a37:=Tryz.isAgg33
 z37:=Tryz.sizeOf33
 v37:=Tryz.zeroValue33 }
def Tryz.laysSlM5_f156_ren:Go.Shelf.Ren:=⟨fun | 5 => 156 | 8 => 172 | 7 => 186 | 19 => 203 | 20 => 204 | 10 => 224 | 11 => 225 | 12 => 226 | 13 => 227 | 14 => 228 | 15 => 229 | 16 => 230 | 17 => 231 | 18 => 232 | 30 => 254 | 31 => 235 | 32 => 236 | 33 => 255 | 34 => 256 | 35 => 257 | 40 => 267 | n => n,fun | 23 => 90 | 25 => 3 | 3 => 3 | 32 => 239 | 22 => 90 | 0 => 0 | 44 => 128 | 46 => 106 | 4 => 4 | 36 => 280 | 35 => 279 | 41 => 191 | 5 => 5 | 9 => 9 | 53 => 317 | 57 => 321 | 63 => 336 | 64 => 337 | n => n,fun | n => n⟩
theorem Tryz.laysSlM5_f156:Go.Proofs.SlLaysM.n5 Tryz.prog Tryz.laysSlM5_f156_ren:={
 mixed:=by kernel_rfl
 f5:=⟨Tryz.f156.name,by decide,Tryz.func156.trans (congrArg some (by kernel_rfl))⟩
 f7:=⟨Tryz.f186.name,by decide,Tryz.func186.trans (congrArg some (by kernel_rfl))⟩
 f8:=Tryz.func172.trans (congrArg some (by kernel_rfl))
 f10:=⟨Tryz.f224.name,by decide,Tryz.func224.trans (congrArg some (by kernel_rfl))⟩
 f11:=⟨Tryz.f225.name,by decide,Tryz.func225.trans (congrArg some (by kernel_rfl))⟩
 f12:=⟨Tryz.f226.name,by decide,Tryz.func226.trans (congrArg some (by kernel_rfl))⟩
 f13:=⟨Tryz.f227.name,by decide,Tryz.func227.trans (congrArg some (by kernel_rfl))⟩
 f14:=⟨Tryz.f228.name,by decide,Tryz.func228.trans (congrArg some (by kernel_rfl))⟩
 f15:=⟨Tryz.f229.name,by decide,Tryz.func229.trans (congrArg some (by kernel_rfl))⟩
 f16:=⟨Tryz.f230.name,by decide,Tryz.func230.trans (congrArg some (by kernel_rfl))⟩
 f17:=⟨Tryz.f231.name,by decide,Tryz.func231.trans (congrArg some (by kernel_rfl))⟩
 f18:=⟨Tryz.f232.name,by decide,Tryz.func232.trans (congrArg some (by kernel_rfl))⟩
 f19:=Tryz.func203.trans (congrArg some (by kernel_rfl))
 f20:=Tryz.func204.trans (congrArg some (by kernel_rfl))
 f30:=⟨Tryz.f254.name,by decide,Tryz.func254.trans (congrArg some (by kernel_rfl))⟩
 f31:=Tryz.func235.trans (congrArg some (by kernel_rfl))
 f32:=Tryz.func236.trans (congrArg some (by kernel_rfl))
 f33:=⟨Tryz.f255.name,by decide,Tryz.func255.trans (congrArg some (by kernel_rfl))⟩
 f34:=⟨Tryz.f256.name,by decide,Tryz.func256.trans (congrArg some (by kernel_rfl))⟩
 f35:=⟨Tryz.f257.name,by decide,Tryz.func257.trans (congrArg some (by kernel_rfl))⟩
 f40:=⟨Tryz.f267.name,by decide,Tryz.func267.trans (congrArg some (by kernel_rfl))⟩
 t0:=Tryz.underlying0
 a0:=Tryz.isAgg0
 z0:=Tryz.sizeOf0
 v0:=Tryz.zeroValue0
 t3:=Tryz.underlying3
 a3:=Tryz.isAgg3
 z3:=Tryz.sizeOf3
 v3:=Tryz.zeroValue3
 t4:=Tryz.underlying4
 a4:=Tryz.isAgg4
 z4:=Tryz.sizeOf4
 v4:=Tryz.zeroValue4
 t5:=Tryz.underlying5
 a5:=Tryz.isAgg5
 z5:=Tryz.sizeOf5
 v5:=Tryz.zeroValue5
 t9:=Tryz.underlying9
 a9:=Tryz.isAgg9
 z9:=Tryz.sizeOf9
 v9:=Tryz.zeroValue9
 t22:=Tryz.underlying90
 a22:=Tryz.isAgg90
 z22:=Tryz.sizeOf90
 v22:=Tryz.zeroValue90
 t23:=Tryz.underlying90
 a23:=Tryz.isAgg90
 z23:=Tryz.sizeOf90
 v23:=Tryz.zeroValue90
 t25:=Tryz.underlying3
 a25:=Tryz.isAgg3
 z25:=Tryz.sizeOf3
 v25:=Tryz.zeroValue3
 t32:=Tryz.underlying239
 a32:=Tryz.isAgg239
 z32:=Tryz.sizeOf239
 v32:=Tryz.zeroValue239
 t35:=Tryz.underlying279
 a35:=Tryz.isAgg279
 z35:=Tryz.sizeOf279
 v35:=Tryz.zeroValue279
 t36:=Tryz.underlying280
 a36:=Tryz.isAgg280
 z36:=Tryz.sizeOf280
 v36:=Tryz.zeroValue280
 t41:=Tryz.underlying191
 a41:=Tryz.isAgg191
 z41:=Tryz.sizeOf191
 v41:=Tryz.zeroValue191
 t44:=Tryz.underlying128
 a44:=Tryz.isAgg128
 z44:=Tryz.sizeOf128
 v44:=Tryz.zeroValue128
 t46:=Tryz.underlying106
 a46:=Tryz.isAgg106
 z46:=Tryz.sizeOf106
 v46:=Tryz.zeroValue106
 t53:=Tryz.underlying317
 a53:=Tryz.isAgg317
 z53:=Tryz.sizeOf317
 v53:=Tryz.zeroValue317
 t57:=Tryz.underlying321
 a57:=Tryz.isAgg321
 z57:=Tryz.sizeOf321
 v57:=Tryz.zeroValue321
 t63:=Tryz.underlying336
 a63:=Tryz.isAgg336
 z63:=Tryz.sizeOf336
 v63:=Tryz.zeroValue336
 t64:=Tryz.underlying337
 a64:=Tryz.isAgg337
 z64:=Tryz.sizeOf337
 v64:=Tryz.zeroValue337 }
theorem Tryz.bytes_Equal (v1 v2:Value) (xs ys:List Int) (w:World) (h1:(convert 33 9 v1).run Tryz.prog w = .ok (.string (strOfNums xs)) w) (h2:(convert 33 9 v2).run Tryz.prog w = .ok (.string (strOfNums ys)) w) :
  Calls Tryz.prog 149 #[v1,v2] w fun e w' => e = .returned (.bool (Lib.bytesOf xs == Lib.bytesOf ys)) ∧ w' = w:=Any.bytes_Equal Tryz.lays115 v1 v2 xs ys w h1 h2
end Go.Proofs
