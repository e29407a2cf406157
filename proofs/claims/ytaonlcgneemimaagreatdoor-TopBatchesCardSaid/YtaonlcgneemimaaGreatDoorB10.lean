/- TopBatches: the contracts of TryzIter; no condition. -/
import Derived.Shelf.SlIter.Nil
import Derived.Shelf.SortM.Plain
import Derived.Shelf.SortM.SortNone
import Derived.Ground.GgzProg
import Derived.Ground.SlgmProg
import Derived.Test.YtaonlcgneemimaaGreatDoorProg
namespace Go.Proofs
open Go.Shelf
def Tryz.keys86_ren:Go.Shelf.Ren:=⟨fun | 7 => 86 | 10 => 136 | n => n,fun | 23 => 166 | 26 => 9 | 3 => 168 | 28 => 164 | 0 => 0 | 27 => 163 | 33 => 79 | 4 => 4 | n => n,fun | n => n⟩
theorem Tryz.keys86:Go.Proofs.SlLaysZ.n7 Tryz.prog Tryz.keys86_ren:={
 mixed:=by kernel_rfl
 f7:=⟨Tryz.f86.name,by decide,Tryz.func86.trans (congrArg some (by kernel_rfl))⟩
 f10:=⟨Tryz.f136.name,by decide,Tryz.func136.trans (congrArg some (by kernel_rfl))⟩
 t0:=Tryz.underlying0
 a0:=Tryz.isAgg0
 z0:=Tryz.sizeOf0
 v0:=Tryz.zeroValue0
 t4:=Tryz.underlying4
 a4:=Tryz.isAgg4
 z4:=Tryz.sizeOf4
 v4:=Tryz.zeroValue4
 t23:=Tryz.underlying166
 a23:=Tryz.isAgg166
 z23:=Tryz.sizeOf166
 v23:=Tryz.zeroValue166
 t26:=Tryz.underlying9
 a26:=Tryz.isAgg9
 z26:=Tryz.sizeOf9
 v26:=Tryz.zeroValue9
 t27:=Tryz.underlying163
 a27:=Tryz.isAgg163
 z27:=Tryz.sizeOf163
 v27:=Tryz.zeroValue163
 t28:=Tryz.underlying164
 a28:=Tryz.isAgg164
 z28:=Tryz.sizeOf164
 v28:=Tryz.zeroValue164
 t33:=Tryz.underlying79
 a33:=Tryz.isAgg79
 z33:=Tryz.sizeOf79
 v33:=Tryz.zeroValue79 }
def Tryz.sorted85_ren:Go.Shelf.Ren:=⟨fun | 6 => 85 | 8 => 134 | 9 => 135 | 11 => 170 | 13 => 172 | 12 => 171 | 23 => 203 | 24 => 204 | 14 => 194 | 15 => 195 | 16 => 196 | 17 => 197 | 18 => 198 | 19 => 199 | 20 => 200 | 21 => 201 | 22 => 202 | 25 => 234 | 26 => 235 | 27 => 236 | 28 => 237 | 29 => 238 | 30 => 239 | 31 => 258 | n => n,fun | 26 => 9 | 28 => 164 | 24 => 36 | 0 => 0 | 3 => 3 | 37 => 239 | 48 => 128 | 50 => 106 | 4 => 4 | 40 => 280 | 39 => 279 | 45 => 191 | 5 => 5 | 9 => 9 | 51 => 317 | 55 => 321 | 57 => 336 | 58 => 337 | 33 => 79 | n => n,fun | n => n⟩
theorem Tryz.sorted85:Go.Proofs.SlLaysZ.n6 Tryz.prog Tryz.sorted85_ren:={
 mixed:=by kernel_rfl
 f6:=⟨Tryz.f85.name,by decide,Tryz.func85.trans (congrArg some (by kernel_rfl))⟩
 f8:=⟨Tryz.f134.name,by decide,Tryz.func134.trans (congrArg some (by kernel_rfl))⟩
 f11:=⟨Tryz.f170.name,by decide,Tryz.func170.trans (congrArg some (by kernel_rfl))⟩
 t0:=Tryz.underlying0
 a0:=Tryz.isAgg0
 z0:=Tryz.sizeOf0
 v0:=Tryz.zeroValue0
 t24:=Tryz.underlying36
 a24:=Tryz.isAgg36
 z24:=Tryz.sizeOf36
 v24:=Tryz.zeroValue36
 t26:=Tryz.underlying9
 a26:=Tryz.isAgg9
 z26:=Tryz.sizeOf9
 v26:=Tryz.zeroValue9
 t28:=Tryz.underlying164
 a28:=Tryz.isAgg164
 z28:=Tryz.sizeOf164
 v28:=Tryz.zeroValue164
 i26:=by kernel_rfl }
def Tryz.sort135_ren:Go.Shelf.Ren:=⟨fun | 6 => 135 | 8 => 172 | 9 => 171 | 19 => 203 | 20 => 204 | 21 => 194 | 22 => 195 | 23 => 196 | 24 => 197 | 25 => 198 | 26 => 199 | 27 => 200 | 28 => 201 | 29 => 202 | 36 => 234 | 31 => 235 | 32 => 236 | 37 => 237 | 38 => 238 | 39 => 239 | 41 => 258 | n => n,fun | 27 => 36 | 29 => 9 | 3 => 3 | 32 => 239 | 26 => 36 | 0 => 0 | 44 => 128 | 46 => 106 | 4 => 4 | 36 => 280 | 35 => 279 | 41 => 191 | 5 => 5 | 9 => 9 | 53 => 317 | 57 => 321 | 63 => 336 | 64 => 337 | n => n,fun | n => n⟩
theorem Tryz.sort135:Go.Proofs.SlLaysM.n6 Tryz.prog Tryz.sort135_ren:={
 mixed:=by kernel_rfl
 f6:=⟨Tryz.f135.name,by decide,Tryz.func135.trans (congrArg some (by kernel_rfl))⟩
 f8:=Tryz.func172.trans (congrArg some (by kernel_rfl))
 f9:=⟨Tryz.f171.name,by decide,Tryz.func171.trans (congrArg some (by kernel_rfl))⟩
 f19:=Tryz.func203.trans (congrArg some (by kernel_rfl))
 f20:=Tryz.func204.trans (congrArg some (by kernel_rfl))
 f21:=⟨Tryz.f194.name,by decide,Tryz.func194.trans (congrArg some (by kernel_rfl))⟩
 f22:=⟨Tryz.f195.name,by decide,Tryz.func195.trans (congrArg some (by kernel_rfl))⟩
 f23:=⟨Tryz.f196.name,by decide,Tryz.func196.trans (congrArg some (by kernel_rfl))⟩
 f24:=⟨Tryz.f197.name,by decide,Tryz.func197.trans (congrArg some (by kernel_rfl))⟩
 f25:=⟨Tryz.f198.name,by decide,Tryz.func198.trans (congrArg some (by kernel_rfl))⟩
 f26:=⟨Tryz.f199.name,by decide,Tryz.func199.trans (congrArg some (by kernel_rfl))⟩
 f27:=⟨Tryz.f200.name,by decide,Tryz.func200.trans (congrArg some (by kernel_rfl))⟩
 f28:=⟨Tryz.f201.name,by decide,Tryz.func201.trans (congrArg some (by kernel_rfl))⟩
 f29:=⟨Tryz.f202.name,by decide,Tryz.func202.trans (congrArg some (by kernel_rfl))⟩
 f31:=Tryz.func235.trans (congrArg some (by kernel_rfl))
 f32:=Tryz.func236.trans (congrArg some (by kernel_rfl))
 f36:=⟨Tryz.f234.name,by decide,Tryz.func234.trans (congrArg some (by kernel_rfl))⟩
 f37:=⟨Tryz.f237.name,by decide,Tryz.func237.trans (congrArg some (by kernel_rfl))⟩
 f38:=⟨Tryz.f238.name,by decide,Tryz.func238.trans (congrArg some (by kernel_rfl))⟩
 f39:=⟨Tryz.f239.name,by decide,Tryz.func239.trans (congrArg some (by kernel_rfl))⟩
 f41:=⟨Tryz.f258.name,by decide,Tryz.func258.trans (congrArg some (by kernel_rfl))⟩
 t0:=Tryz.underlying0
 a0:=Tryz.isAgg0
 z0:=Tryz.sizeOf0
 v0:=Tryz.zeroValue0
 t3:=Tryz.underlying3
 a3:=Tryz.isAgg3
 z3:=Tryz.sizeOf3
 v3:=Tryz.zeroValue3
 t4:=Tryz.underlying4
 a4:=Tryz.isAgg4
 z4:=Tryz.sizeOf4
 v4:=Tryz.zeroValue4
 t5:=Tryz.underlying5
 a5:=Tryz.isAgg5
 z5:=Tryz.sizeOf5
 v5:=Tryz.zeroValue5
 t9:=Tryz.underlying9
 a9:=Tryz.isAgg9
 z9:=Tryz.sizeOf9
 v9:=Tryz.zeroValue9
 t26:=Tryz.underlying36
 a26:=Tryz.isAgg36
 z26:=Tryz.sizeOf36
 v26:=Tryz.zeroValue36
 t27:=Tryz.underlying36
 a27:=Tryz.isAgg36
 z27:=Tryz.sizeOf36
 v27:=Tryz.zeroValue36
 t29:=Tryz.underlying9
 a29:=Tryz.isAgg9
 z29:=Tryz.sizeOf9
 v29:=Tryz.zeroValue9
 t32:=Tryz.underlying239
 a32:=Tryz.isAgg239
 z32:=Tryz.sizeOf239
 v32:=Tryz.zeroValue239
 t35:=Tryz.underlying279
 a35:=Tryz.isAgg279
 z35:=Tryz.sizeOf279
 v35:=Tryz.zeroValue279
 t36:=Tryz.underlying280
 a36:=Tryz.isAgg280
 z36:=Tryz.sizeOf280
 v36:=Tryz.zeroValue280
 t41:=Tryz.underlying191
 a41:=Tryz.isAgg191
 z41:=Tryz.sizeOf191
 v41:=Tryz.zeroValue191
 t44:=Tryz.underlying128
 a44:=Tryz.isAgg128
 z44:=Tryz.sizeOf128
 v44:=Tryz.zeroValue128
 t46:=Tryz.underlying106
 a46:=Tryz.isAgg106
 z46:=Tryz.sizeOf106
 v46:=Tryz.zeroValue106
 t53:=Tryz.underlying317
 a53:=Tryz.isAgg317
 z53:=Tryz.sizeOf317
 v53:=Tryz.zeroValue317
 t57:=Tryz.underlying321
 a57:=Tryz.isAgg321
 z57:=Tryz.sizeOf321
 v57:=Tryz.zeroValue321
 t63:=Tryz.underlying336
 a63:=Tryz.isAgg336
 z63:=Tryz.sizeOf336
 v63:=Tryz.zeroValue336
 t64:=Tryz.underlying337
 a64:=Tryz.isAgg337
 z64:=Tryz.sizeOf337
 v64:=Tryz.zeroValue337 }
end Go.Proofs
namespace Go.Proofs
open Go.RowKit Go.Maps Go.Sort Go.Shelf
theorem Tryz.sorts85 (m:Nat):AnyZ.SortsIn Tryz.prog Tryz.sorted85_ren Fence.wide m :=
 ⟨fun blk off cap ss W hH hblk hsz => callsIn_wide.2 (AnyM.slices_Sort_string Tryz.sort135 blk off cap ss W hH hblk hsz),
 fun p cap W => callsIn_wide.2 (AnyM.slices_Sort_string_none Tryz.sort135 p cap W)⟩
theorem Tryz.maps_Keys_86 (mb:Option Nat) (W:World):CallsIn Fence.wide 5 Tryz.prog 86 #[.map mb] W fun e w' => e = .returned (.func (.func 136) #[] #[.pointer (some ⟨W.heap.size,0,none⟩)]) ∧ w' = W.alloc (.cells #[.map mb] 166) :=
 AnyZ.keys_in Tryz.keys86 Fence.wide 5 trivial rfl mb W
set_option maxHeartbeats 1000000 in
theorem Tryz.slices_Sorted_keys_85_86 {H:Type} (b nn:Nat) (D0:DataW H) (R:Value → Option (DataW H × List MemPlace)) (w:World) (hown:w.ownsMap Tryz.prog 9 R b nn D0) (hmax:Maps.size D0 ≤ maxLen) (hbytes:Maps.size D0 * 16 ≤ 140737488355328) :
  CallsIn Fence.wide 5 Tryz.prog 85 #[.func (.func 136) #[] #[.pointer (some ⟨w.heap.size,0,none⟩)]] (w.alloc (.cells #[.map (some b)] 166)) fun e w' => ∃ (v:Value) (ss:List (List UInt8)),e = .returned v ∧ ss.Perm (strKeys D0) ∧
   w'.ownsRow (w.alloc (.cells #[.map (some b)] 166)).heap.size 9 1 v ss.length ((ss.mergeSort (fun x y => decide (x ≤ y))).map encStr) ∧ (v = .slice none 0 0 ↔ ss = []) ∧ Below (w.alloc (.cells #[.map (some b)] 166)).heap.size (w.alloc (.cells #[.map (some b)] 166)) w':=by
 have hbl:=hown.lt
 have hseq:SeqGives Fence.wide 2 Tryz.prog 136 #[.pointer (some ⟨w.heap.size,0,none⟩)] encStr (fun ss => ss.Perm (strKeys D0)) (Maps.size D0) (w.alloc (.cells #[.map (some b)] 166)) :=
  AnyZ.keys_gives (ρ:=Tryz.keys86_ren) { Tryz.keys86 with } Fence.wide _ trivial rfl (by omega) w.heap.size b nn D0 _ (by simp) (by simp) (by
   obtain ⟨es,clock,hb,Ft,hs,hD⟩:=hown
   exact ⟨es,clock,(Below.heap_alloc _ _ b hbl).trans hb,Ft,hs,hD⟩)
 exact AnyZ.sorted_in Tryz.sorted85 Fence.wide 5 trivial trivial trivial trivial rfl (by omega) (Tryz.sorts85 _) (enters_of Tryz.func135 (by kernel_rfl) rfl) 136 #[.pointer (some ⟨w.heap.size,0,none⟩)] trivial (enters_of Tryz.func136 (by kernel_rfl) rfl) _ _ hmax hbytes _ hseq
end Go.Proofs
