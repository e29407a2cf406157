/- TopBatches: the contracts of S5, K6, N4, N5, N6, N7, N8, N9, R1, R2; no condition. -/
import Derived.Shelf.SlIterI.Nil
import Derived.Shelf.SortM.Plain
import Derived.Shelf.SortM.SortNone
import Derived.Ground.GgzProg
import Derived.Ground.SlgmProg
import Derived.Test.YtaonlcgneemimaaGreatDoorB22
import Derived.Test.YtaonlcgneemimaaGreatDoorB04
import Derived.BigQuiet
namespace Go.Proofs
open Go.Shelf
def Tryz.keysA_ren:Go.Shelf.Ren:=⟨fun | 7 => 118 | 10 => 157 | n => n,fun | 23 => 62 | 26 => 3 | 3 => 33 | 28 => 208 | 0 => 0 | 27 => 207 | 33 => 246 | 4 => 4 | n => n,fun | n => n⟩
theorem Tryz.keysA:Go.Proofs.SlLaysZI.n7 Tryz.prog Tryz.keysA_ren:={
 mixed:=by kernel_rfl
 f7:=⟨Tryz.f118.name,by decide,Tryz.func118.trans (congrArg some (by kernel_rfl))⟩
 f10:=⟨Tryz.f157.name,by decide,Tryz.func157.trans (congrArg some (by kernel_rfl))⟩
 t0:=Tryz.underlying0
 a0:=Tryz.isAgg0
 z0:=Tryz.sizeOf0
 v0:=Tryz.zeroValue0
 t4:=Tryz.underlying4
 a4:=Tryz.isAgg4
 z4:=Tryz.sizeOf4
 v4:=Tryz.zeroValue4
 t23:=Tryz.underlying62
 a23:=Tryz.isAgg62
 z23:=Tryz.sizeOf62
 v23:=Tryz.zeroValue62
 t26:=Tryz.underlying3
 a26:=Tryz.isAgg3
 z26:=Tryz.sizeOf3
 v26:=Tryz.zeroValue3
 t27:=Tryz.underlying207
 a27:=Tryz.isAgg207
 z27:=Tryz.sizeOf207
 v27:=Tryz.zeroValue207
 t28:=Tryz.underlying208
 a28:=Tryz.isAgg208
 z28:=Tryz.sizeOf208
 v28:=Tryz.zeroValue208
 t33:=Tryz.underlying246
 a33:=Tryz.isAgg246
 z33:=Tryz.sizeOf246
 v33:=Tryz.zeroValue246 }
def Tryz.sortedA_ren:Go.Shelf.Ren:=⟨fun | 6 => 117 | 8 => 155 | 9 => 156 | 11 => 185 | 13 => 172 | 12 => 186 | 23 => 203 | 24 => 204 | 14 => 224 | 15 => 225 | 16 => 226 | 17 => 227 | 18 => 228 | 19 => 229 | 20 => 230 | 21 => 231 | 22 => 232 | 25 => 254 | 26 => 235 | 27 => 236 | 28 => 255 | 29 => 256 | 30 => 257 | 31 => 267 | n => n,fun | 26 => 3 | 28 => 208 | 24 => 90 | 0 => 0 | 3 => 3 | 37 => 239 | 48 => 128 | 50 => 106 | 4 => 4 | 40 => 280 | 39 => 279 | 45 => 191 | 5 => 5 | 9 => 9 | 51 => 317 | 55 => 321 | 57 => 336 | 58 => 337 | 33 => 246 | n => n,fun | n => n⟩
theorem Tryz.sortedA:Go.Proofs.SlLaysZI.n6 Tryz.prog Tryz.sortedA_ren:={
 mixed:=by kernel_rfl
 f6:=⟨Tryz.f117.name,by decide,Tryz.func117.trans (congrArg some (by kernel_rfl))⟩
 f8:=⟨Tryz.f155.name,by decide,Tryz.func155.trans (congrArg some (by kernel_rfl))⟩
 f11:=⟨Tryz.f185.name,by decide,Tryz.func185.trans (congrArg some (by kernel_rfl))⟩
 t0:=Tryz.underlying0
 a0:=Tryz.isAgg0
 z0:=Tryz.sizeOf0
 v0:=Tryz.zeroValue0
 t24:=Tryz.underlying90
 a24:=Tryz.isAgg90
 z24:=Tryz.sizeOf90
 v24:=Tryz.zeroValue90
 t26:=Tryz.underlying3
 a26:=Tryz.isAgg3
 z26:=Tryz.sizeOf3
 v26:=Tryz.zeroValue3
 t28:=Tryz.underlying208
 a28:=Tryz.isAgg208
 z28:=Tryz.sizeOf208
 v28:=Tryz.zeroValue208
 i26:=by kernel_rfl }
end Go.Proofs
namespace Go.Proofs
open Go.RowKit Go.Maps Go.Sort Go.Shelf
theorem Tryz.sortsA (m:Nat):AnyZI.SortsIn Tryz.prog Tryz.sortedA_ren Fence.wide m :=
 ⟨fun blk off cap ss W hH hblk hsz => callsIn_wide.2 (AnyM.slices_Sort_int Tryz.laysSlM5_f156 blk off cap ss W hH hblk hsz),
 fun p cap W => callsIn_wide.2 (AnyM.slices_Sort_int_none Tryz.laysSlM5_f156 p cap W)⟩
set_option maxHeartbeats 1000000 in
theorem Tryz.ids_raw {H:Type} (c b nn:Nat) (D0:DataW H) (R:Value → Option (DataW H × List MemPlace)) (w:World) (hcell:w.cell? ⟨c,0,none⟩ = some (.map (some b))) (hown:w.ownsMap Tryz.prog 3 R b nn D0) (hmax:Maps.size D0 ≤ maxLen) (hbytes:Maps.size D0 * 8 ≤ 140737488355328) :
  Calls Tryz.prog 67 #[.pointer (some ⟨c,0,none⟩)] w fun e w' => ∃ (v:Value) (ss:List Int),e = .returned v ∧ ss.Perm (intKeys D0) ∧
   w'.ownsRow w.heap.size 3 1 v ss.length ((ss.mergeSort (fun x y => decide (x ≤ y))).map encZ) ∧ (v = .slice none 0 0 ↔ ss = []) ∧ Below w.heap.size w w':=by
 refine (callsIn_wide (n:=6)).1 ?_
 have hbl:=hown.lt
 have hseq:SeqGives Fence.wide 2 Tryz.prog 157 #[.pointer (some ⟨w.heap.size,0,none⟩)] encZ (fun ss => ss.Perm (intKeys D0)) (Maps.size D0) (w.alloc (.cells #[.map (some b)] 62)) :=
  AnyZI.keys_gives (ρ:=Tryz.keysA_ren) { Tryz.keysA with } Fence.wide _ trivial rfl (by omega) w.heap.size b nn D0 _ (by simp) (by simp) (by
   obtain ⟨es,clock,hb,Ft,hs,hD⟩:=hown
   exact ⟨es,clock,(Below.heap_alloc _ _ b hbl).trans hb,Ft,hs,hD⟩)
 have cK:∀ mb W,CallsIn Fence.wide 5 Tryz.prog 118 #[.map mb] W fun e w' => e = .returned (.func (.func 157) #[] #[.pointer (some ⟨W.heap.size,0,none⟩)]) ∧ w' = W.alloc (.cells #[.map mb] 62):=fun mb W => AnyZI.keys_in Tryz.keysA Fence.wide 5 trivial rfl mb W
 have cS:=AnyZI.sorted_in Tryz.sortedA Fence.wide 5 trivial trivial trivial trivial rfl (by omega) (Tryz.sortsA _) (enters_of Tryz.func156 (by kernel_rfl) rfl) 157 #[.pointer (some ⟨w.heap.size,0,none⟩)] trivial (enters_of Tryz.func157 (by kernel_rfl) rfl) _ _ hmax hbytes _ hseq
 change CallsIn _ _ Tryz.prog 117 _ _ _ at cS
 have hfK:Fence.wide.fn 118:=trivial
 have hfS:Fence.wide.fn 117:=trivial
 refine callsIn_of_wp Tryz.func67 rfl trivial ?_ rfl
 simp only [Tryz.ntmps67,List.size_toArray,List.length_cons,List.length_nil,Nat.reduceAdd,Nat.reduceSub,Array.replicate_succ,Array.replicate_zero,List.push_toArray,List.append_toArray,List.nil_append,List.cons_append]
 gi_wp2_with (first
  | (gi_at_call 118;refine (cK _ _).mono ?_;rintro e w' ⟨rfl,rfl⟩)
  | (gi_at_call 117;refine cS.mono ?_;rintro e w' ⟨v,ss,rfl,hS,hrow,hnil,hb⟩))
 go_ret
 exact ⟨v,ss,rfl,hS,ownsRow_base_a hrow (by simp),hnil,((Below.refl _ w).alloc (Nat.le_refl _) _).trans (hb.mono (by simp))⟩
end Go.Proofs
namespace Go.Proofs.YtaonlcgneemimaaGreatDoor
open Go.RowKit
open Go.Maps (Keyed)
theorem has_of_intKey {H:Type} {D:DataW H} {x:Int} {P:Program} {R:Value → Option (DataW H × List MemPlace)} {w:World} {b n:Nat} (hown:w.ownsMap P 3 R b n D) (hk:P.underlying 3 = some (.int .i64)) (hx:x ∈ intKeys D):Maps.has D (.int .i64 x) = true:=by
 obtain ⟨es,rfl,hko⟩:=hown.keysOf
 obtain ⟨p,hp,rfl⟩:=List.mem_map.1 hx
 obtain ⟨v,hv⟩:=hko p hp
 obtain ⟨y,_,hy,hl⟩:=Maps.keyOf_i64 hk hv
 refine List.any_eq_true.2 ⟨p,hp,?_⟩
 rw [hy]
 simp [Lit.sameKey,Go.intOf]
structure IdsOf (P:List (List Int)) (ids:List Int):Prop where
 len:ids.length = P.length
 mem:∀ id ∈ ids,1 ≤ id ∧ id ≤ P.length
theorem ids_any (w:World) (B c:Nat) (P:List (List Int)) (bl bb:Nat) (vs:List Value) (fb:Int → Option Value) (m:Nat) (sz:Int) (H:ChunksAt w B c P bl bb vs fb m sz) :
  Calls Tryz.prog 67 #[.pointer (some ⟨c,0,none⟩)] w fun e w' => ∃ v ids,e = .returned v ∧ IdsOf P ids ∧ Sl w' 3 1 v ids.length (ints ids) ∧ Below w.heap.size w w':=by
 have hsm:=H.small.1
 have hml:maxLen = 9223372036854775807:=by decide
 obtain ⟨D,hown,hsz,hf⟩:=H.ml
 refine (Tryz.ids_raw c bl _ D _ w (cellAt H.cell 0) hown (by omega) (by omega)).mono ?_
 rintro e w' ⟨v,ss,rfl,hp,hrow,hnil,hb⟩
 have hlen:ss.length = P.length:=by
  rw [hp.length_eq,← hsz]
  obtain ⟨es,rfl,-⟩:=hown.keysOf
  simp [intKeys,Maps.size]
 refine ⟨v,ss.mergeSort (fun x y => decide (x ≤ y)),rfl,⟨by simpa using hlen,fun id hid => ?_⟩,?_,hb⟩
 ·have h1:id ∈ intKeys D:=hp.mem_iff.1 (by simpa using hid)
  have h2:=has_of_intKey hown Tryz.underlying3 h1
  have hg:KI.good id:=by
   have:=intKeys_wf hown Tryz.underlying3 id h1
   exact this
  have h3:=MapX.has_iff (K:=KI) (hf id hg)
  rw [show KI.lit id = .int .i64 id from rfl,h2] at h3
  have h4:(ixV vs id).isSome = true:=h3.symm
  have hvl:=H.pieces.1
  unfold ixV at h4
  split at h4
  ·rename_i h5
   have:(id - 1).toNat < vs.length:=by
    cases h6:vs[(id - 1).toNat]? with
    | none => rw [h6] at h4;simp at h4
    | some u => exact (List.getElem?_eq_some_iff.1 h6).1
   omega
  ·simp at h4
 ·have hl2:(ss.mergeSort (fun x y => decide (x ≤ y))).length = ss.length:=by simp
  rw [hl2]
  refine Sl.of_own hrow (ints_one _) ?_
  rcases Nat.eq_zero_or_pos ss.length with h0 | h0
  ·exact .inl (hnil.2 (List.eq_nil_of_length_eq_zero h0))
  ·exact .inr h0
end Go.Proofs.YtaonlcgneemimaaGreatDoor
namespace Go
section
variable {P:Program}
theorem zeroCells_one (z:Value) (n:Nat):Builtin.zeroCells #[z] n = (List.replicate n z).toArray:=by
 apply Array.ext'
 simp only [Builtin.zeroCells]
 apply List.ext_getElem?
 intro i
 simp only [Array.toList_map,List.getElem?_map,List.size_toArray,List.length_cons,List.length_nil]
 by_cases h:i < n
 ·simp [h,Nat.mod_one]
 ·simp [h]
theorem run_append_own_zeros (w:World) (base:Nat) (t tx ty e:TypeId) (i:TypeInfo) (z:Value) (ht:P.underlying t = some (.slice e)) (hi:P.info? e = some i) (hz:i.zero = some z)
  (hsize:i.size = 1) (hby:i.bytes = 1) (hzs:z.cells = #[z]) (hz1:z.oneCell' = true)
  (v:Value) (n:Nat) (xs:List Value) (hown:w.ownsRow base e 1 v n xs) (hk:P.underlying tx = some (.int .i64)) (k:Nat) (h63:n + k ≤ 1000000) (hbase:base ≤ w.heap.size) :
  ∃ v' w',(Builtin.append_ #[t,tx] ty #[v,.int .i64 k]).run P w = .ok v' w' ∧ w'.ownsRow base e 1 v' (n + k) (xs ++ List.replicate k z) ∧ w.grownBy w' v.ownBlock:=by
 have hlen:(xs ++ List.replicate k z).length = (n + k) * 1:=by rw [List.length_append,hown.1,List.length_replicate];omega
 have hwr:IntKind.i64.wrap (k:Int) = k:=IntWalk.i64_in _ (by omega)
 have hn0:¬ ((k:Int) < 0):=by omega
 have h48:¬ (281474976710656 < (k:Int)):=by omega
 have grown:∀ (old:Nat),old < n + k → ∀ (row:Option Nat),
   (w.drew.alloc (.cells ((xs ++ List.replicate k z).toArray ++ Builtin.zeroCells z.cells (grownCap w (n + k) old e - (n + k))) e)).ownsRow base e 1
    (.slice (some ⟨w.heap.size,0,none⟩) (n + k) (grownCap w (n + k) old e)) (n + k) (xs ++ List.replicate k z) ∧
   w.grownBy (w.drew.alloc (.cells ((xs ++ List.replicate k z).toArray ++ Builtin.zeroCells z.cells (grownCap w (n + k) old e - (n + k))) e)) row:=by
  intro old ho row
  have hge:=grownCap_ge w (n + k) old e
  have hcm:grownCap w (n + k) old e ≤ maxLen:=grownCap_le_maxLen w (n + k) old e (by unfold maxLen;omega)
  refine ⟨⟨hlen,.inr ⟨w.heap.size,_,_,rfl,hbase,heap_alloc_new w.drew _,hge,hcm,?_,?_⟩⟩,⟨rfl,rfl,rfl,by simp,fun k hk _ => (by first | exact heap_alloc_old w.drew _ hk | exact heap_alloc_old w.drew _ _ hk)⟩⟩
  ·simp only [Array.size_append,List.size_toArray,size_zeroCells,hlen]
   rw [hzs]
   simp
   omega
  ·simp only [Array.toList_append]
   rw [← hlen]
   exact List.take_left
 have growEq:∀ (bs:Option Addr) (sCap:Nat),(Builtin.firstCells 1 n (.slice bs n sCap)).run P w.drew = .ok xs.toArray w.drew → n ≤ sCap → sCap < n + k →
   (Builtin.append_ #[t,tx] ty #[.slice bs n sCap,.int .i64 k]).run P w = .ok (.slice (some ⟨w.heap.size,0,none⟩) (n + k) (grownCap w (n + k) sCap e)) (w.drew.alloc (.cells ((xs ++ List.replicate k z).toArray ++ Builtin.zeroCells z.cells (grownCap w (n + k) sCap e - (n + k))) e)):=by
  intro bs sCap hold hnc hg
  have hn:¬ (n + k ≤ sCap):=by omega
  have h63':¬ (9223372036854775807 < ((n:Int) + (k:Int))):=by omega
  have hfit:=growslice_fits (need:=n + k) (old:=sCap) (bytes:=i.bytes) (by omega) (by rw [hby];omega)
  rw [hby] at hfit
  have h48':¬ (281474976710656 < Builtin.nextslicecap (n + k) sCap):=by omega
  have hk0:¬ k = 0:=by omega
  simp [Builtin.append_,run_underlying ht,run_underlying hk,sizeOf,typeInfo,zeroValue,hi,hz,asInt,asIntOf,hwr,hn0,h48,hn,h63',h48',hk0,Question.forced,hold,newRow,grownCap,hsize,hby]
  rw [hzs,zeroCells_one]
  congr 2
  apply Array.ext'
  simp [List.append_assoc]
 rcases hown.2 with ⟨rfl,rfl⟩ | ⟨g,cap,cur,rfl,hbg,hg,hnc,hcm,hcs,htake⟩
 ·have hx:xs = []:=List.eq_nil_of_length_eq_zero (by simpa using hown.1)
  subst hx
  by_cases hm:k = 0
  ·subst hm
   refine ⟨.slice none 0 0,w,?_,?_,World.grownBy.refl _ _⟩
   ·simp [Builtin.append_,run_underlying ht,run_underlying hk,sizeOf,typeInfo,hi,asInt,asIntOf,show IntKind.i64.wrap 0 = 0 from rfl]
   ·exact World.ownsRow_nil w base e 1
  ·have hr:=growEq none 0 (by simp [Builtin.firstCells]) (Nat.le_refl _) (by omega)
   have hgr:=grown 0 (by omega) (Value.ownBlock (.slice none 0 0))
   exact ⟨_,_,hr,hgr.1,hgr.2⟩
 ·by_cases hroom:n + k ≤ cap
  ·have hone:∀ u ∈ List.replicate k z,u.oneCell' = true:=fun u hu => by rw [(List.mem_replicate.1 hu).2];exact hz1
   have hfit:n * 1 + (List.replicate k z).length ≤ cur.size:=by rw [List.length_replicate,hcs];omega
   have hst:=run_storeCells_at P g (n * 1) e (List.replicate k z) 0 cur w hg (by simpa using hfit) hone
   simp only [Nat.add_zero] at hst
   have hr:(Builtin.append_ #[t,tx] ty #[.slice (some ⟨g,0,none⟩) n cap,.int .i64 k]).run P w = .ok (.slice (some ⟨g,0,none⟩) (n + k) cap) (w.setRow g (cur.toList.take (n * 1) ++ List.replicate k z ++ cur.toList.drop (n * 1 + (List.replicate k z).length)).toArray):=by
    simp at hst
    simp [Builtin.append_,run_underlying ht,run_underlying hk,sizeOf,typeInfo,zeroValue,hi,hz,hzs,zeroCells_one,hsize,hby,asInt,asIntOf,hwr,hn0,h48,hroom,Addr.add_lit,hst]
    intro h0
    subst h0
    simp only [List.replicate_zero,List.nil_append,Nat.add_zero] at hst ⊢
    rw [hst]
    rfl
   refine ⟨_,_,hr,⟨hlen,.inr ⟨g,cap,_,rfl,hbg,setRow_heap w g cur _ e _ hg,hroom,hcm,?_,?_⟩⟩,⟨rfl,rfl,rfl,by simp,fun k _ hk => setRow_other w g k _ (fun e => hk (by simp [Value.ownBlock,e]))⟩⟩
   ·simp only [List.size_toArray,List.length_append,List.length_take,List.length_drop,Array.length_toList,List.length_replicate]
    omega
   ·rw [htake,← hlen]
    exact List.take_left
  ·have hr:=growEq (some ⟨g,0,none⟩) cap (run_firstCells_some w.drew 1 n ⟨g,0,none⟩ n cap xs hown.1 (by simpa using hown.cells (g:=g) rfl)) hnc (by omega)
   have hgr:=grown cap (by omega) (Value.ownBlock (.slice (some ⟨g,0,none⟩) n cap))
   exact ⟨_,_,hr,hgr.1,hgr.2⟩
theorem wp_append_zeros {w:World} {ops:Array Oper} {rest:List Oper} {o:Oper} {a:Act} {Q:Exit → Act → World → Prop} (hgd:o.guard = none) (s x:Operand) (t tx:TypeId)
  (ho:o.op = .call { callee:=.builtin .append,args:=#[s,x],argTypes:=#[t,tx] })
  (base:Nat) (e:TypeId) (i:TypeInfo) (z:Value) (ht:P.underlying t = some (.slice e)) (hi:P.info? e = some i) (hz:i.zero = some z)
  (hsize:i.size = 1) (hby:i.bytes = 1) (hzs:z.cells = #[z]) (hz1:z.oneCell' = true)
  (v:Value) (n:Nat) (xs:List Value) (hs:a.eval s = v) (hown:w.ownsRow base e 1 v n xs) (hk:P.underlying tx = some (.int .i64)) (k:Nat) (hx:a.eval x = .int .i64 k) (h63:n + k ≤ 1000000) (hbase:base ≤ w.heap.size)
  (h:∀ v' w',w'.ownsRow base e 1 v' (n + k) (xs ++ List.replicate k z) → w.grownBy w' v.ownBlock → wpList P ops Q rest (a.put o.dst v') w'):wpList P ops Q (o :: rest) a w:=by
 refine wpList_plain hgd fun K hK => ?_
 obtain ⟨v',w',hr,h1,h2⟩:=run_append_own_zeros (P:=P) w base t tx o.type e i z ht hi hz hsize hby hzs hz1 v n xs hown hk k h63 hbase
 unfold Oper.wp execOp
 simp only [ho,resolve,invoke,builtin,Sem.run_bind,Sem.run_pure,Result.andThen_ok,List.map_toArray,List.map_cons,List.map_nil,hs,hx,hr]
 exact hK _ _ (h v' w' h1 h2)
end
end Go
namespace Go.Proofs.YtaonlcgneemimaaGreatDoor
open Go.RowKit
theorem own_empty {w:World} {B n g cap:Nat} {xs:List Value} (h:w.ownsRow B 5 1 (.slice (some ⟨g,0,none⟩) n cap) n xs):w.ownsRow B 5 1 (.slice (some ⟨g,0,none⟩) 0 cap) 0 []:=by
 rcases h.2 with ⟨h1,_⟩ | ⟨g',cap',cur,h1,h2,h3,h4,h5,h6,h7⟩
 ·simp at h1
 ·simp only [Value.slice.injEq,Option.some.injEq,Addr.mk.injEq] at h1
  obtain ⟨⟨rfl,-⟩,-,rfl⟩:=h1
  exact ⟨rfl,.inr ⟨g,cap,cur,rfl,h2,h3,Nat.zero_le _,h5,h6,by simp⟩⟩
set_option maxRecDepth 100000 in
set_option maxHeartbeats 1000000 in
theorem grow_any (w:World) (n:Nat) (hn:n ≤ 100000) :
  Calls Tryz.prog 233 #[.slice none 0 0,.int .i64 n] w fun e w' => ∃ v,e = .returned v ∧ w'.ownsRow w.heap.size 5 1 v 0 [] ∧ Below w.heap.size w w':=by
 obtain ⟨i0,hi,hz0,hz1,hz2⟩:=info_parts info5
 by_cases h0:n = 0
 ·subst h0
  go_enter Tryz.func233,Tryz.ntmps233
  go_wp2
  go_ret
  exact ⟨_,rfl,World.ownsRow_nil _ _ _ _,Below.refl _ _⟩
 ·have hp:0 < n:=by omega
  go_enter Tryz.func233,Tryz.ntmps233
  go_wp2_with (at_builtin;refine wp_append_zeros rfl _ _ 33 3 rfl w.heap.size 5 i0 _ Tryz.underlying33 hi hz0 hz1 hz2 rfl rfl (.slice none 0 0) 0 [] rfl (World.ownsRow_nil _ _ _ _) Tryz.underlying3 n rfl (by omega) (Nat.le_refl _) ?_;intro v3 w3 hown hgr;have HW3:=Lib.hid hown;have HG3:=Lib.hid hgr;obtain ⟨g,cap,cur,rfl,-,-,hnc,-,-,-⟩:=own_pos hown (by omega);clear hown hgr)
  go_ret
  exact ⟨_,rfl,own_empty HW3.out,(Below.refl _ _).grown HG3.out (Nat.le_refl _) (by simp [Value.ownBlock])⟩
theorem take_snoc {α:Type} {ls:List α} {k:Nat} {l:α} (h:ls[k]? = some l):ls.take (k + 1) = ls.take k ++ [l]:=by
 rw [List.take_add_one,h]
 rfl
def RowsB (w:World) (lv:Value) (ls:List (List Int)):Prop:=∃ vs,Sl w 33 1 lv ls.length vs ∧ ∀ (i:Nat) v l,vs[i]? = some v → ls[i]? = some l → Sl w 5 1 v l.length (u8s l)
def sumB (ls:List (List Int)):Nat:=(ls.map List.length).sum
theorem sumB_take (ls:List (List Int)) (k:Nat) (l:List Int) (h:ls[k]? = some l):sumB (ls.take (k + 1)) = sumB (ls.take k) + l.length:=by
 unfold sumB
 rw [take_snoc h,List.map_append,List.sum_append]
 rfl
theorem sumB_le (ls:List (List Int)) (k:Nat):sumB (ls.take k) ≤ sumB ls:=by
 unfold sumB
 conv => rhs;rw [← List.take_append_drop k ls,List.map_append,List.sum_append]
 omega
theorem flat_take (ls:List (List Int)) (k:Nat) (l:List Int) (h:ls[k]? = some l):(ls.take (k + 1)).flatten = (ls.take k).flatten ++ l:=by
 rw [take_snoc h,List.flatten_append]
 simp
theorem RowsB.below {w w':World} {lv:Value} {ls:List (List Int)} (h:RowsB w lv ls) (hb:Below w.heap.size w w'):RowsB w' lv ls:=by
 obtain ⟨vs,h1,h2⟩:=h
 exact ⟨vs,h1.below hb,fun i v l hv hl => (h2 i v l hv hl).below hb⟩
theorem RowsB.at {w:World} {lv:Value} {ls:List (List Int)} (h:RowsB w lv ls):∃ a cap,lv = .slice a ls.length cap ∧ ls.length ≤ cap ∧ ∀ (j:Nat) l,ls[j]? = some l → ∃ g off b c,a = some ⟨g,off,none⟩ ∧ g < w.heap.size ∧ w.cell? ⟨g,off + j,none⟩ = some (.slice b l.length c) ∧ Sl w 5 1 (.slice b l.length c) l.length (u8s l):=by
 obtain ⟨vs,h1,h2⟩:=h
 obtain ⟨a,cap,rfl,hc,-,hj⟩:=h1.shape
 refine ⟨a,cap,rfl,hc,fun j l hl => ?_⟩
 obtain ⟨g,off,rfl,hg,hk⟩:=hj j (List.getElem?_eq_some_iff.1 hl).1
 have hvl:vs.length = ls.length:=by have:=h1.1;omega
 obtain ⟨v,hv⟩:∃ v,vs[j]? = some v:=⟨_,List.getElem?_eq_getElem (by have:=(List.getElem?_eq_some_iff.1 hl).1;omega)⟩
 have h3:=h2 j v l hv hl
 obtain ⟨b,c,rfl,-⟩:=h3.shape
 exact ⟨g,off,b,c,rfl,hg,by have:=hk 0 _ (by decide) (by simpa using hv);simpa using this,h3⟩
set_option maxRecDepth 100000 in
set_option maxHeartbeats 1000000 in
theorem concat_any (w:World) (lv:Value) (ls:List (List Int)) (h:RowsB w lv ls) (hs:sumB ls ≤ 100000) :
  Calls Tryz.prog 187 #[lv] w fun e w' => ∃ v,e = .returned v ∧ w'.ownsRow w.heap.size 5 1 v (sumB ls) (u8s ls.flatten) ∧ Below w.heap.size w w':=by
 obtain ⟨i0,hi,hz0,hz1,hz2⟩:=info_parts info5
 have HH:=Lib.hid h
 obtain ⟨a,cap,rfl,hcap,hat⟩:=h.at
 have HA:=Lib.hid hat
 have hll:ls.length ≤ maxLen:=by
  obtain ⟨vs,h1,-⟩:=h
  rcases h1.2.2 with ⟨_,h0⟩ | ⟨_,_,_,_,_,_,h3,h4,_⟩ <;> omega
 have hml:maxLen = 9223372036854775807:=by decide
 obtain ⟨N,hN⟩:∃ N,Hid (N = ls.length):=⟨ls.length,Lib.hid rfl⟩
 rw [← hN.out] at hcap hll ⊢
 clear h hat
 go_enter Tryz.func187,Tryz.ntmps187
 go_wp2
 go_loopw [3,5,11] (fun t3 _ ti wr => ∃ k:Nat,k ≤ N ∧ ti = .int .i64 k ∧ t3 = .int .i64 (sumB (ls.take k)) ∧ wr = w) (fun _ _ i _ => N - (intOf i).toNat)
 case atStart => exact ⟨0,by omega,rfl,rfl,rfl⟩
 case round =>
  obtain ⟨k,hk,rfl,rfl,hwr⟩:=hrel
  have hwr:=hwr.symm
  subst hwr
  have hle:=sumB_le ls k
  by_cases hlt:k < N
  ·obtain ⟨l,hl⟩:∃ l,ls[k]? = some l:=⟨_,List.getElem?_eq_getElem (by have:=hN.out;omega)⟩
   obtain ⟨g,off,b,c,rfl,hg,hc,-⟩:=HA.out k l hl
   have hst:=sumB_take ls k l hl
   have hle2:=sumB_le ls (k + 1)
   have HST:=Lib.hid hst
   have q1:¬ ((sumB (ls.take k):Int) + l.length < 0):=by omega
   have q2:wrap64 ((sumB (ls.take k):Int) + l.length) = (sumB (ls.take k):Int) + l.length:=IntWalk.wrap64_in _ (by omega)
   clear hst
   go_wp2
   go_roundw
   case rel => exact ⟨k + 1,by omega,by go_num,by rw [q2,HST.out];push_cast;rfl,trivial⟩
   case measure => simp [intOf];omega
  ·have hkN:N = k:=by omega
   subst hkN
   have hall:Hid (ls.take N = ls):=Lib.hid (List.take_of_length_le (by have:=hN.out;omega))
   rw [hall.out] at hle ⊢
   go_wp2_with (go_at_call 233;refine (grow_any _ _ (by omega)).mono ?_;rintro e w1 ⟨v,rfl,ho,hq⟩;have HO:=Lib.hid ho;have HQ:=Lib.hid hq;clear ho hq)
   go_loopw [6,8,27] (fun t6 _ ti wr => ∃ k:Nat,k ≤ N ∧ ti = .int .i64 k ∧ Hid (wr.ownsRow w.heap.size 5 1 t6 (sumB (ls.take k)) (u8s (ls.take k).flatten)) ∧ Hid (Below w.heap.size w wr)) (fun _ _ i _ => N - (intOf i).toNat)
   case atStart => exact ⟨0,by omega,rfl,HO.out,HQ.out⟩
   case round =>
    obtain ⟨k,hk,rfl,hown,hbel⟩:=hrel
    have hle:=sumB_le ls k
    have hbs:=hbel.out.size
    by_cases hlt:k < N
    ·obtain ⟨l,hl⟩:∃ l,ls[k]? = some l:=⟨_,List.getElem?_eq_getElem (by have:=hN.out;omega)⟩
     obtain ⟨g,off,b,c,rfl,hg,hc,hsl⟩:=HA.out k l hl
     have HSL:=Lib.hid (hsl.below hbel.out)
     have hst:=Lib.hid (sumB_take ls k l hl)
     have hfl:=Lib.hid (flat_take ls k l hl)
     have hle2:=sumB_le ls (k + 1)
     rw [hst.out] at hle2
     have q1:wr.cell? ⟨g,off + k,none⟩ = some (.slice b l.length c):=(hbel.out.cell (p:=⟨g,off + k,none⟩) hg).trans hc
     have hgw:g < wr.heap.size:=by omega
     clear hsl hc
     go_wp2_with (at_builtin;refine wp_append_sl rfl _ _ 33 rfl w.heap.size 5 i0 _ 1 1 Tryz.underlying33 hi hz0 hz1 hz2 rfl (by decide) _ (sumB (ls.take k)) _ rfl hown.out _ l.length _ rfl HSL.out (by omega) (by decide) hbs ?_;intro v3 w3 hown3 hgr _ _;have HW3:=Lib.hid hown3;have HG3:=Lib.hid hgr;clear hown3 hgr)
     go_roundw
     case rel =>
      refine ⟨k + 1,by omega,by go_num,Lib.hid ?_,Lib.hid (hbel.out.grown HG3.out hbs (fun j hj => (hown.out.lt j hj).1))⟩
      rw [hst.out,hfl.out,u8s_append]
      exact HW3.out
     case measure => simp [intOf];omega
    ·have hkN:N = k:=by omega
     subst hkN
     rw [hall.out] at hown
     go_wp2
     go_ret
     exact ⟨_,rfl,hown.out,hbel.out⟩
end Go.Proofs.YtaonlcgneemimaaGreatDoor
namespace Go.Proofs.YtaonlcgneemimaaGreatDoor
open Go.RowKit
theorem frameSize_any (n:Nat) (h0:1 ≤ n) (h1:n ≤ 16384) (w:World) :
  Calls Tryz.prog 120 #[.int .i64 n] w fun e w' => e = .returned (.int .i64 ((n:Int) + 16)) ∧ w' = w:=by
 have e1:¬ ((n:Int) < 1):=by omega
 have e2:¬ ((16384:Int) < n):=by omega
 go_enter Tryz.func120,Tryz.ntmps120
 go_wp2
 go_ret
 exact ⟨sp_ret_int (by omega),rfl⟩
def manyN (n:Nat):Nat:=(n + 16 + 53) / 54
theorem many_any (n:Nat) (h0:1 ≤ n) (h1:n ≤ 16384) (w:World) :
  Calls Tryz.prog 121 #[.int .i64 n] w fun e w' => e = .returned (.int .i64 (manyN n)) ∧ w' = w:=by
 go_enter Tryz.func121,Tryz.ntmps121
 go_wp2_with (go_at_call 120;refine (frameSize_any n h0 h1 _).mono ?_;rintro e w1 ⟨rfl,hw⟩;have hw:=hw.symm;subst hw)
 go_ret
 exact ⟨sp_ret_int (by unfold manyN;omega),rfl⟩
theorem crc_new (w:World) (c:Int):Sl (w.alloc (.cells #[.int .u8 (c % 256),.int .u8 (c / 256 % 256),.int .u8 (c / 65536 % 256),.int .u8 (c / 16777216 % 256)] 5)) 5 1 (.slice (some ⟨w.heap.size,0,none⟩) 4 4) 4 (u8s (crcB c)):=by
 have h:=Sl.block' (n:=4) (sz:=1) (heap_new w (.cells #[.int .u8 (c % 256),.int .u8 (c / 256 % 256),.int .u8 (c / 65536 % 256),.int .u8 (c / 16777216 % 256)] 5)) rfl (by simp [Value.oneCell']) (by decide) (by decide)
 exact h
theorem crc_below (w:World) (o:Obj):Below w.heap.size w (w.alloc o):=(Below.refl _ _).alloc (Nat.le_refl _) _
def headB (boot n:Nat):List Int:=crcB n ++ crcB boot
def frameB (last:Int) (boot:Nat) (l:List Int):List Int:=headB boot l.length ++ crcB (crcNext last (headB boot l.length)) ++ l ++ crcB (crcNext last l)
theorem crcB_length (c:Int):(crcB c).length = 4:=rfl
set_option maxRecDepth 100000 in
set_option maxHeartbeats 1000000 in
theorem frameMake_any (w:World) (last:Int) (boot:Nat) (hb:boot ≤ 2147483647) (v:Value) (l:List Int) (hv:Sl w 5 1 v l.length (u8s l)) (h0:1 ≤ l.length) (h1:l.length ≤ 16384) :
  Calls Tryz.prog 159 #[.int .u32 last,.int .i64 boot,v] w fun e w' => ∃ v',e = .returned (.tuple #[v',.int .u32 (crcNext last l),.int .i64 0]) ∧ w'.ownsRow w.heap.size 5 1 v' (l.length + 16) (u8s (frameB last boot l)) ∧ Below w.heap.size w w':=by
 have HV:=Lib.hid hv
 obtain ⟨a,cap,rfl,hcap,-,-⟩:=hv.shape
 obtain ⟨i0,hi,hz0,hz1,hz2⟩:=info_parts info5
 obtain ⟨n,hn⟩:∃ n,Hid (n = l.length):=⟨l.length,Lib.hid rfl⟩
 rw [← hn.out] at HV hcap h0 h1 ⊢
 have e1:¬ ((n:Int) + 16 = 0):=by omega
 have e1':((n:Int) + 16 == 0) = false:=by simpa using e1
 have e2:¬ ((boot:Int) < 0):=by omega
 have e3:¬ ((2147483647:Int) < boot):=by omega
 have e4:IntKind.u32.wrap (n:Int) = n:=IntWalk.u32_in _ (by omega)
 have e5:IntKind.u32.wrap (boot:Int) = boot:=IntWalk.u32_in _ (by omega)
 clear hv
 go_enter Tryz.func159,Tryz.ntmps159
 have crcK:Hid (∀ (W:World) (c:Int),Calls Tryz.prog 188 #[.int .u32 c] W fun e w' => e = .returned (.slice (some ⟨W.heap.size,0,none⟩) 4 4) ∧ Sl w' 5 1 (.slice (some ⟨W.heap.size,0,none⟩) 4 4) 4 (u8s (crcB c)) ∧ Below W.heap.size W w'):=Lib.hid (fun W c => (crcBytes_any c W).mono (by rintro e w' ⟨rfl,rfl⟩;exact ⟨rfl,crc_new W c,crc_below W _⟩))
 obtain ⟨nx,hnx⟩:∃ nx,Hid (nx = crcNext last l):=⟨_,Lib.hid rfl⟩
 obtain ⟨hc,hhc⟩:∃ hc,Hid (hc = crcNext last (headB boot l.length)):=⟨_,Lib.hid rfl⟩
 have NX:Hid (∀ W,Below w.heap.size w W → Calls Tryz.prog 180 #[.int .u32 last,.slice a n cap] W fun e w' => e = .returned (.int .u32 nx) ∧ Below W.heap.size W w'):=Lib.hid (fun W hW => by
  rw [hnx.out]
  have h2:=HV.out.below hW
  rw [hn.out] at h2 ⊢
  exact next_any last _ l W h2 (by have:=hn.out;omega))
 have NH:Hid (∀ W v,Sl W 5 1 v 8 (u8s (headB boot n)) → Calls Tryz.prog 180 #[.int .u32 last,v] W fun e w' => e = .returned (.int .u32 hc) ∧ Below W.heap.size W w'):=Lib.hid (fun W v hv => by
  rw [hhc.out,← hn.out]
  exact next_any last _ (headB boot n) W hv (by simp [headB,crcB_length]))
 rw [← hnx.out]
 have CC:Hid (∀ W c1 c2 b1 b2 k,Sl W 5 1 (.slice (some ⟨b1,0,none⟩) 4 4) 4 (u8s (crcB c1)) → Sl W 5 1 (.slice (some ⟨b2,0,none⟩) 4 4) 4 (u8s (crcB c2)) → W.heap[k]? = some (.cells #[.slice (some ⟨b1,0,none⟩) 4 4,.slice (some ⟨b2,0,none⟩) 4 4] 33 (0,0)) → Calls Tryz.prog 187 #[.slice (some ⟨k,0,none⟩) 2 2] W fun e w' => ∃ v,e = .returned v ∧ w'.ownsRow W.heap.size 5 1 v 8 (u8s (crcB c1 ++ crcB c2)) ∧ Below W.heap.size W w'):=Lib.hid (fun W c1 c2 b1 b2 k s1 s2 hk => by
  have h:=concat_any W (.slice (some ⟨k,0,none⟩) 2 2) [crcB c1,crcB c2] ⟨_,Sl.block' hk rfl (by simp [Value.oneCell']) (by decide) (by decide),fun i v l hv hl => by
   match i,hv,hl with
   | 0,hv,hl => simp at hv hl;subst hv hl;exact s1
   | 1,hv,hl => simp at hv hl;subst hv hl;exact s2
   | i + 2,hv,hl => simp at hl⟩ (by simp [sumB,crcB_length])
  simpa [sumB,crcB_length] using h)
 go_wp2_with (first | (go_at_call 120;refine (frameSize_any n h0 h1 _).mono ?_;rintro e w1 ⟨rfl,hw⟩;have hw:=hw.symm;subst hw) | (go_at_call 188;with_reducible refine (crcK.out w (n:Int)).mono ?_;rintro e w1 ⟨rfl,hs,hb⟩;have S1:=Lib.hid hs;have B1:=Lib.hid hb;clear hs hb) | (go_at_call 188;with_reducible refine (crcK.out w1 (boot:Int)).mono ?_;rintro e w2 ⟨rfl,hs,hb⟩;have S1b:=Lib.hid (S1.out.below hb);have S2:=Lib.hid hs;have B2:=Lib.hid (B1.out.trans (hb.mono B1.out.size));clear hs hb) | (go_at_call 187;refine (CC.out _ _ _ _ _ _ (S1b.out.below (crc_below _ _)) (S2.out.below (crc_below _ _)) (heap_new _ _)).mono ?_;rintro e w3 ⟨v3,rfl,ho,hq⟩;have B3:Hid (Below w.heap.size w w3):=Lib.hid ((B2.out.alloc B2.out.size _).trans (hq.mono (by have:=B2.out.size;simp;omega)));have O3:Hid (w3.ownsRow w.heap.size 5 1 v3 8 (u8s (headB boot n))):=Lib.hid (own_mono ho (by have:=B2.out.size;simp;omega));clear ho hq) | (go_at_call 180;with_reducible refine (NH.out w3 v3 (Sl.of_own O3.out (u8s_one' _) (.inr (by decide)))).mono ?_;rintro e w4 ⟨rfl,hq⟩;have B4:Hid (Below w.heap.size w w4):=Lib.hid (B3.out.trans (hq.mono B3.out.size));have O4:=Lib.hid (own_below O3.out hq);clear hq) | (go_at_call 188;with_reducible refine (crcK.out w4 hc).mono ?_;rintro e w5 ⟨rfl,hs,hb⟩;have S5:=Lib.hid hs;have O5:=Lib.hid (own_below O4.out hb);have B5:=Lib.hid (B4.out.trans (hb.mono B4.out.size));clear hs hb) | (at_builtin;refine wp_append_sl rfl _ _ 33 rfl w.heap.size 5 i0 _ 1 1 Tryz.underlying33 hi hz0 hz1 hz2 rfl (by decide) v3 8 _ rfl O5.out _ 4 _ rfl S5.out (by omega) (by decide) B5.out.size ?_;intro v6 w6 hown hgr _ _;have O6:=Lib.hid hown;have B6:=Lib.hid (B5.out.grown hgr B5.out.size (fun j hj => (O5.out.lt j hj).1));clear hown hgr) | (go_at_call 180;with_reducible refine (NX.out w6 B6.out).mono ?_;rintro e w7 ⟨rfl,hq⟩;have B7:Hid (Below w.heap.size w w7):=Lib.hid (B6.out.trans (hq.mono B6.out.size));have O7:=Lib.hid (own_below O6.out hq);clear hq) | (at_builtin;refine wp_append_sl rfl _ _ 33 rfl w.heap.size 5 i0 _ 1 1 Tryz.underlying33 hi hz0 hz1 hz2 rfl (by decide) v6 _ _ rfl O7.out _ n _ rfl (HV.out.below B7.out) (by omega) (by decide) B7.out.size ?_;intro v8 w8 hown hgr _ _;have O8:=Lib.hid hown;have B8:=Lib.hid (B7.out.grown hgr B7.out.size (fun j hj => (O7.out.lt j hj).1));clear hown hgr) | (go_at_call 188;with_reducible refine (crcK.out w8 nx).mono ?_;rintro e w9 ⟨rfl,hs,hb⟩;have S9:=Lib.hid hs;have O9:=Lib.hid (own_below O8.out hb);have B9:=Lib.hid (B8.out.trans (hb.mono B8.out.size));clear hs hb) | (at_builtin;refine wp_append_sl rfl _ _ 33 rfl w.heap.size 5 i0 _ 1 1 Tryz.underlying33 hi hz0 hz1 hz2 rfl (by decide) v8 _ _ rfl O9.out _ 4 _ rfl S9.out (by omega) (by decide) B9.out.size ?_;intro v10 w10 hown hgr _ _;have O10:=Lib.hid hown;have B10:=Lib.hid (B9.out.grown hgr B9.out.size (fun j hj => (O9.out.lt j hj).1));clear hown hgr))
 refine bodyPost_ret (v:=.tuple #[v10,.int .u32 nx,.int .i64 0]) (by simp [results,Tryz.results159,go_sem]) rfl ?_
 refine ⟨v10,rfl,?_,B10.out⟩
 have h10:=O10.out
 rw [← u8s_append,← u8s_append,← u8s_append,hhc.out,hnx.out] at h10
 have e6:n + 16 = 8 + 4 + n + 4:=by omega
 rw [e6]
 unfold frameB
 rw [← hn.out] at h10 ⊢
 exact h10
end Go.Proofs.YtaonlcgneemimaaGreatDoor
namespace Go.Proofs.YtaonlcgneemimaaGreatDoor
open Go.RowKit
def madeB (boot:Nat) (at_:Nat) (l:List Int):List Int:=crcB boot ++ [(at_:Int) % 256,(at_:Int) / 256] ++ l ++ List.replicate (54 - l.length) 0 ++ crcB boot
theorem own_fresh (W:World) (B m:Nat) (hB:B ≤ W.heap.size) (hm:m ≤ 1000000):(W.alloc (.cells (u8s (List.replicate m 0)).toArray 5)).ownsRow B 5 1 (.slice (some ⟨W.heap.size,0,none⟩) 0 m) 0 [] :=
 ⟨rfl,.inr ⟨W.heap.size,m,_,rfl,hB,heap_new _ _,Nat.zero_le _,by unfold maxLen;omega,by simp [u8s],by simp⟩⟩
theorem mk_cap (w:World) (m:Nat) (hm:m ≤ 1000000):(Instr.makeSlice 33 (.int .i64 0) (.int .i64 m)).run Tryz.prog w = .ok (.slice (some ⟨w.heap.size,0,none⟩) 0 m) (w.alloc (.cells (u8s (List.replicate m 0)).toArray 5)):=by
 obtain ⟨i0,hi,hz0,hz1,hz2⟩:=info_parts info5
 have h:=run_makeSlice (P:=Tryz.prog) w 33 5 i0 _ Tryz.underlying33 hi hz0 .i64 .i64 0 (m:Int) (by omega) (by omega) (by rw [mul_one' _ _ hz1];simp;omega) (by rw [hz2];omega) (by omega)
 rw [mul_one' _ _ hz1] at h
 simp only [Int.toNat_natCast] at h
 rw [made_bytes] at h
 exact h
set_option maxRecDepth 100000 in
set_option maxHeartbeats 1000000 in
theorem made_any (w:World) (boot at_:Nat) (hb:boot ≤ 2147483647) (ha:at_ ≤ 10000) (v:Value) (l:List Int) (hv:Sl w 5 1 v l.length (u8s l)) (h1:l.length ≤ 54) :
  Calls Tryz.prog 164 #[.int .i64 boot,.int .i64 at_,v] w fun e w' => ∃ v',e = .returned v' ∧ w'.ownsRow w.heap.size 5 1 v' 64 (u8s (madeB boot at_ l)) ∧ Below w.heap.size w w':=by
 have HV:=Lib.hid hv
 obtain ⟨a,cap,rfl,hcap,-,-⟩:=hv.shape
 obtain ⟨i0,hi,hz0,hz1,hz2⟩:=info_parts info5
 obtain ⟨n,hn⟩:∃ n,Hid (n = l.length):=⟨l.length,Lib.hid rfl⟩
 rw [← hn.out] at HV hcap h1 ⊢
 have e5:IntKind.u32.wrap (boot:Int) = boot:=IntWalk.u32_in _ (by omega)
 have e6:wrap64 (54 - (n:Int)) = ((54 - n:Nat):Int):=by rw [show (54:Int) - n = ((54 - n:Nat):Int) by omega];exact IntWalk.wrap64_in _ (by omega)
 have crcK:Hid (∀ (W:World) (c:Int),Calls Tryz.prog 188 #[.int .u32 c] W fun e w' => e = .returned (.slice (some ⟨W.heap.size,0,none⟩) 4 4) ∧ Sl w' 5 1 (.slice (some ⟨W.heap.size,0,none⟩) 4 4) 4 (u8s (crcB c)) ∧ Below W.heap.size W w'):=Lib.hid (fun W c => (crcBytes_any c W).mono (by rintro e w' ⟨rfl,rfl⟩;exact ⟨rfl,crc_new W c,crc_below W _⟩))
 have hms:∀ w:World,(Instr.makeSlice 33 (.int .i64 0) (.int .i64 64)).run Tryz.prog w = .ok (.slice (some ⟨w.heap.size,0,none⟩) 0 64) (w.alloc (.cells (u8s (List.replicate 64 0)).toArray 5)):=fun w => mk_cap w 64 (by decide)
 clear hv
 go_enter Tryz.func164,Tryz.ntmps164
 have hx54:Value.int .i64 (54 - (n:Int)) = .int .i64 ((54 - n:Nat):Int):=by congr 1;omega
 go_wp2_with (first | (go_at_call 188;with_reducible refine (crcK.out w (boot:Int)).mono ?_;rintro e w1 ⟨rfl,hs,hb⟩;have S1:=Lib.hid hs;have B1:=Lib.hid hb;have O2:=Lib.hid (own_fresh w1 w1.heap.size 64 (Nat.le_refl _) (by decide));have B2:Hid (Below w1.heap.size w1 (w1.alloc (.cells (u8s (List.replicate 64 0)).toArray 5))):=Lib.hid (crc_below _ _);clear hs hb) | (at_builtin;refine wp_append_sl rfl _ _ 33 rfl w1.heap.size 5 i0 _ 1 1 Tryz.underlying33 hi hz0 hz1 hz2 rfl (by decide) _ 0 [] rfl O2.out _ 4 _ rfl (S1.out.below B2.out) (by omega) (by decide) B2.out.size ?_;intro v3 w3 hown hgr _ _;have O3:=Lib.hid hown;have B3:=Lib.hid (B2.out.grown hgr B2.out.size (fun j hj => (O2.out.lt j hj).1));clear hown hgr) | (at_builtin;refine wp_append_sl rfl _ _ 33 rfl w1.heap.size 5 i0 _ 1 1 Tryz.underlying33 hi hz0 hz1 hz2 rfl (by decide) v3 _ _ rfl (own_below O3.out (crc_below _ _)) _ 2 _ rfl (Sl.block' (heap_new _ _) rfl (by simp [Value.oneCell']) (by decide) (by decide)) (by omega) (by decide) (by have:=B3.out.size;simp;omega) ?_;intro v4 w4 hown hgr _ _;have O4:=Lib.hid hown;have B4:=Lib.hid ((B3.out.alloc B3.out.size _).grown hgr (by have:=B3.out.size;simp;omega) (fun j hj => (O3.out.lt j hj).1));clear hown hgr) | (at_builtin;refine wp_append_sl rfl _ _ 33 rfl w1.heap.size 5 i0 _ 1 1 Tryz.underlying33 hi hz0 hz1 hz2 rfl (by decide) v4 _ _ rfl O4.out _ n _ rfl (HV.out.below (B1.out.trans (B4.out.mono B1.out.size))) (by omega) (by decide) B4.out.size ?_;intro v5 w5 hown hgr _ _;have O5:=Lib.hid hown;have B5:=Lib.hid (B4.out.grown hgr B4.out.size (fun j hj => (O4.out.lt j hj).1));clear hown hgr) | (at_builtin;refine wp_append_zeros rfl _ _ 33 3 rfl w1.heap.size 5 i0 _ Tryz.underlying33 hi hz0 hz1 hz2 rfl rfl v5 _ _ rfl O5.out Tryz.underlying3 (54 - n) hx54 (by omega) B5.out.size ?_;intro v6 w6 hown hgr;have O6:=Lib.hid hown;have B6:=Lib.hid (B5.out.grown hgr B5.out.size (fun j hj => (O5.out.lt j hj).1));clear hown hgr) | (at_builtin;refine wp_append_sl rfl _ _ 33 rfl w1.heap.size 5 i0 _ 1 1 Tryz.underlying33 hi hz0 hz1 hz2 rfl (by decide) v6 _ _ rfl O6.out _ 4 _ rfl (S1.out.below B6.out) (by omega) (by decide) B6.out.size ?_;intro v7 w7 hown hgr _ _;have O7:=Lib.hid hown;have B7:=Lib.hid (B6.out.grown hgr B6.out.size (fun j hj => (O6.out.lt j hj).1));clear hown hgr))
 go_ret
 refine ⟨v7,rfl,?_,B1.out.trans (B7.out.mono B1.out.size)⟩
 have h7:=own_mono O7.out B1.out.size
 have e7:0 + 4 + 2 + n + (54 - n) + 4 = 64:=by omega
 rw [e7] at h7
 unfold madeB
 rw [u8s_append,u8s_append,u8s_append,u8s_append,← hn.out]
 simpa [u8s] using h7
end Go.Proofs.YtaonlcgneemimaaGreatDoor
namespace Go.Proofs.YtaonlcgneemimaaGreatDoor
open Go.RowKit
structure LogAt (w:World) (a d:Nat) (sv:Value) (ss:List Int) (n:Nat) (last:Int):Prop where
 cell:w.heap[a]? = some (.cells #[.pointer (some ⟨d,0,none⟩),sv,.int .i64 n,.int .u32 last] 227 (0,0))
 segs:w.ownsRow 0 3 1 sv ss.length (ints ss)
 snil:sv = .slice none 0 0 ∨ 0 < ss.length
 len:n ≤ 8 * ss.length
 few:ss.length ≤ 96
 seg:∀ s ∈ ss,0 ≤ s ∧ s < 96
theorem LogAt.sl {w:World} {a d n:Nat} {sv:Value} {ss:List Int} {last:Int} (h:LogAt w a d sv ss n last):Sl w 3 1 sv ss.length (ints ss):=Sl.of_own h.segs (ints_one _) h.snil
theorem LogAt.below {w w':World} {a d n:Nat} {sv:Value} {ss:List Int} {last:Int} (h:LogAt w a d sv ss n last) (hb:Below w.heap.size w w'):LogAt w' a d sv ss n last :=
 ⟨Below.heap hb (Nat.le_refl _) h.cell,own_below h.segs hb,h.snil,h.len,h.few,h.seg⟩
theorem LogAt.facts {w:World} {a d n:Nat} {sv:Value} {ss:List Int} {last:Int} (h:LogAt w a d sv ss n last):w.cell? ⟨a,0,none⟩ = some (.pointer (some ⟨d,0,none⟩)) ∧ w.cell? ⟨a,1,none⟩ = some sv ∧ w.cell? ⟨a,2,none⟩ = some (.int .i64 n) ∧ w.cell? ⟨a,3,none⟩ = some (.int .u32 last) ∧ ∀ i,w.frozen? ⟨a,i,none⟩ = false :=
 ⟨cellAt h.cell 0,cellAt h.cell 1,cellAt h.cell 2,cellAt h.cell 3,frozenAt h.cell⟩
theorem newLog_any (w:World) (d:Nat) :
  Calls Tryz.prog 93 #[.pointer (some ⟨d,0,none⟩)] w fun e w' => e = .returned (.pointer (some ⟨w.heap.size,0,none⟩)) ∧ LogAt w' w.heap.size d (.slice none 0 0) [] 0 0 ∧ Below w.heap.size w w':=by
 go_enter Tryz.func93,Tryz.ntmps93
 go_wp2
 go_ret
 exact ⟨rfl,⟨heap_new _ _,World.ownsRow_nil _ _ _ _,.inl rfl,Nat.zero_le _,Nat.zero_le _,by simp⟩,crc_below _ _⟩
theorem room_any (w:World) (a d n:Nat) (sv:Value) (ss:List Int) (last:Int) (h:LogAt w a d sv ss n last) :
  Calls Tryz.prog 158 #[.pointer (some ⟨a,0,none⟩)] w fun e w' => e = .returned (.int .i64 (8 * ss.length:Nat)) ∧ w' = w:=by
 have hf:=h.few
 obtain ⟨c0,c1,c2,c3,-⟩:=h.facts
 obtain ⟨x,cap,rfl,hcap,-,-⟩:=h.sl.shape
 have q:wrap64 (8 * (ss.length:Int)) = 8 * (ss.length:Int):=IntWalk.wrap64_in _ (by omega)
 clear h
 go_enter Tryz.func158,Tryz.ntmps158
 go_wp2
 go_ret
 exact ⟨sp_ret_int (by first | omega | (rw [q];push_cast;rfl)),rfl⟩
theorem sector_any (w:World) (a d n:Nat) (sv:Value) (ss:List Int) (last:Int) (h:LogAt w a d sv ss n last) (at_:Nat) (s:Int) (hs:ss[at_ / 8]? = some s) :
  Calls Tryz.prog 163 #[.pointer (some ⟨a,0,none⟩),.int .i64 at_] w fun e w' => e = .returned (.int .i64 (8 + s * 8 + (at_ % 8:Nat))) ∧ w' = w:=by
 have hf:=h.few
 have hsr:=h.seg s (List.mem_of_getElem? hs)
 have hlt:=(List.getElem?_eq_some_iff.1 hs).1
 obtain ⟨c0,c1,c2,c3,-⟩:=h.facts
 obtain ⟨x,cap,rfl,hcap,-,hj⟩:=h.sl.shape
 obtain ⟨g,off,rfl,hg,hk⟩:=hj (at_ / 8) hlt
 have c4:=hk 0 (.int .i64 s) (by decide) (by simp [ints,hs])
 simp only [Nat.mul_one,Nat.add_zero] at c4
 clear h hs hj hk
 go_enter Tryz.func163,Tryz.ntmps163
 go_wp2_with (go_at_call 192;refine (sp_first_any s _).mono ?_;rintro e w1 ⟨rfl,hw⟩;subst hw;rw [show sp_firstN s = 8 + s * 8 by unfold sp_firstN;omega])
 go_ret
 exact ⟨sp_ret_int (by omega),rfl⟩
end Go.Proofs.YtaonlcgneemimaaGreatDoor
namespace Go.Proofs.YtaonlcgneemimaaGreatDoor
open Go.RowKit
def needN (m n k:Nat):Nat:=(n + k + 7 - 8 * m) / 8
set_option maxRecDepth 100000 in
set_option maxHeartbeats 1000000 in
theorem need_any (w:World) (a d n:Nat) (sv:Value) (ss:List Int) (last:Int) (h:LogAt w a d sv ss n last) (k:Nat) (hk:k ≤ 100000) :
  Calls Tryz.prog 122 #[.pointer (some ⟨a,0,none⟩),.int .i64 k] w fun e w' => e = .returned (.int .i64 (needN ss.length n k)) ∧ Below w.heap.size w w':=by
 have HH:=Lib.hid h
 have hf:=h.few
 have hn:=h.len
 obtain ⟨c0,c1,c2,c3,-⟩:=h.facts
 obtain ⟨m,hm⟩:∃ m,Hid (m = ss.length):=⟨ss.length,Lib.hid rfl⟩
 have HR:Hid (∀ W,Below w.heap.size w W → Calls Tryz.prog 158 #[.pointer (some ⟨a,0,none⟩)] W fun e w' => e = .returned (.int .i64 (8 * m:Nat)) ∧ w' = W):=Lib.hid (fun W hW => by rw [hm.out];exact room_any W a d n sv ss last (h.below hW))
 rw [← hm.out] at hf hn ⊢
 clear h
 go_enter Tryz.func122,Tryz.ntmps122
 go_wp2_with fail
 go_region_held3 (fun W => W.cell? ⟨a,2,none⟩ = some (.int .i64 n)) (first | exact c2) (first | (go_at_call 158;refine (HR.out _ ((Below.refl _ _).drew)).mono ?_;rintro e w1 ⟨rfl,hw⟩;subst hw))
 all_goals go_wp2_with fail
 go_ret
 exact ⟨sp_ret_int (by rw [IntWalk.i64_in ((n:Int) + k) (by omega),IntWalk.i64_in ((n:Int) + k - 8 * m) (by omega),IntWalk.i64_in ((n:Int) + k - 8 * m + 8) (by omega),IntWalk.i64_in ((n:Int) + k - 8 * m + 8 - 1) (by omega),Int.tdiv_eq_ediv_of_nonneg (by omega),IntWalk.i64_in _ (by omega)];unfold needN;omega),(Below.refl _ _).drew⟩
def sumMany (ls:List (List Int)):Nat:=(ls.map fun l => manyN l.length).sum
theorem sumMany_take (ls:List (List Int)) (k:Nat) (l:List Int) (h:ls[k]? = some l):sumMany (ls.take (k + 1)) = sumMany (ls.take k) + manyN l.length:=by
 unfold sumMany
 rw [take_snoc h,List.map_append,List.sum_append]
 rfl
theorem sumMany_le (ls:List (List Int)) (k:Nat):sumMany (ls.take k) ≤ sumMany ls:=by
 unfold sumMany
 conv => rhs;rw [← List.take_append_drop k ls,List.map_append,List.sum_append]
 omega
set_option maxRecDepth 100000 in
set_option maxHeartbeats 1000000 in
theorem needAll_any (w:World) (a d n:Nat) (sv:Value) (ss:List Int) (last:Int) (h:LogAt w a d sv ss n last) (lv:Value) (ls:List (List Int)) (hr:RowsB w lv ls) (hl:∀ l ∈ ls,1 ≤ l.length ∧ l.length ≤ 16384) (hs:sumMany ls ≤ 100000) :
  Calls Tryz.prog 71 #[.pointer (some ⟨a,0,none⟩),lv] w fun e w' => e = .returned (.int .i64 (needN ss.length n (sumMany ls))) ∧ Below w.heap.size w w':=by
 have HH:=Lib.hid h
 obtain ⟨la,cap,rfl,hcap,hat⟩:=hr.at
 have HA:=Lib.hid hat
 have HL:=Lib.hid hl
 obtain ⟨N,hN⟩:∃ N,Hid (N = ls.length):=⟨ls.length,Lib.hid rfl⟩
 have hll:ls.length ≤ maxLen:=by
  obtain ⟨vs,h1,-⟩:=hr
  rcases h1.2.2 with ⟨_,h0⟩ | ⟨_,_,_,_,_,_,h3,h4,_⟩ <;> omega
 have hml:maxLen = 9223372036854775807:=by decide
 rw [← hN.out] at hcap hll ⊢
 clear h hat hr hl
 go_enter Tryz.func71,Tryz.ntmps71
 go_wp2
 go_loopw [5,7,12] (fun t5 _ ti wr => ∃ k:Nat,k ≤ N ∧ ti = .int .i64 k ∧ t5 = .int .i64 (sumMany (ls.take k)) ∧ wr = w) (fun _ _ i _ => N - (intOf i).toNat)
 case atStart => exact ⟨0,by omega,rfl,rfl,rfl⟩
 case round =>
  obtain ⟨k,hk,rfl,rfl,hwr⟩:=hrel
  have hwr:=hwr.symm
  subst hwr
  have hle:=sumMany_le ls k
  by_cases hlt:k < N
  ·obtain ⟨l,hl⟩:∃ l,ls[k]? = some l:=⟨_,List.getElem?_eq_getElem (by have:=hN.out;omega)⟩
   obtain ⟨g,off,b,c,rfl,hg,hc,-⟩:=HA.out k l hl
   have HST:=Lib.hid (sumMany_take ls k l hl)
   have hle2:=sumMany_le ls (k + 1)
   rw [HST.out] at hle2
   have hlb:=Lib.hid (HL.out l (List.mem_of_getElem? hl))
   have q2:wrap64 ((sumMany (ls.take k):Int) + (manyN l.length:Int)) = (sumMany (ls.take k):Int) + (manyN l.length:Int):=IntWalk.wrap64_in _ (by omega)
   have Q2:=Lib.hid q2
   clear q2 hle hle2 hl
   go_wp2_with (go_at_call 121;refine (many_any l.length hlb.out.1 hlb.out.2 _).mono ?_;rintro e w1 ⟨rfl,hw⟩;have hw:=hw.symm;subst hw)
   go_roundw
   case rel => exact ⟨k + 1,by omega,by go_num,by first | (rw [Q2.out,HST.out];push_cast;rfl) | (rw [HST.out];push_cast;rfl),trivial⟩
   case measure => simp [intOf];omega
  ·have hkN:N = k:=by omega
   subst hkN
   have hall:Hid (ls.take N = ls):=Lib.hid (List.take_of_length_le (by have:=hN.out;omega))
   rw [hall.out] at hle ⊢
   go_wp2_with (go_at_call 122;refine (need_any _ a d n sv ss last HH.out (sumMany ls) hs).mono ?_;rintro e w1 ⟨rfl,hq⟩;have HQ:=Lib.hid hq;clear hq)
   go_ret
   exact ⟨rfl,HQ.out⟩
end Go.Proofs.YtaonlcgneemimaaGreatDoor
namespace Go.Proofs.YtaonlcgneemimaaGreatDoor
open Go.RowKit
set_option maxRecDepth 100000 in
set_option maxHeartbeats 1000000 in
theorem where_any (w:World) (a d n:Nat) (sv:Value) (ss:List Int) (last:Int) (h:LogAt w a d sv ss n last) :
  Calls Tryz.prog 139 #[.pointer (some ⟨a,0,none⟩)] w fun e w' => ∃ v,e = .returned (.agg #[v,.int .i64 n,.int .u32 last]) ∧ Sl w' 3 1 v ss.length (ints ss) ∧ Below w.heap.size w w':=by
 have HH:=Lib.hid h
 have hf:=h.few
 obtain ⟨c0,c1,c2,c3,-⟩:=h.facts
 have hlt:=heap_lt h.cell
 have HB0:Hid (Below w.heap.size w (w.alloc (.cells #[.slice none 0 0,.int .i64 0,.int .u32 0] 225))):=Lib.hid (crc_below _ _)
 have HK:Hid (∀ W:World,Below w.heap.size w W → W.cell? ⟨a,1,none⟩ = some sv ∧ W.cell? ⟨a,2,none⟩ = some (.int .i64 n) ∧ W.cell? ⟨a,3,none⟩ = some (.int .u32 last)):=Lib.hid (fun W hW => ⟨(hW.cell (p:=⟨a,1,none⟩) hlt).trans c1,(hW.cell (p:=⟨a,2,none⟩) hlt).trans c2,(hW.cell (p:=⟨a,3,none⟩) hlt).trans c3⟩)
 have HX0:=Lib.hid (heap_new w (.cells #[.slice none 0 0,.int .i64 0,.int .u32 0] 225))
 clear h
 go_enter Tryz.func139,Tryz.ntmps139
 go_wp2_with fail
 go_region_held3 (fun W => W.cell? ⟨a,1,none⟩ = some sv ∧ W.cell? ⟨a,2,none⟩ = some (.int .i64 n) ∧ W.cell? ⟨a,3,none⟩ = some (.int .u32 last)) (first | exact HK.out _ HB0.out.drew | exact HK.out _ HQ.out | exact HK.out _ (((HQ.out.setCell (p:=⟨w.heap.size,0,none⟩) (Nat.le_refl _) _).setCell (p:=⟨w.heap.size,1,none⟩) (Nat.le_refl _) _).setCell (p:=⟨w.heap.size,2,none⟩) (Nat.le_refl _) _)) (first | (go_at_call 57;refine (cloneInt_any _ _ _ _ (HH.out.sl.below HB0.out.drew) (by omega)).mono ?_;rintro e w1 ⟨v,rfl,ho,hn,hq⟩;have HQ:Hid (Below w.heap.size w w1):=Lib.hid (HB0.out.drew.trans (hq.mono (by simp)));have HS:Hid (Sl w1 3 1 v ss.length (ints ss)):=Lib.hid (Sl.of_own ho (ints_one _) (by rcases Nat.eq_zero_or_pos ss.length with h0 | h0;exact .inl (hn.2 h0);exact .inr h0));have HX1:=Lib.hid (Below.heap (hq.mono (Nat.le_refl _)) (by simp) (show (w.alloc (.cells #[.slice none 0 0,.int .i64 0,.int .u32 0] 225)).drew.heap[w.heap.size]? = _ from HX0.out));obtain ⟨va,vc,rfl⟩:=own_shape ho;have x0:=cellAt HX1.out 0;have x1:=cellAt HX1.out 1;have x2:=cellAt HX1.out 2;have f0:=frozenAt HX1.out 0;have f1:=frozenAt HX1.out 1;have f2:=frozenAt HX1.out 2;clear ho hn hq))
 go_wp2_with fail
 have y:=setAt (setAt (setAt HX1.out 0 (.slice va ss.length vc)) 1 (.int .i64 n)) 2 (.int .u32 last)
 have j0:=cellAt y 0
 have j1:=cellAt y 1
 have j2:=cellAt y 2
 simp at j0 j1 j2
 refine bodyPost_ret (v:=.agg #[.slice va ss.length vc,.int .i64 n,.int .u32 last]) (by simp [results,Tryz.results139,go_sem,j0,j1,j2]) rfl ?_
 refine ⟨_,rfl,HS.out.frame (M:=[w.heap.size]) ((((Frame.refl _ _).setCell (p:=⟨w.heap.size,0,none⟩) (.inl (by simp)) _).setCell (p:=⟨w.heap.size,1,none⟩) (.inl (by simp)) _).setCell (p:=⟨w.heap.size,2,none⟩) (.inl (by simp)) _) ?_,((HQ.out.setCell (p:=⟨w.heap.size,0,none⟩) (Nat.le_refl _) _).setCell (p:=⟨w.heap.size,1,none⟩) (Nat.le_refl _) _).setCell (p:=⟨w.heap.size,2,none⟩) (Nat.le_refl _) _⟩
 intro g hg arr he
 simp at hg
 subst hg
 exact cells_ty HX1.out he (by decide) rfl
end Go.Proofs.YtaonlcgneemimaaGreatDoor
namespace Go.Proofs.YtaonlcgneemimaaGreatDoor
open Go.RowKit
theorem zero4:∀ w,(zeroValue 4).run Tryz.prog w = .ok (.bool false) w:=fun w => by kernel_rfl
structure HadAt (w:World) (hb:Nat) (hs:List Int):Prop where
 map:∃ m f,MapX KI w hb m f ∧ m ≤ hs.length ∧ ∀ x,f x = if x ∈ hs then some (.bool true) else none
theorem HadAt.made (w:World):HadAt (w.alloc (.map #[] 0)) w.heap.size []:=⟨0,_,MapX.made KI w,Nat.le_refl _,fun x => by simp⟩
theorem HadAt.same {w w':World} {hb:Nat} {hs:List Int} (h:HadAt w hb hs) (he:w'.heap[hb]? = w.heap[hb]?):HadAt w' hb hs:=by
 obtain ⟨m,f,hm,hf⟩:=h.map
 exact ⟨m,f,hm.same he,hf⟩
theorem HadAt.lt {w:World} {hb:Nat} {hs:List Int} (h:HadAt w hb hs):hb < w.heap.size:=by
 obtain ⟨m,f,hm,hf⟩:=h.map
 exact hm.lt
theorem HadAt.step {w:World} {hb:Nat} {hs:List Int} (h:HadAt w hb hs) (hl:hs.length ≤ 1000) (s:Int) (hs1:0 ≤ s ∧ s < 96) (hn:s ∉ hs) :
  (Instr.lookup 72 (.map (some hb)) (.int .i64 s) false).run Tryz.prog w = .ok (.bool false) w ∧ ∃ w',(Instr.mapUpdate 72 (.map (some hb)) (.int .i64 s) (.bool true)).run Tryz.prog w = .ok () w' ∧ HadAt w' hb (hs ++ [s]) ∧ w.mapTurned w' hb:=by
 obtain ⟨m,f,hm,hml,hf⟩:=h.map
 have hmx:maxLen = 9223372036854775807:=by decide
 have hg:KI.good s:=KI_good (by omega)
 have hlk:=(hm.look Tryz.underlying72 (zero4 w) hg).2
 rw [hf s,if_neg hn] at hlk
 obtain ⟨w',hr,hm',ht⟩:=hm.store Tryz.underlying72 (by omega) hg (.bool true)
 refine ⟨hlk,w',hr,⟨_,_,hm',by simp;split <;> omega,fun x => ?_⟩,ht⟩
 simp only [fput]
 by_cases hx:x = s
 ·subst hx;simp
 ·simp [hx,hf x]
set_option maxRecDepth 100000 in
set_option maxHeartbeats 1000000 in
theorem superFits_any (w:World) (sv:Value) (ss:List Int) (n:Nat) (last:Int) (hsl:Sl w 3 1 sv ss.length (ints ss)) (hn:n ≤ 8 * ss.length) (hb:Nat) (hs:List Int) (HH:HadAt w hb hs) (hl:hs.length + ss.length ≤ 500) (hnd:(hs ++ ss).Nodup) (hr:∀ s ∈ ss,0 ≤ s ∧ s < 96) :
  Calls Tryz.prog 242 #[.agg #[sv,.int .i64 n,.int .u32 last],.map (some hb),.int .i64 96] w fun e w' => e = .returned (.bool true) ∧ HadAt w' hb (hs ++ ss) ∧ Frame [hb] w w':=by
 have HS:=Lib.hid hsl
 have HHH:=Lib.hid HH
 have HND:=Lib.hid hnd
 have HR:=Lib.hid hr
 obtain ⟨a,cap,rfl,hcap,-,hj⟩:=hsl.shape
 have HJ:=Lib.hid hj
 obtain ⟨N,hN⟩:∃ N,Hid (N = ss.length):=⟨ss.length,Lib.hid rfl⟩
 rw [← hN.out] at hn hl hcap HS ⊢
 have hb0:Hid (∀ o,Frame [hb] w (w.alloc o)):=Lib.hid (fun o => Frame.of_below (crc_below w o) _)
 have q9:((n:Int) ≤ 8 * (N:Int)):=by omega
 have hlt:=HH.lt
 have hbx:Hid ((w.alloc (.cells #[.slice a N cap,.int .i64 n,.int .u32 last] 225)).heap[w.heap.size]? = some (.cells #[.slice a N cap,.int .i64 n,.int .u32 last] 225 (0,0))):=Lib.hid (heap_new _ _)
 have hw1:Hid (HadAt (w.alloc (.cells #[.slice a N cap,.int .i64 n,.int .u32 last] 225)) hb hs):=Lib.hid (HH.same (Below.heap_alloc w _ hb hlt))
 clear hsl HH hnd hr hj
 go_enter Tryz.func242,Tryz.ntmps242
 go_wp2
 go_loopw [8,12] (fun _ ti wr => ∃ k:Nat,k ≤ N ∧ ti = .int .i64 k ∧ Hid (HadAt wr hb (hs ++ ss.take k) ∧ Frame [hb] w wr ∧ wr.heap[w.heap.size]? = some (.cells #[.slice a N cap,.int .i64 n,.int .u32 last] 225 (0,0)))) (fun _ i _ => N - (intOf i).toNat)
 case atStart => exact ⟨0,by omega,rfl,Lib.hid ⟨by simpa using hw1.out,hb0.out _,hbx.out⟩⟩
 case round =>
  obtain ⟨k,hk,rfl,hst⟩:=hrel
  by_cases hlk:k < N
  ·obtain ⟨s,hsk⟩:∃ s,ss[k]? = some s:=⟨_,List.getElem?_eq_getElem (by have:=hN.out;omega)⟩
   obtain ⟨g,off,rfl,hg,hk2⟩:=HJ.out k (by have:=hN.out;omega)
   have c0:=hk2 0 (.int .i64 s) (by decide) (by simp [ints,hsk])
   simp only [Nat.mul_one,Nat.add_zero] at c0
   have hsr:=HR.out s (List.mem_of_getElem? hsk)
   have hgb:g ≠ hb:=by
    rintro rfl
    obtain ⟨m,f,hm,-⟩:=HHH.out.map
    obtain ⟨es,cl,ho⟩:=hm.obj
    unfold World.cell? at c0
    rw [ho] at c0
    simp at c0
   have c1:wr.cell? ⟨g,off + k,none⟩ = some (.int .i64 s):=(hst.out.2.1.cell (p:=⟨g,off + k,none⟩) hg (by simpa using hgb)).trans c0
   have hnot:s ∉ hs ++ ss.take k:=by
    intro hm
    have h1:=HND.out
    rw [← List.take_append_drop k ss,← List.append_assoc,List.nodup_append] at h1
    refine h1.2.2 s hm s ?_ rfl
    rw [List.drop_eq_getElem_cons (by have:=hN.out;omega)]
    have:ss[k]? = some s:=hsk
    rw [List.getElem?_eq_getElem (by have:=hN.out;omega)] at this
    simp at this
    simp [this]
   obtain ⟨hl0,w3,hl1,hh3,ht3⟩:=hst.out.1.step (by simp;have:=hN.out;omega) s hsr hnot
   have HH3:=Lib.hid hh3
   have HT3:=Lib.hid ht3
   have HTK:=Lib.hid (take_snoc hsk)
   have q1:¬ s < 0:=by omega
   have q2:¬ (96:Int) ≤ s:=by omega
   have HLK:=Lib.hid hlk
   clear hh3 ht3 hnot hgb hsr hk2 c0 hsk
   go_wp2
   go_roundw
   case rel =>
    refine ⟨k + 1,by have:=HLK.out;omega,by go_num,Lib.hid ⟨?_,hst.out.2.1.turned HT3.out (.inl (by simp)),?_⟩⟩
    ·rw [HTK.out,← List.append_assoc]
     exact HH3.out
    ·exact turned_keep HT3.out hst.out.2.2 (by omega)
   case measure => have:=HLK.out;simp [intOf];omega
  ·have hkN:N = k:=by omega
   subst hkN
   have hall:Hid (ss.take N = ss):=Lib.hid (List.take_of_length_le (by have:=hN.out;omega))
   have x0:=cellAt hst.out.2.2 0
   have x1:=cellAt hst.out.2.2 1
   have q8:decide ((n:Int) ≤ 8 * (N:Int)) = true:=by simpa using q9
   have q7:wrap64 (8 * (N:Int)) = 8 * (N:Int):=IntWalk.wrap64_in _ (by omega)
   go_wp2
   go_ret
   exact ⟨rfl,by have h:=hst.out.1;rw [hall.out] at h;exact h,hst.out.2.1⟩
end Go.Proofs.YtaonlcgneemimaaGreatDoor
namespace Go.Proofs.YtaonlcgneemimaaGreatDoor
open Go.RowKit
def PenX (w:World) (B a:Nat) (v:Value) (l:List Int):Prop:=w.heap[a]? = some (.cells #[v] 197 (0,0)) ∧ w.ownsRow B 5 1 v l.length (u8s l) ∧ B ≤ a ∧ v.oneCell' = true
theorem PenX.at {w:World} {B a:Nat} {v:Value} {l:List Int} (h:PenX w B a v l):PenAt w B a l:=⟨v,h⟩
theorem byte_f (B a:Nat) (v:Value) (l:List Int) (x:Int) (hl:l.length ≤ 1000000) (w:World) (h:PenX w B a v l) :
  Calls Tryz.prog 109 #[.pointer (some ⟨a,0,none⟩),.int .u8 x] w fun e w' => e = .returned (.tuple #[]) ∧ ∃ v',PenX w' B a v' (l ++ [x]) ∧ Frame (a :: v.ownBlock.toList) w w' ∧ (v'.ownBlock = v.ownBlock ∨ ∀ j ∈ v'.ownBlock.toList,w.heap.size ≤ j):=by
 obtain ⟨ha,hown,hBa,hv1⟩:=h
 obtain ⟨i0,hi,hz0,hz1,hz2⟩:=info_parts info5
 have hlt:a < w.heap.size:=(Array.getElem?_eq_some_iff.1 ha).1
 have hc:w.cell? ⟨a,0,none⟩ = some v:=by unfold World.cell?;simp only [ha];rfl
 have HO:=Lib.hid hown
 have HA:=Lib.hid ha
 clear hown ha
 go_enter Tryz.func109,Tryz.ntmps109
 have hne:v.ownBlock ≠ some a:=own_ne HO.out HA.out (by decide)
 have HNE:=Lib.hid hne
 clear hne
 go_wp2_with (at_builtin;refine wpList_append_own_at _ rfl _ _ 33 rfl B 5 i0 (.int .u8 0) 1 1 Tryz.underlying33 hi hz0 hz1 hz2 rfl (by decide) v l.length (u8s l) rfl (HO.out.alloc _) ⟨w.heap.size,0,none⟩ 1 1 [.int .u8 x] rfl rfl (cell_one_new _ _ _) (by simp [Value.oneCell']) (by unfold maxLen;omega) (by omega) (by simp;omega) ?_;intro v' w1 hown' hgrow hnil hloc;obtain ⟨g',cap',rfl⟩:=ownsRow_succ hown';have HO1:=Lib.hid hown';have HG1:=Lib.hid hgrow;have HLOC:=Lib.hid hloc;have HA1:=Lib.hid ((hgrow.block a (by simp;omega) (fun e => HNE.out e.symm)).trans (((MapKept.heap_alloc w _).2 a hlt).trans HA.out));have ha1:w1.cell? ⟨a,0,none⟩ = some v:=cell_of_heap HA1.out;have hf1:w1.frozen? ⟨a,0,none⟩ = false:=frozen_of_heap HA1.out;clear hown' hgrow hnil hloc)
 go_end0
 refine ⟨rfl,.slice (some ⟨g',0,none⟩) (l.length + 1) cap',⟨?_,?_,hBa,rfl⟩,?_,?_⟩
 ·exact heap_setCell_one HA1.out _
 ·have h1:=own_ne HO1.out HA1.out (by decide)
  have h2:=HO1.out.kept (grownBy_setCell' w1 a (.slice (some ⟨g',0,none⟩) (l.length + 1) cap')) (.inr h1)
  rw [u8s_append]
  simpa [u8s] using h2
 ·exact (((Frame.refl _ w).alloc _).grown HG1.out (fun k hk => .inl (by simp [hk]))).setCell (p:=⟨a,0,none⟩) (.inl (by simp)) _
 ·rcases HLOC.out with h' | h'
  ·exact .inl h'
  ·refine .inr (fun j hj => ?_)
   rw [h'] at hj
   simp at hj
   omega
structure SuperOk (number boot nJ nC:Nat) (ssJ ssC:List Int):Prop where
 number:number ≤ 2147483647
 boot:boot ≤ 2147483647
 lenJ:nJ ≤ 8 * ssJ.length
 lenC:nC ≤ 8 * ssC.length
 few:ssJ.length + ssC.length ≤ 96
 nodup:(ssJ ++ ssC).Nodup
 range:∀ s ∈ ssJ ++ ssC,0 ≤ s ∧ s < 96
def superC (number boot nJ nC:Nat) (svJ svC:Value) (lastJ lastC:Int):Array Value:=#[.int .i64 number,.int .i64 boot,svJ,.int .i64 nJ,.int .u32 lastJ,svC,.int .i64 nC,.int .u32 lastC]
set_option maxRecDepth 100000 in
set_option maxHeartbeats 1000000 in
theorem superMay_any (w:World) (number boot nJ nC:Nat) (ssJ ssC:List Int) (svJ svC:Value) (lastJ lastC:Int) (hok:SuperOk number boot nJ nC ssJ ssC) (hJ:Sl w 3 1 svJ ssJ.length (ints ssJ)) (hC:Sl w 3 1 svC ssC.length (ints ssC)) :
  Calls Tryz.prog 208 #[.agg (superC number boot nJ nC svJ svC lastJ lastC),.int .i64 96] w fun e w' => e = .returned (.bool true) ∧ Below w.heap.size w w':=by
 have HOK:=Lib.hid hok
 have HJ:=Lib.hid hJ
 have HC:=Lib.hid hC
 have hn1:=hok.number
 have hn2:=hok.boot
 have hmk:=fun t w => run_makeMap (P:=Tryz.prog) t w
 obtain ⟨aJ,capJ,rfl,-,-,-⟩:=hJ.shape
 obtain ⟨aC,capC,rfl,-,-,-⟩:=hC.shape
 unfold superC
 have F1:Hid (∀ W,Below w.heap.size w W → HadAt W (w.heap.size + 1) [] → Calls Tryz.prog 242 #[.agg #[.slice aJ ssJ.length capJ,.int .i64 nJ,.int .u32 lastJ],.map (some (w.heap.size + 1)),.int .i64 96] W fun e w' => e = .returned (.bool true) ∧ HadAt w' (w.heap.size + 1) ssJ ∧ Frame [w.heap.size + 1] W w'):=Lib.hid (fun W hW hh => by
  have h:=superFits_any W _ ssJ nJ lastJ (HJ.out.below hW) hok.lenJ (w.heap.size + 1) [] hh (by have:=hok.few;simp;omega) (by have:=hok.nodup;rw [List.nodup_append] at this;simpa using this.1) (fun s hs => hok.range s (by simp [hs]))
  simpa using h)
 have F2:Hid (∀ W,Below w.heap.size w W → HadAt W (w.heap.size + 1) ssJ → Calls Tryz.prog 242 #[.agg #[.slice aC ssC.length capC,.int .i64 nC,.int .u32 lastC],.map (some (w.heap.size + 1)),.int .i64 96] W fun e w' => e = .returned (.bool true) ∧ HadAt w' (w.heap.size + 1) (ssJ ++ ssC) ∧ Frame [w.heap.size + 1] W w'):=Lib.hid (fun W hW hh => superFits_any W _ ssC nC lastC (HC.out.below hW) hok.lenC (w.heap.size + 1) ssJ hh (by have:=hok.few;omega) hok.nodup (fun s hs => hok.range s (by simp [hs])))
 have W2:Hid (Below w.heap.size w ((w.alloc (.cells #[.int .i64 number,.int .i64 boot,.slice aJ ssJ.length capJ,.int .i64 nJ,.int .u32 lastJ,.slice aC ssC.length capC,.int .i64 nC,.int .u32 lastC] 230)).alloc (.map #[] 0)) ∧ HadAt ((w.alloc (.cells #[.int .i64 number,.int .i64 boot,.slice aJ ssJ.length capJ,.int .i64 nJ,.int .u32 lastJ,.slice aC ssC.length capC,.int .i64 nC,.int .u32 lastC] 230)).alloc (.map #[] 0)) (w.heap.size + 1) [] ∧ ((w.alloc (.cells #[.int .i64 number,.int .i64 boot,.slice aJ ssJ.length capJ,.int .i64 nJ,.int .u32 lastJ,.slice aC ssC.length capC,.int .i64 nC,.int .u32 lastC] 230)).alloc (.map #[] 0)).heap[w.heap.size]? = some (.cells #[.int .i64 number,.int .i64 boot,.slice aJ ssJ.length capJ,.int .i64 nJ,.int .u32 lastJ,.slice aC ssC.length capC,.int .i64 nC,.int .u32 lastC] 230 (0,0))):=Lib.hid ⟨((Below.refl _ _).alloc (Nat.le_refl _) _).alloc (by simp) _,by have:=HadAt.made (w.alloc (.cells #[.int .i64 number,.int .i64 boot,.slice aJ ssJ.length capJ,.int .i64 nJ,.int .u32 lastJ,.slice aC ssC.length capC,.int .i64 nC,.int .u32 lastC] 230));rw [World.size_alloc] at this;exact this,heap_old (heap_new _ _) _⟩
 clear hok hJ hC hn1 hn2
 go_enter Tryz.func208,Tryz.ntmps208
 go_wp2_with (first | (go_at_call 242;with_reducible refine (F1.out _ W2.out.1 W2.out.2.1).mono ?_;rintro e w1 ⟨rfl,hh,hf⟩;have HH1:=Lib.hid hh;have HF1:=Lib.hid hf;have B1:Hid (Below w.heap.size w w1):=Lib.hid (hf.belowIf W2.out.1 (by simp) (by simp;omega));have X1:=Lib.hid (hf.heap W2.out.2.2 (by simp));have x5:=cellAt X1.out 5;have x6:=cellAt X1.out 6;have x7:=cellAt X1.out 7;clear hh hf) | (go_at_call 242;with_reducible refine (F2.out _ B1.out HH1.out).mono ?_;rintro e w2 ⟨rfl,hh,hf⟩;have B2:Hid (Below w.heap.size w w2):=Lib.hid (hf.belowIf B1.out (by simp) B1.out.size);clear hh hf))
 all_goals first | (exfalso;have h1:=HOK.out.number;have h2:=HOK.out.boot;omega) | (go_ret;exact ⟨rfl,B2.out⟩)
end Go.Proofs.YtaonlcgneemimaaGreatDoor
