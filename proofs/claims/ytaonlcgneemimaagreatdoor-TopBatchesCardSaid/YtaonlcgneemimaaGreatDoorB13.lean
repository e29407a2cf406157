/- TopBatches: the contracts of D1, D2, D3, D4, D5, K4; no condition. -/
import Derived.Deep.RegionHeld3
import Derived.Test.YtaonlcgneemimaaGreatDoorB05
import Derived.Test.YtaonlcgneemimaaGreatDoorB01
import Derived.Test.YtaonlcgneemimaaGreatDoorB06
import Derived.Test.YtaonlcgneemimaaGreatDoorB11
import Derived.Test.YtaonlcgneemimaaGreatDoorB03
namespace Go.Proofs.YtaonlcgneemimaaGreatDoor
open Go.RowKit
noncomputable def KI:KeyKind Tryz.prog 3 Int:=intKey (q:=.i64) Tryz.underlying3
noncomputable def KU:KeyKind Tryz.prog 128 Int:=intKey (q:=.u32) Tryz.underlying128
noncomputable def KS:KeyKind Tryz.prog 9 ByteArray:=strKey Tryz.underlying9
theorem KI_good {x:Int} (h:-9223372036854775808 ≤ x ∧ x ≤ 9223372036854775807):KI.good x:=by
 show (Lit.int .i64 x).wf = true
 simp [Lit.wf]
 exact h
theorem KU_good {x:Int} (h:0 ≤ x ∧ x ≤ 4294967295):KU.good x:=by
 show (Lit.int .u32 x).wf = true
 simp [Lit.wf]
 exact h
theorem crcSum_lo (l:List Int):0 ≤ crcSum l:=by unfold crcSum crcNext;exact bits_lo_u32 _ _ _
theorem crcSum_hi (l:List Int):crcSum l ≤ 4294967295:=by unfold crcSum crcNext;exact bits_hi_u32 _ _ _
def ByteL (l:List Int):Prop:=∀ x ∈ l,0 ≤ x ∧ x ≤ 255
theorem conv_sl {w:World} {v:Value} {n:Nat} {xs:List Int} (h:Sl w 5 1 v n (u8s xs)):(convert 33 9 v).run Tryz.prog w = .ok (.string (strOfNums xs)) w:=by
 have hl:xs.length = n:=by have:=h.1;simpa [u8s] using this
 rcases h.2.2 with ⟨rfl,rfl⟩ | ⟨g,off,cap,arr,rfl,e2,e3,e4,e5,e6⟩
 ·obtain rfl:xs = []:=List.eq_nil_of_length_eq_zero hl
  exact run_convert_bytes_nil (P:=Tryz.prog) w 33 5 Tryz.underlying33 Tryz.underlying5 0 0 9 Tryz.underlying9
 ·refine run_convert_bytes_arg (P:=Tryz.prog) w 33 5 Tryz.underlying33 Tryz.underlying5 g off n cap xs hl (fun i hi => ?_) 9 Tryz.underlying9
  have h6:=e6 i (.int .u8 (xs.getD i 0)) (by simp [u8s,List.getD,List.getElem?_eq_getElem (show i < xs.length by omega)])
  rw [cellAt e5,h6]
theorem bytesOf_inj {xs ys:List Int} (hx:ByteL xs) (hy:ByteL ys):(Lib.bytesOf xs == Lib.bytesOf ys) = decide (xs = ys):=by
 have key:∀ xs ys:List Int,ByteL xs → ByteL ys → Lib.bytesOf xs = Lib.bytesOf ys → xs = ys:=by
  intro xs
  induction xs with
  | nil => intro ys _ _ h;cases ys with
   | nil => rfl
   | cons y ys => simp [Lib.bytesOf] at h
  | cons x xs ih => intro ys hx hy h;cases ys with
   | nil => simp [Lib.bytesOf] at h
   | cons y ys =>
    simp only [Lib.bytesOf,List.map_cons,List.cons.injEq] at h
    obtain ⟨h1,h2⟩:=h
    have a:=hx x (by simp)
    have b:=hy y (by simp)
    have e:x = y:=by
     have:=congrArg UInt8.toNat h1
     simp at this
     omega
    rw [e,ih ys (fun z hz => hx z (by simp [hz])) (fun z hz => hy z (by simp [hz])) h2]
 by_cases h:xs = ys
 ·subst h;simp
 ·rw [decide_eq_false h]
  simp only [beq_eq_false_iff_ne,ne_eq]
  exact fun h2 => h (key xs ys hx hy h2)
theorem bytesEq_any (v1 v2:Value) (n m:Nat) (xs ys:List Int) (w:World) (h1:Sl w 5 1 v1 n (u8s xs)) (h2:Sl w 5 1 v2 m (u8s ys)) (hx:ByteL xs) (hy:ByteL ys) :
  Calls Tryz.prog 149 #[v1,v2] w fun e w' => e = .returned (.bool (decide (xs = ys))) ∧ w' = w:=by
 have:=Tryz.bytes_Equal v1 v2 xs ys w (conv_sl h1) (conv_sl h2)
 rw [bytesOf_inj hx hy] at this
 exact this
def idsFrom (k:Int):Nat → List (List Int) → List Int
 | _,[] => []
 | i,p :: l => if crcSum p = k then ((i:Int) + 1) :: idsFrom k (i + 1) l else idsFrom k (i + 1) l
def ints (l:List Int):List Value:=l.map (Value.int .i64)
theorem ints_one (l:List Int):∀ u ∈ ints l,u.oneCell' = true:=by
 intro u hu
 obtain ⟨x,_,rfl⟩:=List.mem_map.1 hu
 rfl
def PiecesV (w:World) (vs:List Value) (P:List (List Int)):Prop :=
 vs.length = P.length ∧ ∀ (i:Nat) v p,vs[i]? = some v → P[i]? = some p → Sl w 5 1 v p.length (u8s p) ∧ ByteL p ∧ 0 < p.length ∧ p.length ≤ 64
def ixV (vs:List Value) (id:Int):Option Value:=if 1 ≤ id then vs[(id - 1).toNat]? else none
structure ChunksAt (w:World) (B c:Nat) (P:List (List Int)) (bl bb:Nat) (vs:List Value) (fb:Int → Option Value) (m:Nat) (sz:Int):Prop where
 cell:w.heap[c]? = some (.cells #[.map (some bl),.map (some bb),.int .i64 (P.length + 1),.int .i64 sz] 118 (0,0))
 lo:B ≤ c ∧ B ≤ bl ∧ B ≤ bb
 ne:bl ≠ bb
 pieces:PiecesV w vs P
 nodup:P.Nodup
 ml:MapX KI w bl P.length (ixV vs)
 mb:MapX KU w bb m fb
 rows:∀ k v,fb k = some v → w.ownsRow B 3 1 v (idsFrom k 0 P).length (ints (idsFrom k 0 P)) ∧ 0 < (idsFrom k 0 P).length
 empty:∀ k,fb k = none → idsFrom k 0 P = []
 apart:∀ k k' v v',k ≠ k' → fb k = some v → fb k' = some v' → v.ownBlock ≠ v'.ownBlock
 small:P.length ≤ 100000 ∧ m ≤ P.length
theorem idsFrom_length (k:Int):∀ (i:Nat) (l:List (List Int)),(idsFrom k i l).length ≤ l.length
 | _,[] => by simp [idsFrom]
 | i,p :: l => by
  have:=idsFrom_length k (i + 1) l
  unfold idsFrom
  split <;> simp <;> omega
theorem idsFrom_mem (k:Int):∀ (i:Nat) (l:List (List Int)) (id:Int),id ∈ idsFrom k i l → ∃ (j:Nat) (p:List Int),l[j]? = some p ∧ id = i + j + 1 ∧ crcSum p = k
 | _,[],id,h => by simp [idsFrom] at h
 | i,q :: l,id,h => by
  unfold idsFrom at h
  split at h
  ·rcases List.mem_cons.1 h with rfl | h
   ·rename_i hq
    exact ⟨0,q,rfl,by omega,hq⟩
   ·obtain ⟨j,p,h1,h2,h3⟩:=idsFrom_mem k (i + 1) l id h
    exact ⟨j + 1,p,by simpa using h1,by omega,h3⟩
  ·obtain ⟨j,p,h1,h2,h3⟩:=idsFrom_mem k (i + 1) l id h
   exact ⟨j + 1,p,by simpa using h1,by omega,h3⟩
theorem idsFrom_of (k:Int):∀ (i:Nat) (l:List (List Int)) (j:Nat) (p:List Int),l[j]? = some p → crcSum p = k → ((i:Int) + j + 1) ∈ idsFrom k i l
 | _,[],j,p,h,_ => by simp at h
 | i,q :: l,0,p,h,hk => by
  simp at h;subst h
  unfold idsFrom
  rw [if_pos hk]
  simp
 | i,q :: l,j + 1,p,h,hk => by
  have:=idsFrom_of k (i + 1) l j p (by simpa using h) hk
  unfold idsFrom
  rw [show ((i:Int) + ((j + 1:Nat):Int) + 1) = (((i + 1:Nat):Int) + j + 1) by omega]
  split
  ·exact List.mem_cons_of_mem _ this
  ·exact this
def pieceId (P:List (List Int)) (b:List Int):Option Int:=(P.findIdx? (· == b)).map fun (i:Nat) => ((i:Int) + 1)
theorem pieceId_some {P:List (List Int)} {b:List Int} {j:Nat} (hn:P.Nodup) (h:P[j]? = some b):pieceId P b = some ((j:Int) + 1):=by
 unfold pieceId
 have hj:j < P.length:=(List.getElem?_eq_some_iff.1 h).1
 have hb:P[j] = b:=(List.getElem?_eq_some_iff.1 h).2
 rw [show P.findIdx? (· == b) = some j by
  rw [List.findIdx?_eq_some_iff_getElem]
  refine ⟨hj,by simpa using hb,fun k hk => ?_⟩
  simp only [Bool.not_eq_true,beq_eq_false_iff_ne,ne_eq]
  intro e
  have:=(List.getElem_inj (h₀:=by omega) (h₁:=hj) hn).1 (e.trans hb.symm)
  omega]
 rfl
theorem pieceId_none {P:List (List Int)} {b:List Int} (h:b ∉ P):pieceId P b = none:=by
 unfold pieceId
 rw [show P.findIdx? (· == b) = none by
  rw [List.findIdx?_eq_none_iff]
  intro x hx
  simp only [beq_eq_false_iff_ne,ne_eq]
  exact fun e => h (e ▸ hx)]
 rfl
end Go.Proofs.YtaonlcgneemimaaGreatDoor
namespace Go.Proofs.YtaonlcgneemimaaGreatDoor
open Go.RowKit
theorem zero90:∀ w,(zeroValue 90).run Tryz.prog w = .ok (.slice none 0 0) w:=Tryz.zeroValue90
theorem zero33:∀ w,(zeroValue 33).run Tryz.prog w = .ok (.slice none 0 0) w:=Tryz.zeroValue33
theorem keep_map {α:Type} {P:Program} {kt:TypeId} {K:KeyKind P kt α} {w w':World} {b n:Nat} {f:α → Option Value} (h:MapX K w b n f) (hb:Below w.heap.size w w'):MapX K w' b n f:=h.same (hb.block b h.lt)
theorem ChunksAt.below {w w':World} {B c:Nat} {P:List (List Int)} {bl bb:Nat} {vs:List Value} {fb:Int → Option Value} {m:Nat} {sz:Int} (h:ChunksAt w B c P bl bb vs fb m sz) (hb:Below w.heap.size w w'):ChunksAt w' B c P bl bb vs fb m sz:=by
 refine ⟨Below.heap hb (Nat.le_refl _) h.cell,h.lo,h.ne,⟨h.pieces.1,fun i v p hv hp => ?_⟩,h.nodup,keep_map h.ml hb,keep_map h.mb hb,fun k v hv => ?_,h.empty,h.apart,h.small⟩
 ·obtain ⟨h1,h2⟩:=h.pieces.2 i v p hv hp
  exact ⟨h1.below hb,h2⟩
 ·obtain ⟨h1,h2⟩:=h.rows k v hv
  refine ⟨h1.kept (row:=none) ⟨hb.os,hb.tape,hb.output,hb.size,fun k hk _ => hb.block k hk⟩ ?_,h2⟩
  rcases hv':v.ownBlock with _ | x
  ·exact .inl rfl
  ·exact .inr (by simp)
set_option maxRecDepth 100000 in
set_option maxHeartbeats 1000000 in
theorem find_any (w:World) (B c:Nat) (P:List (List Int)) (bl bb:Nat) (vs:List Value) (fb:Int → Option Value) (m:Nat) (sz:Int) (H:ChunksAt w B c P bl bb vs fb m sz) (v:Value) (n:Nat) (b:List Int) (hv:Sl w 5 1 v b.length (u8s b)) (hb:ByteL b) (hn:b.length ≤ 1000000) :
  Calls Tryz.prog 106 #[.pointer (some ⟨c,0,none⟩),v] w fun e w' => e = .returned (.tuple #[.int .i64 ((pieceId P b).getD 0),.bool (pieceId P b).isSome]) ∧ Below w.heap.size w w':=by
 have HH:=Lib.hid H
 have HV:=Lib.hid hv
 have HBL:=Lib.hid hb
 obtain ⟨ids,hids⟩:∃ ids,Hid (ids = idsFrom (crcSum b) 0 P):=⟨_,rfl⟩
 obtain ⟨av,hav⟩:∃ av,Hid (av = (fb (crcSum b)).getD (.slice none 0 0)):=⟨_,rfl⟩
 have hsl:Sl w 3 1 av ids.length (ints ids):=by
  rw [hav.out,hids.out]
  cases h:fb (crcSum b) with
  | none => rw [H.empty _ h];exact Sl.nil _ _ _
  | some v =>
   obtain ⟨h1,h2⟩:=H.rows _ _ h
   exact Sl.of_own h1 (ints_one _) (.inr h2)
 have hlook:∀ w',MapX KU w' bb m fb → (Instr.lookup 116 (.map (some bb)) (.int .u32 (crcSum b)) false).run Tryz.prog w' = .ok av w':=fun w' hm => by
  rw [hav.out]
  exact (hm.look Tryz.underlying116 (zero90 w') (KU_good ⟨crcSum_lo b,crcSum_hi b⟩)).2
 obtain ⟨a,cap,rfl,hcap,-,hcells⟩:=hsl.shape
 have HC:=Lib.hid hcells
 have HL:=Lib.hid hlook
 have c1:=cellAt H.cell 1
 simp only [List.getElem?_toArray,List.getElem?_cons_zero,List.getElem?_cons_succ] at c1
 have hidl:ids.length ≤ 100000:=by rw [hids.out];have:=idsFrom_length (crcSum b) 0 P;have:=H.small.1;omega
 clear H hv hb hsl hlook hcells
 go_enter Tryz.func106,Tryz.ntmps106
 go_wp2_with fail
 go_region_held3 (fun w' => w'.cell? ⟨c,1,none⟩ = some (.map (some bb)) ∧ (Instr.lookup 116 (.map (some bb)) (.int .u32 (crcSum b)) false).run Tryz.prog w' = .ok (.slice a ids.length cap) w') (first | exact ⟨c1,HL.out _ (HH.out.mb.same rfl)⟩ | exact ⟨cQ,lQ⟩) (first | (go_at_call 148;refine (sum_any _ b _ (HV.out.below ((Below.refl _ w).drew)) hn).mono ?_;rintro e w1 ⟨rfl,hq⟩;have HQ:=Lib.hid (((Below.refl w.heap.size w).drew).trans hq);have cQ:=(HQ.out.cell (p:=⟨c,1,none⟩) (heap_lt HH.out.cell)).trans c1;have lQ:=HL.out _ (keep_map HH.out.mb HQ.out);clear hq))
 have c0:=cellAt HH.out.cell 0
 simp only [List.getElem?_toArray,List.getElem?_cons_zero,List.getElem?_cons_succ] at c0
 clear lQ
 go_wp2
 go_loopw [7,16] (fun t7 ti wr => ∃ k:Nat,k ≤ ids.length ∧ ti = .int .i64 k ∧ Hid (∀ (j:Nat) id,j < k → ids[j]? = some id → P[(id - 1).toNat]? ≠ some b) ∧ Hid (wr = w1)) (fun _ i _ => ids.length - (intOf i).toNat)
 case atStart => exact ⟨0,by omega,rfl,fun j id hj => by omega,rfl⟩
 case round =>
  obtain ⟨k,hk,rfl,hno,hw⟩:=hrel
  have hw:=hw.out.symm
  subst hw
  by_cases hlt:k < ids.length
  ·obtain ⟨id,hid⟩:∃ id,ids[k]? = some id:=⟨_,List.getElem?_eq_getElem hlt⟩
   obtain ⟨j,p,hj,hidj,hcp⟩:=idsFrom_mem (crcSum b) 0 P id (by rw [← hids.out];exact List.mem_of_getElem? hid)
   have hjl:=(List.getElem?_eq_some_iff.1 hj).1
   obtain ⟨g,off,rfl,hg,hgc⟩:=HC.out k hlt
   have q0:=hgc 0 (.int .i64 id) (by decide) (by simp [ints,hid])
   have q1:w1.cell? ⟨g,off + k,none⟩ = some (.int .i64 id):=by
    rw [HQ.out.cell (p:=⟨g,off + k,none⟩) hg]
    simpa using q0
   have q2:w1.cell? ⟨c,0,none⟩ = some (.map (some bl)):=(HQ.out.cell (p:=⟨c,0,none⟩) (heap_lt HH.out.cell)).trans c0
   obtain ⟨pv,hpv⟩:∃ pv,vs[j]? = some pv:=⟨_,List.getElem?_eq_getElem (by have:=HH.out.pieces.1;omega)⟩
   obtain ⟨hps,hpb,hp0,hp1⟩:=HH.out.pieces.2 j pv p hpv hj
   have hix:ixV vs id = some pv:=by
    unfold ixV
    rw [if_pos (by omega),show (id - 1).toNat = j by omega]
    exact hpv
   have hsm:=HH.out.small.1
   have hlk:=((keep_map HH.out.ml HQ.out).look Tryz.underlying62 (zero33 w1) (x:=id) (KI_good (by omega))).2
   rw [hix] at hlk
   simp only [Option.getD_some] at hlk
   change (Instr.lookup 62 (.map (some bl)) (.int .i64 id) false).run Tryz.prog w1 = .ok pv w1 at hlk
   have HPS:=Lib.hid (hps.below HQ.out)
   have HVS:=Lib.hid (HV.out.below HQ.out)
   have HPB:=Lib.hid hpb
   have HNO:=hno
   have HJ:=Lib.hid hj
   have HID:=Lib.hid hidj
   have HIDK:=Lib.hid hid
   clear hgc q0 hps hpb hix hno hcp hid hpv hidj
   by_cases hpe:p = b
   ·have HR:=Lib.hid (show pieceId P b = some id by rw [HID.out,pieceId_some HH.out.nodup (hpe ▸ HJ.out)];simp)
    go_wp2_with (go_at_call 149;refine (bytesEq_any _ _ _ _ p b _ HPS.out HVS.out HPB.out HBL.out).mono ?_;rintro e w2 ⟨rfl,rfl⟩;simp only [hpe,decide_true])
    go_ret2
    rw [HR.out]
    exact ⟨rfl,HQ.out⟩
   ·go_wp2_with (go_at_call 149;refine (bytesEq_any _ _ _ _ p b _ HPS.out HVS.out HPB.out HBL.out).mono ?_;rintro e w2 ⟨rfl,rfl⟩;simp only [hpe,decide_false])
    go_roundw
    case rel =>
     refine ⟨k + 1,by omega,by go_num,fun j' id' hj' hid' => ?_,trivial⟩
     by_cases e:j' = k
     ·subst e
      rw [HIDK.out] at hid'
      cases hid'
      rw [HID.out,show ((0:Nat):Int) + j + 1 - 1 = j by omega]
      simp only [Int.toNat_natCast]
      rw [HJ.out]
      simpa using hpe
     ·exact HNO.out j' id' (by omega) hid'
    case measure => simp [intOf];omega
  ·have HR:=Lib.hid (show pieceId P b = none from pieceId_none (fun hm => by
    obtain ⟨j,hj,hjb⟩:=List.getElem_of_mem hm
    have h1:=idsFrom_of (crcSum b) 0 P j b (by rw [← hjb];exact List.getElem?_eq_getElem hj) rfl
    rw [← hids.out] at h1
    obtain ⟨i,hi,hib⟩:=List.getElem_of_mem h1
    refine hno.out i _ (by omega) (List.getElem?_eq_getElem hi) ?_
    rw [hib,show (((0:Nat):Int) + j + 1 - 1).toNat = j by omega,← hjb]
    exact List.getElem?_eq_getElem hj))
   go_wp2
   go_ret2
   rw [HR.out]
   exact ⟨rfl,HQ.out⟩
end Go.Proofs.YtaonlcgneemimaaGreatDoor
namespace Go.Proofs.YtaonlcgneemimaaGreatDoor
open Go.RowKit
theorem own_mono {w:World} {base base':Nat} {e size n:Nat} {v:Value} {xs:List Value} (h:w.ownsRow base e size v n xs) (hb:base' ≤ base):w.ownsRow base' e size v n xs:=by
 refine ⟨h.1,?_⟩
 rcases h.2 with h | ⟨g,cap,cur,h1,h2,h3⟩
 ·exact .inl h
 ·exact .inr ⟨g,cap,cur,h1,Nat.le_trans hb h2,h3⟩
theorem u8s_one' (l:List Int):∀ u ∈ u8s l,u.oneCell' = true:=u8s_one l
set_option maxRecDepth 100000 in
set_option maxHeartbeats 1000000 in
theorem get_any (w:World) (B c:Nat) (P:List (List Int)) (bl bb:Nat) (vs:List Value) (fb:Int → Option Value) (m:Nat) (sz:Int) (H:ChunksAt w B c P bl bb vs fb m sz) (j:Nat) (p:List Int) (hj:P[j]? = some p) :
  Calls Tryz.prog 68 #[.pointer (some ⟨c,0,none⟩),.int .i64 ((j:Int) + 1)] w fun e w' => ∃ v,e = .returned (.tuple #[v,.bool true]) ∧ w'.ownsRow w.heap.size 5 1 v p.length (u8s p) ∧ (v = .slice none 0 0 ↔ p.length = 0) ∧ Below w.heap.size w w':=by
 have hjl:=(List.getElem?_eq_some_iff.1 hj).1
 obtain ⟨pv,hpv⟩:∃ pv,vs[j]? = some pv:=⟨_,List.getElem?_eq_getElem (by have:=H.pieces.1;omega)⟩
 obtain ⟨hps,hpb,hp0,hp1⟩:=H.pieces.2 j pv p hpv hj
 have hix:ixV vs ((j:Int) + 1) = some pv:=by
  unfold ixV
  rw [if_pos (by omega),show ((j:Int) + 1 - 1).toNat = j by omega]
  exact hpv
 have hsm:=H.small.1
 have hlk:=(H.ml.look Tryz.underlying62 (zero33 w) (x:=(j:Int) + 1) (KI_good (by omega))).1
 rw [hix] at hlk
 simp only [Option.getD_some,Option.isSome_some] at hlk
 change (Instr.lookup 62 (.map (some bl)) (.int .i64 ((j:Int) + 1)) true).run Tryz.prog w = .ok (.tuple #[pv,.bool true]) w at hlk
 have c0:=cellAt H.cell 0
 simp only [List.getElem?_toArray,List.getElem?_cons_zero,List.getElem?_cons_succ] at c0
 have HPS:=Lib.hid hps
 clear H hps hpb hix hj hpv hjl
 go_enter Tryz.func68,Tryz.ntmps68
 go_wp2_with (go_at_call 119;refine (bytesClone_any _ _ _ _ HPS.out (by omega)).mono ?_;rintro e w1 ⟨v',rfl,ho,hn,hq⟩;have HO:=Lib.hid ho;have HN:=Lib.hid hn;have HQ:=Lib.hid hq;clear ho hn hq)
 go_ret2
 exact ⟨_,rfl,HO.out,HN.out,HQ.out⟩
set_option maxHeartbeats 1000000 in
theorem mayPiece_any (w:World) (v:Value) (b:List Int) (h:Sl w 5 1 v b.length (u8s b)) (h0:0 < b.length) (h1:b.length ≤ 64) :
  Calls Tryz.prog 105 #[v] w fun e w' => e = .returned (.bool true) ∧ w' = w:=by
 obtain ⟨a,cap,rfl,hcap,-,-⟩:=h.shape
 have d1:decide ((1:Int) ≤ b.length) = true:=by simp;omega
 have d2:decide ((b.length:Int) ≤ 64) = true:=by simp;omega
 clear h
 go_enter Tryz.func105,Tryz.ntmps105
 go_wp2
 go_ret
 exact ⟨rfl,rfl⟩
set_option maxHeartbeats 1000000 in
theorem penBytes_any (B a:Nat) (l:List Int) (hl:l.length ≤ 1000000) (h0:0 < l.length) (w:World) (h:PenAt w B a l) :
  Calls Tryz.prog 114 #[.pointer (some ⟨a,0,none⟩)] w fun e w' => ∃ v,e = .returned v ∧ w'.ownsRow w.heap.size 5 1 v l.length (u8s l) ∧ Below w.heap.size w w':=by
 obtain ⟨v,ha,hown,hBa,hv1⟩:=h
 have HS:=Lib.hid (Sl.of_own hown (u8s_one l) (.inr h0))
 have hc:=cell_of_heap ha
 clear ha hown
 go_enter Tryz.func114,Tryz.ntmps114
 go_wp2_with (go_at_call 104;refine (cloneByte_any _ _ _ _ HS.out hl).mono ?_;rintro e w1 ⟨v',rfl,ho,hn,hq⟩;have HO:=Lib.hid ho;have HQ:=Lib.hid hq;clear ho hn hq)
 go_ret
 exact ⟨_,rfl,HO.out,HQ.out⟩
theorem pen_new (w:World):PenAt (w.alloc (.cells #[.slice none 0 0] 197)) w.heap.size w.heap.size [] :=
 ⟨.slice none 0 0,heap_new w _,World.ownsRow_nil _ _ _ _,Nat.le_refl _,rfl⟩
def recB (id:Nat) (b:List Int):List Int:=numB id ++ textB (strOfNums b)
set_option maxHeartbeats 1000000 in
theorem record_any (w:World) (id:Nat) (v:Value) (b:List Int) (hid:id ≤ 9223372036854775807) (hv:Sl w 5 1 v b.length (u8s b)) (hb:b.length ≤ 64) :
  Calls Tryz.prog 69 #[.int .i64 id,v] w fun e w' => ∃ v',e = .returned v' ∧ w'.ownsRow w.heap.size 5 1 v' (recB id b).length (u8s (recB id b)) ∧ Below w.heap.size w w':=by
 have HV:=Lib.hid hv
 have HP0:=Lib.hid (pen_new w)
 have hss:=strOfNums_size b
 have hn9:=numB_len 8 id (by omega)
 have hn8:=numB_len 0 b.length (by omega)
 have ht0:0 < (numB id ++ textB (strOfNums b)).length:=by
  simp only [List.length_append,textB,strB_length]
  have:0 < (numB (strOfNums b).size).length:=by
   by_cases h:(strOfNums b).size < 128
   ·rw [numB_lo h];simp
   ·rw [numB_hi (by omega)];simp
  omega
 have ht1:(numB id ++ textB (strOfNums b)).length ≤ 1000000:=by
  simp only [List.length_append,textB,strB_length,hss]
  omega
 have HT0:=Lib.hid ht0
 have HT1:=Lib.hid ht1
 have HSS:=Lib.hid hss
 have HN9:=Lib.hid hn9
 clear hv hn9 hn8 ht0 ht1 hss
 go_enter Tryz.func69,Tryz.ntmps69
 go_wp2_with (first | (go_at_call 110;refine (num_any w.heap.size w.heap.size [] id hid (by simp) _ HP0.out).mono ?_;rintro e w1 ⟨rfl,hq,hb1⟩;have HQ1:=Lib.hid hq;have HB1:=Lib.hid (((Below.refl w.heap.size w).alloc (Nat.le_refl _) _).trans hb1);have hcv:=conv_sl (HV.out.below HB1.out);clear hq hb1) | (go_at_call 113;refine (text_any w.heap.size w.heap.size _ (strOfNums b) (by have:=HSS.out;omega) (by have:=HN9.out;simp only [List.nil_append];omega) _ HQ1.out).mono ?_;rintro e w2 ⟨rfl,hq,hb2⟩;have HQ2:=Lib.hid hq;have HB2:=Lib.hid (HB1.out.trans hb2);clear hq hb2) | (go_at_call 114;refine (penBytes_any w.heap.size w.heap.size _ HT1.out HT0.out _ HQ2.out).mono ?_;rintro e w3 ⟨v',rfl,ho,hq⟩;have HO:=Lib.hid ho;have HQ3:=Lib.hid hq;clear ho hq))
 go_ret
 exact ⟨_,rfl,own_mono HO.out HB2.out.size,HB2.out.trans (HQ3.out.mono HB2.out.size)⟩
set_option maxHeartbeats 1000000 in
theorem newChunks_any (w:World) :
  Calls Tryz.prog 21 #[] w fun e w' => e = .returned (.pointer (some ⟨w.heap.size + 2,0,none⟩)) ∧ ChunksAt w' w.heap.size (w.heap.size + 2) [] w.heap.size (w.heap.size + 1) [] (fun _ => none) 0 0 ∧ Below w.heap.size w w':=by
 have hmk:=fun t w => run_makeMap (P:=Tryz.prog) t w
 go_enter Tryz.func21,Tryz.ntmps21
 go_wp2
 go_ret
 refine ⟨rfl,?_,(((Below.refl _ _).alloc (Nat.le_refl _) _).alloc (by simp) _).alloc (by simp;omega) _⟩
 refine ⟨?_,by omega,by omega,⟨rfl,fun i v p h => by simp at h⟩,List.nodup_nil,?_,?_,fun k v h => by simp at h,fun k _ => rfl,fun k k' v v' _ h => by simp at h,by simp⟩
 ·have:=heap_new ((w.alloc (.map #[] 0)).alloc (.map #[] 0)) (.cells #[.map (some w.heap.size),.map (some (w.heap.size + 1)),.int .i64 1,.int .i64 0] 118)
  simpa using this
 ·have h:=(MapX.made KI w).same (w':=((w.alloc (.map #[] 0)).alloc (.map #[] 0)).alloc (.cells #[.map (some w.heap.size),.map (some (w.heap.size + 1)),.int .i64 1,.int .i64 0] 118)) (by rw [heap_old (heap_old (heap_new w _) _) _,heap_new])
  have e:ixV [] = fun _ => none:=by funext x;simp [ixV]
  rw [e]
  exact h
 ·have h:=(MapX.made KU (w.alloc (.map #[] 0))).same (w':=((w.alloc (.map #[] 0)).alloc (.map #[] 0)).alloc (.cells #[.map (some w.heap.size),.map (some (w.heap.size + 1)),.int .i64 1,.int .i64 0] 118)) (by rw [heap_old (heap_new _ _) _,heap_new])
  simpa using h
end Go.Proofs.YtaonlcgneemimaaGreatDoor
namespace Go.Proofs.YtaonlcgneemimaaGreatDoor
open Go.RowKit
theorem idsFrom_append (k:Int):∀ (i:Nat) (l:List (List Int)) (b:List Int),idsFrom k i (l ++ [b]) = idsFrom k i l ++ (if crcSum b = k then [((i + l.length:Nat):Int) + 1] else [])
 | i,[],b => by
  simp only [List.nil_append,idsFrom]
  split <;> simp
 | i,p :: l,b => by
  simp only [List.cons_append,idsFrom,idsFrom_append k (i + 1) l b,List.length_cons]
  rw [show i + 1 + l.length = i + (l.length + 1) by omega]
  split <;> simp
structure ByAt (w:World) (B bb:Nat) (P:List (List Int)) (fb:Int → Option Value) (m:Nat):Prop where
 mb:MapX KU w bb m fb
 rows:∀ k v,fb k = some v → w.ownsRow B 3 1 v (idsFrom k 0 P).length (ints (idsFrom k 0 P)) ∧ 0 < (idsFrom k 0 P).length
 empty:∀ k,fb k = none → idsFrom k 0 P = []
 apart:∀ k k' v v',k ≠ k' → fb k = some v → fb k' = some v' → v.ownBlock ≠ v'.ownBlock
 small:P.length ≤ 100000 ∧ m ≤ P.length
theorem row_kept {w w':World} {B n e sz:Nat} {v:Value} {xs:List Value} (h:w.ownsRow B e sz v n xs) (hg:∀ (k:Nat) (o:Obj),w.heap[k]? = some o → v.ownBlock = some k → w'.heap[k]? = some o):w'.ownsRow B e sz v n xs:=by
 refine ⟨h.1,?_⟩
 rcases h.2 with h | ⟨g,cap,cur,h1,h2,h3,h4⟩
 ·exact .inl h
 ·exact .inr ⟨g,cap,cur,h1,h2,hg g _ h3 (by rw [h1];rfl),h4⟩
theorem ByAt.kept {w w':World} {B bb:Nat} {P:List (List Int)} {fb:Int → Option Value} {m:Nat} (h:ByAt w B bb P fb m) (hb:w'.heap[bb]? = w.heap[bb]?) (hr:∀ (k:Nat) (arr:Array Value),w.heap[k]? = some (.cells arr 3 (0,0)) → w'.heap[k]? = some (.cells arr 3 (0,0))):ByAt w' B bb P fb m:=by
 refine ⟨h.mb.same hb,fun k v hv => ?_,h.empty,h.apart,h.small⟩
 obtain ⟨h1,h2⟩:=h.rows k v hv
 refine ⟨⟨h1.1,?_⟩,h2⟩
 rcases h1.2 with h | ⟨g,cap,cur,e1,e2,e3,e4⟩
 ·exact .inl h
 ·exact .inr ⟨g,cap,cur,e1,e2,hr g cur e3,e4⟩
theorem by_step {w:World} {B bb:Nat} {P:List (List Int)} {fb:Int → Option Value} {m:Nat} (h:ByAt w B bb P fb m) (hB:B ≤ w.heap.size) (hbb:B ≤ bb) (b:List Int) (hsm:P.length + 1 ≤ 100000) (ty:TypeId) :
  ∃ v' w5 w6,(Builtin.append_ #[90,90] ty #[(fb (crcSum b)).getD (.slice none 0 0),.slice (some ⟨w.heap.size,0,none⟩) 1 1]).run Tryz.prog (w.alloc (.cells #[.int .i64 ((P.length:Int) + 1)] 3)) = .ok v' w5 ∧
   (Instr.mapUpdate 116 (.map (some bb)) (.int .u32 (crcSum b)) v').run Tryz.prog w5 = .ok () w6 ∧
   (∃ fb' m',ByAt w6 B bb (P ++ [b]) fb' m') ∧ Below B w w6 ∧ (∀ (k:Nat) (o:Obj),w.heap[k]? = some o → k ≠ bb → (∀ arr,o ≠ .cells arr 3 (0,0)) → w5.heap[k]? = some o ∧ w6.heap[k]? = some o):=by
 obtain ⟨i0,hi,hz0,hz1,hz2⟩:=info_parts info3
 have hown:w.ownsRow B 3 1 ((fb (crcSum b)).getD (.slice none 0 0)) (idsFrom (crcSum b) 0 P).length (ints (idsFrom (crcSum b) 0 P)):=by
  cases hf:fb (crcSum b) with
  | none => rw [h.empty _ hf];exact World.ownsRow_nil _ _ _ _
  | some v => exact (h.rows _ _ hf).1
 have hil:=idsFrom_length (crcSum b) 0 P
 obtain ⟨v',w5,hrun,ho,hg,hn,hloc⟩:=run_append_own_at (P:=Tryz.prog) (w.alloc (.cells #[.int .i64 ((P.length:Int) + 1)] 3)) B 90 ty 3 i0 (.int .i64 0) 1 8 Tryz.underlying90 hi hz0 hz1 hz2 rfl (by decide) _ _ _ (hown.alloc _) ⟨w.heap.size,0,none⟩ 1 1 [.int .i64 ((P.length:Int) + 1)] rfl (cell_one_new _ _ _) (by simp [Value.oneCell']) (by unfold maxLen;omega) (by omega) (by simp;omega)
 have hmb:MapX KU w5 bb m fb:=h.mb.same (by
  rw [hg.block bb (by simp;have:=h.mb.lt;omega) (fun e => by
   rcases hown.2 with ⟨e1,_⟩ | ⟨g,cap,cur,e1,_,e3,_⟩
   ·rw [e1] at e;simp [Value.ownBlock] at e
   ·rw [e1] at e;simp [Value.ownBlock] at e;subst e;exact h.mb.cells e3)]
  exact Below.heap_alloc _ _ _ h.mb.lt)
 obtain ⟨w6,hrun2,hm6,ht6⟩:=hmb.store Tryz.underlying116 (by have:=h.small.2;unfold maxLen;omega) (x:=crcSum b) (KU_good ⟨crcSum_lo b,crcSum_hi b⟩) v'
 have hids:idsFrom (crcSum b) 0 (P ++ [b]) = idsFrom (crcSum b) 0 P ++ [(P.length:Int) + 1]:=by rw [idsFrom_append,if_pos rfl];simp
 have hother:∀ k,k ≠ crcSum b → idsFrom k 0 (P ++ [b]) = idsFrom k 0 P:=fun k hk => by rw [idsFrom_append,if_neg (fun e => hk e.symm)];simp
 have kept5:∀ k o,w.heap[k]? = some o → ((fb (crcSum b)).getD (.slice none 0 0)).ownBlock ≠ some k → w5.heap[k]? = some o:=fun k o hk hne => by
  rw [hg.block k (by simp;have:=heap_lt hk;omega) (fun e => hne e.symm)]
  exact heap_old hk _
 have kept6:∀ k o,w5.heap[k]? = some o → k ≠ bb → w6.heap[k]? = some o:=fun k o hk hne => by
  rw [ht6.grown.block k (heap_lt hk) (by simpa using hne)]
  exact hk
 have hv'bb:v'.ownBlock ≠ some bb:=by
  rcases ho.2 with ⟨e1,_⟩ | ⟨g,cap,cur,e1,_,e3,_⟩
  ·rw [e1];simp [Value.ownBlock]
  ·rw [e1];intro e;simp [Value.ownBlock] at e;subst e;exact hmb.cells e3
 refine ⟨v',w5,w6,hrun,hrun2,⟨fput fb (crcSum b) (some v'),if (fb (crcSum b)).isSome then m else m + 1,?_⟩,?_,?_⟩
 ·refine ⟨hm6,fun k v hv => ?_,fun k hk => ?_,fun k k' u u' hkk hu hu' => ?_,by simp;have:=h.small.2;split <;> omega⟩
  ·by_cases e:k = crcSum b
   ·subst e
    simp only [fput,if_pos,Option.some.injEq] at hv
    subst hv
    rw [hids]
    refine ⟨?_,by simp⟩
    have h1:=row_kept (w':=w6) ho (fun k o hk hb => kept6 k o hk (fun e => hv'bb (e ▸ hb)))
    simpa [ints] using h1
   ·simp only [fput,if_neg e] at hv
    obtain ⟨h1,h2⟩:=h.rows k v hv
    rw [hother k e]
    refine ⟨row_kept h1 (fun g o hgo hvb => kept6 g o (kept5 g o hgo ?_) ?_),h2⟩
    ·intro hb
     cases hf:fb (crcSum b) with
     | none => rw [hf] at hb;simp [Value.ownBlock] at hb
     | some u =>
      rw [hf] at hb
      exact h.apart k (crcSum b) v u e hv hf (hvb.trans hb.symm)
    ·rintro rfl
     rcases h1.2 with ⟨e1,_⟩ | ⟨g',cap,cur,e1,_,e3,_⟩
     ·rw [e1] at hvb;simp [Value.ownBlock] at hvb
     ·rw [e1] at hvb;simp [Value.ownBlock] at hvb;subst hvb;exact h.mb.cells e3
  ·by_cases e:k = crcSum b
   ·subst e;simp [fput] at hk
   ·simp only [fput,if_neg e] at hk
    rw [hother k e]
    exact h.empty k hk
  ·have new:∀ k v,k ≠ crcSum b → fb k = some v → v'.ownBlock ≠ v.ownBlock:=fun k v e hv hb => by
    obtain ⟨h1,h2⟩:=h.rows k v hv
    rcases h1.2 with ⟨_,e2⟩ | ⟨g',cap,cur,e1,_,e3,_⟩
    ·omega
    ·have hvb:v.ownBlock = some g':=by rw [e1];rfl
     rcases hloc with hl | hl
     ·cases hf:fb (crcSum b) with
      | none => rw [hf] at hl;rw [hb,hvb] at hl;simp [Value.ownBlock] at hl
      | some u =>
       rw [hf] at hl
       exact h.apart k (crcSum b) v u e hv hf (hb.symm.trans hl)
     ·rw [hb,hvb] at hl
      simp at hl
      have:=heap_lt e3
      omega
   by_cases e:k = crcSum b
   ·subst e
    simp only [fput,if_pos,Option.some.injEq] at hu
    subst hu
    simp only [fput,if_neg (Ne.symm hkk)] at hu'
    exact new k' u' (Ne.symm hkk) hu'
   ·simp only [fput,if_neg e] at hu
    by_cases e':k' = crcSum b
    ·subst e'
     simp only [fput,if_pos,Option.some.injEq] at hu'
     subst hu'
     exact (new k u e hu).symm
    ·simp only [fput,if_neg e'] at hu'
     exact h.apart k k' u u' hkk hu hu'
 ·exact (((Below.refl B w).alloc hB _).grown hg (by simp;omega) (fun k hk => (hown.lt k hk).1)).grown ht6.grown (by have:=hg.size;simp at this;omega) (fun k hk => by cases hk;exact hbb)
 ·intro k o hk hne hno
  have h5:=kept5 k o hk (fun e => by
   rcases hown.2 with ⟨e1,_⟩ | ⟨g,cap,cur,e1,_,e3,_⟩
   ·rw [e1] at e;simp [Value.ownBlock] at e
   ·rw [e1] at e;simp [Value.ownBlock] at e;subst e
    rw [hk] at e3
    exact hno cur (by injection e3))
  exact ⟨h5,kept6 k o h5 hne⟩
end Go.Proofs.YtaonlcgneemimaaGreatDoor
namespace Go.Proofs.YtaonlcgneemimaaGreatDoor
open Go.RowKit
theorem ixV_none {vs:List Value}:ixV vs ((vs.length:Int) + 1) = none:=by
 unfold ixV
 rw [if_pos (by omega),show ((vs.length:Int) + 1 - 1).toNat = vs.length by omega]
 simp
theorem ixV_put (vs:List Value) (v:Value):fput (ixV vs) ((vs.length:Int) + 1) (some v) = ixV (vs ++ [v]):=by
 funext x
 unfold fput ixV
 by_cases h:x = (vs.length:Int) + 1
 ·subst h
  rw [if_pos rfl,if_pos (by omega),show ((vs.length:Int) + 1 - 1).toNat = vs.length by omega]
  simp
 ·rw [if_neg h]
  by_cases h1:1 ≤ x
  ·rw [if_pos h1,if_pos h1]
   by_cases h2:(x - 1).toNat < vs.length
   ·rw [List.getElem?_append_left h2]
   ·rw [List.getElem?_eq_none (by omega),List.getElem?_eq_none (by simp;omega)]
  ·rw [if_neg h1,if_neg h1]
theorem store_piece {w:World} {c bl n:Nat} {vs:List Value} {arr:Array Value} (hc:w.heap[c]? = some (.cells arr 118 (0,0))) (hm:MapX KI w bl n (ixV vs)) (hn:vs.length = n) (hsm:n ≤ 100000) (v:Value) :
  ∃ w',(Instr.mapUpdate 62 (.map (some bl)) (.int .i64 ((n:Int) + 1)) v).run Tryz.prog w = .ok () w' ∧ MapX KI w' bl (n + 1) (ixV (vs ++ [v])) ∧ w.mapTurned w' bl ∧ w'.heap[c]? = some (.cells arr 118 (0,0)):=by
 obtain ⟨w',h1,h2,h3⟩:=hm.store Tryz.underlying62 (by unfold maxLen;omega) (x:=(n:Int) + 1) (KI_good (by omega)) v
 refine ⟨w',h1,?_,h3,?_⟩
 ·rw [← hn] at h2
  rw [ixV_none,ixV_put] at h2
  rw [← hn]
  simpa using h2
 ·rw [h3.grown.block c (heap_lt hc) (by intro e;injection e with e;exact hm.cells (e ▸ hc))]
  exact hc
theorem Sl.kept {w w':World} {e sz n:Nat} {v:Value} {xs:List Value} (h:Sl w e sz v n xs) (hk:∀ (k:Nat) (arr:Array Value),w.heap[k]? = some (.cells arr e (0,0)) → w'.heap[k]? = some (.cells arr e (0,0))):Sl w' e sz v n xs:=by
 refine ⟨h.1,h.2.1,?_⟩
 rcases h.2.2 with h0 | ⟨g,off,cap,arr,e1,e2,e3,e4,e5,e6⟩
 ·exact .inl h0
 ·exact .inr ⟨g,off,cap,arr,e1,e2,e3,e4,hk g arr e5,e6⟩
theorem MapX.obj {α:Type} {P:Program} {kt:TypeId} {K:KeyKind P kt α} {w:World} {b n:Nat} {f:α → Option Value} (h:MapX K w b n f):∃ es cl,w.heap[b]? = some (.map es cl):=by
 obtain ⟨D,⟨es,c,hb,_⟩,_⟩:=h
 exact ⟨es,c,hb⟩
theorem turned_keep {w w':World} {b k:Nat} {o:Obj} (h:w.mapTurned w' b) (hk:w.heap[k]? = some o) (hne:k ≠ b):w'.heap[k]? = some o:=by
 rw [h.grown.block k (heap_lt hk) (by simpa using hne)]
 exact hk
def KeptC (w w':World):Prop:=∀ (k:Nat) (arr:Array Value) (t:TypeId),w.heap[k]? = some (.cells arr t (0,0)) → t ≠ 118 → t ≠ 3 → w'.heap[k]? = some (.cells arr t (0,0))
theorem KeptC.of_below {w w':World} (h:Below w.heap.size w w'):KeptC w w':=fun k arr t hk _ _ => Below.heap h (Nat.le_refl _) hk
theorem KeptC.trans {a b c:World} (h:KeptC a b) (k:KeptC b c):KeptC a c:=fun i arr t hi h1 h2 => k i arr t (h i arr t hi h1 h2) h1 h2
theorem step_append_run {P:Program} {ops:Array Oper} {o:Oper} {a:Act} {w:World} {K:Act → World → Prop} {Q:Exit → Act → World → Prop} {E:Prop} (hgd:o.guard = none) (s x:Operand) (t:TypeId)
  (ho:o.op = .call { callee:=.builtin .append,args:=#[s,x],argTypes:=#[t,t] }) (v':Value) (w':World) (hrun:(Builtin.append_ #[t,t] o.type #[a.eval s,a.eval x]).run P w = .ok v' w') (h:K (a.put o.dst v') w') :
  if Region.wanted o (yielded ops a.tmps) = true then Oper.wp P o a w K Q else E:=by
 have hw:Region.wanted o (yielded ops a.tmps) = true:=by simp [Region.wanted,hgd]
 rw [if_pos hw]
 unfold Oper.wp execOp
 simp only [ho,resolve,invoke,builtin,Sem.run_bind,Sem.run_pure,Result.andThen_ok,List.map_toArray,List.map_cons,List.map_nil,hrun]
 exact h
open Classical in
noncomputable def putP (P:List (List Int)) (b:List Int):List (List Int):=if b ∈ P then P else P ++ [b]
noncomputable def putId (P:List (List Int)) (b:List Int):Int:=(pieceId P b).getD ((P.length:Int) + 1)
theorem pieceId_mem {P:List (List Int)} {b:List Int} (hn:P.Nodup) (h:b ∈ P):∃ j:Nat,P[j]? = some b ∧ pieceId P b = some ((j:Int) + 1):=by
 obtain ⟨j,hj,e⟩:=List.getElem_of_mem h
 have:P[j]? = some b:=by rw [List.getElem?_eq_getElem hj,e]
 exact ⟨j,this,pieceId_some hn this⟩
end Go.Proofs.YtaonlcgneemimaaGreatDoor
namespace Go.Proofs.YtaonlcgneemimaaGreatDoor
open Go.RowKit
theorem append_run_sl {P:Program} {w:World} (base:Nat) (t ty e:TypeId) (i:TypeInfo) (z:Value) (size bytes:Nat) (ht:P.underlying t = some (.slice e)) (hi:P.info? e = some i) (hz:i.zero = some z)
  (hsize:i.size = size) (hby:i.bytes = bytes) (hzs:z.cells.size = size) (hsz:0 < size)
  (v:Value) (n:Nat) (xs:List Value) (hown:w.ownsRow base e size v n xs) (vx:Value) (m:Nat) (news:List Value) (hsl:Sl w e size vx m news)
  (h63:n + m ≤ 1000000) (hbytes:bytes ≤ 100000) (hbase:base ≤ w.heap.size) :
  ∃ v' w',(Builtin.append_ #[t,t] ty #[v,vx]).run P w = .ok v' w' ∧ w'.ownsRow base e size v' (n + m) (xs ++ news) ∧ w.grownBy w' v.ownBlock ∧ (v' = .slice none 0 0 ↔ v = .slice none 0 0 ∧ m = 0) ∧ (v'.ownBlock = v.ownBlock ∨ v'.ownBlock = some w.heap.size):=by
 obtain ⟨hl,h1,hv⟩:=hsl
 rcases hv with ⟨rfl,rfl⟩ | ⟨g,off,cap,arr,rfl,e2,e3,e4,e5,e6⟩
 ·obtain rfl:news = []:=List.eq_nil_of_length_eq_zero (by simpa using hl)
  have hr:=run_append_owned_none (P:=P) w base t ty e i size ht hi v n xs hown
  exact ⟨v,w,hr,by simpa using hown,World.grownBy.refl _ _,by simp,.inl rfl⟩
 ·refine run_append_own_at w base t ty e i z size bytes ht hi hz hsize hby hzs hsz v n xs hown ⟨g,off,none⟩ m cap news hl (fun j u hj => ?_) h1 (by unfold maxLen;omega) ?_ hbase
  ·have h6:=e6 j u hj
   rw [show (⟨g,off,none⟩:Addr).add j = ⟨g,off + j,none⟩ by unfold Addr.add;split <;> simp_all]
   unfold World.cell?
   simp [e5,h6]
  ·have:(n + m) * bytes ≤ 1000000 * 100000:=Nat.mul_le_mul h63 hbytes
   omega
theorem step_append_sl {P:Program} {ops:Array Oper} {o:Oper} {a:Act} {w:World} {K:Act → World → Prop} {Q:Exit → Act → World → Prop} {E:Prop} (hgd:o.guard = none) (s x:Operand) (t:TypeId)
  (ho:o.op = .call { callee:=.builtin .append,args:=#[s,x],argTypes:=#[t,t] })
  (base:Nat) (e:TypeId) (i:TypeInfo) (z:Value) (size bytes:Nat) (ht:P.underlying t = some (.slice e)) (hi:P.info? e = some i) (hz:i.zero = some z)
  (hsize:i.size = size) (hby:i.bytes = bytes) (hzs:z.cells.size = size) (hsz:0 < size)
  (v:Value) (n:Nat) (xs:List Value) (hs:a.eval s = v) (hown:w.ownsRow base e size v n xs)
  (vx:Value) (m:Nat) (news:List Value) (hx:a.eval x = vx) (hsl:Sl w e size vx m news)
  (h63:n + m ≤ 1000000) (hbytes:bytes ≤ 100000) (hbase:base ≤ w.heap.size)
  (h:∀ v' w',w'.ownsRow base e size v' (n + m) (xs ++ news) → w.grownBy w' v.ownBlock → (v' = .slice none 0 0 ↔ v = .slice none 0 0 ∧ m = 0) → (v'.ownBlock = v.ownBlock ∨ v'.ownBlock = some w.heap.size) → K (a.put o.dst v') w') :
  if Region.wanted o (yielded ops a.tmps) = true then Oper.wp P o a w K Q else E:=by
 obtain ⟨v',w',hr,h1,h2,h3,h4⟩:=append_run_sl (P:=P) base t o.type e i z size bytes ht hi hz hsize hby hzs hsz v n xs hown vx m news hsl h63 hbytes hbase
 refine step_append_run hgd s x t ho v' w' ?_ (h v' w' h1 h2 h3 h4)
 rw [hs,hx]
 exact hr
theorem Sl.block {w:World} {g e sz n:Nat} {xs:List Value} (h:w.heap[g]? = some (.cells xs.toArray e (0,0))) (hl:xs.length = n * sz) (h1:∀ u ∈ xs,u.oneCell' = true) (h0:0 < n) (hn:n ≤ 1000000):Sl w e sz (.slice (some ⟨g,0,none⟩) n n) n xs :=
 ⟨hl,h1,.inr ⟨g,0,n,_,rfl,h0,Nat.le_refl _,by unfold maxLen;omega,h,fun j u hj => by simpa using hj⟩⟩
theorem Sl.block' {w:World} {g e sz n:Nat} {arr:Array Value} (h:w.heap[g]? = some (.cells arr e (0,0))) (hl:arr.size = n * sz) (h1:∀ u ∈ arr.toList,u.oneCell' = true) (h0:0 < n) (hn:n ≤ 1000000):Sl w e sz (.slice (some ⟨g,0,none⟩) n n) n arr.toList :=
 ⟨by simpa using hl,h1,.inr ⟨g,0,n,_,rfl,h0,Nat.le_refl _,by unfold maxLen;omega,h,fun j u hj => by simpa using hj⟩⟩
end Go.Proofs.YtaonlcgneemimaaGreatDoor
