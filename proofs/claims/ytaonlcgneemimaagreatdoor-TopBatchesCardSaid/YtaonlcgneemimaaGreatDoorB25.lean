/- TopBatches: the contracts of Z5, Z3, AB0, Z4; no condition. -/
import Derived.Lib.SlBytesConst
import Derived.Test.YtaonlcgneemimaaGreatDoorB23
import Derived.Test.YtaonlcgneemimaaGreatDoorB00
import Derived.Test.YtaonlcgneemimaaGreatDoorB21
import Derived.Test.YtaonlcgneemimaaGreatDoorB03
namespace Go.Proofs.YtaonlcgneemimaaGreatDoor
open Go.RowKit
noncomputable def piecesA:List (List Int) → List (List Int) → List PartA
 | _,[] => []
 | P,p :: ps => newPart P p :: piecesA (putP P p) ps
noncomputable def putAll:List (List Int) → List (List Int) → List (List Int)
 | P,[] => P
 | P,p :: ps => putAll (putP P p) ps
theorem piecesA_snoc (p:List Int):∀ (ps P:List (List Int)),piecesA P (ps ++ [p]) = piecesA P ps ++ [newPart (putAll P ps) p]
 | [],P => rfl
 | q :: ps,P => by
  show newPart P q :: piecesA (putP P q) (ps ++ [p]) = _
  rw [piecesA_snoc p ps]
  rfl
theorem putAll_snoc (p:List Int):∀ (ps P:List (List Int)),putAll P (ps ++ [p]) = putP (putAll P ps) p
 | [],P => rfl
 | q :: ps,P => by
  show putAll (putP P q) (ps ++ [p]) = _
  rw [putAll_snoc p ps]
  rfl
theorem piecesA_len:∀ (ps P:List (List Int)),(piecesA P ps).length = ps.length
 | [],P => rfl
 | q :: ps,P => by
  show (piecesA (putP P q) ps).length + 1 = _
  rw [piecesA_len ps]
  rfl
theorem putP_prefix (P:List (List Int)) (p:List Int):P <+: putP P p:=by
 unfold putP
 split
 ·exact List.prefix_rfl
 ·exact ⟨[p],rfl⟩
theorem putP_nodup {P:List (List Int)} (h:P.Nodup) (p:List Int):(putP P p).Nodup:=by
 unfold putP
 split
 ·exact h
 ·rename_i hp
  rw [List.nodup_append]
  refine ⟨h,by simp,fun x hx y hy => ?_⟩
  simp only [List.mem_singleton] at hy
  subst hy
  exact fun e => hp (e ▸ hx)
theorem putP_len (P:List (List Int)) (p:List Int):(putP P p).length ≤ P.length + 1:=by
 unfold putP
 split <;> simp
theorem putAll_prefix:∀ (ps P:List (List Int)),P <+: putAll P ps
 | [],P => List.prefix_rfl
 | q :: ps,P => (putP_prefix P q).trans (putAll_prefix ps _)
theorem putAll_nodup:∀ (ps P:List (List Int)),P.Nodup → (putAll P ps).Nodup
 | [],_,h => h
 | q :: ps,_,h => putAll_nodup ps _ (putP_nodup h q)
theorem putAll_len:∀ (ps P:List (List Int)),(putAll P ps).length ≤ P.length + ps.length
 | [],P => by simp [putAll]
 | q :: ps,P => by
  have h1:=putAll_len ps (putP P q)
  have h2:=putP_len P q
  show (putAll (putP P q) ps).length ≤ _
  simp only [List.length_cons]
  omega
theorem putId_at {P:List (List Int)} (hn:P.Nodup) (p:List Int):1 ≤ putId P p ∧ putId P p ≤ P.length + 1 ∧ (putP P p)[(putId P p - 1).toNat]? = some p:=by
 by_cases h:p ∈ P
 ·obtain ⟨j,hj,he⟩:=pieceId_mem hn h
  have hl:=(List.getElem?_eq_some_iff.1 hj).1
  have e:putId P p = (j:Int) + 1:=by
   unfold putId
   rw [he]
   rfl
  rw [e]
  unfold putP
  rw [if_pos h]
  exact ⟨by omega,by omega,by rw [show ((j:Int) + 1 - 1).toNat = j by omega];exact hj⟩
 ·have e:putId P p = (P.length:Int) + 1:=by
   unfold putId
   rw [pieceId_none h]
   rfl
  rw [e]
  unfold putP
  rw [if_neg h]
  exact ⟨by omega,by omega,by rw [show ((P.length:Int) + 1 - 1).toNat = P.length by omega];simp⟩
theorem piecesA_fits:∀ (ps P:List (List Int)),P.Nodup → P.length + ps.length ≤ 100000 → (∀ p ∈ ps,0 < p.length ∧ p.length ≤ 64) → ∀ q ∈ piecesA P ps,q.off = 0 ∧ q.fits
 | [],_,_,_,_,q,hq => by simp [piecesA] at hq
 | p :: ps,P,hn,hs,hps,q,hq => by
  rcases List.mem_cons.1 hq with rfl | hq
  ·obtain ⟨h1,h2,-⟩:=putId_at hn p
   obtain ⟨h3,h4⟩:=hps p (by simp)
   simp only [List.length_cons] at hs
   exact ⟨rfl,by simp [newPart];omega,by simp [newPart];omega,h1,by simp only [newPart];omega,by simp [newPart],by simp [newPart];omega⟩
  ·have h2:=putP_len P p
   simp only [List.length_cons] at hs
   exact piecesA_fits ps (putP P p) (putP_nodup hn p) (by omega) (fun r hr => hps r (by simp [hr])) q hq
theorem sumLen_pieces:∀ (ps P:List (List Int)),sumLen (piecesA P ps) = ps.flatten.length
 | [],P => rfl
 | p :: ps,P => by
  show (p.length:Int) + sumLen (piecesA (putP P p) ps) = _
  rw [sumLen_pieces ps]
  simp
end Go.Proofs.YtaonlcgneemimaaGreatDoor
namespace Go.Proofs.YtaonlcgneemimaaGreatDoor
open Go.RowKit
theorem ret_num {k:IntKind} {a b:Int} (h:a = b):Ending.returned (.int k a) = .returned (.int k b):=by rw [h]
structure BytX (w:World) (A:Option Addr) (cap:Nat) (l:List Int):Prop where
 le:l.length ≤ cap
 small:l.length ≤ 1000000
 cell:∀ j,j < l.length → ∃ x,A = some x ∧ w.cell? (x.add j) = some (.int .u8 (l.getD j 0)) ∧ 0 ≤ l.getD j 0 ∧ l.getD j 0 ≤ 255
theorem BytX.below {w w':World} {A:Option Addr} {cap:Nat} {l:List Int} (h:BytX w A cap l) (hb:Below w.heap.size w w'):BytX w' A cap l:=by
 refine ⟨h.le,h.small,fun j hj => ?_⟩
 obtain ⟨x,rfl,hc,h1,h2⟩:=h.cell j hj
 have:=World.block_lt_of_cell? w _ hc
 exact ⟨x,rfl,(hb.cell this).trans hc,h1,h2⟩
set_option maxHeartbeats 1000000 in
theorem cutHash_in (A:Option Addr) (n cap:Nat) (l:List Int) (i:Nat) (w:World) (h:BytX w A cap l) (hn:l.length = n) (hi:i < n) :
  Calls Tryz.prog 147 #[.slice A n cap,.int .i64 i] w fun e w' => e = .returned (.int .u32 (cutHash l i)) ∧ w' = w:=by
 obtain ⟨hle,hsm,hcell⟩:=h
 have hn6:n ≤ 1000000:=by omega
 have HN:=Lib.hid hn
 have HC:=Lib.hid hcell
 have HI:=Lib.hid (fun (k:Nat) (hk:k < n) => show l[k]? = some (l.getD k 0) by simp [List.getD,hn,hk])
 clear hcell hn hle hsm
 obtain ⟨x,rfl,_⟩:=HC.out i (by have:=HN.out;omega)
 obtain ⟨k0,hk0⟩:∃ k0,Hid (k0 = i + 1 - 8):=⟨_,rfl⟩
 have hk0i:k0 ≤ i:=by have:=hk0.out;omega
 have start:(i < 7 ∧ Hid (k0 = 0)) ∨ (7 ≤ i ∧ Hid ((i:Int) - 8 + 1 = k0)):=by
  have:=hk0.out
  by_cases h:i < 7
  ·exact .inl ⟨h,by show _ = _;omega⟩
  ·exact .inr ⟨by omega,by show _ = _;omega⟩
 rcases start with ⟨h7,hS⟩ | ⟨h7,hS⟩
 all_goals
  go_enter Tryz.func147,Tryz.ntmps147
  go_wp2
  go_loopw [5,6] (fun h q wr => ∃ k:Nat,k0 ≤ k ∧ k ≤ i + 1 ∧ q = .int .i64 k ∧ h = .int .u32 (((l.take k).drop k0).foldl cutHs 0) ∧ wr = w) (fun _ q _ => i + 1 - (intOf q).toNat)
  case atStart => exact ⟨k0,by omega,by omega,(by congr 1;have:=hk0.out;omega),by rw [List.drop_eq_nil_of_le (by simp;omega)];rfl,rfl⟩
  case round =>
   obtain ⟨k,hk1,hk2,rfl,rfl,hw⟩:=hrel
   have hw:=hw.symm
   subst hw
   by_cases hlt:k ≤ i
   ·obtain ⟨y,hy,hc,hb0,hb1⟩:=HC.out k (by have:=HN.out;omega)
    cases hy
    have HSTEP:=Lib.hid (cutHash_step l k0 k _ hk1 (HI.out k (by omega)))
    have hfr:=cutFold_range ((l.take k).drop k0)
    generalize ((l.take k).drop k0).foldl cutHs 0 = F at hfr HSTEP ⊢
    generalize l.getD k 0 = v at hc hb0 hb1 HSTEP
    obtain ⟨hfr0,hfr1⟩:=hfr
    go_wp2
    go_roundw
    case rel => exact ⟨k + 1,by omega,by omega,by go_num,by rw [HSTEP.out];unfold cutHs;go_num,trivial⟩
    case measure => simp [intOf];omega
   ·obtain rfl:k = i + 1:=by omega
    go_wp2
    go_ret
    exact ⟨ret_num (by unfold cutHash;rw [← hk0.out]),rfl⟩
theorem cutHash_at (A:Option Addr) (n cap:Nat) (l:List Int) (i:Nat) (z H:Int) (w:World) (h:BytX w A cap l) (hn:l.length = n) (hi:i < n) (hz:z = i) (hH:cutHash l i = H) :
  Calls Tryz.prog 147 #[.slice A n cap,.int .i64 z] w fun e w' => e = .returned (.int .u32 H) ∧ w' = w:=by
 subst hz;subst hH;exact cutHash_in A n cap l i w h hn hi
set_option maxHeartbeats 1000000 in
theorem cutEnds_in (A:Option Addr) (n cap:Nat) (l:List Int) (f:Nat) (w:World) (h:BytX w A cap l) (hn:l.length = n) (hi:f < n) :
  Calls Tryz.prog 103 #[.slice A n cap,.int .i64 f] w fun e w' => e = .returned (.int .i64 ((f:Int) + cutPl (l.drop f))) ∧ w' = w:=by
 have hn6:n ≤ 1000000:=by have:=h.small;omega
 have HN:=Lib.hid hn
 have HB:=Lib.hid h
 clear h hn
 obtain ⟨m,hm⟩:∃ m,Hid (m = min (l.drop f).length 64):=⟨_,rfl⟩
 have hm64:m ≤ 64:=by have:=hm.out;omega
 have hmn:f + m ≤ n:=by have:=hm.out;have:=HN.out;simp at *;omega
 have start:(n ≤ f + 64 ∧ n = f + m) ∨ (f + 64 < n ∧ m = 64):=by have:=hm.out;have:=HN.out;simp at *;omega
 have hd0:decide ((f:Int) < 0) = false:=by simp
 have hd1:decide ((n:Int) ≤ f) = false:=by simp;omega
 have hd3:decide (n ≤ f) = false:=by simp;omega
 rcases start with ⟨hs,rfl⟩ | ⟨hs,rfl⟩
 ·have hd2:decide ((f:Int) + m ≤ f) = false:=by simp;omega
  go_enter Tryz.func103,Tryz.ntmps103
  go_wp2
  go_loopw [6] (fun q wr => ∃ k:Nat,7 ≤ k ∧ k ≤ 64 ∧ q = .int .i64 ((f:Int) + k) ∧ Hid (cutPl (l.drop f) = cutFrom (l.drop f) k) ∧ wr = w) (fun q _ => f + 65 - (intOf q).toNat)
  case atStart => exact ⟨7,by omega,by omega,by congr 1;omega,rfl,rfl⟩
  case round =>
   obtain ⟨k,hk1,hk2,rfl,hp,hw⟩:=hrel
   have hw:=hw.symm
   subst hw
   by_cases hlt:k < m
   ·have HST:=Lib.hid (cutFrom_step (l.drop f) k (by have:=hm.out;omega))
    have hgr:=cutHash_range l (f + k)
    have HG:Hid (cutGood (l.drop f) k = (bits BinOp.and IntKind.u32 (cutHash l (f + k) / 65536) 15 == 0)):=by show _ = _;rw [← cutGood_drop l f k hk1];rfl
    obtain ⟨H,hH⟩:∃ H,Hid (cutHash l (f + k) = H):=⟨_,rfl⟩
    rw [hH.out] at hgr HG
    obtain ⟨hg0,hg1⟩:=hgr
    go_wp2_with (go_at_call 147;(with_reducible refine (cutHash_at A _ cap l (f + k) _ H w HB.out HN.out (by omega) (by omega) hH.out).mono ?_);rintro e w' ⟨rfl,hw'⟩;have hw':=hw'.symm;subst hw')
    ·go_ret
     exact ⟨ret_num (by rw [hp.out,HST.out,HG.out,if_pos (by assumption)];omega),rfl⟩
    ·go_roundw
     case rel => exact ⟨k + 1,by omega,by omega,by go_num,by show _ = _;rw [hp.out,HST.out,HG.out,if_neg (by rw [Bool.not_eq_true];assumption)],trivial⟩
     case measure => simp [intOf];omega
   ·have HE:=Lib.hid (cutFrom_end (l.drop f) k (by have:=hm.out;omega))
    go_wp2
    go_ret
    exact ⟨ret_num (by rw [hp.out,HE.out,← hm.out];omega),rfl⟩
 ·go_enter Tryz.func103,Tryz.ntmps103
  go_wp2
  go_loopw [6] (fun q wr => ∃ k:Nat,7 ≤ k ∧ k ≤ 64 ∧ q = .int .i64 ((f:Int) + k) ∧ Hid (cutPl (l.drop f) = cutFrom (l.drop f) k) ∧ wr = w) (fun q _ => f + 65 - (intOf q).toNat)
  case atStart => exact ⟨7,by omega,by omega,by congr 1;omega,rfl,rfl⟩
  case round =>
   obtain ⟨k,hk1,hk2,rfl,hp,hw⟩:=hrel
   have hw:=hw.symm
   subst hw
   by_cases hlt:k < 64
   ·have HST:=Lib.hid (cutFrom_step (l.drop f) k (by have:=hm.out;omega))
    have hgr:=cutHash_range l (f + k)
    have HG:Hid (cutGood (l.drop f) k = (bits BinOp.and IntKind.u32 (cutHash l (f + k) / 65536) 15 == 0)):=by show _ = _;rw [← cutGood_drop l f k hk1];rfl
    obtain ⟨H,hH⟩:∃ H,Hid (cutHash l (f + k) = H):=⟨_,rfl⟩
    rw [hH.out] at hgr HG
    obtain ⟨hg0,hg1⟩:=hgr
    go_wp2_with (go_at_call 147;(with_reducible refine (cutHash_at A _ cap l (f + k) _ H w HB.out HN.out (by omega) (by omega) hH.out).mono ?_);rintro e w' ⟨rfl,hw'⟩;have hw':=hw'.symm;subst hw')
    ·go_ret
     exact ⟨ret_num (by rw [hp.out,HST.out,HG.out,if_pos (by assumption)];omega),rfl⟩
    ·go_roundw
     case rel => exact ⟨k + 1,by omega,by omega,by go_num,by show _ = _;rw [hp.out,HST.out,HG.out,if_neg (by rw [Bool.not_eq_true];assumption)],trivial⟩
     case measure => simp [intOf];omega
   ·have HE:=Lib.hid (cutFrom_end (l.drop f) k (by have:=hm.out;omega))
    go_wp2
    go_ret
    exact ⟨ret_num (by rw [hp.out,HE.out,← hm.out];omega),rfl⟩
theorem cutEnds_at (A:Option Addr) (n cap:Nat) (l:List Int) (f m:Nat) (w:World) (h:BytX w A cap l) (hn:l.length = n) (hi:f < n) (hm:cutPl (l.drop f) = m) :
  Calls Tryz.prog 103 #[.slice A n cap,.int .i64 f] w fun e w' => e = .returned (.int .i64 ((f:Int) + m)) ∧ w' = w:=by
 subst hm;exact cutEnds_in A n cap l f w h hn hi
end Go.Proofs.YtaonlcgneemimaaGreatDoor
namespace Go.Proofs.YtaonlcgneemimaaGreatDoor
open Go.RowKit
def ArgB (w:World) (a:Option Addr) (len cap:Nat) (zs:List Int):Prop :=
 len ≤ cap ∧ len ≤ zs.length ∧ ∀ i,i < len → ∃ x:Addr,a = some x ∧ w.cell? (x.add i) = some (.int .u8 (zs.getD i 0)) ∧ 0 ≤ zs.getD i 0 ∧ zs.getD i 0 ≤ 255
theorem ArgB.byt {w:World} {a:Option Addr} {len cap:Nat} {zs:List Int} (h:ArgB w a len cap zs) (hl:len ≤ 1000000):BytX w a cap (zs.take len) ∧ (zs.take len).length = len:=by
 obtain ⟨h1,h2,h3⟩:=h
 have hlen:(zs.take len).length = len:=by simp;omega
 refine ⟨⟨by omega,by omega,fun j hj => ?_⟩,hlen⟩
 obtain ⟨x,rfl,h4,h5,h6⟩:=h3 j (by omega)
 have e:(zs.take len).getD j 0 = zs.getD j 0:=by
  simp only [List.getD_eq_getElem?_getD,List.getElem?_take]
  rw [if_pos (by omega)]
 rw [e]
 exact ⟨x,rfl,h4,h5,h6⟩
theorem BytX.byteL {w:World} {a:Option Addr} {cap:Nat} {l:List Int} (h:BytX w a cap l):ByteL l:=by
 intro x hx
 obtain ⟨j,hj,rfl⟩:=List.getElem_of_mem hx
 obtain ⟨-,-,-,h1,h2⟩:=h.cell j hj
 have e:l.getD j 0 = l[j]:=by simp [List.getD,hj]
 rw [e] at h1 h2
 exact ⟨h1,h2⟩
end Go.Proofs.YtaonlcgneemimaaGreatDoor
namespace Go.Proofs.YtaonlcgneemimaaGreatDoor
open Go.RowKit
theorem BytX.cells {w:World} {x:Addr} {cap:Nat} {l:List Int} (h:BytX w (some x) cap l):∀ j u,(u8s l)[j]? = some u → w.cell? (x.add j) = some u:=by
 intro j u hu
 have hj:j < l.length:=by have:=(List.getElem?_eq_some_iff.1 hu).1;simpa [u8s] using this
 obtain ⟨y,hy,hc,_,_⟩:=h.cell j hj
 cases hy
 rw [hc,← hu]
 simp [u8s,List.getD,hj]
theorem BytX.sub {w:World} {x:Addr} {cap:Nat} {l:List Int} (h:BytX w (some x) cap l) (at_ m:Nat) (hm:at_ + m ≤ l.length):BytX w (some (x.add at_)) (cap - at_) ((l.drop at_).take m):=by
 have hl:((l.drop at_).take m).length = m:=by simp;omega
 refine ⟨by have:=h.le;omega,by have:=h.small;omega,fun j hj => ?_⟩
 obtain ⟨y,hy,hc,h0,h1⟩:=h.cell (at_ + j) (by omega)
 cases hy
 have he:((l.drop at_).take m).getD j 0 = l.getD (at_ + j) 0:=by
  simp only [List.getD_eq_getElem?_getD,List.getElem?_take,List.getElem?_drop]
  rw [if_pos (by omega)]
 rw [he]
 exact ⟨_,rfl,by rw [show (x.add at_).add j = x.add (at_ + j) by unfold Addr.add;split <;> split <;> simp_all [Nat.add_assoc]];exact hc,h0,h1⟩
set_option maxRecDepth 100000 in
set_option maxHeartbeats 1000000 in
theorem cloneByte_x (w:World) (x:Addr) (n cap:Nat) (l:List Int) (h:BytX w (some x) cap l) (hn:l.length = n) (h0:0 < n) :
  Calls Tryz.prog 104 #[.slice (some x) n cap] w fun e w' => ∃ v',e = .returned v' ∧ w'.ownsRow w.heap.size 5 1 v' n (u8s l) ∧ Below w.heap.size w w':=by
 obtain ⟨i0,hi,hz0,hz1,hz2⟩:=info_parts info5
 have hxl:x.block < w.heap.size:=by
  obtain ⟨y,hy,hc,_,_⟩:=h.cell 0 (by omega)
  cases hy
  have:=World.block_lt_of_cell? w _ hc
  unfold Addr.add at this;simpa using this
 have hsm:=h.small
 rw [hn] at hsm
 have HB:=Lib.hid h
 have HN:=Lib.hid hn
 clear h hn
 have HM:Hid (maxLen = 9223372036854775807):=by show _ = _;decide
 have heq:=fun wx => Lib.run_eql_slice_nil (P:=Tryz.prog) wx 33 5 (some x) n cap 0 0 Tryz.underlying33
 have HL:=Lib.hid (World.ownsRow_lit (base:=w.heap.size) (size:=1) (e:=5) w #[] 0 (Nat.le_refl _) (by decide) rfl)
 go_enter Tryz.func104,Tryz.ntmps104
 go_wp2_with (at_builtin;refine wpList_append_own_at _ rfl _ _ 33 rfl w.heap.size 5 i0 (.int .u8 0) 1 1 Tryz.underlying33 hi hz0 hz1 hz2 rfl (by decide) _ 0 [] rfl HL.out x n cap (u8s l) rfl ?c1 ?c2 ?c3 ?c4 ?c5 ?c6 ?_)
 case c1 => have:=HN.out;simp [u8s];omega
 case c2 =>
  intro j u hj
  rw [World.cell?_of_block (w:=w) (by rw [show (x.add j).block = x.block by unfold Addr.add;split <;> rfl];exact Below.heap_alloc w _ _ hxl)]
  exact HB.out.cells j u hj
 case c3 => exact u8s_one l
 case c4 => have:=HM.out;omega
 case c5 => omega
 intro v' w' ho hg hne hat
 have FIN:Hid (w'.ownsRow w.heap.size 5 1 v' n (u8s l) ∧ Below w.heap.size w w'):=Lib.hid ⟨by simpa using ho,((Below.refl _ _).alloc (Nat.le_refl _) _).grown hg (by simp) (by intro k hk;simp [Value.ownBlock] at hk;omega)⟩
 clear ho hg hne hat
 go_wp2
 go_ret
 exact ⟨_,rfl,FIN.out⟩
def CutSo (l:List Int) (at_:Nat) (ps:List (List Int)):Prop:=cutL l = ps ++ cutL (l.drop at_) ∧ ps.length ≤ at_ ∧ at_ ≤ l.length
theorem CutSo.step {l:List Int} {at_ m:Nat} {ps:List (List Int)} (h:CutSo l at_ ps) (hlt:at_ < l.length) (hm:cutPl (l.drop at_) = m):CutSo l (at_ + m) (ps ++ [(l.drop at_).take m]):=by
 obtain ⟨h1,h2,h3⟩:=h
 have hp:=cutPl_pos (l.drop at_) (by simp;omega)
 have hb:=cutPl_bounds (l.drop at_)
 simp at hb
 refine ⟨?_,by simp;omega,by omega⟩
 rw [h1,cutL_cons _ (by simp;omega),hm,List.drop_drop];simp
theorem CutSo.done {l:List Int} {at_:Nat} {ps:List (List Int)} (h:CutSo l at_ ps) (hge:l.length ≤ at_):cutL l = ps:=by
 rw [h.1,cutL_nil _ (by simp;omega)];simp
def CutV (w w':World) (v:Value) (ps:List (List Int)):Prop :=
 ∃ vs,w'.ownsRow w.heap.size 33 1 v ps.length vs ∧ (∀ (j:Nat) u p,vs[j]? = some u → ps[j]? = some p → Sl w' 5 1 u p.length (u8s p)) ∧ (∀ u ∈ vs,u.oneCell' = true) ∧ Below w.heap.size w w'
theorem CutV.snoc {w wr w2 w3:World} {v v' u:Value} {ps:List (List Int)} {p:List Int} (h:∃ vs,Hid (w3.ownsRow w.heap.size 33 1 v' (ps.length + 1) (vs ++ [u])) ∧ Hid (wr.ownsRow w.heap.size 33 1 v ps.length vs) ∧ Hid (∀ (j:Nat) u p,vs[j]? = some u → ps[j]? = some p → Sl wr 5 1 u p.length (u8s p)) ∧ Hid (∀ u ∈ vs,u.oneCell' = true)) (hb:Below w.heap.size w wr) (h2:Below wr.heap.size wr w2) (hu:w2.ownsRow wr.heap.size 5 1 u p.length (u8s p)) (hp:0 < p.length) (o:Obj) (hg:(w2.alloc o).grownBy w3 v.ownBlock):CutV w w3 v' (ps ++ [p]):=by
 obtain ⟨vs,a1,a2,a3,a4⟩:=h
 have hob:∀ g,v.ownBlock = some g → ∃ arr,wr.heap[g]? = some (.cells arr 33 (0,0)):=fun g hg => own_heap a2.out hg
 have h2a:Below wr.heap.size wr (w2.alloc o):=h2.alloc h2.size o
 have kept:∀ (k:Nat) (arr:Array Value),(w2.alloc o).heap[k]? = some (.cells arr 5 (0,0)) → w3.heap[k]? = some (.cells arr 5 (0,0)):=fun k arr hk => by
  refine (hg.block k (heap_lt hk) (fun e => ?_)).trans hk
  obtain ⟨ar2,har⟩:=hob k e.symm
  have:=Below.heap h2a (Nat.le_refl _) har
  rw [hk] at this
  injection this with this
  injection this with _ h
  exact absurd h (by decide)
 have hl:vs.length = ps.length:=by have:=a2.out.1;simpa using this
 refine ⟨vs ++ [u],by rw [List.length_append];exact a1.out,fun j x q hx hq => ?_,fun x hx => ?_,?_⟩
 ·by_cases hj:j < ps.length
  ·rw [List.getElem?_append_left (by omega)] at hx
   rw [List.getElem?_append_left hj] at hq
   exact ((a3.out j x q hx hq).below h2a).kept kept
  ·rw [List.getElem?_append_right (by omega)] at hx hq
   have hj0:j - vs.length = 0:=by
    have:=(List.getElem?_eq_some_iff.1 hx).1
    simp at this;omega
   rw [hj0] at hx
   rw [show j - ps.length = 0 by omega] at hq
   simp at hx hq
   subst hx;subst hq
   exact ((Sl.of_own hu (u8s_one' _) (.inr hp)).below ((Below.refl _ _).alloc (Nat.le_refl _) o)).kept kept
 ·rcases List.mem_append.1 hx with hx | hx
  ·exact a4.out x hx
  ·simp only [List.mem_singleton] at hx
   subst hx
   obtain ⟨g,cap,cur,rfl,-⟩:=own_pos hu hp
   rfl
 ·have hs:=hb.size
  refine (hb.trans (h2a.mono hs)).grown hg (by have:=h2a.size;omega) (fun k hk => (a2.out.lt k hk).1)
set_option maxRecDepth 100000 in
set_option maxHeartbeats 2000000 in
theorem cut_all (w:World) (A:Option Addr) (n cap:Nat) (l:List Int) (h:BytX w A cap l) (hn:l.length = n) :
  Calls Tryz.prog 58 #[.slice A n cap] w fun e w' => ∃ v2,e = .returned v2 ∧ CutV w w' v2 (cutL l):=by
 obtain ⟨i0,hi,hz0,hz1,hz2⟩:=info_parts info33
 have hn6:n ≤ 1000000:=by have:=h.small;omega
 have HB:=Lib.hid h
 have HN:=Lib.hid hn
 clear h hn
 go_enter Tryz.func58,Tryz.ntmps58
 go_wp2
 go_loopw [3,4,5] (fun v q _ wr => ∃ (at_:Nat) (ps:List (List Int)),q = .int .i64 at_ ∧ Hid (CutSo l at_ ps) ∧ Hid (CutV w wr v ps)) (fun _ q _ _ => n - (intOf q).toNat)
 case atStart => exact ⟨0,[],rfl,⟨by simp,by simp,by simp⟩,⟨[],World.ownsRow_nil _ _ _ _,fun j u p hu => by simp at hu,fun u hu => by simp at hu,Below.refl _ _⟩⟩
 case round =>
  obtain ⟨at_,ps,rfl,hS,hV⟩:=hrel
  have hatn:at_ ≤ n:=by have:=hS.out.2.2;have:=HN.out;omega
  by_cases hlt:at_ < n
  ·obtain ⟨x,hx,hcx,_⟩:=HB.out.cell at_ (by have:=HN.out;omega)
   cases hx
   clear hcx
   obtain ⟨vs,hO,hP,h1,hB⟩:=hV.out
   have HO:=Lib.hid hO
   have HP:=Lib.hid hP
   have H1:=Lib.hid h1
   have HBW:=Lib.hid hB
   have HBr:=Lib.hid (HB.out.below hB)
   clear hO hP h1 hB
   obtain ⟨m,hm⟩:∃ m,Hid (cutPl (l.drop at_) = m):=⟨_,rfl⟩
   have hmb:at_ + m ≤ n ∧ 0 < m:=by
    have h1:=cutPl_bounds (l.drop at_)
    have h2:=cutPl_pos (l.drop at_) (by have:=HN.out;simp;omega)
    have:=hm.out;have:=HN.out;simp at *;omega
   obtain ⟨hm1,hm0⟩:=hmb
   have hcn:n ≤ cap:=by have:=HB.out.le;have:=HN.out;omega
   have hcap:¬ cap = at_:=by omega
   have HSUB:=Lib.hid (HBr.out.sub at_ m (by have:=HN.out;omega))
   have HLEN:Hid (((l.drop at_).take m).length = m):=by show _ = _;have:=HN.out;simp;omega
   have hpl:ps.length + 1 ≤ n:=by have:=hS.out.2.1;omega
   go_wp2_with (go_at_call 103;(with_reducible refine (cutEnds_at _ _ _ l at_ m wr HBr.out HN.out hlt hm.out).mono ?_);rintro e w' ⟨rfl,hw'⟩;have hw':=hw'.symm;subst hw')
   go_wp2_with (first | (go_at_call 104;(with_reducible refine (cloneByte_x wr _ _ _ _ HSUB.out HLEN.out hm0).mono ?_);rintro e w2 ⟨v',rfl,ho,hq⟩;obtain ⟨g',cap',cur,rfl,-,-,-⟩:=own_pos ho hm0;have HO2:=Lib.hid ho;have HQ2:=Lib.hid hq;have OA:Hid (∀ o,(w2.alloc o).ownsRow w.heap.size 33 1 u3 ps.length vs):=Lib.hid (fun o => own_below HO.out (HQ2.out.alloc HQ2.out.size o));clear ho hq) | (at_builtin;refine wp_append_sl rfl _ _ 61 rfl w.heap.size 33 i0 _ 1 24 Tryz.underlying61 hi hz0 hz1 hz2 rfl (by decide) _ ps.length vs rfl (OA.out _) _ 1 [.slice (some ⟨g',0,none⟩) m cap'] rfl (Sl.block (heap_new _ _) rfl (by simp [Value.oneCell']) (by decide) (by decide)) (by omega) (by decide) (by have:=HBW.out.size;have:=HQ2.out.size;simp;omega) ?_;intro v3 w3 hown hgr _ _;have HW3:=Lib.hid hown;have HG3:=Lib.hid hgr;clear hown hgr))
   have HV3:Hid (CutV w w3 v3 (ps ++ [(l.drop at_).take m])):=Lib.hid (CutV.snoc ⟨vs,HW3,HO,HP,H1⟩ HBW.out HQ2.out (by rw [HLEN.out];exact HO2.out) (by rw [HLEN.out];exact hm0) _ HG3.out)
   have HS3:=Lib.hid (hS.out.step (by have:=HN.out;omega) hm.out)
   go_wp2
   go_roundw
   case rel => exact ⟨at_ + m,_,by go_num,HS3,HV3⟩
   case measure => simp [intOf];omega
  ·have HD:=Lib.hid (hS.out.done (by have:=HN.out;omega))
   go_wp2
   go_ret
   exact ⟨_,rfl,by rw [HD.out];exact hV.out⟩
end Go.Proofs.YtaonlcgneemimaaGreatDoor
