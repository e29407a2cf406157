/- TopBatches: the contracts of AS1, AS2, AS3, AS4, AS5; no condition. -/
import Derived.Test.YtaonlcgneemimaaGreatDoorB18
import Derived.Test.YtaonlcgneemimaaGreatDoorB17
namespace Go.Proofs.YtaonlcgneemimaaGreatDoor
open Go.RowKit
structure StateG (w:World) (s a b sm n nb:Nat) (T:TreeF) (next:Int) (S:Int → Option BodyA) (g:Int → Option Value):Prop where
 cell:w.heap[s]? = some (.cells #[.pointer (some ⟨a,0,none⟩),.map (some sm)] 121 (0,0))
 tree:TreeG w a b n T next
 bodies:BodiesAt w sm nb S g
 ne:b ≠ sm
theorem StateG.below {w w':World} {s a b sm n nb:Nat} {T:TreeF} {next:Int} {S:Int → Option BodyA} {g:Int → Option Value} (h:StateG w s a b sm n nb T next S g) (hb:Below w.heap.size w w'):StateG w' s a b sm n nb T next S g :=
 ⟨Below.heap hb (Nat.le_refl _) h.cell,h.tree.below hb,h.bodies.below hb,h.ne⟩
theorem state_boxedG {w1:World} {a b n nb:Nat} {sm:Nat} {T:TreeF} {next:Int} {S:Int → Option BodyA} {g:Int → Option Value} (ht:TreeG w1 a b n T next) (hb:BodiesAt w1 sm nb S g) (hne:b ≠ sm) :
  StateG (w1.alloc (.cells #[.pointer (some ⟨a,0,none⟩),.map (some sm)] 121)) w1.heap.size a b sm n nb T next S g :=
 ⟨heap_new w1 _,ht.below ((Below.refl _ _).alloc (Nat.le_refl _) _),hb.below ((Below.refl _ _).alloc (Nat.le_refl _) _),hne⟩
set_option maxHeartbeats 2000000 in
theorem newState_g (w:World) (hg:∃ m,w.cell? ⟨1,0,none⟩ = some (.int .i64 m)) :
  Calls Tryz.prog 22 #[] w fun e w' => ∃ s a b sm,e = .returned (.pointer (some ⟨s,0,none⟩)) ∧ StateG w' s a b sm 0 0 (fun _ => none) 1 (fun _ => none) (fun _ => none) ∧ (w.heap.size ≤ s ∧ w.heap.size ≤ a ∧ w.heap.size ≤ b ∧ w.heap.size ≤ sm) ∧ Below w.heap.size w w':=by
 have HN:=Lib.hid (newTree_g w hg)
 have hmk:=fun t w => run_makeMap (P:=Tryz.prog) t w
 clear hg
 go_enter Tryz.func22,Tryz.ntmps22
 go_wp2_with (go_at_call 48;refine HN.out.mono ?_;rintro e w1 ⟨rfl,ht,hb,hs⟩;have HT:=Lib.hid ht;have HB:=Lib.hid hb;have HS:=Lib.hid hs;clear ht hb hs)
 go_ret
 have hs:=HS.out
 have h1:(w1.alloc (.map #[] 0)).heap.size = w1.heap.size + 1:=by simp
 refine ⟨w1.heap.size + 1,w.heap.size + 1,w.heap.size,w1.heap.size,rfl,?_,by omega,(HB.out.alloc HB.out.size _).alloc (by simp;omega) _⟩
 have h:=state_boxedG (w1:=w1.alloc (.map #[] 0)) (HT.out.below ((Below.refl _ _).alloc (Nat.le_refl _) _)) (sm:=w1.heap.size) (nb:=0) (S:=fun _ => none) (g:=fun _ => none) ⟨MapX.made KI w1,fun _ _ => rfl,fun id bd h => by cases h⟩ (by omega)
 rw [h1] at h
 exact h
set_option maxRecDepth 100000 in
set_option maxHeartbeats 2000000 in
theorem copyState_g (w:World) (s a b sm n nb:Nat) (T:TreeF) (next:Int) (S:Int → Option BodyA) (g:Int → Option Value) (H:StateG w s a b sm n nb T next S g) :
  Calls Tryz.prog 129 #[.pointer (some ⟨s,0,none⟩)] w fun e w' => ∃ s' a' b' sm',e = .returned (.pointer (some ⟨s',0,none⟩)) ∧ StateG w' s' a' b' sm' n nb T next S g ∧ (w.heap.size ≤ s' ∧ w.heap.size ≤ a' ∧ w.heap.size ≤ b' ∧ w.heap.size ≤ sm') ∧ Below w.heap.size w w':=by
 have HH:=Lib.hid H
 obtain ⟨es,cl,hob⟩:=H.bodies.map.obj
 have HOB:=Lib.hid hob
 have c0:=cellAt H.cell 0
 have c1:=cellAt H.cell 1
 simp only [List.getElem?_toArray,List.getElem?_cons_zero,List.getElem?_cons_succ] at c0 c1
 have hlt:=heap_lt H.cell
 have HK:Hid (∀ W:World,W.heap[s]? = w.heap[s]? → W.cell? ⟨s,0,none⟩ = some (.pointer (some ⟨a,0,none⟩)) ∧ W.cell? ⟨s,1,none⟩ = some (.map (some sm))):=Lib.hid (fun W hW => by
  have h:=hW.trans H.cell
  exact ⟨cellAt h 0,cellAt h 1⟩)
 clear H hob
 go_enter Tryz.func129,Tryz.ntmps129
 go_wp2_with fail
 go_region_held3 (fun W => W.cell? ⟨s,0,none⟩ = some (.pointer (some ⟨a,0,none⟩)) ∧ W.cell? ⟨s,1,none⟩ = some (.map (some sm))) (first | exact HK.out _ rfl | exact k1 | exact k2 | exact k3) (first | (go_at_call 84;refine (copyTree_g w.drew a b n T next (HH.out.tree.below ((Below.refl _ _).drew))).mono ?_;rintro e w1 ⟨rfl,ht,hq,hs⟩;have HT:=Lib.hid ht;have HQ:=Lib.hid (((Below.refl _ w).drew).trans hq);have k1:=HK.out w1 (HQ.out.block s hlt);have HS:=Lib.hid (show w1.heap.size = w.heap.size + 2 from hs);have HOB1:=Lib.hid ((HQ.out.block sm HH.out.bodies.map.lt).trans HOB.out);have k2:=HK.out (w1.alloc (.map es cl)) ((Below.heap_alloc w1 _ s (by have:=HQ.out.size;omega)).trans (HQ.out.block s hlt));have k3:=HK.out ((w1.alloc (.map es cl)).alloc (.cells #[.pointer (some ⟨w.heap.size + 1,0,none⟩),.map (some w1.heap.size)] 121)) ((Below.heap_alloc (w1.alloc (.map es cl)) _ s (by have:=HQ.out.size;simp;omega)).trans ((Below.heap_alloc w1 _ s (by have:=HQ.out.size;omega)).trans (HQ.out.block s hlt)));clear ht hq hs) | (go_at_call 168;refine (mapClone119_any _ sm es cl HOB1.out).mono ?_;rintro e w2 ⟨rfl,rfl⟩))
 go_wp2_with fail
 go_ret
 have hs:=HS.out
 have hsm:=HH.out.bodies.map.lt
 have h1:(w1.alloc (.map es cl)).heap.size = w1.heap.size + 1:=by simp
 refine ⟨w1.heap.size + 1,w.heap.size + 1,w.heap.size,w1.heap.size,rfl,?_,by omega,(HQ.out.alloc HQ.out.size _).alloc (by simp;omega) _⟩
 have hbod:BodiesAt (w1.alloc (.map es cl)) w1.heap.size nb S g:=by
  have h2:=HH.out.bodies.below HQ.out
  refine ⟨h2.map.cloned HOB1.out,h2.none,fun id bd hS => ?_⟩
  obtain ⟨v,a1,a2,a3⟩:=h2.held id bd hS
  exact ⟨v,a1,a2.kept (fun k arr hk => heap_old hk _),a3⟩
 have h:=state_boxedG (w1:=w1.alloc (.map es cl)) (HT.out.below ((Below.refl _ _).alloc (Nat.le_refl _) _)) hbod (show w.heap.size ≠ w1.heap.size by omega)
 rw [h1] at h
 exact h
end Go.Proofs.YtaonlcgneemimaaGreatDoor
namespace Go.Proofs.YtaonlcgneemimaaGreatDoor
open Go.RowKit
def fileG (T:TreeF) (s:ByteArray):Int × Int:=if (lookG T s).2.2 = 0 ∧ (lookG T s).2.1 = true then (0,6) else ((lookG T s).1,(lookG T s).2.2)
def writeG (T:TreeF) (s:ByteArray) (off:Int) (dn:Nat):Int :=
 if (fileG T s).2 ≠ 0 then (fileG T s).2 else if 1024 < dn then 1 else if off < 0 ∨ 1099511627776 - (dn:Int) < off then 9 else 0
def truncG (T:TreeF) (s:ByteArray) (size:Int):Int :=
 if (fileG T s).2 = 0 ∧ (size < 0 ∨ 1099511627776 < size) then 9 else (fileG T s).2
noncomputable def checkG (T:TreeF) (n:Nat) (op:Int) (p t:ByteArray) (off size:Int) (dn:Nat):Int :=
 if op = 1 ∨ op = 2 then canG T n p
 else if op = 3 then writeG T p off dn
 else if op = 4 then truncG T p size
 else if op = 5 then canRenG T p t
 else if op = 6 then canDropG T p false
 else if op = 7 then canDropG T p true
 else if op = 8 then (if nameOk p = true then 0 else 11)
 else 1
set_option maxRecDepth 100000 in
set_option maxHeartbeats 2000000 in
theorem file_g (w:World) (s a b sm n nb:Nat) (T:TreeF) (next:Int) (S:Int → Option BodyA) (g:Int → Option Value) (H:StateG w s a b sm n nb T next S g) (p:ByteArray) (hp:p.size ≤ 1000000) :
  Calls Tryz.prog 63 #[.pointer (some ⟨s,0,none⟩),.string p] w fun e w' => e = .returned (.tuple #[.int .i64 (fileG T p).1,.int .i64 (fileG T p).2]) ∧ Below w.heap.size w w':=by
 have HL:=Lib.hid (look_g w a b n T next H.tree p hp)
 have c0:w.cell? ⟨s,0,none⟩ = some (.pointer (some ⟨a,0,none⟩)):=cellAt H.cell 0
 obtain ⟨ri,rd,re,hR⟩:∃ ri rd re,lookG T p = (ri,rd,re):=⟨_,_,_,rfl⟩
 rw [hR] at HL
 obtain ⟨F1,F2,hF⟩:∃ F1 F2,fileG T p = (F1,F2):=⟨_,_,rfl⟩
 rw [hF]
 unfold fileG at hF
 rw [hR] at hF
 simp only at hF ⊢
 clear H hR
 by_cases h6:re = 0 ∧ rd = true
 ·rw [if_pos h6] at hF
  obtain ⟨rfl,rfl⟩:=h6
  simp only [Prod.mk.injEq] at hF
  obtain ⟨rfl,rfl⟩:=hF
  go_enter Tryz.func63,Tryz.ntmps63
  go_wp2_with (go_at_call 87;with_reducible refine HL.out.mono ?_;rintro e w1 ⟨rfl,hq⟩;have HQ:=Lib.hid hq;clear hq;unfold lookR)
  go_ret2
  exact ⟨rfl,HQ.out⟩
 ·rw [if_neg h6] at hF
  simp only [Prod.mk.injEq] at hF
  obtain ⟨rfl,rfl⟩:=hF
  by_cases hre:re = 0
  ·subst hre
   have hrd:rd = false:=by simpa using h6
   subst hrd
   clear h6
   go_enter Tryz.func63,Tryz.ntmps63
   go_wp2_with (go_at_call 87;with_reducible refine HL.out.mono ?_;rintro e w1 ⟨rfl,hq⟩;have HQ:=Lib.hid hq;clear hq;unfold lookR)
   go_ret2
   exact ⟨rfl,HQ.out⟩
  ·have d1:(re == 0) = false:=by simpa using hre
   clear h6
   go_enter Tryz.func63,Tryz.ntmps63
   go_wp2_with (go_at_call 87;with_reducible refine HL.out.mono ?_;rintro e w1 ⟨rfl,hq⟩;have HQ:=Lib.hid hq;clear hq;unfold lookR)
   go_ret2
   exact ⟨rfl,HQ.out⟩
set_option maxRecDepth 100000 in
set_option maxHeartbeats 4000000 in
theorem stateWrite_g (w:World) (s a b sm n nb:Nat) (T:TreeF) (next:Int) (S:Int → Option BodyA) (g:Int → Option Value) (H:StateG w s a b sm n nb T next S g) (p:ByteArray) (hp:p.size ≤ 1000000)
  (op off size:Int) (tt:ByteArray) (da:Option Addr) (dn dc:Nat) (hd:dn ≤ 9223372036854775807) :
  Calls Tryz.prog 50 #[.pointer (some ⟨s,0,none⟩),.agg #[.int .i64 op,.string p,.string tt,.int .i64 off,.int .i64 size,.slice da dn dc]] w fun e w' => e = .returned (.int .i64 (writeG T p off dn)) ∧ Below w.heap.size w w':=by
 have HF:=Lib.hid (fun w' (hb:Below w.heap.size w w') => file_g w' s a b sm n nb T next S g (H.below hb) p hp)
 have e1:=IntWalk.wrap64_in (1099511627776 - (dn:Int)) (by omega)
 obtain ⟨F1,F2,hF⟩:∃ F1 F2,fileG T p = (F1,F2):=⟨_,_,rfl⟩
 obtain ⟨C,hC⟩:∃ C,C = writeG T p off dn:=⟨_,rfl⟩
 rw [← hC]
 unfold writeG at hC
 rw [hF] at hC HF
 simp only at hC
 clear H hF
 by_cases hf:F2 ≠ 0
 ·rw [if_pos hf] at hC
  subst hC
  have d1:(C != 0) = true:=by simpa using hf
  have d2:(C == 0) = false:=by simpa using hf
  go_enter Tryz.func50,Tryz.ntmps50
  go_wp2_with (go_at_call 63;refine (HF.out _ ((Below.refl _ _).alloc (Nat.le_refl _) _)).mono ?_;rintro e w1 ⟨rfl,hq⟩;have HQ:=Lib.hid hq;clear hq)
  go_ret
  exact ⟨rfl,((Below.refl _ w).alloc (Nat.le_refl _) _).trans (HQ.out.mono (by simp))⟩
 rw [if_neg hf] at hC
 have hf:F2 = 0:=by simpa using hf
 subst hf
 by_cases h1:1024 < dn
 ·rw [if_pos h1] at hC
  subst hC
  have d1:decide ((1024:Int) < dn) = true:=by simp;omega
  go_enter Tryz.func50,Tryz.ntmps50
  go_wp2_with (go_at_call 63;refine (HF.out _ ((Below.refl _ _).alloc (Nat.le_refl _) _)).mono ?_;rintro e w1 ⟨rfl,hq⟩;have HQ:=Lib.hid hq;have hx:=Below.heap hq (Nat.le_refl _) (heap_new w _);have x3:w1.cell? ⟨w.heap.size,3,none⟩ = some (.int .i64 off):=(cellAt hx 3);have x5:w1.cell? ⟨w.heap.size,5,none⟩ = some (.slice da dn dc):=(cellAt hx 5);clear hq hx)
  go_ret
  exact ⟨rfl,((Below.refl _ w).alloc (Nat.le_refl _) _).trans (HQ.out.mono (by simp))⟩
 rw [if_neg h1] at hC
 have d1:decide ((1024:Int) < dn) = false:=by simp;omega
 by_cases h2:off < 0
 ·rw [if_pos (.inl h2)] at hC
  subst hC
  go_enter Tryz.func50,Tryz.ntmps50
  go_wp2_with (go_at_call 63;refine (HF.out _ ((Below.refl _ _).alloc (Nat.le_refl _) _)).mono ?_;rintro e w1 ⟨rfl,hq⟩;have HQ:=Lib.hid hq;have hx:=Below.heap hq (Nat.le_refl _) (heap_new w _);have x3:w1.cell? ⟨w.heap.size,3,none⟩ = some (.int .i64 off):=(cellAt hx 3);have x5:w1.cell? ⟨w.heap.size,5,none⟩ = some (.slice da dn dc):=(cellAt hx 5);clear hq hx)
  go_ret
  exact ⟨rfl,((Below.refl _ w).alloc (Nat.le_refl _) _).trans (HQ.out.mono (by simp))⟩
 have d2:decide (off < 0) = false:=by simpa using h2
 by_cases h3:1099511627776 - (dn:Int) < off
 ·rw [if_pos (.inr h3)] at hC
  subst hC
  have d3:decide (1099511627776 - (dn:Int) < off) = true:=by simpa using h3
  go_enter Tryz.func50,Tryz.ntmps50
  go_wp2_with (go_at_call 63;refine (HF.out _ ((Below.refl _ _).alloc (Nat.le_refl _) _)).mono ?_;rintro e w1 ⟨rfl,hq⟩;have HQ:=Lib.hid hq;have hx:=Below.heap hq (Nat.le_refl _) (heap_new w _);have x3:w1.cell? ⟨w.heap.size,3,none⟩ = some (.int .i64 off):=(cellAt hx 3);have x5:w1.cell? ⟨w.heap.size,5,none⟩ = some (.slice da dn dc):=(cellAt hx 5);clear hq hx)
  go_ret
  exact ⟨rfl,((Below.refl _ w).alloc (Nat.le_refl _) _).trans (HQ.out.mono (by simp))⟩
 ·rw [if_neg (fun h => h.elim h2 h3)] at hC
  subst hC
  have d3:decide (1099511627776 - (dn:Int) < off) = false:=by simpa using h3
  go_enter Tryz.func50,Tryz.ntmps50
  go_wp2_with (go_at_call 63;refine (HF.out _ ((Below.refl _ _).alloc (Nat.le_refl _) _)).mono ?_;rintro e w1 ⟨rfl,hq⟩;have HQ:=Lib.hid hq;have hx:=Below.heap hq (Nat.le_refl _) (heap_new w _);have x3:w1.cell? ⟨w.heap.size,3,none⟩ = some (.int .i64 off):=(cellAt hx 3);have x5:w1.cell? ⟨w.heap.size,5,none⟩ = some (.slice da dn dc):=(cellAt hx 5);clear hq hx)
  go_ret
  exact ⟨rfl,((Below.refl _ w).alloc (Nat.le_refl _) _).trans (HQ.out.mono (by simp))⟩
set_option maxRecDepth 100000 in
set_option maxHeartbeats 4000000 in
theorem stateTrunc_g (w:World) (s a b sm n nb:Nat) (T:TreeF) (next:Int) (S:Int → Option BodyA) (g:Int → Option Value) (H:StateG w s a b sm n nb T next S g) (p:ByteArray) (hp:p.size ≤ 1000000)
  (op off size:Int) (tt:ByteArray) (da:Option Addr) (dn dc:Nat) :
  Calls Tryz.prog 51 #[.pointer (some ⟨s,0,none⟩),.agg #[.int .i64 op,.string p,.string tt,.int .i64 off,.int .i64 size,.slice da dn dc]] w fun e w' => e = .returned (.int .i64 (truncG T p size)) ∧ Below w.heap.size w w':=by
 have HF:=Lib.hid (fun w' (hb:Below w.heap.size w w') => file_g w' s a b sm n nb T next S g (H.below hb) p hp)
 obtain ⟨F1,F2,hF⟩:∃ F1 F2,fileG T p = (F1,F2):=⟨_,_,rfl⟩
 obtain ⟨C,hC⟩:∃ C,C = truncG T p size:=⟨_,rfl⟩
 rw [← hC]
 unfold truncG at hC
 rw [hF] at hC HF
 simp only at hC
 clear H hF
 by_cases hf:F2 ≠ 0
 ·rw [if_neg (fun h => hf h.1)] at hC
  subst hC
  have d2:(C == 0) = false:=by simpa using hf
  go_enter Tryz.func51,Tryz.ntmps51
  go_wp2_with (go_at_call 63;refine (HF.out _ ((Below.refl _ _).alloc (Nat.le_refl _) _)).mono ?_;rintro e w1 ⟨rfl,hq⟩;have HQ:=Lib.hid hq;have hx:=Below.heap hq (Nat.le_refl _) (heap_new w _);have x4:w1.cell? ⟨w.heap.size,4,none⟩ = some (.int .i64 size):=(cellAt hx 4);clear hq hx)
  go_ret
  exact ⟨rfl,((Below.refl _ w).alloc (Nat.le_refl _) _).trans (HQ.out.mono (by simp))⟩
 have hf:F2 = 0:=by simpa using hf
 subst hf
 by_cases h2:size < 0
 ·rw [if_pos ⟨rfl,.inl h2⟩] at hC
  subst hC
  go_enter Tryz.func51,Tryz.ntmps51
  go_wp2_with (go_at_call 63;refine (HF.out _ ((Below.refl _ _).alloc (Nat.le_refl _) _)).mono ?_;rintro e w1 ⟨rfl,hq⟩;have HQ:=Lib.hid hq;have hx:=Below.heap hq (Nat.le_refl _) (heap_new w _);have x4:w1.cell? ⟨w.heap.size,4,none⟩ = some (.int .i64 size):=(cellAt hx 4);clear hq hx)
  go_ret
  exact ⟨rfl,((Below.refl _ w).alloc (Nat.le_refl _) _).trans (HQ.out.mono (by simp))⟩
 have d2:decide (size < 0) = false:=by simpa using h2
 by_cases h3:1099511627776 < size
 ·rw [if_pos ⟨rfl,.inr h3⟩] at hC
  subst hC
  go_enter Tryz.func51,Tryz.ntmps51
  go_wp2_with (go_at_call 63;refine (HF.out _ ((Below.refl _ _).alloc (Nat.le_refl _) _)).mono ?_;rintro e w1 ⟨rfl,hq⟩;have HQ:=Lib.hid hq;have hx:=Below.heap hq (Nat.le_refl _) (heap_new w _);have x4:w1.cell? ⟨w.heap.size,4,none⟩ = some (.int .i64 size):=(cellAt hx 4);clear hq hx)
  go_ret
  exact ⟨rfl,((Below.refl _ w).alloc (Nat.le_refl _) _).trans (HQ.out.mono (by simp))⟩
 ·rw [if_neg (fun h => h.2.elim h2 h3)] at hC
  subst hC
  have d3:decide (1099511627776 < size) = false:=by simpa using h3
  go_enter Tryz.func51,Tryz.ntmps51
  go_wp2_with (go_at_call 63;refine (HF.out _ ((Below.refl _ _).alloc (Nat.le_refl _) _)).mono ?_;rintro e w1 ⟨rfl,hq⟩;have HQ:=Lib.hid hq;have hx:=Below.heap hq (Nat.le_refl _) (heap_new w _);have x4:w1.cell? ⟨w.heap.size,4,none⟩ = some (.int .i64 size):=(cellAt hx 4);clear hq hx)
  go_ret
  exact ⟨rfl,((Below.refl _ w).alloc (Nat.le_refl _) _).trans (HQ.out.mono (by simp))⟩
end Go.Proofs.YtaonlcgneemimaaGreatDoor
namespace Go.Proofs.YtaonlcgneemimaaGreatDoor
open Go.RowKit
set_option maxRecDepth 100000 in
set_option maxHeartbeats 8000000 in
theorem check_g (w:World) (s a b sm n nb:Nat) (T:TreeF) (next:Int) (S:Int → Option BodyA) (g:Int → Option Value) (H:StateG w s a b sm n nb T next S g) (hn:n ≤ 100000) (op:Int) (p tt:ByteArray) (hp:p.size ≤ 1000000) (ht:tt.size ≤ 1000000)
  (off size:Int) (da:Option Addr) (dn dc:Nat) (hd:dn ≤ 9223372036854775807) :
  Calls Tryz.prog 23 #[.pointer (some ⟨s,0,none⟩),.agg #[.int .i64 op,.string p,.string tt,.int .i64 off,.int .i64 size,.slice da dn dc]] w fun e w' => e = .returned (.int .i64 (checkG T n op p tt off size dn)) ∧ Below w.heap.size w w':=by
 have HB0:Hid (∀ o,Below w.heap.size w (w.alloc o)):=Lib.hid (fun o => (Below.refl _ _).alloc (Nat.le_refl _) _)
 have HH:=Lib.hid H
 have hs0:=heap_lt H.cell
 clear H
 by_cases h1:op = 1
 ·subst h1
  have hC:checkG T n 1 p tt off size dn = canG T n p:=by simp [checkG]
  rw [hC]
  clear hC
  obtain ⟨C,hC⟩:∃ C,Hid (C = canG T n p):=⟨_,Lib.hid rfl⟩
  rw [← hC.out]
  have HX:=Lib.hid (heap_old HH.out.cell (.cells #[.int .i64 1,.string p,.string tt,.int .i64 off,.int .i64 size,.slice da dn dc] 35))
  have HY:=Lib.hid (heap_new w (.cells #[.int .i64 1,.string p,.string tt,.int .i64 off,.int .i64 size,.slice da dn dc] 35))
  have HC:=Lib.hid (fun W (hb:Below w.heap.size w W) => (by have:=can_g W a b n T next (HH.out.tree.below hb) p hp (by omega);rw [← hC.out] at this;exact this))
  have HK:Hid (∀ W:World,Below (w.alloc (.cells #[.int .i64 1,.string p,.string tt,.int .i64 off,.int .i64 size,.slice da dn dc] 35)).heap.size (w.alloc (.cells #[.int .i64 1,.string p,.string tt,.int .i64 off,.int .i64 size,.slice da dn dc] 35)) W → W.cell? ⟨s,0,none⟩ = some (.pointer (some ⟨a,0,none⟩)) ∧ W.cell? ⟨w.heap.size,1,none⟩ = some (.string p)):=Lib.hid (fun W hW => ⟨cellAt (Below.heap hW (Nat.le_refl _) HX.out) 0,cellAt (Below.heap hW (Nat.le_refl _) HY.out) 1⟩)
  have x1:(w.alloc (.cells #[.int .i64 1,.string p,.string tt,.int .i64 off,.int .i64 size,.slice da dn dc] 35)).cell? ⟨w.heap.size,1,none⟩ = some (.string p):=cellAt HY.out 1
  have xs:(w.alloc (.cells #[.int .i64 1,.string p,.string tt,.int .i64 off,.int .i64 size,.slice da dn dc] 35)).cell? ⟨s,0,none⟩ = some (.pointer (some ⟨a,0,none⟩)):=cellAt HX.out 0
  go_enter Tryz.func23,Tryz.ntmps23
  go_wp2_with fail
  go_region_held3 (fun W => W.cell? ⟨s,0,none⟩ = some (.pointer (some ⟨a,0,none⟩)) ∧ W.cell? ⟨w.heap.size,1,none⟩ = some (.string p)) (first | exact HK.out _ ((Below.refl _ _).drew) | exact k1) (first | (go_at_call 49;refine (HC.out _ (HB0.out _).drew).mono ?_;rintro e w1 ⟨rfl,hq⟩;have HQ:=Lib.hid ((HB0.out _).drew.trans (hq.mono (HB0.out _).drew.size));have k1:=HK.out w1 (((Below.refl _ _).drew).trans hq);clear hq))
  go_wp2_with fail
  go_ret
  exact ⟨rfl,HQ.out⟩
 by_cases h2:op = 2
 ·subst h2
  have hC:checkG T n 2 p tt off size dn = canG T n p:=by simp [checkG]
  rw [hC]
  clear hC
  obtain ⟨C,hC⟩:∃ C,Hid (C = canG T n p):=⟨_,Lib.hid rfl⟩
  rw [← hC.out]
  have HX:=Lib.hid (heap_old HH.out.cell (.cells #[.int .i64 2,.string p,.string tt,.int .i64 off,.int .i64 size,.slice da dn dc] 35))
  have HY:=Lib.hid (heap_new w (.cells #[.int .i64 2,.string p,.string tt,.int .i64 off,.int .i64 size,.slice da dn dc] 35))
  have HC:=Lib.hid (fun W (hb:Below w.heap.size w W) => (by have:=can_g W a b n T next (HH.out.tree.below hb) p hp (by omega);rw [← hC.out] at this;exact this))
  have HK:Hid (∀ W:World,Below (w.alloc (.cells #[.int .i64 2,.string p,.string tt,.int .i64 off,.int .i64 size,.slice da dn dc] 35)).heap.size (w.alloc (.cells #[.int .i64 2,.string p,.string tt,.int .i64 off,.int .i64 size,.slice da dn dc] 35)) W → W.cell? ⟨s,0,none⟩ = some (.pointer (some ⟨a,0,none⟩)) ∧ W.cell? ⟨w.heap.size,1,none⟩ = some (.string p)):=Lib.hid (fun W hW => ⟨cellAt (Below.heap hW (Nat.le_refl _) HX.out) 0,cellAt (Below.heap hW (Nat.le_refl _) HY.out) 1⟩)
  have x1:(w.alloc (.cells #[.int .i64 2,.string p,.string tt,.int .i64 off,.int .i64 size,.slice da dn dc] 35)).cell? ⟨w.heap.size,1,none⟩ = some (.string p):=cellAt HY.out 1
  have xs:(w.alloc (.cells #[.int .i64 2,.string p,.string tt,.int .i64 off,.int .i64 size,.slice da dn dc] 35)).cell? ⟨s,0,none⟩ = some (.pointer (some ⟨a,0,none⟩)):=cellAt HX.out 0
  go_enter Tryz.func23,Tryz.ntmps23
  go_wp2_with fail
  go_region_held3 (fun W => W.cell? ⟨s,0,none⟩ = some (.pointer (some ⟨a,0,none⟩)) ∧ W.cell? ⟨w.heap.size,1,none⟩ = some (.string p)) (first | exact HK.out _ ((Below.refl _ _).drew) | exact k1) (first | (go_at_call 49;refine (HC.out _ (HB0.out _).drew).mono ?_;rintro e w1 ⟨rfl,hq⟩;have HQ:=Lib.hid ((HB0.out _).drew.trans (hq.mono (HB0.out _).drew.size));have k1:=HK.out w1 (((Below.refl _ _).drew).trans hq);clear hq))
  go_wp2_with fail
  go_ret
  exact ⟨rfl,HQ.out⟩
 by_cases h3:op = 3
 ·subst h3
  have hC:checkG T n 3 p tt off size dn = writeG T p off dn:=by simp [checkG]
  rw [hC]
  clear hC
  obtain ⟨C,hC⟩:∃ C,Hid (C = writeG T p off dn):=⟨_,Lib.hid rfl⟩
  rw [← hC.out]
  have HC:=Lib.hid (fun W (hb:Below w.heap.size w W) => (by have:=stateWrite_g W s a b sm n nb T next S g (HH.out.below hb) p hp 3 off size tt da dn dc hd;rw [← hC.out] at this;exact this))
  go_enter Tryz.func23,Tryz.ntmps23
  go_wp2_with (go_at_call 50;refine (HC.out _ (HB0.out _)).mono ?_;rintro e w1 ⟨rfl,hq⟩;have HQ:=Lib.hid ((HB0.out _).trans (hq.mono (HB0.out _).size));clear hq)
  go_ret
  exact ⟨rfl,HQ.out⟩
 by_cases h4:op = 4
 ·subst h4
  have hC:checkG T n 4 p tt off size dn = truncG T p size:=by simp [checkG]
  rw [hC]
  clear hC
  obtain ⟨C,hC⟩:∃ C,Hid (C = truncG T p size):=⟨_,Lib.hid rfl⟩
  rw [← hC.out]
  have HC:=Lib.hid (fun W (hb:Below w.heap.size w W) => (by have:=stateTrunc_g W s a b sm n nb T next S g (HH.out.below hb) p hp 4 off size tt da dn dc;rw [← hC.out] at this;exact this))
  go_enter Tryz.func23,Tryz.ntmps23
  go_wp2_with (go_at_call 51;refine (HC.out _ (HB0.out _)).mono ?_;rintro e w1 ⟨rfl,hq⟩;have HQ:=Lib.hid ((HB0.out _).trans (hq.mono (HB0.out _).size));clear hq)
  go_ret
  exact ⟨rfl,HQ.out⟩
 by_cases h5:op = 5
 ·subst h5
  have hC:checkG T n 5 p tt off size dn = canRenG T p tt:=by simp [checkG]
  rw [hC]
  clear hC
  obtain ⟨C,hC⟩:∃ C,Hid (C = canRenG T p tt):=⟨_,Lib.hid rfl⟩
  rw [← hC.out]
  have HX:=Lib.hid (heap_old HH.out.cell (.cells #[.int .i64 5,.string p,.string tt,.int .i64 off,.int .i64 size,.slice da dn dc] 35))
  have HY:=Lib.hid (heap_new w (.cells #[.int .i64 5,.string p,.string tt,.int .i64 off,.int .i64 size,.slice da dn dc] 35))
  have HC:=Lib.hid (fun W (hb:Below w.heap.size w W) => (by have:=canRename_g W a b n T next (HH.out.tree.below hb) p tt hp ht hn;rw [← hC.out] at this;exact this))
  have HK:Hid (∀ W:World,Below (w.alloc (.cells #[.int .i64 5,.string p,.string tt,.int .i64 off,.int .i64 size,.slice da dn dc] 35)).heap.size (w.alloc (.cells #[.int .i64 5,.string p,.string tt,.int .i64 off,.int .i64 size,.slice da dn dc] 35)) W → W.cell? ⟨s,0,none⟩ = some (.pointer (some ⟨a,0,none⟩)) ∧ W.cell? ⟨w.heap.size,1,none⟩ = some (.string p) ∧ W.cell? ⟨w.heap.size,2,none⟩ = some (.string tt)):=Lib.hid (fun W hW => ⟨cellAt (Below.heap hW (Nat.le_refl _) HX.out) 0,cellAt (Below.heap hW (Nat.le_refl _) HY.out) 1,cellAt (Below.heap hW (Nat.le_refl _) HY.out) 2⟩)
  have x1:(w.alloc (.cells #[.int .i64 5,.string p,.string tt,.int .i64 off,.int .i64 size,.slice da dn dc] 35)).cell? ⟨w.heap.size,1,none⟩ = some (.string p):=cellAt HY.out 1
  have x2:(w.alloc (.cells #[.int .i64 5,.string p,.string tt,.int .i64 off,.int .i64 size,.slice da dn dc] 35)).cell? ⟨w.heap.size,2,none⟩ = some (.string tt):=cellAt HY.out 2
  have xs:(w.alloc (.cells #[.int .i64 5,.string p,.string tt,.int .i64 off,.int .i64 size,.slice da dn dc] 35)).cell? ⟨s,0,none⟩ = some (.pointer (some ⟨a,0,none⟩)):=cellAt HX.out 0
  go_enter Tryz.func23,Tryz.ntmps23
  go_wp2_with fail
  go_region_held3 (fun W => W.cell? ⟨s,0,none⟩ = some (.pointer (some ⟨a,0,none⟩)) ∧ W.cell? ⟨w.heap.size,1,none⟩ = some (.string p) ∧ W.cell? ⟨w.heap.size,2,none⟩ = some (.string tt)) (first | exact HK.out _ ((Below.refl _ _).drew) | exact k1) (first | (go_at_call 52;refine (HC.out _ (HB0.out _).drew).mono ?_;rintro e w1 ⟨rfl,hq⟩;have HQ:=Lib.hid ((HB0.out _).drew.trans (hq.mono (HB0.out _).drew.size));have k1:=HK.out w1 (((Below.refl _ _).drew).trans hq);clear hq))
  go_wp2_with fail
  go_ret
  exact ⟨rfl,HQ.out⟩
 by_cases h6:op = 6
 ·subst h6
  have hC:checkG T n 6 p tt off size dn = canDropG T p false:=by simp [checkG]
  rw [hC]
  clear hC
  obtain ⟨C,hC⟩:∃ C,Hid (C = canDropG T p false):=⟨_,Lib.hid rfl⟩
  rw [← hC.out]
  have HX:=Lib.hid (heap_old HH.out.cell (.cells #[.int .i64 6,.string p,.string tt,.int .i64 off,.int .i64 size,.slice da dn dc] 35))
  have HY:=Lib.hid (heap_new w (.cells #[.int .i64 6,.string p,.string tt,.int .i64 off,.int .i64 size,.slice da dn dc] 35))
  have HC:=Lib.hid (fun W (hb:Below w.heap.size w W) => (by have:=canDrop_g W a b n T next (HH.out.tree.below hb) p hp hn false;rw [← hC.out] at this;exact this))
  have HK:Hid (∀ W:World,Below (w.alloc (.cells #[.int .i64 6,.string p,.string tt,.int .i64 off,.int .i64 size,.slice da dn dc] 35)).heap.size (w.alloc (.cells #[.int .i64 6,.string p,.string tt,.int .i64 off,.int .i64 size,.slice da dn dc] 35)) W → W.cell? ⟨s,0,none⟩ = some (.pointer (some ⟨a,0,none⟩)) ∧ W.cell? ⟨w.heap.size,1,none⟩ = some (.string p) ∧ W.cell? ⟨w.heap.size,0,none⟩ = some (.int .i64 6)):=Lib.hid (fun W hW => ⟨cellAt (Below.heap hW (Nat.le_refl _) HX.out) 0,cellAt (Below.heap hW (Nat.le_refl _) HY.out) 1,cellAt (Below.heap hW (Nat.le_refl _) HY.out) 0⟩)
  have x1:(w.alloc (.cells #[.int .i64 6,.string p,.string tt,.int .i64 off,.int .i64 size,.slice da dn dc] 35)).cell? ⟨w.heap.size,1,none⟩ = some (.string p):=cellAt HY.out 1
  have x0:(w.alloc (.cells #[.int .i64 6,.string p,.string tt,.int .i64 off,.int .i64 size,.slice da dn dc] 35)).cell? ⟨w.heap.size,0,none⟩ = some (.int .i64 6):=cellAt HY.out 0
  have xs:(w.alloc (.cells #[.int .i64 6,.string p,.string tt,.int .i64 off,.int .i64 size,.slice da dn dc] 35)).cell? ⟨s,0,none⟩ = some (.pointer (some ⟨a,0,none⟩)):=cellAt HX.out 0
  go_enter Tryz.func23,Tryz.ntmps23
  go_wp2_with fail
  go_region_held3 (fun W => W.cell? ⟨s,0,none⟩ = some (.pointer (some ⟨a,0,none⟩)) ∧ W.cell? ⟨w.heap.size,1,none⟩ = some (.string p) ∧ W.cell? ⟨w.heap.size,0,none⟩ = some (.int .i64 6)) (first | exact HK.out _ ((Below.refl _ _).drew) | exact k1) (first | (go_at_call 53;refine (HC.out _ (HB0.out _).drew).mono ?_;rintro e w1 ⟨rfl,hq⟩;have HQ:=Lib.hid ((HB0.out _).drew.trans (hq.mono (HB0.out _).drew.size));have k1:=HK.out w1 (((Below.refl _ _).drew).trans hq);clear hq))
  go_wp2_with fail
  go_ret
  exact ⟨rfl,HQ.out⟩
 by_cases h7:op = 7
 ·subst h7
  have hC:checkG T n 7 p tt off size dn = canDropG T p true:=by simp [checkG]
  rw [hC]
  clear hC
  obtain ⟨C,hC⟩:∃ C,Hid (C = canDropG T p true):=⟨_,Lib.hid rfl⟩
  rw [← hC.out]
  have HX:=Lib.hid (heap_old HH.out.cell (.cells #[.int .i64 7,.string p,.string tt,.int .i64 off,.int .i64 size,.slice da dn dc] 35))
  have HY:=Lib.hid (heap_new w (.cells #[.int .i64 7,.string p,.string tt,.int .i64 off,.int .i64 size,.slice da dn dc] 35))
  have HC:=Lib.hid (fun W (hb:Below w.heap.size w W) => (by have:=canDrop_g W a b n T next (HH.out.tree.below hb) p hp hn true;rw [← hC.out] at this;exact this))
  have HK:Hid (∀ W:World,Below (w.alloc (.cells #[.int .i64 7,.string p,.string tt,.int .i64 off,.int .i64 size,.slice da dn dc] 35)).heap.size (w.alloc (.cells #[.int .i64 7,.string p,.string tt,.int .i64 off,.int .i64 size,.slice da dn dc] 35)) W → W.cell? ⟨s,0,none⟩ = some (.pointer (some ⟨a,0,none⟩)) ∧ W.cell? ⟨w.heap.size,1,none⟩ = some (.string p) ∧ W.cell? ⟨w.heap.size,0,none⟩ = some (.int .i64 7)):=Lib.hid (fun W hW => ⟨cellAt (Below.heap hW (Nat.le_refl _) HX.out) 0,cellAt (Below.heap hW (Nat.le_refl _) HY.out) 1,cellAt (Below.heap hW (Nat.le_refl _) HY.out) 0⟩)
  have x1:(w.alloc (.cells #[.int .i64 7,.string p,.string tt,.int .i64 off,.int .i64 size,.slice da dn dc] 35)).cell? ⟨w.heap.size,1,none⟩ = some (.string p):=cellAt HY.out 1
  have x0:(w.alloc (.cells #[.int .i64 7,.string p,.string tt,.int .i64 off,.int .i64 size,.slice da dn dc] 35)).cell? ⟨w.heap.size,0,none⟩ = some (.int .i64 7):=cellAt HY.out 0
  have xs:(w.alloc (.cells #[.int .i64 7,.string p,.string tt,.int .i64 off,.int .i64 size,.slice da dn dc] 35)).cell? ⟨s,0,none⟩ = some (.pointer (some ⟨a,0,none⟩)):=cellAt HX.out 0
  go_enter Tryz.func23,Tryz.ntmps23
  go_wp2_with fail
  go_region_held3 (fun W => W.cell? ⟨s,0,none⟩ = some (.pointer (some ⟨a,0,none⟩)) ∧ W.cell? ⟨w.heap.size,1,none⟩ = some (.string p) ∧ W.cell? ⟨w.heap.size,0,none⟩ = some (.int .i64 7)) (first | exact HK.out _ ((Below.refl _ _).drew) | exact k1) (first | (go_at_call 53;refine (HC.out _ (HB0.out _).drew).mono ?_;rintro e w1 ⟨rfl,hq⟩;have HQ:=Lib.hid ((HB0.out _).drew.trans (hq.mono (HB0.out _).drew.size));have k1:=HK.out w1 (((Below.refl _ _).drew).trans hq);clear hq))
  go_wp2_with fail
  go_ret
  exact ⟨rfl,HQ.out⟩
 by_cases h8:op = 8
 ·subst h8
  have hC:checkG T n 8 p tt off size dn = if nameOk p = true then 0 else 11:=by simp [checkG]
  rw [hC]
  clear hC
  have HC:=Lib.hid (fun W => name_any p (by omega) W)
  cases hnm:nameOk p with
  | true =>
   rw [hnm] at HC
   rw [if_pos rfl]
   clear hnm
   go_enter Tryz.func23,Tryz.ntmps23
   go_wp2_with (go_at_call 54;refine (HC.out _).mono ?_;rintro e w1 ⟨rfl,hq⟩;have HQ:Hid (Below w.heap.size w w1):=Lib.hid (by obtain ⟨q,rfl⟩:=hq;exact below_drewN (HB0.out _) q);clear hq)
   go_ret
   exact ⟨rfl,HQ.out⟩
  | false =>
   rw [hnm] at HC
   rw [if_neg (by simp)]
   clear hnm
   go_enter Tryz.func23,Tryz.ntmps23
   go_wp2_with (go_at_call 54;refine (HC.out _).mono ?_;rintro e w1 ⟨rfl,hq⟩;have HQ:Hid (Below w.heap.size w w1):=Lib.hid (by obtain ⟨q,rfl⟩:=hq;exact below_drewN (HB0.out _) q);clear hq)
   go_ret
   exact ⟨rfl,HQ.out⟩
 have hC:checkG T n op p tt off size dn = 1:=by simp [checkG,h1,h2,h3,h4,h5,h6,h7,h8]
 rw [hC]
 have d1:(op == 1) = false:=by simpa using h1
 have d2:(op == 2) = false:=by simpa using h2
 have d3:(op == 3) = false:=by simpa using h3
 have d4:(op == 4) = false:=by simpa using h4
 have d5:(op == 5) = false:=by simpa using h5
 have d6:(op == 6) = false:=by simpa using h6
 have d7:(op == 7) = false:=by simpa using h7
 have d8:(op == 8) = false:=by simpa using h8
 clear h1 h2 h3 h4 h5 h6 h7 h8 hC
 go_enter Tryz.func23,Tryz.ntmps23
 go_wp2_with fail
 go_ret
 exact ⟨rfl,HB0.out _⟩
end Go.Proofs.YtaonlcgneemimaaGreatDoor
namespace Go.Proofs.YtaonlcgneemimaaGreatDoor
open Go.RowKit
theorem TreeG.frame {M:List Nat} {w w':World} {a b n:Nat} {T:TreeF} {next:Int} (h:TreeG w a b n T next) (hf:Frame M w w') (ha:a ∉ M) (hb:b ∉ M) (h1:1 ∉ M):TreeG w' a b n T next:=by
 refine ⟨hf.heap h.cell ha,h.map.same (hf.block b h.map.lt hb),?_,h.small⟩
 obtain ⟨m,hm⟩:=h.glob
 exact ⟨m,(hf.cell (p:=⟨1,0,none⟩) (World.block_lt_of_cell? w _ hm) h1).trans hm⟩
set_option maxRecDepth 100000 in
set_option maxHeartbeats 4000000 in
theorem applyCreate_g (w:World) (s a b sm n nb:Nat) (T:TreeF) (next:Int) (S:Int → Option BodyA) (g:Int → Option Value) (H:StateG w s a b sm n nb T next S g) (p:ByteArray) (hp:p.size ≤ 1000000)
  (off size:Int) (tt:ByteArray) (htt:tt.size ≤ 1000000) (da:Option Addr) (dn dc:Nat) (lv:Value) (hd:dn ≤ 9223372036854775807) (hcan:canG T n p = 0) (hnx:0 ≤ next ∧ next ≤ 4611686018427387904) (hnb:nb ≤ 1000000) :
  Calls Tryz.prog 30 #[.pointer (some ⟨s,0,none⟩),.agg #[.int .i64 1,.string p,.string tt,.int .i64 off,.int .i64 size,.slice da dn dc],lv] w fun e w' => e = .returned (.int .i64 0) ∧ ∃ nb' g',nb' ≤ nb + 1 ∧ StateG w' s a b sm (n + 1) nb' (gset T p (some (next,false))) (next + 1) (bset S next (some ⟨0,[]⟩)) g' ∧ Frame [a,b,sm] w w':=by
 have HH:=Lib.hid H
 have hn64:=(canG_zero hcan).2
 have hb0:∀ o,Below w.heap.size w (w.alloc o):=fun o => (Below.refl _ _).alloc (Nat.le_refl _) _
 have HC:=Lib.hid (fun w' (hb:Below w.heap.size w w') => (by have:=check_g w' s a b sm n nb T next S g (H.below hb) (by omega) 1 p tt hp htt off size da dn dc hd;rw [show checkG T n 1 p tt off size dn = 0 by simp [checkG,hcan]] at this;exact this))
 have HMK:=Lib.hid (fun w' (hb:Below w.heap.size w w') => make_ok w' a b n T next (H.tree.below hb) p hp false hcan hnx (H.tree.below hb).ne1)
 have hs0:=heap_lt H.cell
 obtain ⟨es,cl,hob⟩:=H.tree.map.obj
 have hsa:s ≠ a:=heap_type_ne H.cell H.tree.cell (by decide)
 have hsb:s ≠ b:=heap_map_ne H.cell hob
 have hal:=heap_lt H.tree.cell
 have hbl:=heap_lt hob
 have hsm:s ≠ sm:=by obtain ⟨es2,cl2,ob2⟩:=H.bodies.map.obj;exact heap_map_ne H.cell ob2
 have hasm:a ≠ sm:=by obtain ⟨es2,cl2,ob2⟩:=H.bodies.map.obj;exact heap_map_ne H.tree.cell ob2
 have h1sm:1 ≠ sm:=H.bodies.map.ne1 H.tree.glob
 have hbsm:=H.ne
 have HOBB:=Lib.hid hob
 clear H hob
 go_enter Tryz.func30,Tryz.ntmps30
 go_wp2_with (go_at_call 23;refine (HC.out _ (hb0 _)).mono ?_;rintro e w1 ⟨rfl,hq⟩;have HQ:=Lib.hid ((hb0 (.cells #[.int .i64 1,.string p,.string tt,.int .i64 off,.int .i64 size,.slice da dn dc] 35)).trans (hq.mono (hb0 _).size));have HX:=Lib.hid (Below.heap hq (Nat.le_refl _) (heap_new w (.cells #[.int .i64 1,.string p,.string tt,.int .i64 off,.int .i64 size,.slice da dn dc] 35)));have x0:w1.cell? ⟨w.heap.size,0,none⟩ = some (.int .i64 1):=cellAt HX.out 0;clear hq)
 have HS1:=Lib.hid (Below.heap HQ.out (Nat.le_refl _) HH.out.cell)
 have HK:Hid (∀ W:World,W.heap[s]? = some (.cells #[.pointer (some ⟨a,0,none⟩),.map (some sm)] 121 (0,0)) → W.heap[w.heap.size]? = some (.cells #[.int .i64 1,.string p,.string tt,.int .i64 off,.int .i64 size,.slice da dn dc] 35 (0,0)) → W.cell? ⟨s,0,none⟩ = some (.pointer (some ⟨a,0,none⟩)) ∧ W.cell? ⟨w.heap.size,0,none⟩ = some (.int .i64 1) ∧ W.cell? ⟨w.heap.size,1,none⟩ = some (.string p)):=Lib.hid (fun W h1 h2 => ⟨cellAt h1 0,cellAt h2 0,cellAt h2 1⟩)
 go_region_held3 (fun W => W.cell? ⟨s,0,none⟩ = some (.pointer (some ⟨a,0,none⟩)) ∧ W.cell? ⟨w.heap.size,0,none⟩ = some (.int .i64 1) ∧ W.cell? ⟨w.heap.size,1,none⟩ = some (.string p)) (first | exact HK.out _ HS1.out HX.out | exact k2) (first | (go_at_call 61;refine (HMK.out _ HQ.out.drew).mono ?_;rintro e w2 ⟨rfl,ht,hf⟩;have HT2:=Lib.hid ht;have HF2:=Lib.hid ((Frame.of_below HQ.out [a,b]).drew.trans hf (fun x hx => .inl hx));have HS2:=Lib.hid (hf.heap HS1.out (by simp [hsa,hsb]));have HX2:=Lib.hid (hf.heap HX.out (by simp;omega));have k2:=HK.out w2 HS2.out HX2.out;have HF:=Lib.hid hf;clear ht hf))
 have HB2:=Lib.hid (HH.out.bodies.frame HF2.out (by simp;exact ⟨fun e => hasm e.symm,fun e => hbsm e.symm⟩) (fun k hk arr e => by
  simp at hk
  rcases hk with rfl | rfl
  ·exact heap_type_ne HH.out.tree.cell e (by decide) rfl
  ·rw [HOBB.out] at e;cases e))
 have y1:w2.cell? ⟨s,1,none⟩ = some (.map (some sm)):=(cellAt HS2.out 1)
 have y0:=k2.1
 have y2:=k2.2.1
 go_wp2_with (at_mapUpdate;refine wpx_store _ rfl _ _ _ 119 rfl KI 100 Tryz.underlying119 sm nb g rfl HB2.out.map (by unfold maxLen;omega) next (KI_good (by omega)) (.agg #[.int .i64 0,.slice none 0 0]) rfl rfl ?_;intro w3 hm3 ht3;have HM3:=Lib.hid hm3;have HT3:=Lib.hid ht3;clear hm3 ht3)
 go_ret
 refine ⟨rfl,if (g next).isSome then nb else nb + 1,fput g next (some (.agg #[.int .i64 0,.slice none 0 0])),?_,⟨turned_keep HT3.out HS2.out hsm,?_,?_,hbsm⟩,(HF2.out.mono (fun x hx => .inl (by simp at hx ⊢;rcases hx with h | h <;> simp [h]))).turned HT3.out (.inl (by simp))⟩
 ·split <;> omega
 ·exact HT2.out.frame ((Frame.refl [sm] w2).turned HT3.out (.inl (by simp))) (by simpa using hasm) (by simpa using hbsm) (by simpa using h1sm)
 ·exact HB2.out.put next _ ⟨0,[]⟩ ⟨_,rfl,Sl.nil _ _ _⟩ ⟨by decide,by decide,trivial⟩ (by simp) HM3.out HT3.out
set_option maxRecDepth 100000 in
set_option maxHeartbeats 4000000 in
theorem applyMkdir_g (w:World) (s a b sm n nb:Nat) (T:TreeF) (next:Int) (S:Int → Option BodyA) (g:Int → Option Value) (H:StateG w s a b sm n nb T next S g) (p:ByteArray) (hp:p.size ≤ 1000000)
  (off size:Int) (tt:ByteArray) (htt:tt.size ≤ 1000000) (da:Option Addr) (dn dc:Nat) (lv:Value) (hd:dn ≤ 9223372036854775807) (hcan:canG T n p = 0) (hnx:0 ≤ next ∧ next ≤ 4611686018427387904) :
  Calls Tryz.prog 30 #[.pointer (some ⟨s,0,none⟩),.agg #[.int .i64 2,.string p,.string tt,.int .i64 off,.int .i64 size,.slice da dn dc],lv] w fun e w' => e = .returned (.int .i64 0) ∧ StateG w' s a b sm (n + 1) nb (gset T p (some (next,true))) (next + 1) S g ∧ Frame [a,b,sm] w w':=by
 have HH:=Lib.hid H
 have hn64:=(canG_zero hcan).2
 have hb0:∀ o,Below w.heap.size w (w.alloc o):=fun o => (Below.refl _ _).alloc (Nat.le_refl _) _
 have HC:=Lib.hid (fun w' (hb:Below w.heap.size w w') => (by have:=check_g w' s a b sm n nb T next S g (H.below hb) (by omega) 2 p tt hp htt off size da dn dc hd;rw [show checkG T n 2 p tt off size dn = 0 by simp [checkG,hcan]] at this;exact this))
 have HMK:=Lib.hid (fun w' (hb:Below w.heap.size w w') => make_ok w' a b n T next (H.tree.below hb) p hp true hcan hnx (H.tree.below hb).ne1)
 have hs0:=heap_lt H.cell
 obtain ⟨es,cl,hob⟩:=H.tree.map.obj
 have hsa:s ≠ a:=heap_type_ne H.cell H.tree.cell (by decide)
 have hsb:s ≠ b:=heap_map_ne H.cell hob
 have hal:=heap_lt H.tree.cell
 have hbl:=heap_lt hob
 have hasm:a ≠ sm:=by obtain ⟨es2,cl2,ob2⟩:=H.bodies.map.obj;exact heap_map_ne H.tree.cell ob2
 have hbsm:=H.ne
 have HOBB:=Lib.hid hob
 clear H hob
 go_enter Tryz.func30,Tryz.ntmps30
 go_wp2_with (go_at_call 23;refine (HC.out _ (hb0 _)).mono ?_;rintro e w1 ⟨rfl,hq⟩;have HQ:=Lib.hid ((hb0 (.cells #[.int .i64 2,.string p,.string tt,.int .i64 off,.int .i64 size,.slice da dn dc] 35)).trans (hq.mono (hb0 _).size));have HX:=Lib.hid (Below.heap hq (Nat.le_refl _) (heap_new w (.cells #[.int .i64 2,.string p,.string tt,.int .i64 off,.int .i64 size,.slice da dn dc] 35)));have x0:w1.cell? ⟨w.heap.size,0,none⟩ = some (.int .i64 2):=cellAt HX.out 0;clear hq)
 have HS1:=Lib.hid (Below.heap HQ.out (Nat.le_refl _) HH.out.cell)
 have HK:Hid (∀ W:World,W.heap[s]? = some (.cells #[.pointer (some ⟨a,0,none⟩),.map (some sm)] 121 (0,0)) → W.heap[w.heap.size]? = some (.cells #[.int .i64 2,.string p,.string tt,.int .i64 off,.int .i64 size,.slice da dn dc] 35 (0,0)) → W.cell? ⟨s,0,none⟩ = some (.pointer (some ⟨a,0,none⟩)) ∧ W.cell? ⟨w.heap.size,0,none⟩ = some (.int .i64 2) ∧ W.cell? ⟨w.heap.size,1,none⟩ = some (.string p)):=Lib.hid (fun W h1 h2 => ⟨cellAt h1 0,cellAt h2 0,cellAt h2 1⟩)
 go_region_held3 (fun W => W.cell? ⟨s,0,none⟩ = some (.pointer (some ⟨a,0,none⟩)) ∧ W.cell? ⟨w.heap.size,0,none⟩ = some (.int .i64 2) ∧ W.cell? ⟨w.heap.size,1,none⟩ = some (.string p)) (first | exact HK.out _ HS1.out HX.out | exact k2) (first | (go_at_call 61;refine (HMK.out _ HQ.out.drew).mono ?_;rintro e w2 ⟨rfl,ht,hf⟩;have HT2:=Lib.hid ht;have HF2:=Lib.hid ((Frame.of_below HQ.out [a,b]).drew.trans hf (fun x hx => .inl hx));have HS2:=Lib.hid (hf.heap HS1.out (by simp [hsa,hsb]));have HX2:=Lib.hid (hf.heap HX.out (by simp;omega));have k2:=HK.out w2 HS2.out HX2.out;have HF:=Lib.hid hf;clear ht hf))
 have HB2:=Lib.hid (HH.out.bodies.frame HF2.out (by simp;exact ⟨fun e => hasm e.symm,fun e => hbsm e.symm⟩) (fun k hk arr e => by
  simp at hk
  rcases hk with rfl | rfl
  ·exact heap_type_ne HH.out.tree.cell e (by decide) rfl
  ·rw [HOBB.out] at e;cases e))
 have y0:=k2.1
 have y2:=k2.2.1
 go_wp2_with fail
 go_ret
 exact ⟨rfl,⟨HS2.out,HT2.out,HB2.out,hbsm⟩,HF2.out.mono (fun x hx => .inl (by simp at hx ⊢;rcases hx with h | h <;> simp [h]))⟩
set_option maxRecDepth 100000 in
set_option maxHeartbeats 2000000 in
theorem applyMark_g (w:World) (s a b sm n nb:Nat) (T:TreeF) (next:Int) (S:Int → Option BodyA) (g:Int → Option Value) (H:StateG w s a b sm n nb T next S g) (hn:n ≤ 100000) (p tt:ByteArray) (hp:p.size ≤ 1000000) (ht:tt.size ≤ 1000000)
  (off size:Int) (da:Option Addr) (dn dc:Nat) (hd:dn ≤ 9223372036854775807) (lv:Value) (hc:nameOk p = true) :
  Calls Tryz.prog 30 #[.pointer (some ⟨s,0,none⟩),.agg #[.int .i64 8,.string p,.string tt,.int .i64 off,.int .i64 size,.slice da dn dc],lv] w fun e w' => e = .returned (.int .i64 0) ∧ Below w.heap.size w w':=by
 have HB0:Hid (∀ o,Below w.heap.size w (w.alloc o)):=Lib.hid (fun o => (Below.refl _ _).alloc (Nat.le_refl _) _)
 have HC:=Lib.hid (fun w' (hb:Below w.heap.size w w') => check_g w' s a b sm n nb T next S g (H.below hb) hn 8 p tt hp ht off size da dn dc hd)
 rw [show checkG T n 8 p tt off size dn = 0 by simp [checkG,hc]] at HC
 clear H
 go_enter Tryz.func30,Tryz.ntmps30
 go_wp2_with (go_at_call 23;refine (HC.out _ (HB0.out _)).mono ?_;rintro e w1 ⟨rfl,hq⟩;have hx:=Below.heap hq (Nat.le_refl _) (heap_new w _);have x0:=cellAt hx 0;have HQ:=Lib.hid ((HB0.out _).trans (hq.mono (HB0.out _).size));clear hq hx)
 go_ret
 exact ⟨rfl,HQ.out⟩
end Go.Proofs.YtaonlcgneemimaaGreatDoor
namespace Go.Proofs.YtaonlcgneemimaaGreatDoor
open Go.RowKit
set_option maxRecDepth 100000 in
set_option maxHeartbeats 4000000 in
theorem put_g (w:World) (s a b sm n nb:Nat) (T:TreeF) (next:Int) (S:Int → Option BodyA) (g:Int → Option Value) (H:StateG w s a b sm n nb T next S g) (p:ByteArray) (hp:p.size ≤ 1000000) (id:Int) (hT:fileG T p = (id,0)) (bd:BodyA) (hS:S id = some bd)
  (op off size:Int) (tt:ByteArray) (l:List PartA) (lv:Value) (hl:Sl w 134 4 lv l.length (partsC l)) (hf:∀ p ∈ l,p.fits) (hln:bd.parts.length + l.length + 1 ≤ 10000) (h0:0 ≤ off) (h1:off + sumLen l ≤ 1099511627776) (hid:0 ≤ id ∧ id ≤ 4611686018427387904) (hnb:nb ≤ 1000000) :
  Calls Tryz.prog 62 #[.pointer (some ⟨s,0,none⟩),.agg #[.int .i64 op,.string p,.string tt,.int .i64 off,.int .i64 size,.slice none 0 0],lv] w fun e w' => e = .returned (.int .i64 0) ∧ ∃ g',StateG w' s a b sm n nb T next (bset S id (some (writeB bd off l))) g' ∧ Frame [sm] w w':=by
 have HH:=Lib.hid H
 have hb0:∀ o,Below w.heap.size w (w.alloc o):=fun o => (Below.refl _ _).alloc (Nat.le_refl _) _
 have HF:=Lib.hid (fun w' (hb:Below w.heap.size w w') => (by have:=file_g w' s a b sm n nb T next S g (H.below hb) p hp;rw [hT] at this;exact this))
 obtain ⟨bv,hbv,hBV,hmay,hfew⟩:=H.bodies.held id bd hS
 have HWR:=Lib.hid (fun w' (hb:Below w.heap.size w w') => write_any bd off l bv lv w' (hBV.kept (fun k arr hk => Below.heap hb (Nat.le_refl _) hk)) hmay (by omega) (hl.below hb) hf (by omega) h0 h1)
 have HMAY:=Lib.hid (writeB_may hmay hf h0 h1)
 have HFEW:=Lib.hid (show (writeB bd off l).parts.length ≤ 10000 by have:=writeB_few (off:=off) hmay hf;omega)
 have hlook:∀ W,W.heap[sm]? = w.heap[sm]? → (Instr.lookup 119 (.map (some sm)) (.int .i64 id) false).run Tryz.prog W = .ok bv W:=fun W hW => by
  have h:=((H.bodies.map.same hW).look Tryz.underlying119 (zero100 W) (KI_good (x:=id) (by omega))).2
  rw [hbv] at h
  exact h
 have HLK:=Lib.hid hlook
 have hgs:(g id).isSome = true:=by rw [hbv];rfl
 have HGS:=Lib.hid hgs
 have hs0:=heap_lt H.cell
 have hsml:=H.bodies.map.lt
 obtain ⟨lva,lvc,rfl,-⟩:=parts_cells hl
 clear H hT hS hbv hBV hmay hfew hlook hf hl hgs
 go_enter Tryz.func62,Tryz.ntmps62
 go_wp2_with fail
 go_quiet (fail)
 go_wp2_with (go_at_call 63;refine (HF.out _ (below_drewN (hb0 _) _)).mono ?_;rintro e w1 ⟨rfl,hq⟩;have HQ:=Lib.hid ((below_drewN (hb0 (.cells #[.int .i64 op,.string p,.string tt,.int .i64 off,.int .i64 size,.slice none 0 0] 35)) nq).trans (hq.mono (below_drewN (hb0 (.cells #[.int .i64 op,.string p,.string tt,.int .i64 off,.int .i64 size,.slice none 0 0] 35)) nq).size));have HX:=Lib.hid (Below.heap hq (Nat.le_refl _) (Below.heap (below_drewN (Below.refl (w.alloc (.cells #[.int .i64 op,.string p,.string tt,.int .i64 off,.int .i64 size,.slice none 0 0] 35)).heap.size (w.alloc (.cells #[.int .i64 op,.string p,.string tt,.int .i64 off,.int .i64 size,.slice none 0 0] 35))) nq) (Nat.le_refl _) (heap_new w (.cells #[.int .i64 op,.string p,.string tt,.int .i64 off,.int .i64 size,.slice none 0 0] 35))));clear hq)
 have hsm:s ≠ sm:=by obtain ⟨es2,cl2,ob2⟩:=HH.out.bodies.map.obj;exact heap_map_ne HH.out.cell ob2
 have hasm:a ≠ sm:=by obtain ⟨es2,cl2,ob2⟩:=HH.out.bodies.map.obj;exact heap_map_ne HH.out.tree.cell ob2
 have h1sm:1 ≠ sm:=HH.out.bodies.map.ne1 HH.out.tree.glob
 have HK:Hid (∀ W:World,Below w1.heap.size w1 W → W.cell? ⟨s,1,none⟩ = some (.map (some sm)) ∧ (Instr.lookup 119 (.map (some sm)) (.int .i64 id) false).run Tryz.prog W = .ok bv W ∧ W.cell? ⟨w.heap.size,3,none⟩ = some (.int .i64 off)):=Lib.hid (fun W hW => ⟨cellAt (Below.heap (HQ.out.trans (hW.mono HQ.out.size)) (Nat.le_refl _) HH.out.cell) 1,HLK.out W ((HQ.out.trans (hW.mono HQ.out.size)).block sm hsml),cellAt (Below.heap hW (Nat.le_refl _) HX.out) 3⟩)
 go_cut [9,10] from 11 (fun s9 s10 wc => s10 = .int .i64 0 ∧ ∃ vb va vc,s9 = .pointer (some ⟨vb,0,none⟩) ∧ Hid (CutP w wc vb (writeB bd off l) va vc))
 case first =>
  go_region_held3 (fun W => W.cell? ⟨s,1,none⟩ = some (.map (some sm)) ∧ (Instr.lookup 119 (.map (some sm)) (.int .i64 id) false).run Tryz.prog W = .ok bv W ∧ W.cell? ⟨w.heap.size,3,none⟩ = some (.int .i64 off)) (first | exact HK.out _ ((Below.refl _ _).drew) | exact HK.out _ (((Below.refl _ w1).alloc (Nat.le_refl _) _).drew) | exact k2 | exact k3 _ | exact k4 _ _) (first | (go_at_call 116;refine (HWR.out w1.drew HQ.out.drew).mono ?_;rintro e w2 ⟨v2,rfl,hbv,hq⟩;have HQ2:=Lib.hid (((Below.refl w1.heap.size w1).drew).trans hq);have HBV:=Lib.hid hbv;have k2:=HK.out w2 HQ2.out;have k3:=(fun o => HK.out (w2.alloc o) (HQ2.out.alloc HQ2.out.size o));obtain ⟨sv2,rfl,hsl2⟩:=hbv;obtain ⟨va,vc,rfl,-⟩:=parts_cells hsl2;clear hq hsl2) | (go_at_call 116;refine (HWR.out (w1.alloc (.cells #[.int .i64 0,.slice none 0 0] 100)).drew (HQ.out.alloc HQ.out.size _).drew).mono ?_;rintro e w2 ⟨v2,rfl,hbv,hq⟩;have HQ3:=Lib.hid ((((Below.refl w1.heap.size w1).alloc (Nat.le_refl _) (.cells #[.int .i64 0,.slice none 0 0] 100)).drew).trans (hq.mono (by show w1.heap.size ≤ (w1.alloc (.cells #[.int .i64 0,.slice none 0 0] 100)).heap.size;simp)));have HBV:=Lib.hid hbv;have k2:=HK.out w2 HQ3.out;have HZ:=Lib.hid (Below.heap hq (Nat.le_refl _) (heap_new w1 (.cells #[.int .i64 0,.slice none 0 0] 100)));have zz0:=cellAt HZ.out 0;have zz1:=cellAt HZ.out 1;have zf0:=frozenAt HZ.out 0;have zf1:=frozenAt HZ.out 1;have k4:=(fun x y => HK.out ((w2.setCell ⟨w1.heap.size,0,none⟩ x).setCell ⟨w1.heap.size,1,none⟩ y) ((HQ3.out.setCell (p:=⟨w1.heap.size,0,none⟩) (Nat.le_refl _) x).setCell (p:=⟨w1.heap.size,1,none⟩) (Nat.le_refl _) y));obtain ⟨sv2,rfl,hsl2⟩:=hbv;obtain ⟨va,vc,rfl,-⟩:=parts_cells hsl2;clear hq hsl2))
  all_goals (go_wp2_with fail;go_meet)
  all_goals first | exact ⟨rfl,_,_,_,rfl,cut_b HQ.out HQ2.out HBV.out⟩ | exact ⟨rfl,_,_,_,rfl,cut_a HQ.out HQ3.out HZ.out HBV.out⟩
 case rest =>
 obtain ⟨rfl,vb,va,vc,rfl,hcutp⟩:=hcut
 obtain ⟨hvb,hvl,hbvc,hqw⟩:=hcutp.out
 have HQW:=Lib.hid hqw
 have HBV:=Lib.hid hbvc
 have HS2:=Lib.hid (Below.heap hqw (Nat.le_refl _) HH.out.cell)
 have HV2:=Lib.hid hvb
 have HBD:=Lib.hid (HH.out.bodies.below hqw)
 have hm2:MapX KI wc.drew sm nb g:=HBD.out.map
 obtain ⟨w3,hrun,hm3,ht3⟩:=hm2.store Tryz.underlying119 (by unfold maxLen;omega) (x:=id) (KI_good (by omega)) (.agg #[.int .i64 (writeB bd off l).size,.slice va (writeB bd off l).parts.length vc])
 rw [if_pos HGS.out] at hm3
 have hrun':(Instr.mapUpdate 119 (.map (some sm)) (.int .i64 id) (.agg #[.int .i64 (writeB bd off l).size,.slice va (writeB bd off l).parts.length vc])).run Tryz.prog wc.drew = .ok () w3:=hrun
 clear hrun hm2
 have HM3:=Lib.hid hm3
 have HT3:=Lib.hid ht3
 have HS3:=Lib.hid (turned_keep ht3 HS2.out hsm)
 have HV3:=Lib.hid (turned_keep ht3 HV2.out (fun e => by omega))
 clear hm3 ht3 hcutp hvb hbvc hqw
 go_wp2_with fail
 have HK2:Hid (∀ W:World,W.heap[s]? = some (.cells #[.pointer (some ⟨a,0,none⟩),.map (some sm)] 121 (0,0)) → W.heap[vb]? = some (.cells #[.int .i64 (writeB bd off l).size,.slice va (writeB bd off l).parts.length vc] 100 (0,0)) → W.cell? ⟨s,1,none⟩ = some (.map (some sm)) ∧ W.cell? ⟨vb,0,none⟩ = some (.int .i64 (writeB bd off l).size) ∧ W.cell? ⟨vb,1,none⟩ = some (.slice va (writeB bd off l).parts.length vc)):=Lib.hid (fun W h1 h2 => ⟨cellAt h1 1,cellAt h2 0,cellAt h2 1⟩)
 go_region_held3 (fun W => W.cell? ⟨s,1,none⟩ = some (.map (some sm)) ∧ W.cell? ⟨vb,0,none⟩ = some (.int .i64 (writeB bd off l).size) ∧ W.cell? ⟨vb,1,none⟩ = some (.slice va (writeB bd off l).parts.length vc)) (first | exact HK2.out _ HS2.out HV2.out | exact HK2.out _ HS3.out HV3.out) (first | fail)
 go_wp2_with fail
 go_ret
 have hFr:Frame [sm] w w3:=(Frame.of_below HQW.out [sm]).drew.turned (w:=wc.drew) HT3.out (.inl (by simp))
 refine ⟨rfl,fput g id (some (.agg #[.int .i64 (writeB bd off l).size,.slice va (writeB bd off l).parts.length vc])),⟨HS3.out,HH.out.tree.frame hFr (by simpa using hasm) (by simpa using HH.out.ne) (by simpa using h1sm),?_,HH.out.ne⟩,hFr⟩
 exact BodiesAt.put (w:=wc.drew) ⟨HBD.out.map,HBD.out.none,HBD.out.held⟩ id _ (writeB bd off l) HBV.out HMAY.out HFEW.out HM3.out HT3.out
set_option maxRecDepth 100000 in
set_option maxHeartbeats 4000000 in
theorem applyWrite_g (w:World) (s a b sm n nb:Nat) (T:TreeF) (next:Int) (S:Int → Option BodyA) (g:Int → Option Value) (H:StateG w s a b sm n nb T next S g) (p:ByteArray) (hp:p.size ≤ 1000000) (id:Int) (hT:fileG T p = (id,0)) (bd:BodyA) (hS:S id = some bd)
  (hn:n ≤ 100000) (off size:Int) (tt:ByteArray) (htt:tt.size ≤ 1000000) (hc:writeG T p off 0 = 0) (l:List PartA) (lv:Value) (hl:Sl w 134 4 lv l.length (partsC l)) (hf:∀ p ∈ l,p.fits) (hln:bd.parts.length + l.length + 1 ≤ 10000) (h0:0 ≤ off) (h1:off + sumLen l ≤ 1099511627776) (hid:0 ≤ id ∧ id ≤ 4611686018427387904) (hnb:nb ≤ 1000000) :
  Calls Tryz.prog 30 #[.pointer (some ⟨s,0,none⟩),.agg #[.int .i64 3,.string p,.string tt,.int .i64 off,.int .i64 size,.slice none 0 0],lv] w fun e w' => e = .returned (.int .i64 0) ∧ ∃ g',StateG w' s a b sm n nb T next (bset S id (some (writeB bd off l))) g' ∧ Frame [sm] w w':=by
 have hb0:∀ o,Below w.heap.size w (w.alloc o):=fun o => (Below.refl _ _).alloc (Nat.le_refl _) _
 have hsn:=sumLen_nonneg hf
 have HC:=Lib.hid (fun w' (hb:Below w.heap.size w w') => (by have:=check_g w' s a b sm n nb T next S g (H.below hb) hn 3 p tt hp htt off size none 0 0 (by decide);rw [show checkG T n 3 p tt off size 0 = 0 by simp [checkG,hc]] at this;exact this))
 have HP:=Lib.hid (fun w' (hb:Below w.heap.size w w') => put_g w' s a b sm n nb T next S g (H.below hb) p hp id hT bd hS 3 off size tt l lv (hl.below hb) hf hln h0 h1 hid hnb)
 clear H hT hS hf hl
 go_enter Tryz.func30,Tryz.ntmps30
 go_wp2_with (first | (go_at_call 23;refine (HC.out _ (hb0 _)).mono ?_;rintro e w1 ⟨rfl,hq⟩;have HQ:=Lib.hid ((hb0 (.cells #[.int .i64 3,.string p,.string tt,.int .i64 off,.int .i64 size,.slice none 0 0] 35)).trans (hq.mono (hb0 _).size));have hx:=Below.heap hq (Nat.le_refl _) (heap_new w (.cells #[.int .i64 3,.string p,.string tt,.int .i64 off,.int .i64 size,.slice none 0 0] 35));have x0:=cellAt hx 0;have x1:=cellAt hx 1;have x2:=cellAt hx 2;have x3:=cellAt hx 3;have x4:=cellAt hx 4;have x5:=cellAt hx 5;clear hq hx) | (go_at_call 62;refine (HP.out _ HQ.out).mono ?_;rintro e w2 ⟨rfl,hs2⟩;have HS2:=Lib.hid hs2;clear hs2))
 go_ret
 obtain ⟨g',hs,hfr⟩:=HS2.out
 exact ⟨rfl,g',hs,(Frame.of_below HQ.out [sm]).trans hfr (fun x hx => .inl hx)⟩
set_option maxRecDepth 100000 in
set_option maxHeartbeats 4000000 in
theorem applyTrunc_g (w:World) (s a b sm n nb:Nat) (T:TreeF) (next:Int) (S:Int → Option BodyA) (g:Int → Option Value) (H:StateG w s a b sm n nb T next S g) (p:ByteArray) (hp:p.size ≤ 1000000) (id:Int) (hT:fileG T p = (id,0)) (bd:BodyA) (hS:S id = some bd)
  (hn:n ≤ 100000) (off size:Int) (tt:ByteArray) (htt:tt.size ≤ 1000000) (hc:truncG T p size = 0) (lv:Value) (h0:0 ≤ size) (h1:size ≤ 1099511627776) (hid:0 ≤ id ∧ id ≤ 4611686018427387904) (hnb:nb ≤ 1000000) :
  Calls Tryz.prog 30 #[.pointer (some ⟨s,0,none⟩),.agg #[.int .i64 4,.string p,.string tt,.int .i64 off,.int .i64 size,.slice none 0 0],lv] w fun e w' => e = .returned (.int .i64 0) ∧ ∃ g',StateG w' s a b sm n nb T next (bset S id (some (truncB bd size))) g' ∧ Frame [sm] w w':=by
 have HH:=Lib.hid H
 have hb0:∀ o,Below w.heap.size w (w.alloc o):=fun o => (Below.refl _ _).alloc (Nat.le_refl _) _
 have HC:=Lib.hid (fun w' (hb:Below w.heap.size w w') => (by have:=check_g w' s a b sm n nb T next S g (H.below hb) hn 4 p tt hp htt off size none 0 0 (by decide);rw [show checkG T n 4 p tt off size 0 = 0 by simp [checkG,hc]] at this;exact this))
 have HF:=Lib.hid (fun w' (hb:Below w.heap.size w w') => (by have:=file_g w' s a b sm n nb T next S g (H.below hb) p hp;rw [hT] at this;exact this))
 obtain ⟨bv,hbv,hBV,hmay,hfew⟩:=H.bodies.held id bd hS
 have HTR:=Lib.hid (fun w' (hb:Below w.heap.size w w') => trunc_any bd size bv w' (hBV.kept (fun k arr hk => Below.heap hb (Nat.le_refl _) hk)) hmay (by omega) h0 h1)
 have HMAY:=Lib.hid (truncB_may hmay h0 h1)
 have HFEW:=Lib.hid (show (truncB bd size).parts.length ≤ 10000 by have:=truncB_few (b:=bd) (size:=size);omega)
 have hlook:∀ W,W.heap[sm]? = w.heap[sm]? → (Instr.lookup 119 (.map (some sm)) (.int .i64 id) false).run Tryz.prog W = .ok bv W:=fun W hW => by
  have h:=((H.bodies.map.same hW).look Tryz.underlying119 (zero100 W) (KI_good (x:=id) (by omega))).2
  rw [hbv] at h
  exact h
 have HLK:=Lib.hid hlook
 have hgs:(g id).isSome = true:=by rw [hbv];rfl
 have HGS:=Lib.hid hgs
 have hs0:=heap_lt H.cell
 have hsml:=H.bodies.map.lt
 have hsm:s ≠ sm:=by obtain ⟨es2,cl2,ob2⟩:=H.bodies.map.obj;exact heap_map_ne H.cell ob2
 have hasm:a ≠ sm:=by obtain ⟨es2,cl2,ob2⟩:=H.bodies.map.obj;exact heap_map_ne H.tree.cell ob2
 have h1sm:1 ≠ sm:=H.bodies.map.ne1 H.tree.glob
 clear H hT hS hbv hBV hmay hfew hlook hgs
 go_enter Tryz.func30,Tryz.ntmps30
 go_wp2_with (first | (go_at_call 23;refine (HC.out _ (hb0 _)).mono ?_;rintro e w1 ⟨rfl,hq⟩;have HQ:=Lib.hid ((hb0 (.cells #[.int .i64 4,.string p,.string tt,.int .i64 off,.int .i64 size,.slice none 0 0] 35)).trans (hq.mono (hb0 _).size));have hx:=Below.heap hq (Nat.le_refl _) (heap_new w (.cells #[.int .i64 4,.string p,.string tt,.int .i64 off,.int .i64 size,.slice none 0 0] 35));have HX:=Lib.hid hx;have x0:=cellAt hx 0;have x1:=cellAt hx 1;have x2:=cellAt hx 2;have x3:=cellAt hx 3;have x4:=cellAt hx 4;have x5:=cellAt hx 5;clear hq hx) | (go_at_call 63;refine (HF.out _ HQ.out).mono ?_;rintro e w2 ⟨rfl,hq⟩;have HQ2:=Lib.hid (HQ.out.trans (hq.mono HQ.out.size));have HX2:=Lib.hid (Below.heap hq (Nat.le_refl _) HX.out);clear hq))
 have HS2:=Lib.hid (Below.heap HQ2.out (Nat.le_refl _) HH.out.cell)
 have HK:Hid (∀ W:World,W.heap[s]? = some (.cells #[.pointer (some ⟨a,0,none⟩),.map (some sm)] 121 (0,0)) → W.heap[w.heap.size]? = some (.cells #[.int .i64 4,.string p,.string tt,.int .i64 off,.int .i64 size,.slice none 0 0] 35 (0,0)) → W.cell? ⟨s,1,none⟩ = some (.map (some sm)) ∧ W.cell? ⟨w.heap.size,4,none⟩ = some (.int .i64 size)):=Lib.hid (fun W h1 h2 => ⟨cellAt h1 1,cellAt h2 4⟩)
 have l1:=HLK.out w2.drew (HQ2.out.block sm hsml)
 have HBD:=Lib.hid (HH.out.bodies.below HQ2.out)
 go_region_held3 (fun W => W.cell? ⟨s,1,none⟩ = some (.map (some sm)) ∧ W.cell? ⟨w.heap.size,4,none⟩ = some (.int .i64 size)) (first | exact HK.out _ HS2.out HX2.out | exact HK.out _ HS3.out HX3.out | exact HK.out _ HS4.out HX4.out) (first | (go_at_call 64;refine (HTR.out _ HQ2.out.drew).mono ?_;rintro e w3 ⟨v3,rfl,hbv,hq⟩;have HQ3:=Lib.hid (((Below.refl w2.heap.size w2).drew).trans hq);have HBV:=Lib.hid hbv;have HS3:=Lib.hid (Below.heap HQ3.out (Nat.le_refl _) HS2.out);have HX3:=Lib.hid (Below.heap HQ3.out (Nat.le_refl _) HX2.out);have HBD3:=Lib.hid (HBD.out.below HQ3.out);obtain ⟨sv,rfl,hsl⟩:=hbv;obtain ⟨va,vc,rfl,-⟩:=parts_cells hsl;obtain ⟨w4,hrun,hm4,ht4⟩:=HBD3.out.map.store Tryz.underlying119 (by unfold maxLen;omega) (x:=id) (KI_good (by omega)) (.agg #[.int .i64 (truncB bd size).size,.slice va (truncB bd size).parts.length vc]);rw [if_pos HGS.out] at hm4;(have hrun':(Instr.mapUpdate 119 (.map (some sm)) (.int .i64 id) (.agg #[.int .i64 (truncB bd size).size,.slice va (truncB bd size).parts.length vc])).run Tryz.prog w3 = .ok () w4:=hrun);have HM4:=Lib.hid hm4;have HT4:=Lib.hid ht4;have HS4:=Lib.hid (turned_keep ht4 HS3.out hsm);have HX4:=Lib.hid (turned_keep ht4 HX3.out (fun e => by omega));clear hq hsl hrun hm4 ht4))
 go_wp2_with fail
 go_ret
 have hqw:=HQ2.out.trans (HQ3.out.mono HQ2.out.size)
 have hFr:Frame [sm] w w4:=(Frame.of_below hqw [sm]).turned HT4.out (.inl (by simp))
 refine ⟨rfl,fput g id (some (.agg #[.int .i64 (truncB bd size).size,.slice va (truncB bd size).parts.length vc])),⟨HS4.out,HH.out.tree.frame hFr (by simpa using hasm) (by simpa using HH.out.ne) (by simpa using h1sm),?_,HH.out.ne⟩,hFr⟩
 exact HBD3.out.put id _ (truncB bd size) HBV.out HMAY.out HFEW.out HM4.out HT4.out
end Go.Proofs.YtaonlcgneemimaaGreatDoor
