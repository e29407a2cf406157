/- TopBatches: the contracts of AC9; no condition. -/
import Derived.Test.YtaonlcgneemimaaGreatDoorB42
namespace Go.Proofs.YtaonlcgneemimaaGreatDoor
open Go.RowKit
theorem PtsN.below {w w':World} {v:Value} {n:Nat} {l:List PtA} (h:PtsN w v n l) (hb:Below w.heap.size w w'):PtsN w' v n l:=Sl.below h hb
set_option maxRecDepth 100000 in
set_option maxHeartbeats 8000000 in
theorem batches_any (w:World) (hg:∃ m,w.cell? ⟨1,0,none⟩ = some (.int .i64 m)) (a0 a1:Option Addr) (ln cn lb cb:Nat) (evs:List EvR) (zb:List Int) (hev:evs.length = ln) (hE:EvsX w a0 evs) (hC:ArgB w a1 lb cb zb) (hln:ln ≤ maxLen) (hlb:lb ≤ maxLen) :
  Calls Tryz.prog 4 #[.slice a0 ln cn,.slice a1 lb cb] w fun e w' => e = .returned (.bool true) ∧ Below w.heap.size w w':=by
 have hml:maxLen = 9223372036854775807:=by decide
 have h1lt:1 < w.heap.size:=by
  obtain ⟨m,hm⟩:=hg
  exact World.block_lt_of_cell? w ⟨1,0,none⟩ hm
 have AW:=Lib.hid (awake_g w hg)
 have FW:Hid (∀ W,Below w.heap.size w W → Calls Tryz.prog 12 #[.slice a0 ln cn] W fun e w' => ∃ b,e = .returned (.bool b) ∧ w' = W ∧ Hid (b = true → FewOk evs)):=Lib.hid (fun W hW => by
  refine (few_g W a0 ln cn evs hev hln (hE.below hW)).mono ?_
  rintro e w' ⟨b,rfl,hw,h⟩
  exact ⟨b,rfl,hw,Lib.hid h⟩)
 have ND:Hid (∀ W,Below w.heap.size w W → Calls Tryz.prog 7 #[.int .i64 776] W fun e w' => ∃ d l cb,e = .returned (.tuple #[.pointer (some ⟨d,0,none⟩),.int .i64 0]) ∧ Hid (DiskAt w' d l cb 776 0) ∧ Hid (Below w.heap.size w w') ∧ Hid (Below W.heap.size W w') ∧ Hid (W.heap.size ≤ d ∧ W.heap.size ≤ l ∧ W.heap.size ≤ cb)):=Lib.hid (fun W hW => by
  refine (newDisk_any W).mono ?_
  rintro e w' ⟨d,l,cb,rfl,h3,h4,h5,h6,h7⟩
  exact ⟨d,l,cb,rfl,Lib.hid h3,Lib.hid (hW.trans (h4.mono hW.size)),Lib.hid h4,Lib.hid ⟨h5,h6,h7⟩⟩)
 have F1:Hid (∀ W d l cb,Hid (DiskAt W d l cb 776 0) → Hid (Below w.heap.size w W) → w.heap.size ≤ d → w.heap.size ≤ l → w.heap.size ≤ cb → Calls Tryz.prog 8 #[.pointer (some ⟨d,0,none⟩)] W fun e w' => ∃ r X,e = .returned (.tuple #[.pointer (some ⟨r,0,none⟩),.int .i64 0]) ∧ Hid (NewRepG W d l cb r X w') ∧ Hid (∃ m,w'.cell? ⟨1,0,none⟩ = some (.int .i64 m))):=Lib.hid (fun W d l cb hd hW h3 h4 h5 => by
  obtain ⟨m,hm⟩:=hg
  have hs:=hW.out.size
  have hmW:=(hW.out.cell (p:=⟨1,0,none⟩) h1lt).trans hm
  refine (repFormat_g W d l cb 0 hd.out (by decide) ⟨by omega,by omega,by omega⟩ ⟨m,hmW⟩).mono ?_
  rintro e w' ⟨r,X,rfl,N⟩
  exact ⟨r,X,rfl,Lib.hid N,Lib.hid ⟨m,(N.fr.cell (p:=⟨1,0,none⟩) (by show 1 < W.heap.size;omega) (by simp only [List.mem_cons,List.not_mem_nil,or_false];omega)).trans hmW⟩⟩)
 have F2:Hid (∀ W W1 d l cb r X f l2 cb2,Hid (NewRepG W d l cb r X W1) → Hid (∃ m,W1.cell? ⟨1,0,none⟩ = some (.int .i64 m)) → Hid (DiskAt W f l2 cb2 776 0) → Hid (Below w.heap.size w W) → Hid (w.heap.size ≤ d ∧ w.heap.size ≤ l ∧ w.heap.size ≤ cb) → Hid (w.heap.size ≤ f ∧ w.heap.size ≤ l2 ∧ w.heap.size ≤ cb2) → Hid (∀ x,x = d ∨ x = l ∨ x = cb → ¬ (x = f ∨ x = l2 ∨ x = cb2)) → Calls Tryz.prog 8 #[.pointer (some ⟨f,0,none⟩)] W1 fun e w' => ∃ s,e = .returned (.tuple #[.pointer (some ⟨s,0,none⟩),.int .i64 0]) ∧ Hid (TwoI w w' r s [] [] [] [] 0 0 0 0)):=Lib.hid (fun W W1 d l cb r X f l2 cb2 hN hm hf hW h1 h2 h3 => by
  have hf1:DiskAt W1 f l2 cb2 776 0:=hf.out.frame hN.out.fr (fun hm => h3.out f (by simpa using hm) (by simp)) (fun hm => h3.out l2 (by simpa using hm) (by simp)) (fun hm => h3.out cb2 (by simpa using hm) (by simp))
  obtain ⟨h21,h22,h23⟩:=h2.out
  refine (repFormat_g W1 f l2 cb2 0 hf1 (by decide) ⟨by omega,by omega,by omega⟩ hm.out).mono ?_
  rintro e w' ⟨s,Z,rfl,N⟩
  exact ⟨s,rfl,Lib.hid ⟨X,Z,two_start h1lt hW.out h1.out h2.out hf.out h3.out hN.out N⟩⟩)
 have HE:=Lib.hid hE
 have HC:=Lib.hid hC
 have HV:=Lib.hid hev
 rw [hml] at hln hlb
 clear hg hE hC hev hml
 go_enter Tryz.func4,Tryz.ntmps4
 go_wp2_with (first | (go_at_call 6;with_reducible refine AW.out.mono ?_;rintro e1 w1 ⟨rfl,hq⟩;have B1:=Lib.hid hq;clear hq) | (go_at_call 12;with_reducible refine (FW.out _ B1.out).mono ?_;rintro e1 w2 ⟨fb,rfl,hw,HF⟩;have hw:=hw.symm;subst hw))
 ·go_ret
  exact ⟨rfl,B1.out⟩
 rotate_left
 ·go_ret
  exact ⟨rfl,B1.out⟩
 have hfb:fb = true:=by assumption
 have h6:(lb:Int) ≤ 60:=by assumption
 obtain ⟨hl30,hsm⟩:=HF.out hfb
 have h30:ln ≤ 30:=by have:=HV.out;omega
 have HS:=Lib.hid hsm
 have h6:lb ≤ 60:=by omega
 clear hl30 hsm HF AW FW
 have KK:Hid (∀ W W':World,Below w.heap.size w W → Below W.heap.size W W' → ∀ d l cb f l2 cb2,(W.heap.size ≤ d ∧ W.heap.size ≤ l ∧ W.heap.size ≤ cb) → (d < W'.heap.size ∧ l < W'.heap.size ∧ cb < W'.heap.size) → (W'.heap.size ≤ f ∧ W'.heap.size ≤ l2 ∧ W'.heap.size ≤ cb2) → (w.heap.size ≤ d ∧ w.heap.size ≤ l ∧ w.heap.size ≤ cb) ∧ (w.heap.size ≤ f ∧ w.heap.size ≤ l2 ∧ w.heap.size ≤ cb2) ∧ (∀ x,x = d ∨ x = l ∨ x = cb → ¬ (x = f ∨ x = l2 ∨ x = cb2))):=Lib.hid (fun W W' h1 h2 d l cb f l2 cb2 k1 k2 k3 => by
  have:=h1.size
  have:=h2.size
  exact ⟨by omega,by omega,fun x hx hy => by omega⟩)
 go_wp2_with (first | (go_at_call 7;with_reducible refine (ND.out _ B1.out).mono ?_;rintro e1 w3 ⟨d,l,cb,rfl,D3,B3,G3,K3⟩) | (go_at_call 7;with_reducible refine (ND.out _ B3.out).mono ?_;rintro e1 w4 ⟨f,l2,cb2,rfl,D4,B4,G4,K4⟩;obtain ⟨k1,k2,k3⟩:=KK.out _ _ B1.out G3.out d l cb f l2 cb2 K3.out D3.out.lt K4.out;have Q1:=Lib.hid k1;have Q2:=Lib.hid k2;have Q3:=Lib.hid k3;clear k1 k2 k3) | (go_at_call 8;with_reducible refine (F1.out _ d l cb (Lib.hid (D3.out.below G4.out)) B4 Q1.out.1 Q1.out.2.1 Q1.out.2.2).mono ?_;rintro e1 w5 ⟨r,X,rfl,N5,M5⟩) | (go_at_call 8;with_reducible refine (F2.out _ _ d l cb r X f l2 cb2 N5 M5 D4 B4 Q1 Q2 Q3).mono ?_;rintro e1 w6 ⟨s,rfl,H6⟩))
 clear ND F1 F2 KK B1 D3 B3 G3 K3 D4 B4 G4 K4 Q1 Q2 Q3 N5 M5
 go_loopw [13,14,15,16,17,18] (fun t13 _ _ _ _ _ wr => ∃ (i m:Nat) (R:List RowA) (P:List (List Int)),i ≤ ln ∧ t13 = .int .i64 i ∧ Hid (TwoI w wr r s R R P P 0 m i i) ∧ Hid (RowsP R P i)) (fun t13 _ _ _ _ _ _ => ln - (intOf t13).toNat)
 case atStart => exact ⟨0,0,[],[],by omega,rfl,H6,RowsP.nil⟩
 case round =>
 obtain ⟨i,m,R,P,hi,rfl,HT,HR⟩:=hrel
 by_cases hlt:i < ln
 ·have di:(i:Int) < ln:=by omega
  obtain ⟨e,he⟩:∃ e,evs[i]? = some e:=⟨_,List.getElem?_eq_getElem (by have:=HV.out;omega)⟩
  obtain ⟨g,off,da,dc,rfl,hg,c0,c1,c2,c3,c4,c5,hA,hdn⟩:=HE.out i e he
  have hmem:=HS.out e (List.mem_of_getElem? he)
  have KE:Hid (∀ W,Below w.heap.size w W → W.cell? ⟨g,off + i * 6,none⟩ = some (.int .i64 e.ev.op) ∧ W.cell? ⟨g,off + i * 6 + 1,none⟩ = some (.string e.ev.path) ∧ W.cell? ⟨g,off + i * 6 + 2,none⟩ = some (.string e.ev.to) ∧ W.cell? ⟨g,off + i * 6 + 3,none⟩ = some (.int .i64 e.ev.off) ∧ W.cell? ⟨g,off + i * 6 + 4,none⟩ = some (.int .i64 e.ev.size) ∧ W.cell? ⟨g,off + i * 6 + 5,none⟩ = some (.slice da e.dn dc)):=Lib.hid (fun W hW => ⟨(hW.cell hg).trans c0,(hW.cell hg).trans c1,(hW.cell hg).trans c2,(hW.cell hg).trans c3,(hW.cell hg).trans c4,(hW.cell hg).trans c5⟩)
  have HA:Hid (∀ W,Below w.heap.size w W → ArgB W da e.dn dc e.zs):=Lib.hid (fun W hW => hA.below hW)
  have hdl:e.data.length = e.dn:=by
   unfold EvR.data
   rw [List.length_take]
   have:=hA.2.1
   omega
  have hml:maxLen = 9223372036854775807:=by decide
  rw [hml] at hdn
  have hRl:R.length ≤ 30:=by have:=HR.out.len;omega
  have hmR:m ≤ R.length:=by
   obtain ⟨X,Z,h2⟩:=HT.out
   exact h2.rg.hm
  obtain ⟨x0,x1,x2,x3,x4,x5⟩:=KE.out _ HT.out.bel
  have HD:=Lib.hid hdl
  have HM:=Lib.hid hmem
  have HDN:=Lib.hid hdn
  have HAS:=Lib.hid (ans_same (R:=R) (P:=P) (e:=e) (j:=i) (m:=m) hRl hmR)
  obtain ⟨A,hAe⟩:∃ A,Hid (A = (ansN R P e 0 i).1):=⟨_,Lib.hid rfl⟩
  obtain ⟨C,hCe⟩:∃ C,Hid (C = (ansN R P e 0 i).2):=⟨_,Lib.hid rfl⟩
  obtain ⟨R',hRe⟩:∃ R',Hid (R' = rowsN R P e 0 i):=⟨_,Lib.hid rfl⟩
  obtain ⟨P',hPe⟩:∃ P',Hid (P' = chunksN R P e 0 i):=⟨_,Lib.hid rfl⟩
  obtain ⟨op,hop⟩:∃ y,Hid (y = e.ev.op):=⟨_,Lib.hid rfl⟩
  have IN1:Hid (Calls Tryz.prog 9 #[.pointer (some ⟨r,0,none⟩),.agg #[.int .i64 e.ev.op,.string e.ev.path,.string e.ev.to,.int .i64 e.ev.off,.int .i64 e.ev.size,.slice da e.dn dc]] wr fun en w' => en = .returned (.tuple #[.int .i64 A,.int .i64 C]) ∧ Hid (TwoI w w' r s R' R P' P 0 m i i)):=Lib.hid (by
   rw [hAe.out,hCe.out,hRe.out,hPe.out]
   refine (ingest_two HT.out HR.out (by omega) e HM.out da dc (HA.out _ HT.out.bel) HDN.out).mono ?_
   rintro en w' ⟨rfl,h⟩
   exact ⟨rfl,Lib.hid h⟩)
  clear he hg c0 c1 c2 c3 c4 c5 hA hdn hml hdl hmem HT
  have CM:Hid (∀ W (R1:List RowA) (P1:List (List Int)) (m1 j1 k1:Nat),Hid (RowsP R1 P1 k1) → Hid (TwoI w W r s R1 R1 P1 P1 0 m1 j1 j1) → Calls Tryz.prog 10 #[.pointer (some ⟨s,0,none⟩)] W fun e w' => ∃ c:Int,e = .returned (.int .i64 c) ∧ Hid (c = 0 → TwoI w w' r s R1 R1 P1 P1 0 R1.length j1 j1) ∧ Hid (c ≠ 0 → Below w.heap.size w w')):=Lib.hid (fun W R1 P1 m1 j1 k1 hp h => by
   refine (commit_two h.out.swap hp.out).mono ?_
   rintro e w' ⟨c,rfl,h1,h2⟩
   exact ⟨c,rfl,Lib.hid (fun hc => (h1 hc).swap),Lib.hid h2⟩)
  have TL:Hid (∀ W (R1:List RowA) (P1:List (List Int)) (m1 j1 j2:Nat),Hid (TwoI w W r s R1 R1 P1 P1 0 m1 j1 j2) → j1 ≤ 32 → Calls Tryz.prog 13 #[.pointer (some ⟨r,0,none⟩),.float .f64 4602678819172646912] W fun e w' => e = .returned (.int .i64 0) ∧ Hid (TwoI w w' r s R1 R1 P1 P1 0 m1 (j1 + 1) j2)):=Lib.hid (fun W R1 P1 m1 j1 j2 h hj => by
   refine (tick_two h.out hj).mono ?_
   rintro e w' ⟨rfl,h1⟩
   exact ⟨rfl,Lib.hid h1⟩)
  have TR:Hid (∀ W (R1:List RowA) (P1:List (List Int)) (m1 j1 j2:Nat),Hid (TwoI w W r s R1 R1 P1 P1 0 m1 j1 j2) → j2 ≤ 32 → Calls Tryz.prog 13 #[.pointer (some ⟨s,0,none⟩),.float .f64 4602678819172646912] W fun e w' => e = .returned (.int .i64 0) ∧ Hid (TwoI w w' r s R1 R1 P1 P1 0 m1 j1 (j2 + 1))):=Lib.hid (fun W R1 P1 m1 j1 j2 h hj => by
   refine (tick_two h.out.swap hj).mono ?_
   rintro e w' ⟨rfl,h1⟩
   exact ⟨rfl,Lib.hid h1.swap⟩)
  rcases HAS.out with ⟨ha,hr,hc⟩ | ⟨ha1,ha2⟩
  ·have HRn:Hid (RowsP R' P' (i + 1)):=Lib.hid (by
    rw [hRe.out,hPe.out]
    exact HR.out.ans (by omega) HD.out)
   have IN2:Hid (∀ W,Hid (TwoI w W r s R' R P' P 0 m i i) → Calls Tryz.prog 9 #[.pointer (some ⟨s,0,none⟩),.agg #[.int .i64 e.ev.op,.string e.ev.path,.string e.ev.to,.int .i64 e.ev.off,.int .i64 e.ev.size,.slice da e.dn dc]] W fun en w' => en = .returned (.tuple #[.int .i64 A,.int .i64 C]) ∧ Hid (TwoI w w' r s R' R' P' P' 0 m i i)):=Lib.hid (fun W h => by
    refine (ingest_two h.out.swap HR.out (by omega) e HM.out da dc (HA.out _ h.out.bel) HDN.out).mono ?_
    rintro en w' ⟨rfl,h1⟩
    have h1:=h1.swap
    rw [← ha,← hAe.out,← hCe.out]
    rw [← hr,← hc,← hRe.out,← hPe.out] at h1
    exact ⟨rfl,Lib.hid h1⟩)
   clear ha hr hc hAe hCe hRe hPe HAS HA HM HDN HD hop
   go_wp2_with (first | (go_at_call 9;with_reducible refine IN1.out.mono ?_;rintro e1 w7 ⟨rfl,H7⟩;obtain ⟨y0,y1,y2,y3,y4,y5⟩:=KE.out _ H7.out.bel) | (go_at_call 9;with_reducible refine (IN2.out _ H7).mono ?_;rintro e1 w8 ⟨rfl,H8⟩))
   clear x0 x1 x2 x3 x4 x5 y0 y1 y2 y3 y4 y5 IN1 IN2 H7
   go_loopw [18] (fun t18 wq => ∃ (k m2:Nat),k ≤ lb ∧ t18 = .int .i64 k ∧ Hid (TwoI w wq r s R' R' P' P' 0 m2 i i)) (fun t18 _ => lb - (intOf t18).toNat)
   case atStart => exact ⟨0,m,by omega,rfl,H8⟩
   case round =>
   obtain ⟨k,m2,hk,rfl,HQ⟩:=hrel
   by_cases hkl:k < lb
   ·have dk:(k:Int) < lb:=by omega
    obtain ⟨x,rfl,hxc,hz0,hz1⟩:=HC.out.2.2 k hkl
    obtain ⟨z,hz⟩:∃ z,Hid (z = zb.getD k 0):=⟨_,Lib.hid rfl⟩
    rw [← hz.out] at hxc hz0 hz1
    have hxw:wr.cell? (x.add k) = some (.int .u8 z):=(HQ.out.bel.cell (World.block_lt_of_cell? w _ hxc)).trans hxc
    clear hxc
    by_cases hz3:z % 30 = (i:Int)
    ·go_wp2_with (go_at_call 10;with_reducible refine (CM.out _ _ _ _ _ _ HRn HQ).mono ?_;rintro e1 w9 ⟨c,rfl,HC0,HC1⟩)
     ·have hcb:(c != 0) = true:=by assumption
      go_ret
      exact ⟨rfl,HC1.out (by simpa using hcb)⟩
     ·have hcb:(c != 0) = false:=by assumption
      have HT9:Hid (TwoI w w9 r s R' R' P' P' 0 R'.length i i):=HC0.out (by simpa using hcb)
      go_roundw
      case rel => exact ⟨k + 1,R'.length,by omega,by go_num,HT9⟩
      case measure => simp [intOf];omega
    ·go_wp2_with fail
     go_roundw
     case rel => exact ⟨k + 1,m2,by omega,by go_num,HQ⟩
     case measure => simp [intOf];omega
   ·have hke:lb = k:=by omega
    subst hke
    go_wp2_with (first | (go_at_call 13;with_reducible refine (TL.out _ _ _ _ _ _ HQ (by omega)).mono ?_;rintro e1 w9 ⟨rfl,H9⟩) | (go_at_call 13;with_reducible refine (TR.out _ _ _ _ _ _ H9 (by omega)).mono ?_;rintro e1 w10 ⟨rfl,H10⟩))
    go_roundw
    case rel => exact ⟨i + 1,m2,R',P',by omega,by go_num,H10,HRn⟩
    case measure => simp [intOf];omega
  ·have hA0:A = 0:=by rw [hAe.out,ha1]
   have hC12:C = 12:=by rw [hCe.out,ha1]
   subst hA0 hC12
   obtain ⟨L,hL⟩:∃ L,Hid (L = R.length):=⟨_,Lib.hid rfl⟩
   have IN2:Hid (∀ W,Hid (TwoI w W r s R' R P' P 0 m i i) → Calls Tryz.prog 9 #[.pointer (some ⟨s,0,none⟩),.agg #[.int .i64 e.ev.op,.string e.ev.path,.string e.ev.to,.int .i64 e.ev.off,.int .i64 e.ev.size,.slice da e.dn dc]] W fun en w' => en = .returned (.tuple #[.int .i64 ((L:Int) + 1),.int .i64 0]) ∧ Hid (Below w.heap.size w w')):=Lib.hid (fun W h => by
    refine (ingest_two h.out.swap HR.out (by omega) e HM.out da dc (HA.out _ h.out.bel) HDN.out).mono ?_
    rintro en w' ⟨rfl,h1⟩
    rw [ha2,hL.out]
    exact ⟨rfl,Lib.hid h1.bel⟩)
   have dne:((0:Int) == (L:Int) + 1) = false:=by
    have:(0:Int) ≠ (L:Int) + 1:=by omega
    simpa using this
   clear ha1 ha2 hAe hCe hRe hPe HAS HA HM HDN HD hop hL
   go_wp2_with (first | (go_at_call 9;with_reducible refine IN1.out.mono ?_;rintro e1 w7 ⟨rfl,H7⟩;obtain ⟨y0,y1,y2,y3,y4,y5⟩:=KE.out _ H7.out.bel) | (go_at_call 9;with_reducible refine (IN2.out _ H7).mono ?_;rintro e1 w8 ⟨rfl,B8⟩))
   go_ret
   exact ⟨rfl,B8.out⟩
 ·have hie:i = ln:=by omega
  subst hie
  have CL:Hid (∀ W,Hid (TwoI w W r s R R P P 0 m i i) → Calls Tryz.prog 10 #[.pointer (some ⟨r,0,none⟩)] W fun e w' => ∃ c:Int,e = .returned (.int .i64 c) ∧ Hid (c = 0 → TwoI w w' r s R R P P R.length m i i) ∧ Hid (c ≠ 0 → Below w.heap.size w w')):=Lib.hid (fun W h => by
   refine (commit_two h.out HR.out).mono ?_
   rintro e w' ⟨c,rfl,h1,h2⟩
   exact ⟨c,rfl,Lib.hid h1,Lib.hid h2⟩)
  have CR:Hid (∀ W,Hid (TwoI w W r s R R P P R.length m i i) → Calls Tryz.prog 10 #[.pointer (some ⟨s,0,none⟩)] W fun e w' => ∃ c:Int,e = .returned (.int .i64 c) ∧ Hid (c = 0 → TwoI w w' r s R R P P R.length R.length i i) ∧ Hid (c ≠ 0 → Below w.heap.size w w')):=Lib.hid (fun W h => by
   refine (commit_two h.out.swap HR.out).mono ?_
   rintro e w' ⟨c,rfl,h1,h2⟩
   exact ⟨c,rfl,Lib.hid (fun hc => (h1 hc).swap),Lib.hid h2⟩)
  have nb:∀ c:Int,(c != 0) = false → c = 0:=fun c h => by simpa using h
  have yb:∀ c:Int,(c != 0) = true → c ≠ 0:=fun c h => by simpa using h
  have NB:=Lib.hid nb
  have YB:=Lib.hid yb
  clear nb yb
  go_wp2_with (first | (go_at_call 10;with_reducible refine (CL.out _ HT).mono ?_;rintro e1 w7 ⟨ca,rfl,CA0,CA1⟩) | (go_at_call 10;with_reducible refine (CR.out _ (Lib.hid (CA0.out (by assumption)))).mono ?_;rintro e1 w8 ⟨cb2,rfl,CB0,CB1⟩))
  ·go_ret
   exact ⟨rfl,CB1.out (YB.out _ (by assumption))⟩
  rotate_left
  ·go_ret
   exact ⟨rfl,CA1.out (by assumption)⟩
  have T8:Hid (TwoI w w8 r s R R P P R.length R.length i i):=Lib.hid (CB0.out (NB.out _ (by assumption)))
  obtain ⟨n,hn⟩:∃ n,Hid (n = R.length):=⟨_,Lib.hid rfl⟩
  obtain ⟨pl,hpl⟩:∃ pl,Hid (pl = R.map rowPt):=⟨_,Lib.hid rfl⟩
  have hn30:n ≤ 30:=by have:=HR.out.len;have:=hn.out;omega
  have hnl:Hid (n = pl.length):=Lib.hid (by rw [hn.out,hpl.out,List.length_map])
  have TW:Hid (∀ W,Below w8.heap.size w8 W → TwoI w W r s R R P P R.length R.length i i):=Lib.hid (fun W hW => T8.out.below hW)
  have PT1:Hid (∀ W,Below w8.heap.size w8 W → Calls Tryz.prog 14 #[.pointer (some ⟨r,0,none⟩)] W fun e w' => ∃ a c,e = .returned (.slice a n c) ∧ Hid (PtsN w' (.slice a n c) n pl) ∧ Hid (Below w8.heap.size w8 w') ∧ Hid (Below W.heap.size W w')):=Lib.hid (fun W hW => by
   refine (points_two (TW.out W hW)).mono ?_
   rintro e w' ⟨v,rfl,h1,h2⟩
   rw [← hn.out,← hpl.out] at h1
   obtain ⟨a,c,rfl,-⟩:=ptsN_cells hnl.out h1
   exact ⟨a,c,rfl,Lib.hid h1,Lib.hid (hW.trans (h2.mono hW.size)),Lib.hid h2⟩)
  have PT2:Hid (∀ W,Below w8.heap.size w8 W → Calls Tryz.prog 14 #[.pointer (some ⟨s,0,none⟩)] W fun e w' => ∃ a c,e = .returned (.slice a n c) ∧ Hid (PtsN w' (.slice a n c) n pl) ∧ Hid (Below w8.heap.size w8 w') ∧ Hid (Below W.heap.size W w')):=Lib.hid (fun W hW => by
   refine (points_two (TW.out W hW).swap).mono ?_
   rintro e w' ⟨v,rfl,h1,h2⟩
   rw [← hn.out,← hpl.out] at h1
   obtain ⟨a,c,rfl,-⟩:=ptsN_cells hnl.out h1
   exact ⟨a,c,rfl,Lib.hid h1,Lib.hid (hW.trans (h2.mono hW.size)),Lib.hid h2⟩)
  have SP:Hid (∀ W a c a' c',Hid (Below w8.heap.size w8 W) → PtsN W (.slice a n c) n pl → PtsN W (.slice a' n c') n pl → Calls Tryz.prog 15 #[.slice a n c,.slice a' n c'] W fun e w' => e = .returned (.bool true) ∧ Hid (Below w8.heap.size w8 w') ∧ Hid (Below W.heap.size W w')):=Lib.hid (fun W a c a' c' hb h1 h2 => by
   have e1:=hnl.out
   have ht:∀ p ∈ pl,p.1 ≤ 33:=by
    rw [hpl.out]
    exact HR.out.pts.top
   have g1:PtsGV W (.slice a n c) pl:=by unfold PtsGV;rw [← e1];exact h1
   have g2:PtsGV W (.slice a' n c') pl:=by unfold PtsGV;rw [← e1];exact h2
   refine (samePoints_g W _ _ pl g1 g2 (by omega) ht).mono ?_
   rintro e w' ⟨rfl,h3⟩
   exact ⟨rfl,Lib.hid (hb.out.trans (h3.mono hb.out.size)),Lib.hid h3⟩)
  have B80:Hid (Below w8.heap.size w8 w8):=Lib.hid (Below.refl _ _)
  clear CL CR HT CA0 CA1 CB0 CB1 T8 HS HE HC H6 NB YB
  go_wp2_with (first | (go_at_call 14;with_reducible refine (PT1.out _ B80.out).mono ?_;rintro e1 w9 ⟨pa,pc,rfl,P9,B9,G9⟩) | (go_at_call 14;with_reducible refine (PT2.out _ B9.out).mono ?_;rintro e1 w10 ⟨pb,pd,rfl,P10,B10,G10⟩) | (go_at_call 15;with_reducible refine (SP.out _ _ _ _ _ B10 (PtsN.below P9.out G10.out) P10.out).mono ?_;rintro e1 w11 ⟨rfl,B11,G11⟩;(have P11:Hid (PtsN w11 (.slice pa n pc) n pl):=Lib.hid (PtsN.below (PtsN.below P9.out G10.out) G11.out))))
  clear PT1 PT2 SP B80 P9 B9 G9 P10 B10 G10 G11
  go_loopw [20,21,22,23,24,25,26,27,28,29,30,31,32,33] (fun t20 _ _ _ _ _ _ _ _ _ _ _ _ _ wr => ∃ k:Nat,k ≤ n ∧ t20 = .int .i64 k ∧ Hid (Below w11.heap.size w11 wr)) (fun t20 _ _ _ _ _ _ _ _ _ _ _ _ _ _ => n - (intOf t20).toNat)
  case atStart => exact ⟨0,by omega,rfl,Below.refl _ _⟩
  case round =>
  obtain ⟨k,hk,rfl,HB⟩:=hrel
  by_cases hlt2:k < n
  ·have dk:(k:Int) < n:=by omega
   obtain ⟨pp,hpp⟩:∃ p,pl[k]? = some p:=⟨_,List.getElem?_eq_getElem (by have:=hnl.out;omega)⟩
   obtain ⟨a',c',hac,-,-,hcl⟩:=ptsN_cells hnl.out P11.out
   injection hac with e1 e2 e3
   obtain ⟨pg,poff,rfl,hpg,hq0,-,-⟩:=hcl k pp hpp
   subst e1
   clear e2 e3
   have HW:Hid (∀ W,Below w11.heap.size w11 W → TwoI w W r s R R P P R.length R.length i i):=Lib.hid (fun W hW => TW.out W (B11.out.trans (hW.mono B11.out.size)))
   have KP:Hid (∀ W,Below w11.heap.size w11 W → W.cell? ⟨pg,poff + k * 3,none⟩ = some (.int .i64 ((k:Int) + 1))):=Lib.hid (fun W hW => (hW.cell hpg).trans hq0)
   obtain ⟨x,hx⟩:∃ x,Hid (x = stepAllG AbsG.new (R.take (k + 1))):=⟨_,Lib.hid rfl⟩
   have hkR:k < R.length:=by have:=hn.out;omega
   have PA1:Hid (∀ W,Below w11.heap.size w11 W → Calls Tryz.prog 16 #[.pointer (some ⟨r,0,none⟩),.int .i64 ((k:Int) + 1)] W fun e w' => ∃ a c ps,e = .returned (.tuple #[.slice a ps.length c,.int .i64 0]) ∧ Hid (PathsG x.T ps) ∧ Hid (ps.length ≤ 64 ∧ ∀ p ∈ ps,p.size ≤ 64) ∧ Hid (Sl w' 9 1 (.slice a ps.length c) ps.length (strsC ps)) ∧ Hid (Below w11.heap.size w11 w') ∧ Hid (Below W.heap.size W w')):=Lib.hid (fun W hW => by
    refine (paths_two (HW.out W hW) hkR).mono ?_
    rintro e w' ⟨v,ps,rfl,h1,h2,h3,h4⟩
    rw [← hx.out] at h1
    obtain ⟨a,c,rfl,-⟩:=h3.shape
    exact ⟨a,c,ps,rfl,Lib.hid h1,Lib.hid h2,Lib.hid h3,Lib.hid (hW.trans (h4.mono hW.size)),Lib.hid h4⟩)
   have PA2:Hid (∀ W ps,Below w11.heap.size w11 W → Hid (PathsG x.T ps) → Calls Tryz.prog 16 #[.pointer (some ⟨s,0,none⟩),.int .i64 ((k:Int) + 1)] W fun e w' => ∃ a c,e = .returned (.tuple #[.slice a ps.length c,.int .i64 0]) ∧ Hid (Sl w' 9 1 (.slice a ps.length c) ps.length (strsC ps)) ∧ Hid (Below w11.heap.size w11 w') ∧ Hid (Below W.heap.size W w')):=Lib.hid (fun W ps hW hps => by
    refine (paths_two (HW.out W hW).swap hkR).mono ?_
    rintro e w' ⟨v,ps',rfl,h1,h2,h3,h4⟩
    rw [← hx.out] at h1
    have hpe:=PathsG.unique h1 hps.out
    subst hpe
    obtain ⟨a,c,rfl,-⟩:=h3.shape
    exact ⟨a,c,rfl,Lib.hid h3,Lib.hid (hW.trans (h4.mono hW.size)),Lib.hid h4⟩)
   have kp0:=KP.out _ HB.out
   clear hcl hpp hq0 hpg
   go_wp2_with (first | (go_at_call 16;with_reducible refine (PA1.out _ HB.out).mono ?_;rintro e1 w12 ⟨aa,ac,ps,rfl,Y12,L12,S12,B12,G12⟩;have kp1:=KP.out _ B12.out) | (go_at_call 16;with_reducible refine (PA2.out _ ps B12.out Y12).mono ?_;rintro e1 w13 ⟨ba,bc,rfl,S13,B13,G13⟩))
   have SA13:Hid (Sl w13 9 1 (.slice aa ps.length ac) ps.length (strsC ps)):=Lib.hid (Sl.below S12.out G13.out)
   obtain ⟨w0,hw0⟩:∃ x:World,x = w13:=⟨_,rfl⟩
   subst hw0
   have KP2:Hid (∀ W,Below w0.heap.size w0 W → W.cell? ⟨pg,poff + k * 3,none⟩ = some (.int .i64 ((k:Int) + 1))):=Lib.hid (fun W hW => KP.out W (B13.out.trans (hW.mono B13.out.size)))
   have HW2:Hid (∀ W,Below w0.heap.size w0 W → TwoI w W r s R R P P R.length R.length i i):=Lib.hid (fun W hW => HW.out W (B13.out.trans (hW.mono B13.out.size)))
   clear kp0 kp1 PA1 PA2 Y12 S12 G12 G13 KP
   go_loopw [25,26,27,28,29,30,31,32,33] (fun t25 _ _ _ _ _ _ _ _ wr => ∃ q:Nat,q ≤ ps.length ∧ t25 = .int .i64 q ∧ Hid (Below w0.heap.size w0 wr)) (fun t25 _ _ _ _ _ _ _ _ _ => ps.length - (intOf t25).toNat)
   case atStart => exact ⟨0,Nat.zero_le _,rfl,Below.refl _ _⟩
   case round =>
   obtain ⟨q,hq,rfl,HB2⟩:=hrel
   obtain ⟨w4,hw4⟩:∃ x:World,x = wr:=⟨_,rfl⟩
   subst hw4
   by_cases hql:q < ps.length
   ·have dq:(q:Int) < ps.length:=by omega
    obtain ⟨p,hp⟩:∃ p,ps[q]? = some p:=⟨_,List.getElem?_eq_getElem hql⟩
    have hps:p.size ≤ 64:=L12.out.2 p (List.mem_of_getElem? hp)
    obtain ⟨a1,c1,hs1,-,-,hc1⟩:=SA13.out.shape
    injection hs1 with f1 f2 f3
    obtain ⟨ag,aoff,he1,hag,hca⟩:=hc1 q hql
    have qa:=hca 0 (.string p) (by decide) (by simp [strsC,hp])
    obtain ⟨a2,c2,hs2,-,-,hc2⟩:=S13.out.shape
    injection hs2 with g1 g2 g3
    obtain ⟨bg,boff,he2,hbg,hcb⟩:=hc2 q hql
    have qb:=hcb 0 (.string p) (by decide) (by simp [strsC,hp])
    rw [Nat.mul_one,Nat.add_zero] at qa qb
    subst f1 g1 he1 he2
    clear f2 f3 g2 g3
    have KA:Hid (∀ W,Below w0.heap.size w0 W → W.cell? ⟨pg,poff + k * 3,none⟩ = some (.int .i64 ((k:Int) + 1)) ∧ W.cell? ⟨ag,aoff + q,none⟩ = some (.string p)):=Lib.hid (fun W hW => ⟨KP2.out W hW,(hW.cell hag).trans qa⟩)
    have KB:Hid (∀ W,Below w0.heap.size w0 W → W.cell? ⟨pg,poff + k * 3,none⟩ = some (.int .i64 ((k:Int) + 1)) ∧ W.cell? ⟨bg,boff + q,none⟩ = some (.string p)):=Lib.hid (fun W hW => ⟨KP2.out W hW,(hW.cell hbg).trans qb⟩)
    obtain ⟨⟨⟨⟨id,d,bz⟩,er⟩,hR⟩⟩:Nonempty (Σ' Rr:(Int × Bool × Int) × Int,Hid (Rr = statG x p)):=⟨⟨_,Lib.hid rfl⟩⟩
    obtain ⟨⟨⟨zs,re⟩,hZ⟩⟩:Nonempty (Σ' Zr:List Int × Int,Hid (Zr = readG P x p 0 500)):=⟨⟨_,Lib.hid rfl⟩⟩
    obtain ⟨zn,hzn⟩:∃ zn,Hid (zn = zs.length):=⟨_,Lib.hid rfl⟩
    have ST1:Hid (∀ W,Below w0.heap.size w0 W → Calls Tryz.prog 17 #[.pointer (some ⟨r,0,none⟩),.int .i64 ((k:Int) + 1),.string p] W fun e w' => e = .returned (.tuple #[.agg #[.int .i64 id,.bool d,.int .i64 bz],.int .i64 er]) ∧ Below W.heap.size W w'):=Lib.hid (fun W hW => by
     have h:=stat_two (HW2.out W hW) hkR p hps
     rw [← hx.out,← hR.out] at h
     exact h)
    have ST2:Hid (∀ W,Below w0.heap.size w0 W → Calls Tryz.prog 17 #[.pointer (some ⟨s,0,none⟩),.int .i64 ((k:Int) + 1),.string p] W fun e w' => e = .returned (.tuple #[.agg #[.int .i64 id,.bool d,.int .i64 bz],.int .i64 er]) ∧ Below W.heap.size W w'):=Lib.hid (fun W hW => by
     have h:=stat_two (HW2.out W hW).swap hkR p hps
     rw [← hx.out,← hR.out] at h
     exact h)
    have RD1:Hid (∀ W,Below w0.heap.size w0 W → Calls Tryz.prog 11 #[.pointer (some ⟨r,0,none⟩),.int .i64 ((k:Int) + 1),.string p,.int .i64 0,.int .i64 500] W fun e w' => ∃ a c,e = .returned (.tuple #[.slice a zn c,.int .i64 re]) ∧ Hid (Sl w' 5 1 (.slice a zn c) zn (u8s zs)) ∧ Below W.heap.size W w'):=Lib.hid (fun W hW => by
     have h:=read_two (HW2.out W hW) HR.out hkR p hps
     rw [← hx.out,← hZ.out] at h
     refine h.mono ?_
     rintro e w' ⟨v,rfl,h1,h2⟩
     have h1:Sl w' 5 1 v zs.length (u8s zs):=h1
     rw [← hzn.out] at h1
     obtain ⟨a,c,rfl,-⟩:=h1.shape
     exact ⟨a,c,rfl,Lib.hid h1,h2⟩)
    have RD2:Hid (∀ W,Below w0.heap.size w0 W → Calls Tryz.prog 11 #[.pointer (some ⟨s,0,none⟩),.int .i64 ((k:Int) + 1),.string p,.int .i64 0,.int .i64 500] W fun e w' => ∃ a c,e = .returned (.tuple #[.slice a zn c,.int .i64 re]) ∧ Hid (Sl w' 5 1 (.slice a zn c) zn (u8s zs)) ∧ Below W.heap.size W w'):=Lib.hid (fun W hW => by
     have h:=read_two (HW2.out W hW).swap HR.out hkR p hps
     rw [← hx.out,← hZ.out] at h
     refine h.mono ?_
     rintro e w' ⟨v,rfl,h1,h2⟩
     have h1:Sl w' 5 1 v zs.length (u8s zs):=h1
     rw [← hzn.out] at h1
     obtain ⟨a,c,rfl,-⟩:=h1.shape
     exact ⟨a,c,rfl,Lib.hid h1,h2⟩)
    have D4:Hid (Below w0.heap.size w0 w4.drew):=Lib.hid HB2.out.drew
    have E4:Hid (∀ o,Below w0.heap.size w0 (w4.alloc o).drew):=Lib.hid (fun o => (HB2.out.alloc HB2.out.size o).drew)
    have R4:Hid (Below w4.heap.size w4 w4.drew):=Lib.hid (Below.refl _ _).drew
    have R5:Hid (∀ o,Below (w4.alloc o).heap.size (w4.alloc o) (w4.alloc o).drew):=Lib.hid (fun o => (Below.refl _ _).drew)
    have S4:Hid (w0.heap.size ≤ w4.heap.size):=Lib.hid HB2.out.size
    clear hca hcb hc1 hc2 qa qb hag hbg hp hps hR hZ SA13 S13 KP2
    go_wp2_with fail
    go_cut [26,27] from 179 to 266 (fun s26 s27 wc => s27 = .int .i64 er ∧ ∃ b,s26 = .pointer (some ⟨b,0,none⟩) ∧ Hid (BoxS w4 wc b id d bz))
    case first =>
     go_region_held3 (fun W => W.cell? ⟨pg,poff + k * 3,none⟩ = some (.int .i64 ((k:Int) + 1)) ∧ W.cell? ⟨ag,aoff + q,none⟩ = some (.string p)) (first | exact KA.out _ D4.out | exact KA.out _ (E4.out _) | exact k2 | exact k3 _ | exact k4 _ _ _) (first | (go_at_call 17;refine (ST1.out w4.drew D4.out).mono ?_;rintro e1 w5 ⟨rfl,hq5⟩;(have HQ5:Hid (Below w4.heap.size w4 w5):=Lib.hid (R4.out.trans hq5));(have HW5:Hid (Below w0.heap.size w0 w5):=Lib.hid (HB2.out.trans (HQ5.out.mono S4.out)));(have k2:=KA.out w5 HW5.out);(have k3:=(fun o => KA.out (w5.alloc o) (HW5.out.alloc HW5.out.size o)));clear hq5) | (go_at_call 17;refine (ST1.out (w4.alloc (.cells #[.int .i64 0,.bool false,.int .i64 0] 54)).drew (E4.out _)).mono ?_;rintro e1 w5 ⟨rfl,hq5⟩;(have HQ6:Hid (Below (w4.alloc (.cells #[.int .i64 0,.bool false,.int .i64 0] 54)).heap.size (w4.alloc (.cells #[.int .i64 0,.bool false,.int .i64 0] 54)) w5):=Lib.hid ((R5.out _).trans hq5));(have HW6:Hid (Below w0.heap.size w0 w5):=Lib.hid ((E4.out (.cells #[.int .i64 0,.bool false,.int .i64 0] 54)).trans (hq5.mono (E4.out (.cells #[.int .i64 0,.bool false,.int .i64 0] 54)).size)));(have k2:=KA.out w5 HW6.out);(have k4:=(fun x y z => KA.out (((w5.setCell ⟨w4.heap.size,0,none⟩ x).setCell ⟨w4.heap.size,1,none⟩ y).setCell ⟨w4.heap.size,2,none⟩ z) (((HW6.out.setCell (p:=⟨w4.heap.size,0,none⟩) S4.out x).setCell (p:=⟨w4.heap.size,1,none⟩) S4.out y).setCell (p:=⟨w4.heap.size,2,none⟩) S4.out z)));(have HZ5:=Lib.hid (Below.heap HQ6.out (Nat.le_refl _) (heap_new w4 (.cells #[.int .i64 0,.bool false,.int .i64 0] 54))));(have zz0:=cellAt HZ5.out 0);(have zz1:=cellAt HZ5.out 1);(have zz2:=cellAt HZ5.out 2);(have zf0:=frozenAt HZ5.out 0);(have zf1:=frozenAt HZ5.out 1);(have zf2:=frozenAt HZ5.out 2);clear hq5))
     all_goals (go_wp2_with fail;go_meet)
     all_goals first | exact ⟨rfl,_,rfl,Lib.hid (box_b HQ5.out)⟩ | exact ⟨rfl,_,rfl,Lib.hid (box_a HQ6.out)⟩
    case rest =>
    obtain ⟨rfl,b1,rfl,hbox1⟩:=hcut
    obtain ⟨w6,hw6⟩:∃ x:World,x = wc:=⟨_,rfl⟩
    subst hw6
    have HB6:Hid (Below w0.heap.size w0 w6):=Lib.hid (HB2.out.trans (hbox1.out.bel.mono S4.out))
    have D6:Hid (Below w0.heap.size w0 w6.drew):=Lib.hid HB6.out.drew
    have E6:Hid (∀ o,Below w0.heap.size w0 (w6.alloc o).drew):=Lib.hid (fun o => (HB6.out.alloc HB6.out.size o).drew)
    have R6:Hid (Below w6.heap.size w6 w6.drew):=Lib.hid (Below.refl _ _).drew
    have R7:Hid (∀ o,Below (w6.alloc o).heap.size (w6.alloc o) (w6.alloc o).drew):=Lib.hid (fun o => (Below.refl _ _).drew)
    have S6:Hid (w0.heap.size ≤ w6.heap.size):=Lib.hid HB6.out.size
    clear D4 E4 R4 R5 S4 ST1
    go_wp2_with fail
    go_cut [28,29] from 179 to 266 (fun s28 s29 wc => s29 = .int .i64 er ∧ ∃ b,s28 = .pointer (some ⟨b,0,none⟩) ∧ Hid (BoxS w6 wc b id d bz))
    case first =>
     go_region_held3 (fun W => W.cell? ⟨pg,poff + k * 3,none⟩ = some (.int .i64 ((k:Int) + 1)) ∧ W.cell? ⟨bg,boff + q,none⟩ = some (.string p)) (first | exact KB.out _ D6.out | exact KB.out _ (E6.out _) | exact k2 | exact k3 _ | exact k4 _ _ _) (first | (go_at_call 17;refine (ST2.out w6.drew D6.out).mono ?_;rintro e1 w5 ⟨rfl,hq5⟩;(have HQ5:Hid (Below w6.heap.size w6 w5):=Lib.hid (R6.out.trans hq5));(have HW5:Hid (Below w0.heap.size w0 w5):=Lib.hid (HB6.out.trans (HQ5.out.mono S6.out)));(have k2:=KB.out w5 HW5.out);(have k3:=(fun o => KB.out (w5.alloc o) (HW5.out.alloc HW5.out.size o)));clear hq5) | (go_at_call 17;refine (ST2.out (w6.alloc (.cells #[.int .i64 0,.bool false,.int .i64 0] 54)).drew (E6.out _)).mono ?_;rintro e1 w5 ⟨rfl,hq5⟩;(have HQ6:Hid (Below (w6.alloc (.cells #[.int .i64 0,.bool false,.int .i64 0] 54)).heap.size (w6.alloc (.cells #[.int .i64 0,.bool false,.int .i64 0] 54)) w5):=Lib.hid ((R7.out _).trans hq5));(have HW6:Hid (Below w0.heap.size w0 w5):=Lib.hid ((E6.out (.cells #[.int .i64 0,.bool false,.int .i64 0] 54)).trans (hq5.mono (E6.out (.cells #[.int .i64 0,.bool false,.int .i64 0] 54)).size)));(have k2:=KB.out w5 HW6.out);(have k4:=(fun x y z => KB.out (((w5.setCell ⟨w6.heap.size,0,none⟩ x).setCell ⟨w6.heap.size,1,none⟩ y).setCell ⟨w6.heap.size,2,none⟩ z) (((HW6.out.setCell (p:=⟨w6.heap.size,0,none⟩) S6.out x).setCell (p:=⟨w6.heap.size,1,none⟩) S6.out y).setCell (p:=⟨w6.heap.size,2,none⟩) S6.out z)));(have HZ5:=Lib.hid (Below.heap HQ6.out (Nat.le_refl _) (heap_new w6 (.cells #[.int .i64 0,.bool false,.int .i64 0] 54))));(have zz0:=cellAt HZ5.out 0);(have zz1:=cellAt HZ5.out 1);(have zz2:=cellAt HZ5.out 2);(have zf0:=frozenAt HZ5.out 0);(have zf1:=frozenAt HZ5.out 1);(have zf2:=frozenAt HZ5.out 2);clear hq5))
     all_goals (go_wp2_with fail;go_meet)
     all_goals first | exact ⟨rfl,_,rfl,Lib.hid (box_b HQ5.out)⟩ | exact ⟨rfl,_,rfl,Lib.hid (box_a HQ6.out)⟩
    case rest =>
    obtain ⟨rfl,b2,rfl,hbox2⟩:=hcut
    obtain ⟨w7,hw7⟩:∃ x:World,x = wc:=⟨_,rfl⟩
    subst hw7
    have HB7:Hid (Below w0.heap.size w0 w7):=Lib.hid (HB6.out.trans (hbox2.out.bel.mono S6.out))
    have D7:Hid (Below w0.heap.size w0 w7.drew):=Lib.hid HB7.out.drew
    clear D6 E6 R6 R7 S6 ST2
    obtain ⟨S,hS⟩:∃ S,Hid (S = strOfNums zs):=⟨_,Lib.hid rfl⟩
    go_wp2_with fail
    go_region_held3 (fun W => W.cell? ⟨pg,poff + k * 3,none⟩ = some (.int .i64 ((k:Int) + 1)) ∧ W.cell? ⟨ag,aoff + q,none⟩ = some (.string p)) (first | exact KA.out _ D7.out | exact k2) (first | (go_at_call 11;refine (RD1.out w7.drew D7.out).mono ?_;rintro e1 w8 ⟨xa,xc,rfl,V8,hq8⟩;(have HB8:Hid (Below w0.heap.size w0 w8):=Lib.hid (D7.out.trans (hq8.mono D7.out.size)));(have X8:Hid (Below w7.heap.size w7 w8):=Lib.hid ((Below.refl w7.heap.size w7).drew.trans hq8));(have k2:=KA.out w8 HB8.out);clear hq8))
    have D8:Hid (Below w0.heap.size w0 w8.drew):=Lib.hid HB8.out.drew
    clear k2
    go_wp2_with fail
    go_region_held3 (fun W => W.cell? ⟨pg,poff + k * 3,none⟩ = some (.int .i64 ((k:Int) + 1)) ∧ W.cell? ⟨bg,boff + q,none⟩ = some (.string p)) (first | exact KB.out _ D8.out | exact k2) (first | (go_at_call 11;refine (RD2.out w8.drew D8.out).mono ?_;rintro e1 w9 ⟨ya,yc,rfl,V9,hq9⟩;(have HB9:Hid (Below w0.heap.size w0 w9):=Lib.hid (D8.out.trans (hq9.mono D8.out.size)));(have X9:Hid (Below w8.heap.size w8 w9):=Lib.hid ((Below.refl w8.heap.size w8).drew.trans hq9));(have k2:=KB.out w9 HB9.out);clear hq9))
    have hcvA:∀ nq,(convert 33 9 (.slice xa zn xc)).run Tryz.prog (w9.drewN nq) = .ok (.string S) (w9.drewN nq):=fun nq => by rw [hS.out];exact conv_sl (V8.out.below (X9.out.trans ((below_drewN (Below.refl w9.heap.size w9) nq).mono X9.out.size)))
    have hcvB:∀ nq,(convert 33 9 (.slice ya zn yc)).run Tryz.prog (w9.drewN nq) = .ok (.string S) (w9.drewN nq):=fun nq => by rw [hS.out];exact conv_sl (V9.out.below (below_drewN (Below.refl w9.heap.size w9) nq))
    obtain ⟨-,m1⟩:=KA.out w9 HB9.out
    obtain ⟨-,m2'⟩:=k2
    obtain ⟨n0,n1,n2⟩:=hbox1.out.cells (hbox2.out.bel.trans ((X8.out.trans (X9.out.mono X8.out.size)).mono hbox2.out.bel.size))
    obtain ⟨n3,n4,n5⟩:=hbox2.out.cells (X8.out.trans (X9.out.mono X8.out.size))
    have hpq:(p.toList == p.toList) = true:=by simp
    have hSS:(S.toList == S.toList) = true:=by simp
    clear RD1 RD2 KA KB hbox1 hbox2 V8 V9 X8 X9
    go_wp2_with fail
    have hq64:q < 64:=by have:=L12.out.1;omega
    go_quiet (fail)
    go_wp2_with fail
    go_roundw
    case rel => exact ⟨q + 1,by omega,by go_num,Lib.hid (below_drewN HB9.out nq)⟩
    case measure => simp [intOf];omega
   ·have hqe:q = ps.length:=by omega
    subst hqe
    go_wp2_with fail
    go_roundw
    case rel => exact ⟨k + 1,by omega,by go_num,Lib.hid (B13.out.trans (HB2.out.mono B13.out.size))⟩
    case measure => simp [intOf];omega
  ·have hke:n = k:=by omega
   subst hke
   go_wp2_with fail
   go_ret
   obtain ⟨X,Z,h2⟩:=TW.out _ (B11.out.trans (HB.out.mono B11.out.size))
   exact ⟨rfl,h2.bel⟩
end Go.Proofs.YtaonlcgneemimaaGreatDoor
