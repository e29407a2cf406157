/- TopBatches: the contracts of E5; no condition. -/
import Derived.Test.YtaonlcgneemimaaGreatDoorB06
namespace Go.Proofs.YtaonlcgneemimaaGreatDoor
open Go.RowKit
theorem PenIn.alloc {B:Nat} {wE w:World} {a bx:Nat} {l:List Int} {cs:List Value} (h:PenIn B wE w a l bx cs) (o:Obj):PenIn B wE (w.alloc o) a l bx cs:=by
 have hb:Below w.heap.size w (w.alloc o):=(Below.refl _ _).alloc (Nat.le_refl _) _
 have hB:B ≤ w.heap.size:=by
  obtain ⟨v,ha,ho,hBa,_⟩:=h.pen
  have:=heap_lt ha
  omega
 exact ⟨h.pen.below hb,h.below.trans (hb.mono hB),h.keep.trans (fun k o hk _ _ => heap_old hk _),heap_old h.box _⟩
theorem keep_at {a k:Nat} {w w':World} {o:Obj} (h:PenKeep a w w') (hk:w.heap[k]? = some o) (hne:k ≠ a) (hno:∀ arr,o ≠ .cells arr 5 (0,0)):w'.heap[k]? = some o:=h k o hk hne hno
theorem PenIn.ne {B:Nat} {wE w:World} {a bx:Nat} {l:List Int} {cs:List Value} (h:PenIn B wE w a l bx cs):w.heap.size ≠ a:=by
 obtain ⟨v,ha,_⟩:=h.pen
 have:=heap_lt ha
 omega
set_option maxRecDepth 100000 in
set_option maxHeartbeats 2000000 in
theorem itemWrite_3 (w0 w:World) (a:Nat) (l0:List Int) (cs:List Value) (i:ItemA) (h:ItemC w0 cs i) (hg:i.good) (hc:i.op = 3) (hb:Below w0.heap.size w0 w) (hp:PenAt w w0.heap.size a l0) (hl:l0.length ≤ 800000) :
  Calls Tryz.prog 112 #[.pointer (some ⟨a,0,none⟩),.agg cs.toArray] w fun e w' => e = .returned (.tuple #[]) ∧ PenAt w' w0.heap.size a (l0 ++ itemB i) ∧ Below w0.heap.size w w' ∧ (∀ (k:Nat) (o:Obj),w.heap[k]? = some o → k ≠ a → (∀ arr,o ≠ .cells arr 5 (0,0)) → w'.heap[k]? = some o):=by
 have HI:=Lib.hid h
 have HG:=Lib.hid hg
 have HP0:=Lib.hid hp
 have HL:=Lib.hid hl
 obtain ⟨sv,rfl,hs⟩:=h
 obtain ⟨s,cap,rfl,hcap,ha0,hcells⟩:=parts_cells hs
 obtain ⟨g1,g2,g3,g4,g5,g6,g7,g8,g9,g10,g11,g12,g13,g14⟩:=hg
 obtain ⟨op,path,to,off,size,l⟩:=i
 simp only at hc g1 g2 g3 g4 g5 g6 g7 g8 g9 g10 g11 g12 g13 g14 hs hcap ha0 hcells
 subst hc
 obtain ⟨n,rfl⟩:∃ n:Nat,off = (n:Int):=⟨off.toNat,by omega⟩
 have HN0:=Lib.hid (numB_len 8 n (by omega))
 have HC:=Lib.hid hcells
 have G12:=Lib.hid g12
 clear hs hp hl hcells ha0 g5 g6 g7 g12 g13
 have HBB:=Lib.hid hb
 have HTP:=Lib.hid (textB_len path g3)
 clear hb
 go_enter Tryz.func112,Tryz.ntmps112
 go_wp2_with (first | (go_at_call 75;refine (itemMay_any _ _ _ (HI.out.below (HBB.out.trans (((Below.refl w.heap.size w).alloc (Nat.le_refl _) _).mono HBB.out.size))) HG.out).mono ?_;rintro e w1 ⟨rfl,hq⟩;have hbw1:Below w.heap.size w w1:=((Below.refl w.heap.size w).alloc (Nat.le_refl _) _).trans (hq.mono (by simp));have HP1:=Lib.hid (PenIn.mk (cs:=[.int .i64 3,.string path,.string to,.int .i64 n,.int .i64 size,.slice none 0 0,.slice s l.length cap]) (HP0.out.below hbw1) (hbw1.mono HBB.out.size) (fun k o hk _ _ => Below.heap hbw1 (Nat.le_refl _) hk) (Below.heap hq (Nat.le_refl _) (heap_new w _)));obtain ⟨x10,x11,x12,x13,x14,x16⟩:=HP1.out.facts;clear hq hbw1) | (go_at_call 126;refine (evHas_any _ _).mono ?_;rintro e w9 ⟨rfl,hw⟩;have hw:=hw.symm;subst hw) | (go_at_call 109;with_reducible refine (byte_k w0.heap.size a _ _ (by have:=HL.out;omega) _ HP1.out.pen).mono ?_;rintro e w2 ⟨rfl,hq,hb',hk'⟩;have HP2:=Lib.hid (HP1.out.step hq hb' hk');obtain ⟨x20,x21,x22,x23,x24,x26⟩:=HP2.out.facts;clear hq hb' hk') | (go_at_call 113;with_reducible refine (text_k w0.heap.size a _ _ (by omega) (by have:=HL.out;have:=HTP.out;simp only [List.length_append,List.length_cons,List.length_nil];omega) _ HP2.out.pen).mono ?_;rintro e w3 ⟨rfl,hq,hb',hk'⟩;have HP3:=Lib.hid (HP2.out.step hq hb' hk');obtain ⟨x30,x31,x32,x33,x34,x36⟩:=HP3.out.facts;clear hq hb' hk') | (go_at_call 110;with_reducible refine (num_k w0.heap.size a _ n (by omega) (by have:=HL.out;have:=HTP.out;simp only [List.length_append,List.length_cons,List.length_nil];omega) _ HP3.out.pen).mono ?_;rintro e w4 ⟨rfl,hq,hb',hk'⟩;have HP4:=Lib.hid (HP3.out.step hq hb' hk');obtain ⟨x40,x41,x42,x43,x44,x46⟩:=HP4.out.facts;clear hq hb' hk') | (go_at_call 110;with_reducible refine (num_k w0.heap.size a _ l.length (by omega) (by have:=HL.out;have:=HTP.out;have:=HN0.out;simp only [List.length_append,List.length_cons,List.length_nil];omega) _ HP4.out.pen).mono ?_;rintro e w5 ⟨rfl,hq,hb',hk'⟩;have HP5:=Lib.hid (HP4.out.step hq hb' hk');obtain ⟨x50,x51,x52,x53,x54,x56⟩:=HP5.out.facts;clear hq hb' hk'))
 have HLN:=Lib.hid (numB_len 8 l.length (by omega))
 have HNN:=Lib.hid (numB_len 8 n (by omega))
 obtain ⟨pre,hpre⟩:∃ pre,Hid (pre = l0 ++ [(3:Int)] ++ textB path ++ numB n ++ numB l.length):=⟨_,rfl⟩
 rw [← hpre.out] at HP5
 have HPL:=Lib.hid (show pre.length ≤ 800100 by
  have h1:=HL.out;have h2:=HTP.out;have h3:=HLN.out;have h4:=HNN.out
  rw [hpre.out]
  simp only [List.length_append,List.length_cons,List.length_nil];omega)
 go_loopw [58] (fun ti wr => ∃ k:Nat,k ≤ l.length ∧ ti = .int .i64 k ∧ Hid (PenIn w0.heap.size w wr a (pre ++ (l.take k).flatMap partB) w.heap.size [.int .i64 3,.string path,.string to,.int .i64 n,.int .i64 size,.slice none 0 0,.slice s l.length cap])) (fun i _ => l.length - (intOf i).toNat)
 case atStart => exact ⟨0,by omega,rfl,by simpa using HP5⟩
 case round =>
  obtain ⟨k,hk,rfl,hpin⟩:=hrel
  by_cases hlt:k < l.length
  ·obtain ⟨p,hp⟩:∃ p,l[k]? = some p:=⟨_,List.getElem?_eq_getElem hlt⟩
   obtain ⟨hp0,hfit⟩:=G12.out p (List.mem_of_getElem? hp)
   obtain ⟨g,off',rfl,hg,c0,c1,c2,c3⟩:=HC.out k p hp
   have t:∀ o u,w0.cell? ⟨g,o,none⟩ = some u → wr.cell? ⟨g,o,none⟩ = some u:=fun o u h => by
    rw [hpin.out.below.cell (p:=⟨g,o,none⟩) hg,HBB.out.cell (p:=⟨g,o,none⟩) hg]
    exact h
   obtain ⟨n1,hn1⟩:∃ n1:Nat,p.len = n1:=⟨p.len.toNat,by have:=hfit.1;omega⟩
   obtain ⟨n2,hn2⟩:∃ n2:Nat,p.chunk = n2:=⟨p.chunk.toNat,by have:=hfit.2.2.1;omega⟩
   obtain ⟨n3,hn3⟩:∃ n3:Nat,p.pos = n3:=⟨p.pos.toNat,by have:=hfit.2.2.2.2.1;omega⟩
   have q0:=t _ _ c0
   have q1:=t _ _ c1
   have q2:=t _ _ c2
   have q3:=t _ _ c3
   rw [hn1] at q1
   rw [hn2] at q2
   rw [hn3] at q3
   have hb1:n1 ≤ 64:=by have:=hfit.2.1;omega
   have hb2:n2 ≤ 4611686018427387904:=by have:=hfit.2.2.2.1;omega
   have hb3:n3 ≤ 64:=by have:=hfit.2.2.2.2.2;have:=hfit.1;omega
   have HPB:=Lib.hid (show (l.take (k + 1)).flatMap partB = (l.take k).flatMap partB ++ (numB n1 ++ numB n2 ++ numB n3) by
    rw [List.take_add_one,hp]
    simp [partB,hn1,hn2,hn3])
   have HLK:=Lib.hid (show (pre ++ (l.take k).flatMap partB).length ≤ 850000 by
    have h1:=partsB_len (l.take k) (fun q hq => (G12.out q (List.mem_of_mem_take hq)).2)
    have h2:=HPL.out
    simp only [List.length_append,List.length_take] at *;omega)
   have N1:=Lib.hid (numB_len 8 n1 (by omega))
   have N2:=Lib.hid (numB_len 8 n2 (by omega))
   have HPA:=Lib.hid (hpin.out.alloc (.cells #[.int .i64 p.off,.int .i64 n1,.int .i64 n2,.int .i64 n3] 134))
   have HBX:=Lib.hid (heap_new wr (.cells #[.int .i64 p.off,.int .i64 n1,.int .i64 n2,.int .i64 n3] 134))
   have HNE:=Lib.hid (hpin.out.ne)
   clear c0 c1 c2 c3 t hp hp0 hfit hn1 hn2 hn3
   go_wp2_with (first | (go_at_call 110;with_reducible refine (num_k w0.heap.size a _ n1 (by omega) (by have:=HLK.out;omega) _ HPA.out.pen).mono ?_;rintro e wa ⟨rfl,hq,hb',hk'⟩;have HPa:=Lib.hid (HPA.out.step hq hb' hk');have hba:=keep_at hk' HBX.out HNE.out (fun arr e => by injection e with _ e;exact absurd e (by decide));have HBa:=Lib.hid hba;have za:=cellAt hba 2;clear hq hb' hk' hba) | (go_at_call 110;with_reducible refine (num_k w0.heap.size a _ n2 (by omega) (by have:=HLK.out;have:=N1.out;rw [List.length_append];omega) _ HPa.out.pen).mono ?_;rintro e wb ⟨rfl,hq,hb',hk'⟩;have HPb:=Lib.hid (HPa.out.step hq hb' hk');have hbb:=keep_at hk' HBa.out HNE.out (fun arr e => by injection e with _ e;exact absurd e (by decide));have zb:=cellAt hbb 3;clear hq hb' hk' hbb) | (go_at_call 110;with_reducible refine (num_k w0.heap.size a _ n3 (by omega) (by have:=HLK.out;have:=N1.out;have:=N2.out;rw [List.length_append,List.length_append];omega) _ HPb.out.pen).mono ?_;rintro e wc ⟨rfl,hq,hb',hk'⟩;have HPc:=Lib.hid (HPb.out.step hq hb' hk');clear hq hb' hk'))
   go_roundw
   case rel =>
    refine ⟨k + 1,by omega,by go_num,?_⟩
    rw [HPB.out]
    show PenIn _ _ _ _ _ _ _
    have h:=HPc.out
    simpa only [List.append_assoc] using h
   case measure => simp [intOf];omega
  ·have hkl:k = l.length:=by omega
   subst hkl
   go_wp2
   first | (refine bodyPost_ret (results_none rfl _ _ _) rfl ?_) | go_end0
   have hB:l0 ++ itemB ⟨3,path,to,n,size,l⟩ = pre ++ (l.take l.length).flatMap partB:=by
    unfold itemB
    rw [hpre.out,List.take_length]
    simp only [if_true,if_neg (show ¬ (3:Int) = 5 by decide),if_neg (show ¬ (3:Int) = 4 by decide),Int.toNat_natCast]
    simp
   rw [hB]
   refine ⟨rfl,?_,?_,?_⟩
   ·exact hpin.out.pen
   ·exact hpin.out.below
   ·exact hpin.out.keep
theorem itemWrite_any (w0 w:World) (a:Nat) (l0:List Int) (cs:List Value) (i:ItemA) (h:ItemC w0 cs i) (hg:i.good) (hb:Below w0.heap.size w0 w) (hp:PenAt w w0.heap.size a l0) (hl:l0.length ≤ 800000) :
  Calls Tryz.prog 112 #[.pointer (some ⟨a,0,none⟩),.agg cs.toArray] w fun e w' => e = .returned (.tuple #[]) ∧ PenAt w' w0.heap.size a (l0 ++ itemB i) ∧ Below w0.heap.size w w' ∧ PenKeep a w w':=by
 by_cases c3:i.op = 3
 ·exact itemWrite_3 w0 w a l0 cs i h hg c3 hb hp hl
 ·by_cases c4:i.op = 4
  ·exact itemWrite_4 w0 w a l0 cs i h hg c4 hb hp hl
  ·by_cases c5:i.op = 5
   ·exact itemWrite_5 w0 w a l0 cs i h hg c5 hb hp hl
   ·exact itemWrite_other w0 w a l0 cs i h hg ⟨c3,c4,c5⟩ hb hp hl
end Go.Proofs.YtaonlcgneemimaaGreatDoor
