/- TopBatches: the contracts of R3; no condition. -/
import Derived.Test.YtaonlcgneemimaaGreatDoorB28
import Derived.Test.YtaonlcgneemimaaGreatDoorB13
namespace Go.Proofs.YtaonlcgneemimaaGreatDoor
open Go.RowKit
def logB (ss:List Int) (n:Nat) (last:Int):List Int:=numB ss.length ++ ss ++ numB n ++ crcB last
set_option maxRecDepth 100000 in
set_option maxHeartbeats 1000000 in
theorem superLog_any (w:World) (B a:Nat) (l0:List Int) (hP:PenAt w B a l0) (hl0:l0.length ≤ 1000) (sv:Value) (ss:List Int) (n:Nat) (last:Int) (hsl:Sl w 3 1 sv ss.length (ints ss)) (hn:n ≤ 100000) (hss:ss.length ≤ 96) (hr:∀ s ∈ ss,0 ≤ s ∧ s < 96) :
  Calls Tryz.prog 243 #[.pointer (some ⟨a,0,none⟩),.agg #[sv,.int .i64 n,.int .u32 last]] w fun e w' => e = .returned (.tuple #[]) ∧ PenAt w' B a (l0 ++ logB ss n last) ∧ Below B w w' ∧ PenKeep a w w':=by
 have HP:=Lib.hid hP
 have HS:=Lib.hid hsl
 have HR:=Lib.hid hr
 obtain ⟨sa,cap,rfl,hcap,-,hj⟩:=hsl.shape
 have HJ:=Lib.hid hj
 obtain ⟨N,hN⟩:∃ N,Hid (N = ss.length):=⟨ss.length,Lib.hid rfl⟩
 rw [← hN.out] at hss hcap HS ⊢
 have hB:Hid (B ≤ w.heap.size):=Lib.hid (by obtain ⟨v,ha,-,hBa,-⟩:=hP;have:=heap_lt ha;omega)
 have ha:Hid (a < w.heap.size):=Lib.hid (by obtain ⟨v,ha,-,hBa,-⟩:=hP;exact heap_lt ha)
 have X0:=Lib.hid (heap_new w (.cells #[.slice sa N cap,.int .i64 n,.int .u32 last] 225))
 have P0:Hid (PenAt (w.alloc (.cells #[.slice sa N cap,.int .i64 n,.int .u32 last] 225)) B a l0):=Lib.hid (HP.out.below (crc_below _ _))
 have Bw:Hid (Below B w (w.alloc (.cells #[.slice sa N cap,.int .i64 n,.int .u32 last] 225))):=Lib.hid ((crc_below _ _).mono hB.out)
 have Kw:Hid (PenKeep a w (w.alloc (.cells #[.slice sa N cap,.int .i64 n,.int .u32 last] 225))):=Lib.hid (fun k o hk _ _ => heap_old hk _)
 have hnb5:Hid (∀ arr,Obj.cells #[.slice sa N cap,.int .i64 n,.int .u32 last] 225 (0,0) ≠ .cells arr 5 (0,0)):=Lib.hid (fun arr h => by injection h with _ h;exact absurd h (by decide))
 have hlb:Hid (∀ k,(numB k).length ≤ 9 ∨ 100000 < k):=Lib.hid (fun k => by
  by_cases h:k ≤ 100000
  ·exact .inl (numB_len 8 k (by omega))
  ·exact .inr (by omega))
 have hN9:Hid ((numB N).length ≤ 9):=Lib.hid (by rcases hlb.out N with h | h;exact h;omega)
 have hn9:Hid ((numB n).length ≤ 9):=Lib.hid (by rcases hlb.out n with h | h;exact h;omega)
 have crcK:Hid (∀ (W:World) (c:Int),Calls Tryz.prog 188 #[.int .u32 c] W fun e w' => e = .returned (.slice (some ⟨W.heap.size,0,none⟩) 4 4) ∧ Sl w' 5 1 (.slice (some ⟨W.heap.size,0,none⟩) 4 4) 4 (u8s (crcB c)) ∧ Below W.heap.size W w' ∧ W.heap.size < w'.heap.size):=Lib.hid (fun W c => (crcBytes_any c W).mono (by rintro e w' ⟨rfl,rfl⟩;exact ⟨rfl,crc_new W c,crc_below W _,by simp⟩))
 clear hP hsl hr hj
 go_enter Tryz.func243,Tryz.ntmps243
 go_wp2_with (go_at_call 110;refine (num_k B a l0 N (by omega) (by omega) _ P0.out).mono ?_;rintro e w1 ⟨rfl,hp,hb,hk⟩;have P1:=Lib.hid hp;have B1:=Lib.hid (Bw.out.trans hb);have K1:=Lib.hid (Kw.out.trans hk);have X1:=Lib.hid (hk _ _ X0.out (by have:=ha.out;omega) hnb5.out);have x0:=cellAt X1.out 0;clear hp hb hk)
 go_loopw [5,16] (fun _ ti wr => ∃ k:Nat,k ≤ N ∧ ti = .int .i64 k ∧ Hid (PenAt wr B a (l0 ++ numB N ++ ss.take k) ∧ Below B w wr ∧ PenKeep a w wr ∧ wr.heap[w.heap.size]? = some (.cells #[.slice sa N cap,.int .i64 n,.int .u32 last] 225 (0,0)))) (fun _ i _ => N - (intOf i).toNat)
 case atStart => exact ⟨0,by omega,rfl,Lib.hid ⟨by simpa using P1.out,B1.out,K1.out,X1.out⟩⟩
 case round =>
  obtain ⟨k,hk,rfl,hst⟩:=hrel
  have hlen:Hid ((l0 ++ numB N ++ ss.take k).length ≤ 2000):=Lib.hid (by have:=hN9.out;have:=hN.out;simp;omega)
  by_cases hlk:k < N
  ·have HLK:=Lib.hid hlk
   obtain ⟨s,hsk⟩:∃ s,ss[k]? = some s:=⟨_,List.getElem?_eq_getElem (by have:=hN.out;omega)⟩
   obtain ⟨g,off,rfl,hg,hk2⟩:=HJ.out k (by have:=hN.out;omega)
   have hsr:=HR.out s (List.mem_of_getElem? hsk)
   have hwg:Hid (wr.cell? ⟨g,off + k,none⟩ = some (.int .i64 s)):=Lib.hid (by
    have c0:=hk2 0 (.int .i64 s) (by decide) (by simp [ints,hsk])
    simp only [Nat.mul_one,Nat.add_zero] at c0
    have hS2:=HS.out
    rcases hS2.2.2 with ⟨h1,_⟩ | ⟨g',off',cap',arr,h1,-,-,-,h5,-⟩
    ·simp at h1
    ·simp only [Value.slice.injEq,Option.some.injEq,Addr.mk.injEq] at h1
     obtain ⟨⟨rfl,rfl,-⟩,-⟩:=h1
     have hga:g ≠ a:=by
      obtain ⟨v,hpa,-⟩:=HP.out
      exact cells_ty h5 hpa (by decide)
     have h6:=hst.out.2.2.1 _ _ h5 hga (fun arr' h => by injection h with _ h;exact absurd h (by decide))
     unfold World.cell? at c0 ⊢
     rw [h5] at c0
     rw [h6]
     exact c0)
   have c1:=hwg.out
   have HTK:=Lib.hid (take_snoc hsk)
   have q8:IntKind.u8.wrap s = s:=IntWalk.u8_in _ (by omega)
   clear hsk hk2 hlk
   go_wp2_with (go_at_call 109;refine (byte_k B a _ s (by have:=hlen.out;omega) _ hst.out.1).mono ?_;rintro e w2 ⟨rfl,hp,hb,hk'⟩;have P2:=Lib.hid hp;have B2:=Lib.hid (hst.out.2.1.trans hb);have K2:=Lib.hid (hst.out.2.2.1.trans hk');have X2:=Lib.hid (hk' _ _ hst.out.2.2.2 (by have:=ha.out;omega) hnb5.out);clear hp hb hk')
   go_roundw
   case rel => exact ⟨k + 1,by have:=HLK.out;omega,by go_num,Lib.hid ⟨by rw [HTK.out,← List.append_assoc];exact P2.out,B2.out,K2.out,X2.out⟩⟩
   case measure => have:=HLK.out;simp [intOf];omega
  ·have hkN:N = k:=by omega
   subst hkN
   have hall:Hid (ss.take N = ss):=Lib.hid (List.take_of_length_le (by have:=hN.out;omega))
   have y1:=cellAt hst.out.2.2.2 1
   have y2:=cellAt hst.out.2.2.2 2
   go_wp2_with (first | (go_at_call 110;refine (num_k B a _ n (by omega) (by have:=hlen.out;omega) _ hst.out.1).mono ?_;rintro e w3 ⟨rfl,hp,hb,hk'⟩;have P3:=Lib.hid hp;have B3:=Lib.hid (hst.out.2.1.trans hb);have K3:=Lib.hid (hst.out.2.2.1.trans hk');have X3:=Lib.hid (hk' _ _ hst.out.2.2.2 (by have:=ha.out;omega) hnb5.out);have y3:=cellAt X3.out 2;clear hp hb hk') | (go_at_call 188;refine (crcK.out _ last).mono ?_;rintro e w4 ⟨rfl,hs4,hb4,hz4⟩;have S4:=Lib.hid hs4;have B4:=Lib.hid hb4;have P4:=Lib.hid (P3.out.below hb4);have Z4:=Lib.hid hz4;clear hs4 hb4 hz4))
   obtain ⟨v0,hx0⟩:=P3.out
   have HX0:Hid (PenX w4 B a v0 (l0 ++ numB N ++ ss ++ numB n)):=Lib.hid (by
    have h:=hx0
    rw [hall.out] at h
    exact ⟨Below.heap B4.out (Nat.le_refl _) h.1,own_below h.2.1 B4.out,h.2.2⟩)
   have hc0:Hid (w3.heap.size ∉ a :: v0.ownBlock.toList):=Lib.hid (by
    intro hm
    simp only [List.mem_cons,Option.mem_toList] at hm
    rcases hm with hm | hm
    ·have:=heap_lt hx0.1;omega
    ·have:=(hx0.2.1.lt _ hm).2;omega)
   have hc4:Hid (∀ j y,(crcB last)[j]? = some y → w4.cell? ⟨w3.heap.size,j,none⟩ = some (.int .u8 y)):=Lib.hid (fun j y hy => by
    obtain ⟨ca,cc,he,-,-,hh⟩:=S4.out.shape
    simp only [Value.slice.injEq] at he
    obtain ⟨rfl,-,rfl⟩:=he
    have hj4:j < 4:=(List.getElem?_eq_some_iff.1 hy).1
    obtain ⟨g',off',he',-,hk'⟩:=hh j hj4
    simp only [Option.some.injEq,Addr.mk.injEq] at he'
    obtain ⟨rfl,rfl,-⟩:=he'
    have:=hk' 0 (.int .u8 y) (by decide) (by simp [u8s,hy])
    simpa using this)
   clear hx0
   go_loopw [7,33] (fun _ ti wr => ∃ j:Nat,j ≤ 4 ∧ ti = .int .i64 j ∧ Hid (∃ v',PenX wr B a v' (l0 ++ numB N ++ ss ++ numB n ++ (crcB last).take j) ∧ Frame (a :: v0.ownBlock.toList) w4 wr ∧ (v'.ownBlock = v0.ownBlock ∨ ∀ y ∈ v'.ownBlock.toList,w4.heap.size ≤ y))) (fun _ i _ => 4 - (intOf i).toNat)
   case atStart => exact ⟨0,by omega,rfl,Lib.hid ⟨v0,by simpa using HX0.out,Frame.refl _ _,.inl rfl⟩⟩
   case round =>
    obtain ⟨j,hj4,rfl,hst2⟩:=hrel
    obtain ⟨v',hx,hf,halt⟩:=hst2.out
    have HX:=Lib.hid hx
    have HF:=Lib.hid hf
    have HALT:=Lib.hid halt
    clear hx hf halt hst2
    by_cases hlt:j < 4
    ·have HLT:=Lib.hid hlt
     obtain ⟨y,hy⟩:∃ y,(crcB last)[j]? = some y:=⟨_,List.getElem?_eq_getElem hlt⟩
     have c5:wr.cell? ⟨w3.heap.size,j,none⟩ = some (.int .u8 y):=(HF.out.cell (p:=⟨w3.heap.size,j,none⟩) Z4.out hc0.out).trans (hc4.out j y hy)
     have HTK:=Lib.hid (take_snoc hy)
     have hlen2:Hid ((l0 ++ numB N ++ ss ++ numB n ++ (crcB last).take j).length ≤ 1000000):=Lib.hid (by have:=hN9.out;have:=hn9.out;have:=hN.out;simp;omega)
     clear hy
     go_wp2_with (go_at_call 109;refine (byte_f B a _ _ y hlen2.out _ HX.out).mono ?_;rintro e w6 ⟨rfl,v6,hp,hb,ha6⟩;have P6:=Lib.hid hp;have F6:=Lib.hid hb;have A6:=Lib.hid ha6;clear hp hb ha6)
     go_roundw
     case rel =>
      refine ⟨j + 1,by have:=HLT.out;omega,by go_num,Lib.hid ⟨v6,by rw [HTK.out,← List.append_assoc];exact P6.out,HF.out.trans F6.out (fun z hz => ?_),?_⟩⟩
      ·simp only [List.mem_cons,Option.mem_toList] at hz ⊢
       rcases hz with hz | hz
       ·exact .inl (.inl hz)
       ·rcases HALT.out with h' | h'
        ·exact .inl (.inr (by rw [← h'];exact hz))
        ·exact .inr (h' z (by simp [hz]))
      ·rcases A6.out with h' | h'
       ·rw [h'];exact HALT.out
       ·exact .inr (fun z hz => Nat.le_trans HF.out.size (h' z hz))
     case measure => have:=HLT.out;simp [intOf];omega
    ·have hj5:j = 4:=by omega
     subst hj5
     go_wp2
     go_end0
     refine ⟨rfl,?_,?_,?_⟩
     ·have h:=HX.out.at
      rw [show (crcB last).take 4 = crcB last from rfl] at h
      unfold logB
      rw [← hN.out]
      simpa [List.append_assoc] using h
     ·have h4:Below B w w4:=B3.out.trans (B4.out.mono (by have h1:=B3.out.size;have h2:=hB.out;omega))
      refine h4.trans ⟨HF.out.os,HF.out.tape,HF.out.output,HF.out.size,fun z hz => HF.out.block z (by have h1:=h4.size;have h2:=hB.out;omega) (fun hm => ?_)⟩
      simp only [List.mem_cons,Option.mem_toList] at hm
      rcases hm with rfl | hm
      ·have:=HX0.out.2.2.1;omega
      ·have:=(HX0.out.2.1.lt _ hm).1;omega
     ·intro z o hz hne hno
      have h3:=K3.out z o hz hne hno
      have h4:=Below.heap B4.out (Nat.le_refl _) h3
      refine HF.out.heap h4 (fun hm => ?_)
      simp only [List.mem_cons,Option.mem_toList] at hm
      rcases hm with rfl | hm
      ·exact hne rfl
      ·obtain ⟨arr,harr⟩:=own_heap HX0.out.2.1 hm
       rw [h4] at harr
       simp only [Option.some.injEq] at harr
       exact hno arr harr
end Go.Proofs.YtaonlcgneemimaaGreatDoor
