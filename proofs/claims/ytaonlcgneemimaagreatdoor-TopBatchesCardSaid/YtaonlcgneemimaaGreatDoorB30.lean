/- TopBatches: the contracts of R4; no condition. -/
import Derived.Lib.SlBytesConst
import Derived.Test.YtaonlcgneemimaaGreatDoorB29
import Derived.Test.YtaonlcgneemimaaGreatDoorB28
namespace Go.Proofs.YtaonlcgneemimaaGreatDoor
open Go.RowKit
theorem mk_220 (w:World):(Instr.makeSlice 33 (.int .i64 220) (.int .i64 224)).run Tryz.prog w = .ok (.slice (some ⟨w.heap.size,0,none⟩) 220 224) (w.alloc (.cells (u8s (List.replicate 224 0)).toArray 5)):=by
 obtain ⟨i0,hi,hz0,hz1,hz2⟩:=info_parts info5
 have h:=run_makeSlice (P:=Tryz.prog) w 33 5 i0 _ Tryz.underlying33 hi hz0 .i64 .i64 (220:Nat) (224:Nat) (by omega) (by omega) (by rw [mul_one' _ _ hz1];simp) (by rw [hz2];omega) (by omega)
 rw [mul_one' _ _ hz1] at h
 simp only [Int.toNat_natCast] at h
 rw [made_bytes] at h
 exact h
def plainL (number boot nJ nC:Nat) (ssJ ssC:List Int) (lastJ lastC:Int):List Int:=[84,82] ++ numB number ++ numB boot ++ logB ssJ nJ lastJ ++ logB ssC nC lastC
theorem numB_9 {k:Nat} (h:k ≤ 9223372036854775807):(numB k).length ≤ 9:=numB_len 8 k (by omega)
theorem logB_len {ss:List Int} {n:Nat} {last:Int} (h1:ss.length ≤ 96) (h2:n ≤ 100000):(logB ss n last).length ≤ 22 + ss.length:=by
 have:=numB_9 (k:=ss.length) (by omega)
 have:=numB_9 (k:=n) (by omega)
 simp [logB,crcB_length]
 omega
theorem row_220 {W:World} {B g:Nat} {fs:List Int} (h:W.heap[g]? = some (.cells (u8s fs).toArray 5 (0,0))) (hf:fs.length = 224) (hB:B ≤ g):W.ownsRow B 5 1 (.slice (some ⟨g,0,none⟩) 220 224) 220 (u8s (fs.take 220)) :=
 ⟨by simp [u8s,hf],.inr ⟨g,224,_,rfl,hB,h,by decide,by decide,by simp [u8s,hf],by simp [u8s,List.map_take]⟩⟩
set_option maxRecDepth 100000 in
set_option maxHeartbeats 2000000 in
theorem superPlain_any (w:World) (number boot nJ nC:Nat) (ssJ ssC:List Int) (svJ svC:Value) (lastJ lastC:Int) (hok:SuperOk number boot nJ nC ssJ ssC) (hJ:Sl w 3 1 svJ ssJ.length (ints ssJ)) (hC:Sl w 3 1 svC ssC.length (ints ssC)) :
  Calls Tryz.prog 209 #[.agg (superC number boot nJ nC svJ svC lastJ lastC)] w fun e w' => ∃ v fs,e = .returned v ∧ w'.ownsRow w.heap.size 5 1 v 224 (u8s fs) ∧ Below w.heap.size w w':=by
 have HOK:=Lib.hid hok
 have HJ:=Lib.hid hJ
 have HC:=Lib.hid hC
 obtain ⟨aJ,capJ,rfl,-,-,-⟩:=hJ.shape
 obtain ⟨aC,capC,rfl,-,-,-⟩:=hC.shape
 obtain ⟨i0,hi,hz0,hz1,hz2⟩:=info_parts info5
 unfold superC
 obtain ⟨zz,hzz⟩:∃ zz,Hid (zz = List.replicate 224 (0:Int)):=⟨_,Lib.hid rfl⟩
 have hms:=mk_220
 rw [← hzz.out] at hms
 have hcv:=Go.Lib.run_convert_bytes_const (P:=Tryz.prog) ((w.alloc (.cells #[.int .i64 number,.int .i64 boot,.slice aJ ssJ.length capJ,.int .i64 nJ,.int .u32 lastJ,.slice aC ssC.length capC,.int .i64 nC,.int .u32 lastC] 230)).alloc (.cells #[.slice none 0 0] 197)) 33 5 #[.int .u8 84,.int .u8 82] 2 2 Tryz.underlying33 Tryz.underlying5
 simp only [World.size_alloc,List.size_toArray,List.length_cons,List.length_nil,Nat.reduceAdd] at hcv
 have crcK:Hid (∀ (W:World) (c:Int),Calls Tryz.prog 188 #[.int .u32 c] W fun e w' => e = .returned (.slice (some ⟨W.heap.size,0,none⟩) 4 4) ∧ Sl w' 5 1 (.slice (some ⟨W.heap.size,0,none⟩) 4 4) 4 (u8s (crcB c)) ∧ Below W.heap.size W w'):=Lib.hid (fun W c => (crcBytes_any c W).mono (by rintro e w' ⟨rfl,rfl⟩;exact ⟨rfl,crc_new W c,crc_below W _⟩))
 clear hok hJ hC
 go_enter Tryz.func209,Tryz.ntmps209
 go_wp2
 obtain ⟨w2,hw2⟩:∃ W,Hid (W = (((w.alloc (.cells #[.int .i64 number,.int .i64 boot,.slice aJ ssJ.length capJ,.int .i64 nJ,.int .u32 lastJ,.slice aC ssC.length capC,.int .i64 nC,.int .u32 lastC] 230)).alloc (.cells #[.slice none 0 0] 197)).alloc (.cells #[.int .u8 84,.int .u8 82] 5 (2,3)))):=⟨_,Lib.hid rfl⟩
 rw [show (((w.alloc (.cells #[.int .i64 number,.int .i64 boot,.slice aJ ssJ.length capJ,.int .i64 nJ,.int .u32 lastJ,.slice aC ssC.length capC,.int .i64 nC,.int .u32 lastC] 230)).alloc (.cells #[.slice none 0 0] 197)).alloc (.cells #[.int .u8 84,.int .u8 82] 5 (2,3))) = w2 from hw2.out.symm]
 have A0:Hid (Below w.heap.size w w2 ∧ w2.heap.size = w.heap.size + 3 ∧ w2.heap[w.heap.size]? = some (.cells #[.int .i64 number,.int .i64 boot,.slice aJ ssJ.length capJ,.int .i64 nJ,.int .u32 lastJ,.slice aC ssC.length capC,.int .i64 nC,.int .u32 lastC] 230 (0,0)) ∧ PenX w2 (w.heap.size + 1) (w.heap.size + 1) (.slice none 0 0) [] ∧ w2.heap[w.heap.size + 2]? = some (.cells #[.int .u8 84,.int .u8 82] 5 (2,3))):=Lib.hid (by
  rw [hw2.out]
  refine ⟨below_alloc3 _ _ _ _,by simp,heap_old (heap_old (heap_new _ _) _) _,⟨heap_old (heap_new2 w _ _) _,World.ownsRow_nil _ _ _ _,Nat.le_refl _,rfl⟩,?_⟩
  have:=heap_new2 (w.alloc (.cells #[.int .i64 number,.int .i64 boot,.slice aJ ssJ.length capJ,.int .i64 nJ,.int .u32 lastJ,.slice aC ssC.length capC,.int .i64 nC,.int .u32 lastC] 230)) (.cells #[.slice none 0 0] 197) (.cells #[.int .u8 84,.int .u8 82] 5 (2,3))
  rw [World.size_alloc] at this
  exact this)
 clear hw2
 go_loopw [5,12] (fun _ ti wr => ∃ j:Nat,j ≤ 2 ∧ ti = .int .i64 j ∧ Hid (∃ v',PenX wr (w.heap.size + 1) (w.heap.size + 1) v' ([84,82].take j) ∧ Frame [w.heap.size + 1] w2 wr ∧ (v' = .slice none 0 0 ∨ ∀ y ∈ v'.ownBlock.toList,w2.heap.size ≤ y))) (fun _ i _ => 2 - (intOf i).toNat)
 case atStart => exact ⟨0,by omega,rfl,Lib.hid ⟨_,A0.out.2.2.2.1,Frame.refl _ _,.inl rfl⟩⟩
 case round =>
  obtain ⟨j,hj2,rfl,hst⟩:=hrel
  obtain ⟨v',hx,hf,halt⟩:=hst.out
  have HX:=Lib.hid hx
  have HF:=Lib.hid hf
  have HALT:=Lib.hid halt
  clear hx hf halt hst
  by_cases hlt:j < 2
  ·have HLT:=Lib.hid hlt
   obtain ⟨y,hy⟩:∃ y,([84,82]:List Int)[j]? = some y:=⟨_,List.getElem?_eq_getElem hlt⟩
   have c5:wr.cell? ⟨w.heap.size + 2,j,none⟩ = some (.int .u8 y):=(HF.out.cell (p:=⟨w.heap.size + 2,j,none⟩) (heap_lt A0.out.2.2.2.2) (by simp)).trans ((show w2.cell? ⟨w.heap.size + 2,j,none⟩ = (#[Value.int .u8 84,.int .u8 82]:Array Value)[j]? by unfold World.cell?;simp only [A0.out.2.2.2.2];rfl).trans (by
    have:(#[Value.int .u8 84,.int .u8 82]:Array Value)[j]? = (([84,82]:List Int)[j]?).map (Value.int .u8):=by
     match j,hlt with
     | 0,_ => rfl
     | 1,_ => rfl
    rw [this,hy]
    rfl))
   have HTK:=Lib.hid (take_snoc hy)
   clear hy
   go_wp2_with (go_at_call 109;refine (byte_f _ _ _ _ y (by simp;omega) _ HX.out).mono ?_;rintro e w6 ⟨rfl,v6,hp,hb,ha6⟩;have P6:=Lib.hid hp;have F6:=Lib.hid hb;have A6:=Lib.hid ha6;clear hp hb ha6)
   go_roundw
   case rel =>
    refine ⟨j + 1,by have:=HLT.out;omega,by go_num,Lib.hid ⟨v6,by rw [HTK.out];exact P6.out,HF.out.trans F6.out (fun z hz => ?_),?_⟩⟩
    ·simp only [List.mem_cons,Option.mem_toList] at hz
     rcases hz with hz | hz
     ·exact .inl (by simp [hz])
     ·rcases HALT.out with h' | h'
      ·rw [h'] at hz;simp [Value.ownBlock] at hz
      ·exact .inr (h' z (by simp [hz]))
    ·refine .inr (fun z hz => ?_)
     rcases A6.out with h' | h'
     ·rw [h'] at hz
      rcases HALT.out with h2 | h2
      ·rw [h2] at hz;simp [Value.ownBlock] at hz
      ·exact h2 z hz
     ·exact Nat.le_trans HF.out.size (h' z hz)
   case measure => have:=HLT.out;simp [intOf];omega
  ·have hj5:j = 2:=by omega
   subst hj5
   have H1:Hid (PenAt wr (w.heap.size + 1) (w.heap.size + 1) [84,82] ∧ Below w.heap.size w wr ∧ wr.heap[w.heap.size]? = some (.cells #[.int .i64 number,.int .i64 boot,.slice aJ ssJ.length capJ,.int .i64 nJ,.int .u32 lastJ,.slice aC ssC.length capC,.int .i64 nC,.int .u32 lastC] 230 (0,0))):=Lib.hid ⟨HX.out.at,HF.out.belowIf A0.out.1 (by simp) (by have:=A0.out.2.1;omega),HF.out.heap A0.out.2.2.1 (by simp)⟩
   have KX:Hid (∀ W,Below (w.heap.size + 1) wr W → Below w.heap.size w W ∧ W.heap[w.heap.size]? = some (.cells #[.int .i64 number,.int .i64 boot,.slice aJ ssJ.length capJ,.int .i64 nJ,.int .u32 lastJ,.slice aC ssC.length capC,.int .i64 nC,.int .u32 lastC] 230 (0,0))):=Lib.hid (fun W hW => ⟨H1.out.2.1.trans (hW.mono (by omega)),(hW.block _ (by omega)).trans H1.out.2.2⟩)
   have R0:=Lib.hid (Below.refl (w.heap.size + 1) wr)
   have y0:=cellAt H1.out.2.2 0
   have hnu:Hid (number ≤ 2147483647 ∧ boot ≤ 2147483647):=Lib.hid ⟨HOK.out.number,HOK.out.boot⟩
   have hfew:Hid (ssJ.length + ssC.length ≤ 96 ∧ nJ ≤ 100000 ∧ nC ≤ 100000):=Lib.hid (by have:=HOK.out.few;have:=HOK.out.lenJ;have:=HOK.out.lenC;omega)
   have l1:Hid ((numB number).length ≤ 9 ∧ (numB boot).length ≤ 9):=Lib.hid ⟨numB_9 (by have:=hnu.out.1;omega),numB_9 (by have:=hnu.out.2;omega)⟩
   have l2:Hid ((logB ssJ nJ lastJ).length ≤ 22 + ssJ.length ∧ (logB ssC nC lastC).length ≤ 22 + ssC.length):=Lib.hid ⟨logB_len (by have:=hfew.out;omega) (by have:=hfew.out;omega),logB_len (by have:=hfew.out;omega) (by have:=hfew.out;omega)⟩
   have hsz5:Hid ((Tryz.prog.info? 5).map (·.size) = some 1):=Lib.hid (by rw [hi];simp [hz1])
   have FS:Hid (∀ (W:World) (g:Nat),W.heap[g]? = some (.cells (splice (u8s zz) 0 (u8s (plainL number boot nJ nC ssJ ssC lastJ lastC))).toArray 5 (0,0)) → ∃ fs:List Int,fs.length = 224 ∧ W.heap[g]? = some (.cells (u8s fs).toArray 5 (0,0))):=Lib.hid (fun W g hW => by
    refine ⟨splice zz 0 (plainL number boot nJ nC ssJ ssC lastJ lastC),?_,?_⟩
    ·rw [length_splice _ _ _ (by have h1:=l1.out;have h2:=l2.out;have h3:=hfew.out;rw [hzz.out];simp [plainL];omega),hzz.out]
     simp
    ·have h3:=splice_map (Value.int IntKind.u8) zz 0 (plainL number boot nJ nC ssJ ssC lastJ lastC)
     unfold u8s at hW ⊢
     rw [h3]
     exact hW)
   have SUM:Hid (∀ (W:World) (fs:List Int) (g:Nat),fs.length = 224 → W.heap[g]? = some (.cells (u8s fs).toArray 5 (0,0)) → Calls Tryz.prog 148 #[.slice (some ⟨g,0,none⟩) 220 224] W fun e w' => e = .returned (.int .u32 (crcSum (fs.take 220))) ∧ Below W.heap.size W w'):=Lib.hid (fun W fs g hf hW => by
    have h1:=Sl.of_own (row_220 (B:=0) hW hf (Nat.zero_le _)) (u8s_one' _) (.inr (by decide))
    have hl:(fs.take 220).length = 220:=by simp [hf]
    exact sum_any (.slice (some ⟨g,0,none⟩) 220 224) (fs.take 220) W (by rw [hl];exact h1) (by omega))
   have HPL:Hid (∀ m,m = (plainL number boot nJ nC ssJ ssC lastJ lastC).length → m ≤ 160):=Lib.hid (fun m hm => by have h1:=l1.out;have h2:=l2.out;have h3:=hfew.out;rw [hm];simp [plainL];omega)
   go_wp2_with (first | (go_at_call 110;with_reducible refine (num_k (w.heap.size + 1) (w.heap.size + 1) [84,82] number (by have:=hnu.out.1;omega) (by simp) wr H1.out.1).mono ?_;rintro e w3 ⟨rfl,hp,hb,-⟩;have P3:=Lib.hid hp;have B3:=Lib.hid hb;have y3:=cellAt (KX.out _ hb).2 1;clear hp hb) | (go_at_call 110;with_reducible refine (num_k (w.heap.size + 1) (w.heap.size + 1) _ boot (by have:=hnu.out.2;omega) (by have:=l1.out;simp;omega) w3 P3.out).mono ?_;rintro e w4 ⟨rfl,hp,hb,-⟩;have P4:=Lib.hid hp;have B4:=Lib.hid (B3.out.trans hb);have y4:=cellAt (KX.out _ B4.out).2 2;have y5:=cellAt (KX.out _ B4.out).2 3;have y6:=cellAt (KX.out _ B4.out).2 4;clear hp hb) | (go_at_call 243;with_reducible refine (superLog_any w4 (w.heap.size + 1) (w.heap.size + 1) _ P4.out (by have:=l1.out;simp;omega) _ ssJ nJ lastJ (HJ.out.below (KX.out _ B4.out).1) (by have:=hfew.out;omega) (by have:=hfew.out;omega) (fun s hs => HOK.out.range s (by simp [hs]))).mono ?_;rintro e w5 ⟨rfl,hp,hb,-⟩;have P5:=Lib.hid hp;have B5:=Lib.hid (B4.out.trans hb);have y7:=cellAt (KX.out _ B5.out).2 5;have y8:=cellAt (KX.out _ B5.out).2 6;have y9:=cellAt (KX.out _ B5.out).2 7;clear hp hb) | (go_at_call 243;with_reducible refine (superLog_any w5 (w.heap.size + 1) (w.heap.size + 1) _ P5.out (by have:=l1.out;have:=l2.out;have:=hfew.out;simp;omega) _ ssC nC lastC (HC.out.below (KX.out _ B5.out).1) (by have:=hfew.out;omega) (by have:=hfew.out;omega) (fun s hs => HOK.out.range s (by simp [hs]))).mono ?_;rintro e w6 ⟨rfl,hp,hb,-⟩;have P6:=Lib.hid hp;have B6:=Lib.hid (B5.out.trans hb);clear hp hb) | (go_at_call 114;refine (penBytes_any (w.heap.size + 1) (w.heap.size + 1) (plainL number boot nJ nC ssJ ssC lastJ lastC) (by have:=HPL.out _ rfl;omega) (by simp [plainL]) _ (P6.out.below (crc_below _ _))).mono ?_;rintro e w7 ⟨v7,rfl,ho,hq⟩;have O7:=Lib.hid ho;have B7:Hid (Below w6.heap.size w6 w7):=Lib.hid ((crc_below _ _).trans (hq.mono (by simp)));have Z7:=Lib.hid (Below.heap hq (Nat.le_refl _) (heap_new w6 (.cells (u8s zz).toArray 5)));obtain ⟨g7,cap7,cur7,rfl,-,-,-⟩:=own_pos ho (by simp [plainL]);clear ho hq) | (refine wpList_copy_splice rfl _ _ 33 33 rfl 5 Tryz.underlying33 hsz5.out _ _ 220 224 (plainL number boot nJ nC ssJ ssC lastJ lastC).length cap7 rfl rfl w6.heap.size 0 (u8s zz) 5 Z7.out (u8s (plainL number boot nJ nC ssJ ssC lastJ lastC)) (by have h1:=HPL.out _ rfl;rw [show (u8s (plainL number boot nJ nC ssJ ssC lastJ lastC)).length = (plainL number boot nJ nC ssJ ssC lastJ lastC).length by simp [u8s]];exact (Nat.min_eq_left (by omega)).symm) (fun _ => ⟨rfl,⟨g7,0,none⟩,rfl,by simpa using O7.out.cells (g:=g7) rfl⟩) (by have h1:=HPL.out _ rfl;rw [show (u8s zz).length = 224 by simp [u8s,hzz.out],show (u8s (plainL number boot nJ nC ssJ ssC lastJ lastC)).length = (plainL number boot nJ nC ssJ ssC lastJ lastC).length by simp [u8s]];omega) (u8s_one' _) w6.heap.size w6 B7.out (Nat.le_refl _) ?_;intro w8 hw8 hb8;have Z8:=hw8;have B8:=Lib.hid hb8;have O8:Hid (∃ fs:List Int,fs.length = 224 ∧ w8.heap[w6.heap.size]? = some (.cells (u8s fs).toArray 5 (0,0))):=Lib.hid (FS.out w8 w6.heap.size hw8.out);obtain ⟨fs,hfs1,hfs2⟩:=O8.out;have HFS:=Lib.hid hfs1;have HFZ:=Lib.hid hfs2;clear hw8 hb8 hfs1 hfs2) | (go_at_call 148;refine (SUM.out _ fs _ HFS.out HFZ.out).mono ?_;rintro e w9 ⟨rfl,hq⟩;have B9:=Lib.hid (B8.out.trans (hq.mono B8.out.size));have Z9:=Lib.hid (Below.heap hq (Nat.le_refl _) HFZ.out);clear hq) | (go_at_call 188;refine (crcK.out _ _).mono ?_;rintro e w10 ⟨rfl,hs,hb⟩;have S10:=Lib.hid hs;have B10:=Lib.hid (B9.out.trans (hb.mono B9.out.size));have Z10:=Lib.hid (row_220 (B:=w6.heap.size) (Below.heap hb (Nat.le_refl _) Z9.out) HFS.out (Nat.le_refl _));clear hs hb) | (at_builtin;refine wp_append_sl rfl _ _ 33 rfl w6.heap.size 5 i0 _ 1 1 Tryz.underlying33 hi hz0 hz1 hz2 rfl (by decide) _ 220 _ rfl Z10.out _ 4 _ rfl S10.out (by omega) (by decide) B10.out.size ?_;intro v11 w11 hown hgr _ _;have O11:=Lib.hid hown;have B11:=Lib.hid (B10.out.grown hgr B10.out.size (fun j hj => (Z10.out.lt j hj).1));clear hown hgr))
   go_ret
   have h6:=(KX.out _ B6.out).1
   refine ⟨v11,fs.take 220 ++ crcB (crcSum (fs.take 220)),rfl,?_,h6.trans (B11.out.mono h6.size)⟩
   have h11:=own_mono O11.out h6.size
   rw [u8s_append]
   exact h11
end Go.Proofs.YtaonlcgneemimaaGreatDoor
