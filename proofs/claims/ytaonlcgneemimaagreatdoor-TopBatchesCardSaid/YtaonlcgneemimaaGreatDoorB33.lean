/- TopBatches: the contracts of R5, R6, Y1, Y2; no condition. -/
import Derived.Test.YtaonlcgneemimaaGreatDoorB30
import Derived.Test.YtaonlcgneemimaaGreatDoorB31
import Derived.Test.YtaonlcgneemimaaGreatDoorB32
namespace Go.Proofs.YtaonlcgneemimaaGreatDoor
open Go.RowKit Go.Shelf
attribute [local go_sem] Oper.semAt_some
def lenP (pre:List (Off 224)):Nat:=(pre.map fun x => 8 + min 56 (224 - x.1)).sum
theorem lenP_snoc (pre:List (Off 224)) (x:Off 224):lenP (pre ++ [x]) = lenP pre + (8 + min 56 (224 - x.1)):=by simp [lenP]
theorem lenP_all {xs:List (Off 224)} (h:xs.map (·.1) = offs 56 ((224 + 56 - 1) / 56)):lenP xs = 256:=by
 have h1:lenP xs = ((xs.map (·.1)).map fun y => 8 + min 56 (224 - y)).sum:=by simp [lenP]
 rw [h1,h]
 decide
theorem chunk_sl2 {W:World} {B fg len cap c x:Nat} {fB:List Int} (h:W.ownsRow B 5 1 (.slice (some ⟨fg,0,none⟩) len cap) len (u8s fB)) (hc:0 < c) (hx:x < len) :
  Sl W 5 1 (chunkV fg 0 len c x) ((fB.drop x).take c).length (u8s ((fB.drop x).take c)) ∧ ((fB.drop x).take c).length = min c (len - x):=by
 have hl:fB.length = len:=by have:=h.1;simpa [u8s] using this
 have hlen:((fB.drop x).take c).length = min c (len - x):=by simp [hl]
 refine ⟨?_,hlen⟩
 rcases h.2 with ⟨h1,_⟩ | ⟨g',cap',cur,h1,h2,h3,h4,h5,h6,h7⟩
 ·simp at h1
 ·simp only [Value.slice.injEq,Option.some.injEq,Addr.mk.injEq] at h1
  obtain ⟨⟨rfl,-⟩,-,rfl⟩:=h1
  rw [hlen]
  have hmin:min c (len - x) ≤ maxLen:=by omega
  have hpos:0 < min c (len - x):=by omega
  refine ⟨by simp [u8s,hl],u8s_one' _,.inr ⟨fg,0 + x,min c (len - x),cur,rfl,hpos,Nat.le_refl _,hmin,h3,fun j u hj => ?_⟩⟩
  have e1:(u8s ((fB.drop x).take c))[j]? = ((u8s fB).drop x |>.take c)[j]?:=by simp [u8s,List.map_drop,List.map_take]
  rw [e1] at hj
  have hj54:j < c:=by
   by_cases h:j < c
   ·exact h
   ·rw [List.getElem?_eq_none (by simp;omega)] at hj;cases hj
  rw [List.getElem?_take_of_lt hj54,List.getElem?_drop] at hj
  rw [← h7] at hj
  have hlt:x + j < len * 1:=by
   by_cases h:x + j < len * 1
   ·exact h
   ·rw [List.getElem?_eq_none (by simp;omega)] at hj;cases hj
  rw [List.getElem?_take_of_lt hlt] at hj
  simpa using hj
def BytI (wB:World) (B t5:Nat) (pre:List (Off 224)) (W:World):Prop :=
 Frame [t5] wB W ∧ ∃ v f,W.heap[t5]? = some (.cells #[v] 33 (0,0)) ∧ W.ownsRow B 5 1 v (lenP pre) (u8s f) ∧ (v = .slice none 0 0 ∨ 0 < lenP pre)
theorem bytI_own {wB:World} {B t5:Nat} (h:t5 < wB.heap.size):OwnFrom wB.heap.size (BytI wB B t5):=by
 rintro s A C row ⟨hF,v,f,h5,ho,hn⟩ hg hr
 refine ⟨hF.grown hg (fun j hj => .inr (hr j hj).1),v,f,(hg.block t5 (heap_lt h5) (fun e => by have:=(hr _ e.symm).1;omega)).trans h5,row_kept ho (fun k o hk hv => ?_),hn⟩
 refine (hg.block k (heap_lt hk) (fun e => ?_)).trans hk
 obtain ⟨-,o',ho',hc⟩:=hr k e.symm
 obtain ⟨arr,ha⟩:=own_heap ho hv
 rw [ha] at ho'
 cases ho'
 simp [Obj.isCells] at hc
set_option maxRecDepth 100000 in
set_option maxHeartbeats 2000000 in
theorem superBytes_any (w:World) (number boot nJ nC:Nat) (ssJ ssC:List Int) (svJ svC:Value) (lastJ lastC:Int) (hok:SuperOk number boot nJ nC ssJ ssC) (hJ:Sl w 3 1 svJ ssJ.length (ints ssJ)) (hC:Sl w 3 1 svC ssC.length (ints ssC)) :
  Calls Tryz.prog 175 #[.agg (superC number boot nJ nC svJ svC lastJ lastC)] w fun e w' => ∃ v fs,e = .returned (.tuple #[v,.int .i64 0]) ∧ w'.ownsRow w.heap.size 5 1 v 256 (u8s fs) ∧ Below w.heap.size w w':=by
 have HOK:=Lib.hid hok
 have HJ:=Lib.hid hJ
 have HC:=Lib.hid hC
 obtain ⟨aJ,capJ,rfl,-,-,-⟩:=hJ.shape
 obtain ⟨aC,capC,rfl,-,-,-⟩:=hC.shape
 unfold superC
 have MAY:Hid (∀ W,Below w.heap.size w W → Calls Tryz.prog 208 #[.agg #[.int .i64 number,.int .i64 boot,.slice aJ ssJ.length capJ,.int .i64 nJ,.int .u32 lastJ,.slice aC ssC.length capC,.int .i64 nC,.int .u32 lastC],.int .i64 96] W fun e w' => e = .returned (.bool true) ∧ Below W.heap.size W w'):=Lib.hid (fun W hW => superMay_any W number boot nJ nC ssJ ssC _ _ lastJ lastC hok (hJ.below hW) (hC.below hW))
 have PLAIN:Hid (∀ W,Below w.heap.size w W → Calls Tryz.prog 209 #[.agg #[.int .i64 number,.int .i64 boot,.slice aJ ssJ.length capJ,.int .i64 nJ,.int .u32 lastJ,.slice aC ssC.length capC,.int .i64 nC,.int .u32 lastC]] W fun e w' => ∃ v fs,e = .returned v ∧ w'.ownsRow W.heap.size 5 1 v 224 (u8s fs) ∧ Below W.heap.size W w'):=Lib.hid (fun W hW => superPlain_any W number boot nJ nC ssJ ssC _ _ lastJ lastC hok (hJ.below hW) (hC.below hW))
 have crcK:Hid (∀ (W:World) (c:Int),Calls Tryz.prog 188 #[.int .u32 c] W fun e w' => e = .returned (.slice (some ⟨W.heap.size,0,none⟩) 4 4) ∧ Sl w' 5 1 (.slice (some ⟨W.heap.size,0,none⟩) 4 4) 4 (u8s (crcB c)) ∧ Below W.heap.size W w'):=Lib.hid (fun W c => (crcBytes_any c W).mono (by rintro e w' ⟨rfl,rfl⟩;exact ⟨rfl,crc_new W c,crc_below W _⟩))
 have CH:Hid (∀ W a len cap,Calls Tryz.prog 161 #[.slice a len cap,.int .i64 56] W fun e w' => e = .returned (.func (.func 190) #[] #[.pointer (some ⟨W.heap.size,0,none⟩),.pointer (some ⟨W.heap.size + 1,0,none⟩)]) ∧ w' = (W.alloc (.cells #[.slice a len cap] 33)).alloc (.cells #[.int .i64 56] 3)):=Lib.hid (fun W a len cap => callsIn_wide.1 (chunk_in Fence.wide 1 trivial rfl a len cap 56 (by decide) W))
 have B0:Hid (Below w.heap.size w (w.alloc (.cells #[.int .i64 number,.int .i64 boot,.slice aJ ssJ.length capJ,.int .i64 nJ,.int .u32 lastJ,.slice aC ssC.length capC,.int .i64 nC,.int .u32 lastC] 230))):=Lib.hid (crc_below _ _)
 have X0:=Lib.hid (heap_new w (.cells #[.int .i64 number,.int .i64 boot,.slice aJ ssJ.length capJ,.int .i64 nJ,.int .u32 lastJ,.slice aC ssC.length capC,.int .i64 nC,.int .u32 lastC] 230))
 clear hok hJ hC
 refine (callsIn_wide (n:=3)).1 ?_
 refine callsIn_of_wp_marks Tryz.func175 rfl trivial ?_ rfl
 refine wpIn_wide.2 ?_
 simp only [Tryz.ntmps175,List.size_toArray,List.length_cons,List.length_nil,Nat.reduceAdd,Nat.reduceSub,Array.replicate_succ,Array.replicate_zero,List.push_toArray,List.append_toArray,List.nil_append,List.cons_append]
 go_wp2_with (first | (go_at_call 208;refine (MAY.out _ B0.out).mono ?_;rintro e w1 ⟨rfl,hq⟩;have B1:=Lib.hid (B0.out.trans (hq.mono B0.out.size));have X1:=Lib.hid (Below.heap hq (Nat.le_refl _) X0.out);have x1:=cellAt X1.out 0;clear hq) | (go_at_call 188;refine (crcK.out w1 _).mono ?_;rintro e w2 ⟨rfl,hs,hb⟩;have S2:=Lib.hid hs;have B2:=Lib.hid hb;have X2:=Lib.hid (Below.heap hb (Nat.le_refl _) X1.out);have y0:=cellAt X2.out 0;have y1:=cellAt X2.out 1;have y2:=cellAt X2.out 2;have y3:=cellAt X2.out 3;have y4:=cellAt X2.out 4;have y5:=cellAt X2.out 5;have y6:=cellAt X2.out 6;have y7:=cellAt X2.out 7;have hl2:=heap_lt X2.out;have BB2:=Lib.hid (B1.out.trans (B2.out.mono B1.out.size));clear hs hb) | (go_at_call 209;refine (PLAIN.out _ ((BB2.out.alloc BB2.out.size _).alloc (by have:=BB2.out.size;simp;omega) _)).mono ?_;rintro e w4 ⟨v4,fs,rfl,ho,hq⟩;obtain ⟨g4,cap4,cur4,rfl,hg4,hgh4,hgl,hgm,-,-⟩:=own_pos ho (by decide);have O4:=Lib.hid ho;have Q4:=Lib.hid hq;have GH4:=Lib.hid hgh4;clear ho hq hgh4) | (go_at_call 161;refine (CH.out w4 _ _ _).mono ?_;rintro e w5 ⟨rfl,hw5⟩;have HW5:=Lib.hid hw5;clear hw5))
 have hb5:Hid (Below w4.heap.size w4 w5 ∧ w5.heap.size = w4.heap.size + 2 ∧ w5.heap[w4.heap.size]? = some (.cells #[.slice (some ⟨g4,0,none⟩) 224 cap4] 33 (0,0)) ∧ w5.heap[w4.heap.size + 1]? = some (.cells #[.int .i64 ((56:Nat):Int)] 3 (0,0))):=Lib.hid (by
  rw [HW5.out]
  exact ⟨((Below.refl _ _).alloc (Nat.le_refl _) _).alloc (by simp) _,by simp,heap_old (heap_new _ _) _,heap_new2 w4 _ _⟩)
 have hw3:Hid (Below w2.heap.size w2 w4 ∧ w2.heap.size + 2 ≤ w4.heap.size ∧ w4.heap[w2.heap.size]? = some (.cells #[.slice (some ⟨w1.heap.size,0,none⟩) 4 4] 33 (0,0)) ∧ w4.heap[w2.heap.size + 1]? = some (.cells #[.slice none 0 0] 33 (0,0))):=Lib.hid (by
  have h1:=Q4.out
  have h2:=h1.size
  simp only [World.size_alloc] at h2
  exact ⟨(((Below.refl _ _).alloc (Nat.le_refl _) _).alloc (by simp) _).trans (h1.mono (by simp;omega)),by omega,Below.heap h1 (Nat.le_refl _) (heap_old (heap_new _ _) _),Below.heap h1 (Nat.le_refl _) (heap_new2 w2 _ _)⟩)
 have hz4:=hw3.out.2.1
 have hz5:=hb5.out.2.1
 have T4:=Lib.hid (Below.heap hb5.out.1 (Nat.le_refl _) hw3.out.2.2.1)
 have T5:=Lib.hid (Below.heap hb5.out.1 (Nat.le_refl _) hw3.out.2.2.2)
 have S5:Hid (Sl w5 5 1 (.slice (some ⟨w1.heap.size,0,none⟩) 4 4) 4 (u8s (crcB ((number:Int) % 4294967296)))):=Lib.hid ((S2.out.below hw3.out.1).below hb5.out.1)
 have O5:=Lib.hid (own_below O4.out hb5.out.1)
 have G5:=Lib.hid (Below.heap hb5.out.1 (Nat.le_refl _) GH4.out)
 have hg4t:Hid (g4 ≠ w2.heap.size + 1):=Lib.hid (cells_ty GH4.out hw3.out.2.2.2 (by decide))
 have hg1t:Hid (w1.heap.size < w2.heap.size):=Lib.hid (by
  rcases S2.out.2.2 with ⟨h1,_⟩ | ⟨g',off',cap',arr,h1,-,-,-,h5,-⟩
  ·simp at h1
  ·simp only [Value.slice.injEq,Option.some.injEq,Addr.mk.injEq] at h1
   obtain ⟨⟨rfl,-,-⟩,-⟩:=h1
   exact heap_lt h5)
 refine wpIn_wide.1 (?_:Code.wpIn Fence.wide 3 _ _ _ _ _)
 refine wpIn_rangeFunc_ownG (F:=Fence.wide) (n:=3) rfl (by decide) (gf:=190) (lb:=#[.pointer (some ⟨w4.heap.size,0,none⟩),.pointer (some ⟨w4.heap.size + 1,0,none⟩)]) rfl trivial (enters_of Tryz.func190 (by kernel_rfl) rfl)
  (chunk_stops Fence.wide 2 trivial rfl (by decide) w4.heap.size (w4.heap.size + 1) g4 0 224 cap4 56 (by decide) (by decide) (by decide) hgl hgm w5 hb5.out.2.2.1 hb5.out.2.2.2)
  boxes_t (fun W l o o' h1 h2 h3 h4 => boxes_b (w:=w5) (by omega) (by omega) W l o o' h1 h2 h3 h4) (Below.refl _ _) (fun _ => rfl)
  (BytI w5 (w2.heap.size + 2) (w2.heap.size + 1)) (fun _ _ _ => False) (bytI_own (by omega)) (fun _ _ _ _ _ hs _ _ => hs) ⟨Frame.refl _ _,.slice none 0 0,[],T5.out,World.ownsRow_nil _ _ _ _,.inl rfl⟩ ?acts ?assign ?body ?done ?stop
 case assign =>
  intro lx x W K hK
  rw [zip_one]
  refine assign_region (.slice (some ⟨g4,x.1,none⟩) (min 56 (224 - x.1)) (min 56 (224 - x.1))) ?hvv ?_
  case hvv => simp [chunkV]
  simp only [List.setIfInBounds_toArray,List.set_cons_zero,List.set_cons_succ]
  exact hK
 case body =>
  rintro lx pre x W ⟨hF,v,f,h5,ho,hn⟩ hpl
  have HF:=Lib.hid hF
  have H5:=Lib.hid h5
  have HO:=Lib.hid ho
  have HN:=Lib.hid hn
  have hws:=hF.size
  have t4:=hF.heap T4.out (by simp)
  have c4:=cellAt t4 0
  have c5:=cellAt h5 0
  have f5:=frozenAt h5 0
  obtain ⟨va,vc,rfl⟩:=own_shape ho
  have hpl4:Hid (pre.length < 4):=Lib.hid hpl
  clear hF h5 ho hn t4 hpl
  have hcl:=chunk_sl2 (c:=56) (row_kept O5.out (fun k o hk hv => HF.out.heap hk (by
   simp only [Value.ownBlock,Option.some.injEq] at hv
   subst hv
   simpa using hg4t.out))) (by decide) x.2
  have HCL:Hid (Sl W 5 1 (.slice (some ⟨g4,x.1,none⟩) (min 56 (224 - x.1)) (min 56 (224 - x.1))) (((fs.drop x.1).take 56)).length (u8s ((fs.drop x.1).take 56)) ∧ ((fs.drop x.1).take 56).length = min 56 (224 - x.1)):=Lib.hid (by
   have h1:=hcl
   unfold chunkV at h1
   simpa using h1)
  have HS:Hid (Sl W 5 1 (.slice (some ⟨w1.heap.size,0,none⟩) 4 4) 4 (u8s (crcB ((number:Int) % 4294967296)))):=Lib.hid (S5.out.same (fun g off cap he => HF.out.block g (by
   simp only [Value.slice.injEq,Option.some.injEq,Addr.mk.injEq] at he
   obtain ⟨⟨rfl,-⟩,-⟩:=he
   have:=hg1t.out;omega) (by
   simp only [Value.slice.injEq,Option.some.injEq,Addr.mk.injEq] at he
   obtain ⟨⟨rfl,-⟩,-⟩:=he
   have:=hg1t.out;simp;omega)))
  have hfl:Hid (f.length = lenP pre):=Lib.hid (by have:=HO.out.1;simpa [u8s] using this)
  have hlp:Hid (lenP pre ≤ 256):=Lib.hid (by
   have h1:∀ q:List (Off 224),lenP q ≤ 64 * q.length:=fun q => by
    induction q with
    | nil => simp [lenP]
    | cons y q ih => simp only [lenP,List.map_cons,List.sum_cons,List.length_cons] at ih ⊢;omega
   have h2:=h1 pre
   have h3:=hpl4.out
   omega)
  have RB:Hid (∀ W',W' = W.alloc (.cells #[.slice va (lenP pre) vc,.slice (some ⟨w1.heap.size,0,none⟩) 4 4,.slice (some ⟨g4,x.1,none⟩) (min 56 (224 - x.1)) (min 56 (224 - x.1)),.slice (some ⟨w1.heap.size,0,none⟩) 4 4] 33) → Calls Tryz.prog 187 #[.slice (some ⟨W.heap.size,0,none⟩) 4 4] W' fun e w' => ∃ v,e = .returned v ∧ w'.ownsRow W'.heap.size 5 1 v (lenP (pre ++ [x])) (u8s (f ++ (crcB ((number:Int) % 4294967296) ++ ((fs.drop x.1).take 56 ++ crcB ((number:Int) % 4294967296))))) ∧ Below W'.heap.size W' w'):=Lib.hid (fun W' hW' => by
   subst hW'
   have hb:=crc_below W (.cells #[.slice va (lenP pre) vc,.slice (some ⟨w1.heap.size,0,none⟩) 4 4,.slice (some ⟨g4,x.1,none⟩) (min 56 (224 - x.1)) (min 56 (224 - x.1)),.slice (some ⟨w1.heap.size,0,none⟩) 4 4] 33)
   have hsl:=Sl.block' (sz:=1) (n:=4) (heap_new W (.cells #[.slice va (lenP pre) vc,.slice (some ⟨w1.heap.size,0,none⟩) 4 4,.slice (some ⟨g4,x.1,none⟩) (min 56 (224 - x.1)) (min 56 (224 - x.1)),.slice (some ⟨w1.heap.size,0,none⟩) 4 4] 33)) rfl (by simp [Value.oneCell']) (by decide) (by decide)
   have h:=concat_any _ (.slice (some ⟨W.heap.size,0,none⟩) 4 4) [f,crcB ((number:Int) % 4294967296),(fs.drop x.1).take 56,crcB ((number:Int) % 4294967296)] ⟨_,hsl,fun i v l hv hl => by
    match i,hv,hl with
    | 0,hv,hl =>
     simp at hv hl
     subst hv hl
     rw [hfl.out]
     exact (Sl.of_own HO.out (u8s_one' _) HN.out).below hb
    | 1,hv,hl => simp at hv hl;subst hv hl;exact HS.out.below hb
    | 2,hv,hl => simp at hv hl;subst hv hl;exact HCL.out.1.below hb
    | 3,hv,hl => simp at hv hl;subst hv hl;exact HS.out.below hb
    | i + 4,hv,hl => simp at hl⟩ (by have h1:=hfl.out;have h2:=hlp.out;have h3:=HCL.out.2;simp only [sumB,List.map_cons,List.map_nil,List.sum_cons,List.sum_nil,crcB_length,h1,h3];omega)
   have hsum:sumB [f,crcB ((number:Int) % 4294967296),(fs.drop x.1).take 56,crcB ((number:Int) % 4294967296)] = lenP (pre ++ [x]):=by
    have h1:=hfl.out
    have h3:=HCL.out.2
    rw [lenP_snoc]
    simp only [sumB,List.map_cons,List.map_nil,List.sum_cons,List.sum_nil,crcB_length,h1,h3]
    omega
   rw [hsum] at h
   simpa using h)
  clear hcl
  gi_wp2_with (refine ⟨trivial,?_⟩;gi_at_call 187;refine (CallsIn.inRound lx (callsIn_wide.2 (RB.out _ rfl))).mono ?_;rintro e W2 ⟨v2,rfl,ho2,hq2⟩;have HO2:=Lib.hid ho2;have HQ2:=Lib.hid hq2;obtain ⟨g2,cap2,cur2,rfl,-,-,-⟩:=own_pos ho2 (by rw [lenP_snoc];omega);have X2':=Lib.hid (Below.heap hq2 (Nat.le_refl _) (heap_old H5.out _));have z5:=cellAt X2'.out 0;have zf:=frozenAt X2'.out 0;clear ho2 hq2)
  have hq3:Below W.heap.size W W2:=(crc_below W _).trans (HQ2.out.mono (by simp))
  have fW:Frame [w2.heap.size + 1] W (W2.setCell ⟨w2.heap.size + 1,0,none⟩ (.slice (some ⟨g2,0,none⟩) (lenP (pre ++ [x])) cap2)):=(Frame.of_below hq3 _).setCell (p:=⟨w2.heap.size + 1,0,none⟩) (.inl (by simp)) _
  refine ⟨keepsFrom_of_frame fW (fun y hy => by simp at hy;omega),boxes_of_frame fW (by omega) (by omega) (by simp;omega) (by simp;omega),HF.out.trans fW (fun y hy => .inl hy),_,_,by simpa using setAt X2'.out 0 (.slice (some ⟨g2,0,none⟩) (lenP (pre ++ [x])) cap2),own_setCell (own_mono HO2.out (by simp;omega)) (own_neq HO2.out X2'.out (by decide)),.inr (by rw [lenP_snoc];omega)⟩
 case done =>
  rintro D xs W hD hS ⟨hF,v,f,h5,ho,hn⟩ hK
  have HF:=Lib.hid hF
  have HO:=Lib.hid ho
  have HKD:=Lib.hid hK
  have HDD:=Lib.hid hD
  have hlen:=lenP_all hS
  rw [hlen] at ho
  have HO2:=Lib.hid ho
  obtain ⟨va,vc,rfl⟩:=own_shape ho
  have c5:=cellAt h5 0
  clear hF h5 ho hn hK hD hS hlen
  go_wp2
  have hbb:=BB2.out
  have hw4:Below w.heap.size w w4:=hbb.trans (hw3.out.1.mono hbb.size)
  have hw5:Below w.heap.size w w5:=hw4.trans (hb5.out.1.mono hw4.size)
  have hW:Below w.heap.size w W:=HF.out.belowIf hw5 (fun y hy => by simp at hy;have:=hbb.size;omega) hw5.size
  have hD1:=HDD.out
  have hP:Below w.heap.size w (W.putObj D (.deferred none)):=(frame_putObj W D (.deferred none)).belowIf hW (fun y hy => by simp at hy;have:=hbb.size;omega) hW.size
  refine ⟨by simp,.inl ⟨_,_,rfl,run_takeDeferred HKD.out,?_⟩⟩
  refine ⟨.tuple #[.slice va 256 vc,.int .i64 0],by simp [results,Tryz.results175,go_sem],_,f,rfl,?_,hP⟩
  refine own_mono (row_kept HO2.out (fun y o hk hv => (frame_putObj W D (.deferred none)).heap hk (fun hm => ?_))) (by have:=hbb.size;omega)
  simp only [List.mem_singleton] at hm
  subst hm
  obtain ⟨arr,ha⟩:=own_heap HO2.out hv
  rw [HKD.out] at ha
  cases ha
 case stop =>
  rintro D c pre W _ _ h _
  exact h.elim
end Go.Proofs.YtaonlcgneemimaaGreatDoor
namespace Go.Proofs.YtaonlcgneemimaaGreatDoor
open Go.RowKit
theorem sl_part {W:World} {B g n cap i m:Nat} {fs:List Int} (h:W.ownsRow B 5 1 (.slice (some ⟨g,0,none⟩) n cap) n (u8s fs)) (hi:i + m ≤ n) (hm:0 < m) (c2:Nat) (hc:m ≤ c2) (hc2:c2 ≤ maxLen) :
  Sl W 5 1 (.slice (some ⟨g,i,none⟩) m c2) m (u8s ((fs.drop i).take m)):=by
 have hl:fs.length = n:=by have:=h.1;simpa [u8s] using this
 rcases h.2 with ⟨h1,_⟩ | ⟨g',cap',cur,h1,h2,h3,h4,h5,h6,h7⟩
 ·simp at h1
 ·simp only [Value.slice.injEq,Option.some.injEq,Addr.mk.injEq] at h1
  obtain ⟨⟨rfl,-⟩,-,rfl⟩:=h1
  refine ⟨by simp [u8s,hl];omega,u8s_one' _,.inr ⟨g,i,c2,cur,rfl,hm,hc,hc2,h3,fun j u hj => ?_⟩⟩
  have e1:(u8s ((fs.drop i).take m))[j]? = ((u8s fs).drop i |>.take m)[j]?:=by simp [u8s,List.map_drop,List.map_take]
  rw [e1] at hj
  have hj54:j < m:=by
   by_cases h:j < m
   ·exact h
   ·rw [List.getElem?_eq_none (by simp;omega)] at hj;cases hj
  rw [List.getElem?_take_of_lt hj54,List.getElem?_drop] at hj
  rw [← h7] at hj
  have hlt:i + j < n * 1:=by
   by_cases h:i + j < n * 1
   ·exact h
   ·rw [List.getElem?_eq_none (by simp;omega)] at hj;cases hj
  rw [List.getElem?_take_of_lt hlt] at hj
  simpa using hj
set_option maxRecDepth 100000 in
set_option maxHeartbeats 2000000 in
theorem superWrite_any (w:World) (d l cb k slot:Nat) (HD:DiskAt w d l cb 776 k) (hk:k ≤ 900000) (hslot:slot ≤ 1) (number boot nJ nC:Nat) (ssJ ssC:List Int) (svJ svC:Value) (lastJ lastC:Int) (hok:SuperOk number boot nJ nC ssJ ssC) (hJ:Sl w 3 1 svJ ssJ.length (ints ssJ)) (hC:Sl w 3 1 svC ssC.length (ints ssC)) :
  Calls Tryz.prog 140 #[.pointer (some ⟨d,0,none⟩),.int .i64 slot,.agg (superC number boot nJ nC svJ svC lastJ lastC)] w fun e w' => e = .returned (.int .i64 0) ∧ DiskAt w' d l cb 776 (k + 4) ∧ Frame [d,cb] w w':=by
 have HDD:=Lib.hid HD
 obtain ⟨aJ,capJ,rfl,-,-,-⟩:=hJ.shape
 obtain ⟨aC,capC,rfl,-,-,-⟩:=hC.shape
 unfold superC
 have BY:Hid (∀ W,Below w.heap.size w W → Calls Tryz.prog 175 #[.agg #[.int .i64 number,.int .i64 boot,.slice aJ ssJ.length capJ,.int .i64 nJ,.int .u32 lastJ,.slice aC ssC.length capC,.int .i64 nC,.int .u32 lastC]] W fun e w' => ∃ v fs,e = .returned (.tuple #[v,.int .i64 0]) ∧ w'.ownsRow W.heap.size 5 1 v 256 (u8s fs) ∧ Below W.heap.size W w'):=Lib.hid (fun W hW => superBytes_any W number boot nJ nC ssJ ssC _ _ lastJ lastC hok (hJ.below hW) (hC.below hW))
 have B0:Hid (∀ o,Below w.heap.size w (w.alloc o)):=Lib.hid (fun o => crc_below _ _)
 have hdl:=Lib.hid HD.lt
 clear hok hJ hC HD
 have e1:¬ ((slot:Int) < 0):=by omega
 have e2:¬ ((1:Int) < slot):=by omega
 rcases (by omega:slot = 0 ∨ slot = 1) with rfl | rfl
 ·go_enter Tryz.func140,Tryz.ntmps140
  go_wp2_with (go_at_call 175;refine (BY.out _ (B0.out _)).mono ?_;rintro e w1 ⟨v1,fs,rfl,ho,hq⟩;have HO:=Lib.hid ho;have B1:Hid (Below w.heap.size w w1):=Lib.hid ((B0.out _).trans (hq.mono (by simp)));obtain ⟨g,cap,cur,rfl,hg,hgh,hgl,hgm,hgs,hgt⟩:=own_pos ho (by decide);have GH:=Lib.hid hgh;clear ho hq hgh hgs hgt)
  have hdisk:Hid (∀ W,Frame [d,cb] w1 W → Below w.heap.size w w1 → ∃ u:Unit,W.ownsRow w.heap.size 5 1 (.slice (some ⟨g,0,none⟩) 256 cap) 256 (u8s fs)):=Lib.hid (fun W hW _ => ⟨(),own_mono (row_kept HO.out (fun y o hk hv => hW.heap hk (by
   simp only [Value.ownBlock,Option.some.injEq] at hv
   subst hv
   have h1:=(HO.out.lt g rfl).1
   have h2:=hdl.out
   simp only [World.size_alloc] at h1
   simp only [List.mem_cons,List.not_mem_nil,or_false]
   omega))) (by simp)⟩)
  have WR:Hid (∀ (W:World) (q i kk:Nat),Frame [d,cb] w1 W → DiskAt W d l cb 776 kk → kk ≤ 1000000 → q < 776 → i + 64 ≤ 256 → Calls Tryz.prog 162 #[.pointer (some ⟨d,0,none⟩),.int .i64 q,.slice (some ⟨g,i,none⟩) 64 (cap - i)] W fun e w' => e = .returned (.int .i64 0) ∧ DiskAt w' d l cb 776 (kk + 1) ∧ Frame [d,cb] W w'):=Lib.hid (fun W q i kk hF hD hkk hq hi => by
   obtain ⟨-,hrow⟩:=hdisk.out W hF B1.out
   exact diskWrite_any W d l cb 776 kk hD hkk q hq _ _ (sl_part hrow hi (by decide) (cap - i) (by omega) (by omega)))
  have D1:Hid (DiskAt w1 d l cb 776 k):=Lib.hid (HDD.out.below B1.out)
  have g1:(256:Int) ≤ cap:=by omega
  have g2:(192:Int) ≤ cap:=by omega
  have g3:(128:Int) ≤ cap:=by omega
  have g4:(64:Int) ≤ cap:=by omega
  go_loopw [9,10,26] (fun _ _ ti wr => ∃ j:Nat,j ≤ 4 ∧ ti = .int .i64 j ∧ Hid (DiskAt wr d l cb 776 (k + j) ∧ Frame [d,cb] w1 wr)) (fun _ _ i _ => 4 - (intOf i).toNat)
  case atStart => exact ⟨0,by omega,rfl,Lib.hid ⟨D1.out,Frame.refl _ _⟩⟩
  case round =>
   obtain ⟨j,hj4,rfl,hst⟩:=hrel
   rcases (by omega:j = 0 ∨ j = 1 ∨ j = 2 ∨ j = 3 ∨ j = 4) with rfl | rfl | rfl | rfl | rfl
   ·go_wp2_with (go_at_call 162;refine (WR.out _ 0 0 _ hst.out.2 hst.out.1 (by omega) (by decide) (by decide)).mono ?_;rintro e w5 ⟨rfl,hd5,hf5⟩;have HD5:=Lib.hid hd5;have HF5:=Lib.hid (hst.out.2.trans hf5 (fun y hy => .inl hy));clear hd5 hf5)
    go_roundw
    case rel => exact ⟨1,by omega,by go_num,Lib.hid ⟨HD5.out,HF5.out⟩⟩
    case measure => simp [intOf]
   ·go_wp2_with (go_at_call 162;refine (WR.out _ 1 64 _ hst.out.2 hst.out.1 (by omega) (by decide) (by decide)).mono ?_;rintro e w5 ⟨rfl,hd5,hf5⟩;have HD5:=Lib.hid hd5;have HF5:=Lib.hid (hst.out.2.trans hf5 (fun y hy => .inl hy));clear hd5 hf5)
    go_roundw
    case rel => exact ⟨2,by omega,by go_num,Lib.hid ⟨HD5.out,HF5.out⟩⟩
    case measure => simp [intOf]
   ·go_wp2_with (go_at_call 162;refine (WR.out _ 2 128 _ hst.out.2 hst.out.1 (by omega) (by decide) (by decide)).mono ?_;rintro e w5 ⟨rfl,hd5,hf5⟩;have HD5:=Lib.hid hd5;have HF5:=Lib.hid (hst.out.2.trans hf5 (fun y hy => .inl hy));clear hd5 hf5)
    go_roundw
    case rel => exact ⟨3,by omega,by go_num,Lib.hid ⟨HD5.out,HF5.out⟩⟩
    case measure => simp [intOf]
   ·go_wp2_with (go_at_call 162;refine (WR.out _ 3 192 _ hst.out.2 hst.out.1 (by omega) (by decide) (by decide)).mono ?_;rintro e w5 ⟨rfl,hd5,hf5⟩;have HD5:=Lib.hid hd5;have HF5:=Lib.hid (hst.out.2.trans hf5 (fun y hy => .inl hy));clear hd5 hf5)
    go_roundw
    case rel => exact ⟨4,by omega,by go_num,Lib.hid ⟨HD5.out,HF5.out⟩⟩
    case measure => simp [intOf]
   ·go_wp2
    go_ret
    exact ⟨rfl,hst.out.1,(Frame.of_below B1.out _).trans hst.out.2 (fun y hy => .inl hy)⟩
 ·go_enter Tryz.func140,Tryz.ntmps140
  go_wp2_with (go_at_call 175;refine (BY.out _ (B0.out _)).mono ?_;rintro e w1 ⟨v1,fs,rfl,ho,hq⟩;have HO:=Lib.hid ho;have B1:Hid (Below w.heap.size w w1):=Lib.hid ((B0.out _).trans (hq.mono (by simp)));obtain ⟨g,cap,cur,rfl,hg,hgh,hgl,hgm,hgs,hgt⟩:=own_pos ho (by decide);have GH:=Lib.hid hgh;clear ho hq hgh hgs hgt)
  have hdisk:Hid (∀ W,Frame [d,cb] w1 W → Below w.heap.size w w1 → ∃ u:Unit,W.ownsRow w.heap.size 5 1 (.slice (some ⟨g,0,none⟩) 256 cap) 256 (u8s fs)):=Lib.hid (fun W hW _ => ⟨(),own_mono (row_kept HO.out (fun y o hk hv => hW.heap hk (by
   simp only [Value.ownBlock,Option.some.injEq] at hv
   subst hv
   have h1:=(HO.out.lt g rfl).1
   have h2:=hdl.out
   simp only [World.size_alloc] at h1
   simp only [List.mem_cons,List.not_mem_nil,or_false]
   omega))) (by simp)⟩)
  have WR:Hid (∀ (W:World) (q i kk:Nat),Frame [d,cb] w1 W → DiskAt W d l cb 776 kk → kk ≤ 1000000 → q < 776 → i + 64 ≤ 256 → Calls Tryz.prog 162 #[.pointer (some ⟨d,0,none⟩),.int .i64 q,.slice (some ⟨g,i,none⟩) 64 (cap - i)] W fun e w' => e = .returned (.int .i64 0) ∧ DiskAt w' d l cb 776 (kk + 1) ∧ Frame [d,cb] W w'):=Lib.hid (fun W q i kk hF hD hkk hq hi => by
   obtain ⟨-,hrow⟩:=hdisk.out W hF B1.out
   exact diskWrite_any W d l cb 776 kk hD hkk q hq _ _ (sl_part hrow hi (by decide) (cap - i) (by omega) (by omega)))
  have D1:Hid (DiskAt w1 d l cb 776 k):=Lib.hid (HDD.out.below B1.out)
  have g1:(256:Int) ≤ cap:=by omega
  have g2:(192:Int) ≤ cap:=by omega
  have g3:(128:Int) ≤ cap:=by omega
  have g4:(64:Int) ≤ cap:=by omega
  go_loopw [9,10,26] (fun _ _ ti wr => ∃ j:Nat,j ≤ 4 ∧ ti = .int .i64 j ∧ Hid (DiskAt wr d l cb 776 (k + j) ∧ Frame [d,cb] w1 wr)) (fun _ _ i _ => 4 - (intOf i).toNat)
  case atStart => exact ⟨0,by omega,rfl,Lib.hid ⟨D1.out,Frame.refl _ _⟩⟩
  case round =>
   obtain ⟨j,hj4,rfl,hst⟩:=hrel
   rcases (by omega:j = 0 ∨ j = 1 ∨ j = 2 ∨ j = 3 ∨ j = 4) with rfl | rfl | rfl | rfl | rfl
   ·go_wp2_with (go_at_call 162;refine (WR.out _ 4 0 _ hst.out.2 hst.out.1 (by omega) (by decide) (by decide)).mono ?_;rintro e w5 ⟨rfl,hd5,hf5⟩;have HD5:=Lib.hid hd5;have HF5:=Lib.hid (hst.out.2.trans hf5 (fun y hy => .inl hy));clear hd5 hf5)
    go_roundw
    case rel => exact ⟨1,by omega,by go_num,Lib.hid ⟨HD5.out,HF5.out⟩⟩
    case measure => simp [intOf]
   ·go_wp2_with (go_at_call 162;refine (WR.out _ 5 64 _ hst.out.2 hst.out.1 (by omega) (by decide) (by decide)).mono ?_;rintro e w5 ⟨rfl,hd5,hf5⟩;have HD5:=Lib.hid hd5;have HF5:=Lib.hid (hst.out.2.trans hf5 (fun y hy => .inl hy));clear hd5 hf5)
    go_roundw
    case rel => exact ⟨2,by omega,by go_num,Lib.hid ⟨HD5.out,HF5.out⟩⟩
    case measure => simp [intOf]
   ·go_wp2_with (go_at_call 162;refine (WR.out _ 6 128 _ hst.out.2 hst.out.1 (by omega) (by decide) (by decide)).mono ?_;rintro e w5 ⟨rfl,hd5,hf5⟩;have HD5:=Lib.hid hd5;have HF5:=Lib.hid (hst.out.2.trans hf5 (fun y hy => .inl hy));clear hd5 hf5)
    go_roundw
    case rel => exact ⟨3,by omega,by go_num,Lib.hid ⟨HD5.out,HF5.out⟩⟩
    case measure => simp [intOf]
   ·go_wp2_with (go_at_call 162;refine (WR.out _ 7 192 _ hst.out.2 hst.out.1 (by omega) (by decide) (by decide)).mono ?_;rintro e w5 ⟨rfl,hd5,hf5⟩;have HD5:=Lib.hid hd5;have HF5:=Lib.hid (hst.out.2.trans hf5 (fun y hy => .inl hy));clear hd5 hf5)
    go_roundw
    case rel => exact ⟨4,by omega,by go_num,Lib.hid ⟨HD5.out,HF5.out⟩⟩
    case measure => simp [intOf]
   ·go_wp2
    go_ret
    exact ⟨rfl,hst.out.1,(Frame.of_below B1.out _).trans hst.out.2 (fun y hy => .inl hy)⟩
end Go.Proofs.YtaonlcgneemimaaGreatDoor
namespace Go.Proofs.YtaonlcgneemimaaGreatDoor
open Go.RowKit
structure EngX where
 d:Nat
 l:Nat
 cb:Nat
 k:Nat
 b:Nat
 g:Nat
 bs:List Bool
 j:Nat
 svJ:Value
 ssJ:List Int
 nJ:Nat
 lastJ:Int
 c:Nat
 svC:Value
 ssC:List Int
 nC:Nat
 lastC:Int
 number:Nat
structure EngAt (w:World) (e:Nat) (x:EngX):Prop where
 cell:w.heap[e]? = some (.cells #[.pointer (some ⟨x.d,0,none⟩),.pointer (some ⟨x.b,0,none⟩),.int .i64 96,.int .i64 1,.int .i64 x.number,.int .i64 1,.pointer (some ⟨x.j,0,none⟩),.pointer (some ⟨x.c,0,none⟩)] 151 (0,0))
 disk:DiskAt w x.d x.l x.cb 776 x.k
 space:SpaceAt w 0 x.b x.g x.bs
 blen:x.bs.length = 96
 logJ:LogAt w x.j x.d x.svJ x.ssJ x.nJ x.lastJ
 logC:LogAt w x.c x.d x.svC x.ssC x.nC x.lastC
 nodup:(x.ssJ ++ x.ssC).Nodup
 taken:∀ s ∈ x.ssJ ++ x.ssC,x.bs[s.toNat]? = some true
 frees:sp_frees x.bs + x.ssJ.length + x.ssC.length = 96
 ne:x.j ≠ x.c
 apart:∀ y,x.svJ.ownBlock = some y → x.svC.ownBlock ≠ some y
def EngX.mut (x:EngX) (e:Nat):List Nat:=e :: x.d :: x.l :: x.cb :: x.g :: x.j :: x.c :: (x.svJ.ownBlock.toList ++ x.svC.ownBlock.toList)
theorem EngAt.superOk {w:World} {e:Nat} {x:EngX} (h:EngAt w e x) (n:Nat) (hn:n ≤ 2147483647):SuperOk n 1 x.nJ x.nC x.ssJ x.ssC :=
 ⟨hn,by decide,h.logJ.len,h.logC.len,by have:=h.frees;omega,h.nodup,fun s hs => by
  rcases List.mem_append.1 hs with h1 | h1
  ·exact h.logJ.seg s h1
  ·exact h.logC.seg s h1⟩
theorem EngAt.below {w w':World} {e:Nat} {x:EngX} (h:EngAt w e x) (hb:Below w.heap.size w w'):EngAt w' e x :=
 ⟨Below.heap hb (Nat.le_refl _) h.cell,h.disk.below hb,h.space.below hb,h.blen,h.logJ.below hb,h.logC.below hb,h.nodup,h.taken,h.frees,h.ne,h.apart⟩
theorem EngAt.turn {w w':World} {e:Nat} {x:EngX} (h:EngAt w e x) (n k:Nat) (hf:Frame [e,x.d,x.l,x.cb] w w') (hd:DiskAt w' x.d x.l x.cb 776 k)
  (hc:w'.heap[e]? = some (.cells #[.pointer (some ⟨x.d,0,none⟩),.pointer (some ⟨x.b,0,none⟩),.int .i64 96,.int .i64 1,.int .i64 n,.int .i64 1,.pointer (some ⟨x.j,0,none⟩),.pointer (some ⟨x.c,0,none⟩)] 151 (0,0))):EngAt w' e { x with number:=n,k:=k }:=by
 have hJ:=app_apart h.logJ h.disk h.space
 have hC:=app_apart h.logC h.disk h.space
 obtain ⟨ba,hba⟩:=h.space.blk
 obtain ⟨ga,hga⟩:=h.space.row
 obtain ⟨ops,hd0⟩:=h.disk.cell
 obtain ⟨lr,hl0,-⟩:=h.disk.row
 obtain ⟨mn,mf,hm0,-⟩:=h.disk.map
 have hb:x.b ∉ [e,x.d,x.l,x.cb]:=by
  have h1:x.b ≠ e:=cells_ty hba h.cell (by decide)
  have h2:x.b ≠ x.d:=cells_ty hba hd0 (by decide)
  have h3:x.b ≠ x.l:=cells_ty hba hl0 (by decide)
  have h4:x.b ≠ x.cb:=fun h => by rw [h] at hba;exact hm0.cells hba
  simp [h1,h2,h3,h4]
 have hg:x.g ∉ [e,x.d,x.l,x.cb]:=by
  have h1:x.g ≠ e:=cells_ty hga h.cell (by decide)
  have:=hJ x.g (by simp)
  simp [h1,this]
 have hj:x.j ∉ [e,x.d,x.l,x.cb]:=by
  have h1:x.j ≠ e:=cells_ty h.logJ.cell h.cell (by decide)
  have:=hJ x.j (by simp)
  simp [h1,this]
 have hcc:x.c ∉ [e,x.d,x.l,x.cb]:=by
  have h1:x.c ≠ e:=cells_ty h.logC.cell h.cell (by decide)
  have:=hC x.c (by simp)
  simp [h1,this]
 have hsj:∀ y,x.svJ.ownBlock = some y → y ∉ [e,x.d,x.l,x.cb]:=fun y hy => by
  obtain ⟨arr,ha⟩:=own_heap h.logJ.segs hy
  have h1:y ≠ e:=cells_ty ha h.cell (by decide)
  have:=hJ y (by simp [hy])
  simp [h1,this]
 have hsc:∀ y,x.svC.ownBlock = some y → y ∉ [e,x.d,x.l,x.cb]:=fun y hy => by
  obtain ⟨arr,ha⟩:=own_heap h.logC.segs hy
  have h1:y ≠ e:=cells_ty ha h.cell (by decide)
  have:=hC y (by simp [hy])
  simp [h1,this]
 exact ⟨hc,hd,h.space.frame hf hb hg,h.blen,h.logJ.frame hf hj hsj,h.logC.frame hf hcc hsc,h.nodup,h.taken,h.frees,h.ne,h.apart⟩
end Go.Proofs.YtaonlcgneemimaaGreatDoor
namespace Go.Proofs.YtaonlcgneemimaaGreatDoor
open Go.RowKit
theorem SpaceAt.base0 {w:World} {base b g:Nat} {bs:List Bool} (h:SpaceAt w base b g bs):SpaceAt w 0 b g bs:=by
 obtain ⟨hb,ne,c,hh,own⟩:=h
 exact ⟨Nat.zero_le _,ne,c,hh,own_mono own (Nat.zero_le _)⟩
set_option maxRecDepth 100000 in
set_option maxHeartbeats 2000000 in
theorem begun_any (w:World) (d l cb k:Nat) (HD:DiskAt w d l cb 776 k) :
  Calls Tryz.prog 46 #[.pointer (some ⟨d,0,none⟩)] w fun e w' => ∃ (eb:Nat) (x:EngX),e = .returned (.tuple #[.pointer (some ⟨eb,0,none⟩),.int .i64 0]) ∧ EngAt w' eb x ∧ Below w.heap.size w w' ∧ x.d = d ∧ x.l = l ∧ x.cb = cb ∧ x.k = k ∧ x.number = 0 ∧ x.ssJ = [] ∧ x.ssC = [] ∧ x.nJ = 0 ∧ x.nC = 0 ∧ (∀ y ∈ x.mut eb,y = d ∨ y = l ∨ y = cb ∨ w.heap.size ≤ y) ∧ w.heap.size ≤ x.b:=by
 have HDD:=Lib.hid HD
 clear HD
 go_enter Tryz.func46,Tryz.ntmps46
 go_wp2_with (first | (go_at_call 91;refine (sectors_any _ _ _ _ _ _ HDD.out).mono ?_;rintro e w1 ⟨rfl,hw⟩;have hw:=hw.symm;subst hw) | (go_at_call 90;refine (sp_segs_any 776 _ (by decide) (by decide)).mono ?_;rintro e w1 ⟨rfl,hw⟩;subst hw;rw [show sp_segsN 776 = 96 by decide]) | (go_at_call 92;refine (sp_new_any _).mono ?_;rintro e w1 ⟨b,g,rfl,hs,hg⟩;have HS:=Lib.hid hs;have HG:=Lib.hid hg;clear hs hg) | (go_at_call 93;with_reducible refine (newLog_any w1 d).mono ?_;rintro e w2 ⟨rfl,hl,hq⟩;have HL:=Lib.hid hl;have HQ:=Lib.hid hq;clear hl hq) | (go_at_call 93;with_reducible refine (newLog_any w2 d).mono ?_;rintro e w3 ⟨rfl,hl,hq⟩;have HL3:=Lib.hid hl;have HQ3:=Lib.hid hq;clear hl hq))
 refine bodyPost_ret (v:=.tuple #[.pointer (some ⟨w3.heap.size,0,none⟩),.int .i64 0]) (by simp [results,Tryz.results46,go_sem]) rfl ?_
 have b1:Below w.heap.size w w1:=⟨HG.out.os,HG.out.tape,HG.out.output,HG.out.size,fun y hy => HG.out.block y hy (by simp)⟩
 have b2:Below w.heap.size w w2:=b1.trans (HQ.out.mono b1.size)
 have b3:Below w.heap.size w w3:=b2.trans (HQ3.out.mono b2.size)
 have hnew:Below w3.heap.size w3 (w3.alloc (.cells #[.pointer (some ⟨d,0,none⟩),.pointer (some ⟨b,0,none⟩),.int .i64 96,.int .i64 1,.int .i64 0,.int .i64 1,.pointer (some ⟨w1.heap.size,0,none⟩),.pointer (some ⟨w2.heap.size,0,none⟩)] 151)):=crc_below _ _
 have hl1:=heap_lt HL.out.cell
 have hsl:=HS.out.lt
 refine ⟨w3.heap.size,⟨d,l,cb,k,b,g,List.replicate 96 false,w1.heap.size,.slice none 0 0,[],0,0,w2.heap.size,.slice none 0 0,[],0,0,0⟩,rfl,⟨heap_new w3 _,(HDD.out.below b3).below hnew,(((HS.out.base0.below HQ.out).below HQ3.out)).below hnew,by simp,(HL.out.below HQ3.out).below hnew,HL3.out.below hnew,by simp,by simp,by simp [sp_frees],?_,by simp [Value.ownBlock]⟩,b3.trans (hnew.mono b3.size),rfl,rfl,rfl,rfl,rfl,rfl,rfl,rfl,rfl,?_,hsl.1⟩
 ·show w1.heap.size ≠ w2.heap.size
  omega
 ·intro y hy
  simp only [EngX.mut,Value.ownBlock,Option.toList,List.append_nil,List.mem_cons,List.not_mem_nil,or_false] at hy
  have h1:=b1.size
  have h2:=b2.size
  have h3:=b3.size
  rcases hy with rfl | rfl | rfl | rfl | rfl | rfl | rfl
  ·exact .inr (.inr (.inr h3))
  ·exact .inl rfl
  ·exact .inr (.inl rfl)
  ·exact .inr (.inr (.inl rfl))
  ·exact .inr (.inr (.inr hsl.2.1))
  ·exact .inr (.inr (.inr h1))
  ·exact .inr (.inr (.inr h2))
end Go.Proofs.YtaonlcgneemimaaGreatDoor
