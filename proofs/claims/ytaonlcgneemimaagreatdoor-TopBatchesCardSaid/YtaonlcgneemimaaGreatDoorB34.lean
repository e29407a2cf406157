/- TopBatches: the contracts of Y3, Y4, Y5, Y6, Y7; no condition. -/
import Derived.Test.YtaonlcgneemimaaGreatDoorB33
import Derived.Test.YtaonlcgneemimaaGreatDoorB31
namespace Go.Proofs.YtaonlcgneemimaaGreatDoor
open Go.RowKit
theorem cell5 {W:World} {e:Nat} {v0 v1 v2 v3 v4 v5 v6 v7:Value} (h:W.heap[e]? = some (.cells #[v0,v1,v2,v3,v4,v5,v6,v7] 151 (0,0))):W.cell? ⟨e,0,none⟩ = some v0 ∧ W.cell? ⟨e,3,none⟩ = some v3 ∧ W.cell? ⟨e,4,none⟩ = some v4 ∧ W.cell? ⟨e,5,none⟩ = some v5 ∧ W.cell? ⟨e,6,none⟩ = some v6 ∧ W.cell? ⟨e,7,none⟩ = some v7:=⟨cellAt h 0,cellAt h 3,cellAt h 4,cellAt h 5,cellAt h 6,cellAt h 7⟩
def supZ:Array Value:=#[.int .i64 0,.int .i64 0,.slice none 0 0,.int .i64 0,.int .u32 0,.slice none 0 0,.int .i64 0,.int .u32 0]
def supW (W:World) (q:Nat) (a0 a1 a2 a3 a4 a5 a6 a7:Value):World:=(((((((W.setCell ⟨q,0,none⟩ a0).setCell ⟨q,1,none⟩ a1).setCell ⟨q,2,none⟩ a2).setCell ⟨q,3,none⟩ a3).setCell ⟨q,4,none⟩ a4).setCell ⟨q,5,none⟩ a5).setCell ⟨q,6,none⟩ a6).setCell ⟨q,7,none⟩ a7
theorem slot_box {W:World} {q:Nat} (h:W.heap[q]? = some (.cells supZ 230 (0,0))) (a0 a1 a2 a3 a4 a5 a6 a7:Value):(supW W q a0 a1 a2 a3 a4 a5 a6 a7).heap[q]? = some (.cells #[a0,a1,a2,a3,a4,a5,a6,a7] 230 (0,0)) ∧ Frame [q] W (supW W q a0 a1 a2 a3 a4 a5 a6 a7):=by
 refine ⟨?_,?_⟩
 ·have h0:=setAt h 0 a0
  have h1:=setAt h0 1 a1
  have h2:=setAt h1 2 a2
  have h3:=setAt h2 3 a3
  have h4:=setAt h3 4 a4
  have h5:=setAt h4 5 a5
  have h6:=setAt h5 6 a6
  have h7:=setAt h6 7 a7
  unfold supW
  rw [h7]
  simp [supZ]
 ·have f:∀ (V:World) (i:Nat) (u:Value),Frame [q] W V → Frame [q] W (V.setCell ⟨q,i,none⟩ u):=fun V i u h => h.setCell (.inl (by simp)) u
  exact f _ 7 a7 (f _ 6 a6 (f _ 5 a5 (f _ 4 a4 (f _ 3 a3 (f _ 2 a2 (f _ 1 a1 (f _ 0 a0 (Frame.refl _ _))))))))
theorem slot_fin {w W:World} {q number:Nat} {nJ nC:Nat} {vJ vC:Value} {ssJ ssC:List Int} {lastJ lastC:Int} (S1:Sl W 3 1 vJ ssJ.length (ints ssJ)) (S2:Sl W 3 1 vC ssC.length (ints ssC)) (Q2:W.heap[q]? = some (.cells supZ 230 (0,0))) (B2:Below w.heap.size w W) (hq:w.heap.size ≤ q) :
  (supW W q (.int .i64 ((number:Int) + 1)) (.int .i64 1) vJ (.int .i64 nJ) (.int .u32 lastJ) vC (.int .i64 nC) (.int .u32 lastC)).heap[q]? = some (.cells (superC (number + 1) 1 nJ nC vJ vC lastJ lastC) 230 (0,0)) ∧ Sl (supW W q (.int .i64 ((number:Int) + 1)) (.int .i64 1) vJ (.int .i64 nJ) (.int .u32 lastJ) vC (.int .i64 nC) (.int .u32 lastC)) 3 1 vJ ssJ.length (ints ssJ) ∧ Sl (supW W q (.int .i64 ((number:Int) + 1)) (.int .i64 1) vJ (.int .i64 nJ) (.int .u32 lastJ) vC (.int .i64 nC) (.int .u32 lastC)) 3 1 vC ssC.length (ints ssC) ∧ Below w.heap.size w (supW W q (.int .i64 ((number:Int) + 1)) (.int .i64 1) vJ (.int .i64 nJ) (.int .u32 lastJ) vC (.int .i64 nC) (.int .u32 lastC)) ∧ w.heap.size ≤ q:=by
 obtain ⟨h1,h2⟩:=slot_box Q2 (.int .i64 ((number:Int) + 1)) (.int .i64 1) vJ (.int .i64 nJ) (.int .u32 lastJ) vC (.int .i64 nC) (.int .u32 lastC)
 have sl:∀ (v:Value) (ss:List Int),Sl W 3 1 v ss.length (ints ss) → Sl (supW W q (.int .i64 ((number:Int) + 1)) (.int .i64 1) vJ (.int .i64 nJ) (.int .u32 lastJ) vC (.int .i64 nC) (.int .u32 lastC)) 3 1 v ss.length (ints ss):=fun v ss h => h.same (fun g off cap hg => by
  subst hg
  obtain ⟨-,-,h0 | ⟨g1,off1,cap1,arr,h1,-,-,-,h5,-⟩⟩:=h
  ·exact absurd h0.1 (by simp)
  ·simp only [Value.slice.injEq,Option.some.injEq,Addr.mk.injEq,and_true,true_and] at h1
   obtain ⟨⟨rfl,-⟩,-⟩:=h1
   exact h2.block g (heap_lt h5) (by simpa using cells_ty h5 Q2 (by decide)))
 refine ⟨h1,sl _ _ S1,sl _ _ S2,⟨h2.os.trans B2.os,h2.tape.trans B2.tape,h2.output.trans B2.output,Nat.le_trans B2.size h2.size,fun y hy => (h2.block y (by have:=B2.size;omega) (by simp;omega)).trans (B2.block y hy)⟩,hq⟩
set_option maxRecDepth 100000 in
set_option maxHeartbeats 4000000 in
theorem slot_any (w:World) (e:Nat) (x:EngX) (H:EngAt w e x) (slot:Nat) (hs:slot ≤ 1) (hn:x.number + 1 ≤ 2147483647) (hk:x.k ≤ 900000) :
  Calls Tryz.prog 94 #[.pointer (some ⟨e,0,none⟩),.int .i64 slot] w fun e' w' => e' = .returned (.int .i64 0) ∧ EngAt w' e { x with number:=x.number + 1,k:=0 } ∧ Frame [e,x.d,x.l,x.cb] w w':=by
 have HH:=Lib.hid H
 obtain ⟨d,l,cb,k,b,g,bs,j,svJ,ssJ,nJ,lastJ,c,svC,ssC,nC,lastC,number⟩:=x
 simp only at hn hk ⊢
 have WJ:Hid (∀ W,Below w.heap.size w W → Calls Tryz.prog 139 #[.pointer (some ⟨j,0,none⟩)] W fun e w' => ∃ v,e = .returned (.agg #[v,.int .i64 nJ,.int .u32 lastJ]) ∧ Sl w' 3 1 v ssJ.length (ints ssJ) ∧ Below W.heap.size W w'):=Lib.hid (fun W hW => where_any W j d nJ svJ ssJ lastJ (H.logJ.below hW))
 have WC:Hid (∀ W,Below w.heap.size w W → Calls Tryz.prog 139 #[.pointer (some ⟨c,0,none⟩)] W fun e w' => ∃ v,e = .returned (.agg #[v,.int .i64 nC,.int .u32 lastC]) ∧ Sl w' 3 1 v ssC.length (ints ssC) ∧ Below W.heap.size W w'):=Lib.hid (fun W hW => where_any W c d nC svC ssC lastC (H.logC.below hW))
 have helt:=heap_lt H.cell
 obtain ⟨c0,c3,c4,c5,c6,c7⟩:=cell5 H.cell
 have hSB:∀ {L:Array Bool} {W:World},Below w.heap.size w W → TillC 21 (fun _ => True) (fun W => W.cell? ⟨e,4,none⟩ = some (.int .i64 number) ∧ W.cell? ⟨e,5,none⟩ = some (.int .i64 1) ∧ W.cell? ⟨e,6,none⟩ = some (.pointer (some ⟨j,0,none⟩)) ∧ W.cell? ⟨e,7,none⟩ = some (.pointer (some ⟨c,0,none⟩))) L W:=fun {L} {W} hW => ⟨fun _ => trivial,(hW.cell (p:=⟨e,4,none⟩) helt).trans c4,(hW.cell (p:=⟨e,5,none⟩) helt).trans c5,(hW.cell (p:=⟨e,6,none⟩) helt).trans c6,(hW.cell (p:=⟨e,7,none⟩) helt).trans c7⟩
 have hSF:Hid (∀ (L:Array Bool) (W W':World) (q:Nat),Hid (Frame [q] W W') → Below w.heap.size w W → w.heap.size ≤ q → TillC 21 (fun _ => True) (fun W => W.cell? ⟨e,4,none⟩ = some (.int .i64 number) ∧ W.cell? ⟨e,5,none⟩ = some (.int .i64 1) ∧ W.cell? ⟨e,6,none⟩ = some (.pointer (some ⟨j,0,none⟩)) ∧ W.cell? ⟨e,7,none⟩ = some (.pointer (some ⟨c,0,none⟩))) L W'):=Lib.hid (fun L W W' q hF hW hq => by
  have hh:W'.heap[e]? = _:=hF.out.heap (Below.heap hW (Nat.le_refl _) HH.out.cell) (by simp;omega)
  exact ⟨fun _ => trivial,(cell5 hh).2.2⟩)
 have hS0:∀ L:Array Bool,TillC 21 (fun _ => True) (fun W => W.cell? ⟨e,4,none⟩ = some (.int .i64 number) ∧ W.cell? ⟨e,5,none⟩ = some (.int .i64 1) ∧ W.cell? ⟨e,6,none⟩ = some (.pointer (some ⟨j,0,none⟩)) ∧ W.cell? ⟨e,7,none⟩ = some (.pointer (some ⟨c,0,none⟩))) L w.drew:=fun L => hSB (Below.refl _ _).drew
 have hwr:IntKind.i64.wrap ((number:Int) + 1) = (number:Int) + 1:=IntWalk.i64_in _ (by omega)
 clear H
 go_enter Tryz.func94,Tryz.ntmps94
 go_wp2_with fail
 go_cut [5] from 27 (fun s5 wc => ∃ q vJ vC,s5 = .pointer (some ⟨q,0,none⟩) ∧ Hid (wc.heap[q]? = some (.cells (superC (number + 1) 1 nJ nC vJ vC lastJ lastC) 230 (0,0)) ∧ Sl wc 3 1 vJ ssJ.length (ints ssJ) ∧ Sl wc 3 1 vC ssC.length (ints ssC) ∧ Below w.heap.size w wc ∧ w.heap.size ≤ q))
 case first =>
  refine wp_region_T (TillC 21 (fun _ => True) (fun W => W.cell? ⟨e,4,none⟩ = some (.int .i64 number) ∧ W.cell? ⟨e,5,none⟩ = some (.int .i64 1) ∧ W.cell? ⟨e,6,none⟩ = some (.pointer (some ⟨j,0,none⟩)) ∧ W.cell? ⟨e,7,none⟩ = some (.pointer (some ⟨c,0,none⟩)))) rfl ?_
  simp only [List.size_toArray,List.length_cons,List.length_nil,Nat.reduceAdd,Array.replicate_succ,Array.replicate_zero,List.push_toArray,List.nil_append,List.cons_append]
  refine anyT_take (i:=0) (p:=1) (v:=?v1) rfl rfl (by kernel_rfl) (fun L w => TillC_set (by decide) L w) (by kernel_rfl) (by kernel_rfl) (by kernel_rfl) (by kernel_rfl) (fun _ _ _ h => h) (Or.inl ⟨by rfl,fun w hw => ?y1⟩) (hS0 _) ?r1
  case y1 => obtain ⟨L,hL,hS⟩:=hw;obtain ⟨e4,e5,e6,e7⟩:=hS.2;go_simp;(try with_reducible rfl)
  simp only [Act.put,List.setIfInBounds_toArray,List.set_cons_zero,List.set_cons_succ,List.getElem_toArray,List.getElem_cons_zero,List.getElem_cons_succ]
  refine anyT_take (i:=1) (p:=2) (v:=?v2) rfl rfl (by kernel_rfl) (fun L w => TillC_set (by decide) L w) (by kernel_rfl) (by kernel_rfl) (by kernel_rfl) (by kernel_rfl) (fun _ _ _ h => h) (Or.inl ⟨by rfl,fun w hw => ?y2⟩) (hS0 _) ?r2
  case y2 => obtain ⟨L,hL,hS⟩:=hw;obtain ⟨e4,e5,e6,e7⟩:=hS.2;go_simp;(try with_reducible rfl)
  simp only [Act.put,List.setIfInBounds_toArray,List.set_cons_zero,List.set_cons_succ,List.getElem_toArray,List.getElem_cons_zero,List.getElem_cons_succ]
  refine anyT_take (i:=2) (p:=3) (v:=?v3) rfl rfl (by kernel_rfl) (fun L w => TillC_set (by decide) L w) (by kernel_rfl) (by kernel_rfl) (by kernel_rfl) (by kernel_rfl) (fun _ _ _ h => h) (Or.inl ⟨by rfl,fun w hw => ?y3⟩) (hS0 _) ?r3
  case y3 => obtain ⟨L,hL,hS⟩:=hw;obtain ⟨e4,e5,e6,e7⟩:=hS.2;go_simp;(try with_reducible rfl)
  simp only [Act.put,List.setIfInBounds_toArray,List.set_cons_zero,List.set_cons_succ,List.getElem_toArray,List.getElem_cons_zero,List.getElem_cons_succ]
  refine anyT_take (i:=3) (p:=4) (v:=?v4) rfl rfl (by kernel_rfl) (fun L w => TillC_set (by decide) L w) (by kernel_rfl) (by kernel_rfl) (by kernel_rfl) (by kernel_rfl) (fun _ _ _ h => h) (Or.inl ⟨by rfl,fun w hw => ?y4⟩) (hS0 _) ?r4
  case y4 => obtain ⟨L,hL,hS⟩:=hw;obtain ⟨e4,e5,e6,e7⟩:=hS.2;go_simp;(try with_reducible rfl)
  simp only [Act.put,List.setIfInBounds_toArray,List.set_cons_zero,List.set_cons_succ,List.getElem_toArray,List.getElem_cons_zero,List.getElem_cons_succ]
  refine anyT_take (i:=4) (p:=19) (v:=.int .i64 ((number:Int) + 1)) rfl rfl (by kernel_rfl) (fun L w => TillC_set (by decide) L w) (by kernel_rfl) (by kernel_rfl) (by kernel_rfl) (by kernel_rfl) (fun _ _ _ h => h) (Or.inl ⟨by rfl,fun w hw => ?y5⟩) (hS0 _) ?r5
  case y5 => obtain ⟨L,hL,hS⟩:=hw;obtain ⟨e4,e5,e6,e7⟩:=hS.2;go_simp;skip
  simp only [Act.put,List.setIfInBounds_toArray,List.set_cons_zero,List.set_cons_succ,List.getElem_toArray,List.getElem_cons_zero,List.getElem_cons_succ]
  refine anyT_take (i:=5) (p:=6) (v:=?v6) rfl rfl (by kernel_rfl) (fun L w => TillC_set (by decide) L w) (by kernel_rfl) (by kernel_rfl) (by kernel_rfl) (by kernel_rfl) (fun _ _ _ h => h) (Or.inl ⟨by rfl,fun w hw => ?y6⟩) (hS0 _) ?r6
  case y6 => obtain ⟨L,hL,hS⟩:=hw;obtain ⟨e4,e5,e6,e7⟩:=hS.2;go_simp;(try with_reducible rfl)
  simp only [Act.put,List.setIfInBounds_toArray,List.set_cons_zero,List.set_cons_succ,List.getElem_toArray,List.getElem_cons_zero,List.getElem_cons_succ]
  refine anyT_take (i:=6) (p:=7) (v:=?v7) rfl rfl (by kernel_rfl) (fun L w => TillC_set (by decide) L w) (by kernel_rfl) (by kernel_rfl) (by kernel_rfl) (by kernel_rfl) (fun _ _ _ h => h) (Or.inl ⟨by rfl,fun w hw => ?y7⟩) (hS0 _) ?r7
  case y7 => obtain ⟨L,hL,hS⟩:=hw;obtain ⟨e4,e5,e6,e7⟩:=hS.2;go_simp;(try with_reducible rfl)
  simp only [Act.put,List.setIfInBounds_toArray,List.set_cons_zero,List.set_cons_succ,List.getElem_toArray,List.getElem_cons_zero,List.getElem_cons_succ]
  refine anyT_take (i:=7) (p:=8) (v:=?v8) rfl rfl (by kernel_rfl) (fun L w => TillC_set (by decide) L w) (by kernel_rfl) (by kernel_rfl) (by kernel_rfl) (by kernel_rfl) (fun _ _ _ h => h) (Or.inl ⟨by rfl,fun w hw => ?y8⟩) (hS0 _) ?r8
  case y8 => obtain ⟨L,hL,hS⟩:=hw;obtain ⟨e4,e5,e6,e7⟩:=hS.2;go_simp;(try with_reducible rfl)
  simp only [Act.put,List.setIfInBounds_toArray,List.set_cons_zero,List.set_cons_succ,List.getElem_toArray,List.getElem_cons_zero,List.getElem_cons_succ]
  refine anyT_take (i:=8) (p:=19) (v:=?v9) rfl rfl (by kernel_rfl) (fun L w => TillC_set (by decide) L w) (by kernel_rfl) (by kernel_rfl) (by kernel_rfl) (by kernel_rfl) (fun _ _ _ h => h) (Or.inl ⟨by rfl,fun w hw => ?y9⟩) (hS0 _) ?r9
  case y9 => obtain ⟨L,hL,hS⟩:=hw;obtain ⟨e4,e5,e6,e7⟩:=hS.2;go_simp;(try with_reducible rfl)
  simp only [Act.put,List.setIfInBounds_toArray,List.set_cons_zero,List.set_cons_succ,List.getElem_toArray,List.getElem_cons_zero,List.getElem_cons_succ]
  refine anyT_take (i:=9) (p:=10) (v:=?v10) rfl rfl (by kernel_rfl) (fun L w => TillC_set (by decide) L w) (by kernel_rfl) (by kernel_rfl) (by kernel_rfl) (by kernel_rfl) (fun _ _ _ h => h) (Or.inl ⟨by rfl,fun w hw => ?y10⟩) (hS0 _) ?r10
  case y10 => obtain ⟨L,hL,hS⟩:=hw;obtain ⟨e4,e5,e6,e7⟩:=hS.2;go_simp;(try with_reducible rfl)
  simp only [Act.put,List.setIfInBounds_toArray,List.set_cons_zero,List.set_cons_succ,List.getElem_toArray,List.getElem_cons_zero,List.getElem_cons_succ]
  refine anyT_take (i:=10) (p:=11) (v:=?v11) rfl rfl (by kernel_rfl) (fun L w => TillC_set (by decide) L w) (by kernel_rfl) (by kernel_rfl) (by kernel_rfl) (by kernel_rfl) (fun _ _ _ h => h) (Or.inl ⟨by rfl,fun w hw => ?y11⟩) (hS0 _) ?r11
  case y11 => obtain ⟨L,hL,hS⟩:=hw;obtain ⟨e4,e5,e6,e7⟩:=hS.2;go_simp;(try with_reducible rfl)
  simp only [Act.put,List.setIfInBounds_toArray,List.set_cons_zero,List.set_cons_succ,List.getElem_toArray,List.getElem_cons_zero,List.getElem_cons_succ]
  refine anyT_take (i:=11) (p:=12) (v:=?v12) rfl rfl (by kernel_rfl) (fun L w => TillC_set (by decide) L w) (by kernel_rfl) (by kernel_rfl) (by kernel_rfl) (by kernel_rfl) (fun _ _ _ h => h) (Or.inl ⟨by rfl,fun w hw => ?y12⟩) (hS0 _) ?r12
  case y12 => obtain ⟨L,hL,hS⟩:=hw;obtain ⟨e4,e5,e6,e7⟩:=hS.2;go_simp;(try with_reducible rfl)
  simp only [Act.put,List.setIfInBounds_toArray,List.set_cons_zero,List.set_cons_succ,List.getElem_toArray,List.getElem_cons_zero,List.getElem_cons_succ]
  refine anyT_take (i:=12) (p:=13) (v:=?v13) rfl rfl (by kernel_rfl) (fun L w => TillC_set (by decide) L w) (by kernel_rfl) (by kernel_rfl) (by kernel_rfl) (by kernel_rfl) (fun _ _ _ h => h) (Or.inl ⟨by rfl,fun w hw => ?y13⟩) (hS0 _) ?r13
  case y13 => obtain ⟨L,hL,hS⟩:=hw;obtain ⟨e4,e5,e6,e7⟩:=hS.2;go_simp;(try with_reducible rfl)
  simp only [Act.put,List.setIfInBounds_toArray,List.set_cons_zero,List.set_cons_succ,List.getElem_toArray,List.getElem_cons_zero,List.getElem_cons_succ]
  refine anyT_take (i:=14) (p:=15) (v:=?v14) rfl rfl (by kernel_rfl) (fun L w => TillC_set (by decide) L w) (by kernel_rfl) (by kernel_rfl) (by kernel_rfl) (by kernel_rfl) (fun _ _ _ h => h) (Or.inl ⟨by rfl,fun w hw => ?y14⟩) (hS0 _) ?r14
  case y14 => obtain ⟨L,hL,hS⟩:=hw;obtain ⟨e4,e5,e6,e7⟩:=hS.2;go_simp;(try with_reducible rfl)
  simp only [Act.put,List.setIfInBounds_toArray,List.set_cons_zero,List.set_cons_succ,List.getElem_toArray,List.getElem_cons_zero,List.getElem_cons_succ]
  refine anyT_take (i:=15) (p:=16) (v:=?v15) rfl rfl (by kernel_rfl) (fun L w => TillC_set (by decide) L w) (by kernel_rfl) (by kernel_rfl) (by kernel_rfl) (by kernel_rfl) (fun _ _ _ h => h) (Or.inl ⟨by rfl,fun w hw => ?y15⟩) (hS0 _) ?r15
  case y15 => obtain ⟨L,hL,hS⟩:=hw;obtain ⟨e4,e5,e6,e7⟩:=hS.2;go_simp;(try with_reducible rfl)
  simp only [Act.put,List.setIfInBounds_toArray,List.set_cons_zero,List.set_cons_succ,List.getElem_toArray,List.getElem_cons_zero,List.getElem_cons_succ]
  refine anyT_take (i:=16) (p:=17) (v:=?v16) rfl rfl (by kernel_rfl) (fun L w => TillC_set (by decide) L w) (by kernel_rfl) (by kernel_rfl) (by kernel_rfl) (by kernel_rfl) (fun _ _ _ h => h) (Or.inl ⟨by rfl,fun w hw => ?y16⟩) (hS0 _) ?r16
  case y16 => obtain ⟨L,hL,hS⟩:=hw;obtain ⟨e4,e5,e6,e7⟩:=hS.2;go_simp;(try with_reducible rfl)
  simp only [Act.put,List.setIfInBounds_toArray,List.set_cons_zero,List.set_cons_succ,List.getElem_toArray,List.getElem_cons_zero,List.getElem_cons_succ]
  refine anyT_take (i:=17) (p:=18) (v:=?v17) rfl rfl (by kernel_rfl) (fun L w => TillC_set (by decide) L w) (by kernel_rfl) (by kernel_rfl) (by kernel_rfl) (by kernel_rfl) (fun _ _ _ h => h) (Or.inl ⟨by rfl,fun w hw => ?y17⟩) (hS0 _) ?r17
  case y17 => obtain ⟨L,hL,hS⟩:=hw;obtain ⟨e4,e5,e6,e7⟩:=hS.2;go_simp;(try with_reducible rfl)
  simp only [Act.put,List.setIfInBounds_toArray,List.set_cons_zero,List.set_cons_succ,List.getElem_toArray,List.getElem_cons_zero,List.getElem_cons_succ]
  refine anyT_all (rs:=[13,20]) (by kernel_rfl) (by simp) ?_
  intro jj hj
  simp only [List.mem_cons,List.not_mem_nil,or_false] at hj
  rcases hj with rfl | rfl
  ·refine T_step rfl (fun K' hK => ?_)
   go_simp
   go_at_call 139
   refine (WJ.out _ (Below.refl w.heap.size w).drew).mono ?_
   rintro e1 w1 ⟨v1,rfl,hs1,hq1⟩
   have B1:Below w.heap.size w w1:=(Below.refl w.heap.size w).drew.trans (hq1.mono (Below.refl w.heap.size w).drew.size)
   have S1:=Lib.hid hs1
   refine hK.out _ _ (hSB B1) ?_
   simp only [Act.put,List.setIfInBounds_toArray,List.set_cons_zero,List.set_cons_succ,List.getElem_toArray,List.getElem_cons_zero,List.getElem_cons_succ]
   refine anyT_all (rs:=[18,20]) (by kernel_rfl) (by simp) ?_
   intro jj hj
   simp only [List.mem_cons,List.not_mem_nil,or_false] at hj
   rcases hj with rfl | rfl
   ·refine T_step rfl (fun K' hK => ?_)
    go_simp
    go_at_call 139
    refine (WC.out _ B1).mono ?_
    rintro e1 w2 ⟨v2,rfl,hs2,hq2⟩
    have B2:Below w.heap.size w w2:=B1.trans (hq2.mono B1.size)
    have S1:=Lib.hid (S1.out.below hq2)
    have S2:=Lib.hid hs2
    refine hK.out _ _ (hSB B2) ?_
    simp only [Act.put,List.setIfInBounds_toArray,List.set_cons_zero,List.set_cons_succ,List.getElem_toArray,List.getElem_cons_zero,List.getElem_cons_succ]
    obtain ⟨pa1,pc1,rfl,-,-,-⟩:=S1.out.shape
    obtain ⟨pa2,pc2,rfl,-,-,-⟩:=S2.out.shape
    refine anyT_take (i:=19) (p:=21) (v:=?v18) rfl rfl (by kernel_rfl) (fun L w => TillC_set (by decide) L w) (by kernel_rfl) (by kernel_rfl) (by kernel_rfl) (by kernel_rfl) (fun _ _ _ h => h) (Or.inl ⟨by rfl,fun w hw => ?y18⟩) (hSB B2) ?r18
    case y18 => obtain ⟨L,hL,hS⟩:=hw;obtain ⟨e4,e5,e6,e7⟩:=hS.2;go_simp;(try with_reducible rfl)
    simp only [Act.put,List.setIfInBounds_toArray,List.set_cons_zero,List.set_cons_succ,List.getElem_toArray,List.getElem_cons_zero,List.getElem_cons_succ]
    refine anyT_all (rs:=[20]) (by kernel_rfl) (by simp) ?_
    intro jj hj
    simp only [List.mem_singleton] at hj
    subst hj
    refine T_step rfl (fun K' hK => ?_)
    go_simp
    refine hK.out _ _ (hSB (B2.alloc B2.size _)) ?_
    simp only [Act.put,List.setIfInBounds_toArray,List.set_cons_zero,List.set_cons_succ,List.getElem_toArray,List.getElem_cons_zero,List.getElem_cons_succ]
    have Q2:(w2.alloc (.cells supZ 230)).heap[w2.heap.size]? = some (.cells supZ 230 (0,0)):=heap_new _ _
    have Q3:=Q2
    unfold supZ at Q3
    have z0:=cellAt Q3 0
    have f0:=frozenAt Q3 0
    have z1:=cellAt Q3 1
    have f1:=frozenAt Q3 1
    have z2:=cellAt Q3 2
    have f2:=frozenAt Q3 2
    have z3:=cellAt Q3 3
    have f3:=frozenAt Q3 3
    have z4:=cellAt Q3 4
    have f4:=frozenAt Q3 4
    have z5:=cellAt Q3 5
    have f5:=frozenAt Q3 5
    have z6:=cellAt Q3 6
    have f6:=frozenAt Q3 6
    have z7:=cellAt Q3 7
    have f7:=frozenAt Q3 7
    refine anyT_all (rs:=[21]) (by kernel_rfl) (by simp) ?_
    intro jj hj
    simp only [List.mem_singleton] at hj
    subst hj
    refine T_step rfl (fun K' hK => ?_)
    go_simp
    refine hK.out _ _ (hSB (B2.alloc B2.size _)) ?_
    simp only [Act.put,List.setIfInBounds_toArray,List.set_cons_zero,List.set_cons_succ,List.getElem_toArray,List.getElem_cons_zero,List.getElem_cons_succ]
    refine anyT_done (by kernel_rfl) ?_ _
    go_wp2_with fail
    go_meet
    case rel => exact ⟨_,_,_,rfl,Lib.hid ⟨heap_new _ _,S1.out.below (crc_below _ _),S2.out.below (crc_below _ _),B2.alloc B2.size _,B2.size⟩⟩
   ·refine T_step rfl (fun K' hK => ?_)
    go_simp
    refine hK.out _ _ (hSB (B1.alloc B1.size _)) ?_
    simp only [Act.put,List.setIfInBounds_toArray,List.set_cons_zero,List.set_cons_succ,List.getElem_toArray,List.getElem_cons_zero,List.getElem_cons_succ]
    refine anyT_all (rs:=[18]) (by kernel_rfl) (by simp) ?_
    intro jj hj
    simp only [List.mem_singleton] at hj
    subst hj
    refine T_step rfl (fun K' hK => ?_)
    go_simp
    go_at_call 139
    refine (WC.out _ (show Below w.heap.size w (w1.alloc (.cells supZ 230)) from B1.alloc B1.size _)).mono ?_
    rintro e1 w2 ⟨v2,rfl,hs2,hq2⟩
    have B2:Below w.heap.size w w2:=(show Below w.heap.size w (w1.alloc (.cells supZ 230)) from B1.alloc B1.size _).trans (hq2.mono (show Below w.heap.size w (w1.alloc (.cells supZ 230)) from B1.alloc B1.size _).size)
    have S1:=Lib.hid (S1.out.below ((crc_below w1 (.cells supZ 230)).trans (hq2.mono (crc_below w1 (.cells supZ 230)).size)))
    have S2:=Lib.hid hs2
    refine hK.out _ _ (hSB B2) ?_
    simp only [Act.put,List.setIfInBounds_toArray,List.set_cons_zero,List.set_cons_succ,List.getElem_toArray,List.getElem_cons_zero,List.getElem_cons_succ]
    have B3:=Lib.hid B2
    have hqe:w.heap.size ≤ w1.heap.size:=B1.size
    have Q2:w2.heap[w1.heap.size]? = some (.cells supZ 230 (0,0)):=Below.heap hq2 (Nat.le_refl _) (heap_new w1 (.cells supZ 230))
    obtain ⟨pa1,pc1,rfl,-,-,-⟩:=S1.out.shape
    obtain ⟨pa2,pc2,rfl,-,-,-⟩:=S2.out.shape
    have Q3:=Q2
    unfold supZ at Q3
    have z0:=cellAt Q3 0
    have f0:=frozenAt Q3 0
    have z1:=cellAt Q3 1
    have f1:=frozenAt Q3 1
    have z2:=cellAt Q3 2
    have f2:=frozenAt Q3 2
    have z3:=cellAt Q3 3
    have f3:=frozenAt Q3 3
    have z4:=cellAt Q3 4
    have f4:=frozenAt Q3 4
    have z5:=cellAt Q3 5
    have f5:=frozenAt Q3 5
    have z6:=cellAt Q3 6
    have f6:=frozenAt Q3 6
    have z7:=cellAt Q3 7
    have f7:=frozenAt Q3 7
    refine anyT_take (i:=19) (p:=21) (v:=?v19) rfl rfl (by kernel_rfl) (fun L w => TillC_set (by decide) L w) (by kernel_rfl) (by kernel_rfl) (by kernel_rfl) (by kernel_rfl) (fun _ _ _ h => h) (Or.inl ⟨by rfl,fun w hw => ?y19⟩) (hSB B3.out) ?r19
    case y19 => obtain ⟨L,hL,hS⟩:=hw;obtain ⟨e4,e5,e6,e7⟩:=hS.2;go_simp;(try with_reducible rfl)
    simp only [Act.put,List.setIfInBounds_toArray,List.set_cons_zero,List.set_cons_succ,List.getElem_toArray,List.getElem_cons_zero,List.getElem_cons_succ]
    refine anyT_all (rs:=[21]) (by kernel_rfl) (by simp) ?_
    intro jj hj
    simp only [List.mem_singleton] at hj
    subst hj
    refine T_step rfl (fun K' hK => ?_)
    go_simp
    refine hK.out _ _ (hSF.out _ _ _ _ (Lib.hid (slot_box Q2 _ _ _ _ _ _ _ _).2) B3.out hqe) ?_
    simp only [Act.put,List.setIfInBounds_toArray,List.set_cons_zero,List.set_cons_succ,List.getElem_toArray,List.getElem_cons_zero,List.getElem_cons_succ]
    refine anyT_done (by kernel_rfl) ?_ _
    go_wp2_with fail
    go_meet
    case rel => exact ⟨_,_,_,rfl,Lib.hid (slot_fin S1.out S2.out Q2 B3.out hqe)⟩
  ·refine T_step rfl (fun K' hK => ?_)
   go_simp
   refine hK.out _ _ (hSB (show Below w.heap.size w (w.alloc (.cells supZ 230)).drew from (crc_below _ _).drew)) ?_
   simp only [Act.put,List.setIfInBounds_toArray,List.set_cons_zero,List.set_cons_succ,List.getElem_toArray,List.getElem_cons_zero,List.getElem_cons_succ]
   refine anyT_all (rs:=[13]) (by kernel_rfl) (by simp) ?_
   intro jj hj
   simp only [List.mem_singleton] at hj
   subst hj
   refine T_step rfl (fun K' hK => ?_)
   go_simp
   go_at_call 139
   refine (WJ.out _ (show Below w.heap.size w (w.alloc (.cells supZ 230)).drew from (crc_below _ _).drew)).mono ?_
   rintro e1 w1 ⟨v1,rfl,hs1,hq1⟩
   have B1:Below w.heap.size w w1:=(show Below w.heap.size w (w.alloc (.cells supZ 230)).drew from (crc_below _ _).drew).trans (hq1.mono (show Below w.heap.size w (w.alloc (.cells supZ 230)).drew from (crc_below _ _).drew).size)
   have S1:=Lib.hid hs1
   refine hK.out _ _ (hSB B1) ?_
   simp only [Act.put,List.setIfInBounds_toArray,List.set_cons_zero,List.set_cons_succ,List.getElem_toArray,List.getElem_cons_zero,List.getElem_cons_succ]
   refine anyT_all (rs:=[18]) (by kernel_rfl) (by simp) ?_
   intro jj hj
   simp only [List.mem_singleton] at hj
   subst hj
   refine T_step rfl (fun K' hK => ?_)
   go_simp
   go_at_call 139
   refine (WC.out _ B1).mono ?_
   rintro e1 w2 ⟨v2,rfl,hs2,hq2⟩
   have B2:Below w.heap.size w w2:=B1.trans (hq2.mono B1.size)
   have S1:=Lib.hid (S1.out.below hq2)
   have S2:=Lib.hid hs2
   refine hK.out _ _ (hSB B2) ?_
   simp only [Act.put,List.setIfInBounds_toArray,List.set_cons_zero,List.set_cons_succ,List.getElem_toArray,List.getElem_cons_zero,List.getElem_cons_succ]
   have B3:=Lib.hid B2
   have hqe:w.heap.size ≤ w.heap.size:=Nat.le_refl _
   have Q2:w2.heap[w.heap.size]? = some (.cells supZ 230 (0,0)):=Below.heap hq2 (Nat.le_refl _) (Below.heap hq1 (Nat.le_refl _) (show (w.alloc (.cells supZ 230)).drew.heap[w.heap.size]? = _ from heap_new w _))
   obtain ⟨pa1,pc1,rfl,-,-,-⟩:=S1.out.shape
   obtain ⟨pa2,pc2,rfl,-,-,-⟩:=S2.out.shape
   have Q3:=Q2
   unfold supZ at Q3
   have z0:=cellAt Q3 0
   have f0:=frozenAt Q3 0
   have z1:=cellAt Q3 1
   have f1:=frozenAt Q3 1
   have z2:=cellAt Q3 2
   have f2:=frozenAt Q3 2
   have z3:=cellAt Q3 3
   have f3:=frozenAt Q3 3
   have z4:=cellAt Q3 4
   have f4:=frozenAt Q3 4
   have z5:=cellAt Q3 5
   have f5:=frozenAt Q3 5
   have z6:=cellAt Q3 6
   have f6:=frozenAt Q3 6
   have z7:=cellAt Q3 7
   have f7:=frozenAt Q3 7
   refine anyT_take (i:=19) (p:=21) (v:=?v20) rfl rfl (by kernel_rfl) (fun L w => TillC_set (by decide) L w) (by kernel_rfl) (by kernel_rfl) (by kernel_rfl) (by kernel_rfl) (fun _ _ _ h => h) (Or.inl ⟨by rfl,fun w hw => ?y20⟩) (hSB B3.out) ?r20
   case y20 => obtain ⟨L,hL,hS⟩:=hw;obtain ⟨e4,e5,e6,e7⟩:=hS.2;go_simp;(try with_reducible rfl)
   simp only [Act.put,List.setIfInBounds_toArray,List.set_cons_zero,List.set_cons_succ,List.getElem_toArray,List.getElem_cons_zero,List.getElem_cons_succ]
   refine anyT_all (rs:=[21]) (by kernel_rfl) (by simp) ?_
   intro jj hj
   simp only [List.mem_singleton] at hj
   subst hj
   refine T_step rfl (fun K' hK => ?_)
   go_simp
   refine hK.out _ _ (hSF.out _ _ _ _ (Lib.hid (slot_box Q2 _ _ _ _ _ _ _ _).2) B3.out hqe) ?_
   simp only [Act.put,List.setIfInBounds_toArray,List.set_cons_zero,List.set_cons_succ,List.getElem_toArray,List.getElem_cons_zero,List.getElem_cons_succ]
   refine anyT_done (by kernel_rfl) ?_ _
   go_wp2_with fail
   go_meet
   case rel => exact ⟨_,_,_,rfl,Lib.hid (slot_fin S1.out S2.out Q2 B3.out hqe)⟩
 case rest =>
  obtain ⟨q,vJ,vC,rfl,hb⟩:=hcut
  obtain ⟨hq,hJ,hC,hB,hqw⟩:=hb.out
  obtain ⟨pa1,pc1,rfl,-,-,-⟩:=hJ.shape
  obtain ⟨pa2,pc2,rfl,-,-,-⟩:=hC.shape
  have hcast:((number + 1:Nat):Int) = (number:Int) + 1:=rfl
  have WR:Hid (∀ W,Below wc.heap.size wc W → Calls Tryz.prog 140 #[.pointer (some ⟨d,0,none⟩),.int .i64 slot,.agg #[.int .i64 ((number:Int) + 1),.int .i64 1,.slice pa1 ssJ.length pc1,.int .i64 nJ,.int .u32 lastJ,.slice pa2 ssC.length pc2,.int .i64 nC,.int .u32 lastC]] W fun e w' => e = .returned (.int .i64 0) ∧ DiskAt w' d l cb 776 (k + 4) ∧ Frame [d,cb] W w'):=Lib.hid (fun W hW => by rw [← hcast];exact superWrite_any W d l cb k slot ((HH.out.disk.below hB).below hW) hk hs (number + 1) 1 nJ nC ssJ ssC _ _ lastJ lastC (HH.out.superOk (number + 1) hn) (hJ.below hW) (hC.below hW))
  unfold superC at hq
  have z0:=cellAt hq 0
  have z1:=cellAt hq 1
  have z2:=cellAt hq 2
  have z3:=cellAt hq 3
  have z4:=cellAt hq 4
  have z5:=cellAt hq 5
  have z6:=cellAt hq 6
  have z7:=cellAt hq 7
  have ec:wc.heap[e]? = _:=Below.heap hB (Nat.le_refl _) HH.out.cell
  have HE:=Lib.hid ec
  have HBB:=Lib.hid hB
  have hed:=cells_ty HH.out.cell HH.out.disk.cell.choose_spec (by decide)
  have hne:e ∉ [d,cb] ∧ e ∉ [d,l,cb]:=by
   obtain ⟨ops,hd0⟩:=HH.out.disk.cell
   obtain ⟨lr,hl0,-⟩:=HH.out.disk.row
   obtain ⟨mn,mf,hm0,-⟩:=HH.out.disk.map
   have h2:e ≠ d:=cells_ty HH.out.cell hd0 (by decide)
   have h3:e ≠ l:=cells_ty HH.out.cell hl0 (by decide)
   have h4:e ≠ cb:=fun h => hm0.cells (by have:=HH.out.cell;rw [h] at this;exact this)
   simp [h2,h3,h4]
  have HNE:=Lib.hid hne
  have HQ:=Lib.hid hq
  have hqd:q ∉ [d,cb]:=by
   have h1:d < w.heap.size ∧ l < w.heap.size ∧ cb < w.heap.size:=HH.out.disk.lt
   simp only [List.mem_cons,List.not_mem_nil,or_false]
   omega
  have CELLS:Hid (∀ W:World,W.heap[e]? = wc.heap[e]? → W.heap[q]? = wc.heap[q]? → W.cell? ⟨e,0,none⟩ = some (.pointer (some ⟨d,0,none⟩)) ∧ W.cell? ⟨q,0,none⟩ = some (.int .i64 ((number:Int) + 1)) ∧ W.cell? ⟨q,1,none⟩ = some (.int .i64 1) ∧ W.cell? ⟨q,2,none⟩ = some (.slice pa1 ssJ.length pc1) ∧ W.cell? ⟨q,3,none⟩ = some (.int .i64 nJ) ∧ W.cell? ⟨q,4,none⟩ = some (.int .u32 lastJ) ∧ W.cell? ⟨q,5,none⟩ = some (.slice pa2 ssC.length pc2) ∧ W.cell? ⟨q,6,none⟩ = some (.int .i64 nC) ∧ W.cell? ⟨q,7,none⟩ = some (.int .u32 lastC)):=Lib.hid (fun W h1 h2 => by
   have h3:=h1.trans HE.out
   have h4:=h2.trans HQ.out
   exact ⟨cellAt h3 0,cellAt h4 0,cellAt h4 1,cellAt h4 2,cellAt h4 3,cellAt h4 4,cellAt h4 5,cellAt h4 6,cellAt h4 7⟩)
  have KB:Hid (∀ W:World,Frame [d,cb] wc W → W.cell? ⟨e,0,none⟩ = some (.pointer (some ⟨d,0,none⟩)) ∧ W.cell? ⟨q,0,none⟩ = some (.int .i64 ((number:Int) + 1)) ∧ W.cell? ⟨q,1,none⟩ = some (.int .i64 1) ∧ W.cell? ⟨q,2,none⟩ = some (.slice pa1 ssJ.length pc1) ∧ W.cell? ⟨q,3,none⟩ = some (.int .i64 nJ) ∧ W.cell? ⟨q,4,none⟩ = some (.int .u32 lastJ) ∧ W.cell? ⟨q,5,none⟩ = some (.slice pa2 ssC.length pc2) ∧ W.cell? ⟨q,6,none⟩ = some (.int .i64 nC) ∧ W.cell? ⟨q,7,none⟩ = some (.int .u32 lastC)):=Lib.hid (fun W hW => CELLS.out W (hW.block e (heap_lt HE.out) HNE.out.1) (hW.block q (heap_lt HQ.out) hqd))
  have R0:Hid (Frame [d,cb] wc wc.drew):=Lib.hid (Frame.of_below (Below.refl _ _).drew _)
  clear hq hJ hC hB hb ec hed hne c0 c3 c4 c5 c6 c7 hSB hSF hS0 WJ WC hqd z0 z1 z2 z3 z4 z5 z6 z7
  go_wp2_with fail
  go_region_held3 (fun W => W.cell? ⟨e,0,none⟩ = some (.pointer (some ⟨d,0,none⟩)) ∧ W.cell? ⟨q,0,none⟩ = some (.int .i64 ((number:Int) + 1)) ∧ W.cell? ⟨q,1,none⟩ = some (.int .i64 1) ∧ W.cell? ⟨q,2,none⟩ = some (.slice pa1 ssJ.length pc1) ∧ W.cell? ⟨q,3,none⟩ = some (.int .i64 nJ) ∧ W.cell? ⟨q,4,none⟩ = some (.int .u32 lastJ) ∧ W.cell? ⟨q,5,none⟩ = some (.slice pa2 ssC.length pc2) ∧ W.cell? ⟨q,6,none⟩ = some (.int .i64 nC) ∧ W.cell? ⟨q,7,none⟩ = some (.int .u32 lastC)) (first | exact KB.out _ R0.out | exact KB.out _ HF1.out) ((go_at_call 140;with_reducible refine (WR.out _ (Below.refl _ _).drew).mono ?_;rintro e1 w1 ⟨rfl,hd1,hf1⟩;have HD1:=Lib.hid hd1;have HF1:Hid (Frame [d,cb] wc w1):=Lib.hid (R0.out.trans hf1 (fun _ h => .inl h));clear hd1 hf1))
  have he1:=HF1.out.heap HE.out HNE.out.1
  have x0:=cellAt he1 0
  have FL:Hid (Calls Tryz.prog 124 #[.pointer (some ⟨d,0,none⟩)] w1 fun e w' => e = .returned (.int .i64 0) ∧ DiskAt w' d l cb 776 0 ∧ Frame [d,l,cb] w1 w'):=Lib.hid (flush_any w1 d l cb 776 (k + 4) HD1.out)
  have HE1:=Lib.hid he1
  clear he1
  go_wp2_with ((go_at_call 124;with_reducible refine FL.out.mono ?_;rintro e1 w2 ⟨rfl,hd2,hf2⟩;have HD2:=Lib.hid hd2;have HF2:=Lib.hid hf2;have HE2:=Lib.hid (hf2.heap HE1.out HNE.out.2);clear hd2 hf2;have x4:=cellAt HE2.out 4;have x4f:=frozenAt HE2.out 4))
  refine bodyPost_ret (v:=.int .i64 0) (by simp [results,Tryz.results94,go_sem]) rfl ?_
  have hf0:Frame [e,d,l,cb] w wc:=Frame.of_below HBB.out _
  have hf1:Frame [e,d,l,cb] w w1:=hf0.trans HF1.out (fun x hx => .inl (by simp at hx ⊢;omega))
  have hf2:Frame [e,d,l,cb] w w2:=hf1.trans HF2.out (fun x hx => .inl (by simp at hx ⊢;omega))
  have hf3:Frame [e,d,l,cb] w (w2.setCell ⟨e,4,none⟩ (.int .i64 ((number:Int) + 1))):=hf2.setCell (.inl (by simp)) _
  refine ⟨rfl,HH.out.turn (number + 1) 0 hf3 (HD2.out.frame (frame_setCell _ ⟨e,4,none⟩ _) (by simpa using fun h:d = e => HNE.out.2 (by simp [h])) (by simpa using fun h:l = e => HNE.out.2 (by simp [h])) (by simpa using fun h:cb = e => HNE.out.2 (by simp [h]))) ?_,hf3⟩
  exact (setAt HE2.out 4 _).trans (by simp)
end Go.Proofs.YtaonlcgneemimaaGreatDoor
namespace Go.Proofs.YtaonlcgneemimaaGreatDoor
open Go.RowKit
set_option maxRecDepth 100000 in
set_option maxHeartbeats 2000000 in
theorem slots_any (w:World) (e:Nat) (x:EngX) (H:EngAt w e x) (hn:x.number + 2 ≤ 2147483647) (hk:x.k ≤ 900000) :
  Calls Tryz.prog 47 #[.pointer (some ⟨e,0,none⟩)] w fun e' w' => e' = .returned (.int .i64 0) ∧ EngAt w' e { x with number:=x.number + 2,k:=0 } ∧ Frame [e,x.d,x.l,x.cb] w w':=by
 have HH:=Lib.hid H
 obtain ⟨c0,c3,c4,c5,c6,c7⟩:=cell5 H.cell
 have S0:Hid (Calls Tryz.prog 94 #[.pointer (some ⟨e,0,none⟩),.int .i64 0] w fun e' w' => e' = .returned (.int .i64 0) ∧ EngAt w' e { x with number:=x.number + 1,k:=0 } ∧ Frame [e,x.d,x.l,x.cb] w w'):=Lib.hid (slot_any w e x H 0 (by decide) (by omega) hk)
 have S1:Hid (∀ w1,EngAt w1 e { x with number:=x.number + 1,k:=0 } → Calls Tryz.prog 94 #[.pointer (some ⟨e,0,none⟩),.int .i64 1] w1 fun e' w' => e' = .returned (.int .i64 0) ∧ EngAt w' e { x with number:=x.number + 2,k:=0 } ∧ Frame [e,x.d,x.l,x.cb] w1 w'):=Lib.hid (fun w1 h1 => slot_any w1 e { x with number:=x.number + 1,k:=0 } h1 1 (by decide) (by simp only;omega) (by simp only;omega))
 clear H hn hk
 go_enter Tryz.func47,Tryz.ntmps47
 go_wp2_with (first | (go_at_call 94;with_reducible refine S0.out.mono ?_;rintro e1 w1 ⟨rfl,h1,hf1⟩;have H1:=Lib.hid h1;have F1:=Lib.hid hf1;have z3:=(cell5 h1.cell).2.1;clear h1 hf1) | (go_at_call 94;with_reducible refine (S1.out w1 H1.out).mono ?_;rintro e1 w2 ⟨rfl,h2,hf2⟩;have H2:=Lib.hid h2;have F2:=Lib.hid hf2;clear h2 hf2))
 refine bodyPost_ret (v:=.int .i64 0) (by simp [results,Tryz.results47,go_sem]) rfl ?_
 exact ⟨rfl,H2.out,F1.out.trans F2.out (fun _ h => .inl h)⟩
structure FormatPost (w:World) (d l cb:Nat) (eb:Nat) (x:EngX) (w':World):Prop where
 eng:EngAt w' eb x
 fr:Frame [d,l,cb] w w'
 ed:x.d = d
 el:x.l = l
 ec:x.cb = cb
 number:x.number = 2
 k:x.k = 0
 ssJ:x.ssJ = []
 ssC:x.ssC = []
 nJ:x.nJ = 0
 nC:x.nC = 0
 own:∀ y ∈ x.mut eb,y = d ∨ y = l ∨ y = cb ∨ w.heap.size ≤ y
 b:w.heap.size ≤ x.b
set_option maxRecDepth 100000 in
set_option maxHeartbeats 2000000 in
theorem format_any (w:World) (d l cb k:Nat) (HD:DiskAt w d l cb 776 k) (hk:k ≤ 900000) :
  Calls Tryz.prog 19 #[.pointer (some ⟨d,0,none⟩)] w fun e w' => ∃ (eb:Nat) (x:EngX),e = .returned (.tuple #[.pointer (some ⟨eb,0,none⟩),.int .i64 0]) ∧ FormatPost w d l cb eb x w':=by
 have B:=Lib.hid (begun_any w d l cb k HD)
 have SL:Hid (∀ w1 e x,EngAt w1 e x → x.number = 0 → x.k ≤ 900000 → Calls Tryz.prog 47 #[.pointer (some ⟨e,0,none⟩)] w1 fun e' w' => e' = .returned (.int .i64 0) ∧ EngAt w' e { x with number:=x.number + 2,k:=0 } ∧ Frame [e,x.d,x.l,x.cb] w1 w'):=Lib.hid (fun w1 e x h h0 h1 => slots_any w1 e x h (by omega) h1)
 clear HD
 go_enter Tryz.func19,Tryz.ntmps19
 go_wp2_with (first | (go_at_call 46;with_reducible refine B.out.mono ?_;rintro e1 w1 ⟨eb,x,rfl,h1⟩;have H1:=Lib.hid h1;clear h1) | (go_at_call 47;with_reducible refine (SL.out w1 eb x H1.out.1 H1.out.2.2.2.2.2.2.1 (by rw [H1.out.2.2.2.2.2.1];exact hk)).mono ?_;rintro e1 w2 ⟨rfl,h2,hf2⟩;have H2:=Lib.hid h2;have F2:=Lib.hid hf2;clear h2 hf2))
 refine bodyPost_ret (v:=.tuple #[.pointer (some ⟨eb,0,none⟩),.int .i64 0]) (by simp [results,Tryz.results19,go_sem]) rfl ?_
 obtain ⟨h1,hb,h3,h4,h5,h6,h7,h8,h9,h10,h11,h12,h13⟩:=H1.out
 refine ⟨eb,_,rfl,H2.out,?_,h3,h4,h5,by simp [h7],rfl,h8,h9,h10,h11,h12,h13⟩
 refine (Frame.of_below hb _).trans F2.out (fun y hy => ?_)
 simp only [List.mem_cons,List.not_mem_nil,or_false] at hy ⊢
 rcases hy with rfl | rfl | rfl | rfl
 ·rcases h12 y (by simp [EngX.mut]) with h | h | h | h
  ·exact .inl (.inl h)
  ·exact .inl (.inr (.inl h))
  ·exact .inl (.inr (.inr h))
  ·exact .inr h
 ·exact .inl (.inl h3)
 ·exact .inl (.inr (.inl h4))
 ·exact .inl (.inr (.inr h5))
end Go.Proofs.YtaonlcgneemimaaGreatDoor
namespace Go.Proofs.YtaonlcgneemimaaGreatDoor
open Go.RowKit
theorem Took.trans {bs bs' bs'':List Bool} {m1 m2:List Int} (h:Took bs m1 bs') (k:Took bs' m2 bs''):Took bs (m1 ++ m2) bs'':=by
 have hfalse:∀ s ∈ m2,0 ≤ s ∧ s < bs.length ∧ bs[s.toNat]? = some false ∧ s ∉ m1:=fun s hs => by
  obtain ⟨h1,h2,h3⟩:=k.mem s hs
  rw [h.len] at h2
  have hlt:s.toNat < bs.length:=by omega
  have hnot:¬ (bs[s.toNat]? = some true ∨ ((s.toNat:Nat):Int) ∈ m1):=fun hc => by
   have:=(h.set s.toNat hlt).2 hc
   rw [h3] at this
   cases this
  have he:((s.toNat:Nat):Int) = s:=by omega
  rw [he] at hnot
  refine ⟨h1,h2,?_,fun hm => hnot (.inr hm)⟩
  rcases bool_cases hlt with hb | hb
  ·exact absurd (.inl hb) hnot
  ·exact hb
 refine ⟨k.len.trans h.len,fun s hs => ?_,?_,fun i hi => ?_,?_⟩
 ·rcases List.mem_append.1 hs with h1 | h1
  ·exact h.mem s h1
  ·exact ⟨(hfalse s h1).1,(hfalse s h1).2.1,(hfalse s h1).2.2.1⟩
 ·rw [List.nodup_append]
  exact ⟨h.nodup,k.nodup,fun x hx y hy hxy => (hfalse y hy).2.2.2 (hxy ▸ hx)⟩
 ·rw [k.set i (by rw [h.len];exact hi),h.set i hi,List.mem_append,or_assoc]
 ·have:=h.fr
  have:=k.fr
  simp only [List.length_append]
  omega
theorem needN_add (m n k1 k2:Nat) (h:n ≤ 8 * m):needN m n (k1 + k2) = needN m n k1 + needN (m + needN m n k1) (n + k1) k2:=by
 unfold needN
 omega
theorem RowsB.frame {M:List Nat} {w w':World} {lv:Value} {ls:List (List Int)} (h:RowsB w lv ls) (hf:Frame M w w') (h33:∀ g ∈ M,lv.ownBlock ≠ some g) (h5:∀ g ∈ M,∀ arr,w.heap[g]? ≠ some (.cells arr 5 (0,0))):RowsB w' lv ls:=by
 obtain ⟨vs,h1,h2⟩:=h
 refine ⟨vs,h1.same (fun g off cap hg => ?_),fun i v l hv hl => (h2 i v l hv hl).frame hf h5⟩
 subst hg
 rcases h1.2.2 with h0 | ⟨g1,off1,cap1,arr,e1,-,-,-,e5,-⟩
 ·exact absurd h0.1 (by simp)
 ·simp only [Value.slice.injEq,Option.some.injEq,Addr.mk.injEq,and_true,true_and] at e1
  obtain ⟨⟨rfl,-⟩,-⟩:=e1
  exact hf.block g (heap_lt e5) (fun hg => h33 g hg (by simp [Value.ownBlock]))
theorem RowsB.lt {w:World} {lv:Value} {ls:List (List Int)} (h:RowsB w lv ls):∀ g,lv.ownBlock = some g → ∃ arr,w.heap[g]? = some (.cells arr 33 (0,0)):=by
 obtain ⟨vs,h1,-⟩:=h
 intro g hg
 rcases h1.2.2 with h0 | ⟨g1,off1,cap1,arr,e1,-,-,-,e5,-⟩
 ·rw [h0.1] at hg
  simp [Value.ownBlock] at hg
 ·rw [e1] at hg
  simp only [Value.ownBlock,Option.some.injEq] at hg
  subst hg
  exact ⟨arr,e5⟩
structure PutI (w wr:World) (a d l cb b g k n:Nat) (sv:Value) (ss:List Int) (bs:List Bool) (T:Nat) (sv':Value) (more:List Int) (bs':List Bool) (last':Int):Prop where
 log:LogAt wr a d sv' (ss ++ more) (n + T) last'
 disk:DiskAt wr d l cb 776 (k + T)
 space:SpaceAt wr 0 b g bs'
 took:Took bs more bs'
 need:more.length = needN ss.length n T
 fr:Frame (a :: g :: d :: cb :: sv.ownBlock.toList) w wr
 own:sv'.ownBlock = sv.ownBlock ∨ ∀ j ∈ sv'.ownBlock.toList,w.heap.size ≤ j
theorem PutI.start {w:World} {a d l cb b g k n:Nat} {sv:Value} {ss:List Int} {bs:List Bool} {last:Int} (HL:LogAt w a d sv ss n last) (HD:DiskAt w d l cb 776 k) (HS:SpaceAt w 0 b g bs):PutI w w a d l cb b g k n sv ss bs 0 sv [] bs last :=
 ⟨by simpa using HL,HD,HS,Took.nil bs,by have:=HL.len;simp [needN];omega,Frame.refl _ _,.inl rfl⟩
theorem PutI.step {w wr w2:World} {a d l cb b g k n:Nat} {sv:Value} {ss:List Int} {bs:List Bool} {T:Nat} {sv':Value} {more:List Int} {bs':List Bool} {last':Int} {p:List Int} {e:Ending} (hn:n ≤ 8 * ss.length)
  (h:PutI w wr a d l cb b g k n sv ss bs T sv' more bs' last') (k2:AppPost wr a d l cb b g (k + T) (n + T) sv' (ss ++ more) bs' p e w2):e = .returned (.int .i64 0) ∧ ∃ sv2 more2 bs2 last2,PutI w w2 a d l cb b g k n sv ss bs (T + manyN p.length) sv2 more2 bs2 last2:=by
 obtain ⟨rfl,sv2,more2,bs2,last2,h1,h2,h3,h4,h5,h6,h7⟩:=k2
 refine ⟨rfl,sv2,more ++ more2,bs2,last2,?_,?_,h3,h.took.trans h4,?_,?_,?_⟩
 ·rw [← List.append_assoc,← Nat.add_assoc]
  exact h1
 ·rw [← Nat.add_assoc]
  exact h2
 ·rw [needN_add _ _ _ _ hn,List.length_append,h5,h.need,List.length_append,h.need]
 ·refine h.fr.trans h6 (fun x hx => ?_)
  simp only [List.mem_cons,Option.mem_toList] at hx ⊢
  rcases hx with rfl | rfl | rfl | rfl | hx
  ·exact .inl (.inl rfl)
  ·exact .inl (.inr (.inl rfl))
  ·exact .inl (.inr (.inr (.inl rfl)))
  ·exact .inl (.inr (.inr (.inr (.inl rfl))))
  ·rcases h.own with ho | ho
   ·exact .inl (.inr (.inr (.inr (.inr (ho ▸ hx)))))
   ·exact .inr (ho x (by simpa using hx))
 ·rcases h7 with h7 | h7
  ·rcases h.own with ho | ho
   ·exact .inl (h7.trans ho)
   ·exact .inr (fun j hj => ho j (h7 ▸ hj))
  ·exact .inr (fun j hj => Nat.le_trans h.fr.size (h7 j hj))
theorem PutI.ty {w wr:World} {a d l cb b g k n:Nat} {sv:Value} {ss:List Int} {bs:List Bool} {last:Int} {T:Nat} {sv':Value} {more:List Int} {bs':List Bool} {last':Int} (_h:PutI w wr a d l cb b g k n sv ss bs T sv' more bs' last') (HL:LogAt w a d sv ss n last) (HD:DiskAt w d l cb 776 k) (HS:SpaceAt w 0 b g bs) :
  ∀ x ∈ a :: g :: d :: cb :: sv.ownBlock.toList,∀ arr t,w.heap[x]? = some (.cells arr t (0,0)) → t = 227 ∨ t = 4 ∨ t = 64 ∨ t = 3:=by
 obtain ⟨ops,hd⟩:=HD.cell
 obtain ⟨mn,mf,hm,-⟩:=HD.map
 obtain ⟨ga,hg⟩:=HS.row
 intro x hx arr t hc
 simp only [List.mem_cons,Option.mem_toList] at hx
 rcases hx with rfl | rfl | rfl | rfl | hx
 ·rw [HL.cell] at hc;injection hc with hc;injection hc with _ h2;simp [← h2]
 ·rw [hg] at hc;injection hc with hc;injection hc with _ h2;simp [← h2]
 ·rw [hd] at hc;injection hc with hc;injection hc with _ h2;simp [← h2]
 ·exact absurd hc hm.cells
 ·obtain ⟨ar,ha⟩:=own_heap HL.segs hx
  rw [ha] at hc;injection hc with hc;injection hc with _ h2;simp [← h2]
end Go.Proofs.YtaonlcgneemimaaGreatDoor
namespace Go.Proofs.YtaonlcgneemimaaGreatDoor
open Go.RowKit
set_option maxRecDepth 100000 in
set_option maxHeartbeats 1000000 in
theorem fine_any (w:World) (lv:Value) (ls:List (List Int)) (hr:RowsB w lv ls) (hl:∀ l ∈ ls,1 ≤ l.length ∧ l.length ≤ 16384) :
  Calls Tryz.prog 70 #[lv] w fun e w' => e = .returned (.bool true) ∧ w' = w:=by
 obtain ⟨la,cap,rfl,hcap,hat⟩:=hr.at
 have HA:=Lib.hid hat
 have HL:=Lib.hid hl
 obtain ⟨N,hN⟩:∃ N,Hid (N = ls.length):=⟨ls.length,Lib.hid rfl⟩
 have hll:ls.length ≤ maxLen:=by
  obtain ⟨vs,h1,-⟩:=hr
  rcases h1.2.2 with ⟨_,h0⟩ | ⟨_,_,_,_,_,_,h3,h4,_⟩ <;> omega
 have hml:maxLen = 9223372036854775807:=by decide
 rw [← hN.out] at hcap hll ⊢
 clear hat hr hl
 go_enter Tryz.func70,Tryz.ntmps70
 go_wp2
 go_loopw [4,7] (fun _ ti wr => ∃ k:Nat,k ≤ N ∧ ti = .int .i64 k ∧ wr = w) (fun _ i _ => N - (intOf i).toNat)
 case atStart => exact ⟨0,by omega,rfl,rfl⟩
 case round =>
  obtain ⟨k,hk,rfl,hwr⟩:=hrel
  have hwr:=hwr.symm
  subst hwr
  by_cases hlt:k < N
  ·obtain ⟨l,hl⟩:∃ l,ls[k]? = some l:=⟨_,List.getElem?_eq_getElem (by have:=hN.out;omega)⟩
   obtain ⟨g,off,b,c,rfl,hg,hc,-⟩:=HA.out k l hl
   have hlb:=Lib.hid (HL.out l (List.mem_of_getElem? hl))
   have h16:¬ ((l.length:Int) + 16 = 0):=by omega
   clear hl
   go_wp2_with (go_at_call 120;refine (frameSize_any l.length hlb.out.1 hlb.out.2 _).mono ?_;rintro e w1 ⟨rfl,hw⟩;have hw:=hw.symm;subst hw)
   go_roundw
   case rel => exact ⟨k + 1,by omega,by go_num,trivial⟩
   case measure => simp [intOf];omega
  ·have hkN:N = k:=by omega
   subst hkN
   go_wp2
   exact bodyPost_ret (v:=.bool true) (by simp [results,Tryz.results70,go_sem]) rfl ⟨rfl,rfl⟩
set_option maxRecDepth 100000 in
set_option maxHeartbeats 4000000 in
theorem put_raw (w:World) (e a d l cb b g k n number j c:Nat) (sv:Value) (ss:List Int) (last:Int) (bs:List Bool) (HE:w.heap[e]? = some (.cells #[.pointer (some ⟨d,0,none⟩),.pointer (some ⟨b,0,none⟩),.int .i64 96,.int .i64 1,.int .i64 number,.int .i64 1,.pointer (some ⟨j,0,none⟩),.pointer (some ⟨c,0,none⟩)] 151 (0,0))) (HL:LogAt w a d sv ss n last) (HD:DiskAt w d l cb 776 k) (HS:SpaceAt w 0 b g bs) (hbs:bs.length = 96)
  (lv:Value) (ls:List (List Int)) (hr:RowsB w lv ls) (hl:∀ l ∈ ls,1 ≤ l.length ∧ l.length ≤ 16384) (hk:k + sumMany ls ≤ 500000) (henough:needN ss.length n (sumMany ls) ≤ sp_frees bs) (hfew:ss.length + needN ss.length n (sumMany ls) ≤ 96) :
  Calls Tryz.prog 73 #[.pointer (some ⟨e,0,none⟩),.pointer (some ⟨a,0,none⟩),lv] w fun e' w' => e' = .returned (.int .i64 0) ∧ ∃ sv' more bs' last',LogAt w' a d sv' (ss ++ more) (n + sumMany ls) last' ∧ DiskAt w' d l cb 776 0 ∧ SpaceAt w' 0 b g bs' ∧ Took bs more bs' ∧ more.length = needN ss.length n (sumMany ls) ∧ Frame (a :: g :: d :: l :: cb :: sv.ownBlock.toList) w w' ∧ (sv'.ownBlock = sv.ownBlock ∨ ∀ j ∈ sv'.ownBlock.toList,w.heap.size ≤ j):=by
 have HEE:=Lib.hid HE
 have HLL:=Lib.hid HL
 have HDD:=Lib.hid HD
 have HSS:=Lib.hid HS
 have HR:=Lib.hid hr
 have HK:=Lib.hid hk
 have HNE:=Lib.hid henough
 have HFW:=Lib.hid hfew
 obtain ⟨la,cap,hlv,hcap,-⟩:=hr.at
 have HL2:=Lib.hid hl
 obtain ⟨N,hN⟩:∃ N,Hid (N = ls.length):=⟨ls.length,Lib.hid rfl⟩
 have hll:ls.length ≤ maxLen:=by
  obtain ⟨vs,h1,-⟩:=hr
  rcases h1.2.2 with ⟨_,h0⟩ | ⟨_,_,_,_,_,_,h3,h4,_⟩ <;> omega
 have hml:maxLen = 9223372036854775807:=by decide
 rw [← hN.out] at hcap hll hlv
 have HTY:Hid (∀ x ∈ a :: g :: d :: cb :: sv.ownBlock.toList,∀ arr t,w.heap[x]? = some (.cells arr t (0,0)) → t = 227 ∨ t = 4 ∨ t = 64 ∨ t = 3):=Lib.hid ((PutI.start HL HD HS).ty HL HD HS)
 have ROWS:Hid (∀ W,Frame (a :: g :: d :: cb :: sv.ownBlock.toList) w W → RowsB W lv ls):=Lib.hid (fun W hW => HR.out.frame hW (fun y hy hl => by
  obtain ⟨arr,ha⟩:=HR.out.lt y hl
  have:=HTY.out y hy arr 33 ha
  exact absurd this (by decide)) (fun y hy arr ha => by
  have:=HTY.out y hy arr 5 ha
  exact absurd this (by decide)))
 have EC:Hid (∀ W,Frame (a :: g :: d :: cb :: sv.ownBlock.toList) w W → W.heap[e]? = some (.cells #[.pointer (some ⟨d,0,none⟩),.pointer (some ⟨b,0,none⟩),.int .i64 96,.int .i64 1,.int .i64 number,.int .i64 1,.pointer (some ⟨j,0,none⟩),.pointer (some ⟨c,0,none⟩)] 151 (0,0))):=Lib.hid (fun W hW => hW.heap HEE.out (fun hm => by
  have:=HTY.out e hm _ 151 HEE.out
  exact absurd this (by decide)))
 obtain ⟨Q,hQ⟩:∃ Q:Ending → World → Prop,Q = fun e' w' => e' = .returned (.int .i64 0) ∧ ∃ sv' more bs' last',LogAt w' a d sv' (ss ++ more) (n + sumMany ls) last' ∧ DiskAt w' d l cb 776 0 ∧ SpaceAt w' 0 b g bs' ∧ Took bs more bs' ∧ more.length = needN ss.length n (sumMany ls) ∧ Frame (a :: g :: d :: l :: cb :: sv.ownBlock.toList) w w' ∧ (sv'.ownBlock = sv.ownBlock ∨ ∀ j ∈ sv'.ownBlock.toList,w.heap.size ≤ j):=⟨_,rfl⟩
 rw [← hQ,hlv]
 clear HE HL HD HS hr hl hk henough hfew
 go_enter Tryz.func73,Tryz.ntmps73
 go_wp2
 go_loopw [8,9,12] (fun _ _ ti wr => ∃ i:Nat,i ≤ N ∧ ti = .int .i64 i ∧ Hid (∃ sv' more bs' last',PutI w wr a d l cb b g k n sv ss bs (sumMany (ls.take i)) sv' more bs' last')) (fun _ _ i _ => N - (intOf i).toNat)
 case atStart => exact ⟨0,by omega,rfl,Lib.hid ⟨sv,[],bs,last,by simpa [sumMany] using PutI.start HLL.out HDD.out HSS.out⟩⟩
 case round =>
  obtain ⟨i,hi,rfl,hI⟩:=hrel
  obtain ⟨sv',more,bs',last',hI⟩:=hI.out
  have HI:=Lib.hid hI
  clear hI
  have hE:=EC.out _ HI.out.fr
  have y0:=cellAt hE 0
  have y1:=cellAt hE 1
  have y5:=cellAt hE 5
  have KE:Hid (∀ W:World,W.heap[e]? = wr.heap[e]? → W.cell? ⟨e,1,none⟩ = some (.pointer (some ⟨b,0,none⟩)) ∧ W.cell? ⟨e,5,none⟩ = some (.int .i64 1)):=Lib.hid (fun W hW => ⟨cellAt (hW.trans hE) 1,cellAt (hW.trans hE) 5⟩)
  have HE1:=Lib.hid hE
  by_cases hlt:i < N
  ·obtain ⟨p,hp⟩:∃ p,ls[i]? = some p:=⟨_,List.getElem?_eq_getElem (by have:=hN.out;omega)⟩
   obtain ⟨ra,rcap,hre,-,hat⟩:=(ROWS.out _ HI.out.fr).at
   rw [← hN.out] at hre
   obtain ⟨hx1,hx2⟩:la = ra ∧ cap = rcap:=by
    have:=hlv.symm.trans hre
    simp at this
    exact this
   subst hx1
   subst hx2
   obtain ⟨rg,roff,rb,rc,rfl,hrg,hrc,hrs⟩:=hat i p hp
   have HRS:=Lib.hid hrs
   have HST:=Lib.hid (sumMany_take ls i p hp)
   have HLB:=Lib.hid (HL2.out p (List.mem_of_getElem? hp))
   have HLE:=Lib.hid (sumMany_le ls (i + 1))
   have APP:Hid (∀ W,Below wr.heap.size wr W → Calls Tryz.prog 123 #[.pointer (some ⟨a,0,none⟩),.pointer (some ⟨b,0,none⟩),.int .i64 1,.slice rb p.length rc] W fun e' w' => e' = .returned (.int .i64 0) ∧ ∃ sv2 more2 bs2 last2,PutI w w' a d l cb b g k n sv ss bs (sumMany (ls.take (i + 1))) sv2 more2 bs2 last2):=Lib.hid (fun W hW => by
    have hI:=HI.out
    have h3:=hI.took.fr
    have h4:=hI.need
    have h5:=needN_add ss.length n (sumMany (ls.take i)) (manyN p.length) HLL.out.len
    have h6:needN ss.length n (sumMany (ls.take (i + 1))) ≤ needN ss.length n (sumMany ls):=by have:=HLE.out;unfold needN;omega
    rw [HST.out] at h6
    have h7:=HFW.out
    have h8:=HNE.out
    have hW':PutI w W a d l cb b g k n sv ss bs (sumMany (ls.take i)) sv' more bs' last':=⟨hI.log.below hW,hI.disk.below hW,hI.space.below hW,hI.took,hI.need,hI.fr.then_below hW,hI.own⟩
    refine (logAppend_any W a d l cb b g (k + sumMany (ls.take i)) (n + sumMany (ls.take i)) sv' (ss ++ more) last' bs' hW'.log hW'.disk hW'.space (by rw [hI.took.len];exact hbs) 1 (by decide) _ p (HRS.out.below hW) HLB.out.1 HLB.out.2 (by have:=sumMany_le ls i;have:=HK.out;omega) (by rw [List.length_append,h4];omega) (by rw [List.length_append,h4];omega)).mono ?_
    rintro e' w' hA
    rw [HST.out]
    exact PutI.step HLL.out.len hW' hA)
   have R0:Hid (Below wr.heap.size wr wr.drew):=Lib.hid (Below.refl _ _).drew
   clear hp hat hrs hlv hE
   go_wp2_with fail
   go_region_held3 (fun W => W.cell? ⟨e,1,none⟩ = some (.pointer (some ⟨b,0,none⟩)) ∧ W.cell? ⟨e,5,none⟩ = some (.int .i64 1)) (first | exact ⟨y1,y5⟩ | exact KE.out _ (HEW.out.trans HE1.out.symm)) ((go_at_call 123;with_reducible refine (APP.out _ R0.out).mono ?_;rintro e1 w1 ⟨rfl,hx⟩;have HX:=Lib.hid hx;clear hx;have HEW:=Lib.hid (EC.out w1 HX.out.choose_spec.choose_spec.choose_spec.choose_spec.fr)))
   go_wp2_with fail
   go_roundw
   case rel => exact ⟨i + 1,by omega,by go_num,HX⟩
   case measure => simp [intOf];omega
  ·have hiN:N = i:=by omega
   subst hiN
   have hall:Hid (ls.take N = ls):=Lib.hid (List.take_of_length_le (by have:=hN.out;omega))
   rw [hall.out] at HI
   have FL:Hid (Calls Tryz.prog 124 #[.pointer (some ⟨d,0,none⟩)] wr fun e w' => e = .returned (.int .i64 0) ∧ DiskAt w' d l cb 776 0 ∧ Frame [d,l,cb] wr w'):=Lib.hid (flush_any wr d l cb 776 _ HI.out.disk)
   clear hlv hE
   go_wp2_with (go_at_call 124;with_reducible refine FL.out.mono ?_;rintro e1 w2 ⟨rfl,hd2,hf2⟩;have HD2:=Lib.hid hd2;have HF2:=Lib.hid hf2;clear hd2 hf2)
   rw [hQ]
   have hI:=HI.out
   have hap:=app_apart hI.log hI.disk hI.space
   obtain ⟨ba,hba⟩:=hI.space.blk
   obtain ⟨ops,hd0⟩:=hI.disk.cell
   obtain ⟨lr,hl0,-⟩:=hI.disk.row
   obtain ⟨mn,mf,hm0,-⟩:=hI.disk.map
   have hb:b ∉ [d,l,cb]:=by
    have h2:b ≠ d:=cells_ty hba hd0 (by decide)
    have h3:b ≠ l:=cells_ty hba hl0 (by decide)
    have h4:b ≠ cb:=fun h => by rw [h] at hba;exact hm0.cells hba
    simp [h2,h3,h4]
   have hn:∀ x ∈ a :: g :: sv'.ownBlock.toList,x ∉ [d,l,cb]:=fun x hx => by
    have:=hap x hx
    simp [this]
   refine ⟨rfl,sv',more,bs',last',hI.log.frame HF2.out (hn a (by simp)) (fun y hy => hn y (by simp [hy])),HD2.out,hI.space.frame HF2.out hb (hn g (by simp)),hI.took,hI.need,?_,hI.own⟩
   exact (hI.fr.mono (fun x hx => .inl (by simp only [List.mem_cons] at hx ⊢;rcases hx with h | h | h | h | h <;> simp [h]))).trans HF2.out (fun x hx => .inl (by simp only [List.mem_cons,List.not_mem_nil,or_false] at hx ⊢;rcases hx with h | h | h <;> simp [h]))
end Go.Proofs.YtaonlcgneemimaaGreatDoor
namespace Go.Proofs.YtaonlcgneemimaaGreatDoor
open Go.RowKit
structure EngMove (w:World) (e:Nat) (x:EngX) (W:World) (x':EngX):Prop where
 eng:EngAt W e x'
 fr:Frame (x.mut e) w W
 own:∀ y ∈ x'.mut e,y ∈ x.mut e ∨ w.heap.size ≤ y
theorem EngMove.refl {w W:World} {e:Nat} {x:EngX} (h:EngAt w e x) (hb:Below w.heap.size w W):EngMove w e x W x:=⟨h.below hb,Frame.of_below hb _,fun _ h => .inl h⟩
theorem EngMove.trans {w W1 W2:World} {e:Nat} {x x1 x2:EngX} (h:EngMove w e x W1 x1) (k:EngMove W1 e x1 W2 x2):EngMove w e x W2 x2 :=
 ⟨k.eng,h.fr.trans k.fr h.own,fun y hy => by
  rcases k.own y hy with h1 | h1
  ·exact h.own y h1
  ·exact .inr (Nat.le_trans h.fr.size h1)⟩
theorem EngMove.slots {w W:World} {e:Nat} {x:EngX} {n:Nat} (h:EngAt W e { x with number:=n,k:=0 }) (hf:Frame [e,x.d,x.l,x.cb] w W):EngMove w e x W { x with number:=n,k:=0 } :=
 ⟨h,hf.mono (fun y hy => .inl (by simp only [EngX.mut,List.mem_cons,List.not_mem_nil,or_false] at hy ⊢;rcases hy with h | h | h | h <;> simp [h])),fun _ h => .inl h⟩
structure EngApart (w:World) (e:Nat) (x:EngX):Prop where
 e:e ∉ x.c :: x.g :: x.d :: x.l :: x.cb :: x.svC.ownBlock.toList ∧ e ∉ x.j :: x.g :: x.d :: x.l :: x.cb :: x.svJ.ownBlock.toList
 j:x.j ∉ x.c :: x.g :: x.d :: x.l :: x.cb :: x.svC.ownBlock.toList
 c:x.c ∉ x.j :: x.g :: x.d :: x.l :: x.cb :: x.svJ.ownBlock.toList
 sj:∀ y,x.svJ.ownBlock = some y → y ∉ x.c :: x.g :: x.d :: x.l :: x.cb :: x.svC.ownBlock.toList
 sc:∀ y,x.svC.ownBlock = some y → y ∉ x.j :: x.g :: x.d :: x.l :: x.cb :: x.svJ.ownBlock.toList
theorem EngAt.parts {w:World} {e:Nat} {x:EngX} (h:EngAt w e x):EngApart w e x:=by
 have hJ:=app_apart h.logJ h.disk h.space
 have hC:=app_apart h.logC h.disk h.space
 obtain ⟨ga,hga⟩:=h.space.row
 obtain ⟨ops,hd0⟩:=h.disk.cell
 obtain ⟨lr,hl0,-⟩:=h.disk.row
 obtain ⟨mn,mf,hm0,-⟩:=h.disk.map
 have e1:e ≠ x.c:=cells_ty h.cell h.logC.cell (by decide)
 have e2:e ≠ x.j:=cells_ty h.cell h.logJ.cell (by decide)
 have e3:e ≠ x.g:=cells_ty h.cell hga (by decide)
 have e4:e ≠ x.d:=cells_ty h.cell hd0 (by decide)
 have e5:e ≠ x.l:=cells_ty h.cell hl0 (by decide)
 have e6:e ≠ x.cb:=fun hh => hm0.cells (by have:=h.cell;rw [hh] at this;exact this)
 have cJ:∀ y,x.svJ.ownBlock = some y → ∃ arr,w.heap[y]? = some (.cells arr 3 (0,0)):=fun y hy => own_heap h.logJ.segs hy
 have cC:∀ y,x.svC.ownBlock = some y → ∃ arr,w.heap[y]? = some (.cells arr 3 (0,0)):=fun y hy => own_heap h.logC.segs hy
 have jg:x.j ≠ x.g:=cells_ty h.logJ.cell hga (by decide)
 have cg:x.c ≠ x.g:=cells_ty h.logC.cell hga (by decide)
 have aj:=hJ x.j (by simp)
 have ac:=hC x.c (by simp)
 refine ⟨⟨?_,?_⟩,?_,?_,fun y hy => ?_,fun y hy => ?_⟩
 ·simp only [List.mem_cons,Option.mem_toList,not_or]
  exact ⟨e1,e3,e4,e5,e6,fun hm => by obtain ⟨arr,ha⟩:=cC e hm;exact cells_ty h.cell ha (by decide) rfl⟩
 ·simp only [List.mem_cons,Option.mem_toList,not_or]
  exact ⟨e2,e3,e4,e5,e6,fun hm => by obtain ⟨arr,ha⟩:=cJ e hm;exact cells_ty h.cell ha (by decide) rfl⟩
 ·simp only [List.mem_cons,Option.mem_toList,not_or]
  exact ⟨h.ne,jg,aj.1,aj.2.1,aj.2.2,fun hm => by obtain ⟨arr,ha⟩:=cC _ hm;exact cells_ty h.logJ.cell ha (by decide) rfl⟩
 ·simp only [List.mem_cons,Option.mem_toList,not_or]
  exact ⟨h.ne.symm,cg,ac.1,ac.2.1,ac.2.2,fun hm => by obtain ⟨arr,ha⟩:=cJ _ hm;exact cells_ty h.logC.cell ha (by decide) rfl⟩
 ·obtain ⟨arr,ha⟩:=cJ y hy
  have:=hJ y (by simp [hy])
  simp only [List.mem_cons,Option.mem_toList,not_or]
  exact ⟨cells_ty ha h.logC.cell (by decide),cells_ty ha hga (by decide),this.1,this.2.1,this.2.2,h.apart y hy⟩
 ·obtain ⟨arr,ha⟩:=cC y hy
  have:=hC y (by simp [hy])
  simp only [List.mem_cons,Option.mem_toList,not_or]
  exact ⟨cells_ty ha h.logJ.cell (by decide),cells_ty ha hga (by decide),this.1,this.2.1,this.2.2,fun hm => h.apart y hm hy⟩
theorem eng_nodup {bs bs':List Bool} {A B more:List Int} (hn:(A ++ B).Nodup) (ht:∀ s ∈ A ++ B,bs[s.toNat]? = some true) (hk:Took bs more bs'):(A ++ (B ++ more)).Nodup:=by
 rw [← List.append_assoc,List.nodup_append]
 refine ⟨hn,hk.nodup,fun s hs y hy he => ?_⟩
 subst he
 have h1:=ht s hs
 rw [(hk.mem s hy).2.2] at h1
 cases h1
theorem eng_taken {bs bs':List Bool} {A more:List Int} (hb:bs.length = 96) (hs:∀ s ∈ A,0 ≤ s ∧ s < 96) (ht:∀ s ∈ A,bs[s.toNat]? = some true) (hk:Took bs more bs'):∀ s ∈ A ++ more,bs'[s.toNat]? = some true:=by
 intro s hm
 rcases List.mem_append.1 hm with h | h
 ·have:=hs s h
  exact (hk.set s.toNat (by omega)).2 (.inl (ht s h))
 ·have:=hk.mem s h
  exact (hk.set s.toNat (by omega)).2 (.inr (by rw [show ((s.toNat:Nat):Int) = s by omega];exact h))
theorem EngAt.putC {w W:World} {e T:Nat} {x:EngX} {sv':Value} {more:List Int} {bs':List Bool} {last':Int} (h:EngAt w e x) (h1:LogAt W x.c x.d sv' (x.ssC ++ more) (x.nC + T) last') (h2:DiskAt W x.d x.l x.cb 776 0) (h3:SpaceAt W 0 x.b x.g bs') (h4:Took x.bs more bs')
  (h6:Frame (x.c :: x.g :: x.d :: x.l :: x.cb :: x.svC.ownBlock.toList) w W) (h7:sv'.ownBlock = x.svC.ownBlock ∨ ∀ j ∈ sv'.ownBlock.toList,w.heap.size ≤ j) :
  EngMove w e x W { x with k:=0,bs:=bs',svC:=sv',ssC:=x.ssC ++ more,nC:=x.nC + T,lastC:=last' }:=by
 have hp:=h.parts
 have hA:∀ s ∈ x.ssJ ++ x.ssC,0 ≤ s ∧ s < 96:=fun s hs => by
  rcases List.mem_append.1 hs with h1 | h1
  ·exact h.logJ.seg s h1
  ·exact h.logC.seg s h1
 refine ⟨⟨h6.heap h.cell hp.e.1,h2,h3,h4.len.trans h.blen,h.logJ.frame h6 hp.j hp.sj,h1,eng_nodup h.nodup h.taken h4,?_,?_,h.ne,?_⟩,?_,?_⟩
 ·show ∀ s ∈ x.ssJ ++ (x.ssC ++ more),_
  rw [← List.append_assoc]
  exact eng_taken h.blen hA h.taken h4
 ·have:=h4.fr
  have:=h.frees
  simp only [List.length_append]
  omega
 ·intro y hy hc
  rcases h7 with h7 | h7
  ·exact h.apart y hy (h7 ▸ hc)
  ·have h8:=h7 y (by simpa using hc)
   obtain ⟨arr,ha⟩:=own_heap h.logJ.segs hy
   have:=heap_lt ha
   omega
 ·refine h6.mono (fun y hy => .inl ?_)
  simp only [EngX.mut,List.mem_cons,List.mem_append] at hy ⊢
  rcases hy with h | h | h | h | h | h <;> simp [h]
 ·intro y hy
  simp only [EngX.mut,List.mem_cons,List.mem_append] at hy ⊢
  rcases hy with h | h | h | h | h | h | h | h | h
  ·simp [h]
  ·simp [h]
  ·simp [h]
  ·simp [h]
  ·simp [h]
  ·simp [h]
  ·simp [h]
  ·simp [h]
  ·rcases h7 with h7 | h7
   ·rw [h7] at h
    simp [h]
   ·exact .inr (h7 y h)
theorem EngAt.putJ {w W:World} {e T:Nat} {x:EngX} {sv':Value} {more:List Int} {bs':List Bool} {last':Int} (h:EngAt w e x) (h1:LogAt W x.j x.d sv' (x.ssJ ++ more) (x.nJ + T) last') (h2:DiskAt W x.d x.l x.cb 776 0) (h3:SpaceAt W 0 x.b x.g bs') (h4:Took x.bs more bs')
  (h6:Frame (x.j :: x.g :: x.d :: x.l :: x.cb :: x.svJ.ownBlock.toList) w W) (h7:sv'.ownBlock = x.svJ.ownBlock ∨ ∀ j ∈ sv'.ownBlock.toList,w.heap.size ≤ j) :
  EngMove w e x W { x with k:=0,bs:=bs',svJ:=sv',ssJ:=x.ssJ ++ more,nJ:=x.nJ + T,lastJ:=last' }:=by
 have hp:=h.parts
 have hA:∀ s ∈ x.ssJ ++ x.ssC,0 ≤ s ∧ s < 96:=fun s hs => by
  rcases List.mem_append.1 hs with h1 | h1
  ·exact h.logJ.seg s h1
  ·exact h.logC.seg s h1
 have hperm:((x.ssJ ++ more) ++ x.ssC).Perm (x.ssJ ++ x.ssC ++ more):=by
  rw [List.append_assoc,List.append_assoc]
  exact List.Perm.append_left _ List.perm_append_comm
 refine ⟨⟨h6.heap h.cell hp.e.2,h2,h3,h4.len.trans h.blen,h1,h.logC.frame h6 hp.c hp.sc,?_,?_,?_,h.ne,?_⟩,?_,?_⟩
 ·show ((x.ssJ ++ more) ++ x.ssC).Nodup
  rw [hperm.nodup_iff,List.append_assoc]
  exact eng_nodup h.nodup h.taken h4
 ·intro s hs
  exact eng_taken h.blen hA h.taken h4 s (hperm.mem_iff.1 hs)
 ·have:=h4.fr
  have:=h.frees
  simp only [List.length_append]
  omega
 ·intro y hy hc
  rcases h7 with h7 | h7
  ·exact h.apart y (h7 ▸ hy) hc
  ·have h8:=h7 y (by simpa using hy)
   obtain ⟨arr,ha⟩:=own_heap h.logC.segs hc
   have:=heap_lt ha
   omega
 ·refine h6.mono (fun y hy => .inl ?_)
  simp only [EngX.mut,List.mem_cons,List.mem_append] at hy ⊢
  rcases hy with h | h | h | h | h | h <;> simp [h]
 ·intro y hy
  simp only [EngX.mut,List.mem_cons,List.mem_append] at hy ⊢
  rcases hy with h | h | h | h | h | h | h | h | h
  ·simp [h]
  ·simp [h]
  ·simp [h]
  ·simp [h]
  ·simp [h]
  ·simp [h]
  ·simp [h]
  ·rcases h7 with h7 | h7
   ·rw [h7] at h
    simp [h]
   ·exact .inr (h7 y h)
  ·simp [h]
end Go.Proofs.YtaonlcgneemimaaGreatDoor
