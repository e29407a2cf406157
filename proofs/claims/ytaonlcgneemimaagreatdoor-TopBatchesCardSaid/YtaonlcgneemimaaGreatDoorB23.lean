/- TopBatches: the contracts of Z0; no condition. -/
import Derived.Test.YtaonlcgneemimaaGreatDoorB22
import Derived.Test.YtaonlcgneemimaaGreatDoorB15
namespace Go.Proofs.YtaonlcgneemimaaGreatDoor
open Go.RowKit
def VsOk (w:World) (vs vs':List Value):Prop:=∀ v ∈ vs',v ∈ vs ∨ ∀ g,v.ownBlock = some g → w.heap.size ≤ g
theorem VsOk.refl (w:World) (vs:List Value):VsOk w vs vs:=fun _ h => .inl h
theorem VsOk.before {w w2:World} {vs vs':List Value} (h:VsOk w2 vs vs') (hs:w.heap.size ≤ w2.heap.size):VsOk w vs vs':=fun v hv => (h v hv).imp id (fun k g hg => Nat.le_trans hs (k g hg))
theorem set_close3 {w w2 w3 w4 w6:World} {B c:Nat} {P:List (List Int)} {bl bb:Nat} {vs:List Value} {fb:Int → Option Value} {m:Nat} {sz:Int} {v v':Value} {b:List Int}
  (H:ChunksAt w B c P bl bb vs fb m sz) (hv:Sl w 5 1 v b.length (u8s b)) (hb:ByteL b) (hnew:b ∉ P) (h0:0 < b.length) (h1:b.length ≤ 64) (hsm:P.length + 1 ≤ 100000)
  (hq2:Below w.heap.size w w2) (ho:w2.ownsRow w.heap.size 5 1 v' b.length (u8s b)) (hn:v' = .slice none 0 0 ↔ b.length = 0) (hm3:MapX KI w3 bl (P.length + 1) (ixV (vs ++ [v']))) (ht3:w2.mapTurned w3 bl)
  (hc3:w3.heap[c]? = some (.cells #[.map (some bl),.map (some bb),.int .i64 ((P.length:Int) + 1),.int .i64 sz] 118 (0,0))) (hq4:Below w3.heap.size w3 w4) (hby6:∃ fb' m',ByAt w6 B bb (P ++ [b]) fb' m') (hB6:Below B w4.drew w6)
  (hkept:∀ (k:Nat) (o:Obj),w4.drew.heap[k]? = some o → k ≠ bb → (∀ arr,o ≠ .cells arr 3 (0,0)) → w6.heap[k]? = some o)
  (hc6:w6.heap[c]? = some (.cells #[.map (some bl),.map (some bb),.int .i64 ((P.length:Int) + 1),.int .i64 sz] 118 (0,0))) (sz':Int) :
  ∃ vs' fb' m' sz'',ChunksAt ((w6.setCell ⟨c,2,none⟩ (.int .i64 ((P.length:Int) + 1 + 1))).setCell ⟨c,3,none⟩ (.int .i64 sz')) B c (P ++ [b]) bl bb vs' fb' m' sz'' ∧ Below B w ((w6.setCell ⟨c,2,none⟩ (.int .i64 ((P.length:Int) + 1 + 1))).setCell ⟨c,3,none⟩ (.int .i64 sz')) ∧ VsOk w vs vs' ∧ KeptC w ((w6.setCell ⟨c,2,none⟩ (.int .i64 ((P.length:Int) + 1 + 1))).setCell ⟨c,3,none⟩ (.int .i64 sz')):=by
 obtain ⟨fb',m',hby⟩:=hby6
 have hlo:=H.lo
 have hcb:c ≠ bb:=fun e => hby.mb.cells (e ▸ hc6)
 have hcl:c ≠ bl:=fun e => hm3.cells (e ▸ hc3)
 have hF:∀ (k:Nat) (o:Obj),w6.heap[k]? = some o → k ≠ c → ((w6.setCell ⟨c,2,none⟩ (.int .i64 ((P.length:Int) + 1 + 1))).setCell ⟨c,3,none⟩ (.int .i64 sz')).heap[k]? = some o:=fun k o hk hne => by
  rw [heap_set_ne _ hne,heap_set_ne _ hne];exact hk
 have k2F:∀ (k:Nat) (arr:Array Value),w2.heap[k]? = some (.cells arr 5 (0,0)) → ((w6.setCell ⟨c,2,none⟩ (.int .i64 ((P.length:Int) + 1 + 1))).setCell ⟨c,3,none⟩ (.int .i64 sz')).heap[k]? = some (.cells arr 5 (0,0)):=fun k arr hk => by
  have a3:=turned_keep ht3 hk (fun e => (keep_map H.ml hq2).cells (e ▸ hk))
  have a4:w4.drew.heap[k]? = some (.cells arr 5 (0,0)):=Below.heap hq4.drew (Nat.le_refl _) a3
  have a6:=(hkept k _ a4 (fun e => by
   have h5:MapX KU w2 bb m fb:=keep_map H.mb hq2
   exact h5.cells (e ▸ hk)) (fun arr' h => by injection h with _ h;exact absurd h (by decide)))
  exact hF k _ a6 (fun e => by rw [e,hc6] at a6;injection a6 with a6;injection a6 with _ h;exact absurd h (by decide))
 have hown:Sl w2 5 1 v' b.length (u8s b):=Sl.of_own ho (u8s_one b) (.inr h0)
 refine ⟨vs ++ [v'],fb',m',sz',⟨?_,hlo,H.ne,⟨by simp [H.pieces.1],fun i u p hu hp => ?_⟩,?_,?_,?_,?_,hby.empty,hby.apart,hby.small⟩,?_,?_,?_⟩
 ·have:=setAt (setAt hc6 2 (.int .i64 ((P.length:Int) + 1 + 1))) 3 (.int .i64 sz')
  simpa using this
 ·have hvl:=H.pieces.1
  by_cases hi:i < P.length
  ·rw [List.getElem?_append_left (by omega)] at hu
   rw [List.getElem?_append_left hi] at hp
   obtain ⟨a1,a2⟩:=H.pieces.2 i u p hu hp
   exact ⟨(a1.below hq2).kept k2F,a2⟩
  ·rw [List.getElem?_append_right (by omega)] at hu hp
   have hi0:i - vs.length = 0:=by
    have:=(List.getElem?_eq_some_iff.1 hu).1
    simp at this;omega
   rw [hi0] at hu
   rw [show i - P.length = 0 by omega] at hp
   simp at hu hp
   subst hu;subst hp
   exact ⟨hown.kept k2F,hb,h0,h1⟩
 ·rw [List.nodup_append]
  refine ⟨H.nodup,by simp,fun x hx y hy => ?_⟩
  simp at hy
  subst hy
  exact fun e => hnew (e ▸ hx)
 ·obtain ⟨es,cl,hob⟩:=hm3.obj
  have a4:w4.drew.heap[bl]? = some (.map es cl):=Below.heap hq4.drew (Nat.le_refl _) hob
  have a6:=(hkept bl _ a4 H.ne (fun arr h => by cases h))
  have:=hm3.same (w':=(w6.setCell ⟨c,2,none⟩ (.int .i64 ((P.length:Int) + 1 + 1))).setCell ⟨c,3,none⟩ (.int .i64 sz')) ((hF bl _ a6 hcl.symm).trans hob.symm)
  simpa using this
 ·obtain ⟨es,cl,hob⟩:=hby.mb.obj
  exact hby.mb.same ((hF bb _ hob hcb.symm).trans hob.symm)
 ·intro k u hu
  obtain ⟨a1,a2⟩:=hby.rows k u hu
  refine ⟨row_kept a1 (fun g o hgo hgb => hF g o hgo ?_),a2⟩
  rintro rfl
  rcases a1.2 with ⟨e1,_⟩ | ⟨g',cap,cur,e1,_,e3,_⟩
  ·rw [e1] at hgb;simp [Value.ownBlock] at hgb
  ·rw [e1] at hgb;simp [Value.ownBlock] at hgb;subst hgb
   rw [hc6] at e3;injection e3 with e3;injection e3 with _ h;exact absurd h (by decide)
 ·have hs:=H.lo
  have hBw:B ≤ w.heap.size:=by have:=heap_lt H.cell;omega
  have b3:Below B w w3:=(hq2.mono hBw).trans ⟨ht3.grown.os,ht3.grown.tape,ht3.grown.output,ht3.grown.size,fun k hk => ht3.grown.block k (by have:=hq2.size;omega) (by simp;omega)⟩
  have b4:Below B w w4:=b3.trans (hq4.mono (by have:=b3.size;omega))
  exact (((b4.drew).trans hB6).setCell (p:=⟨c,2,none⟩) hlo.1 _).setCell (p:=⟨c,3,none⟩) hlo.1 _
 ·intro u hu
  rcases List.mem_append.1 hu with hu | hu
  ·exact .inl hu
  ·simp only [List.mem_singleton] at hu
   subst hu
   exact .inr (fun g hg => (ho.lt g hg).1)
 ·intro k arr t hk h118 h3
  have a2:w2.heap[k]? = some (.cells arr t (0,0)):=Below.heap hq2 (Nat.le_refl _) hk
  have a3:=turned_keep ht3 a2 (fun e => (keep_map H.ml hq2).cells (e ▸ a2))
  have a4:w4.drew.heap[k]? = some (.cells arr t (0,0)):=Below.heap hq4.drew (Nat.le_refl _) a3
  have a6:=hkept k _ a4 (fun e => by
   have h5:MapX KU w2 bb m fb:=keep_map H.mb hq2
   exact h5.cells (e ▸ a2)) (fun arr' h => by injection h with _ h;exact h3 h)
  exact hF k _ a6 (fun e => by rw [e,hc6] at a6;injection a6 with a6;injection a6 with _ h;exact h118 h.symm)
set_option maxRecDepth 100000 in
set_option maxHeartbeats 4000000 in
theorem set_any3 (w:World) (B c:Nat) (P:List (List Int)) (bl bb:Nat) (vs:List Value) (fb:Int → Option Value) (m:Nat) (sz:Int) (H:ChunksAt w B c P bl bb vs fb m sz) (v:Value) (b:List Int) (hv:Sl w 5 1 v b.length (u8s b)) (hb:ByteL b) (h0:0 < b.length) (h1:b.length ≤ 64) (hnew:b ∉ P) (hsm:P.length + 1 ≤ 100000) :
  Calls Tryz.prog 107 #[.pointer (some ⟨c,0,none⟩),.int .i64 ((P.length:Int) + 1),v] w fun e w' => e = .returned (.int .i64 0) ∧ ∃ vs' fb' m' sz',ChunksAt w' B c (P ++ [b]) bl bb vs' fb' m' sz' ∧ Below B w w' ∧ VsOk w vs vs' ∧ KeptC w w':=by
 have HH:=Lib.hid H
 have HV:=Lib.hid hv
 have HBL:=Lib.hid hb
 have HNEW:=Lib.hid hnew
 obtain ⟨a,cap,rfl,hcap,-,-⟩:=hv.shape
 have hvl:=H.pieces.1
 have hix:ixV vs ((P.length:Int) + 1) = none:=by rw [← hvl];exact ixV_none
 have hlk:=(H.ml.look Tryz.underlying62 (zero33 w) (x:=(P.length:Int) + 1) (KI_good (by omega))).1
 rw [hix] at hlk
 simp only [Option.getD_none,Option.isSome_none] at hlk
 change (Instr.lookup 62 (.map (some bl)) (.int .i64 ((P.length:Int) + 1)) true).run Tryz.prog w = .ok (.tuple #[.slice none 0 0,.bool false]) w at hlk
 have c0:=cellAt H.cell 0
 have c1:=cellAt H.cell 1
 simp only [List.getElem?_toArray,List.getElem?_cons_zero,List.getElem?_cons_succ] at c0 c1
 have d1:decide ((P.length:Int) + 1 < 1) = false:=by simp;omega
 have d2:decide (4611686018427387904 < (P.length:Int) + 1) = false:=by simp;omega
 have HFIND:=Lib.hid (fun w' (hw:Below w.heap.size w w') => find_any w' B c P bl bb vs fb m sz (H.below hw) (.slice a b.length cap) 0 b (hv.below hw) hb (by omega))
 rw [pieceId_none hnew] at HFIND
 clear H hv hb hnew hix
 go_enter Tryz.func107,Tryz.ntmps107
 go_wp2_with (first | (go_at_call 105;refine (mayPiece_any _ _ b HV.out h0 h1).mono ?_;rintro e w1 ⟨rfl,hw⟩;have hw:=hw.symm;subst hw) | (go_at_call 106;refine (HFIND.out _ (Below.refl _ _)).mono ?_;rintro e w1 ⟨rfl,hq⟩;simp only [Option.getD_none,Option.isSome_none];have HQ1:=Lib.hid hq;have cQ0:=(hq.cell (p:=⟨c,0,none⟩) (heap_lt HH.out.cell)).trans c0;clear hq))
 go_region_held3 (fun w' => w'.cell? ⟨c,0,none⟩ = some (.map (some bl))) (first | exact cQ0 | exact cQ2 | exact cQ3) (first | (go_at_call 119;refine (bytesClone_any _ _ _ _ (HV.out.below (HQ1.out.drew)) (by omega)).mono ?_;rintro e w2 ⟨v',rfl,ho,hn,hq⟩;have HQ2:=Lib.hid (HQ1.out.drew.trans (hq.mono HQ1.out.size));have cQ2:=(HQ2.out.cell (p:=⟨c,0,none⟩) (heap_lt HH.out.cell)).trans c0;have HO:=Lib.hid (own_mono ho (base':=w.heap.size) HQ1.out.size);have HN:=Lib.hid hn;obtain ⟨w3,hrun,hm3,ht3,hc3⟩:=store_piece (Below.heap HQ2.out (Nat.le_refl _) HH.out.cell) (keep_map HH.out.ml HQ2.out) HH.out.pieces.1 HH.out.small.1 v';have HM3:=Lib.hid hm3;have HT3:=Lib.hid ht3;have HC3:=Lib.hid hc3;have cQ3:w3.cell? ⟨c,0,none⟩ = some (.map (some bl)):=cellAt hc3 0;clear ho hn hq hm3 ht3 hc3))
 have HBB:Hid (Below w.heap.size w2 w3 ∨ True):=Lib.hid (.inr trivial)
 have HS3:Hid (Sl w3 5 1 (.slice a b.length cap) b.length (u8s b)):=Lib.hid (by
  refine Sl.frame (M:=[bl]) (HV.out.below HQ2.out) ⟨HT3.out.grown.os,HT3.out.grown.tape,HT3.out.grown.output,HT3.out.grown.size,fun k hk hne => HT3.out.grown.block k hk (by simp at hne;simpa using hne)⟩ ?_
  intro g hg arr harr
  simp at hg
  subst hg
  exact (keep_map HH.out.ml HQ2.out).cells harr)
 go_wp2_with (go_at_call 148;refine (sum_any _ b _ HS3.out (by omega)).mono ?_;rintro e w4 ⟨rfl,hq⟩;have HQ4:=Lib.hid hq;clear hq)
 have HBY3:Hid (ByAt w4 B bb P fb m):=Lib.hid (by
  have hby:ByAt w2 B bb P fb m:=ByAt.kept (w:=w) ⟨HH.out.mb,HH.out.rows,HH.out.empty,HH.out.apart,HH.out.small⟩ (HQ2.out.block bb HH.out.mb.lt) (fun k arr hk => Below.heap HQ2.out (Nat.le_refl _) hk)
  have hby3:ByAt w3 B bb P fb m:=hby.kept (HT3.out.grown.block bb hby.mb.lt (fun e => HH.out.ne (by injection e with e;exact e.symm))) (fun k arr hk => (HT3.out.grown.block k (heap_lt hk) (fun e => by injection e with e;subst e;exact (keep_map HH.out.ml HQ2.out).cells hk)).trans hk)
  exact hby3.kept (HQ4.out.block bb hby3.mb.lt) (fun k arr hk => Below.heap HQ4.out (Nat.le_refl _) hk))
 have HLO:=HH.out.lo
 have hBw:B ≤ w4.heap.size:=by have:=heap_lt (Below.heap HQ4.out (Nat.le_refl _) HC3.out);omega
 have HC4:Hid (w4.heap[c]? = some (.cells #[.map (some bl),.map (some bb),.int .i64 ((P.length:Int) + 1),.int .i64 sz] 118 (0,0))):=Lib.hid (Below.heap HQ4.out (Nat.le_refl _) HC3.out)
 have HBY4:Hid (ByAt w4.drew B bb P fb m):=Lib.hid (HBY3.out.kept rfl (fun k arr hk => hk))
 obtain ⟨av,hav⟩:∃ av,Hid (av = (fb (crcSum b)).getD (.slice none 0 0)):=⟨_,rfl⟩
 obtain ⟨v5,w5,w6,hr5,hr6,hby6,hB6,hkept⟩:=by_step HBY4.out hBw HLO.2.2 b hsm 90
 rw [← hav.out] at hr5
 have hlk2:∀ W,W.heap[bb]? = w4.heap[bb]? → (Instr.lookup 116 (.map (some bb)) (.int .u32 (crcSum b)) false).run Tryz.prog W = .ok av W:=fun W hW => by
  rw [hav.out]
  exact ((HBY3.out.mb.same hW).look Tryz.underlying116 (zero90 W) (KU_good ⟨crcSum_lo b,crcSum_hi b⟩)).2
 have HLK2:=Lib.hid hlk2
 have e1:w4.cell? ⟨c,1,none⟩ = some (.map (some bb)):=cellAt HC4.out 1
 have hbbA:((w4.alloc (.cells #[.int .i64 ((P.length:Int) + 1)] 3)).drew).heap[bb]? = w4.heap[bb]?:=Below.heap_alloc w4 _ bb HBY3.out.mb.lt
 have e2:((w4.alloc (.cells #[.int .i64 ((P.length:Int) + 1)] 3)).drew).cell? ⟨c,1,none⟩ = some (.map (some bb)):=cellAt (w:=(w4.alloc (.cells #[.int .i64 ((P.length:Int) + 1)] 3)).drew) (heap_old HC4.out _) 1
 have hnc:∀ arr,Obj.cells #[.map (some bl),.map (some bb),.int .i64 ((P.length:Int) + 1),.int .i64 sz] 118 (0,0) ≠ .cells arr 3 (0,0):=fun arr h => by injection h with _ h;exact absurd h (by decide)
 have hcbb:c ≠ bb:=fun e => (HBY3.out.mb).cells (e ▸ HC4.out)
 obtain ⟨hc5,hc6⟩:=hkept c _ HC4.out hcbb hnc
 have e5:w5.cell? ⟨c,1,none⟩ = some (.map (some bb)):=cellAt hc5 1
 have e6:w6.cell? ⟨c,1,none⟩ = some (.map (some bb)):=cellAt hc6 1
 have l1:=hlk2 w4.drew rfl
 have l2:=hlk2 _ hbbA
 have hr5':(Builtin.append_ #[90,90] 90 #[av,.slice (some ⟨w4.heap.size,0,none⟩) 1 1]).run Tryz.prog ((w4.alloc (.cells #[.int .i64 ((P.length:Int) + 1)] 3)).drew) = .ok v5 w5:=hr5
 have HBY6:=Lib.hid hby6
 have HB6:=Lib.hid hB6
 have HKEPT:=Lib.hid hkept
 have HC6:=Lib.hid hc6
 clear hby6 hB6 hkept hlk2 hr5 hnc hc5 hc6 hbbA
 go_region_held3 (fun w' => w'.cell? ⟨c,1,none⟩ = some (.map (some bb))) (first | exact e1 | exact e2 | exact e5 | exact e6) (first | (refine step_append_run rfl _ _ 90 rfl v5 w5 hr5' ?_))
 all_goals (
  have f2:=cellAt HC6.out 2
  have f3:=cellAt HC6.out 3
  have g2:=frozenAt HC6.out 2
  have g3:=frozenAt HC6.out 3
  simp only [List.getElem?_toArray,List.getElem?_cons_zero,List.getElem?_cons_succ] at f2 f3
  have dm:decide ((P.length:Int) + 1 < (P.length:Int) + 1 + 1) = true:=by simp only [decide_eq_true_eq];omega
  have wm:=IntWalk.wrap64_in ((P.length:Int) + 1 + 1) (by omega)
  go_wp2
  go_ret
  rw [show max (P.length:Int) ((P.length:Int) + 1) + 1 = (P.length:Int) + 1 + 1 by omega]
  exact ⟨rfl,set_close3 (vs:=vs) (v':=v') HH.out HV.out HBL.out HNEW.out h0 h1 hsm HQ2.out HO.out HN.out HM3.out HT3.out HC3.out HQ4.out HBY6.out HB6.out (fun k o a b c => (HKEPT.out k o a b c).2) HC6.out _⟩)
set_option maxRecDepth 100000 in
set_option maxHeartbeats 4000000 in
theorem put_any3 (w:World) (B c:Nat) (P:List (List Int)) (bl bb:Nat) (vs:List Value) (fb:Int → Option Value) (m:Nat) (sz:Int) (H:ChunksAt w B c P bl bb vs fb m sz) (v:Value) (b:List Int) (hv:Sl w 5 1 v b.length (u8s b)) (hb:ByteL b) (h0:0 < b.length) (h1:b.length ≤ 64) (hsm:P.length + 1 ≤ 100000) :
  Calls Tryz.prog 59 #[.pointer (some ⟨c,0,none⟩),v] w fun e w' => ∃ nw,e = .returned (.tuple #[.int .i64 (putId P b),.bool nw,.int .i64 0]) ∧ ∃ vs' fb' m' sz',ChunksAt w' B c (putP P b) bl bb vs' fb' m' sz' ∧ Below B w w' ∧ VsOk w vs vs' ∧ KeptC w w':=by
 have HH:=Lib.hid H
 have HV:=Lib.hid hv
 obtain ⟨a,cap,rfl,hcap,-,-⟩:=hv.shape
 have hBw:B ≤ w.heap.size:=by have:=H.lo;have:=heap_lt H.cell;omega
 have HFIND:=Lib.hid (fun w' (hw:Below w.heap.size w w') => find_any w' B c P bl bb vs fb m sz (H.below hw) (.slice a b.length cap) 0 b (hv.below hw) hb (by omega))
 by_cases hin:b ∈ P
 ·obtain ⟨j,hj,hpid⟩:=pieceId_mem H.nodup hin
  have HP:=Lib.hid (show putP P b = P by unfold putP;rw [if_pos hin])
  have HI:=Lib.hid (show putId P b = (j:Int) + 1 by unfold putId;rw [hpid];rfl)
  rw [hpid] at HFIND
  clear H hv hin
  go_enter Tryz.func59,Tryz.ntmps59
  go_wp2_with (first | (go_at_call 105;refine (mayPiece_any _ _ b HV.out h0 h1).mono ?_;rintro e w1 ⟨rfl,hw⟩;have hw:=hw.symm;subst hw) | (go_at_call 106;refine (HFIND.out _ (Below.refl _ _)).mono ?_;rintro e w1 ⟨rfl,hq⟩;simp only [Option.getD_some,Option.isSome_some];have HQ1:=Lib.hid hq;clear hq))
  refine bodyPost_ret (v:=.tuple #[.int .i64 ((j:Int) + 1),.bool false,.int .i64 0]) (by simp [results,Tryz.results59,go_sem]) rfl ?_
  refine ⟨_,by rw [HI.out],vs,fb,m,sz,?_,HQ1.out.mono hBw,.refl _ _,.of_below HQ1.out⟩
  rw [HP.out]
  exact HH.out.below HQ1.out
 ·have HP:=Lib.hid (show putP P b = P ++ [b] by unfold putP;rw [if_neg hin])
  have HI:=Lib.hid (show putId P b = (P.length:Int) + 1 by unfold putId;rw [pieceId_none hin];rfl)
  have HIN:=Lib.hid hin
  rw [pieceId_none hin] at HFIND
  have HBL:=Lib.hid hb
  have c2:=cellAt H.cell 2
  simp only [List.getElem?_toArray,List.getElem?_cons_zero,List.getElem?_cons_succ] at c2
  clear H hv hin hb
  go_enter Tryz.func59,Tryz.ntmps59
  go_wp2_with (first | (go_at_call 105;refine (mayPiece_any _ _ b HV.out h0 h1).mono ?_;rintro e w1 ⟨rfl,hw⟩;have hw:=hw.symm;subst hw) | (go_at_call 106;refine (HFIND.out _ (Below.refl _ _)).mono ?_;rintro e w1 ⟨rfl,hq⟩;simp only [Option.getD_none,Option.isSome_none];have HQ1:=Lib.hid hq;have cQ2:=(hq.cell (p:=⟨c,2,none⟩) (heap_lt HH.out.cell)).trans c2;clear hq) | (go_at_call 107;refine (set_any3 _ B c P bl bb vs fb m sz (HH.out.below HQ1.out) _ b (HV.out.below HQ1.out) HBL.out h0 h1 HIN.out hsm).mono ?_;rintro e w2 ⟨rfl,hq⟩;have HQ2:=Lib.hid hq;clear hq))
  refine bodyPost_ret (v:=.tuple #[.int .i64 ((P.length:Int) + 1),.bool true,.int .i64 0]) (by simp [results,Tryz.results59,go_sem]) rfl ?_
  obtain ⟨vs',fb',m',sz',h1,h2,h4,h3⟩:=HQ2.out
  refine ⟨_,by rw [HI.out],vs',fb',m',sz',?_,(HQ1.out.mono hBw).trans h2,h4.before HQ1.out.size,(KeptC.of_below HQ1.out).trans h3⟩
  rw [HP.out]
  exact h1
set_option maxRecDepth 100000 in
set_option maxHeartbeats 4000000 in
theorem copy_any3 (w:World) (B c:Nat) (P:List (List Int)) (bl bb:Nat) (vs:List Value) (fb:Int → Option Value) (m:Nat) (sz:Int) (H:ChunksAt w B c P bl bb vs fb m sz) :
  Calls Tryz.prog 25 #[.pointer (some ⟨c,0,none⟩)] w fun e w' => ∃ c',e = .returned (.pointer (some ⟨c',0,none⟩)) ∧ ∃ bl' bb' fb' m',ChunksAt w' w.heap.size c' P bl' bb' vs fb' m' sz ∧ Below w.heap.size w w':=by
 have HH:=Lib.hid H
 obtain ⟨es,cl,hob⟩:=H.ml.obj
 have c0:=cellAt H.cell 0
 have c1:=cellAt H.cell 1
 have c2:=cellAt H.cell 2
 have c3:=cellAt H.cell 3
 simp only [List.getElem?_toArray,List.getElem?_cons_zero,List.getElem?_cons_succ] at c0 c1 c2 c3
 have hlt:=heap_lt H.cell
 have z1:c < w.heap.size + 1:=by omega
 have z2:c < w.heap.size + 2:=by omega
 have z3:c < w.heap.size + 3:=by omega
 have hmk:=fun t w => run_makeMap (P:=Tryz.prog) t w
 have HOB:=Lib.hid hob
 have HK:Hid (∀ W:World,W.heap[c]? = w.heap[c]? → W.cell? ⟨c,0,none⟩ = some (.map (some bl)) ∧ W.cell? ⟨c,2,none⟩ = some (.int .i64 ((P.length:Int) + 1)) ∧ W.cell? ⟨c,3,none⟩ = some (.int .i64 sz)):=Lib.hid (fun W hW => by
  have h:=hW.trans H.cell
  exact ⟨cellAt h 0,cellAt h 2,cellAt h 3⟩)
 clear H hob
 go_enter Tryz.func25,Tryz.ntmps25
 go_wp2_with fail
 go_cut [3] from 6 (fun s3 wc => ∃ c2 bl2 bb2,s3 = .pointer (some ⟨c2,0,none⟩) ∧ Hid (Made w wc c2 bl2 bb2 P vs sz))
 case first =>
  go_region_held3 (fun w' => w'.cell? ⟨c,0,none⟩ = some (.map (some bl)) ∧ w'.cell? ⟨c,2,none⟩ = some (.int .i64 ((P.length:Int) + 1)) ∧ w'.cell? ⟨c,3,none⟩ = some (.int .i64 sz)) (first | exact HK.out _ rfl | exact HK.out _ (hk1 hlt _) | exact HK.out _ (hk2 hlt _ _) | exact HK.out _ (hk3 hlt _ _ _)) (first | (go_at_call 56;refine (mapClone62_any _ bl es cl (by first | exact HOB.out | exact heap_old HOB.out _)).mono ?_;rintro e w1 ⟨rfl,rfl⟩))
  ·go_wp2_with fail
   go_meet
   case rel => exact ⟨_,_,_,rfl,made1 HH.out.ml HOB.out⟩
  ·go_wp2_with fail
   go_meet
   case rel => exact ⟨_,_,_,rfl,made2 HH.out.ml HOB.out⟩
 case rest =>
  obtain ⟨c',bl',bb',rfl,hmade⟩:=hcut
  obtain ⟨hc',hB1,hB2,hB3,hne,hml',hmb',hbel⟩:=hmade.out
  have HMB0:=Lib.hid ((HH.out.mb).same (hbel.block bb HH.out.mb.lt))
  have k1:wc.cell? ⟨c,1,none⟩ = some (.map (some bb)):=(hbel.cell (p:=⟨c,1,none⟩) hlt).trans c1
  have HC':=Lib.hid hc'
  have HML':=Lib.hid hml'
  have HMB':=Lib.hid hmb'
  have HBEL:=Lib.hid hbel
  clear hmade hc' hml' hmb' hbel
  go_wp2_with (first | (at_range;refine wpx_range _ rfl _ 116 rfl KU 90 Tryz.underlying116 bb m fb rfl HMB0.out ?_;intro w0 hrg0 hg0 hs0;have HR0:=Lib.hid hrg0;have HG0:=Lib.hid hg0;clear hrg0 hg0) | go_in)
  go_frame
  have hlc:=heap_lt HC'.out
  have hb1:bb ≠ bb':=by have:=HH.out.mb.lt;omega
  have hb2:bb ≠ c':=by have:=HH.out.mb.lt;omega
  have hW:w.heap.size ≤ wc.heap.size:=HBEL.out.size
  have hm5:m ≤ 100000:=by have:=HH.out.small;omega
  go_loopw [4,5] (fun t4 t5 wr => ∃ left cnt fb2 m2,RangeX KU wr bb wc.heap.size m fb left cnt ∧ Hid (Part2 wr w.heap.size bb' m P fb left cnt fb2 m2) ∧ Hid (wr.heap[c']? = some (.cells #[.map (some bl'),.map (some bb'),.int .i64 ((P.length:Int) + 1),.int .i64 sz] 118 (0,0))) ∧ Hid (MapX KI wr bl' P.length (ixV vs)) ∧ Hid (Below w.heap.size w wr)) (fun _ _ wr => wr.rangeLeft bb wc.heap.size)
  case atStart =>
   have k0:∀ (k:Nat) (o:Obj),wc.heap[k]? = some o → w0.heap[k]? = some o:=fun k o hk => (HG0.out.block k (heap_lt hk) (by simp)).trans hk
   obtain ⟨es1,cl1,ob1⟩:=HML'.out.obj
   obtain ⟨es2,cl2,ob2⟩:=HMB'.out.obj
   refine ⟨_,_,fun _ => none,0,HR0.out,⟨HMB'.out.same ((k0 _ _ ob2).trans ob2.symm),fun k hk h1 h2 => ?_,fun k v h => by simp at h,fun k k' v v' _ h => by simp at h,by omega⟩,k0 _ _ HC'.out,HML'.out.same ((k0 _ _ ob1).trans ob1.symm),HBEL.out.trans ⟨HG0.out.os,HG0.out.tape,HG0.out.output,HG0.out.size,fun k hk => HG0.out.block k (by omega) (by simp)⟩⟩
   rw [h1] at h2;cases h2
  case round =>
   obtain ⟨left,cnt,fb2,m2,hrg,hp2,hcc,hml,hbel⟩:=hrel
   have HRG:=Lib.hid hrg
   clear hrg
   go_wp2_with (first | (at_next;refine wpx_next _ rfl _ rfl KU KU_inv bb wc.heap.size m fb left cnt rfl HRG.out ?_ ?_) | go_in)
   ·intro h0 hl0
    have hl0':=Lib.hid hl0
    clear hl0
    go_wp2
    go_ret
    refine ⟨c',rfl,bl',bb',fb2,m2,⟨hcc.out,⟨hB1,hB2,hB3⟩,hne,⟨HH.out.pieces.1,fun i v p hv hp => ?_⟩,HH.out.nodup,hml.out,hp2.out.mb,fun k v hv => ⟨(hp2.out.rows k v hv).2.2.1,(hp2.out.rows k v hv).2.2.2⟩,fun k hk => ?_,hp2.out.apart,⟨HH.out.small.1,by have:=hp2.out.small;have:=HH.out.small.2;omega⟩⟩,hbel.out⟩
    ·obtain ⟨a1,a2⟩:=HH.out.pieces.2 i v p hv hp
     exact ⟨a1.below hbel.out,a2⟩
    ·by_cases hg:KU.good k
     ·cases hf:fb k with
      | none => exact HH.out.empty k hf
      | some u =>
       have:=hp2.out.yes k hg (by rw [hf];rfl) (hl0'.out k hg)
       rw [hk] at this;cases this
     ·cases hi:idsFrom k 0 P with
      | nil => rfl
      | cons y l =>
       obtain ⟨j,p,_,_,h3⟩:=idsFrom_mem k 0 P y (by rw [hi];simp)
       exact absurd (h3 ▸ KU_good ⟨crcSum_lo p,crcSum_hi p⟩) hg
   ·intro x v w1 cnt1 hx hlx hfx hrg1 hlt1 hg1 hs1 hen
    have HX:=Lib.hid hx
    have HLX:=Lib.hid hlx
    have HFX:=Lib.hid hfx
    have HRG1:=Lib.hid hrg1
    have HLT1:=Lib.hid hlt1
    have hbw1:Below w.heap.size w w1:=hbel.out.trans ⟨hg1.os,hg1.tape,hg1.output,hg1.size,fun k hk => hg1.block k (by have:=hbel.out.size;omega) (by simp;omega)⟩
    have HBW1:=Lib.hid hbw1
    have HG1:=Lib.hid hg1
    obtain ⟨hro,hr0⟩:=HH.out.rows x v hfx
    have HSL:=Lib.hid (Sl.of_own hro (ints_one _) (.inr hr0))
    have HR00:=Lib.hid hr0
    have hkr:∀ (k:Nat) (o:Obj),wr.heap[k]? = some o → k ≠ wc.heap.size → w1.heap[k]? = some o:=fun k o hk hne => (hg1.block k (heap_lt hk) (by simpa using hne)).trans hk
    obtain ⟨esr,clr,sir,sesr,cr,obr⟩:∃ a b c d e,wr.heap[wc.heap.size]? = some (.mapIter a b c d) ∧ e = ():=by
     obtain ⟨D,lf,⟨es,cl,since,seen,c0,_,_,_,_,h5,_⟩,_⟩:=HRG.out
     exact ⟨_,_,_,_,(),h5,rfl⟩
    have hcr:c' ≠ wc.heap.size:=fun e => by have h:=hcc.out;rw [e,obr.1] at h;cases h
    have HCC1:=Lib.hid (hkr c' _ hcc.out hcr)
    have hp1:Part2 w1 w.heap.size bb' m P fb left cnt fb2 m2:=by
     obtain ⟨es2,cl2,ob2⟩:=hp2.out.mb.obj
     exact hp2.out.kept ((hkr bb' _ ob2 (fun e => by rw [e,obr.1] at ob2;cases ob2)).trans ob2.symm) (fun k arr hk => hkr k _ hk (fun e => by rw [e,obr.1] at hk;cases hk))
    have HP1:=Lib.hid hp1
    have e1:w1.cell? ⟨c',1,none⟩ = some (.map (some bb')):=cellAt HCC1.out 1
    have hil:=idsFrom_length x 0 P
    have hPs:=HH.out.small.1
    clear hx hlx hfx hrg1 hlt1 hbw1 hro hr0 hp1 hg1 hkr
    go_wp2_with fail
    go_region_held3 (fun w' => w'.cell? ⟨c',1,none⟩ = some (.map (some bb'))) (first | exact e1 | exact e2 | exact e3) (first | (go_at_call 57;refine (cloneInt_any _ _ _ _ (HSL.out.below HBW1.out.drew) (by omega)).mono ?_;rintro e w2 ⟨v',rfl,ho,hn,hq⟩;have HQ:=Lib.hid (show Below w1.heap.size w1 w2 from ((Below.refl _ _).drew).trans hq);have e2:=(HQ.out.cell (p:=⟨c',1,none⟩) (heap_lt HCC1.out)).trans e1;have hp2':Part2 w2 w.heap.size bb' m P fb left cnt fb2 m2:=HP1.out.kept (HQ.out.block bb' HP1.out.mb.lt) (fun k arr hk => Below.heap HQ.out (Nat.le_refl _) hk);obtain ⟨w3,hrun,hp3,ht3⟩:=part_step hp2' hm5 x HX.out HLX.out (by rw [HFX.out];rfl) v' ⟨own_mono ho HBW1.out.size,HR00.out⟩ (fresh_of ho HR00.out (fun k u hu => (HP1.out.rows k u hu).2.2)) HLT1.out;have HC2:=Lib.hid (Below.heap HQ.out (Nat.le_refl _) HCC1.out);have HC3:=Lib.hid (turned_keep ht3 HC2.out (fun e => hp2'.mb.cells (e ▸ HC2.out)));have e3:w3.cell? ⟨c',1,none⟩ = some (.map (some bb')):=cellAt HC3.out 1;have HP3:=Lib.hid hp3;have HT3:=Lib.hid ht3;clear ho hn hq hp2' hp3 ht3))
    have HRG3:=Lib.hid (HRG1.out.kept (w':=w3) ((HT3.out.grown.block bb (by have:=HRG1.out.map.lt;have:=HQ.out.size;omega) (by simpa using hb1)).trans (HQ.out.block bb HRG1.out.map.lt)) ((HT3.out.grown.block _ (by have:=HRG1.out.lt;have:=HQ.out.size;omega) (by simp;have:=HMB'.out.lt;omega)).trans (HQ.out.block _ HRG1.out.lt)))
    go_wp2_with fail
    go_roundw
    case rel =>
     obtain ⟨es3,cl3,ob3⟩:=hml.out.obj
     have hblr:bl' ≠ wc.heap.size:=fun e => by have h:=ob3;rw [e,obr.1] at h;cases h
     have hmlw:w3.heap[bl']? = some (.map es3 cl3):=turned_keep HT3.out (Below.heap HQ.out (Nat.le_refl _) ((HG1.out.block bl' (heap_lt ob3) (by simpa using hblr)).trans ob3)) hne
     refine ⟨_,cnt1,_,m2 + 1,HRG3.out,HP3.out,HC3.out,hml.out.same (hmlw.trans ob3.symm),(HBW1.out.trans (HQ.out.mono HBW1.out.size)).grown HT3.out.grown (by have:=HBW1.out.size;have:=HQ.out.size;omega) (fun k hk => by cases hk;exact hB3)⟩
    case measure =>
     rw [HRG.out.left_eq,HRG3.out.left_eq]
     exact HLT1.out
end Go.Proofs.YtaonlcgneemimaaGreatDoor
