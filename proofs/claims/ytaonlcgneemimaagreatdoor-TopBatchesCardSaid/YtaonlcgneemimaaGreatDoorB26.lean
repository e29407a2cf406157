/- TopBatches: the contracts of AH1, AH2, AH3, AH4; no condition. -/
import Derived.Test.YtaonlcgneemimaaGreatDoorB22
import Derived.Test.YtaonlcgneemimaaGreatDoorB24
namespace Go.Proofs.YtaonlcgneemimaaGreatDoor
open Go.RowKit
structure HsX where
 y:StXG
 t:Nat
 m:ByteArray
def HsX.pt (z:HsX):PtA:=(z.t,z.m)
def HsX.blocks (z:HsX):List Nat:=z.y.blocks
def ptrG (z:HsX):Value:=.pointer (some ⟨z.y.s,0,none⟩)
def PtsN (w:World) (v:Value) (n:Nat) (l:List PtA):Prop:=Sl w 52 3 v n (ptsGC 0 l)
theorem ptsN_cells {w:World} {v:Value} {l:List PtA} {n:Nat} (hn:n = l.length) (h:PtsN w v n l):∃ a cap,v = .slice a n cap ∧ n ≤ cap ∧ (a = none → n = 0) ∧ ∀ j p,l[j]? = some p → ∃ g off,a = some ⟨g,off,none⟩ ∧ g < w.heap.size ∧ w.cell? ⟨g,off + j * 3,none⟩ = some (.int .i64 ((j:Int) + 1)) ∧ w.cell? ⟨g,off + j * 3 + 1,none⟩ = some (.float .f64 (stF p.1)) ∧ w.cell? ⟨g,off + j * 3 + 2,none⟩ = some (.string p.2):=by
 subst hn
 exact ptsG_cells h
structure HistG (K:Nat) (w:World) (h:Nat) (pv sv:Value) (xs:List HsX):Prop where
 cell:w.heap[h]? = some (.cells #[pv,sv] 115 (0,0))
 pts:w.ownsRow 0 52 3 pv xs.length (ptsGC 0 (xs.map HsX.pt))
 sts:w.ownsRow 0 73 1 sv xs.length (xs.map ptrG)
 pnil:pv = .slice none 0 0 ∨ 0 < xs.length
 snil:sv = .slice none 0 0 ∨ 0 < xs.length
 each:∀ z ∈ xs,StGt w K z.y
 ok:PtsOk (xs.map HsX.pt)
 glob:∃ m,w.cell? ⟨1,0,none⟩ = some (.int .i64 m)
 few:xs.length ≤ 10000
theorem PtsOk.nil:PtsOk []:=⟨fun p h => by simp at h,fun j a b h => by simp at h,fun p h => by simp at h,fun j k a b h => by simp at h,fun p h => by simp at h⟩
theorem HistG.psl {K:Nat} {w:World} {h:Nat} {pv sv:Value} {xs:List HsX} (H:HistG K w h pv sv xs):PtsN w pv xs.length (xs.map HsX.pt):=Sl.of_own H.pts (ptsGC_one _ _) H.pnil
theorem ptrG_one (xs:List HsX):∀ u ∈ xs.map ptrG,u.oneCell' = true:=by
 intro u hu
 obtain ⟨y,_,rfl⟩:=List.mem_map.1 hu
 rfl
theorem HistG.ssl {K:Nat} {w:World} {h:Nat} {pv sv:Value} {xs:List HsX} (H:HistG K w h pv sv xs):Sl w 73 1 sv xs.length (xs.map ptrG):=Sl.of_own H.sts (ptrG_one _) H.snil
set_option maxHeartbeats 1000000 in
theorem newHist_g (K:Nat) (w:World) (hg:∃ m,w.cell? ⟨1,0,none⟩ = some (.int .i64 m)) :
  Calls Tryz.prog 20 #[] w fun e w' => e = .returned (.pointer (some ⟨w.heap.size,0,none⟩)) ∧ HistG K w' w.heap.size (.slice none 0 0) (.slice none 0 0) [] ∧ Below w.heap.size w w':=by
 have hb:Below w.heap.size w (w.alloc (.cells #[.slice none 0 0,.slice none 0 0] 115)):=(Below.refl _ _).alloc (Nat.le_refl _) _
 have HG:Hid (∃ m,(w.alloc (.cells #[.slice none 0 0,.slice none 0 0] 115)).cell? ⟨1,0,none⟩ = some (.int .i64 m)):=Lib.hid (by
  obtain ⟨m,hm⟩:=hg
  exact ⟨m,(hb.cell (p:=⟨1,0,none⟩) (World.block_lt_of_cell? w _ hm)).trans hm⟩)
 clear hg
 go_enter Tryz.func20,Tryz.ntmps20
 go_wp2
 go_ret
 exact ⟨rfl,⟨heap_new w _,World.ownsRow_nil _ _ _ _,World.ownsRow_nil _ _ _ _,.inl rfl,.inl rfl,fun y h => by simp at h,PtsOk.nil,HG.out,by simp⟩,hb⟩
set_option maxHeartbeats 1000000 in
theorem histPoints_g (K:Nat) (w:World) (h:Nat) (pv sv:Value) (xs:List HsX) (H:HistG K w h pv sv xs) :
  Calls Tryz.prog 40 #[.pointer (some ⟨h,0,none⟩)] w fun e w' => ∃ v,e = .returned v ∧ PtsN w' v xs.length (xs.map HsX.pt) ∧ Below w.heap.size w w':=by
 have HP:=Lib.hid H.psl
 have hf:=H.few
 have c0:w.cell? ⟨h,0,none⟩ = some pv:=cellAt H.cell 0
 clear H
 go_enter Tryz.func40,Tryz.ntmps40
 go_wp2_with (go_at_call 83;refine (clonePoint_any _ _ _ _ HP.out (by omega)).mono ?_;rintro e w1 ⟨v,rfl,ho,hn,hq⟩;have HO:=Lib.hid (show PtsN w1 v xs.length (xs.map HsX.pt) from Sl.of_own ho (ptsGC_one _ _) (by rcases Nat.eq_zero_or_pos xs.length with h0 | h0;exact .inl (hn.2 h0);exact .inr h0));have HQ:=Lib.hid hq;clear ho hn hq)
 go_ret
 exact ⟨_,rfl,HO.out,HQ.out⟩
set_option maxRecDepth 100000 in
set_option maxHeartbeats 4000000 in
theorem histMay_g (K:Nat) (w:World) (h:Nat) (pv sv:Value) (xs:List HsX) (H:HistG K w h pv sv xs) (st:Nat) (mk:ByteArray) (hok:PtsOk (xs.map HsX.pt ++ [(st,mk)])) :
  Calls Tryz.prog 74 #[.pointer (some ⟨h,0,none⟩),.agg #[.int .i64 ((xs.length:Int) + 1),.float .f64 (stF st),.string mk]] w fun e w' => e = .returned (.bool true) ∧ Below w.heap.size w w':=by
 have HP:=Lib.hid H.psl
 have HOK:=Lib.hid hok
 obtain ⟨l,hl⟩:∃ l,l = xs.map HsX.pt:=⟨_,rfl⟩
 rw [← hl] at HP HOK
 have hll:l.length = xs.length:=by rw [hl];simp
 have hf:=H.few
 have hlt:=heap_lt H.cell
 obtain ⟨n,hn⟩:∃ n,n = xs.length:=⟨_,rfl⟩
 rw [← hn] at HP hf hll ⊢
 have HLL:=Lib.hid hll
 have HSN:=Lib.hid (show ptsGC 0 (l ++ [(st,mk)]) = ptsGC 0 l ++ [.int .i64 ((n:Int) + 1),.float .f64 (stF st),.string mk] by rw [ptsGC_snoc,Nat.zero_add,hll];rfl)
 have c0:w.cell? ⟨h,0,none⟩ = some pv:=cellAt H.cell 0
 obtain ⟨i0,hi,hz0,hz1,hz2⟩:=info_parts info52
 have HB:Hid (∀ o,Below w.heap.size w (w.alloc o)):=Lib.hid (fun o => (Below.refl _ _).alloc (Nat.le_refl _) _)
 have HX:Hid (∀ W:World,Below w.heap.size w W → W.cell? ⟨h,0,none⟩ = some pv):=Lib.hid (fun W hW => (hW.cell (p:=⟨h,0,none⟩) hlt).trans c0)
 have HN:=Lib.hid (heap_new w (.cells #[.int .i64 ((n:Int) + 1),.float .f64 (stF st),.string mk] 52))
 have HK:Hid (∀ W:World,Below (w.heap.size + 1) (w.alloc (.cells #[.int .i64 ((n:Int) + 1),.float .f64 (stF st),.string mk] 52)) W → W.cell? ⟨h,0,none⟩ = some pv ∧ W.cell? ⟨w.heap.size,0,none⟩ = some (.int .i64 ((n:Int) + 1)) ∧ W.cell? ⟨w.heap.size,1,none⟩ = some (.float .f64 (stF st)) ∧ W.cell? ⟨w.heap.size,2,none⟩ = some (.string mk)):=Lib.hid (fun W hW => by
  have hh:=Below.heap hW (by simp) HN.out
  refine ⟨?_,cellAt hh 0,cellAt hh 1,cellAt hh 2⟩
  rw [hW.cell (p:=⟨h,0,none⟩) (by show h < _;omega)]
  exact HX.out _ (HB.out _))
 have HP0:Hid (∀ W,Below (w.heap.size + 1) (w.alloc (.cells #[.int .i64 ((n:Int) + 1),.float .f64 (stF st),.string mk] 52)) W → PtsN W pv n l):=Lib.hid (fun W hW => (HP.out.below (HB.out _)).below (hW.mono (by simp)))
 clear H c0 hn hl hll hok
 go_enter Tryz.func74,Tryz.ntmps74
 go_wp2_with fail
 go_cut [4] from 5 (fun s4 wc => s4 = .bool true ∧ Hid (Below w.heap.size w wc))
 case first =>
  go_region_held3 (fun W => W.cell? ⟨h,0,none⟩ = some pv ∧ W.cell? ⟨w.heap.size,0,none⟩ = some (.int .i64 ((n:Int) + 1)) ∧ W.cell? ⟨w.heap.size,1,none⟩ = some (.float .f64 (stF st)) ∧ W.cell? ⟨w.heap.size,2,none⟩ = some (.string mk)) (first | exact HK.out _ ((Below.refl _ _).drew) | exact HK.out _ ((Below.refl _ _).drew.alloc (by simp) _) | exact HK.out _ HQ1.out | exact HK.out _ (HQ1.out.alloc (by have:=HQ1.out.size;simp at this;omega) _) | exact HK.out _ HQ2.out | exact HK.out _ HQ3.out) (first | (go_at_call 83;refine (clonePoint_any _ _ _ _ (HP0.out _ (by first | exact (Below.refl _ _).drew | exact ((Below.refl _ _).drew.alloc (by simp) _))) (by omega)).mono ?_;rintro e w1 ⟨v,rfl,ho,hn,hq⟩;have HQ1:Hid (Below (w.heap.size + 1) (w.alloc (.cells #[.int .i64 ((n:Int) + 1),.float .f64 (stF st),.string mk] 52)) w1):=Lib.hid (by first | exact ((Below.refl _ _).drew).trans (hq.mono (by simp)) | exact ((Below.refl _ _).drew.alloc (by simp) _).trans (hq.mono (by simp)));have HO:=Lib.hid (own_mono ho (base':=w.heap.size + 1) (by simp));(first | (have HE:Hid (w1.heap[w.heap.size + 1]? = some (.cells #[.int .i64 ((n:Int) + 1),.float .f64 (stF st),.string mk] 52 (0,0))):=Lib.hid (by have h:=Below.heap hq (Nat.le_refl _) (heap_new (w.alloc (.cells #[.int .i64 ((n:Int) + 1),.float .f64 (stF st),.string mk] 52)).drew (.cells #[.int .i64 ((n:Int) + 1),.float .f64 (stF st),.string mk] 52));simpa using h)) | skip);clear ho hn hq) | (refine step_append_sl rfl _ _ 46 rfl (w.heap.size + 1) 52 i0 _ 3 32 Tryz.underlying46 hi hz0 hz1 hz2 rfl (by decide) v n _ rfl (HO.out.alloc _) _ 1 _ rfl (Sl.block' (heap_new w1 _) rfl (by simp [Value.oneCell']) (by decide) (by decide)) (by omega) (by decide) (by have:=HQ1.out.size;simp at this;simp;omega) ?_;intro v2 w2 hown hgr _ _;have HV2:Hid (PtsN w2 v2 (n + 1) (l ++ [(st,mk)])):=Lib.hid (by unfold PtsN;rw [HSN.out];exact Sl.of_own hown (by rw [← HSN.out];exact ptsGC_one _ _) (.inr (by omega)));have HQ2:Hid (Below (w.heap.size + 1) (w.alloc (.cells #[.int .i64 ((n:Int) + 1),.float .f64 (stF st),.string mk] 52)) w2):=Lib.hid ((HQ1.out.alloc (by have:=HQ1.out.size;simp at this;omega) _).grown hgr (by have:=HQ1.out.size;simp at this;simp;omega) (fun k hk => (HO.out.lt k hk).1));clear hown hgr) | (refine step_append_sl rfl _ _ 46 rfl (w.heap.size + 1) 52 i0 _ 3 32 Tryz.underlying46 hi hz0 hz1 hz2 rfl (by decide) v n _ rfl HO.out _ 1 _ rfl (Sl.block' HE.out rfl (by simp [Value.oneCell']) (by decide) (by decide)) (by omega) (by decide) (by have:=HQ1.out.size;simp at this;omega) ?_;intro v2 w2 hown hgr _ _;have HV2:Hid (PtsN w2 v2 (n + 1) (l ++ [(st,mk)])):=Lib.hid (by unfold PtsN;rw [HSN.out];exact Sl.of_own hown (by rw [← HSN.out];exact ptsGC_one _ _) (.inr (by omega)));have HQ2:Hid (Below (w.heap.size + 1) (w.alloc (.cells #[.int .i64 ((n:Int) + 1),.float .f64 (stF st),.string mk] 52)) w2):=Lib.hid (HQ1.out.grown hgr (by have:=HQ1.out.size;simp at this;omega) (fun k hk => (HO.out.lt k hk).1));clear hown hgr) | (go_at_call 125;refine (pointsMay_g _ _ (l ++ [(st,mk)]) (by have:=HV2.out;unfold PtsGV;rw [show (l ++ [(st,mk)]).length = n + 1 by rw [List.length_append,HLL.out];rfl];exact this) HOK.out (by rw [List.length_append,HLL.out];simp;omega)).mono ?_;rintro e w3 ⟨rfl,hq⟩;have HQ3:Hid (Below (w.heap.size + 1) (w.alloc (.cells #[.int .i64 ((n:Int) + 1),.float .f64 (stF st),.string mk] 52)) w3):=Lib.hid (HQ2.out.trans (hq.mono (by have:=HQ2.out.size;simp at this;omega)));clear hq))
  all_goals
   go_wp2_with fail
   go_meet
   case rel => exact ⟨rfl,(HB.out _).trans (HQ3.out.mono (by omega))⟩
 case rest =>
  obtain ⟨rfl,hbel⟩:=hcut
  go_wp2
  go_ret
  exact ⟨rfl,hbel.out⟩
set_option maxRecDepth 100000 in
set_option maxHeartbeats 4000000 in
theorem histLast_none_g (K:Nat) (w:World) (h:Nat) (pv sv:Value) (H:HistG K w h pv sv []) :
  Calls Tryz.prog 76 #[.pointer (some ⟨h,0,none⟩)] w fun e w' => ∃ y':StXG,e = .returned (.pointer (some ⟨y'.s,0,none⟩)) ∧ StGt w' K y' ∧ y'.x = AbsG.new ∧ (∀ k ∈ y'.blocks,w.heap.size ≤ k) ∧ Below w.heap.size w w':=by
 have HG:=Lib.hid H.glob
 have hs:=H.snil
 simp only [List.length_nil,Nat.lt_irrefl,or_false] at hs
 subst hs
 have c1:w.cell? ⟨h,1,none⟩ = some (.slice none 0 0):=cellAt H.cell 1
 clear H
 go_enter Tryz.func76,Tryz.ntmps76
 go_wp2_with (go_at_call 22;refine (newS_g _ HG.out K).mono ?_;rintro e w1 ⟨y',rfl,h1,h2,h3,h4⟩;have HF:Hid (StGt w1 K y' ∧ y'.x = AbsG.new ∧ (∀ k ∈ y'.blocks,w.heap.size ≤ k) ∧ Below w.heap.size w w1):=Lib.hid ⟨h1,h2,h3,h4⟩;clear h1 h2 h3 h4)
 go_ret
 exact ⟨_,rfl,HF.out⟩
set_option maxRecDepth 100000 in
set_option maxHeartbeats 4000000 in
theorem histLast_some_g (K:Nat) (w:World) (h:Nat) (pv sv:Value) (xs:List HsX) (z:HsX) (H:HistG K w h pv sv (xs ++ [z])) :
  Calls Tryz.prog 76 #[.pointer (some ⟨h,0,none⟩)] w fun e w' => ∃ y':StXG,e = .returned (.pointer (some ⟨y'.s,0,none⟩)) ∧ StGt w' K y' ∧ y'.x = z.y.x ∧ (∀ k ∈ y'.blocks,w.heap.size ≤ k) ∧ Below w.heap.size w w':=by
 have HY:=Lib.hid (H.each z (by simp))
 have hs:=H.ssl
 have hf:=H.few
 rw [show (xs ++ [z]).length = xs.length + 1 by simp] at hs hf
 obtain ⟨n,hn⟩:∃ n,n = xs.length:=⟨_,rfl⟩
 rw [← hn] at hs hf
 obtain ⟨a,cap,rfl,hcap,-,hcells⟩:=hs.shape
 obtain ⟨g,off,rfl,hg,hc⟩:=hcells n (by omega)
 have c2:w.cell? ⟨g,off + n,none⟩ = some (.pointer (some ⟨z.y.s,0,none⟩)):=by
  have:=hc 0 (ptrG z) (by decide) (by simp [hn])
  simpa [ptrG] using this
 have c1:w.cell? ⟨h,1,none⟩ = some (.slice (some ⟨g,off,none⟩) (n + 1) cap):=cellAt H.cell 1
 have e1:IntKind.i64.wrap ((n:Int) + 1 - 1) = (n:Int):=by
  rw [show (n:Int) + 1 - 1 = n by omega]
  exact IntWalk.i64_in _ (by omega)
 have e2:wrap64 ((n:Int) + 1 - 1) = (n:Int):=by
  rw [show (n:Int) + 1 - 1 = n by omega]
  exact IntWalk.wrap64_in _ (by omega)
 have e3:IntKind.i64.wrap (n:Int) = (n:Int):=IntWalk.i64_in _ (by omega)
 have e4:(n:Int) < (n:Int) + 1:=by omega
 have e5:IntKind.i64.wrap ((n:Int) + 1) = (n:Int) + 1:=IntWalk.i64_in _ (by omega)
 clear H hs hcells hc hn
 go_enter Tryz.func76,Tryz.ntmps76
 go_wp2_with fail
 go_region_held3 (fun W => W.cell? ⟨h,1,none⟩ = some (.slice (some ⟨g,off,none⟩) (n + 1) cap) ∧ W.cell? ⟨g,off + n,none⟩ = some (.pointer (some ⟨z.y.s,0,none⟩))) (first | exact ⟨c1,c2⟩ | exact ⟨k1,k2⟩) (first | (go_at_call 129;refine (copyS_g _ K _ (HY.out.below ((Below.refl _ _).drew))).mono ?_;rintro e w1 ⟨y',rfl,h1,h2,h3,h4⟩;have hw:Below w.heap.size w w1:=((Below.refl _ _).drew).trans h4;have k1:=(hw.cell (p:=⟨h,1,none⟩) (World.block_lt_of_cell? w _ c1)).trans c1;have k2:=(hw.cell (p:=⟨g,off + n,none⟩) hg).trans c2;have HF:Hid (StGt w1 K y' ∧ y'.x = z.y.x ∧ (∀ k ∈ y'.blocks,w.heap.size ≤ k) ∧ Below w.heap.size w w1):=Lib.hid ⟨h1,h2,h3,hw⟩;clear h1 h2 h3 h4 hw))
 go_wp2_with fail
 go_ret
 exact ⟨_,rfl,HF.out⟩
set_option maxRecDepth 100000 in
set_option maxHeartbeats 4000000 in
theorem histState_g (K:Nat) (w:World) (h:Nat) (pv sv:Value) (xs:List HsX) (H:HistG K w h pv sv xs) (j:Nat) (z:HsX) (hj:xs[j]? = some z) :
  Calls Tryz.prog 77 #[.pointer (some ⟨h,0,none⟩),.int .i64 ((j:Int) + 1)] w fun e w' => ∃ y':StXG,e = .returned (.tuple #[.pointer (some ⟨y'.s,0,none⟩),.int .i64 0]) ∧ StGt w' K y' ∧ y'.x = z.y.x ∧ (∀ k ∈ y'.blocks,w.heap.size ≤ k) ∧ Below w.heap.size w w':=by
 have HY:=Lib.hid (H.each z (List.mem_of_getElem? hj))
 have hf:=H.few
 have hjl:=(List.getElem?_eq_some_iff.1 hj).1
 obtain ⟨a,cap,rfl,hcap,-,hcells⟩:=ptsN_cells (by simp) H.psl
 have hpt:∀ k,k < xs.length → ∃ p,(xs.map HsX.pt)[k]? = some p:=fun k hk => ⟨_,List.getElem?_eq_getElem (by simpa using hk)⟩
 have HC:=Lib.hid hcells
 have HPT:=Lib.hid hpt
 obtain ⟨sa,scap,rfl,hscap,-,hscells⟩:=H.ssl.shape
 obtain ⟨g,off,rfl,hg,hc⟩:=hscells j hjl
 have c2:w.cell? ⟨g,off + j,none⟩ = some (.pointer (some ⟨z.y.s,0,none⟩)):=by
  have:=hc 0 (ptrG z) (by decide) (by simp [hj])
  simpa [ptrG] using this
 obtain ⟨n,hn⟩:∃ n,n = xs.length:=⟨_,rfl⟩
 rw [← hn] at hf hjl hcap HPT
 have c0:w.cell? ⟨h,0,none⟩ = some (.slice a n cap):=hn ▸ cellAt H.cell 0
 have c1:w.cell? ⟨h,1,none⟩ = some (.slice (some ⟨g,off,none⟩) n scap):=hn ▸ cellAt H.cell 1
 have hhl:=heap_lt H.cell
 have hsf:=fun (W:World) (p:Addr) (k:Nat) => run_store Tryz.prog W p (.float .f64 k) .plain rfl
 clear H hcells hscells hc hj hn hscap hpt
 go_enter Tryz.func77,Tryz.ntmps77
 go_wp2
 go_loopw [15] (fun ti wr => ∃ k:Nat,k ≤ j ∧ ti = .int .i64 k ∧ Hid (Below w.heap.size w wr)) (fun i _ => n - (intOf i).toNat)
 case atStart => exact ⟨0,by omega,rfl,Below.refl _ _⟩
 case round =>
  obtain ⟨k,hk,rfl,hbel⟩:=hrel
  obtain ⟨⟨st,mk⟩,hp⟩:=HPT.out k (by omega)
  obtain ⟨g1,off1,rfl,hg1,p0,p1,p2⟩:=HC.out k _ hp
  simp only at p1 p2
  clear hp
  have t:∀ (b o:Nat) u,b < w.heap.size → w.cell? ⟨b,o,none⟩ = some u → wr.cell? ⟨b,o,none⟩ = some u:=fun b o u hb h => by
   rw [hbel.out.cell (p:=⟨b,o,none⟩) hb]
   exact h
  have q0:=t _ _ _ hg1 p0
  have q1:=t _ _ _ hg1 p1
  have q2:=t _ _ _ hg1 p2
  have r1:=t _ _ _ hhl c1
  have r2:=t _ _ _ hg c2
  have hs:=hbel.out.size
  have hwh:h < wr.heap.size:=by omega
  have hwg:g < wr.heap.size:=by omega
  have hkn:k < n:=by omega
  have hb2:=Lib.hid (hbel.out.alloc hs (.cells #[.int .i64 ((k:Int) + 1),.float .f64 (stF st),.string mk] 52))
  clear p0 p1 p2 t
  by_cases e:k = j
  ·subst e
   go_wp2_with (go_at_call 129;refine (copyS_g _ K _ (HY.out.below hb2.out)).mono ?_;rintro e w1 ⟨y',rfl,h1,h2,h3,h4⟩;have HF:Hid (StGt w1 K y' ∧ y'.x = z.y.x ∧ (∀ k ∈ y'.blocks,w.heap.size ≤ k) ∧ Below w.heap.size w w1):=Lib.hid ⟨h1,h2,fun k hk => Nat.le_trans hb2.out.size (h3 k hk),hb2.out.trans (h4.mono hb2.out.size)⟩;clear h1 h2 h3 h4)
   go_ret2
   exact ⟨_,rfl,HF.out⟩
  ·have d1:((k:Int) + 1 == (j:Int) + 1) = false:=by simp;omega
   have d2:¬ ((k:Int) = j):=by omega
   go_wp2
   go_roundw
   case rel => exact ⟨k + 1,by omega,by go_num,hb2.out⟩
   case measure => simp [intOf];omega
end Go.Proofs.YtaonlcgneemimaaGreatDoor
namespace Go.Proofs.YtaonlcgneemimaaGreatDoor
open Go.RowKit
theorem HistG.below {K:Nat} {w w':World} {h:Nat} {pv sv:Value} {xs:List HsX} (H:HistG K w h pv sv xs) (hb:Below w.heap.size w w'):HistG K w' h pv sv xs:=by
 refine ⟨Below.heap hb (Nat.le_refl _) H.cell,own_below H.pts hb,own_below H.sts hb,H.pnil,H.snil,fun y hy => (H.each y hy).below hb,H.ok,?_,H.few⟩
 obtain ⟨m,hm⟩:=H.glob
 exact ⟨m,(hb.cell (p:=⟨1,0,none⟩) (World.block_lt_of_cell? w _ hm)).trans hm⟩
noncomputable def lastG (xs:List HsX):AbsG:=match xs.getLast? with
 | none => AbsG.new
 | some z => z.y.x
theorem histLast_g (K:Nat) (w:World) (h:Nat) (pv sv:Value) (xs:List HsX) (H:HistG K w h pv sv xs) :
  Calls Tryz.prog 76 #[.pointer (some ⟨h,0,none⟩)] w fun e w' => ∃ y':StXG,e = .returned (.pointer (some ⟨y'.s,0,none⟩)) ∧ StGt w' K y' ∧ y'.x = lastG xs ∧ (∀ k ∈ y'.blocks,w.heap.size ≤ k) ∧ Below w.heap.size w w':=by
 rcases List.eq_nil_or_concat xs with rfl | ⟨l,y,rfl⟩
 ·exact histLast_none_g K w h pv sv H
 ·rw [List.concat_eq_append] at H ⊢
  refine (histLast_some_g K w h pv sv l y H).mono ?_
  rintro e w' ⟨y',h1,h2,h3,h4⟩
  exact ⟨y',h1,h2,by rw [h3];simp [lastG],h4⟩
structure AddFinG (w:World) (pv sv:Value) (n:Nat) (l:List PtA) (p:PtA) (ps:List Value) (u:Value) (v1 v2:Value) (wf:World):Prop where
 pts:wf.ownsRow 0 52 3 v1 (n + 1) (ptsGC 0 (l ++ [p]))
 sts:wf.ownsRow 0 73 1 v2 (n + 1) (ps ++ [u])
 fr:Frame (pv.ownBlock.toList ++ sv.ownBlock.toList) w wf
 b1:v1.ownBlock = pv.ownBlock ∨ ∀ k ∈ v1.ownBlock.toList,w.heap.size ≤ k
 b2:v2.ownBlock = sv.ownBlock ∨ ∀ k ∈ v2.ownBlock.toList,w.heap.size ≤ k
theorem app_ptG {w:World} {pv:Value} {n k:Nat} {l:List PtA} {p:PtA} (hln:l.length = n) (hp:w.ownsRow 0 52 3 pv n (ptsGC 0 l)) (hk:w.heap[k]? = some (.cells #[.int .i64 ((n:Int) + 1),.float .f64 (stF p.1),.string p.2] 52 (0,0))) (hn:n ≤ 10000) :
  ∃ v' w',(Builtin.append_ #[46,46] 46 #[pv,.slice (some ⟨k,0,none⟩) 1 1]).run Tryz.prog w = .ok v' w' ∧ w'.ownsRow 0 52 3 v' (n + 1) (ptsGC 0 (l ++ [p])) ∧ w.grownBy w' pv.ownBlock ∧ (v'.ownBlock = pv.ownBlock ∨ v'.ownBlock = some w.heap.size):=by
 obtain ⟨i0,hi,hz0,hz1,hz2⟩:=info_parts info52
 obtain ⟨v',w',h1,h2,h3,-,h5⟩:=append_run_sl (P:=Tryz.prog) (w:=w) 0 46 46 52 i0 _ 3 32 Tryz.underlying46 hi hz0 hz1 hz2 rfl (by decide) pv n _ hp _ 1 _ (Sl.block' hk rfl (by simp [Value.oneCell']) (by decide) (by decide)) (by omega) (by decide) (Nat.zero_le _)
 have e:ptsGC 0 (l ++ [p]) = ptsGC 0 l ++ [.int .i64 ((n:Int) + 1),.float .f64 (stF p.1),.string p.2]:=by rw [ptsGC_snoc,Nat.zero_add,hln];rfl
 rw [e]
 exact ⟨v',w',h1,h2,h3,h5⟩
def AddCG (w:World) (h q:Nat) (pv sv:Value) (n:Nat) (p:PtA):Prop :=
 w.cell? ⟨h,0,none⟩ = some pv ∧ w.cell? ⟨h,1,none⟩ = some sv ∧ w.frozen? ⟨h,0,none⟩ = false ∧ w.frozen? ⟨h,1,none⟩ = false ∧ w.cell? ⟨q,0,none⟩ = some (.int .i64 ((n:Int) + 1)) ∧ w.cell? ⟨q,1,none⟩ = some (.float .f64 (stF p.1)) ∧ w.cell? ⟨q,2,none⟩ = some (.string p.2)
set_option maxHeartbeats 1000000 in
theorem add_runG {w W:World} {h q k1:Nat} {pv sv:Value} {n:Nat} {l:List PtA} {p:PtA} {ps:List Value} (hln:l.length = n) (hB:Below w.heap.size w W)
  (hp:w.ownsRow 0 52 3 pv n (ptsGC 0 l)) (hs:w.ownsRow 0 73 1 sv n ps) (hn:n ≤ 10000)
  (hh:w.heap[h]? = some (.cells #[pv,sv] 115 (0,0))) (hq:w.heap[q]? = some (.cells #[.int .i64 ((n:Int) + 1),.float .f64 (stF p.1),.string p.2] 52 (0,0)))
  (hqp:∀ g,pv.ownBlock = some g → g ≠ q) (h1:W.heap[k1]? = some (.cells #[.int .i64 ((n:Int) + 1),.float .f64 (stF p.1),.string p.2] 52 (0,0))) :
  ∃ v1 wa,(Builtin.append_ #[46,46] 46 #[pv,.slice (some ⟨k1,0,none⟩) 1 1]).run Tryz.prog W = .ok v1 wa ∧ wa.ownsRow 0 52 3 v1 (n + 1) (ptsGC 0 (l ++ [p])) ∧ wa.ownsRow 0 73 1 sv n ps ∧ Frame pv.ownBlock.toList w wa ∧ (v1.ownBlock = pv.ownBlock ∨ ∀ g,v1.ownBlock = some g → w.heap.size ≤ g) ∧ AddCG wa h q pv sv n p ∧ W.grownBy wa pv.ownBlock ∧ wa.heap[h]? = some (.cells #[pv,sv] 115 (0,0)) ∧ wa.heap[q]? = some (.cells #[.int .i64 ((n:Int) + 1),.float .f64 (stF p.1),.string p.2] 52 (0,0)):=by
 have hpW:=own_below hp hB
 have hsW:=own_below hs hB
 obtain ⟨v1,wa,r1,o1,g1,b1⟩:=app_ptG hln hpW h1 hn
 have hF:Frame pv.ownBlock.toList w wa:=(Frame.of_below hB _).grown g1 (fun k hk => .inl (by simp [hk]))
 have e1:wa.heap[h]? = some (.cells #[pv,sv] 115 (0,0)):=hF.heap hh (fun hm => by
  have:=own_neq hp hh (by decide)
  simp at hm
  exact this hm)
 have e2:=hF.heap hq (fun hm => by
  simp at hm
  exact hqp _ hm rfl)
 refine ⟨v1,wa,r1,o1,other_row hpW hsW (by decide) g1,hF,?_,⟨cellAt e1 0,cellAt e1 1,frozenAt e1 0,frozenAt e1 1,cellAt e2 0,cellAt e2 1,cellAt e2 2⟩,g1,e1,e2⟩
 rcases b1 with b1 | b1
 ·exact .inl b1
 ·refine .inr (fun g hg => ?_)
  rw [b1] at hg
  cases hg
  exact hB.size
theorem add_run2G {w W:World} {h q s k2:Nat} {pv sv v1:Value} {n:Nat} {l:List PtA} {p:PtA} {ps:List Value} (hF:Frame pv.ownBlock.toList w W)
  (hp:W.ownsRow 0 52 3 v1 (n + 1) (ptsGC 0 (l ++ [p]))) (hs:W.ownsRow 0 73 1 sv n ps) (hn:n ≤ 10000)
  (hh:W.heap[h]? = some (.cells #[pv,sv] 115 (0,0))) (hq:W.heap[q]? = some (.cells #[.int .i64 ((n:Int) + 1),.float .f64 (stF p.1),.string p.2] 52 (0,0)))
  (b1:v1.ownBlock = pv.ownBlock ∨ ∀ g,v1.ownBlock = some g → w.heap.size ≤ g)
  (h2:W.heap[k2]? = some (.cells #[.pointer (some ⟨s,0,none⟩)] 73 (0,0))) :
  ∃ v2 wf,(Builtin.append_ #[113,113] 113 #[sv,.slice (some ⟨k2,0,none⟩) 1 1]).run Tryz.prog W = .ok v2 wf ∧ AddFinG w pv sv n l p ps (.pointer (some ⟨s,0,none⟩)) v1 v2 wf ∧ AddCG wf h q pv sv n p ∧ wf.heap[h]? = some (.cells #[pv,sv] 115 (0,0)):=by
 obtain ⟨v2,wf,r2,o2,g2,b2⟩:=app_st hs h2 hn
 have hF2:Frame sv.ownBlock.toList W wf:=(Frame.refl _ _).grown g2 (fun k hk => .inl (by simp [hk]))
 have e1:wf.heap[h]? = some (.cells #[pv,sv] 115 (0,0)):=hF2.heap hh (fun hm => by
  have:=own_neq hs hh (by decide)
  simp at hm
  exact this hm)
 have e2:=hF2.heap hq (fun hm => by
  have:=own_neq hs hq (by decide)
  simp at hm
  exact this hm)
 refine ⟨v2,wf,r2,⟨other_row hs hp (by decide) g2,o2,(hF.mono (M':=pv.ownBlock.toList ++ sv.ownBlock.toList) (fun x hx => .inl (by simp at hx;simp [hx]))).trans hF2 (fun x hx => .inl (by simp at hx;simp [hx])),?_,?_⟩,⟨cellAt e1 0,cellAt e1 1,frozenAt e1 0,frozenAt e1 1,cellAt e2 0,cellAt e2 1,cellAt e2 2⟩,e1⟩
 ·rcases b1 with b1 | b1
  ·exact .inl b1
  ·exact .inr (fun k hk => b1 k (by simpa using hk))
 ·rcases b2 with b2 | b2
  ·exact .inl b2
  ·refine .inr (fun k hk => ?_)
   rw [b2] at hk
   simp at hk
   subst hk
   exact hF.size
theorem add_ordersG {w:World} {h q s:Nat} {pv sv:Value} {n:Nat} {l:List PtA} {p:PtA} {ps:List Value} (hln:l.length = n)
  (hp:w.ownsRow 0 52 3 pv n (ptsGC 0 l)) (hs:w.ownsRow 0 73 1 sv n ps) (hn:n ≤ 10000)
  (hh:w.heap[h]? = some (.cells #[pv,sv] 115 (0,0))) (hq:w.heap[q]? = some (.cells #[.int .i64 ((n:Int) + 1),.float .f64 (stF p.1),.string p.2] 52 (0,0)))
  (hqp:∀ g,pv.ownBlock = some g → g ≠ q) :
  (∃ v1 wa v2 wf,(Builtin.append_ #[46,46] 46 #[pv,.slice (some ⟨w.heap.size,0,none⟩) 1 1]).run Tryz.prog (w.alloc (.cells #[.int .i64 ((n:Int) + 1),.float .f64 (stF p.1),.string p.2] 52)).drew = .ok v1 wa ∧ AddCG wa h q pv sv n p ∧
   (Builtin.append_ #[113,113] 113 #[sv,.slice (some ⟨wa.heap.size,0,none⟩) 1 1]).run Tryz.prog (wa.alloc (.cells #[.pointer (some ⟨s,0,none⟩)] 73)) = .ok v2 wf ∧ AddFinG w pv sv n l p ps (.pointer (some ⟨s,0,none⟩)) v1 v2 wf ∧ AddCG wf h q pv sv n p ∧ wf.heap[h]? = some (.cells #[pv,sv] 115 (0,0))) ∧
  (∃ v1 wa v2 wf,(Builtin.append_ #[46,46] 46 #[pv,.slice (some ⟨w.heap.size,0,none⟩) 1 1]).run Tryz.prog ((w.alloc (.cells #[.int .i64 ((n:Int) + 1),.float .f64 (stF p.1),.string p.2] 52)).alloc (.cells #[.pointer (some ⟨s,0,none⟩)] 73)).drew = .ok v1 wa ∧ AddCG wa h q pv sv n p ∧
   (Builtin.append_ #[113,113] 113 #[sv,.slice (some ⟨w.heap.size + 1,0,none⟩) 1 1]).run Tryz.prog wa = .ok v2 wf ∧ AddFinG w pv sv n l p ps (.pointer (some ⟨s,0,none⟩)) v1 v2 wf ∧ AddCG wf h q pv sv n p ∧ wf.heap[h]? = some (.cells #[pv,sv] 115 (0,0))) ∧
  (∃ v1 wa v2 wf,(Builtin.append_ #[46,46] 46 #[pv,.slice (some ⟨w.heap.size + 1,0,none⟩) 1 1]).run Tryz.prog ((w.alloc (.cells #[.pointer (some ⟨s,0,none⟩)] 73)).alloc (.cells #[.int .i64 ((n:Int) + 1),.float .f64 (stF p.1),.string p.2] 52)).drew = .ok v1 wa ∧ AddCG wa h q pv sv n p ∧
   (Builtin.append_ #[113,113] 113 #[sv,.slice (some ⟨w.heap.size,0,none⟩) 1 1]).run Tryz.prog wa = .ok v2 wf ∧ AddFinG w pv sv n l p ps (.pointer (some ⟨s,0,none⟩)) v1 v2 wf ∧ AddCG wf h q pv sv n p ∧ wf.heap[h]? = some (.cells #[pv,sv] 115 (0,0))):=by
 have B1:∀ o,Below w.heap.size w (w.alloc o).drew:=fun o => ((Below.refl _ _).alloc (Nat.le_refl _) _).drew
 have B2:∀ o o',Below w.heap.size w ((w.alloc o).alloc o').drew:=fun o o' => (((Below.refl _ _).alloc (Nat.le_refl _) _).alloc (by simp) _).drew
 have row_other:∀ (wa:World) (W:World) (k2:Nat),W.grownBy wa pv.ownBlock → W.ownsRow 0 52 3 pv n (ptsGC 0 l) → W.heap[k2]? = some (.cells #[.pointer (some ⟨s,0,none⟩)] 73 (0,0)) → wa.heap[k2]? = some (.cells #[.pointer (some ⟨s,0,none⟩)] 73 (0,0)):=fun wa W k2 hg ho hk => grown_heap hg hk (own_neq ho hk (by decide))
 refine ⟨?_,?_,?_⟩
 ·obtain ⟨v1,wa,r1,o1,o1',f1,b1,c1,-,d1,d2⟩:=add_runG hln (B1 _) hp hs hn hh hq hqp (heap_new w _)
  obtain ⟨v2,wf,r2,a2,c2,d3⟩:=add_run2G (f1.alloc (.cells #[.pointer (some ⟨s,0,none⟩)] 73)) (o1.alloc _) (o1'.alloc _) hn (heap_old d1 _) (heap_old d2 _) b1 (heap_new wa _)
  exact ⟨v1,wa,v2,wf,r1,c1,r2,a2,c2,d3⟩
 ·obtain ⟨v1,wa,r1,o1,o1',f1,b1,c1,g1,d1,d2⟩:=add_runG hln (B2 _ (.cells #[.pointer (some ⟨s,0,none⟩)] 73)) hp hs hn hh hq hqp (heap_old (heap_new w _) _)
  obtain ⟨v2,wf,r2,a2,c2,d3⟩:=add_run2G f1 o1 o1' hn d1 d2 b1 (row_other wa _ (w.heap.size + 1) g1 (own_below hp (B2 _ _)) (heap_new2 w _ _))
  exact ⟨v1,wa,v2,wf,r1,c1,r2,a2,c2,d3⟩
 ·obtain ⟨v1,wa,r1,o1,o1',f1,b1,c1,g1,d1,d2⟩:=add_runG (k1:=w.heap.size + 1) hln (B2 (.cells #[.pointer (some ⟨s,0,none⟩)] 73) (.cells #[.int .i64 ((n:Int) + 1),.float .f64 (stF p.1),.string p.2] 52)) hp hs hn hh hq hqp (heap_new2 w _ _)
  obtain ⟨v2,wf,r2,a2,c2,d3⟩:=add_run2G f1 o1 o1' hn d1 d2 b1 (row_other wa _ w.heap.size g1 (own_below hp (B2 _ _)) (heap_old (heap_new w _) _))
  exact ⟨v1,wa,v2,wf,r1,c1,r2,a2,c2,d3⟩
end Go.Proofs.YtaonlcgneemimaaGreatDoor
namespace Go.Proofs.YtaonlcgneemimaaGreatDoor
open Go.RowKit
theorem histM_tyG {K:Nat} {w:World} {h:Nat} {pv sv:Value} {xs:List HsX} (H:HistG K w h pv sv xs):∀ k ∈ histM h pv sv,∃ arr t,w.heap[k]? = some (.cells arr t (0,0)) ∧ (t = 115 ∨ t = 52 ∨ t = 73):=by
 intro k hk
 simp only [histM,List.mem_cons,List.mem_append,Option.mem_toList] at hk
 rcases hk with rfl | hk | hk
 ·exact ⟨_,_,H.cell,.inl rfl⟩
 ·obtain ⟨arr,ha⟩:=own_heap H.pts hk
  exact ⟨arr,_,ha,.inr (.inl rfl)⟩
 ·obtain ⟨arr,ha⟩:=own_heap H.sts hk
  exact ⟨arr,_,ha,.inr (.inr rfl)⟩
theorem StGt.apart {K:Nat} {w:World} {y:StXG} (hy:StGt w K y) {M:List Nat} (hM:∀ k ∈ M,∃ arr t,w.heap[k]? = some (.cells arr t (0,0)) ∧ (t = 115 ∨ t = 52 ∨ t = 73)):(∀ k ∈ y.blocks,k ∉ M) ∧ (∀ k ∈ M,∀ arr,w.heap[k]? ≠ some (.cells arr 134 (0,0))):=by
 refine ⟨fun k hk hm => ?_,fun k hk arr he => ?_⟩
 ·obtain ⟨arr,t,ha,ht⟩:=hM k hm
  simp only [StXG.blocks,List.mem_cons,List.not_mem_nil,or_false] at hk
  rcases hk with rfl | rfl | rfl | rfl
  ·exact cells_ty hy.at'.cell ha (by rcases ht with rfl | rfl | rfl <;> decide) rfl
  ·exact cells_ty hy.at'.tree.cell ha (by rcases ht with rfl | rfl | rfl <;> decide) rfl
  ·exact hy.at'.tree.map.cells ha
  ·exact hy.at'.bodies.map.cells ha
 ·obtain ⟨arr',t,ha,ht⟩:=hM k hk
  exact cells_ty he ha (by rcases ht with rfl | rfl | rfl <;> decide) rfl
theorem hist_no_oneG {K:Nat} {w:World} {h:Nat} {pv sv:Value} {xs:List HsX} (H:HistG K w h pv sv xs) (hone:pv.ownBlock ≠ some 1):1 ∉ histM h pv sv:=by
 obtain ⟨m,hm⟩:=H.glob
 intro hk
 simp only [histM,List.mem_cons,List.mem_append,Option.mem_toList] at hk
 rcases hk with rfl | hk | hk
 ·have:=cellAt H.cell 0
  rw [hm] at this
  simp at this
  rcases H.pts.2 with ⟨rfl,_⟩ | ⟨g,cap,cur,rfl,_⟩ <;> simp at this
 ·exact hone hk
 ·rcases H.snil with rfl | h0
  ·simp [Value.ownBlock] at hk
  ·obtain ⟨g,cap,cur,rfl,-,hg,hc,-,hs,ht⟩:=own_pos H.sts h0
   simp only [Value.ownBlock,Option.some.injEq] at hk
   subst hk
   have h1:=cellAt hg 0
   rw [hm] at h1
   obtain ⟨y,l,rfl⟩:∃ y l,xs = y :: l:=by
    cases xs with
    | nil => simp at h0
    | cons y l => exact ⟨y,l,rfl⟩
   have h2:(cur.toList.take ((y :: l).length * 1))[0]? = some (ptrG y):=by rw [ht];rfl
   rw [List.getElem?_take_of_lt (by simp)] at h2
   have h3:cur[0]? = some (ptrG y):=by simpa using h2
   rw [h3] at h1
   simp [ptrG] at h1
theorem StGt.histFrame {K K':Nat} {w w':World} {h:Nat} {pv sv:Value} {xs:List HsX} (H:HistG K w h pv sv xs) (hone:pv.ownBlock ≠ some 1) (hf:Frame (histM h pv sv) w w') {y:StXG} (hy:StGt w K' y):StGt w' K' y:=by
 have ha:=hy.apart (histM_tyG H)
 exact hy.frame hf ha.1 (hist_no_oneG H hone) ha.2
def AddPostG (K:Nat) (w:World) (h:Nat) (pv sv:Value) (xs:List HsX) (p:PtA) (i:ItemA) (w':World):Prop :=
 ∃ pv' sv' y',HistG (K + i.parts.length + 1) w' h pv' sv' (xs ++ [⟨y',p.1,p.2⟩]) ∧ y'.x = stepG (lastG xs) i ∧ (∀ k ∈ y'.blocks,w.heap.size ≤ k) ∧ Frame (histM h pv sv) w w' ∧ pv'.ownBlock ≠ some 1 ∧
  (pv'.ownBlock = pv.ownBlock ∨ ∀ k ∈ pv'.ownBlock.toList,w.heap.size ≤ k) ∧ (sv'.ownBlock = sv.ownBlock ∨ ∀ k ∈ sv'.ownBlock.toList,w.heap.size ≤ k)
theorem add_closeG {K:Nat} {w w4 wf:World} {h:Nat} {pv sv v1 v2:Value} {xs:List HsX} {y:StXG} {p:PtA} {i:ItemA} (H:HistG K w h pv sv xs) (hone:pv.ownBlock ≠ some 1) (hlen:xs.length + 1 ≤ 10000) (hb:Below w.heap.size w w4) (hY:StGt w4 (K + i.parts.length + 1) y) (hok:PtsOk (xs.map HsX.pt ++ [p])) (hyb:∀ k ∈ y.blocks,w.heap.size ≤ k)
  (hx:y.x = stepG (lastG xs) i) (hF:AddFinG w4 pv sv xs.length (xs.map HsX.pt) p (xs.map ptrG) (.pointer (some ⟨y.s,0,none⟩)) v1 v2 wf) (hh:wf.heap[h]? = some (.cells #[pv,sv] 115 (0,0))) :
  AddPostG K w h pv sv xs p i ((wf.setCell ⟨h,0,none⟩ v1).setCell ⟨h,1,none⟩ v2):=by
 have h1lt:1 < w.heap.size:=by
  obtain ⟨m,hm⟩:=H.glob
  exact World.block_lt_of_cell? w ⟨1,0,none⟩ hm
 have hf4:Frame (histM h pv sv) w4 ((wf.setCell ⟨h,0,none⟩ v1).setCell ⟨h,1,none⟩ v2) :=
  (((hF.fr.mono (M':=histM h pv sv) (fun x hx => .inl (by simp only [histM];exact List.mem_cons_of_mem _ hx))).setCell (p:=⟨h,0,none⟩) (.inl (by simp [histM])) v1).setCell (p:=⟨h,1,none⟩) (.inl (by simp [histM])) v2)
 have hfr:Frame (histM h pv sv) w ((wf.setCell ⟨h,0,none⟩ v1).setCell ⟨h,1,none⟩ v2):=(Frame.of_below hb _).trans hf4 (fun x hx => .inl hx)
 have hMlt:∀ k ∈ histM h pv sv,k < w.heap.size:=fun k hk => by
  obtain ⟨arr,t,ha,-⟩:=histM_tyG H k hk
  exact heap_lt ha
 have H4:=H.below hb
 have hb1:v1.ownBlock = pv.ownBlock ∨ ∀ k ∈ v1.ownBlock.toList,w.heap.size ≤ k:=hF.b1.imp id (fun h k hk => Nat.le_trans hb.size (h k hk))
 refine ⟨v1,v2,y,⟨?_,?_,?_,.inr (by simp),.inr (by simp),?_,by simpa [HsX.pt] using hok,?_,by simpa using hlen⟩,hx,hyb,hfr,?_,hb1,hF.b2.imp id (fun h k hk => Nat.le_trans hb.size (h k hk))⟩
 ·simpa using setAt (setAt hh 0 v1) 1 v2
 ·have:=own_setCell (i:=1) (u:=v2) (own_setCell (i:=0) (u:=v1) hF.pts (own_neq hF.pts hh (by decide))) (own_neq hF.pts hh (by decide))
  rw [show (xs ++ [(⟨y,p.1,p.2⟩:HsX)]).map HsX.pt = xs.map HsX.pt ++ [p] by simp [HsX.pt],show (xs ++ [(⟨y,p.1,p.2⟩:HsX)]).length = xs.length + 1 by simp]
  exact this
 ·have:=own_setCell (i:=1) (u:=v2) (own_setCell (i:=0) (u:=v1) hF.sts (own_neq hF.sts hh (by decide))) (own_neq hF.sts hh (by decide))
  simpa [ptrG,HsX.pt] using this
 ·intro z hz
  simp only [List.mem_append,List.mem_singleton] at hz
  rcases hz with hz | rfl
  ·exact (StGt.histFrame H hone hfr (H.each z hz)).mono (by omega)
  ·refine StGt.frame hY hf4 (fun k hk hm => ?_) (hist_no_oneG H hone) ?_
   ·have:=hyb k hk
    have:=hMlt k hm
    omega
   ·intro k hk arr he
    obtain ⟨arr',t,ha,ht⟩:=histM_tyG H4 k hk
    exact cells_ty he ha (by rcases ht with rfl | rfl | rfl <;> decide) rfl
 ·obtain ⟨m,hm⟩:=H.glob
  exact ⟨m,(hfr.cell (p:=⟨1,0,none⟩) h1lt (hist_no_oneG H hone)).trans hm⟩
 ·rcases hb1 with h' | h'
  ·rw [h'];exact hone
  ·intro e
   have:=h' 1 (by rw [e];simp)
   omega
end Go.Proofs.YtaonlcgneemimaaGreatDoor
namespace Go.Proofs.YtaonlcgneemimaaGreatDoor
open Go.RowKit
set_option maxRecDepth 100000 in
set_option maxHeartbeats 4000000 in
theorem histAdd_g (K:Nat) (w:World) (h:Nat) (pv sv:Value) (xs:List HsX) (H:HistG K w h pv sv xs) (hone:pv.ownBlock ≠ some 1) (hlen:xs.length + 1 ≤ 10000) (st:Nat) (mk:ByteArray) (hok:PtsOk (xs.map HsX.pt ++ [(st,mk)])) (i:ItemA) (hi:OkG (lastG xs) K i) (hg:i.good) (lv:Value) (hl:Sl w 134 4 lv i.parts.length (partsC i.parts)) :
  Calls Tryz.prog 33 #[.pointer (some ⟨h,0,none⟩),.agg #[.int .i64 ((xs.length:Int) + 1),.float .f64 (stF st),.string mk],.agg #[.int .i64 i.op,.string i.path,.string i.to,.int .i64 i.off,.int .i64 i.size,.slice none 0 0,lv]] w fun e w' => e = .returned (.int .i64 0) ∧ AddPostG K w h pv sv xs (st,mk) i w':=by
 have HH:=Lib.hid H
 have H0:=Lib.hid H
 have HI:=Lib.hid hi
 have HG:=Lib.hid hg
 have HL:=Lib.hid hl
 have HOK:=Lib.hid hok
 obtain ⟨n,hn⟩:∃ n,Hid (n = xs.length):=⟨xs.length,Lib.hid rfl⟩
 rw [← hn.out] at hlen ⊢
 obtain ⟨la,lc,rfl,-,-,-⟩:=parts_cells hl
 have HX:Hid (∀ W,Below (w.heap.size + 2) ((w.alloc (.cells #[.int .i64 ((n:Int) + 1),.float .f64 (stF st),.string mk] 52)).alloc (.cells #[.int .i64 i.op,.string i.path,.string i.to,.int .i64 i.off,.int .i64 i.size,.slice none 0 0,.slice la i.parts.length lc] 84)) W → Below w.heap.size w W ∧ W.heap[w.heap.size]? = some (.cells #[.int .i64 ((n:Int) + 1),.float .f64 (stF st),.string mk] 52 (0,0)) ∧ W.heap[w.heap.size + 1]? = some (.cells #[.int .i64 i.op,.string i.path,.string i.to,.int .i64 i.off,.int .i64 i.size,.slice none 0 0,.slice la i.parts.length lc] 84 (0,0))):=Lib.hid (fun W hW => by
  have a0:Below w.heap.size w ((w.alloc (.cells #[.int .i64 ((n:Int) + 1),.float .f64 (stF st),.string mk] 52)).alloc (.cells #[.int .i64 i.op,.string i.path,.string i.to,.int .i64 i.off,.int .i64 i.size,.slice none 0 0,.slice la i.parts.length lc] 84)):=((Below.refl _ _).alloc (Nat.le_refl _) _).alloc (by simp) _
  exact ⟨a0.trans (hW.mono (by omega)),Below.heap hW (by simp) (heap_old (heap_new _ _) _),Below.heap hW (by simp) (heap_new2 w _ _)⟩)
 have HMAY:Hid (∀ W,Below w.heap.size w W → Calls Tryz.prog 74 #[.pointer (some ⟨h,0,none⟩),.agg #[.int .i64 ((n:Int) + 1),.float .f64 (stF st),.string mk]] W fun e w' => e = .returned (.bool true) ∧ Below W.heap.size W w'):=Lib.hid (fun W hW => by
  rw [hn.out]
  exact histMay_g K W h pv sv xs (HH.out.below hW) st mk hok)
 have HMAY2:Hid (∀ W,Below w.heap.size w W → Calls Tryz.prog 75 #[.agg #[.int .i64 i.op,.string i.path,.string i.to,.int .i64 i.off,.int .i64 i.size,.slice none 0 0,.slice la i.parts.length lc]] W fun e w' => e = .returned (.bool true) ∧ Below W.heap.size W w'):=Lib.hid (fun W hW => itemMay_any i [.int .i64 i.op,.string i.path,.string i.to,.int .i64 i.off,.int .i64 i.size,.slice none 0 0,.slice la i.parts.length lc] W ⟨_,rfl,HL.out.below hW⟩ hg)
 have HX0:=HX.out _ (Below.refl _ _)
 have x0:=cellAt HX0.2.2 0
 have x1:=cellAt HX0.2.2 1
 have HX0:=Lib.hid HX0
 clear H hi hg hl hok
 go_enter Tryz.func33,Tryz.ntmps33
 go_wp2_with (first | (go_at_call 74;refine (HMAY.out _ HX0.out.1).mono ?_;rintro e w1 ⟨rfl,hq⟩;have HB1:Hid (Below (w.heap.size + 2) ((w.alloc (.cells #[.int .i64 ((n:Int) + 1),.float .f64 (stF st),.string mk] 52)).alloc (.cells #[.int .i64 i.op,.string i.path,.string i.to,.int .i64 i.off,.int .i64 i.size,.slice none 0 0,.slice la i.parts.length lc] 84)) w1):=Lib.hid (hq.mono (by simp));have HX1:=Lib.hid (HX.out _ HB1.out);clear hq;have y0:=cellAt HX1.out.2.2 0;have y1:=cellAt HX1.out.2.2 1;have y2:=cellAt HX1.out.2.2 2;have y3:=cellAt HX1.out.2.2 3;have y4:=cellAt HX1.out.2.2 4;have y5:=cellAt HX1.out.2.2 5;have y6:=cellAt HX1.out.2.2 6) | (go_at_call 75;refine (HMAY2.out _ HX1.out.1).mono ?_;rintro e w2 ⟨rfl,hq⟩;have HB2:Hid (Below (w.heap.size + 2) ((w.alloc (.cells #[.int .i64 ((n:Int) + 1),.float .f64 (stF st),.string mk] 52)).alloc (.cells #[.int .i64 i.op,.string i.path,.string i.to,.int .i64 i.off,.int .i64 i.size,.slice none 0 0,.slice la i.parts.length lc] 84)) w2):=Lib.hid (HB1.out.trans (hq.mono (by have:=HB1.out.size;simp at this;omega)));clear hq) | (go_at_call 76;refine (histLast_g K _ _ _ _ _ (HH.out.below (HX.out _ HB2.out).1)).mono ?_;rintro e w3 ⟨y,rfl,h1,h2,h3,h4⟩;have HB3:Hid (Below (w.heap.size + 2) ((w.alloc (.cells #[.int .i64 ((n:Int) + 1),.float .f64 (stF st),.string mk] 52)).alloc (.cells #[.int .i64 i.op,.string i.path,.string i.to,.int .i64 i.off,.int .i64 i.size,.slice none 0 0,.slice la i.parts.length lc] 84)) w3):=Lib.hid (HB2.out.trans (h4.mono (by have:=HB2.out.size;simp at this;omega)));have HX3:=Lib.hid (HX.out _ HB3.out);have HY:=Lib.hid h1;have HYX:=Lib.hid h2;have HYB:Hid (∀ k ∈ y.blocks,w.heap.size + 2 ≤ k):=Lib.hid (fun k hk => by have:=h3 k hk;have:=HB2.out.size;simp at this;omega);clear h1 h2 h3 h4;have z0:=cellAt HX3.out.2.2 0;have z1:=cellAt HX3.out.2.2 1;have z2:=cellAt HX3.out.2.2 2;have z3:=cellAt HX3.out.2.2 3;have z4:=cellAt HX3.out.2.2 4;have z5:=cellAt HX3.out.2.2 5;have z6:=cellAt HX3.out.2.2 6) | (go_at_call 30;refine (applyS_g _ K y HY.out i (HYX.out.symm ▸ HI.out) _ (HL.out.below HX3.out.1)).mono ?_;rintro e w4 ⟨rfl,nb',g',h1,h2⟩;have HY4:=Lib.hid h1;have HB4:Hid (Below (w.heap.size + 2) ((w.alloc (.cells #[.int .i64 ((n:Int) + 1),.float .f64 (stF st),.string mk] 52)).alloc (.cells #[.int .i64 i.op,.string i.path,.string i.to,.int .i64 i.off,.int .i64 i.size,.slice none 0 0,.slice la i.parts.length lc] 84)) w4):=Lib.hid (h2.belowIf HB3.out (fun k hk => HYB.out k (by simp at hk;simp only [StXG.blocks,List.mem_cons,List.not_mem_nil,or_false];rcases hk with hk | hk | hk <;> simp [hk])) (by have:=HB3.out.size;simp at this;omega));clear h1 h2))
 have HX4:=HX.out _ HB4.out
 have HH4:=HH.out.below HX4.1
 have hlt4:=HB4.out.size
 have hhlt:=heap_lt HH.out.cell
 have hh4:h < w4.heap.size:=heap_lt HH4.cell
 have hq4:w.heap.size < w4.heap.size:=heap_lt HX4.2.1
 obtain ⟨⟨v1a,waa,v2a,wfa,ra1,⟨a1,a2,a3,a4,a5,a6,a7⟩,ra2,fa,⟨a8,a9,a10,a11,a12,a13,a14⟩,hfa⟩,⟨v1b,wab,v2b,wfb,rb1,⟨b1,b2,b3,b4,b5,b6,b7⟩,rb2,fb,⟨b8,b9,b10,b11,b12,b13,b14⟩,hfb⟩,⟨v1c,wac,v2c,wfc,rc1,⟨c1,c2,c3,c4,c5,c6,c7⟩,rc2,fc,⟨c8,c9,c10,c11,c12,c13,c14⟩,hfc⟩⟩:=add_ordersG (w:=w4) (h:=h) (q:=w.heap.size) (s:=y.s) (pv:=pv) (sv:=sv) (n:=n) (l:=xs.map HsX.pt) (p:=(st,mk)) (ps:=xs.map ptrG) (by rw [hn.out];simp) (by rw [hn.out];exact HH4.pts) (by rw [hn.out];exact HH4.sts) (by omega) HH4.cell HX4.2.1 (fun g hg => by have:=HH.out.pts.lt g hg;omega)
 obtain ⟨p1a,k1a,rfl⟩:=own_shape fa.pts
 obtain ⟨p2a,k2a,rfl⟩:=own_shape fa.sts
 obtain ⟨p1b,k1b,rfl⟩:=own_shape fb.pts
 obtain ⟨p2b,k2b,rfl⟩:=own_shape fb.sts
 obtain ⟨p1c,k1c,rfl⟩:=own_shape fc.pts
 obtain ⟨p2c,k2c,rfl⟩:=own_shape fc.sts
 have d1:=cellAt HH4.cell 0
 have d2:=cellAt HH4.cell 1
 have d3:=frozenAt HH4.cell 0
 have d4:=frozenAt HH4.cell 1
 have d5:=cellAt HX4.2.1 0
 have d6:=cellAt HX4.2.1 1
 have d7:=cellAt HX4.2.1 2
 simp only [List.getElem?_toArray,List.getElem?_cons_zero,List.getElem?_cons_succ] at d1 d2 d5 d6 d7
 have FA:=Lib.hid fa
 have FB:=Lib.hid fb
 have FC:=Lib.hid fc
 have HFA:=Lib.hid hfa
 have HFB:=Lib.hid hfb
 have HFC:=Lib.hid hfc
 have HH4:=Lib.hid HH4
 have HX4:=Lib.hid HX4
 clear fa fb fc hfa hfb hfc x0 x1 y0 y1 y2 y3 y4 y5 y6 z0 z1 z2 z3 z4 z5 z6
 have hS0:∀ L,TillS 8 15 7 (fun W => W.cell? ⟨h,0,none⟩ = some pv) (fun W => W.cell? ⟨h,1,none⟩ = some sv) (fun W => W.cell? ⟨w.heap.size,0,none⟩ = some (.int .i64 ((n:Int) + 1)) ∧ W.cell? ⟨w.heap.size,1,none⟩ = some (.float .f64 (stF st)) ∧ W.cell? ⟨w.heap.size,2,none⟩ = some (.string mk)) L w4.drew:=fun L => ⟨fun _ => d1,fun _ => d2,fun _ => ⟨d5,d6,d7⟩⟩
 refine wp_region_T (TillS 8 15 7 (fun W => W.cell? ⟨h,0,none⟩ = some pv) (fun W => W.cell? ⟨h,1,none⟩ = some sv) (fun W => W.cell? ⟨w.heap.size,0,none⟩ = some (.int .i64 ((n:Int) + 1)) ∧ W.cell? ⟨w.heap.size,1,none⟩ = some (.float .f64 (stF st)) ∧ W.cell? ⟨w.heap.size,2,none⟩ = some (.string mk))) rfl ?_
 simp only [List.size_toArray,List.length_cons,List.length_nil,Nat.reduceAdd,Array.replicate_succ,Array.replicate_zero,List.push_toArray,List.nil_append,List.cons_append]
 refine anyT_take (i:=0) (p:=16) (v:=?tv1) rfl rfl (by kernel_rfl) (fun L w => TillS_set (by decide) (by decide) (by decide) L w) (by kernel_rfl) (by kernel_rfl) (by kernel_rfl) (by kernel_rfl) (fun _ _ _ h => h) (Or.inl ⟨by rfl,fun w _ => ?ty1⟩) (hS0 _) ?tr1
 case ty1 => go_simp;(try with_reducible rfl)
 simp only [Act.put,List.setIfInBounds_toArray,List.set_cons_zero,List.set_cons_succ]
 refine anyT_take (i:=1) (p:=19) (v:=?tv2) rfl rfl (by kernel_rfl) (fun L w => TillS_set (by decide) (by decide) (by decide) L w) (by kernel_rfl) (by kernel_rfl) (by kernel_rfl) (by kernel_rfl) (fun _ _ _ h => h) (Or.inl ⟨by rfl,fun w _ => ?ty2⟩) (hS0 _) ?tr2
 case ty2 => go_simp;(try with_reducible rfl)
 simp only [Act.put,List.setIfInBounds_toArray,List.set_cons_zero,List.set_cons_succ]
 refine anyT_take (i:=2) (p:=3) (v:=?tv3) rfl rfl (by kernel_rfl) (fun L w => TillS_set (by decide) (by decide) (by decide) L w) (by kernel_rfl) (by kernel_rfl) (by kernel_rfl) (by kernel_rfl) (fun _ _ _ h => h) (Or.inl ⟨by rfl,fun w _ => ?ty3⟩) (hS0 _) ?tr3
 case ty3 => go_simp;(try with_reducible rfl)
 simp only [Act.put,List.setIfInBounds_toArray,List.set_cons_zero,List.set_cons_succ]
 refine anyT_take (i:=3) (p:=4) (v:=?tv4) rfl rfl (by kernel_rfl) (fun L w => TillS_set (by decide) (by decide) (by decide) L w) (by kernel_rfl) (by kernel_rfl) (by kernel_rfl) (by kernel_rfl) (fun _ _ _ h => h) (Or.inl ⟨by rfl,fun w _ => ?ty4⟩) (hS0 _) ?tr4
 case ty4 => go_simp;(try with_reducible rfl)
 simp only [Act.put,List.setIfInBounds_toArray,List.set_cons_zero,List.set_cons_succ]
 refine anyT_take (i:=4) (p:=5) (v:=?tv5) rfl rfl (by kernel_rfl) (fun L w => TillS_set (by decide) (by decide) (by decide) L w) (by kernel_rfl) (by kernel_rfl) (by kernel_rfl) (by kernel_rfl) (fun _ _ _ h => h) (Or.inl ⟨by rfl,fun w _ => ?ty5⟩) (hS0 _) ?tr5
 case ty5 => go_simp;(try with_reducible rfl)
 simp only [Act.put,List.setIfInBounds_toArray,List.set_cons_zero,List.set_cons_succ]
 refine anyT_take (i:=5) (p:=8) (v:=?tv6) rfl rfl (by kernel_rfl) (fun L w => TillS_set (by decide) (by decide) (by decide) L w) (by kernel_rfl) (by kernel_rfl) (by kernel_rfl) (by kernel_rfl) (fun _ _ _ h => h) (Or.inl ⟨by rfl,fun w hw => ?ty6⟩) (hS0 _) ?tr6
 case ty6 => obtain ⟨L,hL,hS⟩:=hw;have hc:=hS.1 hL;(try obtain ⟨hc0,hc1,hc2⟩:=hc);go_simp;(try with_reducible rfl)
 simp only [Act.put,List.setIfInBounds_toArray,List.set_cons_zero,List.set_cons_succ]
 refine anyT_take (i:=6) (p:=7) (v:=?tv7) rfl rfl (by kernel_rfl) (fun L w => TillS_set (by decide) (by decide) (by decide) L w) (by kernel_rfl) (by kernel_rfl) (by kernel_rfl) (by kernel_rfl) (fun _ _ _ h => h) (Or.inl ⟨by rfl,fun w hw => ?ty7⟩) (hS0 _) ?tr7
 case ty7 => obtain ⟨L,hL,hS⟩:=hw;have hc:=hS.2.2 hL;(try obtain ⟨hc0,hc1,hc2⟩:=hc);go_simp;(try with_reducible rfl)
 simp only [Act.put,List.setIfInBounds_toArray,List.set_cons_zero,List.set_cons_succ]
 refine anyT_take (i:=9) (p:=10) (v:=?tv8) rfl rfl (by kernel_rfl) (fun L w => TillS_set (by decide) (by decide) (by decide) L w) (by kernel_rfl) (by kernel_rfl) (by kernel_rfl) (by kernel_rfl) (fun _ _ _ h => h) (Or.inl ⟨by rfl,fun w _ => ?ty8⟩) (hS0 _) ?tr8
 case ty8 => go_simp;(try with_reducible rfl)
 simp only [Act.put,List.setIfInBounds_toArray,List.set_cons_zero,List.set_cons_succ]
 refine anyT_take (i:=10) (p:=11) (v:=?tv9) rfl rfl (by kernel_rfl) (fun L w => TillS_set (by decide) (by decide) (by decide) L w) (by kernel_rfl) (by kernel_rfl) (by kernel_rfl) (by kernel_rfl) (fun _ _ _ h => h) (Or.inl ⟨by rfl,fun w _ => ?ty9⟩) (hS0 _) ?tr9
 case ty9 => go_simp;(try with_reducible rfl)
 simp only [Act.put,List.setIfInBounds_toArray,List.set_cons_zero,List.set_cons_succ]
 refine anyT_take (i:=11) (p:=12) (v:=?tv10) rfl rfl (by kernel_rfl) (fun L w => TillS_set (by decide) (by decide) (by decide) L w) (by kernel_rfl) (by kernel_rfl) (by kernel_rfl) (by kernel_rfl) (fun _ _ _ h => h) (Or.inl ⟨by rfl,fun w _ => ?ty10⟩) (hS0 _) ?tr10
 case ty10 => go_simp;(try with_reducible rfl)
 simp only [Act.put,List.setIfInBounds_toArray,List.set_cons_zero,List.set_cons_succ]
 refine anyT_take (i:=12) (p:=15) (v:=?tv11) rfl rfl (by kernel_rfl) (fun L w => TillS_set (by decide) (by decide) (by decide) L w) (by kernel_rfl) (by kernel_rfl) (by kernel_rfl) (by kernel_rfl) (fun _ _ _ h => h) (Or.inl ⟨by rfl,fun w hw => ?ty11⟩) (hS0 _) ?tr11
 case ty11 => obtain ⟨L,hL,hS⟩:=hw;have hc:=hS.2.1 hL;(try obtain ⟨hc0,hc1,hc2⟩:=hc);go_simp;(try with_reducible rfl)
 simp only [Act.put,List.setIfInBounds_toArray,List.set_cons_zero,List.set_cons_succ]
 refine anyT_take (i:=13) (p:=14) (v:=?tv12) rfl rfl (by kernel_rfl) (fun L w => TillS_set (by decide) (by decide) (by decide) L w) (by kernel_rfl) (by kernel_rfl) (by kernel_rfl) (by kernel_rfl) (fun _ _ _ h => h) (Or.inl ⟨by rfl,fun w _ => ?ty12⟩) (hS0 _) ?tr12
 case ty12 => go_simp;(try with_reducible rfl)
 simp only [Act.put,List.setIfInBounds_toArray,List.set_cons_zero,List.set_cons_succ]
 have hC:∀ L W,(W.cell? ⟨h,0,none⟩ = some pv ∧ W.cell? ⟨h,1,none⟩ = some sv ∧ W.cell? ⟨w.heap.size,0,none⟩ = some (.int .i64 ((n:Int) + 1)) ∧ W.cell? ⟨w.heap.size,1,none⟩ = some (.float .f64 (stF st)) ∧ W.cell? ⟨w.heap.size,2,none⟩ = some (.string mk)) → TillS 8 15 7 (fun W => W.cell? ⟨h,0,none⟩ = some pv) (fun W => W.cell? ⟨h,1,none⟩ = some sv) (fun W => W.cell? ⟨w.heap.size,0,none⟩ = some (.int .i64 ((n:Int) + 1)) ∧ W.cell? ⟨w.heap.size,1,none⟩ = some (.float .f64 (stF st)) ∧ W.cell? ⟨w.heap.size,2,none⟩ = some (.string mk)) L W:=fun L W hc => ⟨fun _ => hc.1,fun _ => hc.2.1,fun _ => hc.2.2⟩
 have hT:=fun L (W:World) (hW:Below w4.heap.size w4 W) => hC L W ⟨(hW.cell (p:=⟨h,0,none⟩) hh4).trans d1,(hW.cell (p:=⟨h,1,none⟩) hh4).trans d2,(hW.cell (p:=⟨w.heap.size,0,none⟩) hq4).trans d5,(hW.cell (p:=⟨w.heap.size,1,none⟩) hq4).trans d6,(hW.cell (p:=⟨w.heap.size,2,none⟩) hq4).trans d7⟩
 have hA:∀ o,(waa.alloc o).cell? ⟨h,0,none⟩ = some pv ∧ (waa.alloc o).cell? ⟨h,1,none⟩ = some sv ∧ (waa.alloc o).cell? ⟨w.heap.size,0,none⟩ = some (.int .i64 ((n:Int) + 1)) ∧ (waa.alloc o).cell? ⟨w.heap.size,1,none⟩ = some (.float .f64 (stF st)) ∧ (waa.alloc o).cell? ⟨w.heap.size,2,none⟩ = some (.string mk):=fun o => by
  have g1:∀ (b k:Nat) (u:Value),waa.cell? ⟨b,k,none⟩ = some u → (waa.alloc o).cell? ⟨b,k,none⟩ = some u:=fun b k u hu => (((Below.refl waa.heap.size waa).alloc (Nat.le_refl _) o).cell (p:=⟨b,k,none⟩) (World.block_lt_of_cell? waa _ hu)).trans hu
  exact ⟨g1 _ _ _ a1,g1 _ _ _ a2,g1 _ _ _ a5,g1 _ _ _ a6,g1 _ _ _ a7⟩
 have FIN:Hid (∀ v1 v2 wf,AddFinG w4 pv sv n (xs.map HsX.pt) (st,mk) (xs.map ptrG) (.pointer (some ⟨y.s,0,none⟩)) v1 v2 wf → wf.heap[h]? = some (.cells #[pv,sv] 115 (0,0)) → AddPostG K w h pv sv xs (st,mk) i ((wf.setCell ⟨h,0,none⟩ v1).setCell ⟨h,1,none⟩ v2)):=Lib.hid (fun v1 v2 wf hF hh => by
  have e1:n = xs.length:=hn.out
  subst e1
  exact add_closeG H0.out hone hlen HX4.out.1 HY4.out HOK.out (fun k hk => by have:=HYB.out k hk;omega) (by rw [HYX.out]) hF hh)
 refine anyT_all (rs:=[7,14]) (by kernel_rfl) (by simp) ?_
 intro j hj
 simp only [List.mem_cons,List.not_mem_nil,or_false] at hj
 rcases hj with rfl | rfl
 ·refine T_step rfl (fun K' hK => ?_)
  go_simp
  refine hK.out _ _ (hT _ _ (((Below.refl _ _).alloc (Nat.le_refl _) _).drew)) ?_
  simp only [Act.put,List.setIfInBounds_toArray,List.set_cons_zero,List.set_cons_succ]
  refine anyT_all (rs:=[8,14]) (by kernel_rfl) (by simp) ?_
  intro j hj
  simp only [List.mem_cons,List.not_mem_nil,or_false] at hj
  rcases hj with rfl | rfl
  rotate_left
  ·refine T_step rfl (fun K' hK => ?_)
   go_simp
   refine hK.out _ _ (hT _ _ ((((Below.refl _ _).alloc (Nat.le_refl _) _).alloc (by simp) _).drew)) ?_
   simp only [Act.put,List.setIfInBounds_toArray,List.set_cons_zero,List.set_cons_succ]
   refine anyT_all (rs:=[8]) (by kernel_rfl) (by simp) ?_
   intro j hj
   simp only [List.mem_singleton] at hj
   subst hj
   refine T_step rfl (fun K' hK => ?_)
   refine step_append_run rfl _ _ 46 rfl _ _ rb1 ?_
   refine hK.out _ _ (hC _ _ ⟨b1,b2,b5,b6,b7⟩) ?_
   simp only [Act.put,List.setIfInBounds_toArray,List.set_cons_zero,List.set_cons_succ]
   refine anyT_all (rs:=[15]) (by kernel_rfl) (by simp) ?_
   intro j hj
   simp only [List.mem_singleton] at hj
   subst hj
   refine T_step rfl (fun K' hK => ?_)
   refine step_append_run rfl _ _ 113 rfl _ _ rb2 ?_
   refine hK.out _ _ ⟨fun h => absurd h (by decide),fun h => absurd h (by decide),fun h => absurd h (by decide)⟩ ?_
   simp only [Act.put,List.setIfInBounds_toArray,List.set_cons_zero,List.set_cons_succ]
   refine anyT_take (i:=16) (p:=17) (v:=?uv1) rfl rfl (by kernel_rfl) (fun L w => TillS_set (by decide) (by decide) (by decide) L w) (by kernel_rfl) (by kernel_rfl) (by kernel_rfl) (by kernel_rfl) (fun _ _ _ h => h) (Or.inl ⟨by rfl,fun w _ => ?uy1⟩) ⟨fun h => absurd h (by decide),fun h => absurd h (by decide),fun h => absurd h (by decide)⟩ ?ur1
   case uy1 => go_simp;(try with_reducible rfl)
   simp only [Act.put,List.setIfInBounds_toArray,List.set_cons_zero,List.set_cons_succ]
   refine anyT_take (i:=17) (p:=18) (v:=?uv2) rfl rfl (by kernel_rfl) (fun L w => TillS_set (by decide) (by decide) (by decide) L w) (by kernel_rfl) (by kernel_rfl) (by kernel_rfl) (by kernel_rfl) (fun _ _ _ h => h) (Or.inl ⟨by rfl,fun w _ => ?uy2⟩) ⟨fun h => absurd h (by decide),fun h => absurd h (by decide),fun h => absurd h (by decide)⟩ ?ur2
   case uy2 => go_simp;(try with_reducible rfl)
   simp only [Act.put,List.setIfInBounds_toArray,List.set_cons_zero,List.set_cons_succ]
   refine anyT_all (rs:=[18]) (by kernel_rfl) (by simp) ?_
   intro j hj
   simp only [List.mem_singleton] at hj
   subst hj
   refine T_step rfl (fun K' hK => ?_)
   go_simp
   refine hK.out _ _ ⟨fun h => absurd h (by decide),fun h => absurd h (by decide),fun h => absurd h (by decide)⟩ ?_
   simp only [Act.put,List.setIfInBounds_toArray,List.set_cons_zero,List.set_cons_succ]
   refine anyT_take (i:=19) (p:=20) (v:=?uv3) rfl rfl (by kernel_rfl) (fun L w => TillS_set (by decide) (by decide) (by decide) L w) (by kernel_rfl) (by kernel_rfl) (by kernel_rfl) (by kernel_rfl) (fun _ _ _ h => h) (Or.inl ⟨by rfl,fun w _ => ?uy3⟩) ⟨fun h => absurd h (by decide),fun h => absurd h (by decide),fun h => absurd h (by decide)⟩ ?ur3
   case uy3 => go_simp;(try with_reducible rfl)
   simp only [Act.put,List.setIfInBounds_toArray,List.set_cons_zero,List.set_cons_succ]
   refine anyT_take (i:=20) (p:=21) (v:=?uv4) rfl rfl (by kernel_rfl) (fun L w => TillS_set (by decide) (by decide) (by decide) L w) (by kernel_rfl) (by kernel_rfl) (by kernel_rfl) (by kernel_rfl) (fun _ _ _ h => h) (Or.inl ⟨by rfl,fun w _ => ?uy4⟩) ⟨fun h => absurd h (by decide),fun h => absurd h (by decide),fun h => absurd h (by decide)⟩ ?ur4
   case uy4 => go_simp;(try with_reducible rfl)
   simp only [Act.put,List.setIfInBounds_toArray,List.set_cons_zero,List.set_cons_succ]
   refine anyT_all (rs:=[21]) (by kernel_rfl) (by simp) ?_
   intro j hj
   simp only [List.mem_singleton] at hj
   subst hj
   refine T_step rfl (fun K' hK => ?_)
   go_simp
   refine hK.out _ _ ⟨fun h => absurd h (by decide),fun h => absurd h (by decide),fun h => absurd h (by decide)⟩ ?_
   simp only [Act.put,List.setIfInBounds_toArray,List.set_cons_zero,List.set_cons_succ]
   refine anyT_done (by kernel_rfl) ?_ _
   go_wp2
   go_ret
   exact ⟨rfl,FIN.out _ _ _ FB.out HFB.out⟩
  ·refine T_step rfl (fun K' hK => ?_)
   refine step_append_run rfl _ _ 46 rfl _ _ ra1 ?_
   refine hK.out _ _ (hC _ _ ⟨a1,a2,a5,a6,a7⟩) ?_
   simp only [Act.put,List.setIfInBounds_toArray,List.set_cons_zero,List.set_cons_succ]
   refine anyT_all (rs:=[14]) (by kernel_rfl) (by simp) ?_
   intro j hj
   simp only [List.mem_singleton] at hj
   subst hj
   refine T_step rfl (fun K' hK => ?_)
   go_simp
   refine hK.out _ _ (hC _ _ (hA _)) ?_
   simp only [Act.put,List.setIfInBounds_toArray,List.set_cons_zero,List.set_cons_succ]
   refine anyT_all (rs:=[15]) (by kernel_rfl) (by simp) ?_
   intro j hj
   simp only [List.mem_singleton] at hj
   subst hj
   refine T_step rfl (fun K' hK => ?_)
   refine step_append_run rfl _ _ 113 rfl _ _ ra2 ?_
   refine hK.out _ _ ⟨fun h => absurd h (by decide),fun h => absurd h (by decide),fun h => absurd h (by decide)⟩ ?_
   simp only [Act.put,List.setIfInBounds_toArray,List.set_cons_zero,List.set_cons_succ]
   refine anyT_take (i:=16) (p:=17) (v:=?uv5) rfl rfl (by kernel_rfl) (fun L w => TillS_set (by decide) (by decide) (by decide) L w) (by kernel_rfl) (by kernel_rfl) (by kernel_rfl) (by kernel_rfl) (fun _ _ _ h => h) (Or.inl ⟨by rfl,fun w _ => ?uy5⟩) ⟨fun h => absurd h (by decide),fun h => absurd h (by decide),fun h => absurd h (by decide)⟩ ?ur5
   case uy5 => go_simp;(try with_reducible rfl)
   simp only [Act.put,List.setIfInBounds_toArray,List.set_cons_zero,List.set_cons_succ]
   refine anyT_take (i:=17) (p:=18) (v:=?uv6) rfl rfl (by kernel_rfl) (fun L w => TillS_set (by decide) (by decide) (by decide) L w) (by kernel_rfl) (by kernel_rfl) (by kernel_rfl) (by kernel_rfl) (fun _ _ _ h => h) (Or.inl ⟨by rfl,fun w _ => ?uy6⟩) ⟨fun h => absurd h (by decide),fun h => absurd h (by decide),fun h => absurd h (by decide)⟩ ?ur6
   case uy6 => go_simp;(try with_reducible rfl)
   simp only [Act.put,List.setIfInBounds_toArray,List.set_cons_zero,List.set_cons_succ]
   refine anyT_all (rs:=[18]) (by kernel_rfl) (by simp) ?_
   intro j hj
   simp only [List.mem_singleton] at hj
   subst hj
   refine T_step rfl (fun K' hK => ?_)
   go_simp
   refine hK.out _ _ ⟨fun h => absurd h (by decide),fun h => absurd h (by decide),fun h => absurd h (by decide)⟩ ?_
   simp only [Act.put,List.setIfInBounds_toArray,List.set_cons_zero,List.set_cons_succ]
   refine anyT_take (i:=19) (p:=20) (v:=?uv7) rfl rfl (by kernel_rfl) (fun L w => TillS_set (by decide) (by decide) (by decide) L w) (by kernel_rfl) (by kernel_rfl) (by kernel_rfl) (by kernel_rfl) (fun _ _ _ h => h) (Or.inl ⟨by rfl,fun w _ => ?uy7⟩) ⟨fun h => absurd h (by decide),fun h => absurd h (by decide),fun h => absurd h (by decide)⟩ ?ur7
   case uy7 => go_simp;(try with_reducible rfl)
   simp only [Act.put,List.setIfInBounds_toArray,List.set_cons_zero,List.set_cons_succ]
   refine anyT_take (i:=20) (p:=21) (v:=?uv8) rfl rfl (by kernel_rfl) (fun L w => TillS_set (by decide) (by decide) (by decide) L w) (by kernel_rfl) (by kernel_rfl) (by kernel_rfl) (by kernel_rfl) (fun _ _ _ h => h) (Or.inl ⟨by rfl,fun w _ => ?uy8⟩) ⟨fun h => absurd h (by decide),fun h => absurd h (by decide),fun h => absurd h (by decide)⟩ ?ur8
   case uy8 => go_simp;(try with_reducible rfl)
   simp only [Act.put,List.setIfInBounds_toArray,List.set_cons_zero,List.set_cons_succ]
   refine anyT_all (rs:=[21]) (by kernel_rfl) (by simp) ?_
   intro j hj
   simp only [List.mem_singleton] at hj
   subst hj
   refine T_step rfl (fun K' hK => ?_)
   go_simp
   refine hK.out _ _ ⟨fun h => absurd h (by decide),fun h => absurd h (by decide),fun h => absurd h (by decide)⟩ ?_
   simp only [Act.put,List.setIfInBounds_toArray,List.set_cons_zero,List.set_cons_succ]
   refine anyT_done (by kernel_rfl) ?_ _
   go_wp2
   go_ret
   exact ⟨rfl,FIN.out _ _ _ FA.out HFA.out⟩
 ·refine T_step rfl (fun K' hK => ?_)
  go_simp
  refine hK.out _ _ (hT _ _ (((Below.refl _ _).alloc (Nat.le_refl _) _).drew)) ?_
  simp only [Act.put,List.setIfInBounds_toArray,List.set_cons_zero,List.set_cons_succ]
  refine anyT_all (rs:=[7]) (by kernel_rfl) (by simp) ?_
  intro j hj
  simp only [List.mem_singleton] at hj
  subst hj
  refine T_step rfl (fun K' hK => ?_)
  go_simp
  refine hK.out _ _ (hT _ _ ((((Below.refl _ _).alloc (Nat.le_refl _) _).alloc (by simp) _).drew)) ?_
  simp only [Act.put,List.setIfInBounds_toArray,List.set_cons_zero,List.set_cons_succ]
  refine anyT_all (rs:=[8]) (by kernel_rfl) (by simp) ?_
  intro j hj
  simp only [List.mem_singleton] at hj
  subst hj
  refine T_step rfl (fun K' hK => ?_)
  refine step_append_run rfl _ _ 46 rfl _ _ rc1 ?_
  refine hK.out _ _ (hC _ _ ⟨c1,c2,c5,c6,c7⟩) ?_
  simp only [Act.put,List.setIfInBounds_toArray,List.set_cons_zero,List.set_cons_succ]
  refine anyT_all (rs:=[15]) (by kernel_rfl) (by simp) ?_
  intro j hj
  simp only [List.mem_singleton] at hj
  subst hj
  refine T_step rfl (fun K' hK => ?_)
  refine step_append_run rfl _ _ 113 rfl _ _ rc2 ?_
  refine hK.out _ _ ⟨fun h => absurd h (by decide),fun h => absurd h (by decide),fun h => absurd h (by decide)⟩ ?_
  simp only [Act.put,List.setIfInBounds_toArray,List.set_cons_zero,List.set_cons_succ]
  refine anyT_take (i:=16) (p:=17) (v:=?uv9) rfl rfl (by kernel_rfl) (fun L w => TillS_set (by decide) (by decide) (by decide) L w) (by kernel_rfl) (by kernel_rfl) (by kernel_rfl) (by kernel_rfl) (fun _ _ _ h => h) (Or.inl ⟨by rfl,fun w _ => ?uy9⟩) ⟨fun h => absurd h (by decide),fun h => absurd h (by decide),fun h => absurd h (by decide)⟩ ?ur9
  case uy9 => go_simp;(try with_reducible rfl)
  simp only [Act.put,List.setIfInBounds_toArray,List.set_cons_zero,List.set_cons_succ]
  refine anyT_take (i:=17) (p:=18) (v:=?uv10) rfl rfl (by kernel_rfl) (fun L w => TillS_set (by decide) (by decide) (by decide) L w) (by kernel_rfl) (by kernel_rfl) (by kernel_rfl) (by kernel_rfl) (fun _ _ _ h => h) (Or.inl ⟨by rfl,fun w _ => ?uy10⟩) ⟨fun h => absurd h (by decide),fun h => absurd h (by decide),fun h => absurd h (by decide)⟩ ?ur10
  case uy10 => go_simp;(try with_reducible rfl)
  simp only [Act.put,List.setIfInBounds_toArray,List.set_cons_zero,List.set_cons_succ]
  refine anyT_all (rs:=[18]) (by kernel_rfl) (by simp) ?_
  intro j hj
  simp only [List.mem_singleton] at hj
  subst hj
  refine T_step rfl (fun K' hK => ?_)
  go_simp
  refine hK.out _ _ ⟨fun h => absurd h (by decide),fun h => absurd h (by decide),fun h => absurd h (by decide)⟩ ?_
  simp only [Act.put,List.setIfInBounds_toArray,List.set_cons_zero,List.set_cons_succ]
  refine anyT_take (i:=19) (p:=20) (v:=?uv11) rfl rfl (by kernel_rfl) (fun L w => TillS_set (by decide) (by decide) (by decide) L w) (by kernel_rfl) (by kernel_rfl) (by kernel_rfl) (by kernel_rfl) (fun _ _ _ h => h) (Or.inl ⟨by rfl,fun w _ => ?uy11⟩) ⟨fun h => absurd h (by decide),fun h => absurd h (by decide),fun h => absurd h (by decide)⟩ ?ur11
  case uy11 => go_simp;(try with_reducible rfl)
  simp only [Act.put,List.setIfInBounds_toArray,List.set_cons_zero,List.set_cons_succ]
  refine anyT_take (i:=20) (p:=21) (v:=?uv12) rfl rfl (by kernel_rfl) (fun L w => TillS_set (by decide) (by decide) (by decide) L w) (by kernel_rfl) (by kernel_rfl) (by kernel_rfl) (by kernel_rfl) (fun _ _ _ h => h) (Or.inl ⟨by rfl,fun w _ => ?uy12⟩) ⟨fun h => absurd h (by decide),fun h => absurd h (by decide),fun h => absurd h (by decide)⟩ ?ur12
  case uy12 => go_simp;(try with_reducible rfl)
  simp only [Act.put,List.setIfInBounds_toArray,List.set_cons_zero,List.set_cons_succ]
  refine anyT_all (rs:=[21]) (by kernel_rfl) (by simp) ?_
  intro j hj
  simp only [List.mem_singleton] at hj
  subst hj
  refine T_step rfl (fun K' hK => ?_)
  go_simp
  refine hK.out _ _ ⟨fun h => absurd h (by decide),fun h => absurd h (by decide),fun h => absurd h (by decide)⟩ ?_
  simp only [Act.put,List.setIfInBounds_toArray,List.set_cons_zero,List.set_cons_succ]
  refine anyT_done (by kernel_rfl) ?_ _
  go_wp2
  go_ret
  exact ⟨rfl,FIN.out _ _ _ FC.out HFC.out⟩
end Go.Proofs.YtaonlcgneemimaaGreatDoor
