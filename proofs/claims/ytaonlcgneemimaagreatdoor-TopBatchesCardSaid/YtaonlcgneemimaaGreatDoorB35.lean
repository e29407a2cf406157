/- TopBatches: the contracts of Y8, Y9, Y10, Y12, Y13, Y14, Y11, Y16, Y17, AQ1, Z6; no condition. -/
import Derived.Test.YtaonlcgneemimaaGreatDoorB34
import Derived.Test.YtaonlcgneemimaaGreatDoorB16
import Derived.Test.YtaonlcgneemimaaGreatDoorB22
import Derived.Deep.Cut
import Derived.Test.YtaonlcgneemimaaGreatDoorB23
import Derived.Test.YtaonlcgneemimaaGreatDoorB28
import Derived.Test.YtaonlcgneemimaaGreatDoorB25
namespace Go.Proofs.YtaonlcgneemimaaGreatDoor
open Go.RowKit
theorem EngAt.ty {w:World} {e:Nat} {x:EngX} (h:EngAt w e x):∀ y ∈ x.mut e,y < w.heap.size ∧ ∀ arr t,w.heap[y]? = some (.cells arr t (0,0)) → t = 151 ∨ t = 64 ∨ t = 33 ∨ t = 4 ∨ t = 227 ∨ t = 3:=by
 obtain ⟨ga,hga⟩:=h.space.row
 obtain ⟨ops,hd0⟩:=h.disk.cell
 obtain ⟨lr,hl0,-⟩:=h.disk.row
 obtain ⟨mn,mf,hm0,-⟩:=h.disk.map
 have hlt:=h.disk.lt
 have gen:∀ {y:Nat} {a0:Array Value} {u:Nat},w.heap[y]? = some (.cells a0 u (0,0)) → (u = 151 ∨ u = 64 ∨ u = 33 ∨ u = 4 ∨ u = 227 ∨ u = 3) → y < w.heap.size ∧ ∀ arr t,w.heap[y]? = some (.cells arr t (0,0)) → t = 151 ∨ t = 64 ∨ t = 33 ∨ t = 4 ∨ t = 227 ∨ t = 3:=fun {y} {a0} {u} hy hu => ⟨heap_lt hy,fun arr t hc => by
  rw [hy] at hc
  injection hc with hc
  injection hc with _ h2
  exact h2 ▸ hu⟩
 intro y hy
 simp only [EngX.mut,List.mem_cons,List.mem_append,Option.mem_toList] at hy
 rcases hy with rfl | rfl | rfl | rfl | rfl | rfl | rfl | hy | hy
 ·exact gen h.cell (by simp)
 ·exact gen hd0 (by simp)
 ·exact gen hl0 (by simp)
 ·exact ⟨hlt.2.2,fun arr t hc => absurd hc hm0.cells⟩
 ·exact gen hga (by simp)
 ·exact gen h.logJ.cell (by simp)
 ·exact gen h.logC.cell (by simp)
 ·obtain ⟨arr,ha⟩:=own_heap h.logJ.segs hy
  exact gen ha (by simp)
 ·obtain ⟨arr,ha⟩:=own_heap h.logC.segs hy
  exact gen ha (by simp)
structure EngGrew (x x':EngX) (num tJ tC mJ mC:Nat):Prop where
 d:x'.d = x.d
 l:x'.l = x.l
 cb:x'.cb = x.cb
 b:x'.b = x.b
 g:x'.g = x.g
 j:x'.j = x.j
 c:x'.c = x.c
 number:x'.number ≤ x.number + num
 nJ:x'.nJ = x.nJ + tJ
 nC:x'.nC = x.nC + tC
 ssJ:x'.ssJ.length = x.ssJ.length + mJ
 ssC:x'.ssC.length = x.ssC.length + mC
 k:x'.k = 0
theorem putC_any (w:World) (e:Nat) (x:EngX) (H:EngAt w e x) (lv:Value) (ls:List (List Int)) (hr:RowsB w lv ls) (hl:∀ l ∈ ls,1 ≤ l.length ∧ l.length ≤ 16384) (hk:x.k + sumMany ls ≤ 500000) (he:needN x.ssC.length x.nC (sumMany ls) ≤ sp_frees x.bs) :
  Calls Tryz.prog 73 #[.pointer (some ⟨e,0,none⟩),.pointer (some ⟨x.c,0,none⟩),lv] w fun e' w' => e' = .returned (.int .i64 0) ∧ ∃ x',EngMove w e x w' x' ∧ EngGrew x x' 0 0 (sumMany ls) 0 (needN x.ssC.length x.nC (sumMany ls)):=by
 refine (put_raw w e x.c x.d x.l x.cb x.b x.g x.k x.nC x.number x.j x.c x.svC x.ssC x.lastC x.bs H.cell H.logC H.disk H.space H.blen lv ls hr hl hk he (by have:=H.frees;omega)).mono ?_
 rintro e' w' ⟨rfl,sv',more,bs',last',h1,h2,h3,h4,h5,h6,h7⟩
 exact ⟨rfl,_,H.putC h1 h2 h3 h4 h6 h7,⟨rfl,rfl,rfl,rfl,rfl,rfl,rfl,Nat.le_refl _,rfl,rfl,rfl,by simp [h5],rfl⟩⟩
theorem putJ_any (w:World) (e:Nat) (x:EngX) (H:EngAt w e x) (lv:Value) (ls:List (List Int)) (hr:RowsB w lv ls) (hl:∀ l ∈ ls,1 ≤ l.length ∧ l.length ≤ 16384) (hk:x.k + sumMany ls ≤ 500000) (he:needN x.ssJ.length x.nJ (sumMany ls) ≤ sp_frees x.bs) :
  Calls Tryz.prog 73 #[.pointer (some ⟨e,0,none⟩),.pointer (some ⟨x.j,0,none⟩),lv] w fun e' w' => e' = .returned (.int .i64 0) ∧ ∃ x',EngMove w e x w' x' ∧ EngGrew x x' 0 (sumMany ls) 0 (needN x.ssJ.length x.nJ (sumMany ls)) 0:=by
 refine (put_raw w e x.j x.d x.l x.cb x.b x.g x.k x.nJ x.number x.j x.c x.svJ x.ssJ x.lastJ x.bs H.cell H.logJ H.disk H.space H.blen lv ls hr hl hk he (by have:=H.frees;omega)).mono ?_
 rintro e' w' ⟨rfl,sv',more,bs',last',h1,h2,h3,h4,h5,h6,h7⟩
 exact ⟨rfl,_,H.putJ h1 h2 h3 h4 h6 h7,⟨rfl,rfl,rfl,rfl,rfl,rfl,rfl,Nat.le_refl _,rfl,rfl,by simp [h5],rfl,rfl⟩⟩
theorem EngGrew.trans {x x1 x2:EngX} {n1 n2 tJ tC mJ mC tJ2 tC2 mJ2 mC2:Nat} (h:EngGrew x x1 n1 tJ tC mJ mC) (k:EngGrew x1 x2 n2 tJ2 tC2 mJ2 mC2):EngGrew x x2 (n1 + n2) (tJ + tJ2) (tC + tC2) (mJ + mJ2) (mC + mC2) :=
 ⟨k.d.trans h.d,k.l.trans h.l,k.cb.trans h.cb,k.b.trans h.b,k.g.trans h.g,k.j.trans h.j,k.c.trans h.c,by have:=h.number;have:=k.number;omega,by rw [k.nJ,h.nJ];omega,by rw [k.nC,h.nC];omega,by rw [k.ssJ,h.ssJ];omega,by rw [k.ssC,h.ssC];omega,k.k⟩
theorem slotsG_any (w:World) (e:Nat) (x:EngX) (H:EngAt w e x) (hn:x.number + 2 ≤ 2147483647) (hk:x.k ≤ 900000) :
  Calls Tryz.prog 47 #[.pointer (some ⟨e,0,none⟩)] w fun e' w' => e' = .returned (.int .i64 0) ∧ ∃ x',EngMove w e x w' x' ∧ EngGrew x x' 2 0 0 0 0:=by
 refine (slots_any w e x H hn hk).mono ?_
 rintro e' w' ⟨rfl,h1,h2⟩
 exact ⟨rfl,_,.slots h1 h2,⟨rfl,rfl,rfl,rfl,rfl,rfl,rfl,by simp,rfl,rfl,rfl,rfl,rfl⟩⟩
theorem RowsB.move {w W:World} {e:Nat} {x x':EngX} {lv:Value} {ls:List (List Int)} (h:RowsB w lv ls) (H:EngAt w e x) (hm:EngMove w e x W x') (ha:∀ g,lv.ownBlock = some g → g ∉ x.mut e):RowsB W lv ls :=
 h.frame hm.fr (fun g hg hl => ha g hl hg) (fun g hg arr hc => absurd ((H.ty g hg).2 arr 5 hc) (by decide))
end Go.Proofs.YtaonlcgneemimaaGreatDoor
namespace Go.Proofs.YtaonlcgneemimaaGreatDoor
open Go.RowKit
def AppendPost (w:World) (e:Nat) (x:EngX) (T M:Nat) (e':Ending) (w':World):Prop :=
 e' = .returned (.int .i64 0) ∧ ∃ x',EngMove w e x w' x' ∧ EngGrew x x' 4 M T (needN x.ssJ.length x.nJ M) (needN x.ssC.length x.nC T)
theorem row_one (w:World) (v:Value) (p:List Int) (hv:Sl w 5 1 v p.length (u8s p)) (h1:v.oneCell' = true):RowsB (w.alloc (.cells #[v] 33)) (.slice (some ⟨w.heap.size,0,none⟩) 1 1) [p]:=by
 refine ⟨[v],?_,fun i u l hu hl => ?_⟩
 ·exact Sl.block (xs:=[v]) (n:=1) (heap_new w _) rfl (by simpa using h1) (by decide) (by decide)
 ·cases i with
  | zero =>
   simp only [List.getElem?_cons_zero,Option.some.injEq] at hu hl
   subst hu
   subst hl
   exact hv.below (crc_below _ _)
  | succ i => simp at hu
set_option maxRecDepth 100000 in
set_option maxHeartbeats 4000000 in
theorem append_any (w:World) (e:Nat) (x:EngX) (H:EngAt w e x) (lv:Value) (ls:List (List Int)) (hr:RowsB w lv ls) (hl:∀ l ∈ ls,1 ≤ l.length ∧ l.length ≤ 16384) (v:Value) (p:List Int) (hv:Sl w 5 1 v p.length (u8s p)) (h0:1 ≤ p.length) (h1:p.length ≤ 16384)
  (hT:sumMany ls ≤ 100000) (hk:x.k ≤ 100000) (hn:x.number + 4 ≤ 2147483647) (hok:needN x.ssC.length x.nC (sumMany ls) + needN x.ssJ.length x.nJ (manyN p.length) ≤ sp_frees x.bs) :
  Calls Tryz.prog 32 #[.pointer (some ⟨e,0,none⟩),lv,v] w (AppendPost w e x (sumMany ls) (manyN p.length)):=by
 have HH:=Lib.hid H
 have HR:=Lib.hid hr
 have HL:=Lib.hid hl
 obtain ⟨va,vcap,rfl,-,-,-⟩:=hv.shape
 obtain ⟨Q,hQ⟩:∃ Q,Hid (Q = AppendPost w e x (sumMany ls) (manyN p.length)):=⟨_,Lib.hid rfl⟩
 obtain ⟨la,cap,hlv,hcap,-⟩:=hr.at
 obtain ⟨W1,hW1⟩:∃ W1,Hid (W1 = w.alloc (.cells #[.slice va p.length vcap] 33)):=⟨_,Lib.hid rfl⟩
 have B1:Hid (Below w.heap.size w W1):=Lib.hid (by rw [hW1.out];exact crc_below _ _)
 have R7:Hid (RowsB W1 (.slice (some ⟨w.heap.size,0,none⟩) 1 1) [p]):=Lib.hid (by rw [hW1.out];exact row_one w _ p hv rfl)
 have hs7:sumMany [p] = manyN p.length:=by simp [sumMany]
 have HP:Hid (∀ l ∈ [p],1 ≤ l.length ∧ l.length ≤ 16384):=Lib.hid (by simpa using ⟨h0,h1⟩)
 have hM:manyN p.length ≤ 304:=by unfold manyN;omega
 obtain ⟨T,hTT⟩:∃ T,Hid (T = sumMany ls):=⟨_,Lib.hid rfl⟩
 obtain ⟨M,hMM⟩:∃ M,Hid (M = manyN p.length):=⟨_,Lib.hid rfl⟩
 obtain ⟨nc,hnc⟩:∃ nc,Hid (nc = needN x.ssC.length x.nC T):=⟨_,Lib.hid rfl⟩
 obtain ⟨nj,hnj⟩:∃ nj,Hid (nj = needN x.ssJ.length x.nJ M):=⟨_,Lib.hid rfl⟩
 obtain ⟨fr,hfr⟩:∃ fr,Hid (fr = sp_frees x.bs):=⟨_,Lib.hid rfl⟩
 rw [← hTT.out,← hMM.out,← hnc.out,← hnj.out,← hfr.out] at hok
 rw [← hTT.out] at hT
 rw [← hMM.out] at hM
 have hfr96:fr ≤ 96:=by have:=H.frees;have:=hfr.out;omega
 have FN1:Hid (Calls Tryz.prog 70 #[lv] W1 fun e w' => e = .returned (.bool true) ∧ w' = W1):=Lib.hid (fine_any W1 lv ls (hr.below B1.out) hl)
 have FN2:Hid (Calls Tryz.prog 70 #[.slice (some ⟨w.heap.size,0,none⟩) 1 1] W1 fun e w' => e = .returned (.bool true) ∧ w' = W1):=Lib.hid (fine_any W1 _ [p] R7.out HP.out)
 have NC:Hid (Calls Tryz.prog 71 #[.pointer (some ⟨x.c,0,none⟩),lv] W1 fun e w' => e = .returned (.int .i64 nc) ∧ Below W1.heap.size W1 w'):=Lib.hid (by
  rw [hnc.out,hTT.out]
  exact needAll_any W1 x.c x.d x.nC x.svC x.ssC x.lastC (HH.out.logC.below B1.out) lv ls (HR.out.below B1.out) HL.out (by have:=hTT.out;omega))
 have NJ:Hid (∀ W,Below W1.heap.size W1 W → Calls Tryz.prog 71 #[.pointer (some ⟨x.j,0,none⟩),.slice (some ⟨w.heap.size,0,none⟩) 1 1] W fun e w' => e = .returned (.int .i64 nj) ∧ Below W.heap.size W w'):=Lib.hid (fun W hW => by
  rw [hnj.out,hMM.out,← hs7]
  exact needAll_any W x.j x.d x.nJ x.svJ x.ssJ x.lastJ ((HH.out.logJ.below B1.out).below hW) _ [p] (R7.out.below hW) HP.out (by have:=hMM.out;omega))
 have FR:Hid (∀ W,Below W1.heap.size W1 W → Calls Tryz.prog 72 #[.pointer (some ⟨x.b,0,none⟩)] W fun e w' => e = .returned (.int .i64 fr) ∧ W = w'):=Lib.hid (fun W hW => by
  rw [hfr.out]
  exact sp_free_any 0 x.b x.g x.bs W ((HH.out.space.below B1.out).below hW))
 have E1:Hid (EngAt W1 e x):=Lib.hid (H.below B1.out)
 have PC:Hid (∀ W,Below W1.heap.size W1 W → Calls Tryz.prog 73 #[.pointer (some ⟨e,0,none⟩),.pointer (some ⟨x.c,0,none⟩),lv] W fun e' w' => e' = .returned (.int .i64 0) ∧ ∃ x',EngMove W1 e x w' x' ∧ EngGrew x x' 0 0 T 0 nc):=Lib.hid (fun W hW => by
  rw [hnc.out,hTT.out]
  refine (putC_any W e x (E1.out.below hW) lv ls ((HR.out.below B1.out).below hW) HL.out (by have:=hTT.out;omega) (by rw [← hTT.out,← hnc.out,← hfr.out];omega)).mono ?_
  rintro e' w' ⟨rfl,x',h2,h3⟩
  exact ⟨rfl,x',(EngMove.refl E1.out hW).trans h2,h3⟩)
 have hav:∀ g,(Value.slice (some ⟨w.heap.size,0,none⟩) 1 1).ownBlock = some g → g ∉ x.mut e:=fun g hg hm => by
  have:=(HH.out.ty g hm).1
  simp only [Value.ownBlock,Option.some.injEq] at hg
  omega
 have PJ:Hid (∀ W x1,EngMove W1 e x W x1 → ∀ num,EngGrew x x1 num 0 T 0 nc → Calls Tryz.prog 73 #[.pointer (some ⟨e,0,none⟩),.pointer (some ⟨x.j,0,none⟩),.slice (some ⟨w.heap.size,0,none⟩) 1 1] W fun e' w' => e' = .returned (.int .i64 0) ∧ ∃ x',EngMove W1 e x w' x' ∧ EngGrew x x' num M T nj nc):=Lib.hid (fun W x1 hm num hg => by
  have hj:needN x1.ssJ.length x1.nJ (sumMany [p]) = nj:=by rw [hs7,hg.ssJ,hg.nJ,hnj.out,hMM.out];rfl
  have hfree:nj ≤ sp_frees x1.bs:=by
   have h2:=hm.eng.frees
   have h3:=HH.out.frees
   have h4:=hg.ssJ
   have h5:=hg.ssC
   have h6:=hfr.out
   omega
  have:=putJ_any W e x1 hm.eng (.slice (some ⟨w.heap.size,0,none⟩) 1 1) [p] (R7.out.move E1.out hm hav) HP.out (by rw [hg.k,hs7];have:=hMM.out;omega) (by rw [hj];exact hfree)
  rw [hg.j] at this
  refine this.mono ?_
  rintro e' w' ⟨rfl,x',h2,h3⟩
  refine ⟨rfl,x',hm.trans h2,?_⟩
  rw [hj,hs7,← hMM.out] at h3
  simpa using hg.trans h3)
 have SLO:Hid (∀ W x1,EngMove W1 e x W x1 → ∀ num tJ mJ,EngGrew x x1 num tJ T mJ nc → num ≤ 2 → Calls Tryz.prog 47 #[.pointer (some ⟨e,0,none⟩)] W fun e' w' => e' = .returned (.int .i64 0) ∧ ∃ x',EngMove W1 e x w' x' ∧ EngGrew x x' (num + 2) tJ T mJ nc):=Lib.hid (fun W x1 hm num tJ mJ hg hnum => by
  refine (slotsG_any W e x1 hm.eng (by have:=hg.number;omega) (by have:=hg.k;omega)).mono ?_
  rintro e' w' ⟨rfl,x',h2,h3⟩
  exact ⟨rfl,x',hm.trans h2,by simpa using hg.trans h3⟩)
 have FIN:Hid (∀ W x1 num,EngMove W1 e x W x1 → EngGrew x x1 num M T nj nc → num ≤ 4 → Q (.returned (.int .i64 0)) W):=Lib.hid (fun W x1 num hm hg hnum => by
  rw [hQ.out]
  refine ⟨rfl,x1,(EngMove.refl HH.out B1.out).trans hm,?_⟩
  rw [← hMM.out,← hTT.out,← hnj.out,← hnc.out]
  exact { hg with number:=by have:=hg.number;omega })
 have KE:Hid (∀ W x1,EngMove W1 e x W x1 → ∀ num tJ mJ,EngGrew x x1 num tJ T mJ nc → W.cell? ⟨e,6,none⟩ = some (.pointer (some ⟨x.j,0,none⟩))):=Lib.hid (fun W x1 hm num tJ mJ hg => by
  have h6:=(cell5 hm.eng.cell).2.2.2.2.1
  rw [hg.j] at h6
  exact h6)
 have KB:Hid (∀ W,Below W1.heap.size W1 W → W.cell? ⟨e,7,none⟩ = some (.pointer (some ⟨x.c,0,none⟩)) ∧ W.cell? ⟨e,6,none⟩ = some (.pointer (some ⟨x.j,0,none⟩)) ∧ W.cell? ⟨e,1,none⟩ = some (.pointer (some ⟨x.b,0,none⟩))):=Lib.hid (fun W hW => by
  have:=(E1.out.below hW).cell
  exact ⟨cellAt this 7,cellAt this 6,cellAt this 1⟩)
 have y7:=(KB.out W1 (Below.refl _ _)).1
 have hsum:IntKind.i64.wrap ((nc:Int) + (nj:Int)) = (nc:Int) + (nj:Int):=IntWalk.i64_in _ (by omega)
 have hq0:¬ ((fr:Int) < (nc:Int) + (nj:Int)):=by omega
 have hw1:=hW1.out
 rw [← hQ.out,hlv]
 clear H hr hl hv hav hs7 hM
 rw [hlv] at FN1 NC PC
 clear hlv
 by_cases hc0:(0:Int) < nc
 all_goals go_enter Tryz.func32,Tryz.ntmps32
 all_goals go_wp2_with fail
 all_goals (rw [← hw1])
 all_goals clear hw1
 all_goals go_wp2_with (first | (go_at_call 70;with_reducible refine FN1.out.mono ?_;rintro e1 w1 ⟨rfl,hw⟩;have hw:=hw.symm;subst hw) | (go_at_call 70;with_reducible refine FN2.out.mono ?_;rintro e1 w1 ⟨rfl,hw⟩;have hw:=hw.symm;subst hw) | (go_at_call 71;with_reducible refine NC.out.mono ?_;rintro e1 w2 ⟨rfl,hq⟩;have B2:=Lib.hid hq;clear hq))
 all_goals (have S1:=KB.out _ B2.out;have B2d:Hid (Below W1.heap.size W1 w2.drew):=Lib.hid B2.out.drew;have S1:=Lib.hid S1)
 all_goals go_region_held3 (fun W => W.cell? ⟨e,6,none⟩ = some (.pointer (some ⟨x.j,0,none⟩)) ∧ W.cell? ⟨e,1,none⟩ = some (.pointer (some ⟨x.b,0,none⟩))) (first | exact (KB.out _ B2d.out).2 | exact (KB.out _ B3.out).2) (first | (go_at_call 71;with_reducible refine (NJ.out _ B2d.out).mono ?_;rintro e1 w3 ⟨rfl,hq⟩;have B3:Hid (Below W1.heap.size W1 w3):=Lib.hid (B2d.out.trans (hq.mono B2d.out.size));clear hq) | (go_at_call 72;with_reducible refine (FR.out _ B3.out).mono ?_;rintro e1 w4 ⟨rfl,hw⟩;subst hw))
 all_goals (have y8:=(KB.out _ B3.out).1)
 all_goals go_wp2_with (first | (go_at_call 73;with_reducible refine (PC.out _ B3.out).mono ?_;rintro e1 w5 ⟨rfl,hx⟩;obtain ⟨x5,hm5,hg5⟩:=hx;have M5:=Lib.hid hm5;have G5:=Lib.hid hg5;clear hm5 hg5;have y9:=KE.out _ x5 M5.out _ _ _ G5.out) | (go_at_call 47;with_reducible refine (SLO.out _ x5 M5.out _ _ _ G5.out (by decide)).mono ?_;rintro e1 w6 ⟨rfl,hx⟩;obtain ⟨x6,hm6,hg6⟩:=hx;have M6:=Lib.hid hm6;have G6:=Lib.hid hg6;clear hm6 hg6;have y10:=KE.out _ x6 M6.out _ _ _ G6.out) | (go_at_call 73;(first | with_reducible refine (PJ.out _ x6 M6.out _ G6.out).mono ?_ | with_reducible refine (PJ.out _ x5 M5.out _ G5.out).mono ?_);rintro e1 w7 ⟨rfl,hx⟩;obtain ⟨x7,hm7,hg7⟩:=hx;have M7:=Lib.hid hm7;have G7:=Lib.hid hg7;clear hm7 hg7) | (go_at_call 47;with_reducible refine (SLO.out _ x7 M7.out _ _ _ G7.out (by decide)).mono ?_;rintro e1 w8 ⟨rfl,hx⟩;obtain ⟨x8,hm8,hg8⟩:=hx;have M8:=Lib.hid hm8;have G8:=Lib.hid hg8;clear hm8 hg8))
 ·exact FIN.out _ x8 _ M8.out G8.out (by decide)
 ·exact FIN.out _ x8 _ M8.out G8.out (by decide)
end Go.Proofs.YtaonlcgneemimaaGreatDoor
namespace Go.Proofs.YtaonlcgneemimaaGreatDoor
open Go.RowKit
def Typed (w:World) (M:List Nat) (S:List Nat):Prop:=∀ k ∈ M,(∃ arr t,w.heap[k]? = some (.cells arr t (0,0)) ∧ t ∈ S) ∨ (∃ es cl,w.heap[k]? = some (.map es cl))
theorem Typed.no {w:World} {M S:List Nat} (h:Typed w M S) {t:Nat} (ht:t ∉ S):∀ k ∈ M,∀ arr,w.heap[k]? ≠ some (.cells arr t (0,0)):=by
 intro k hk arr he
 rcases h k hk with ⟨a,u,h1,h2⟩ | ⟨es,cl,h1⟩
 ·rw [h1] at he
  injection he with he
  injection he with _ e2
  subst e2
  exact ht h2
 ·rw [h1] at he
  simp at he
theorem Typed.out {w:World} {M S:List Nat} (h:Typed w M S) {t k:Nat} {arr:Array Value} (hk:w.heap[k]? = some (.cells arr t (0,0))) (ht:t ∉ S):k ∉ M:=fun hm => h.no ht k hm arr hk
theorem Typed.lt {w:World} {M S:List Nat} (h:Typed w M S):∀ k ∈ M,k < w.heap.size:=by
 intro k hk
 rcases h k hk with ⟨a,u,h1,h2⟩ | ⟨es,cl,h1⟩ <;> exact heap_lt h1
theorem EngAt.typed {w:World} {e:Nat} {x:EngX} (h:EngAt w e x):Typed w (x.mut e) [151,64,33,4,227,3]:=by
 obtain ⟨ga,hga⟩:=h.space.row
 obtain ⟨ops,hd0⟩:=h.disk.cell
 obtain ⟨lr,hl0,-⟩:=h.disk.row
 obtain ⟨mn,mf,hm0,-⟩:=h.disk.map
 intro y hy
 simp only [EngX.mut,List.mem_cons,List.mem_append,Option.mem_toList] at hy
 rcases hy with rfl | rfl | rfl | rfl | rfl | rfl | rfl | hy | hy
 ·exact .inl ⟨_,_,h.cell,by simp⟩
 ·exact .inl ⟨_,_,hd0,by simp⟩
 ·exact .inl ⟨_,_,hl0,by simp⟩
 ·exact .inr hm0.obj
 ·exact .inl ⟨_,_,hga,by simp⟩
 ·exact .inl ⟨_,_,h.logJ.cell,by simp⟩
 ·exact .inl ⟨_,_,h.logC.cell,by simp⟩
 ·obtain ⟨arr,ha⟩:=own_heap h.logJ.segs hy
  exact .inl ⟨_,_,ha,by simp⟩
 ·obtain ⟨arr,ha⟩:=own_heap h.logC.segs hy
  exact .inl ⟨_,_,ha,by simp⟩
theorem ChunksAt.frame {M:List Nat} {w w':World} {B c:Nat} {P:List (List Int)} {bl bb:Nat} {vs:List Value} {fb:Int → Option Value} {m:Nat} {sz:Int} (h:ChunksAt w B c P bl bb vs fb m sz) (hf:Frame M w w') (hc:c ∉ M) (hl:bl ∉ M) (hb:bb ∉ M) (hr:∀ k v g,fb k = some v → v.ownBlock = some g → g ∉ M) (h5:∀ g ∈ M,∀ arr,w.heap[g]? ≠ some (.cells arr 5 (0,0))):ChunksAt w' B c P bl bb vs fb m sz:=by
 refine ⟨hf.heap h.cell hc,h.lo,h.ne,⟨h.pieces.1,fun i v p hv hp => ?_⟩,h.nodup,h.ml.same (hf.block _ h.ml.lt hl),h.mb.same (hf.block _ h.mb.lt hb),fun k v hv => ?_,h.empty,h.apart,h.small⟩
 ·obtain ⟨h1,h2⟩:=h.pieces.2 i v p hv hp
  exact ⟨h1.frame hf h5,h2⟩
 ·obtain ⟨h1,h2⟩:=h.rows k v hv
  exact ⟨row_kept h1 (fun g o hg ho => hf.heap hg (hr k v g hv ho)),h2⟩
theorem ChunksAt.weak {w:World} {B B' c:Nat} {P:List (List Int)} {bl bb:Nat} {vs:List Value} {fb:Int → Option Value} {m:Nat} {sz:Int} (h:ChunksAt w B c P bl bb vs fb m sz) (hB:B' ≤ B):ChunksAt w B' c P bl bb vs fb m sz :=
 ⟨h.cell,⟨Nat.le_trans hB h.lo.1,Nat.le_trans hB h.lo.2.1,Nat.le_trans hB h.lo.2.2⟩,h.ne,h.pieces,h.nodup,h.ml,h.mb,fun k v hv => ⟨own_mono (h.rows k v hv).1 hB,(h.rows k v hv).2⟩,h.empty,h.apart,h.small⟩
theorem EngAt.frame {M:List Nat} {w w':World} {e:Nat} {x:EngX} (h:EngAt w e x) (hf:Frame M w w') (hm:∀ k ∈ x.mut e,k ∉ M) (hb:x.b ∉ M):EngAt w' e x :=
 ⟨hf.heap h.cell (hm _ (by simp [EngX.mut])),h.disk.frame hf (hm _ (by simp [EngX.mut])) (hm _ (by simp [EngX.mut])) (hm _ (by simp [EngX.mut])),h.space.frame hf hb (hm _ (by simp [EngX.mut])),h.blen,
  h.logJ.frame hf (hm _ (by simp [EngX.mut])) (fun k hk => hm _ (by simp [EngX.mut,hk])),h.logC.frame hf (hm _ (by simp [EngX.mut])) (fun k hk => hm _ (by simp [EngX.mut,hk])),h.nodup,h.taken,h.frees,h.ne,h.apart⟩
theorem own_frame {M:List Nat} {w w':World} {B e sz n:Nat} {v:Value} {xs:List Value} (h:w.ownsRow B e sz v n xs) (hf:Frame M w w') (hn:∀ g,v.ownBlock = some g → g ∉ M):w'.ownsRow B e sz v n xs :=
 row_kept h (fun k o hk ho => hf.heap hk (hn k ho))
end Go.Proofs.YtaonlcgneemimaaGreatDoor
namespace Go.Proofs.YtaonlcgneemimaaGreatDoor
open Go.RowKit
theorem info86:(Tryz.prog.info? 86).map (fun i => (i.zero,i.size,i.bytes)) = some (some (.agg #[.float .f64 0,.int .i64 0,.string ⟨#[]⟩,.string ⟨#[]⟩,.int .i64 0,.int .i64 0,.slice none 0 0,.slice none 0 0]),8,112):=by kernel_rfl
theorem app_rows {W:World} {B q0 n:Nat} {rv:Value} {xs:List Value} (h0:W.heap[q0]? = some (.cells #[] 86 (0,0))) (hB:B ≤ q0) (hs:Sl W 86 8 rv n xs) (hn:n ≤ 100000) :
  ∃ v1 W',(Builtin.append_ #[75,75] 75 #[.slice (some ⟨q0,0,none⟩) 0 0,rv]).run Tryz.prog W = .ok v1 W' ∧ W'.ownsRow B 86 8 v1 n xs ∧ W.grownBy W' (some q0) ∧ v1 ≠ .slice none 0 0:=by
 obtain ⟨i0,hi,hz0,hz1,hz2⟩:=info_parts info86
 have ho:W.ownsRow B 86 8 (.slice (some ⟨q0,0,none⟩) 0 0) 0 []:=⟨rfl,.inr ⟨q0,0,#[],rfl,hB,h0,Nat.le_refl _,by decide,rfl,rfl⟩⟩
 obtain ⟨v',w',h1,h2,h3,h4,h5⟩:=append_run_sl (P:=Tryz.prog) (w:=W) B 75 75 86 i0 _ 8 112 Tryz.underlying75 hi hz0 hz1 hz2 rfl (by decide) _ 0 _ ho _ n _ hs (by omega) (by decide) (by have:=heap_lt h0;omega)
 refine ⟨v',w',h1,by simpa using h2,by simpa [Value.ownBlock] using h3,fun h => ?_⟩
 have:=h4.1 h
 simp at this
end Go.Proofs.YtaonlcgneemimaaGreatDoor
namespace Go.Proofs.YtaonlcgneemimaaGreatDoor
open Go.RowKit
def rowZ:Array Value:=#[.float .f64 0,.int .i64 0,.string ⟨#[]⟩,.string ⟨#[]⟩,.int .i64 0,.int .i64 0,.slice none 0 0,.slice none 0 0]
def rowW (W:World) (q:Nat) (a0 a1 a2 a3 a4 a5 a6 a7:Value):World:=(((((((W.setCell ⟨q,0,none⟩ a0).setCell ⟨q,1,none⟩ a1).setCell ⟨q,2,none⟩ a2).setCell ⟨q,3,none⟩ a3).setCell ⟨q,4,none⟩ a4).setCell ⟨q,5,none⟩ a5).setCell ⟨q,6,none⟩ a6).setCell ⟨q,7,none⟩ a7
theorem row_box {W:World} {q:Nat} (h:W.heap[q]? = some (.cells rowZ 86 (0,0))) (a0 a1 a2 a3 a4 a5 a6 a7:Value):(rowW W q a0 a1 a2 a3 a4 a5 a6 a7).heap[q]? = some (.cells #[a0,a1,a2,a3,a4,a5,a6,a7] 86 (0,0)) ∧ Frame [q] W (rowW W q a0 a1 a2 a3 a4 a5 a6 a7):=by
 unfold rowZ at h
 constructor
 ·have:=setAt (setAt (setAt (setAt (setAt (setAt (setAt (setAt h 0 a0) 1 a1) 2 a2) 3 a3) 4 a4) 5 a5) 6 a6) 7 a7
  simpa [rowW] using this
 ·unfold rowW
  exact (((((((((Frame.refl [q] W).setCell (p:=⟨q,0,none⟩) (.inl (by simp)) a0).setCell (p:=⟨q,1,none⟩) (.inl (by simp)) a1).setCell (p:=⟨q,2,none⟩) (.inl (by simp)) a2).setCell (p:=⟨q,3,none⟩) (.inl (by simp)) a3).setCell (p:=⟨q,4,none⟩) (.inl (by simp)) a4).setCell (p:=⟨q,5,none⟩) (.inl (by simp)) a5).setCell (p:=⟨q,6,none⟩) (.inl (by simp)) a6).setCell (p:=⟨q,7,none⟩) (.inl (by simp)) a7)
end Go.Proofs.YtaonlcgneemimaaGreatDoor
namespace Go.Proofs.YtaonlcgneemimaaGreatDoor
open Go.RowKit
theorem rowZ_at {w:World} {q:Nat} (h:w.heap[q]? = some (.cells rowZ 86 (0,0))):w.heap[q]? = some (.cells #[.float .f64 0,.int .i64 0,.string ⟨#[]⟩,.string ⟨#[]⟩,.int .i64 0,.int .i64 0,.slice none 0 0,.slice none 0 0] 86 (0,0)):=h
theorem keptC_row {w w':World} {q:Nat} (h:KeptC w w') (hk:w.heap[q]? = some (.cells rowZ 86 (0,0))):w'.heap[q]? = some (.cells rowZ 86 (0,0)):=h q _ _ hk (by decide) (by decide)
theorem rowZ_new (w:World):(w.alloc (.cells #[.float .f64 0,.int .i64 0,.string ⟨#[]⟩,.string ⟨#[]⟩,.int .i64 0,.int .i64 0,.slice none 0 0,.slice none 0 0] 86)).heap[w.heap.size]? = some (.cells rowZ 86 (0,0)):=heap_new w _
end Go.Proofs.YtaonlcgneemimaaGreatDoor
namespace Go.Proofs.YtaonlcgneemimaaGreatDoor
open Go.RowKit
structure FreshI (w wr:World) (P:List (List Int)) (t4 t5:Value) (k:Nat) (vs:List Value) (ls:List (List Int)) (ids:List Int):Prop where
 rows:wr.ownsRow w.heap.size 33 1 t4 ls.length vs
 ones:∀ u ∈ vs,u.oneCell' = true
 each:∀ (i:Nat) v l,vs[i]? = some v → ls[i]? = some l → Sl wr 5 1 v l.length (u8s l)
 nil:t4 = .slice none 0 0 ∨ 0 < ls.length
 ints:wr.ownsRow w.heap.size 3 1 t5 ids.length (ints ids)
 nil5:t5 = .slice none 0 0 ∨ 0 < ids.length
 size:∀ l ∈ ls,1 ≤ l.length ∧ l.length ≤ 200
 mem:∀ id ∈ ids,1 ≤ id ∧ id ≤ P.length
 few:ls.length ≤ k ∧ ids.length ≤ k
 below:Below w.heap.size w wr
theorem numB_pos (n:Nat):1 ≤ (numB n).length:=by
 by_cases h:n < 128
 ·rw [numB_lo h];simp
 ·rw [numB_hi (by omega)];simp
theorem recB_len (id:Nat) (hid:id ≤ 9223372036854775807) (b:List Int) (hb:b.length ≤ 64):1 ≤ (recB id b).length ∧ (recB id b).length ≤ 200:=by
 have h1:=textB_len (strOfNums b) (by rw [strOfNums_size];exact hb)
 have h2:=numB_9 hid
 have h3:=numB_pos id
 unfold recB
 simp only [List.length_append]
 omega
theorem FreshI.frame4 {w wr w3 w4:World} {P:List (List Int)} {t4 t5:Value} {k:Nat} {vs:List Value} {ls:List (List Int)} {ids:List Int} (h:FreshI w wr P t4 t5 k vs ls ids) (hb:Below wr.heap.size wr w3) (o:Obj) (hg:(w3.alloc o).grownBy w4 t4.ownBlock):Frame t4.ownBlock.toList wr w4 :=
 ((Frame.of_below hb _).alloc o).grown hg (fun k hk => .inl (by simp [hk]))
theorem own_ne2 {w:World} {B B' e1 e2 s1 s2 n m:Nat} {v1 v2:Value} {xs ys:List Value} (h1:w.ownsRow B e1 s1 v1 n xs) (h2:w.ownsRow B' e2 s2 v2 m ys) (hne:e1 ≠ e2):∀ g,v2.ownBlock = some g → g ∉ v1.ownBlock.toList:=by
 intro g hg hm
 obtain ⟨a1,ha1⟩:=own_heap h1 (by simpa using hm)
 obtain ⟨a2,ha2⟩:=own_heap h2 hg
 exact cells_ty ha1 ha2 hne rfl
theorem own_noty {w:World} {B e s n t:Nat} {v:Value} {xs:List Value} (h:w.ownsRow B e s v n xs) (hne:e ≠ t):∀ g ∈ v.ownBlock.toList,∀ arr,w.heap[g]? ≠ some (.cells arr t (0,0)):=by
 intro g hg arr ha
 obtain ⟨a1,ha1⟩:=own_heap h (by simpa using hg)
 exact cells_ty ha1 ha hne rfl
theorem FreshI.mid {w wr w3 w4:World} {P:List (List Int)} {t4 t5:Value} {k:Nat} {vs:List Value} {ls:List (List Int)} {ids:List Int} (h:FreshI w wr P t4 t5 k vs ls ids) (hb:Below wr.heap.size wr w3) (o:Obj) (hg:(w3.alloc o).grownBy w4 t4.ownBlock) (o2:Obj):(w4.alloc o2).ownsRow w.heap.size 3 1 t5 ids.length (Go.Proofs.YtaonlcgneemimaaGreatDoor.ints ids) :=
 own_below (own_frame h.ints (h.frame4 hb o hg) (own_ne2 h.rows h.ints (by decide))) ((Below.refl _ _).alloc (Nat.le_refl _) _)
theorem FreshI.step {w wr w3 w4 w5:World} {P:List (List Int)} {t4 t5 t4' t5' v':Value} {k B:Nat} {vs:List Value} {ls:List (List Int)} {ids:List Int} {p:List Int} {id:Int} (h:FreshI w wr P t4 t5 k vs ls ids) (hb:Below wr.heap.size wr w3) (hv:w3.ownsRow B 5 1 v' p.length (u8s p)) (hv1:v'.oneCell' = true)
  (hp:1 ≤ p.length ∧ p.length ≤ 200) (hid:1 ≤ id ∧ id ≤ P.length) (o:Obj) (hg4:(w3.alloc o).grownBy w4 t4.ownBlock) (o4:w4.ownsRow w.heap.size 33 1 t4' (ls.length + 1) (vs ++ [v'])) (o2:Obj) (hg5:(w4.alloc o2).grownBy w5 t5.ownBlock) (o5:w5.ownsRow w.heap.size 3 1 t5' (ids.length + 1) (Go.Proofs.YtaonlcgneemimaaGreatDoor.ints ids ++ [.int .i64 id])) :
  FreshI w w5 P t4' t5' (k + 1) (vs ++ [v']) (ls ++ [p]) (ids ++ [id]):=by
 have F4:=h.frame4 hb o hg4
 have h5:=h.mid hb o hg4 o2
 have F5:Frame t5.ownBlock.toList w4 w5:=((Frame.refl t5.ownBlock.toList w4).alloc o2).grown hg5 (fun k hk => .inl (by simp [hk]))
 have h50:=own_frame h.ints F4 (own_ne2 h.rows h.ints (by decide))
 have hvl:vs.length = ls.length:=by have:=h.rows.1;omega
 have F3:Frame t4.ownBlock.toList w3 w4:=((Frame.refl t4.ownBlock.toList w3).alloc o).grown hg4 (fun k hk => .inl (by simp [hk]))
 have hr3:=own_below h.rows hb
 refine ⟨?_,?_,?_,.inr (by simp),?_,.inr (by simp),?_,?_,?_,?_⟩
 ·rw [List.length_append]
  exact own_frame o4 F5 (own_ne2 h50 o4 (by decide))
 ·intro u hu
  rcases List.mem_append.1 hu with hu | hu
  ·exact h.ones u hu
  ·simp only [List.mem_singleton] at hu
   subst hu
   exact hv1
 ·intro i v l hi hl
  have key:∀ {v:Value} {l:List Int},Sl w4 5 1 v l.length (u8s l) → Sl w5 5 1 v l.length (u8s l):=fun hs => hs.frame F5 (own_noty h50 (by decide))
  by_cases hlt:i < ls.length
  ·rw [List.getElem?_append_left (by omega)] at hi
   rw [List.getElem?_append_left hlt] at hl
   exact key ((h.each i v l hi hl).frame F4 (own_noty h.rows (by decide)))
  ·have hi0:i = ls.length:=by
    have:=(List.getElem?_eq_some_iff.1 hl).1
    simp at this
    omega
   subst hi0
   rw [List.getElem?_append_right (by omega),hvl] at hi
   rw [List.getElem?_append_right (Nat.le_refl _)] at hl
   simp at hi hl
   subst hi
   subst hl
   exact key ((Sl.of_own hv (u8s_one' _) (.inr hp.1)).frame F3 (own_noty hr3 (by decide)))
 ·rw [List.length_append]
  have e:Go.Proofs.YtaonlcgneemimaaGreatDoor.ints (ids ++ [id]) = Go.Proofs.YtaonlcgneemimaaGreatDoor.ints ids ++ [.int .i64 id]:=by simp [Go.Proofs.YtaonlcgneemimaaGreatDoor.ints]
  rw [e]
  exact o5
 ·intro l hl
  rcases List.mem_append.1 hl with hl | hl
  ·exact h.size l hl
  ·simp only [List.mem_singleton] at hl
   subst hl
   exact hp
 ·intro l hl
  rcases List.mem_append.1 hl with hl | hl
  ·exact h.mem l hl
  ·simp only [List.mem_singleton] at hl
   subst hl
   exact hid
 ·have:=h.few
  simp
  omega
 ·have b4:Below w.heap.size w w4:=Frame.belowIf F4 h.below (fun g hg => (h.rows.lt g (by simpa using hg)).1) h.below.size
  exact Frame.belowIf F5 b4 (fun g hg => (h50.lt g (by simpa using hg)).1) b4.size
def FreshPost (w:World) (P:List (List Int)) (e:Ending) (w':World):Prop :=
 ∃ v4 v5 ls ids,e = .returned (.tuple #[v4,v5]) ∧ RowsB w' v4 ls ∧ (∀ l ∈ ls,1 ≤ l.length ∧ l.length ≤ 200) ∧ ls.length ≤ P.length ∧ (∀ g,v4.ownBlock = some g → w.heap.size ≤ g) ∧ Sl w' 3 1 v5 ids.length (ints ids) ∧ (∀ g,v5.ownBlock = some g → w.heap.size ≤ g) ∧ (∀ id ∈ ids,1 ≤ id ∧ id ≤ P.length) ∧ ids.length ≤ P.length ∧ Below w.heap.size w w'
theorem FreshI.done {w w1 wr:World} {P:List (List Int)} {t4 t5:Value} {k:Nat} {vs:List Value} {ls:List (List Int)} {ids:List Int} (h:FreshI w1 wr P t4 t5 k vs ls ids) (hb:Below w.heap.size w w1) (hk:k ≤ P.length):FreshPost w P (.returned (.tuple #[t4,t5])) wr :=
 ⟨t4,t5,ls,ids,rfl,⟨vs,Sl.of_own h.rows h.ones h.nil,h.each⟩,h.size,by have:=h.few;omega,fun g hg => Nat.le_trans hb.size (h.rows.lt g hg).1,Sl.of_own h.ints (ints_one _) h.nil5,fun g hg => Nat.le_trans hb.size (h.ints.lt g hg).1,h.mem,by have:=h.few;omega,hb.trans (h.below.mono hb.size)⟩
set_option maxRecDepth 100000 in
set_option maxHeartbeats 4000000 in
theorem fresh_any (w:World) (r c dm dn:Nat) (v0 v1 v4 v5 v6:Value) (B:Nat) (P:List (List Int)) (bl bb:Nat) (vs:List Value) (fb:Int → Option Value) (m:Nat) (sz:Int) (df:Int → Option Value)
  (hc:w.heap[r]? = some (.cells #[v0,v1,.pointer (some ⟨c,0,none⟩),.map (some dm),v4,v5,v6] 77 (0,0))) (H:ChunksAt w B c P bl bb vs fb m sz) (hm:MapX KI w dm dn df) (hdv:∀ id v,df id = some v → v = .bool true) :
  Calls Tryz.prog 31 #[.pointer (some ⟨r,0,none⟩)] w (FreshPost w P):=by
 have HH:=Lib.hid H
 have HM:=Lib.hid hm
 have HD:=Lib.hid hdv
 have hsm:=H.small.1
 have c2:=cellAt hc 2
 have c3:=cellAt hc 3
 simp only [List.getElem?_toArray,List.getElem?_cons_zero,List.getElem?_cons_succ] at c2 c3
 obtain ⟨i0,hi,hz0,hz1,hz2⟩:=info_parts info33
 obtain ⟨i3,hi3,hz03,hz13,hz23⟩:=info_parts info3
 have K:Hid (∀ W:World,Below w.heap.size w W → W.cell? ⟨r,2,none⟩ = some (.pointer (some ⟨c,0,none⟩)) ∧ W.cell? ⟨r,3,none⟩ = some (.map (some dm))):=Lib.hid (fun W hW => ⟨cellAt (Below.heap hW (Nat.le_refl _) hc) 2,cellAt (Below.heap hW (Nat.le_refl _) hc) 3⟩)
 obtain ⟨Q,hQ⟩:∃ Q,Hid (Q = FreshPost w P):=⟨_,Lib.hid rfl⟩
 rw [← hQ.out]
 obtain ⟨N,hN⟩:∃ N,Hid (N = P.length):=⟨_,Lib.hid rfl⟩
 rw [← hN.out] at hsm
 clear H hm hdv hc
 go_enter Tryz.func31,Tryz.ntmps31
 go_wp2_with (go_at_call 67;with_reducible refine (ids_any w B c P bl bb vs fb m sz HH.out).mono ?_;rintro e w1 ⟨v,ids0,rfl,hid,hsl,hq⟩;have HB1:=Lib.hid hq;have HID:=Lib.hid hid;have HSL:=Lib.hid hsl;obtain ⟨ia,icap,rfl,hicap,-,hsh⟩:=hsl.shape;have HSH:=Lib.hid hsh;have hil:ids0.length = N:=hid.len.trans hN.out.symm;rw [hil] at hicap ⊢;clear hid hsl hq hsh)
 go_loopw [4,5,7,8,9,16] (fun t4 t5 _ _ _ ti wr => ∃ k:Nat,k ≤ N ∧ ti = .int .i64 k ∧ Hid (∃ vs ls ids,FreshI w1 wr P t4 t5 k vs ls ids)) (fun _ _ _ _ _ i _ => N - (intOf i).toNat)
 case atStart =>
  refine ⟨0,by omega,rfl,Lib.hid ⟨[],[],[],⟨World.ownsRow_nil _ _ _ _,by simp,by simp,.inl rfl,World.ownsRow_nil _ _ _ _,.inl rfl,by simp,by simp,by simp,Below.refl _ _⟩⟩⟩
 case round =>
  obtain ⟨k,hk,rfl,hI⟩:=hrel
  obtain ⟨vs1,ls,ids,hI⟩:=hI.out
  have HI:=Lib.hid hI
  have HWB:Hid (Below w.heap.size w wr):=Lib.hid (HB1.out.trans (hI.below.mono HB1.out.size))
  obtain ⟨y2,y3⟩:=K.out _ HWB.out
  have hfew:=hI.few
  obtain ⟨p4,k4,rfl⟩:=own_shape hI.rows
  obtain ⟨p5,k5,rfl⟩:=own_shape hI.ints
  clear hI
  by_cases hlt:k < N
  ·obtain ⟨id,hidk⟩:∃ id,ids0[k]? = some id:=⟨_,List.getElem?_eq_getElem (by omega)⟩
   have hidr:=HID.out.mem id (List.mem_of_getElem? hidk)
   obtain ⟨j,rfl⟩:∃ j:Nat,id = (j:Int) + 1:=⟨(id - 1).toNat,by omega⟩
   obtain ⟨p,hp⟩:∃ p,P[j]? = some p:=⟨_,List.getElem?_eq_getElem (by omega)⟩
   obtain ⟨g,off,rfl,hg,hgc⟩:=HSH.out k (by omega)
   have cg:=hgc 0 (.int .i64 ((j:Int) + 1)) (by decide) (by simp [ints,hidk])
   rw [Nat.mul_one,Nat.add_zero] at cg
   have cr:wr.cell? ⟨g,off + k,none⟩ = some (.int .i64 ((j:Int) + 1)):=(HI.out.below.cell (p:=⟨g,off + k,none⟩) hg).trans cg
   have HP:=Lib.hid hp
   have hjN:j < N:=by have:=hN.out;omega
   have HPL:Hid (0 < p.length ∧ p.length ≤ 64):=Lib.hid (by
    obtain ⟨pv,hpv⟩:∃ pv,vs[j]? = some pv:=⟨_,List.getElem?_eq_getElem (by have:=HH.out.pieces.1;have:=hN.out;omega)⟩
    exact (HH.out.pieces.2 j pv p hpv hp).2.2)
   have HRC:Hid (∀ W v,Sl W 5 1 v p.length (u8s p) → Calls Tryz.prog 69 #[.int .i64 ((j:Int) + 1),v] W fun e w' => ∃ v',e = .returned v' ∧ w'.ownsRow W.heap.size 5 1 v' (recB (j + 1) p).length (u8s (recB (j + 1) p)) ∧ Below W.heap.size W w'):=Lib.hid (fun W v hv => by
    have:=record_any W (j + 1) v p (by omega) hv HPL.out.2
    rw [show ((j + 1:Nat):Int) = (j:Int) + 1 by push_cast;rfl] at this
    exact this)
   have HLEN:=Lib.hid (recB_len (j + 1) (by omega) p HPL.out.2)
   have hL:(Instr.lookup 72 (.map (some dm)) (.int .i64 ((j:Int) + 1)) false).run Tryz.prog wr = .ok ((df ((j:Int) + 1)).getD (.bool false)) wr:=((keep_map HM.out HWB.out).look Tryz.underlying72 (Tryz.zeroValue4 wr) (KI_good (x:=(j:Int) + 1) (by omega))).2
   clear hgc cg hidk hp hidr
   cases hdf:df ((j:Int) + 1) with
   | some bv =>
    obtain rfl:=HD.out _ _ hdf
    rw [hdf] at hL
    simp only [Option.getD_some] at hL
    clear hdf
    go_wp2_with fail
    go_roundw
    case rel => exact ⟨k + 1,by omega,by go_num,Lib.hid ⟨vs1,ls,ids,{ HI.out with few:=by have:=HI.out.few;omega }⟩⟩
    case measure => simp [intOf];omega
   | none =>
    rw [hdf] at hL
    simp only [Option.getD_none] at hL
    clear hdf
    go_wp2_with (first | (go_at_call 68;with_reducible refine (get_any wr B c P bl bb vs fb m sz (HH.out.below HWB.out) j p HP.out).mono ?_;rintro e w2 ⟨dv,rfl,ho,hn,hq⟩;have HO:=Lib.hid ho;have HQ2:=Lib.hid hq;obtain ⟨dp,dk,rfl⟩:=own_shape ho;clear ho hn hq) | (go_at_call 69;with_reducible refine (HRC.out _ _ (Sl.of_own HO.out (u8s_one' _) (.inr HPL.out.1))).mono ?_;rintro e w3 ⟨v',rfl,ho,hq⟩;have HO3:=Lib.hid ho;have HQ3:Hid (Below wr.heap.size wr w3):=Lib.hid (HQ2.out.trans (hq.mono HQ2.out.size));obtain ⟨ep,ek,rfl⟩:=own_shape ho;clear ho hq) | (at_builtin;refine wp_append_sl rfl _ _ 61 rfl w1.heap.size 33 i0 _ 1 24 Tryz.underlying61 hi hz0 hz1 hz2 rfl (by decide) _ ls.length vs1 rfl (own_below HI.out.rows (HQ3.out.alloc HQ3.out.size _)) _ 1 _ rfl (Sl.block' (heap_new _ _) rfl (by simp [Value.oneCell']) (by decide) (by decide)) (by omega) (by decide) (by have:=HQ3.out.size;have:=HI.out.below.size;simp;omega) ?_;intro u4 w4 hown hgr _ _;have HW4:=Lib.hid hown;have HG4:=Lib.hid hgr;obtain ⟨q4,l4,rfl⟩:=own_shape hown;clear hown hgr) | (at_builtin;refine wp_append_sl rfl _ _ 90 rfl w1.heap.size 3 i3 _ 1 8 Tryz.underlying90 hi3 hz03 hz13 hz23 rfl (by decide) _ ids.length _ rfl (HI.out.mid HQ3.out _ HG4.out _) _ 1 _ rfl (Sl.block' (heap_new _ _) rfl (by simp [Value.oneCell']) (by decide) (by decide)) (by omega) (by decide) (by have:=HG4.out.size;have:=HQ3.out.size;have:=HI.out.below.size;simp at *;omega) ?_;intro u5 w5 hown hgr _ _;have HW5:=Lib.hid hown;have HG5:=Lib.hid hgr;obtain ⟨q5,l5,rfl⟩:=own_shape hown;clear hown hgr))
    go_roundw
    case rel => exact ⟨k + 1,by omega,by go_num,Lib.hid ⟨_,_,_,HI.out.step HQ3.out HO3.out rfl HLEN.out (by have:=hN.out;omega) _ HG4.out HW4.out _ HG5.out HW5.out⟩⟩
    case measure => simp [intOf];omega
  ·have hkN:k = N:=by omega
   subst hkN
   go_wp2_with fail
   rw [hQ.out]
   exact HI.out.done HB1.out (by rw [hN.out];exact Nat.le_refl _)
end Go.Proofs.YtaonlcgneemimaaGreatDoor
namespace Go.Proofs.YtaonlcgneemimaaGreatDoor
open Go.RowKit
theorem EngAt.typed2 {w:World} {e:Nat} {x:EngX} (h:EngAt w e x):∀ y ∈ x.mut e,y = x.cb ∨ ∃ arr t,w.heap[y]? = some (.cells arr t (0,0)) ∧ t ∈ [151,64,33,4,227,3]:=by
 obtain ⟨mn,mf,hm0,-⟩:=h.disk.map
 intro y hy
 rcases h.typed y hy with h1 | ⟨es,cl,h1⟩
 ·exact .inr h1
 ·refine .inl ?_
  simp only [EngX.mut,List.mem_cons,List.mem_append,Option.mem_toList] at hy
  obtain ⟨ga,hga⟩:=h.space.row
  obtain ⟨ops,hd0⟩:=h.disk.cell
  obtain ⟨lr,hl0,-⟩:=h.disk.row
  have no:∀ (arr:Array Value) (t:TypeId),w.heap[y]? = some (.cells arr t (0,0)) → False:=fun arr t h2 => by rw [h1] at h2;simp at h2
  rcases hy with rfl | rfl | rfl | rfl | rfl | rfl | rfl | hy | hy
  ·exact (no _ _ h.cell).elim
  ·exact (no _ _ hd0).elim
  ·exact (no _ _ hl0).elim
  ·rfl
  ·exact (no _ _ hga).elim
  ·exact (no _ _ h.logJ.cell).elim
  ·exact (no _ _ h.logC.cell).elim
  ·obtain ⟨arr,ha⟩:=own_heap h.logJ.segs hy
   exact (no _ _ ha).elim
  ·obtain ⟨arr,ha⟩:=own_heap h.logC.segs hy
   exact (no _ _ ha).elim
theorem take_one_more {α:Type} (l:List α) (k:Nat) (i:α) (h:l[k]? = some i):l.take (k + 1) = l.take k ++ [i]:=take_snoc h
end Go.Proofs.YtaonlcgneemimaaGreatDoor
namespace Go.Proofs.YtaonlcgneemimaaGreatDoor
open Go.RowKit
theorem sumMany_few:∀ (ls:List (List Int)),(∀ l ∈ ls,1 ≤ l.length ∧ l.length ≤ 200) → sumMany ls ≤ 4 * ls.length
 | [],_ => by simp [sumMany]
 | l :: ls,h => by
  have h1:=(h l (by simp)).2
  have h2:=sumMany_few ls (fun x hx => h x (by simp [hx]))
  have h3:manyN l.length ≤ 4:=by unfold manyN;omega
  simp only [sumMany,List.map_cons,List.sum_cons,List.length_cons] at h2 ⊢
  omega
structure NoteI (w3 wr:World) (dm dn0 k:Nat) (dn:Nat) (df:Int → Option Value):Prop where
 map:MapX KI wr dm dn df
 val:∀ id v,df id = some v → v = .bool true
 few:dn ≤ dn0 + k
 fr:Frame [dm] w3 wr
theorem NoteI.step {w3 wr:World} {dm dn0 k dn:Nat} {df:Int → Option Value} (h:NoteI w3 wr dm dn0 k dn df) (hs:dn0 + k ≤ 1000000) (id:Int) (hid:1 ≤ id ∧ id ≤ 1000000):∃ w9,(Instr.mapUpdate 72 (.map (some dm)) (.int .i64 id) (.bool true)).run Tryz.prog wr = .ok () w9 ∧ ∃ dn' df',NoteI w3 w9 dm dn0 (k + 1) dn' df':=by
 obtain ⟨w9,h1,h2,h3⟩:=h.map.store Tryz.underlying72 (by have:=h.few;unfold maxLen;omega) (x:=id) (KI_good (by omega)) (.bool true)
 refine ⟨w9,h1,_,_,h2,fun x v hx => ?_,by have:=h.few;split <;> omega,h.fr.turned h3 (.inl (by simp))⟩
 unfold fput at hx
 split at hx
 ·simpa using hx.symm
 ·exact h.val x v hx
end Go.Proofs.YtaonlcgneemimaaGreatDoor
namespace Go.Proofs.YtaonlcgneemimaaGreatDoor
open Go.RowKit
set_option maxRecDepth 100000 in
set_option maxHeartbeats 4000000 in
theorem append_full (w:World) (e:Nat) (x:EngX) (H:EngAt w e x) (lv:Value) (ls:List (List Int)) (hr:RowsB w lv ls) (hl:∀ l ∈ ls,1 ≤ l.length ∧ l.length ≤ 16384) (v:Value) (p:List Int) (hv:Sl w 5 1 v p.length (u8s p)) (h0:1 ≤ p.length) (h1:p.length ≤ 16384)
  (hT:sumMany ls ≤ 100000) (hok:sp_frees x.bs < needN x.ssC.length x.nC (sumMany ls) + needN x.ssJ.length x.nJ (manyN p.length)) :
  Calls Tryz.prog 32 #[.pointer (some ⟨e,0,none⟩),lv,v] w (fun e' w' => e' = .returned (.int .i64 12) ∧ Below w.heap.size w w'):=by
 have HH:=Lib.hid H
 have HR:=Lib.hid hr
 have HL:=Lib.hid hl
 obtain ⟨va,vcap,rfl,-,-,-⟩:=hv.shape
 obtain ⟨la,cap,hlv,hcap,-⟩:=hr.at
 obtain ⟨W1,hW1⟩:∃ W1,Hid (W1 = w.alloc (.cells #[.slice va p.length vcap] 33)):=⟨_,Lib.hid rfl⟩
 have B1:Hid (Below w.heap.size w W1):=Lib.hid (by rw [hW1.out];exact crc_below _ _)
 have R7:Hid (RowsB W1 (.slice (some ⟨w.heap.size,0,none⟩) 1 1) [p]):=Lib.hid (by rw [hW1.out];exact row_one w _ p hv rfl)
 have hs7:sumMany [p] = manyN p.length:=by simp [sumMany]
 have HP:Hid (∀ l ∈ [p],1 ≤ l.length ∧ l.length ≤ 16384):=Lib.hid (by simpa using ⟨h0,h1⟩)
 have hM:manyN p.length ≤ 304:=by unfold manyN;omega
 obtain ⟨T,hTT⟩:∃ T,Hid (T = sumMany ls):=⟨_,Lib.hid rfl⟩
 obtain ⟨M,hMM⟩:∃ M,Hid (M = manyN p.length):=⟨_,Lib.hid rfl⟩
 obtain ⟨nc,hnc⟩:∃ nc,Hid (nc = needN x.ssC.length x.nC T):=⟨_,Lib.hid rfl⟩
 obtain ⟨nj,hnj⟩:∃ nj,Hid (nj = needN x.ssJ.length x.nJ M):=⟨_,Lib.hid rfl⟩
 obtain ⟨fr,hfr⟩:∃ fr,Hid (fr = sp_frees x.bs):=⟨_,Lib.hid rfl⟩
 rw [← hTT.out,← hMM.out,← hnc.out,← hnj.out,← hfr.out] at hok
 rw [← hTT.out] at hT
 rw [← hMM.out] at hM
 have hfr96:fr ≤ 96:=by have:=H.frees;have:=hfr.out;omega
 have FN1:Hid (Calls Tryz.prog 70 #[lv] W1 fun e w' => e = .returned (.bool true) ∧ w' = W1):=Lib.hid (fine_any W1 lv ls (hr.below B1.out) hl)
 have FN2:Hid (Calls Tryz.prog 70 #[.slice (some ⟨w.heap.size,0,none⟩) 1 1] W1 fun e w' => e = .returned (.bool true) ∧ w' = W1):=Lib.hid (fine_any W1 _ [p] R7.out HP.out)
 have NC:Hid (Calls Tryz.prog 71 #[.pointer (some ⟨x.c,0,none⟩),lv] W1 fun e w' => e = .returned (.int .i64 nc) ∧ Below W1.heap.size W1 w'):=Lib.hid (by
  rw [hnc.out,hTT.out]
  exact needAll_any W1 x.c x.d x.nC x.svC x.ssC x.lastC (HH.out.logC.below B1.out) lv ls (HR.out.below B1.out) HL.out (by have:=hTT.out;omega))
 have NJ:Hid (∀ W,Below W1.heap.size W1 W → Calls Tryz.prog 71 #[.pointer (some ⟨x.j,0,none⟩),.slice (some ⟨w.heap.size,0,none⟩) 1 1] W fun e w' => e = .returned (.int .i64 nj) ∧ Below W.heap.size W w'):=Lib.hid (fun W hW => by
  rw [hnj.out,hMM.out,← hs7]
  exact needAll_any W x.j x.d x.nJ x.svJ x.ssJ x.lastJ ((HH.out.logJ.below B1.out).below hW) _ [p] (R7.out.below hW) HP.out (by have:=hMM.out;omega))
 have FR:Hid (∀ W,Below W1.heap.size W1 W → Calls Tryz.prog 72 #[.pointer (some ⟨x.b,0,none⟩)] W fun e w' => e = .returned (.int .i64 fr) ∧ W = w'):=Lib.hid (fun W hW => by
  rw [hfr.out]
  exact sp_free_any 0 x.b x.g x.bs W ((HH.out.space.below B1.out).below hW))
 have E1:Hid (EngAt W1 e x):=Lib.hid (H.below B1.out)
 have KB:Hid (∀ W,Below W1.heap.size W1 W → W.cell? ⟨e,7,none⟩ = some (.pointer (some ⟨x.c,0,none⟩)) ∧ W.cell? ⟨e,6,none⟩ = some (.pointer (some ⟨x.j,0,none⟩)) ∧ W.cell? ⟨e,1,none⟩ = some (.pointer (some ⟨x.b,0,none⟩))):=Lib.hid (fun W hW => by
  have:=(E1.out.below hW).cell
  exact ⟨cellAt this 7,cellAt this 6,cellAt this 1⟩)
 have y7:=(KB.out W1 (Below.refl _ _)).1
 have hnc9:nc ≤ 100000:=by have h:=hnc.out;have hlc:=HH.out.logC.len;unfold needN at h;omega
 have hnj9:nj ≤ 100000:=by have h:=hnj.out;have hlj:=HH.out.logJ.len;unfold needN at h;omega
 have hsum:IntKind.i64.wrap ((nc:Int) + (nj:Int)) = (nc:Int) + (nj:Int):=IntWalk.i64_in _ (by omega)
 have hq0:(fr:Int) < (nc:Int) + (nj:Int):=by omega
 have hw1:=hW1.out
 rw [hlv]
 clear H hr hl hv hs7 hM
 rw [hlv] at FN1 NC
 clear hlv
 go_enter Tryz.func32,Tryz.ntmps32
 go_wp2_with fail
 (rw [← hw1])
 clear hw1
 go_wp2_with (first | (go_at_call 70;with_reducible refine FN1.out.mono ?_;rintro e1 w1 ⟨rfl,hw⟩;have hw:=hw.symm;subst hw) | (go_at_call 70;with_reducible refine FN2.out.mono ?_;rintro e1 w1 ⟨rfl,hw⟩;have hw:=hw.symm;subst hw) | (go_at_call 71;with_reducible refine NC.out.mono ?_;rintro e1 w2 ⟨rfl,hq⟩;have B2:=Lib.hid hq;clear hq))
 (have S1:=KB.out _ B2.out;have B2d:Hid (Below W1.heap.size W1 w2.drew):=Lib.hid B2.out.drew;have S1:=Lib.hid S1)
 go_region_held3 (fun W => W.cell? ⟨e,6,none⟩ = some (.pointer (some ⟨x.j,0,none⟩)) ∧ W.cell? ⟨e,1,none⟩ = some (.pointer (some ⟨x.b,0,none⟩))) (first | exact (KB.out _ B2d.out).2 | exact (KB.out _ B3.out).2) (first | (go_at_call 71;with_reducible refine (NJ.out _ B2d.out).mono ?_;rintro e1 w3 ⟨rfl,hq⟩;have B3:Hid (Below W1.heap.size W1 w3):=Lib.hid (B2d.out.trans (hq.mono B2d.out.size));clear hq) | (go_at_call 72;with_reducible refine (FR.out _ B3.out).mono ?_;rintro e1 w4 ⟨rfl,hw⟩;subst hw))
 go_wp2_with fail
 go_ret
 exact ⟨rfl,B1.out.trans (B3.out.mono B1.out.size)⟩
theorem append_g (w:World) (e:Nat) (x:EngX) (H:EngAt w e x) (lv:Value) (ls:List (List Int)) (hr:RowsB w lv ls) (hl:∀ l ∈ ls,1 ≤ l.length ∧ l.length ≤ 16384) (v:Value) (p:List Int) (hv:Sl w 5 1 v p.length (u8s p)) (h0:1 ≤ p.length) (h1:p.length ≤ 16384)
  (hT:sumMany ls ≤ 100000) (hk:x.k ≤ 100000) (hn:x.number + 4 ≤ 2147483647) :
  Calls Tryz.prog 32 #[.pointer (some ⟨e,0,none⟩),lv,v] w fun e' w' => ∃ c:Int,e' = .returned (.int .i64 c) ∧ Hid (c = 0 → ∃ x',EngMove w e x w' x' ∧ EngGrew x x' 4 (manyN p.length) (sumMany ls) (needN x.ssJ.length x.nJ (manyN p.length)) (needN x.ssC.length x.nC (sumMany ls))) ∧ Hid (c ≠ 0 → Below w.heap.size w w') ∧ Hid (needN x.ssC.length x.nC (sumMany ls) + needN x.ssJ.length x.nJ (manyN p.length) ≤ sp_frees x.bs → c = 0):=by
 by_cases hok:needN x.ssC.length x.nC (sumMany ls) + needN x.ssJ.length x.nJ (manyN p.length) ≤ sp_frees x.bs
 ·refine (append_any w e x H lv ls hr hl v p hv h0 h1 hT hk hn hok).mono ?_
  rintro e' w' ⟨rfl,h⟩
  exact ⟨0,rfl,Lib.hid (fun _ => h),Lib.hid (fun h => absurd rfl h),Lib.hid (fun _ => rfl)⟩
 ·refine (append_full w e x H lv ls hr hl v p hv h0 h1 hT (by omega)).mono ?_
  rintro e' w' ⟨rfl,hb⟩
  exact ⟨12,rfl,Lib.hid (fun h => by omega),Lib.hid (fun _ => hb),Lib.hid (fun h => absurd h hok)⟩
end Go.Proofs.YtaonlcgneemimaaGreatDoor
namespace Go.Proofs.YtaonlcgneemimaaGreatDoor
open Go.RowKit
theorem VsOk.trans {w w2:World} {a b c:List Value} (h:VsOk w a b) (k:VsOk w2 b c) (hs:w.heap.size ≤ w2.heap.size):VsOk w a c:=fun v hv => by
 rcases k v hv with h1 | h1
 ·exact h v h1
 ·exact .inr (fun g hg => Nat.le_trans hs (h1 g hg))
theorem own_shapeZ {w:World} {B e sz n:Nat} {v:Value} {xs:List Value} (h:w.ownsRow B e sz v n xs):∃ a cap,v = .slice a n cap:=by
 obtain ⟨-,⟨rfl,rfl⟩ | ⟨g,cap,cur,rfl,-⟩⟩:=h
 ·exact ⟨none,0,rfl⟩
 ·exact ⟨_,cap,rfl⟩
structure PcsI (w w1 wr:World) (B c:Nat) (P:List (List Int)) (bl bb:Nat) (vs:List Value) (ps:List (List Int)) (v:Value):Prop where
 own:wr.ownsRow w1.heap.size 134 4 v ps.length (partsC (piecesA P ps))
 nz:v = .slice none 0 0 ∨ 0 < ps.length
 chunks:∃ vs' fb' m' sz',ChunksAt wr B c (putAll P ps) bl bb vs' fb' m' sz' ∧ VsOk w vs vs'
 below:Below B w wr
 kept:KeptC w1 wr
 size:w1.heap.size ≤ wr.heap.size
theorem PcsI.snoc {w w1 wr w2 w3:World} {B c:Nat} {P:List (List Int)} {bl bb:Nat} {vs:List Value} {ps:List (List Int)} {v v3:Value} {p:List Int} (h:PcsI w w1 wr B c P bl bb vs ps v) (hw:w.heap.size ≤ w1.heap.size)
  (hc:∃ vs0 vs' fb' m' sz',VsOk w vs vs0 ∧ ChunksAt w2 B c (putP (putAll P ps) p) bl bb vs' fb' m' sz' ∧ VsOk wr vs0 vs') (hb:Below B wr w2) (hk:KeptC wr w2) (hB:B ≤ w.heap.size) (o:Obj) (hg:(w2.alloc o).grownBy w3 v.ownBlock)
  (ho:w3.ownsRow w1.heap.size 134 4 v3 (ps.length + 1) (partsC (piecesA P ps) ++ partsC [newPart (putAll P ps) p])):PcsI w w1 w3 B c P bl bb vs (ps ++ [p]) v3:=by
 obtain ⟨vs0,vs',fb',m',sz',h0,h1,h2⟩:=hc
 have hw1:=h.size
 have hw2:=hb.size
 have hw3:w2.heap.size + 1 ≤ w3.heap.size:=by have:=hg.size;simpa using this
 have hlt:∀ g,v.ownBlock = some g → w1.heap.size ≤ g:=fun g hg => (h.own.lt g hg).1
 have hb3:∀ k,k < w2.heap.size → v.ownBlock ≠ some k → w3.heap[k]? = w2.heap[k]?:=fun k hk hne => by
  rw [hg.block k (by simp;omega) (fun e => hne e.symm)]
  exact Below.heap_alloc w2 o k hk
 have hv134:∀ g,v.ownBlock = some g → ∃ arr,w2.heap[g]? = some (.cells arr 134 (0,0)):=fun g hg => by
  obtain ⟨arr,ha⟩:=own_heap h.own hg
  exact ⟨arr,hk g arr 134 ha (by decide) (by decide)⟩
 refine ⟨by rw [List.length_append,piecesA_snoc,partsC_append];exact ho,.inr (by simp),⟨vs',fb',m',sz',?_,h0.trans h2 (by omega)⟩,?_,?_,by omega⟩
 ·rw [putAll_snoc]
  have F:Frame (v.ownBlock.toList) w2 w3:=⟨hg.os,hg.tape,hg.output,by omega,fun k hk hne => hb3 k hk (fun e => hne (by rw [e];simp))⟩
  refine h1.frame F ?_ ?_ ?_ ?_ ?_
  ·intro hm
   simp at hm
   obtain ⟨arr,ha⟩:=hv134 _ hm
   exact cells_ty ha h1.cell (by decide) rfl
  ·intro hm
   simp at hm
   obtain ⟨arr,ha⟩:=hv134 _ hm
   exact h1.ml.cells ha
  ·intro hm
   simp at hm
   obtain ⟨arr,ha⟩:=hv134 _ hm
   exact h1.mb.cells ha
  ·intro k x g hx hg2 hm
   simp at hm
   obtain ⟨arr,ha⟩:=hv134 _ hm
   obtain ⟨arr2,ha2⟩:=own_heap (h1.rows k x hx).1 hg2
   exact cells_ty ha ha2 (by decide) rfl
  ·intro g hm arr he
   simp at hm
   obtain ⟨arr2,ha⟩:=hv134 _ hm
   exact cells_ty ha he (by decide) rfl
 ·have hBw:=h.below.size
  exact ((h.below.trans hb).alloc (by omega) o).grown hg (by simp;omega) (fun k hk => by have:=hlt k hk;omega)
 ·intro k arr t hk1 ht ht3
  have h5:=hk k arr t (h.kept k arr t hk1 ht ht3) ht ht3
  exact (hb3 k (heap_lt h5) (fun e => by have:=hlt k e;have:=heap_lt hk1;omega)).trans h5
theorem cutL_byte {l:List Int} (hb:ByteL l):∀ p ∈ cutL l,ByteL p:=fun p hp x hx => hb x (by
 have h:=(cutL_all l).1
 rw [← h]
 exact List.mem_flatten.2 ⟨p,hp,hx⟩)
set_option maxRecDepth 100000 in
set_option maxHeartbeats 2000000 in
theorem pieces_all (w:World) (B c:Nat) (P:List (List Int)) (bl bb:Nat) (vs:List Value) (fb:Int → Option Value) (m:Nat) (sz:Int) (H:ChunksAt w B c P bl bb vs fb m sz) (hB:B ≤ w.heap.size)
  (A:Option Addr) (n cap:Nat) (l:List Int) (hv:BytX w A cap l) (hn:l.length = n) (hb:ByteL l) (hsm:P.length + l.length ≤ 99999) (path tt:ByteArray) (off size:Int) :
  Calls Tryz.prog 27 #[.pointer (some ⟨c,0,none⟩),.agg #[.int .i64 3,.string path,.string tt,.int .i64 off,.int .i64 size,.slice A n cap]] w fun e w' => ∃ v',e = .returned v' ∧ Sl w' 134 4 v' (piecesA P (cutL l)).length (partsC (piecesA P (cutL l))) ∧ (∃ vs' fb' m' sz',ChunksAt w' B c (putAll P (cutL l)) bl bb vs' fb' m' sz' ∧ VsOk w vs vs') ∧ Below B w w' ∧ KeptC w w':=by
 have HH:=Lib.hid H
 have HV:=Lib.hid hv
 have HN:=Lib.hid hn
 obtain ⟨i0,hi,hz0,hz1,hz2⟩:=info_parts info134
 have HB0:Hid (∀ o,Below w.heap.size w (w.alloc o)):=Lib.hid (fun o => (Below.refl _ _).alloc (Nat.le_refl _) o)
 have HCL:=Lib.hid (cutL_all l)
 have HCB:=Lib.hid (cutL_byte hb)
 obtain ⟨ps,hps⟩:∃ ps,Hid (ps = cutL l):=⟨_,Lib.hid rfl⟩
 rw [← hps.out] at HCL HCB ⊢
 have hpl:P.length + ps.length ≤ 99999:=by have:=HCL.out.2.2;omega
 obtain ⟨np,hnp⟩:∃ np,Hid (np = ps.length):=⟨_,Lib.hid rfl⟩
 have hnp6:np ≤ 99999:=by have:=hnp.out;omega
 clear H hv hb hn
 go_enter Tryz.func27,Tryz.ntmps27
 go_wp2_with (go_at_call 58;refine (cut_all _ _ _ _ l (HV.out.below (HB0.out _)) HN.out).mono ?_;rintro e w1 ⟨v2,rfl,us,ho,hpc,hone,hq⟩;rw [← hps.out] at ho hpc;rw [← hnp.out] at ho;obtain ⟨sa,scap,hsh⟩:=own_shapeZ ho;subst hsh;have HO:=Lib.hid ho;have HPC:=Lib.hid hpc;have HONE:=Lib.hid hone;have HQ:Hid (Below w.heap.size w w1):=Lib.hid ((HB0.out _).trans (hq.mono (HB0.out _).size));clear ho hpc hone hq)
 have hBw:B ≤ w1.heap.size:=Nat.le_trans hB HQ.out.size
 go_loopw [5,7,8,9,10,19] (fun t5 _ _ _ _ ti wr => ∃ k:Nat,k ≤ np ∧ ti = .int .i64 k ∧ Hid (PcsI w w1 wr B c P bl bb vs (ps.take k) t5)) (fun _ _ _ _ _ i _ => np - (intOf i).toNat)
 case atStart => exact ⟨0,by omega,rfl,Lib.hid ⟨World.ownsRow_nil _ _ _ _,.inl rfl,⟨vs,fb,m,sz,HH.out.below HQ.out,.refl _ _⟩,HQ.out.mono hB,.of_below (Below.refl _ _),Nat.le_refl _⟩⟩
 case round =>
  obtain ⟨k,hk,rfl,hI⟩:=hrel
  by_cases hlt:k < np
  ·obtain ⟨p,hp⟩:∃ p,ps[k]? = some p:=⟨_,List.getElem?_eq_getElem (by have:=hnp.out;omega)⟩
   have hus:us.length = np:=by have:=HO.out.1;simpa using this
   obtain ⟨u,hu⟩:∃ u,us[k]? = some u:=⟨_,List.getElem?_eq_getElem (by omega)⟩
   have hp64:=HCL.out.2.1 p (List.mem_of_getElem? hp)
   have hpb:=HCB.out p (List.mem_of_getElem? hp)
   have hsu:=HPC.out k u p hu hp
   obtain ⟨pa,pcap,rfl,hpcap,-,-⟩:=hsu.shape
   obtain ⟨g,gcap,cur,he,hg0,hgc,hncap,hcm,-,ht⟩:=own_pos HO.out (by omega)
   simp only [Value.slice.injEq] at he
   obtain ⟨rfl,-,rfl⟩:=he
   have hkept:=hI.out.kept
   have cg:wr.cell? ⟨g,k,none⟩ = some (.slice pa p.length pcap):=by
    have h1:=hkept g cur 33 hgc (by decide) (by decide)
    rw [cellAt h1 k,← hu,← ht,List.getElem?_take_of_lt (by omega),Array.getElem?_toList]
   have HSU:Hid (Sl wr 5 1 (.slice pa p.length pcap) p.length (u8s p)):=Lib.hid (hsu.kept (fun k arr hk => hkept k arr 5 hk (by decide) (by decide)))
   obtain ⟨vs0,fb0,m0,sz0,hc0,hvo0⟩:=hI.out.chunks
   have HC0:=Lib.hid hc0
   have HVO0:=Lib.hid hvo0
   have HP:=Lib.hid hp
   have HPB:=Lib.hid hpb
   have HTK:Hid ((ps.take k).length = k):=Lib.hid (by rw [List.length_take];have:=hnp.out;omega)
   have HPA:Hid ((putAll P (ps.take k)).length + 1 ≤ 100000):=Lib.hid (by have:=putAll_len (ps.take k) P;have:=HTK.out;have:=hnp.out;omega)
   have HOWN:Hid (wr.ownsRow w1.heap.size 134 4 u5 k (partsC (piecesA P (ps.take k)))):=Lib.hid (by have:=hI.out.own;rw [HTK.out] at this;exact this)
   have HWS:Hid (w1.heap.size ≤ wr.heap.size):=Lib.hid hI.out.size
   have HBR:Hid (Below B w wr):=Lib.hid hI.out.below
   obtain ⟨h0,h1⟩:=hp64
   clear hp hu hpb hsu hgc ht hkept hc0 hvo0 hcm
   go_wp2_with (first | (go_at_call 59;refine (put_any3 _ B c (putAll P (ps.take k)) bl bb vs0 fb0 m0 sz0 HC0.out _ p HSU.out HPB.out h0 h1 HPA.out).mono ?_;rintro e w2 ⟨nw,rfl,vs',fb',m',sz',hc',hq',hvo,hkc⟩;have HC:=Lib.hid hc';have HVO:=Lib.hid hvo;have HKC:=Lib.hid hkc;have HQ2:=Lib.hid hq';have HO2:Hid (∀ o,(w2.alloc o).ownsRow w1.heap.size 134 4 u5 k (partsC (piecesA P (ps.take k)))):=Lib.hid (fun o => row_kept HOWN.out (fun k ob hk hb => by obtain ⟨arr,ha⟩:=own_heap HOWN.out hb;rw [hk] at ha;injection ha with ha;subst ha;exact heap_old (HKC.out k arr 134 hk (by decide) (by decide)) o));(have hs2:w1.heap.size ≤ w2.heap.size:=by have h1:=HQ2.out.size;have h2:=HWS.out;omega);clear hc' hq' hvo hkc) | (at_builtin;refine wp_append_sl rfl _ _ 81 rfl w1.heap.size 134 i0 _ 4 32 Tryz.underlying81 hi hz0 hz1 hz2 rfl (by decide) _ k _ rfl (HO2.out _) _ 1 _ rfl (Sl.block' (heap_new _ _) rfl (by simp [Value.oneCell']) (by decide) (by decide)) (by omega) (by decide) (by simp;omega) ?_;intro v3 w3 hown hgr _ _;have HW3:=Lib.hid hown;have HG3:=Lib.hid hgr;clear hown hgr))
   have HI3:Hid (PcsI w w1 w3 B c P bl bb vs (ps.take (k + 1)) v3):=Lib.hid (by
    have e:ps.take (k + 1) = ps.take k ++ [p]:=by rw [List.take_add_one,HP.out];rfl
    rw [e]
    exact PcsI.snoc hI.out HQ.out.size ⟨vs0,vs',fb',m',sz',HVO0.out,HC.out,HVO.out⟩ HQ2.out HKC.out hB _ HG3.out (by rw [HTK.out];exact HW3.out))
   go_wp2
   go_roundw
   case rel => exact ⟨k + 1,by omega,by go_num,HI3⟩
   case measure => simp [intOf];omega
  ·have hke:k = ps.length:=by have:=hnp.out;omega
   have hI2:=hI.out
   rw [hke,List.take_length] at hI2
   have FIN:=Lib.hid hI2
   have HKW:Hid (KeptC w w1):=Lib.hid (.of_below HQ.out)
   clear hI2
   go_wp2
   go_ret
   exact ⟨_,rfl,by rw [piecesA_len];exact Sl.of_own FIN.out.own (partsC_one _) FIN.out.nz,FIN.out.chunks,FIN.out.below,HKW.out.trans FIN.out.kept⟩
end Go.Proofs.YtaonlcgneemimaaGreatDoor
