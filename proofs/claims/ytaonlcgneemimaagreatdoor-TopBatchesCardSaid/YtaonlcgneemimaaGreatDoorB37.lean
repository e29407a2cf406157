/- TopBatches: the contracts of AY1, AY2, AY3, AC1, AY12, AY13, AZ1, AY4, AY5; no condition. -/
import Derived.Test.YtaonlcgneemimaaGreatDoorB26
import Derived.Test.YtaonlcgneemimaaGreatDoorB24
import Derived.Test.YtaonlcgneemimaaGreatDoorB36
import Derived.Test.YtaonlcgneemimaaGreatDoorB35
import Derived.Test.YtaonlcgneemimaaGreatDoorB27
import Derived.Test.YtaonlcgneemimaaGreatDoorB25
import Derived.Test.YtaonlcgneemimaaGreatDoorB34
namespace Go.Proofs.YtaonlcgneemimaaGreatDoor
open Go.RowKit
set_option maxRecDepth 100000 in
set_option maxHeartbeats 1000000 in
theorem lastPt_g (K:Nat) (w:World) (h:Nat) (pv sv:Value) (xs:List HsX) (H:HistG K w h pv sv xs) :
  Calls Tryz.prog 35 #[.pointer (some ⟨h,0,none⟩)] w fun e w' => ∃ y m,e = .returned (.agg #[.int .i64 xs.length,.float .f64 y,.string m]) ∧ Below w.heap.size w w':=by
 have HH:=Lib.hid H
 have hf:=H.few
 obtain ⟨n,hn⟩:∃ n,Hid (n = xs.length):=⟨xs.length,Lib.hid rfl⟩
 have HP:Hid (∀ W,Below w.heap.size w W → Calls Tryz.prog 40 #[.pointer (some ⟨h,0,none⟩)] W fun e w' => ∃ v,e = .returned v ∧ PtsN w' v n (xs.map HsX.pt) ∧ Below W.heap.size W w'):=Lib.hid (fun W hW => by rw [hn.out];exact histPoints_g K W h pv sv xs (H.below hW))
 have hll:Hid ((xs.map HsX.pt).length = n):=Lib.hid (by rw [List.length_map,hn.out])
 rw [← hn.out] at hf ⊢
 have hsf:=fun (W:World) (p:Addr) (k:Nat) => run_store Tryz.prog W p (.float .f64 k) .plain rfl
 clear H
 have hb0:Below w.heap.size w (w.alloc (.cells #[.int .i64 0,.float .f64 0,.string ⟨#[]⟩] 52)):=(Below.refl _ _).alloc (Nat.le_refl _) _
 have HB0:=Lib.hid hb0
 have HN0:=Lib.hid (heap_new w (.cells #[.int .i64 0,.float .f64 0,.string ⟨#[]⟩] 52))
 clear hb0
 by_cases h0:n = 0
 ·subst h0
  go_enter Tryz.func35,Tryz.ntmps35
  go_wp2_with (go_at_call 40;refine (HP.out _ HB0.out).mono ?_;rintro e w1 ⟨v,rfl,hv,hq⟩;have HQ:Hid (Below w.heap.size w w1):=Lib.hid (HB0.out.trans (hq.mono HB0.out.size));have x:=Below.heap hq (Nat.le_refl _) HN0.out;have x0:=cellAt x 0;have x1:=cellAt x 1;have x2:=cellAt x 2;have f0:=frozenAt x 0;have f1:=frozenAt x 1;have f2:=frozenAt x 2;have X:=Lib.hid x;obtain ⟨a,cap,rfl,hcap,-,-⟩:=ptsN_cells hll.out.symm hv;clear x hv hq)
  have y:=setAt (setAt (setAt X.out 0 (.int .i64 0)) 1 (.float .f64 0)) 2 (.string ⟨#[]⟩)
  have j0:=cellAt y 0
  have j1:=cellAt y 1
  have j2:=cellAt y 2
  simp at j0 j1 j2
  refine bodyPost_ret (v:=.agg #[.int .i64 0,.float .f64 0,.string ⟨#[]⟩]) (by simp [results,Tryz.results35,go_sem,j0,j1,j2]) rfl ?_
  exact ⟨0,⟨#[]⟩,rfl,((HQ.out.setCell (p:=⟨w.heap.size,0,none⟩) (Nat.le_refl _) _).setCell (p:=⟨w.heap.size,1,none⟩) (Nat.le_refl _) _).setCell (p:=⟨w.heap.size,2,none⟩) (Nat.le_refl _) _⟩
 ·obtain ⟨m,rfl⟩:∃ m,n = m + 1:=⟨n - 1,by omega⟩
  obtain ⟨⟨st,mk⟩,hz⟩:∃ z,(xs.map HsX.pt)[m]? = some z:=⟨_,List.getElem?_eq_getElem (by rw [hll.out];omega)⟩
  have HZ:=Lib.hid hz
  clear hz
  have e1:IntKind.i64.wrap ((m:Int) + 1 - 1) = (m:Int):=by
   rw [show (m:Int) + 1 - 1 = m by omega]
   exact IntWalk.i64_in _ (by omega)
  have e2:wrap64 ((m:Int) + 1 - 1) = (m:Int):=by
   rw [show (m:Int) + 1 - 1 = m by omega]
   exact IntWalk.wrap64_in _ (by omega)
  have e3:IntKind.i64.wrap (m:Int) = (m:Int):=IntWalk.i64_in _ (by omega)
  have e4:(m:Int) < (m:Int) + 1:=by omega
  have e5:IntKind.i64.wrap ((m:Int) + 1) = (m:Int) + 1:=IntWalk.i64_in _ (by omega)
  go_enter Tryz.func35,Tryz.ntmps35
  go_wp2_with (go_at_call 40;refine (HP.out _ HB0.out).mono ?_;rintro e w1 ⟨v,rfl,hv,hq⟩;have HQ:Hid (Below w.heap.size w w1):=Lib.hid (HB0.out.trans (hq.mono HB0.out.size));have x:=Below.heap hq (Nat.le_refl _) HN0.out;have x0:=cellAt x 0;have x1:=cellAt x 1;have x2:=cellAt x 2;have f0:=frozenAt x 0;have f1:=frozenAt x 1;have f2:=frozenAt x 2;have X:=Lib.hid x;obtain ⟨a,cap,rfl,hcap,-,hcc⟩:=ptsN_cells hll.out.symm hv;obtain ⟨g,off,rfl,hg,p0,p1,p2⟩:=hcc m _ HZ.out;clear x hv hq hcc)
  have y:=setAt (setAt (setAt X.out 0 (.int .i64 ((m:Int) + 1))) 1 (.float .f64 (stF st))) 2 (.string mk)
  have j0:=cellAt y 0
  have j1:=cellAt y 1
  have j2:=cellAt y 2
  simp at j0 j1 j2
  refine bodyPost_ret (v:=.agg #[.int .i64 ((m:Int) + 1),.float .f64 (stF st),.string mk]) (by simp [results,Tryz.results35,go_sem,j0,j1,j2]) rfl ?_
  exact ⟨stF st,mk,by push_cast;rfl,((HQ.out.setCell (p:=⟨w.heap.size,0,none⟩) (Nat.le_refl _) _).setCell (p:=⟨w.heap.size,1,none⟩) (Nat.le_refl _) _).setCell (p:=⟨w.heap.size,2,none⟩) (Nat.le_refl _) _⟩
def markOf (i:ItemA):ByteArray:=if i.op = 8 then i.path else ⟨#[]⟩
set_option maxRecDepth 100000 in
set_option maxHeartbeats 1000000 in
theorem point_g (w:World) (s:Int) (k:Nat) (i:ItemA) (lv:Value) (hlv:∃ a n c,lv = .slice a n c) :
  Calls Tryz.prog 34 #[.int .i64 s,.agg #[.float .f64 k,.int .i64 i.op,.string i.path,.string i.to,.int .i64 i.off,.int .i64 i.size,.slice none 0 0,lv]] w fun e w' => e = .returned (.agg #[.int .i64 s,.float .f64 k,.string (markOf i)]) ∧ Below w.heap.size w w':=by
 obtain ⟨a,n,c,rfl⟩:=hlv
 have hsf:=fun (W:World) (p:Addr) (k:Nat) => run_store Tryz.prog W p (.float .f64 k) .plain rfl
 by_cases h8:i.op = 8
 ·have hm:markOf i = i.path:=if_pos h8
  rw [hm,h8]
  clear hm
  go_enter Tryz.func34,Tryz.ntmps34
  go_wp2
  refine bodyPost_ret (v:=.agg #[.int .i64 s,.float .f64 k,.string i.path]) (by simp [results,Tryz.results34,go_sem]) rfl ?_
  exact ⟨rfl,below_alloc3 _ _ _ _⟩
 ·have hm:markOf i = ⟨#[]⟩:=if_neg h8
  rw [hm]
  have hd:(i.op == 8) = false:=by simpa using h8
  have hd2:¬ i.op = 8:=h8
  clear hm
  go_enter Tryz.func34,Tryz.ntmps34
  go_wp2
  refine bodyPost_ret (v:=.agg #[.int .i64 s,.float .f64 k,.string ⟨#[]⟩]) (by simp [results,Tryz.results34,go_sem]) rfl ?_
  exact ⟨rfl,(((Below.refl _ _).alloc (Nat.le_refl _) _).alloc (by simp) _).alloc (by simp;omega) _⟩
def cleanI (op:Int) (p tt:ByteArray) (off size:Int) (parts:List PartA):ItemA :=
 ⟨op,p,if op = 5 then tt else ⟨#[]⟩,if op = 3 then off else 0,if op = 4 then size else 0,parts⟩
set_option maxRecDepth 100000 in
set_option maxHeartbeats 1000000 in
theorem clean_g (w:World) (op:Int) (path tt:ByteArray) (off size:Int) (da:Option Addr) (dn dc:Nat) (ps:List PartA) :
  Calls Tryz.prog 26 #[.agg #[.int .i64 op,.string path,.string tt,.int .i64 off,.int .i64 size,.slice da dn dc]] w fun e w' => e = .returned (.agg #[.int .i64 (cleanI op path tt off size ps).op,.string (cleanI op path tt off size ps).path,.string (cleanI op path tt off size ps).to,.int .i64 (cleanI op path tt off size ps).off,.int .i64 (cleanI op path tt off size ps).size,.slice none 0 0]) ∧ Below w.heap.size w w':=by
 unfold cleanI
 simp only
 by_cases c5:op = 5
 ·subst c5
  rw [if_pos rfl,if_neg (by decide),if_neg (by decide)]
  go_enter Tryz.func26,Tryz.ntmps26
  go_wp2
  refine bodyPost_ret (v:=.agg #[.int .i64 5,.string path,.string tt,.int .i64 0,.int .i64 0,.slice none 0 0]) (by simp [results,Tryz.results26,go_sem]) rfl ?_
  exact ⟨rfl,below_alloc3 _ _ _ _⟩
 by_cases c3:op = 3
 ·subst c3
  rw [if_neg (by decide),if_pos rfl,if_neg (by decide)]
  go_enter Tryz.func26,Tryz.ntmps26
  go_wp2
  refine bodyPost_ret (v:=.agg #[.int .i64 3,.string path,.string ⟨#[]⟩,.int .i64 off,.int .i64 0,.slice none 0 0]) (by simp [results,Tryz.results26,go_sem]) rfl ?_
  exact ⟨rfl,below_alloc3 _ _ _ _⟩
 by_cases c4:op = 4
 ·subst c4
  rw [if_neg (by decide),if_neg (by decide),if_pos rfl]
  go_enter Tryz.func26,Tryz.ntmps26
  go_wp2
  refine bodyPost_ret (v:=.agg #[.int .i64 4,.string path,.string ⟨#[]⟩,.int .i64 0,.int .i64 size,.slice none 0 0]) (by simp [results,Tryz.results26,go_sem]) rfl ?_
  exact ⟨rfl,below_alloc3 _ _ _ _⟩
 rw [if_neg c5,if_neg c3,if_neg c4]
 have d5:(op == 5) = false:=by simpa using c5
 have d3:(op == 3) = false:=by simpa using c3
 have d4:(op == 4) = false:=by simpa using c4
 go_enter Tryz.func26,Tryz.ntmps26
 go_wp2
 refine bodyPost_ret (v:=.agg #[.int .i64 op,.string path,.string ⟨#[]⟩,.int .i64 0,.int .i64 0,.slice none 0 0]) (by simp [results,Tryz.results26,go_sem]) rfl ?_
 exact ⟨rfl,below_alloc3 _ _ _ _⟩
end Go.Proofs.YtaonlcgneemimaaGreatDoor
namespace Go.Proofs.YtaonlcgneemimaaGreatDoor
open Go.RowKit
structure RepXG where
 K:Nat
 Ky:Nat
 now:Nat
 e:Nat
 x:EngX
 h:Nat
 pv:Value
 sv:Value
 xs:List HsX
 c:Nat
 P:List (List Int)
 bl:Nat
 bb:Nat
 vs:List Value
 fb:Int → Option Value
 m:Nat
 sz:Int
 dm:Nat
 dn:Nat
 df:Int → Option Value
 rv:Value
 its:List RowA
 y:StXG
def RepXG.mu (X:RepXG) (r:Nat):List Nat:=r :: X.dm :: (X.x.mut X.e ++ histM X.h X.pv X.sv)
def RepXG.m1 (X:RepXG) (r:Nat):List Nat:=[r,X.y.a,X.y.b,X.y.sm]
def okAllG:AbsG → Nat → List RowA → Prop
 | _,_,[] => True
 | x,K,r :: l => OkG x K r.2 ∧ okAllG (stepG x r.2) (K + r.2.parts.length + 1) l
noncomputable def stepAllG (x:AbsG) (l:List RowA):AbsG:=l.foldl (fun x r => stepG x r.2) x
def kAll (K:Nat) (l:List RowA):Nat:=l.foldl (fun k r => k + r.2.parts.length + 1) K
theorem okAllG_snoc:∀ (l:List RowA) (x:AbsG) (K:Nat) (r:RowA),okAllG x K l → OkG (stepAllG x l) (kAll K l) r.2 → okAllG x K (l ++ [r])
 | [],x,K,r,_,h => ⟨h,trivial⟩
 | j :: l,x,K,r,h,hi => ⟨h.1,okAllG_snoc l _ _ r h.2 hi⟩
theorem okAllG_at:∀ (l:List RowA) (x:AbsG) (K:Nat),okAllG x K l → ∀ (k:Nat) (r:RowA),l[k]? = some r → OkG (stepAllG x (l.take k)) (kAll K (l.take k)) r.2
 | [],x,K,_,k,r,hk => by simp at hk
 | j :: l,x,K,h,0,r,hk => by simp at hk;subst hk;exact h.1
 | j :: l,x,K,h,k + 1,r,hk => by
  have:=okAllG_at l _ _ h.2 k r (by simpa using hk)
  simpa [stepAllG,kAll] using this
theorem stepAllG_snoc (l:List RowA) (x:AbsG) (r:RowA):stepAllG x (l ++ [r]) = stepG (stepAllG x l) r.2:=by
 unfold stepAllG
 rw [List.foldl_append]
 rfl
theorem kAll_snoc (l:List RowA) (K:Nat) (r:RowA):kAll K (l ++ [r]) = kAll K l + r.2.parts.length + 1:=by
 unfold kAll
 rw [List.foldl_append]
 rfl
def rowPt (r:RowA):PtA:=(r.1,markOf r.2)
def allPts (xs:List HsX) (its:List RowA):List PtA:=xs.map HsX.pt ++ its.map rowPt
structure RepG (w:World) (r:Nat) (X:RepXG):Prop where
 cell:w.heap[r]? = some (.cells #[.pointer (some ⟨X.e,0,none⟩),.pointer (some ⟨X.h,0,none⟩),.pointer (some ⟨X.c,0,none⟩),.map (some X.dm),.float .f64 (stF X.now),X.rv,.pointer (some ⟨X.y.s,0,none⟩)] 77 (0,0))
 eng:EngAt w X.e X.x
 hist:HistG X.K w X.h X.pv X.sv X.xs
 chunks:ChunksAt w 0 X.c X.P X.bl X.bb X.vs X.fb X.m X.sz
 dmap:MapX KI w X.dm X.dn X.df
 dval:∀ id v,X.df id = some v → v = .bool true
 rows:RowsGV w X.rv X.its
 st:StGt w X.Ky X.y
 yx:X.y.x = stepAllG (lastG X.xs) X.its
 ok:okAllG (lastG X.xs) X.K X.its
 ky:X.Ky = kAll X.K X.its
 good:∀ i ∈ X.its,i.2.good
 pts:PtsOk (allPts X.xs X.its)
 clock:X.now ≤ 33 ∧ ∀ p ∈ allPts X.xs X.its,p.1 ≤ X.now
 one:1 ∉ X.mu r ∧ 1 ∉ X.m1 r
 ynot:∀ k ∈ X.y.blocks,k ∉ X.mu r
 znot:∀ z ∈ X.xs,∀ k ∈ z.blocks,k ∉ X.mu r ∧ k ∉ X.m1 r
 cnot:X.bl ∉ X.mu r ∧ X.bb ∉ X.mu r
 fnot:∀ k v g,X.fb k = some v → v.ownBlock = some g → g ∉ X.mu r
 dne:X.dm ∉ X.x.mut X.e
theorem RepG.ty1 {w:World} {r:Nat} {X:RepXG} (h:RepG w r X):Typed w (X.m1 r) [77,170]:=by
 intro k hk
 simp only [RepXG.m1,List.mem_cons,List.not_mem_nil,or_false] at hk
 rcases hk with rfl | rfl | rfl | rfl
 ·exact .inl ⟨_,_,h.cell,by simp⟩
 ·exact .inl ⟨_,_,h.st.at'.tree.cell,by simp⟩
 ·exact .inr h.st.at'.tree.map.obj
 ·exact .inr h.st.at'.bodies.map.obj
theorem RepG.ty2 {w:World} {r:Nat} {X:RepXG} (h:RepG w r X):Typed w (X.mu r) [77,151,64,33,4,227,3,115,52,73]:=by
 intro k hk
 simp only [RepXG.mu,List.mem_cons,List.mem_append] at hk
 rcases hk with rfl | rfl | hk | hk
 ·exact .inl ⟨_,_,h.cell,by simp⟩
 ·exact .inr h.dmap.obj
 ·rcases h.eng.typed k hk with ⟨a,t,h1,h2⟩ | h1
  ·exact .inl ⟨a,t,h1,by simp only [List.mem_cons,List.not_mem_nil,or_false] at h2 ⊢;rcases h2 with rfl | rfl | rfl | rfl | rfl | rfl <;> simp⟩
  ·exact .inr h1
 ·obtain ⟨a,t,h1,h2⟩:=histM_tyG h.hist k hk
  exact .inl ⟨a,t,h1,by rcases h2 with rfl | rfl | rfl <;> simp⟩
theorem RowsGV.frame {M:List Nat} {w w':World} {v:Value} {its:List RowA} (h:RowsGV w v its) (hf:Frame M w w') (h86:∀ g ∈ M,∀ arr,w.heap[g]? ≠ some (.cells arr 86 (0,0))) (h134:∀ g ∈ M,∀ arr,w.heap[g]? ≠ some (.cells arr 134 (0,0))):RowsGV w' v its:=by
 obtain ⟨ps,h1,h2,h3⟩:=h
 exact ⟨ps,h1,h2.frame hf h86,fun j s i hs hi => (h3 j s i hs hi).frame hf h134⟩
theorem HistG.frame {K:Nat} {M:List Nat} {w w':World} {h:Nat} {pv sv:Value} {xs:List HsX} (H:HistG K w h pv sv xs) (hf:Frame M w w') (hm:∀ k ∈ histM h pv sv,k ∉ M) (hz:∀ z ∈ xs,∀ k ∈ z.blocks,k ∉ M) (h1:1 ∉ M) (h134:∀ g ∈ M,∀ arr,w.heap[g]? ≠ some (.cells arr 134 (0,0))):HistG K w' h pv sv xs:=by
 refine ⟨hf.heap H.cell (hm _ (by simp [histM])),own_frame H.pts hf (fun g hg => hm _ (by simp [histM,hg])),own_frame H.sts hf (fun g hg => hm _ (by simp [histM,hg])),H.pnil,H.snil,fun y hy => (H.each y hy).frame hf (hz y hy) h1 h134,H.ok,?_,H.few⟩
 obtain ⟨m,hm1⟩:=H.glob
 exact ⟨m,(hf.cell (p:=⟨1,0,none⟩) (World.block_lt_of_cell? w _ hm1) h1).trans hm1⟩
theorem RepG.below {w w':World} {r:Nat} {X:RepXG} (h:RepG w r X) (hb:Below w.heap.size w w'):RepG w' r X :=
 ⟨Below.heap hb (Nat.le_refl _) h.cell,h.eng.below hb,h.hist.below hb,h.chunks.below hb,keep_map h.dmap hb,h.dval,h.rows.below hb,h.st.below hb,h.yx,h.ok,h.ky,h.good,h.pts,h.clock,h.one,h.ynot,h.znot,h.cnot,h.fnot,h.dne⟩
set_option maxRecDepth 100000 in
set_option maxHeartbeats 1000000 in
theorem repNext_g (KK:Nat) (w:World) (r h:Nat) (v0 v2 v3 v4 v6 pv sv:Value) (xs:List HsX) (ra:Option Addr) (n cap:Nat) (hc:w.heap[r]? = some (.cells #[v0,.pointer (some ⟨h,0,none⟩),v2,v3,v4,.slice ra n cap,v6] 77 (0,0))) (H:HistG KK w h pv sv xs) (hn:n ≤ 100000) :
  Calls Tryz.prog 29 #[.pointer (some ⟨r,0,none⟩)] w fun e w' => e = .returned (.int .i64 ((xs.length:Int) + n + 1)) ∧ Below w.heap.size w w':=by
 have hf:=H.few
 have L:=Lib.hid (lastPt_g KK w h pv sv xs H)
 obtain ⟨N,hN⟩:∃ N,Hid (N = xs.length):=⟨xs.length,Lib.hid rfl⟩
 rw [← hN.out] at hf ⊢
 have c1:=cellAt hc 1
 have c5:=cellAt hc 5
 simp only [List.getElem?_toArray,List.getElem?_cons_zero,List.getElem?_cons_succ] at c1 c5
 have K:Hid (∀ W:World,Below w.heap.size w W → W.cell? ⟨r,1,none⟩ = some (.pointer (some ⟨h,0,none⟩)) ∧ W.cell? ⟨r,5,none⟩ = some (.slice ra n cap)):=Lib.hid (fun W hW => ⟨cellAt (Below.heap hW (Nat.le_refl _) hc) 1,cellAt (Below.heap hW (Nat.le_refl _) hc) 5⟩)
 have L2:Hid (Calls Tryz.prog 35 #[.pointer (some ⟨h,0,none⟩)] w.drew fun e w' => ∃ y m,e = .returned (.agg #[.int .i64 N,.float .f64 y,.string m]) ∧ Below w.heap.size w w'):=Lib.hid (by
  rw [hN.out]
  refine (lastPt_g KK w.drew h pv sv xs (H.below ((Below.refl _ _).drew))).mono ?_
  rintro e w' ⟨y,m,rfl,hq⟩
  exact ⟨y,m,rfl,((Below.refl _ _).drew).trans hq⟩)
 have hfd:∀ y m W,(Instr.field 52 (.agg #[.int .i64 N,.float .f64 y,.string m]) 0).run Tryz.prog W = .ok (.int .i64 N) W:=fun y m W => by kernel_rfl
 have e1:IntKind.i64.wrap ((N:Int) + n) = (N:Int) + n:=IntWalk.i64_in _ (by omega)
 have e2:IntKind.i64.wrap ((N:Int) + n + 1) = (N:Int) + n + 1:=IntWalk.i64_in _ (by omega)
 clear H hc L
 go_enter Tryz.func29,Tryz.ntmps29
 go_wp2_with fail
 go_region_held3 (fun W => W.cell? ⟨r,1,none⟩ = some (.pointer (some ⟨h,0,none⟩)) ∧ W.cell? ⟨r,5,none⟩ = some (.slice ra n cap)) (first | exact ⟨c1,c5⟩ | exact K.out _ HB.out) (first | (go_at_call 35;with_reducible refine L2.out.mono ?_;rintro e1 w1 ⟨yy,mm,rfl,hq⟩;have HB:=Lib.hid hq;clear hq))
 go_wp2_with fail
 go_ret
 exact ⟨rfl,HB.out⟩
set_option maxRecDepth 100000 in
set_option maxHeartbeats 1000000 in
theorem repBatch_g (KK:Nat) (w:World) (r h:Nat) (v0 v2 v3 v4 v5 v6 pv sv:Value) (xs:List HsX) (hc:w.heap[r]? = some (.cells #[v0,.pointer (some ⟨h,0,none⟩),v2,v3,v4,v5,v6] 77 (0,0))) (H:HistG KK w h pv sv xs) (v:Value) (its:List RowA) (hr:RowsGV w v its) (hg:∀ i ∈ its,i.2.good) (hst:StOk its) (hne:its ≠ []) (hn:its.length ≤ 100000) (hlen:(recordG (xs.length + 1) its).length ≤ 16384) :
  Calls Tryz.prog 28 #[.pointer (some ⟨r,0,none⟩),v] w fun e w' => ∃ v',e = .returned (.tuple #[v',.int .i64 0]) ∧ w'.ownsRow w.heap.size 5 1 v' (recordG (xs.length + 1) its).length (u8s (recordG (xs.length + 1) its)) ∧ Below w.heap.size w w':=by
 have hf:=H.few
 have L:=Lib.hid (lastPt_g KK w h pv sv xs H)
 have HR:=Lib.hid hr
 obtain ⟨a,cap,rfl,-,-,-⟩:=rowsG_cells hr
 obtain ⟨N,hN⟩:∃ N,Hid (N = xs.length):=⟨xs.length,Lib.hid rfl⟩
 have BB:Hid (∀ W,Below w.heap.size w W → Calls Tryz.prog 60 #[.agg #[.int .i64 1,.int .i64 ((N:Int) + 1),.slice a its.length cap,.float .f64 0,.string ⟨#[]⟩,.slice none 0 0]] W fun e w' => ∃ v',e = .returned (.tuple #[v',.int .i64 0]) ∧ w'.ownsRow w.heap.size 5 1 v' (recordG (xs.length + 1) its).length (u8s (recordG (xs.length + 1) its)) ∧ Below W.heap.size W w'):=Lib.hid (fun W hW => by
  refine (batchBytes_g W (N + 1) _ its (hr.below hW) hg hst hne hn (by omega) (by have:=hN.out;omega) (by rw [hN.out];exact hlen)).mono ?_
  rintro e w' ⟨v',rfl,ho,hq⟩
  rw [hN.out] at ho
  exact ⟨v',rfl,own_mono ho hW.size,hq⟩)
 rw [← hN.out] at hf
 have L2:Hid (Calls Tryz.prog 35 #[.pointer (some ⟨h,0,none⟩)] w fun e w' => ∃ y m,e = .returned (.agg #[.int .i64 N,.float .f64 y,.string m]) ∧ Below w.heap.size w w'):=Lib.hid (by rw [hN.out];exact L.out)
 have hfd:∀ y m W,(Instr.field 52 (.agg #[.int .i64 N,.float .f64 y,.string m]) 0).run Tryz.prog W = .ok (.int .i64 N) W:=fun y m W => by kernel_rfl
 have e1:IntKind.i64.wrap ((N:Int) + 1) = (N:Int) + 1:=IntWalk.i64_in _ (by omega)
 have c1:=cellAt hc 1
 simp only [List.getElem?_toArray,List.getElem?_cons_zero,List.getElem?_cons_succ] at c1
 obtain ⟨Q,hQ⟩:∃ Q:Ending → World → Prop,Q = fun e w' => ∃ v',e = .returned (.tuple #[v',.int .i64 0]) ∧ w'.ownsRow w.heap.size 5 1 v' (recordG (xs.length + 1) its).length (u8s (recordG (xs.length + 1) its)) ∧ Below w.heap.size w w':=⟨_,rfl⟩
 rw [← hQ]
 have hQ:=Lib.hid hQ
 clear H hc L hr hg hne hlen hst
 go_enter Tryz.func28,Tryz.ntmps28
 go_wp2_with (first | (go_at_call 35;with_reducible refine L2.out.mono ?_;rintro e1 w1 ⟨yy,mm,rfl,hq⟩;have HB:=Lib.hid hq;clear hq) | (go_at_call 60;with_reducible refine (BB.out _ HB.out).mono ?_;rintro e1 w2 ⟨v',rfl,ho,hq⟩;obtain ⟨pa,pc,rfl⟩:=own_shape ho;have HO:=Lib.hid ho;have HB2:=Lib.hid (HB.out.trans (hq.mono HB.out.size));clear ho hq))
 rw [hQ.out]
 exact ⟨.slice pa (recordG (xs.length + 1) its).length pc,rfl,HO.out,HB2.out⟩
end Go.Proofs.YtaonlcgneemimaaGreatDoor
namespace Go.Proofs.YtaonlcgneemimaaGreatDoor
open Go.RowKit
set_option maxRecDepth 100000 in
set_option maxHeartbeats 1000000 in
theorem repPoints_g (w:World) (r:Nat) (X:RepXG) (H:RepG w r X) :
  Calls Tryz.prog 14 #[.pointer (some ⟨r,0,none⟩)] w fun e w' => ∃ v,e = .returned v ∧ PtsN w' v X.xs.length (X.xs.map HsX.pt) ∧ Below w.heap.size w w':=by
 have HP:=Lib.hid (histPoints_g X.K w X.h X.pv X.sv X.xs H.hist)
 have c1:=cellAt H.cell 1
 simp only [List.getElem?_toArray,List.getElem?_cons_zero,List.getElem?_cons_succ] at c1
 clear H
 go_enter Tryz.func14,Tryz.ntmps14
 go_wp2_with (go_at_call 40;refine HP.out.mono ?_;rintro e w1 ⟨v,rfl,hv,hq⟩;have HV:=Lib.hid hv;have HQ:=Lib.hid hq;clear hv hq)
 go_ret
 exact ⟨_,rfl,HV.out,HQ.out⟩
theorem RepG.tick {w:World} {r:Nat} {X:RepXG} (H:RepG w r X) (hn:X.now ≤ 32):RepG (w.setCell ⟨r,4,none⟩ (.float .f64 (stF (X.now + 1)))) r { X with now:=X.now + 1 }:=by
 have F:Frame [r] w (w.setCell ⟨r,4,none⟩ (.float .f64 (stF (X.now + 1)))):=(Frame.refl [r] w).setCell (p:=⟨r,4,none⟩) (.inl (by simp)) _
 have hno:∀ t,t ≠ 77 → ∀ g ∈ [r],∀ arr,w.heap[g]? ≠ some (.cells arr t (0,0)):=fun t ht g hg arr he => by
  simp only [List.mem_singleton] at hg
  subst hg
  exact cells_ty H.cell he (Ne.symm ht) rfl
 have h1:1 ∉ [r]:=fun h => H.one.1 (by simp only [List.mem_singleton] at h;simp [RepXG.mu,h])
 refine ⟨?_,H.eng.frame F (fun k hk h => ?_) ?_,H.hist.frame F (fun k hk h => ?_) (fun z hz k hk h => ?_) h1 (hno 134 (by decide)),H.chunks.frame F ?_ ?_ ?_ (fun k v g hv hg h => ?_) (hno 5 (by decide)),H.dmap.same (F.block _ H.dmap.lt ?_),H.dval,H.rows.frame F (hno 86 (by decide)) (hno 134 (by decide)),H.st.frame F (fun k hk h => ?_) h1 (hno 134 (by decide)),H.yx,H.ok,H.ky,H.good,H.pts,⟨by show X.now + 1 ≤ 33;omega,fun p hp => Nat.le_succ_of_le (H.clock.2 p hp)⟩,H.one,H.ynot,H.znot,H.cnot,H.fnot,H.dne⟩
 ·have:=setAt H.cell 4 (.float .f64 (stF (X.now + 1)))
  simpa using this
 ·simp only [List.mem_singleton] at h
  subst h
  exact H.eng.typed.out H.cell (by decide) hk
 ·obtain ⟨ba,hba⟩:=H.eng.space.blk
  simpa using (cells_ty hba H.cell (by decide))
 ·simp only [List.mem_singleton] at h
  subst h
  obtain ⟨arr,t,e1,e2⟩:=histM_tyG H.hist k hk
  exact cells_ty e1 H.cell (by rcases e2 with rfl | rfl | rfl <;> decide) rfl
 ·exact (H.znot z hz k hk).1 (by simp only [List.mem_singleton] at h;simp [RepXG.mu,h])
 ·simpa using (cells_ty H.chunks.cell H.cell (by decide))
 ·exact fun h => H.cnot.1 (by simp only [List.mem_singleton] at h;simp [RepXG.mu,h])
 ·exact fun h => H.cnot.2 (by simp only [List.mem_singleton] at h;simp [RepXG.mu,h])
 ·exact H.fnot k v g hv hg (by simp only [List.mem_singleton] at h;simp [RepXG.mu,h])
 ·intro h
  simp only [List.mem_singleton] at h
  exact H.dmap.cells (by rw [h];exact H.cell)
 ·exact H.ynot k hk (by simp only [List.mem_singleton] at h;simp [RepXG.mu,h])
set_option maxRecDepth 100000 in
set_option maxHeartbeats 1000000 in
theorem repTick_g (w:World) (r:Nat) (X:RepXG) (H:RepG w r X) (hn:X.now ≤ 32) :
  Calls Tryz.prog 13 #[.pointer (some ⟨r,0,none⟩),.float .f64 4602678819172646912] w fun e w' => e = .returned (.int .i64 0) ∧ RepG w' r { X with now:=X.now + 1 } ∧ Frame [r] w w':=by
 have HT:=Lib.hid (H.tick hn)
 have hsf:=fun (W:World) (p:Addr) (k:Nat) => run_store Tryz.prog W p (.float .f64 k) .plain rfl
 have c4:=cellAt H.cell 4
 have f4:=frozenAt H.cell 4
 simp only [List.getElem?_toArray,List.getElem?_cons_zero,List.getElem?_cons_succ] at c4
 have CA:=Lib.hid (after_g w X.now hn)
 obtain ⟨hh,hhh⟩:∃ x,Hid (x = 4602678819172646912):=⟨_,Lib.hid rfl⟩
 rw [← hhh.out] at CA ⊢
 clear H
 go_enter Tryz.func13,Tryz.ntmps13
 go_wp2_with (go_at_call 39;refine CA.out.mono ?_;rintro e w1 ⟨rfl,hw⟩;have hw:=hw.symm;subst hw)
 go_ret
 exact ⟨rfl,HT.out,(Frame.refl [r] w).setCell (p:=⟨r,4,none⟩) (.inl (by simp)) _⟩
end Go.Proofs.YtaonlcgneemimaaGreatDoor
namespace Go.Proofs.YtaonlcgneemimaaGreatDoor
open Go.RowKit
def RepXG.owns (X:RepXG) (r k:Nat):Prop:=k ∈ X.mu r ∨ k ∈ X.m1 r ∨ k ∈ X.y.blocks ∨ (∃ z ∈ X.xs,k ∈ z.blocks) ∨ k = X.bl ∨ k = X.bb ∨ k = X.c ∨ k = X.x.b ∨ (∃ q v,X.fb q = some v ∧ v.ownBlock = some k)
theorem RepG.owns_lt {w:World} {r:Nat} {X:RepXG} (H:RepG w r X) {k:Nat} (h:X.owns r k):k < w.heap.size:=by
 rcases h with h | h | h | ⟨z,hz,h⟩ | h | h | h | h | ⟨q,v,hv,hg⟩
 ·exact H.ty2.lt k h
 ·exact H.ty1.lt k h
 ·exact H.st.lt k h
 ·exact (H.hist.each z hz).lt k h
 ·exact h ▸ H.chunks.ml.lt
 ·exact h ▸ H.chunks.mb.lt
 ·exact h ▸ heap_lt H.chunks.cell
 ·obtain ⟨ba,hba⟩:=H.eng.space.blk
  exact h ▸ heap_lt hba
 ·exact ((H.chunks.rows q v hv).1.lt k hg).2
theorem RepG.other {M:List Nat} {w w':World} {s:Nat} {Z:RepXG} (H:RepG w s Z) (F:Frame M w w') (hM:∀ k,Z.owns s k → k ∉ M) (h1:1 ∉ M) (h5:∀ g ∈ M,∀ arr,w.heap[g]? ≠ some (.cells arr 5 (0,0))) (h86:∀ g ∈ M,∀ arr,w.heap[g]? ≠ some (.cells arr 86 (0,0))) (h134:∀ g ∈ M,∀ arr,w.heap[g]? ≠ some (.cells arr 134 (0,0))):RepG w' s Z:=by
 have hmu:∀ k ∈ Z.mu s,k ∉ M:=fun k hk => hM k (.inl hk)
 refine ⟨F.heap H.cell (hmu s (by simp [RepXG.mu])),H.eng.frame F (fun k hk => hmu k (by simp [RepXG.mu,hk])) (hM _ (by unfold RepXG.owns;simp)),H.hist.frame F (fun k hk => hmu k (by simp [RepXG.mu,hk])) (fun z hz k hk => hM k (.inr (.inr (.inr (.inl ⟨z,hz,hk⟩))))) h1 h134,H.chunks.frame F (hM _ (by unfold RepXG.owns;simp)) (hM _ (by unfold RepXG.owns;simp)) (hM _ (by unfold RepXG.owns;simp)) (fun k v g hv hg => hM g (.inr (.inr (.inr (.inr (.inr (.inr (.inr (.inr ⟨k,v,hv,hg⟩))))))))) h5,H.dmap.same (F.block _ H.dmap.lt (hmu _ (by simp [RepXG.mu]))),H.dval,H.rows.frame F h86 h134,H.st.frame F (fun k hk => hM k (.inr (.inr (.inl hk)))) h1 h134,H.yx,H.ok,H.ky,H.good,H.pts,H.clock,H.one,H.ynot,H.znot,H.cnot,H.fnot,H.dne⟩
def Apart (X:RepXG) (r:Nat) (Z:RepXG) (s:Nat):Prop:=∀ k,X.owns r k → ¬ Z.owns s k
theorem Apart.symm {X Z:RepXG} {r s:Nat} (h:Apart X r Z s):Apart Z s X r:=fun k h1 h2 => h k h2 h1
theorem Apart.grow {w:World} {X X' Z:RepXG} {r s:Nat} (h:Apart X r Z s) (HZ:RepG w s Z) (hg:∀ k,X'.owns r k → X.owns r k ∨ w.heap.size ≤ k):Apart X' r Z s:=fun k h1 h2 => by
 rcases hg k h1 with h3 | h3
 ·exact h k h3 h2
 ·have:=HZ.owns_lt h2
  omega
theorem RepG.keep1 {w w':World} {r s:Nat} {X Z:RepXG} (HZ:RepG w s Z) (HX:RepG w r X) (h:Apart X r Z s) (F:Frame (X.m1 r) w w'):RepG w' s Z :=
 HZ.other F (fun k hk hm => h k (.inr (.inl hm)) hk) HX.one.2 (HX.ty1.no (by decide)) (HX.ty1.no (by decide)) (HX.ty1.no (by decide))
theorem RepG.keep2 {w w':World} {r s:Nat} {X Z:RepXG} (HZ:RepG w s Z) (HX:RepG w r X) (h:Apart X r Z s) (F:Frame (X.mu r) w w'):RepG w' s Z :=
 HZ.other F (fun k hk hm => h k (.inl hm) hk) HX.one.1 (HX.ty2.no (by decide)) (HX.ty2.no (by decide)) (HX.ty2.no (by decide))
end Go.Proofs.YtaonlcgneemimaaGreatDoor
namespace Go.Proofs.YtaonlcgneemimaaGreatDoor
open Go.RowKit
open Go.Maps (Keyed)
def leBy:List UInt8 → List UInt8 → Bool:=fun x y => decide (x ≤ y)
theorem sort_of_perm {l l':List (List UInt8)} (h:l.Perm l'):l.mergeSort leBy = l'.mergeSort leBy:=by
 have tr:∀ a b c:List UInt8,leBy a b = true → leBy b c = true → leBy a c = true:=fun a b c h1 h2 => by simp only [leBy,decide_eq_true_eq] at *;exact List.le_trans h1 h2
 have tot:∀ a b:List UInt8,(leBy a b || leBy b a) = true:=fun a b => by simp only [leBy,Bool.or_eq_true,decide_eq_true_eq];exact List.le_total a b
 refine List.Perm.eq_of_pairwise (le:=fun a b => leBy a b = true) (fun a b _ _ h1 h2 => ?_) (List.pairwise_mergeSort tr tot l) (List.pairwise_mergeSort tr tot l') (((List.mergeSort_perm l leBy).trans h).trans (List.mergeSort_perm l' leBy).symm)
 simp only [leBy,decide_eq_true_eq] at h1 h2
 exact List.le_antisymm h1 h2
def PathsG (T:TreeF) (ps:List ByteArray):Prop:=∃ ss:List (List UInt8),ss.Nodup ∧ (∀ x,x ∈ ss ↔ (T ⟨x.toArray⟩).isSome = true) ∧ ps = (ss.mergeSort leBy).map (fun l => ⟨l.toArray⟩)
theorem PathsG.unique {T:TreeF} {ps ps':List ByteArray} (h:PathsG T ps) (k:PathsG T ps'):ps = ps':=by
 obtain ⟨ss,h1,h2,rfl⟩:=h
 obtain ⟨tt,k1,k2,rfl⟩:=k
 rw [sort_of_perm ((List.perm_ext_iff_of_nodup h1 k1).2 (fun x => (h2 x).trans (k2 x).symm))]
theorem PathsG.mem {T:TreeF} {ps:List ByteArray} (h:PathsG T ps) {p:ByteArray} (hp:p ∈ ps):(T p).isSome = true:=by
 obtain ⟨ss,-,h2,rfl⟩:=h
 obtain ⟨l,hl,rfl⟩:=List.mem_map.1 hp
 exact (h2 l).1 (by simpa using hl)
theorem strKeys_nodup {H:Type} {D:DataW H} {P:Program} {R:Value → Option (DataW H × List MemPlace)} {w:World} {b n:Nat} (hown:w.ownsMap P 9 R b n D) (K:Keyed P 9) (hk:P.underlying 9 = some .string):(strKeys D).Nodup:=by
 obtain ⟨es,hD,hpw⟩:=hown.tidy K
 obtain ⟨es',hD',hko⟩:=hown.keysOf
 obtain rfl:es = es':=by rw [hD] at hD';simpa using hD'
 subst hD
 show (es.map fun p => strOf p.1).Nodup
 refine List.pairwise_map.2 (hpw.imp_of_mem fun {p q} hp' hq' hne e => hne ?_)
 obtain ⟨v,hv⟩:=hko p hp'
 obtain ⟨a,_,ha,_⟩:=Maps.keyOf_str hk hv
 obtain ⟨v',hv'⟩:=hko q hq'
 obtain ⟨b,_,hb,_⟩:=Maps.keyOf_str hk hv'
 rw [ha,hb] at e ⊢
 exact congrArg _ e
theorem paths_g (w:World) (a b n:Nat) (T:TreeF) (next:Int) (H:TreeG w a b n T next) (hn:n ≤ 100000) :
  Calls Tryz.prog 43 #[.pointer (some ⟨a,0,none⟩)] w fun e w' => ∃ v ps,e = .returned v ∧ PathsG T ps ∧ ps.length = n ∧ Sl w' 9 1 v ps.length (strsC ps) ∧ Below w.heap.size w w':=by
 have hml:maxLen = 9223372036854775807:=by decide
 obtain ⟨D,hown,hsz,hf⟩:=H.map
 refine (Tryz.paths_raw a b _ D _ w (cellAt H.cell 0) hown (by omega) (by omega)).mono ?_
 rintro e w' ⟨v,ss,rfl,hp,hrow,hnil,hb⟩
 have hlen:ss.length = n:=by
  rw [hp.length_eq,← hsz]
  obtain ⟨es,rfl,-⟩:=hown.keysOf
  simp [strKeys,Maps.size]
 have hmt:∀ p:ByteArray,(gmap T p).isSome = (T p).isSome:=fun p => by unfold gmap;cases T p <;> rfl
 have hwf:=strKeys_le hown Tryz.underlying9
 refine ⟨v,(ss.mergeSort leBy).map (fun l => ⟨l.toArray⟩),rfl,⟨ss,?_,fun x => ?_,rfl⟩,by simpa using hlen,?_,hb⟩
 ·exact hp.symm.nodup (strKeys_nodup hown KS.keyed Tryz.underlying9)
 ·rw [hp.mem_iff,strKeys_has hown Tryz.underlying9,← hmt]
  by_cases hg:KS.good (⟨x.toArray⟩:ByteArray)
  ·have h:=MapX.has_iff (K:=KS) (hf ⟨x.toArray⟩ hg)
   have e:KS.lit (⟨x.toArray⟩:ByteArray) = .string x:=by show Lit.string _ = _;simp
   rw [e] at h
   rw [h]
  ·constructor
   ·intro h
    exact absurd (by have h1:=hwf _ ((strKeys_has hown Tryz.underlying9).2 h);show (⟨x.toArray⟩:ByteArray).size ≤ maxLen;rw [show (⟨x.toArray⟩:ByteArray).size = x.length from List.size_toArray];exact h1) hg
   ·intro h
    exfalso
    rw [hmt] at h
    obtain ⟨id,hid⟩:=Option.isSome_iff_exists.1 h
    exact hg (KS_big (by have:=H.small _ _ hid;omega))
 ·have e:strsC ((ss.mergeSort leBy).map (fun l => (⟨l.toArray⟩:ByteArray))) = (ss.mergeSort (fun x y => decide (x ≤ y))).map encStr:=by
   unfold strsC leBy
   rw [List.map_map]
   rfl
  have e2:((ss.mergeSort leBy).map (fun l => (⟨l.toArray⟩:ByteArray))).length = ss.length:=by simp
  rw [e,e2]
  refine Sl.of_own hrow (fun u hu => ?_) ?_
  ·obtain ⟨l,_,rfl⟩:=List.mem_map.1 hu
   rfl
  ·rcases Nat.eq_zero_or_pos ss.length with h0 | h0
   ·exact .inl (hnil.2 (List.eq_nil_of_length_eq_zero h0))
   ·exact .inr h0
end Go.Proofs.YtaonlcgneemimaaGreatDoor
namespace Go.Proofs.YtaonlcgneemimaaGreatDoor
open Go.RowKit
set_option maxRecDepth 100000 in
set_option maxHeartbeats 2000000 in
theorem stateTree_g (w:World) (K:Nat) (y:StXG) (H:StGt w K y) :
  Calls Tryz.prog 42 #[.pointer (some ⟨y.s,0,none⟩)] w fun e w' => ∃ a' b',e = .returned (.pointer (some ⟨a',0,none⟩)) ∧ TreeG w' a' b' y.x.n y.x.T y.x.next ∧ Below w.heap.size w w':=by
 have HC:=Lib.hid (copyTree_g w y.a y.b y.x.n y.x.T y.x.next H.at'.tree)
 have c0:w.cell? ⟨y.s,0,none⟩ = some (.pointer (some ⟨y.a,0,none⟩)):=cellAt H.at'.cell 0
 clear H
 go_enter Tryz.func42,Tryz.ntmps42
 go_wp2_with (go_at_call 84;refine HC.out.mono ?_;rintro e w1 ⟨rfl,ht,hq,-⟩;have HT:=Lib.hid ht;have HQ:=Lib.hid hq;clear ht hq)
 go_ret
 exact ⟨_,_,rfl,HT.out,HQ.out⟩
set_option maxRecDepth 100000 in
set_option maxHeartbeats 2000000 in
theorem repState_g (w:World) (r:Nat) (X:RepXG) (H:RepG w r X) (j:Nat) (z:HsX) (hj:X.xs[j]? = some z) :
  Calls Tryz.prog 36 #[.pointer (some ⟨r,0,none⟩),.int .i64 ((j:Int) + 1)] w fun e w' => ∃ y':StXG,e = .returned (.tuple #[.pointer (some ⟨y'.s,0,none⟩),.int .i64 0]) ∧ StGt w' X.K y' ∧ y'.x = z.y.x ∧ Below w.heap.size w w':=by
 have HP:=Lib.hid (histState_g X.K w X.h X.pv X.sv X.xs H.hist j z hj)
 have c1:=cellAt H.cell 1
 simp only [List.getElem?_toArray,List.getElem?_cons_zero,List.getElem?_cons_succ] at c1
 clear H
 go_enter Tryz.func36,Tryz.ntmps36
 go_wp2_with (go_at_call 77;with_reducible refine HP.out.mono ?_;rintro e1 w1 ⟨y',rfl,hs,hx,hb,hq⟩;have HS:=Lib.hid hs;have HX:=Lib.hid hx;have HB:=Lib.hid hb;have HQ:=Lib.hid hq;clear hs hx hb hq)
 refine bodyPost_ret (v:=.tuple #[.pointer (some ⟨y'.s,0,none⟩),.int .i64 0]) (by simp [results,Tryz.results36,go_sem]) rfl ?_
 exact ⟨_,rfl,HS.out,HX.out,HQ.out⟩
set_option maxRecDepth 100000 in
set_option maxHeartbeats 2000000 in
theorem repPaths_g (w:World) (r:Nat) (X:RepXG) (H:RepG w r X) (j:Nat) (z:HsX) (hj:X.xs[j]? = some z) :
  Calls Tryz.prog 16 #[.pointer (some ⟨r,0,none⟩),.int .i64 ((j:Int) + 1)] w fun e w' => ∃ v ps,e = .returned (.tuple #[v,.int .i64 0]) ∧ PathsG z.y.x.T ps ∧ ps.length ≤ 64 ∧ Sl w' 9 1 v ps.length (strsC ps) ∧ Below w.heap.size w w':=by
 have hok:=(H.hist.each z (List.mem_of_getElem? hj)).ok
 have SP:=Lib.hid (repState_g w r X H j z hj)
 have TR:Hid (∀ (W:World) (y':StXG),StGt W X.K y' → Calls Tryz.prog 42 #[.pointer (some ⟨y'.s,0,none⟩)] W fun e w' => ∃ a' b',e = .returned (.pointer (some ⟨a',0,none⟩)) ∧ TreeG w' a' b' y'.x.n y'.x.T y'.x.next ∧ Below W.heap.size W w'):=Lib.hid (fun W y' h => stateTree_g W X.K y' h)
 have PA:Hid (∀ (W:World) (a b n:Nat) (T:TreeF) (next:Int),TreeG W a b n T next → n ≤ 100000 → Calls Tryz.prog 43 #[.pointer (some ⟨a,0,none⟩)] W fun e w' => ∃ v ps,e = .returned v ∧ PathsG T ps ∧ ps.length = n ∧ Sl w' 9 1 v ps.length (strsC ps) ∧ Below W.heap.size W w'):=Lib.hid (fun W a b n T next h hn => paths_g W a b n T next h hn)
 have HOK:=Lib.hid hok
 clear H hj hok
 go_enter Tryz.func16,Tryz.ntmps16
 go_wp2_with (first | (go_at_call 36;with_reducible refine SP.out.mono ?_;rintro e1 w1 ⟨y',rfl,hs,hx,hq⟩;have HS:=Lib.hid hs;have HX:=Lib.hid hx;have HQ1:=Lib.hid hq;clear hs hx hq) | (go_at_call 42;with_reducible refine (TR.out w1 y' HS.out).mono ?_;rintro e1 w2 ⟨a',b',rfl,ht,hq⟩;rw [HX.out] at ht;have HT:=Lib.hid ht;have HQ2:=Lib.hid (HQ1.out.trans (hq.mono HQ1.out.size));clear ht hq) | (go_at_call 43;with_reducible refine (PA.out w2 _ _ _ _ _ HT.out (by have:=HOK.out.n64;omega)).mono ?_;rintro e1 w3 ⟨v,ps,rfl,hp,hl,hsl,hq⟩;have HP:=Lib.hid hp;have HLN:Hid (ps.length ≤ 64):=Lib.hid (by have:=HOK.out.n64;omega);have HSL:=Lib.hid hsl;obtain ⟨sa,sc,rfl,-,-,-⟩:=hsl.shape;have HQ3:=Lib.hid (HQ2.out.trans (hq.mono HQ2.out.size));clear hp hl hsl hq))
 go_ret2
 exact ⟨_,ps,rfl,HP.out,HLN.out,HSL.out,HQ3.out⟩
set_option maxRecDepth 100000 in
set_option maxHeartbeats 2000000 in
theorem repStat_g (w:World) (r:Nat) (X:RepXG) (H:RepG w r X) (j:Nat) (z:HsX) (hj:X.xs[j]? = some z) (p:ByteArray) (hp:p.size ≤ 1000000) :
  Calls Tryz.prog 17 #[.pointer (some ⟨r,0,none⟩),.int .i64 ((j:Int) + 1),.string p] w fun e w' => e = .returned (statV (statG z.y.x p)) ∧ Below w.heap.size w w':=by
 have HB0:Hid (Below w.heap.size w (w.alloc (.cells #[.int .i64 0,.bool false,.int .i64 0] 54))):=Lib.hid (crc_below _ _)
 have HN0:=Lib.hid (heap_new w (.cells #[.int .i64 0,.bool false,.int .i64 0] 54))
 have SP:=Lib.hid (repState_g _ r X (H.below HB0.out) j z hj)
 obtain ⟨⟨⟨id,d,bz⟩,er⟩,hR⟩:∃ R,Hid (R = statG z.y.x p):=⟨_,rfl⟩
 rw [← hR.out]
 have ST:Hid (∀ (W:World) (y':StXG),StGt W X.K y' → y'.x = z.y.x → Calls Tryz.prog 44 #[.pointer (some ⟨y'.s,0,none⟩),.string p] W fun e w' => e = .returned (.tuple #[.agg #[.int .i64 id,.bool d,.int .i64 bz],.int .i64 er]) ∧ Below W.heap.size W w'):=Lib.hid (fun W y' hW hx => by
  have h:=statS_g W X.K y' hW p hp
  rw [hx,← hR.out] at h
  exact h)
 clear H hj
 unfold statV
 go_enter Tryz.func17,Tryz.ntmps17
 go_wp2_with (first | (go_at_call 36;with_reducible refine SP.out.mono ?_;rintro e1 w1 ⟨y',rfl,hs,hx,hq⟩;have HS:=Lib.hid hs;have HX:=Lib.hid hx;have HQ1:=Lib.hid hq;clear hs hx hq) | (go_at_call 44;with_reducible refine (ST.out w1 y' HS.out HX.out).mono ?_;rintro e1 w2 ⟨rfl,hq⟩;have HQ2:=Lib.hid (HQ1.out.trans (hq.mono HQ1.out.size));have x:=Below.heap (HQ1.out.trans (hq.mono HQ1.out.size)) (Nat.le_refl _) HN0.out;have x0:=cellAt x 0;have x1:=cellAt x 1;have x2:=cellAt x 2;have f0:=frozenAt x 0;have f1:=frozenAt x 1;have f2:=frozenAt x 2;have HX2:=Lib.hid x;clear x hq))
 have yy:=setAt (setAt (setAt HX2.out 0 (.int .i64 id)) 1 (.bool d)) 2 (.int .i64 bz)
 have j0:=cellAt yy 0
 have j1:=cellAt yy 1
 have j2:=cellAt yy 2
 simp at j0 j1 j2
 refine bodyPost_ret (v:=.tuple #[.agg #[.int .i64 id,.bool d,.int .i64 bz],.int .i64 er]) (by simp [results,Tryz.results17,go_sem,j0,j1,j2]) rfl ?_
 exact ⟨rfl,(((HB0.out.trans (HQ2.out.mono HB0.out.size)).setCell (p:=⟨w.heap.size,0,none⟩) (Nat.le_refl _) _).setCell (p:=⟨w.heap.size,1,none⟩) (Nat.le_refl _) _).setCell (p:=⟨w.heap.size,2,none⟩) (Nat.le_refl _) _⟩
end Go.Proofs.YtaonlcgneemimaaGreatDoor
namespace Go.Proofs.YtaonlcgneemimaaGreatDoor
open Go.RowKit
def PartIn (P:List (List Int)) (p:PartA):Prop:=1 ≤ p.chunk ∧ ∃ piece,P[(p.chunk - 1).toNat]? = some piece ∧ p.pos + p.len ≤ piece.length
theorem PartIn.pre {P P':List (List Int)} {p:PartA} (h:PartIn P p) (hp:P <+: P'):PartIn P' p:=by
 obtain ⟨h1,piece,h2,h3⟩:=h
 obtain ⟨t,rfl⟩:=hp
 refine ⟨h1,piece,?_,h3⟩
 rw [List.getElem?_append_left (List.getElem?_eq_some_iff.1 h2).1]
 exact h2
theorem PartIn.less {P:List (List Int)} {p q:PartA} (h:PartIn P p) (hc:q.chunk = p.chunk) (hl:q.pos + q.len ≤ p.pos + p.len):PartIn P q:=by
 obtain ⟨h1,piece,h2,h3⟩:=h
 exact ⟨hc ▸ h1,piece,by rw [hc];exact h2,by omega⟩
theorem wholeB_pre {P P':List (List Int)} {b:BodyA} (h:wholeB P b) (hp:P <+: P'):wholeB P' b:=fun p hm => PartIn.pre (h p hm) hp
theorem wholeB_nil (P:List (List Int)) (n:Int):wholeB P ⟨n,[]⟩:=fun p hm => by simp at hm
theorem place_mem:∀ (l:List PartA) (k:Int) (q:PartA),q ∈ placeP k l → ∃ p ∈ l,q.chunk = p.chunk ∧ q.pos = p.pos ∧ q.len = p.len
 | [],k,q,h => by simp [placeP] at h
 | p :: l,k,q,h => by
  unfold placeP at h
  rcases List.mem_cons.1 h with rfl | h
  ·exact ⟨p,by simp,rfl,rfl,rfl⟩
  ·obtain ⟨p',h1,h2⟩:=place_mem l _ q h
   exact ⟨p',List.mem_cons_of_mem _ h1,h2⟩
theorem ahead_in {P:List (List Int)} {k:Int} {b:BodyA} (h:wholeB P b):∀ q ∈ b.parts.filterMap (aheadP k),PartIn P q:=fun q hq => by
 obtain ⟨p,hp,e⟩:=List.mem_filterMap.1 hq
 unfold aheadP at e
 split at e
 ·cases e
 ·cases e
  refine PartIn.less (h p hp) rfl ?_
  show p.pos + min p.len (k - p.off) ≤ _
  omega
theorem behind_in {P:List (List Int)} {k:Int} {b:BodyA} (h:wholeB P b):∀ q ∈ b.parts.filterMap (behindP k),PartIn P q:=fun q hq => by
 obtain ⟨p,hp,e⟩:=List.mem_filterMap.1 hq
 unfold behindP at e
 split at e
 ·cases e
 ·split at e
  ·cases e
   refine PartIn.less (h p hp) rfl ?_
   show p.pos + (k - p.off) + (p.len - (k - p.off)) ≤ _
   omega
  ·cases e
   exact h _ hp
theorem wholeB_write {P:List (List Int)} {b:BodyA} {off:Int} {l:List PartA} (h:wholeB P b) (hl:∀ p ∈ l,PartIn P p):wholeB P (writeB b off l):=by
 cases l with
 | nil => exact h
 | cons a l =>
  intro q hq
  have hq:q ∈ b.parts.filterMap (aheadP off) ++ placeP off (a :: l) ++ b.parts.filterMap (behindP (off + sumLen (a :: l))):=hq
  rcases List.mem_append.1 hq with hq | hq
  ·rcases List.mem_append.1 hq with hq | hq
   ·exact ahead_in h q hq
   ·obtain ⟨p,h1,h2,h3,h4⟩:=place_mem _ _ q hq
    exact PartIn.less (hl p h1) h2 (by omega)
  ·exact behind_in h q hq
theorem wholeB_trunc {P:List (List Int)} {b:BodyA} {n:Int} (h:wholeB P b):wholeB P (truncB b n):=ahead_in h
def WholeG (P:List (List Int)) (x:AbsG):Prop:=∀ id bd,x.S id = some bd → wholeB P bd
theorem WholeG.new (P:List (List Int)):WholeG P AbsG.new:=fun id bd h => by cases h
theorem WholeG.pre {P P':List (List Int)} {x:AbsG} (h:WholeG P x) (hp:P <+: P'):WholeG P' x:=fun id bd hS => wholeB_pre (h id bd hS) hp
theorem bset_cases {S:Int → Option BodyA} {k id:Int} {v:Option BodyA} {bd:BodyA} (h:bset S k v id = some bd):v = some bd ∨ S id = some bd:=by
 by_cases c:id = k
 ·subst c
  rw [bset_eq] at h
  exact .inl h
 ·rw [bset_ne c] at h
  exact .inr h
theorem bodyAt_whole {P:List (List Int)} {x:AbsG} (h:WholeG P x) (id:Int):wholeB P (x.bodyAt id):=by
 unfold AbsG.bodyAt
 cases hS:x.S id with
 | none => exact wholeB_nil P 0
 | some bd => exact h id bd hS
theorem WholeG.step {P:List (List Int)} {x:AbsG} {i:ItemA} (h:WholeG P x) (hi:∀ p ∈ i.parts,PartIn P p):WholeG P (stepG x i):=by
 intro id bd hS
 unfold stepG at hS
 split at hS
 ·rcases bset_cases hS with e | e
  ·cases e
   exact wholeB_nil P 0
  ·exact h id bd e
 ·split at hS
  ·exact h id bd hS
  ·split at hS
   ·rcases bset_cases hS with e | e
    ·cases e
     exact wholeB_write (bodyAt_whole h _) hi
    ·exact h id bd e
   ·split at hS
    ·rcases bset_cases hS with e | e
     ·cases e
      exact wholeB_trunc (bodyAt_whole h _)
     ·exact h id bd e
    ·split at hS
     ·rcases bset_cases hS with e | e
      ·cases e
      ·exact h id bd e
     ·split at hS
      ·rcases bset_cases hS with e | e
       ·cases e
       ·exact h id bd e
      ·exact h id bd hS
theorem pieces_in:∀ (ps P:List (List Int)),P.Nodup → ∀ q ∈ piecesA P ps,PartIn (putAll P ps) q
 | [],P,_,q,h => by simp [piecesA] at h
 | p :: ps,P,hn,q,h => by
  show PartIn (putAll (putP P p) ps) q
  rcases List.mem_cons.1 h with rfl | h
  ·obtain ⟨h1,-,h3⟩:=putId_at hn p
   exact PartIn.pre (p:=newPart P p) ⟨h1,p,h3,by show (0:Int) + p.length ≤ p.length;omega⟩ (putAll_prefix ps _)
  ·exact pieces_in ps _ (putP_nodup hn p) q h
noncomputable def readG (P:List (List Int)) (x:AbsG) (p:ByteArray) (off n:Int):List Int × Int :=
 if (statG x p).2 ≠ 0 then ([],(statG x p).2) else if (statG x p).1.2.1 = true then ([],6) else (readB P (x.bodyAt (statG x p).1.1) off n,0)
theorem stat_file {x:AbsG} {K:Nat} (h:x.ok K) {p:ByteArray} {id bz:Int} (hs:statG x p = ((id,false,bz),0)):∃ bd,x.T p = some (id,false) ∧ x.S id = some bd ∧ bz = bd.size ∧ x.bodyAt id = bd:=by
 obtain ⟨ri,rd,re,hR⟩:∃ ri rd re,lookG x.T p = (ri,rd,re):=⟨_,_,_,rfl⟩
 unfold statG at hs
 rw [hR] at hs
 simp only at hs
 split at hs
 ·rename_i c
  simp only [Prod.mk.injEq] at hs
  exact absurd hs.2 c
 ·rename_i c
  have hre:re = 0:=by simpa using c
  subst hre
  simp only [Prod.mk.injEq] at hs
  obtain ⟨⟨rfl,rfl,hb⟩,-⟩:=hs
  have hT:x.T p = some (ri,false):=look_node hR (fun hr => by
   unfold lookG at hR
   have hsp:splitP p = some []:=by unfold splitP;rw [if_pos hr]
   rw [hsp] at hR
   simp [lookW] at hR)
  obtain ⟨bd,hbd⟩:=h.body _ _ hT
  have e:x.bodyAt ri = bd:=by unfold AbsG.bodyAt;rw [hbd];rfl
  exact ⟨bd,hT,hbd,by rw [← hb,e],e⟩
end Go.Proofs.YtaonlcgneemimaaGreatDoor
namespace Go.Proofs.YtaonlcgneemimaaGreatDoor
open Go.RowKit
def markedB (l:List PtA) (name:ByteArray):Bool:=l.any fun p => p.2.toList == name.toList
theorem markE_eq (l:List PtA) (name:ByteArray):(markE l name == 0) = markedB l name:=by
 unfold markE
 show _ = l.any fun p => p.2.toList == name.toList
 cases l.any fun p => p.2.toList == name.toList <;> rfl
theorem rowPt_hit {r:RowA} {name:ByteArray} (hne:name ≠ ⟨#[]⟩):((rowPt r).2.toList == name.toList) = ((r.2.op == 8) && (r.2.path.toList == name.toList)):=by
 unfold rowPt markOf
 by_cases h:r.2.op = 8
 ·simp [h]
 ·have h2:(r.2.op == 8) = false:=by simpa using h
  simp only [h,if_false,h2,Bool.false_and]
  have h3:=toList_nil hne
  rw [show (⟨#[]⟩:ByteArray).toList = [] by rw [Lib.toList_data]]
  cases hx:name.toList with
  | nil => exact absurd hx h3
  | cons a l => rfl
set_option maxRecDepth 100000 in
set_option maxHeartbeats 2000000 in
theorem marked_g (w:World) (r:Nat) (X:RepXG) (H:RepG w r X) (name:ByteArray) (hne:name ≠ ⟨#[]⟩) (hfew:X.its.length ≤ 100000) :
  Calls Tryz.prog 24 #[.pointer (some ⟨r,0,none⟩),.string name] w fun e w' => e = .returned (.bool (markedB (allPts X.xs X.its) name)) ∧ Below w.heap.size w w':=by
 obtain ⟨R,hR⟩:∃ R,Hid (R = markedB (allPts X.xs X.its) name):=⟨_,Lib.hid rfl⟩
 rw [← hR.out]
 obtain ⟨a,cap,hrv,hcap,-,hcells⟩:=rowsG_cells H.rows
 have HC:=Lib.hid hcells
 obtain ⟨n,hN⟩:∃ n,Hid (n = X.its.length):=⟨_,Lib.hid rfl⟩
 rw [← hN.out] at hfew hrv hcap
 have HR:Hid (∀ (k:Nat) (i:RowA),X.its[k]? = some i → i.2.op = 8 → i.2.path.toList = name.toList → R = true):=Lib.hid (fun k i hi h8 hp => by
  rw [hR.out]
  refine List.any_eq_true.2 ⟨rowPt i,List.mem_append_right _ (List.mem_map.2 ⟨i,List.mem_of_getElem? hi,rfl⟩),?_⟩
  rw [rowPt_hit hne]
  simp [h8,hp])
 have HE:Hid ((∀ (k:Nat) (i:RowA),k < n → X.its[k]? = some i → ¬ (i.2.op = 8 ∧ i.2.path.toList = name.toList)) → R = (markE (X.xs.map HsX.pt) name == 0)):=Lib.hid (fun h => by
  rw [hR.out,markE_eq]
  unfold markedB allPts
  rw [List.any_append]
  have:((X.its.map rowPt).any fun p => p.2.toList == name.toList) = false:=by
   rw [List.any_eq_false]
   intro p hp
   obtain ⟨i,hi,rfl⟩:=List.mem_map.1 hp
   obtain ⟨k,hk,e⟩:=List.getElem_of_mem hi
   rw [rowPt_hit hne]
   have:=h k i (by have:=hN.out;omega) (by rw [List.getElem?_eq_getElem hk,e])
   simpa using this
  rw [this,Bool.or_false])
 have CP:=Lib.hid (fun W (hW:Below w.heap.size w W) => histPoints_g X.K W X.h X.pv X.sv X.xs (H.hist.below hW))
 have CM:Hid (∀ W v,PtsN W v X.xs.length (X.xs.map HsX.pt) → Calls Tryz.prog 55 #[v,.string name] W fun e w' => (∃ u,PtVal u ∧ e = .returned (.tuple #[u,.int .i64 (markE (X.xs.map HsX.pt) name)])) ∧ Below W.heap.size W w'):=Lib.hid (fun W v hv => mark_g W v _ name hne (by unfold PtsGV;rw [List.length_map];exact hv) H.hist.ok (by rw [List.length_map];have:=H.hist.few;omega))
 have hcell:=H.cell
 rw [hrv] at hcell
 have HX:=Lib.hid hcell
 have c5:=cellAt hcell 5
 simp only [List.getElem?_toArray,List.getElem?_cons_zero,List.getElem?_cons_succ] at c5
 have hsf:=fun (W:World) (p:Addr) (k:Nat) => run_store Tryz.prog W p (.float .f64 k) .plain rfl
 clear H hcells hcell hrv
 go_enter Tryz.func24,Tryz.ntmps24
 go_wp2
 go_loopw [14] (fun ti wr => ∃ k:Nat,k ≤ n ∧ ti = .int .i64 k ∧ Hid (∀ (j:Nat) (i:RowA),j < k → X.its[j]? = some i → ¬ (i.2.op = 8 ∧ i.2.path.toList = name.toList)) ∧ Hid (Below w.heap.size w wr)) (fun i _ => n - (intOf i).toNat)
 case atStart => exact ⟨0,by omega,rfl,Lib.hid (fun j i h => by omega),Below.refl _ _⟩
 case round =>
  obtain ⟨k,hk,rfl,hno,hbel⟩:=hrel
  by_cases hlt:k < n
  ·obtain ⟨i,hi⟩:∃ i,X.its[k]? = some i:=⟨_,List.getElem?_eq_getElem (by have:=hN.out;omega)⟩
   obtain ⟨g,off,s,rfl,hg,hs,c0,c1,c2,c3,c4,c5',c6,c7⟩:=HC.out k i hi
   have t:∀ o u,w.cell? ⟨g,o,none⟩ = some u → wr.cell? ⟨g,o,none⟩ = some u:=fun o u h => by
    rw [hbel.out.cell (p:=⟨g,o,none⟩) hg]
    exact h
   have q0:=t _ _ c0
   have q1:=t _ _ c1
   have q2:=t _ _ c2
   have q3:=t _ _ c3
   have q4:=t _ _ c4
   have q5:=t _ _ c5'
   have q6:=t _ _ c6
   have q7:=t _ _ c7
   obtain ⟨sa,sc,rfl,-⟩:=parts_cells hs
   have HI:=Lib.hid hi
   have hbl:=hbel.out.size
   clear c0 c1 c2 c3 c4 c5' c6 c7 t hs hi
   by_cases h8:i.2.op = 8
   ·have d8:(i.2.op == 8) = true:=by simpa using h8
    by_cases hp:i.2.path.toList = name.toList
    ·have dp:(i.2.path.toList == name.toList) = true:=by simpa using hp
     have hyes:=HR.out k i HI.out h8 hp
     subst hyes
     clear hno
     go_wp2
     go_ret
     exact ⟨rfl,hbel.out.alloc hbl _⟩
    ·have dp:(i.2.path.toList == name.toList) = false:=by simpa using hp
     have HNX:Hid (∀ (j:Nat) (i:RowA),j < k + 1 → X.its[j]? = some i → ¬ (i.2.op = 8 ∧ i.2.path.toList = name.toList)):=Lib.hid (fun j i' hj hi' hh => by
      by_cases c:j = k
      ·subst c
       rw [HI.out] at hi'
       cases hi'
       exact hp hh.2
      ·exact hno.out j i' (by omega) hi' hh)
     clear hno
     go_wp2
     go_roundw
     case rel => exact ⟨k + 1,by omega,by go_num,HNX,hbel.out.alloc hbl _⟩
     case measure => simp [intOf];omega
   ·have d8:(i.2.op == 8) = false:=by simpa using h8
    have HNX:Hid (∀ (j:Nat) (i:RowA),j < k + 1 → X.its[j]? = some i → ¬ (i.2.op = 8 ∧ i.2.path.toList = name.toList)):=Lib.hid (fun j i' hj hi' hh => by
     by_cases c:j = k
     ·subst c
      rw [HI.out] at hi'
      cases hi'
      exact h8 hh.1
     ·exact hno.out j i' (by omega) hi' hh)
    clear hno
    go_wp2
    go_roundw
    case rel => exact ⟨k + 1,by omega,by go_num,HNX,hbel.out.alloc hbl _⟩
    case measure => simp [intOf];omega
  ·have hkn:k = n:=by omega
   subst hkn
   have hend:=HE.out hno.out
   have x1:=cellAt (Below.heap hbel.out (Nat.le_refl _) HX.out) 1
   simp only [List.getElem?_toArray,List.getElem?_cons_zero,List.getElem?_cons_succ] at x1
   obtain ⟨er,her⟩:∃ er,Hid (er = markE (X.xs.map HsX.pt) name):=⟨_,Lib.hid rfl⟩
   rw [← her.out] at hend CM
   have HEND:=Lib.hid hend
   clear hno hend
   go_wp2_with (first | (go_at_call 40;refine (CP.out _ hbel.out).mono ?_;rintro e w1 ⟨v,rfl,hv,hq⟩;have HV:=Lib.hid hv;have B1:=Lib.hid (hbel.out.trans (hq.mono hbel.out.size));clear hv hq) | (go_at_call 55;refine (CM.out _ _ HV.out).mono ?_;rintro e w2 ⟨⟨u,⟨x,y,m,rfl⟩,rfl⟩,hq⟩;have B2:=Lib.hid (B1.out.trans (hq.mono B1.out.size));clear hq))
   go_ret
   exact ⟨by rw [HEND.out];rfl,B2.out.alloc B2.out.size _⟩
end Go.Proofs.YtaonlcgneemimaaGreatDoor
namespace Go.Proofs.YtaonlcgneemimaaGreatDoor
open Go.RowKit
theorem rowsGC_snoc:∀ (ps:List Value) (its:List RowA) (s:Value) (i:RowA),ps.length = its.length → rowsGC (ps ++ [s]) (its ++ [i]) = rowsGC ps its ++ rowGC s i
 | [],[],s,i,_ => by simp [rowsGC]
 | p :: ps,[],s,i,h => by simp at h
 | [],j :: its,s,i,h => by simp at h
 | p :: ps,j :: its,s,i,h => by
  have:=rowsGC_snoc ps its s i (by simpa using h)
  simp only [List.cons_append,rowsGC,this,List.append_assoc]
theorem app_oneG {W:World} {B q1 n:Nat} {v1 s:Value} {i:RowA} {xs:List Value} (ho:W.ownsRow B 86 8 v1 n xs) (h1:W.heap[q1]? = some (.cells (rowGC s i).toArray 86 (0,0))) (hs:s.oneCell' = true) (hn:n ≤ 100000) (hB:B ≤ W.heap.size) :
  ∃ v2 W',(Builtin.append_ #[75,75] 75 #[v1,.slice (some ⟨q1,0,none⟩) 1 1]).run Tryz.prog W = .ok v2 W' ∧ W'.ownsRow B 86 8 v2 (n + 1) (xs ++ rowGC s i) ∧ W.grownBy W' v1.ownBlock:=by
 obtain ⟨i0,hi,hz0,hz1,hz2⟩:=info_parts info86
 obtain ⟨v',w',e1,h2,h3,h4,h5⟩:=append_run_sl (P:=Tryz.prog) (w:=W) B 75 75 86 i0 _ 8 112 Tryz.underlying75 hi hz0 hz1 hz2 rfl (by decide) v1 n _ ho _ 1 _ (Sl.block' h1 rfl (fun u hu => by simp only [rowGC,List.mem_cons,List.not_mem_nil,or_false] at hu;rcases hu with rfl | rfl | rfl | rfl | rfl | rfl | rfl | rfl <;> first | rfl | exact hs) (by decide) (by decide)) (by omega) (by decide) hB
 exact ⟨v',w',e1,by simpa using h2,h3⟩
def RowsFinG (wB:World) (its:List RowA) (i:RowA) (v:Value) (w:World):Prop:=RowsGV w v (its ++ [i]) ∧ Below wB.heap.size wB w
def rowOG (s:Value) (i:RowA):Obj:=.cells #[.float .f64 (stF i.1),.int .i64 i.2.op,.string i.2.path,.string i.2.to,.int .i64 i.2.off,.int .i64 i.2.size,.slice none 0 0,s] 86
theorem rows_finG {wB W:World} {its:List RowA} {i:RowA} {ps:List Value} {s v2:Value} (hl:ps.length = its.length) (hp:∀ (j:Nat) s i,ps[j]? = some s → its[j]? = some i → Sl wB 134 4 s i.2.parts.length (partsC i.2.parts)) (hs:Sl wB 134 4 s i.2.parts.length (partsC i.2.parts)) (h1:(∀ u ∈ rowsGC ps its,u.oneCell' = true)) (hs1:s.oneCell' = true)
  (ho:W.ownsRow wB.heap.size 86 8 v2 (its.length + 1) (rowsGC ps its ++ rowGC s i)) (hb:Below wB.heap.size wB W):RowsFinG wB its i v2 W:=by
 refine ⟨⟨ps ++ [s],by simp [hl],?_,fun j u k hu hk => ?_⟩,hb⟩
 ·rw [rowsGC_snoc ps its s i hl,List.length_append]
  refine Sl.of_own ho (fun u hu => ?_) (.inr (by simp))
  rcases List.mem_append.1 hu with hu | hu
  ·exact h1 u hu
  ·simp only [rowGC,List.mem_cons,List.not_mem_nil,or_false] at hu
   rcases hu with rfl | rfl | rfl | rfl | rfl | rfl | rfl | rfl <;> first | rfl | exact hs1
 ·by_cases hj:j < its.length
  ·rw [List.getElem?_append_left (by omega)] at hu
   rw [List.getElem?_append_left hj] at hk
   exact (hp j u k hu hk).below hb
  ·have hj0:j = its.length:=by
    have:=(List.getElem?_eq_some_iff.1 hk).1
    simp at this
    omega
   subst hj0
   rw [List.getElem?_append_right (by omega),hl] at hu
   rw [List.getElem?_append_right (Nat.le_refl _)] at hk
   simp at hu hk
   subst hu
   subst hk
   exact hs.below hb
theorem rows_ordersG {wB:World} {its:List RowA} {i:RowA} {rv s:Value} (hr:RowsGV wB rv its) (hs:Sl wB 134 4 s i.2.parts.length (partsC i.2.parts)) (hs1:s.oneCell' = true) (hn:its.length ≤ 99999) :
  (∃ v1 wa v2 wf,(Builtin.append_ #[75,75] 75 #[.slice (some ⟨wB.heap.size,0,none⟩) 0 0,rv]).run Tryz.prog (wB.alloc (.cells #[] 86)).drew = .ok v1 wa ∧ Below wB.heap.size wB wa ∧ (Builtin.append_ #[75,75] 75 #[v1,.slice (some ⟨wa.heap.size,0,none⟩) 1 1]).run Tryz.prog (wa.alloc (rowOG s i)) = .ok v2 wf ∧ RowsFinG wB its i v2 wf) ∧
  (∃ v1 wa v2 wf,(Builtin.append_ #[75,75] 75 #[.slice (some ⟨wB.heap.size,0,none⟩) 0 0,rv]).run Tryz.prog ((wB.alloc (.cells #[] 86)).alloc (rowOG s i)).drew = .ok v1 wa ∧ Below wB.heap.size wB wa ∧ (Builtin.append_ #[75,75] 75 #[v1,.slice (some ⟨wB.heap.size + 1,0,none⟩) 1 1]).run Tryz.prog wa = .ok v2 wf ∧ RowsFinG wB its i v2 wf) ∧
  (∃ v1 wa v2 wf,(Builtin.append_ #[75,75] 75 #[.slice (some ⟨wB.heap.size + 1,0,none⟩) 0 0,rv]).run Tryz.prog ((wB.alloc (rowOG s i)).alloc (.cells #[] 86)).drew = .ok v1 wa ∧ Below wB.heap.size wB wa ∧ (Builtin.append_ #[75,75] 75 #[v1,.slice (some ⟨wB.heap.size,0,none⟩) 1 1]).run Tryz.prog wa = .ok v2 wf ∧ RowsFinG wB its i v2 wf):=by
 obtain ⟨ps,hl,h2,h3⟩:=hr
 have hone:=h2.2.1
 refine ⟨?_,?_,?_⟩
 ·have b0:Below wB.heap.size wB (wB.alloc (.cells #[] 86)).drew:=((Below.refl _ _).alloc (Nat.le_refl _) _).drew
  have hh:(wB.alloc (.cells #[] 86)).drew.heap[wB.heap.size]? = some (.cells #[] 86 (0,0)):=heap_new wB (.cells #[] 86)
  obtain ⟨v1,wa,r1,o1,g1,-⟩:=app_rows (B:=wB.heap.size) hh (Nat.le_refl _) (h2.below b0) (by omega)
  have ba:Below wB.heap.size wB wa:=b0.grown g1 b0.size (by simp)
  have hh2:(wa.alloc (rowOG s i)).heap[wa.heap.size]? = some (.cells (rowGC s i).toArray 86 (0,0)):=heap_new wa _
  obtain ⟨v2,wf,r2,o2,g2⟩:=app_oneG (own_below o1 ((Below.refl _ _).alloc (Nat.le_refl _) (rowOG s i))) hh2 hs1 (by omega) (by have:=ba.size;simp;omega)
  exact ⟨v1,wa,v2,wf,r1,ba,r2,rows_finG hl h3 hs hone hs1 o2 ((ba.alloc ba.size _).grown g2 (by have:=ba.size;simp;omega) (fun k hk => (o1.lt k hk).1))⟩
 ·have b0:Below wB.heap.size wB ((wB.alloc (.cells #[] 86)).alloc (rowOG s i)).drew:=(((Below.refl _ _).alloc (Nat.le_refl _) _).alloc (by simp) _).drew
  have hh:((wB.alloc (.cells #[] 86)).alloc (rowOG s i)).drew.heap[wB.heap.size]? = some (.cells #[] 86 (0,0)):=heap_old (heap_new wB (.cells #[] 86)) _
  obtain ⟨v1,wa,r1,o1,g1,-⟩:=app_rows (B:=wB.heap.size) hh (Nat.le_refl _) (h2.below b0) (by omega)
  have ba:Below wB.heap.size wB wa:=b0.grown g1 b0.size (by simp)
  have hh1:((wB.alloc (.cells #[] 86)).alloc (rowOG s i)).drew.heap[wB.heap.size + 1]? = some (.cells (rowGC s i).toArray 86 (0,0)):=heap_new2 wB (.cells #[] 86) (rowOG s i)
  have hh2:wa.heap[wB.heap.size + 1]? = some (.cells (rowGC s i).toArray 86 (0,0)):=(g1.block _ (heap_lt hh1) (by simp)).trans hh1
  obtain ⟨v2,wf,r2,o2,g2⟩:=app_oneG o1 hh2 hs1 (by omega) ba.size
  exact ⟨v1,wa,v2,wf,r1,ba,r2,rows_finG hl h3 hs hone hs1 o2 (ba.grown g2 ba.size (fun k hk => (o1.lt k hk).1))⟩
 ·have b0:Below wB.heap.size wB ((wB.alloc (rowOG s i)).alloc (.cells #[] 86)).drew:=(((Below.refl _ _).alloc (Nat.le_refl _) _).alloc (by simp) _).drew
  have hh:((wB.alloc (rowOG s i)).alloc (.cells #[] 86)).drew.heap[wB.heap.size + 1]? = some (.cells #[] 86 (0,0)):=heap_new2 wB (rowOG s i) (.cells #[] 86)
  obtain ⟨v1,wa,r1,o1,g1,-⟩:=app_rows (B:=wB.heap.size) hh (Nat.le_succ _) (h2.below b0) (by omega)
  have ba:Below wB.heap.size wB wa:=b0.grown g1 b0.size (by simp)
  have hh1:((wB.alloc (rowOG s i)).alloc (.cells #[] 86)).drew.heap[wB.heap.size]? = some (.cells (rowGC s i).toArray 86 (0,0)):=heap_old (heap_new wB (rowOG s i)) _
  have hh2:wa.heap[wB.heap.size]? = some (.cells (rowGC s i).toArray 86 (0,0)):=(g1.block _ (heap_lt hh1) (by simp)).trans hh1
  obtain ⟨v2,wf,r2,o2,g2⟩:=app_oneG o1 hh2 hs1 (by omega) ba.size
  exact ⟨v1,wa,v2,wf,r1,ba,r2,rows_finG hl h3 hs hone hs1 o2 (ba.grown g2 ba.size (fun k hk => (o1.lt k hk).1))⟩
end Go.Proofs.YtaonlcgneemimaaGreatDoor
