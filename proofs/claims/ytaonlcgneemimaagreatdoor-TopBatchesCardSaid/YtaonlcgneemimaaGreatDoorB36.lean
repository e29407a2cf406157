/- TopBatches: the contracts of AP2, AP3, AP4; no condition. -/
import Derived.Test.YtaonlcgneemimaaGreatDoorB24
import Derived.Test.YtaonlcgneemimaaGreatDoorB31
import Derived.RangeFuncBox
namespace Go.Proofs.YtaonlcgneemimaaGreatDoor
open Go.RowKit Go.Shelf
attribute [local go_sem] Oper.semAt_some
set_option maxRecDepth 100000 in
set_option maxHeartbeats 1000000 in
theorem markFn_g (w:World) (b:Nat) (name:ByteArray) (hne:name ≠ ⟨#[]⟩) (hc:w.cell? ⟨b,0,none⟩ = some (.string name)) (x:Int) (y:Nat) (m:ByteArray) :
  Calls Tryz.prog 101 #[.agg #[.int .i64 x,.float .f64 y,.string m],.pointer (some ⟨b,0,none⟩)] w fun e w' => e = .returned (.bool (m.toList == name.toList)) ∧ Below w.heap.size w w':=by
 have hsf:=fun (W:World) (p:Addr) (k:Nat) => run_store Tryz.prog W p (.float .f64 k) .plain rfl
 have h2:=toList_nil hne
 have hb:=World.block_lt_of_cell? w _ hc
 have hb:b < w.heap.size:=hb
 have c1:(w.alloc (.cells #[.int .i64 x,.float .f64 y,.string m] 52)).cell? ⟨b,0,none⟩ = some (.string name):=(((Below.refl w.heap.size w).alloc (Nat.le_refl _) _).cell (p:=⟨b,0,none⟩) hb).trans hc
 clear hb
 go_enter Tryz.func101,Tryz.ntmps101
 go_wp2
 go_ret
 refine ⟨?_,((Below.refl _ _).alloc (Nat.le_refl _) _)⟩
 simp
 exact fun _ => h2
def revPts (l:List PtA):List (Nat × PtA):=((List.range l.length).zip l).reverse
theorem revPts_get (l:List PtA) (k:Nat) (p:PtA) (hk:k < l.length) (hp:l[l.length - 1 - k]? = some p):(revPts l)[k]? = some (l.length - 1 - k,p):=by
 unfold revPts
 rw [List.getElem?_reverse (by simp;omega)]
 simp only [List.length_zip,List.length_range,Nat.min_self]
 rw [List.getElem?_zip_eq_some]
 exact ⟨by rw [List.getElem?_range (by omega)],hp⟩
theorem revPts_length (l:List PtA):(revPts l).length = l.length:=by simp [revPts]
theorem revPts_mem {l:List PtA} {x:Nat × PtA} (h:x ∈ revPts l):l[x.1]? = some x.2:=by
 unfold revPts at h
 rw [List.mem_reverse] at h
 obtain ⟨k,hk,e⟩:=List.getElem_of_mem h
 simp at e
 rw [← e]
 simp
theorem revPts_all {l:List PtA} {p:PtA} (h:p ∈ l):∃ j,(j,p) ∈ revPts l:=by
 obtain ⟨k,hk,e⟩:=List.getElem_of_mem h
 refine ⟨k,?_⟩
 unfold revPts
 rw [List.mem_reverse]
 have:((List.range l.length).zip l)[k]'(by simp;omega) = (k,p):=by simp [e]
 rw [← this]
 exact List.getElem_mem _
def encPt (x:Nat × PtA):Array Value:=#[.int .i64 x.1,.agg #[.int .i64 ((x.1:Int) + 1),.float .f64 (stF x.2.1),.string x.2.2]]
set_option maxRecDepth 100000 in
set_option maxHeartbeats 2000000 in
theorem back1_in (F:Fence) (n:Nat) (h7:F.fn 179) (hro:F.round = none) (hn:1 ≤ n) (lp b1 n₀:Nat) (a:Option Addr) (cap:Nat) (l:List PtA) (hlen:l.length ≤ 100000) (J Jx:List (Nat × PtA) → World → Prop)
  (hY:∀ pre x W,J pre W → pre.length < l.length → YieldAt F (n - 1) Tryz.prog lp (encPt x) W fun e W' =>
   (e = .returned (.bool true) ∧ J (pre ++ [x]) W' ∧ Below n₀ W W') ∨ (e = .returned (.bool false) ∧ Jx (pre ++ [x]) W'))
  (W:World) (hb1:b1 < n₀) (hc1:W.cell? ⟨b1,0,none⟩ = some (.slice a l.length cap)) (hP:∀ W',Below n₀ W W' → PtsGV W' (.slice a l.length cap) l) (h0:J [] W) :
  CallsIn F n Tryz.prog 179 #[.func (.yield lp) #[] #[],.pointer (some ⟨b1,0,none⟩)] W fun e W' => (∃ v,e = .returned v) ∧
   ((∃ ys,ys = revPts l ∧ J ys W') ∨ (∃ pre,pre <+: revPts l ∧ Jx pre W')):=by
 have HP:=Lib.hid hP
 refine callsIn_of_wp Tryz.func179 rfl h7 ?_ hro
 simp only [Tryz.ntmps179,List.size_toArray,List.length_cons,List.length_nil,Nat.reduceAdd,Nat.reduceSub,Array.replicate_succ,Array.replicate_zero,List.push_toArray,List.append_toArray,List.nil_append,List.cons_append]
 have e0:IntKind.i64.wrap ((l.length:Int) - 1) = (l.length:Int) - 1:=IntWalk.i64_in _ (by omega)
 gi_wp2
 gi_loopw [3] (fun ti wr => ∃ k:Nat,k ≤ l.length ∧ ti = .int .i64 ((l.length:Int) - 1 - k) ∧ J ((revPts l).take k) wr ∧ Below n₀ W wr)
  (fun ti _ => (intOf ti + 1).toNat)
 case atStart => exact ⟨0,by omega,by simp,by simpa using h0,Below.refl _ _⟩
 case round =>
  obtain ⟨k,hk,rfl,hJs,hbel⟩:=hrel
  have q0:=(hbel.cell (p:=⟨b1,0,none⟩) hb1).trans hc1
  by_cases hlt:k < l.length
  ·obtain ⟨p,hp⟩:∃ p,l[l.length - 1 - k]? = some p:=⟨_,List.getElem?_eq_getElem (by omega)⟩
   obtain ⟨a',cap',he,hcap,-,hcells⟩:=ptsG_cells (HP.out wr hbel)
   simp only [Value.slice.injEq,true_and] at he
   obtain ⟨rfl,rfl⟩:=he
   obtain ⟨g,off,rfl,hg,c0,c1,c2⟩:=hcells _ p hp
   have hx:=revPts_get l k p hlt hp
   have ht:(revPts l).take (k + 1) = (revPts l).take k ++ [(l.length - 1 - k,p)]:=by rw [List.take_add_one,hx];rfl
   obtain ⟨fn,tmps,assign,body,hy,hR⟩:=hY _ (l.length - 1 - k,p) wr hJs (by simp [revPts_length];omega)
   have HT:=Lib.hid ht
   have HRD:=Lib.hid hR
   have HB:=Lib.hid hbel
   obtain ⟨j,hj⟩:∃ j,j = l.length - 1 - k:=⟨_,rfl⟩
   rw [← hj] at c0 c1 c2 hy HRD HT
   have hjk:(l.length:Int) - 1 - k = j:=by omega
   rw [hjk]
   have d1:(0:Int) ≤ j:=by omega
   have d2:(j:Int) < l.length:=by omega
   have d3:IntKind.i64.wrap ((j:Int) - 1) = (j:Int) - 1:=IntWalk.i64_in _ (by omega)
   simp only [encPt] at hy HRD
   have HJK:Hid ((l.length:Int) - 1 - k = j ∧ k < l.length):=Lib.hid ⟨hjk,hlt⟩
   clear hcells hR hbel hJs hY h0 hP hx ht hp hj hjk hlt hc1
   gi_wp2
   refine HRD.out.mono ?_
   rintro e W3 (⟨rfl,hJ3,hk3⟩ | ⟨rfl,hJx3⟩)
   ·have HK3:=Lib.hid hk3
    have HJ3:=Lib.hid hJ3
    clear hk3 hJ3
    gi_wp2
    go_roundw
    case rel => exact ⟨k + 1,by have:=HJK.out;omega,by have:=HJK.out.1;congr 1;push_cast;omega,by rw [HT.out];exact HJ3.out,HB.out.trans HK3.out⟩
    case measure => simp [intOf]
   ·gi_wp2
    refine bodyPost_ret (results_none rfl _ _ _) rfl ?_
    exact ⟨⟨_,rfl⟩,.inr ⟨_,(by rw [← HT.out];exact List.take_prefix _ _),hJx3⟩⟩
  ·have hkk:k = l.length:=by omega
   subst hkk
   have HJ:=Lib.hid hJs
   have e1:(l.length:Int) - 1 - l.length = -1:=by omega
   rw [e1]
   clear hJs hY h0 hP
   gi_wp2
   go_end0
   exact ⟨⟨_,rfl⟩,.inl ⟨_,rfl,by have:=HJ.out;rwa [List.take_of_length_le (by simp [revPts_length])] at this⟩⟩
set_option maxRecDepth 100000 in
set_option maxHeartbeats 1000000 in
theorem back_in (F:Fence) (n:Nat) (h5:F.fn 146) (hro:F.round = none) (a:Option Addr) (len cap:Nat) (w:World) :
  CallsIn F n Tryz.prog 146 #[.slice a len cap] w fun e w' => e = .returned (.func (.func 179) #[] #[.pointer (some ⟨w.heap.size,0,none⟩)]) ∧ w' = w.alloc (.cells #[.slice a len cap] 46):=by
 refine callsIn_of_wp Tryz.func146 rfl h5 ?_ hro
 simp only [Tryz.ntmps146,List.size_toArray,List.length_cons,List.length_nil,Nat.reduceAdd,Nat.reduceSub,Array.replicate_succ,Array.replicate_zero,List.push_toArray,List.append_toArray,List.nil_append,List.cons_append]
 gi_wp2
 go_ret
 exact ⟨rfl,rfl⟩
theorem back_stops (F:Fence) (n:Nat) (h7:F.fn 179) (hro:F.round = none) (hn:1 ≤ n) (b1 n₀:Nat) (a:Option Addr) (cap:Nat) (l:List PtA) (hlen:l.length ≤ 100000) (w:World) (hn0:n₀ ≤ w.heap.size) (hb1:b1 < n₀)
  (hc1:w.cell? ⟨b1,0,none⟩ = some (.slice a l.length cap)) (hP:∀ W',Below n₀ w W' → PtsGV W' (.slice a l.length cap) l) :
  SeqStopsK F n Tryz.prog 179 #[.pointer (some ⟨b1,0,none⟩)] encPt (Below n₀) (fun ys => ys = revPts l) (fun pre => pre <+: revPts l) l.length w:=fun lp J Jx W hW _ _ hY h0 =>
 back1_in F n h7 hro hn lp b1 n₀ a cap l hlen J Jx hY W hb1 ((hW.cell (p:=⟨b1,0,none⟩) (by show b1 < _;omega)).trans hc1) (fun W' hW' => hP W' ((hW.mono hn0).trans hW')) h0
end Go.Proofs.YtaonlcgneemimaaGreatDoor
namespace Go.Proofs.YtaonlcgneemimaaGreatDoor
open Go.RowKit Go.Shelf
attribute [local go_sem] Oper.semAt_some
def markE (l:List PtA) (name:ByteArray):Int:=if l.any (fun p => p.2.toList == name.toList) then 0 else 14
def PtVal (v:Value):Prop:=∃ (x:Int) (y:Nat) (m:ByteArray),v = .agg #[.int .i64 x,.float .f64 y,.string m]
theorem heapOwn {β:Type} {B k:Nat} {o:Obj} (hc:o.isCells = true):OwnFrom B (fun (_:β) W => W.heap[k]? = some o):=fun _ A C row h hg hr =>
 (hg.block k (heap_lt h) (fun e => by
  obtain ⟨-,o',ho',hc'⟩:=hr k e.symm
  rw [h] at ho'
  cases ho'
  rw [hc] at hc'
  cases hc')).trans h
theorem belowOwn {β:Type} {B:Nat} {w0:World} (hB:w0.heap.size ≤ B) {n:Nat} (hn:n ≤ w0.heap.size):OwnFrom B (fun (_:β) W => Below n w0 W):=fun _ A C row h hg hr =>
 h.grown hg (Nat.le_trans hn h.size) (fun k hk => by have:=(hr k hk).1;omega)
def StopM (w:World) (name:ByteArray) (c:Code) (pre:List (Nat × PtA)) (W:World):Prop :=
 (c = .ret ∧ ∃ x ∈ pre,x.2.2.toList = name.toList) ∧ Below w.heap.size w W ∧ ∃ (x:Int) (y:Nat) (m:ByteArray),W.heap[w.heap.size + 1]? = some (.cells #[.int .i64 x,.float .f64 y,.string m] 52 (0,0)) ∧ W.heap[w.heap.size + 2]? = some (.cells #[.int .i64 0] 25 (0,0))
theorem stopM_own {w:World} {name:ByteArray} {B:Nat} (hB:w.heap.size ≤ B) (c:Code):OwnFrom B (StopM w name c):=by
 rintro s A C row ⟨h1,h2,x,y,m,h3,h4⟩ hg hr
 exact ⟨h1,belowOwn hB (Nat.le_refl _) () A C row h2 hg hr,x,y,m,heapOwn (β:=Unit) rfl () A C row h3 hg hr,heapOwn (β:=Unit) rfl () A C row h4 hg hr⟩
set_option maxRecDepth 100000 in
set_option maxHeartbeats 4000000 in
theorem lastMark_g (w:World) (v:Value) (l:List PtA) (b:Nat) (name:ByteArray) (hne:name ≠ ⟨#[]⟩) (hc:w.cell? ⟨b,0,none⟩ = some (.string name)) (h:PtsGV w v l) (hl:PtsOk l) (hn:l.length ≤ 100000) :
  Calls Tryz.prog 100 #[v,.func (.func 101) #[] #[.pointer (some ⟨b,0,none⟩)]] w fun e w' => (∃ u,PtVal u ∧ e = .returned (.tuple #[u,.int .i64 (markE l name)])) ∧ Below w.heap.size w w':=by
 obtain ⟨er,her⟩:∃ er,Hid (er = markE l name):=⟨_,Lib.hid rfl⟩
 rw [← her.out]
 have HH:=Lib.hid h
 have hb:b < w.heap.size:=World.block_lt_of_cell? w _ hc
 obtain ⟨a,cap,rfl,-,-,-⟩:=ptsG_cells h
 have hsf:=fun (W:World) (p:Addr) (k:Nat) => run_store Tryz.prog W p (.float .f64 k) .plain rfl
 obtain ⟨W1,hW1⟩:∃ W1,Hid (W1 = ((w.alloc (.cells #[.func (.func 101) #[] #[.pointer (some ⟨b,0,none⟩)]] 154)).alloc (.cells #[.int .i64 0,.float .f64 0,.string ⟨#[]⟩] 52)).alloc (.cells #[.int .i64 0] 25)):=⟨_,Lib.hid rfl⟩
 have B1:Hid (Below w.heap.size w W1):=Lib.hid (by rw [hW1.out];exact below_alloc3 w _ _ _)
 have MY:Hid (∀ W,Below w.heap.size w W → Calls Tryz.prog 125 #[.slice a l.length cap] W fun e w' => e = .returned (.bool true) ∧ Below W.heap.size W w'):=Lib.hid (fun W hW => pointsMay_g W _ l (h.below hW) hl hn)
 have BK:Hid (∀ W,Calls Tryz.prog 146 #[.slice a l.length cap] W fun e w' => e = .returned (.func (.func 179) #[] #[.pointer (some ⟨W.heap.size,0,none⟩)]) ∧ w' = W.alloc (.cells #[.slice a l.length cap] 46)):=Lib.hid (fun W => callsIn_wide.1 (back_in Fence.wide 1 trivial rfl a l.length cap W))
 refine (callsIn_wide (n:=3)).1 ?_
 refine callsIn_of_wp_marks Tryz.func100 rfl trivial ?_ rfl
 refine wpIn_wide.2 ?_
 simp only [Tryz.ntmps100,List.size_toArray,List.length_cons,List.length_nil,Nat.reduceAdd,Nat.reduceSub,Array.replicate_succ,Array.replicate_zero,List.push_toArray,List.append_toArray,List.nil_append,List.cons_append]
 have hw1:=hW1.out
 go_wp2_with (first | (go_at_call 125;rw [← hW1.out];refine (MY.out _ B1.out).mono ?_;rintro e w2 ⟨rfl,hq⟩;have B2:=Lib.hid hq;clear hq) | (go_at_call 146;refine (BK.out _).mono ?_;rintro e w5 ⟨rfl,hw5⟩;have HW5:=Lib.hid hw5;clear hw5))
 have hs1:W1.heap.size = w.heap.size + 3:=by rw [hW1.out];simp
 have hs2:=B2.out.size
 have hs5:w5.heap.size = w2.heap.size + 1:=by rw [HW5.out];simp
 have hb5:Hid (Below W1.heap.size W1 w5):=Lib.hid (by rw [HW5.out];exact B2.out.alloc hs2 _)
 have hx5:Hid (w5.heap[w2.heap.size]? = some (.cells #[.slice a l.length cap] 46 (0,0))):=Lib.hid (by rw [HW5.out];exact heap_new w2 _)
 have X0:Hid (w5.heap[w.heap.size]? = some (.cells #[.func (.func 101) #[] #[.pointer (some ⟨b,0,none⟩)]] 154 (0,0))):=Lib.hid (Below.heap hb5.out (Nat.le_refl _) (by rw [hW1.out];exact heap_old (heap_old (heap_new w _) _) _))
 have X1:Hid (w5.heap[w.heap.size + 1]? = some (.cells #[.int .i64 0,.float .f64 0,.string ⟨#[]⟩] 52 (0,0))):=Lib.hid (Below.heap hb5.out (Nat.le_refl _) (by rw [hW1.out];exact heap_old (heap_new2 w _ _) _))
 have X2:Hid (w5.heap[w.heap.size + 2]? = some (.cells #[.int .i64 0] 25 (0,0))):=Lib.hid (Below.heap hb5.out (Nat.le_refl _) (by rw [hW1.out];have:=heap_new ((w.alloc (.cells #[.func (.func 101) #[] #[.pointer (some ⟨b,0,none⟩)]] 154)).alloc (.cells #[.int .i64 0,.float .f64 0,.string ⟨#[]⟩] 52)) (.cells #[.int .i64 0] 25);simpa using this))
 have Bw5:Hid (Below w.heap.size w w5):=Lib.hid (B1.out.trans (hb5.out.mono B1.out.size))
 have Cb:Hid (w5.cell? ⟨b,0,none⟩ = some (.string name)):=Lib.hid ((Bw5.out.cell (p:=⟨b,0,none⟩) hb).trans hc)
 have HL:=Lib.hid hl
 have HNE:=Lib.hid hne
 clear hw1 h hl hne hc
 refine wpIn_wide.1 (?_:Code.wpIn Fence.wide 3 _ _ _ _ _)
 refine wpIn_rangeFunc_ownH (F:=Fence.wide) (n:=3) rfl (by decide) (gf:=179) (lb:=#[.pointer (some ⟨w2.heap.size,0,none⟩)]) rfl trivial (enters_of Tryz.func179 (by kernel_rfl) rfl)
  (back_stops Fence.wide 2 trivial rfl (by decide) w2.heap.size w5.heap.size a cap l hn w5 (Nat.le_refl _) (by omega) (cellAt hx5.out 0) (fun W' hW' => (HH.out.below Bw5.out).below hW'))
  (fun h k => h.trans k) (belowK_b (Nat.le_refl _)) (Below.refl _ _) (fun _ => rfl)
  (fun pre W => (∀ x ∈ pre,x.2.2.toList ≠ name.toList) ∧ Below w5.heap.size w5 W)
  (StopM w name)
  (OwnFrom.and (ownFrom_pure _ _) (belowOwn (Nat.le_refl _) (Nat.le_refl _)))
  (fun c => stopM_own (by omega) c)
  ⟨by simp,Below.refl _ _⟩
  (fun x a' W => ∃ Bx,w5.heap.size ≤ Bx ∧ W.heap[Bx]? = some (.cells #[.int .i64 ((x.1:Int) + 1),.float .f64 (stF x.2.1),.string x.2.2] 52 (0,0)) ∧ a' = { tmps:=#[.slice a l.length cap,.func (.func 101) #[] #[.pointer (some ⟨b,0,none⟩)],undef,.pointer (some ⟨w.heap.size,0,none⟩),.pointer (some ⟨w.heap.size + 1,0,none⟩),.pointer (some ⟨w.heap.size + 2,0,none⟩),undef,.pointer (some ⟨Bx,0,none⟩),.slice a l.length cap,.bool true,.bool false,undef,.slice a l.length cap,.func (.func 179) #[] #[.pointer (some ⟨w2.heap.size,0,none⟩)],.int .i64 x.1,.agg #[.int .i64 ((x.1:Int) + 1),.float .f64 (stF x.2.1),.string x.2.2],undef,undef,undef,undef,undef],defers:=[] })
  (fun x a' _ X Y row hs hg hr => by obtain ⟨Bx,e1,e2,e3⟩:=hs;exact ⟨Bx,e1,heapOwn (β:=Unit) rfl () X Y row e2 hg hr,e3⟩)
  ?assign ?body ?done ?stop
 case assign =>
  rintro lx pre x W K ⟨hp,hB⟩ hK
  unfold encPt
  gi_wp2
  exact hK _ _ ((KeepsOthers.alloc _ _).from _) ((Below.refl _ W).alloc hB.size _) ⟨hp,hB.alloc hB.size _⟩ ⟨W.heap.size,hB.size,heap_new W _,rfl⟩
 case body =>
  rintro lx pre x a' W hl ⟨r,hr⟩ ⟨hp,hB⟩ ⟨Bx,hBx,hX,rfl⟩ hlt
  have hWs:=hB.size
  have t0:=Below.heap hB (Nat.le_refl _) X0.out
  have t1:=Below.heap hB (Nat.le_refl _) X1.out
  have t2:=Below.heap hB (Nat.le_refl _) X2.out
  have tb:=(hB.cell (p:=⟨b,0,none⟩) (by show b < _;omega)).trans Cb.out
  have c0:=cellAt t0 0
  have x0:=cellAt hX 0
  have x1:=cellAt hX 1
  have x2:=cellAt hX 2
  simp only [List.getElem?_toArray,List.getElem?_cons_zero,List.getElem?_cons_succ] at c0 x0 x1 x2
  have HB:=Lib.hid hB
  have HP:=Lib.hid hp
  have T1:=Lib.hid t1
  have T2:=Lib.hid t2
  have HX:=Lib.hid hX
  have MK:Hid (Calls Tryz.prog 101 #[.agg #[.int .i64 ((x.1:Int) + 1),.float .f64 (stF x.2.1),.string x.2.2],.pointer (some ⟨b,0,none⟩)] W fun e w' => e = .returned (.bool (x.2.2.toList == name.toList)) ∧ Below W.heap.size W w'):=Lib.hid (markFn_g W b name HNE.out tb _ _ _)
  clear hB hp t0 t1 t2 tb hX hr
  by_cases hm:x.2.2.toList = name.toList
  ·have hm2:(x.2.2.toList == name.toList) = true:=by simpa using hm
   rw [hm2] at MK
   have HM:=Lib.hid hm
   clear hm hm2
   gi_wp2_with (refine ⟨trivial,?_⟩;gi_at_call 101;refine (CallsIn.inRound lx (callsIn_wide.2 MK.out)).mono ?_;rintro e W2 ⟨rfl,hq⟩;have HQ:=Lib.hid hq;have y0:=cellAt (Below.heap hq (Nat.le_refl _) HX.out) 0;have y1:=cellAt (Below.heap hq (Nat.le_refl _) HX.out) 1;have y2:=cellAt (Below.heap hq (Nat.le_refl _) HX.out) 2;have U1:=Lib.hid (Below.heap hq (Nat.le_refl _) T1.out);have U2:=Lib.hid (Below.heap hq (Nat.le_refl _) T2.out);have z0:=cellAt U1.out 0;have z1:=cellAt U1.out 1;have z2:=cellAt U1.out 2;have zf0:=frozenAt U1.out 0;have zf1:=frozenAt U1.out 1;have zf2:=frozenAt U1.out 2;have v0:=cellAt U2.out 0;have vf0:=frozenAt U2.out 0;clear hq)
   have fW:Frame [w.heap.size + 1,w.heap.size + 2] W ((((W2.setCell ⟨w.heap.size + 1,0,none⟩ (.int .i64 ((x.1:Int) + 1))).setCell ⟨w.heap.size + 1,1,none⟩ (.float .f64 (stF x.2.1))).setCell ⟨w.heap.size + 1,2,none⟩ (.string x.2.2)).setCell ⟨w.heap.size + 2,0,none⟩ (.int .i64 0)) :=
    ((((Frame.of_below HQ.out [w.heap.size + 1,w.heap.size + 2]).setCell (p:=⟨w.heap.size + 1,0,none⟩) (.inl (by simp)) _).setCell (p:=⟨w.heap.size + 1,1,none⟩) (.inl (by simp)) _).setCell (p:=⟨w.heap.size + 1,2,none⟩) (.inl (by simp)) _).setCell (p:=⟨w.heap.size + 2,0,none⟩) (.inl (by simp)) _
   have hBW:Below w.heap.size w W:=Bw5.out.trans (HB.out.mono Bw5.out.size)
   refine ⟨keepsFrom_of_frame fW (fun y hy => by simp at hy;omega),⟨rfl,x,by simp,HM.out⟩,fW.belowIf hBW (fun y hy => by simp at hy;omega) hBW.size,(x.1:Int) + 1,stF x.2.1,x.2.2,?_,?_⟩
   ·have h:=setAt (setAt (setAt U1.out 0 (.int .i64 ((x.1:Int) + 1))) 1 (.float .f64 (stF x.2.1))) 2 (.string x.2.2)
    rw [heap_set_ne _ (by omega:w.heap.size + 1 ≠ w.heap.size + 2)]
    simpa using h
   ·have h:=setAt (w:=((W2.setCell ⟨w.heap.size + 1,0,none⟩ (.int .i64 ((x.1:Int) + 1))).setCell ⟨w.heap.size + 1,1,none⟩ (.float .f64 (stF x.2.1))).setCell ⟨w.heap.size + 1,2,none⟩ (.string x.2.2)) (by rw [heap_set_ne _ (by omega:w.heap.size + 2 ≠ w.heap.size + 1),heap_set_ne _ (by omega:w.heap.size + 2 ≠ w.heap.size + 1),heap_set_ne _ (by omega:w.heap.size + 2 ≠ w.heap.size + 1)];exact U2.out) 0 (.int .i64 0)
    simpa using h
  ·have hm2:(x.2.2.toList == name.toList) = false:=by simpa using hm
   rw [hm2] at MK
   have HM:=Lib.hid hm
   clear hm hm2
   gi_wp2_with (refine ⟨trivial,?_⟩;gi_at_call 101;refine (CallsIn.inRound lx (callsIn_wide.2 MK.out)).mono ?_;rintro e W2 ⟨rfl,hq⟩;have HQ:=Lib.hid hq;clear hq)
   refine ⟨keepsFrom_of_frame (Frame.of_below HQ.out []) (fun y hy => by simp at hy),HQ.out.mono (by omega),fun y hy => ?_,HB.out.trans (HQ.out.mono (by omega))⟩
   rcases List.mem_append.1 hy with h | h
   ·exact HP.out y h
   ·simp only [List.mem_singleton] at h
    subst h
    exact HM.out
 case done =>
  rintro D zs W hD rfl ⟨hp,hB⟩ hK
  have t1:=Below.heap hB (Nat.le_refl _) X1.out
  have t2:=Below.heap hB (Nat.le_refl _) X2.out
  have z0:=cellAt t1 0
  have z1:=cellAt t1 1
  have z2:=cellAt t1 2
  have zf0:=frozenAt t1 0
  have zf1:=frozenAt t1 1
  have zf2:=frozenAt t1 2
  have v0:=cellAt t2 0
  have vf0:=frozenAt t2 0
  have hno:er = 14:=her.out.trans (if_neg (fun h => by
   obtain ⟨p,hp1,hp2⟩:=List.any_eq_true.1 h
   obtain ⟨j,hj⟩:=revPts_all hp1
   exact hp _ hj (by simpa using hp2)))
  subst hno
  have T1:=Lib.hid t1
  have T2:=Lib.hid t2
  have HB:=Lib.hid hB
  have HP:=Lib.hid hp
  have HKD:=Lib.hid hK
  have HDD:=Lib.hid hD
  clear hB hp hK hD t1 t2
  go_wp2
  obtain ⟨W3,hW3⟩:∃ W3,Hid (W3 = ((((W.setCell ⟨w.heap.size + 1,0,none⟩ (.int .i64 0)).setCell ⟨w.heap.size + 1,1,none⟩ (.float .f64 0)).setCell ⟨w.heap.size + 1,2,none⟩ (.string ⟨#[]⟩)).setCell ⟨w.heap.size + 2,0,none⟩ (.int .i64 14))):=⟨_,Lib.hid rfl⟩
  have hw3:=hW3.out
  show bodyPostM _ _ _ _ _ _ _ ((((W.setCell ⟨w.heap.size + 1,0,none⟩ (.int .i64 0)).setCell ⟨w.heap.size + 1,1,none⟩ (.float .f64 0)).setCell ⟨w.heap.size + 1,2,none⟩ (.string ⟨#[]⟩)).setCell ⟨w.heap.size + 2,0,none⟩ (.int .i64 14))
  rw [← hw3]
  clear hw3
  have F3:Frame [w.heap.size + 1,w.heap.size + 2] W W3:=by
   rw [hW3.out]
   exact ((((Frame.refl [w.heap.size + 1,w.heap.size + 2] W).setCell (p:=⟨w.heap.size + 1,0,none⟩) (.inl (by simp)) _).setCell (p:=⟨w.heap.size + 1,1,none⟩) (.inl (by simp)) _).setCell (p:=⟨w.heap.size + 1,2,none⟩) (.inl (by simp)) _).setCell (p:=⟨w.heap.size + 2,0,none⟩) (.inl (by simp)) _
  have G1:W3.heap[w.heap.size + 1]? = some (.cells #[.int .i64 0,.float .f64 0,.string ⟨#[]⟩] 52 (0,0)):=by
   rw [hW3.out,heap_set_ne _ (by omega:w.heap.size + 1 ≠ w.heap.size + 2)]
   have h:=setAt (setAt (setAt T1.out 0 (.int .i64 0)) 1 (.float .f64 0)) 2 (.string ⟨#[]⟩)
   simpa using h
  have G2:W3.heap[w.heap.size + 2]? = some (.cells #[.int .i64 14] 25 (0,0)):=by
   rw [hW3.out]
   have h:=setAt (w:=((W.setCell ⟨w.heap.size + 1,0,none⟩ (.int .i64 0)).setCell ⟨w.heap.size + 1,1,none⟩ (.float .f64 0)).setCell ⟨w.heap.size + 1,2,none⟩ (.string ⟨#[]⟩)) (by rw [heap_set_ne _ (by omega:w.heap.size + 2 ≠ w.heap.size + 1),heap_set_ne _ (by omega:w.heap.size + 2 ≠ w.heap.size + 1),heap_set_ne _ (by omega:w.heap.size + 2 ≠ w.heap.size + 1)];exact T2.out) 0 (.int .i64 14)
   simpa using h
  have hBW:Below w.heap.size w W3:=F3.belowIf (Bw5.out.trans (HB.out.mono Bw5.out.size)) (fun y hy => by simp at hy;omega) (Nat.le_trans Bw5.out.size HB.out.size)
  have hK3:=F3.heap HKD.out (by have:=HDD.out;simp;omega)
  refine ⟨by simp,.inl ⟨_,_,rfl,run_takeDeferred hK3,?_⟩⟩
  have F:Frame [D] W3 (W3.putObj D (.deferred none)):=frame_putObj W3 D (.deferred none)
  have k1:=F.heap G1 (by have:=HDD.out;simp;omega)
  have k2:=F.heap G2 (by have:=HDD.out;simp;omega)
  have j0:=cellAt k1 0
  have j1:=cellAt k1 1
  have j2:=cellAt k1 2
  have j3:=cellAt k2 0
  simp at j0 j1 j2 j3
  refine ⟨.tuple #[.agg #[.int .i64 0,.float .f64 0,.string ⟨#[]⟩],.int .i64 14],by simp [results,Tryz.results100,go_sem,j0,j1,j2,j3],⟨_,⟨0,0,⟨#[]⟩,rfl⟩,rfl⟩,F.belowIf hBW (fun y hy => by simp at hy;have:=HDD.out;omega) hBW.size⟩
 case stop =>
  rintro D c pre W hD hpre ⟨⟨rfl,x,hx,hm⟩,hB,x0,y0,m0,h1,h2⟩ hK
  have hyes:er = 0:=her.out.trans (if_pos (List.any_eq_true.2 ⟨x.2,List.mem_of_getElem? (revPts_mem (hpre.subset hx)),by simpa using hm⟩))
  subst hyes
  have HB:=Lib.hid hB
  have H1:=Lib.hid h1
  have H2:=Lib.hid h2
  have HKD:=Lib.hid hK
  have HDD:=Lib.hid hD
  clear hB h1 h2 hK hD
  gi_wp2
  refine ⟨by simp,.inl ⟨_,_,rfl,run_takeDeferred HKD.out,?_⟩⟩
  have F:Frame [D] W (W.putObj D (.deferred none)):=frame_putObj W D (.deferred none)
  have n1:w.heap.size + 1 ∉ [D]:=by
   simp only [List.mem_singleton]
   have:=HDD.out
   omega
  have n2:w.heap.size + 2 ∉ [D]:=by
   simp only [List.mem_singleton]
   have:=HDD.out
   omega
  have k1:=F.heap H1.out n1
  have k2:=F.heap H2.out n2
  have j0:=cellAt k1 0
  have j1:=cellAt k1 1
  have j2:=cellAt k1 2
  have j3:=cellAt k2 0
  simp at j0 j1 j2 j3
  refine ⟨.tuple #[.agg #[.int .i64 x0,.float .f64 y0,.string m0],.int .i64 0],by simp [results,Tryz.results100,go_sem,j0,j1,j2,j3],⟨_,⟨x0,y0,m0,rfl⟩,rfl⟩,F.belowIf HB.out (fun y hy => by simp at hy;have:=HDD.out;omega) HB.out.size⟩
end Go.Proofs.YtaonlcgneemimaaGreatDoor
namespace Go.Proofs.YtaonlcgneemimaaGreatDoor
open Go.RowKit
set_option maxRecDepth 100000 in
set_option maxHeartbeats 2000000 in
theorem mark_g (w:World) (v:Value) (l:List PtA) (name:ByteArray) (hne:name ≠ ⟨#[]⟩) (h:PtsGV w v l) (hl:PtsOk l) (hn:l.length ≤ 100000) :
  Calls Tryz.prog 55 #[v,.string name] w fun e w' => (∃ u,PtVal u ∧ e = .returned (.tuple #[u,.int .i64 (markE l name)])) ∧ Below w.heap.size w w':=by
 obtain ⟨er,her⟩:∃ er,Hid (er = markE l name):=⟨_,Lib.hid rfl⟩
 rw [← her.out]
 obtain ⟨a,cap,hv,-,-,-⟩:=ptsG_cells h
 subst hv
 have hsf:=fun (W:World) (p:Addr) (k:Nat) => run_store Tryz.prog W p (.float .f64 k) .plain rfl
 obtain ⟨W1,hW1⟩:∃ W1,Hid (W1 = (w.alloc (.cells #[.string name] 9)).alloc (.cells #[.int .i64 0,.float .f64 0,.string ⟨#[]⟩] 52)):=⟨_,Lib.hid rfl⟩
 have B1:Hid (Below w.heap.size w W1):=Lib.hid (by rw [hW1.out];exact ((Below.refl _ _).alloc (Nat.le_refl _) _).alloc (by simp) _)
 have CL:Hid (Calls Tryz.prog 100 #[.slice a l.length cap,.func (.func 101) #[] #[.pointer (some ⟨w.heap.size,0,none⟩)]] W1 fun e w' => (∃ u,PtVal u ∧ e = .returned (.tuple #[u,.int .i64 er])) ∧ Below W1.heap.size W1 w'):=Lib.hid (by
  rw [her.out]
  exact lastMark_g W1 _ l w.heap.size name hne (by rw [hW1.out];exact cellAt (heap_old (heap_new w _) _) 0) (h.below B1.out) hl hn)
 have X1:Hid (W1.heap[w.heap.size + 1]? = some (.cells #[.int .i64 0,.float .f64 0,.string ⟨#[]⟩] 52 (0,0))):=Lib.hid (by rw [hW1.out];exact heap_new2 w _ _)
 have hw1:=hW1.out
 clear h hl hne
 go_enter Tryz.func55,Tryz.ntmps55
 go_wp2_with (go_at_call 100;rw [← hW1.out];refine CL.out.mono ?_;rintro e w2 ⟨⟨u,⟨x,y,m,rfl⟩,rfl⟩,hq⟩;have HB:=Lib.hid hq;have X2:=Lib.hid (Below.heap hq (Nat.le_refl _) X1.out);have z0:=cellAt X2.out 0;have z1:=cellAt X2.out 1;have z2:=cellAt X2.out 2;have f0:=frozenAt X2.out 0;have f1:=frozenAt X2.out 1;have f2:=frozenAt X2.out 2;clear hq)
 have hF:=setAt (setAt (setAt X2.out 0 (.int .i64 x)) 1 (.float .f64 y)) 2 (.string m)
 have j0:=cellAt hF 0
 have j1:=cellAt hF 1
 have j2:=cellAt hF 2
 simp at j0 j1 j2
 refine bodyPost_ret (v:=.tuple #[.agg #[.int .i64 x,.float .f64 y,.string m],.int .i64 er]) (by simp [results,Tryz.results55,go_sem,j0,j1,j2]) rfl ?_
 have hb:Below w.heap.size w w2:=B1.out.trans (HB.out.mono B1.out.size)
 exact ⟨⟨_,⟨x,y,m,rfl⟩,rfl⟩,((hb.setCell (p:=⟨w.heap.size + 1,0,none⟩) (by simp) _).setCell (p:=⟨w.heap.size + 1,1,none⟩) (by simp) _).setCell (p:=⟨w.heap.size + 1,2,none⟩) (by simp) _⟩
end Go.Proofs.YtaonlcgneemimaaGreatDoor
