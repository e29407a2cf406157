/- TopBatches: the contracts of G1, K7, L1, L3, L5, L6, L7, L8, L9; no condition. -/
import Derived.RangeFuncNested
import Derived.RangeFuncBound
import Derived.RangeFuncCalls
import Derived.RangeFuncLeaves
import Derived.Shelf.Abstract
import Derived.Shelf.RegionOpen
import Derived.WalkKit
import Derived.OwnWalkIn
import Derived.TacticsInMore
import Derived.LoopNIn
import Derived.LoopIn
import Derived.Test.YtaonlcgneemimaaGreatDoorB28
import Derived.OrdersHeld
namespace Go.Proofs.YtaonlcgneemimaaGreatDoor
open Go.RowKit Go.Shelf
attribute [local go_sem] Oper.semAt_some
def chunkV (g off n c:Nat) (i:Nat):Value:=.slice (some ⟨g,off + i,none⟩) (min c (n - i)) (min c (n - i))
def offs (c k:Nat):List Nat:=(List.range k).map (c * ·)
theorem offs_succ (c k:Nat):offs c (k + 1) = offs c k ++ [c * k]:=by simp [offs,List.range_succ]
theorem offs_length (c k:Nat):(offs c k).length = k:=by simp [offs]
def Boxes (b1 b2:Nat) (W W':World):Prop:=W'.heap[b1]? = W.heap[b1]? ∧ W'.heap[b2]? = W.heap[b2]?
theorem boxes_t {b1 b2:Nat} {A B C:World} (h:Boxes b1 b2 A B) (k:Boxes b1 b2 B C):Boxes b1 b2 A C:=⟨k.1.trans h.1,k.2.trans h.2⟩
theorem boxes_b {b1 b2:Nat} {w:World} (h1:b1 < w.heap.size) (h2:b2 < w.heap.size) (W:World) (l:Nat) (o o':Obj) (hl:w.heap.size ≤ l) (_:W.heap[l]? = some o) (_:o.isCells = false) (_:o.isWalk = false):Boxes b1 b2 W (W.putObj l o') :=
 ⟨World.putObj_heap_other (by omega),World.putObj_heap_other (by omega)⟩
set_option maxRecDepth 100000 in
set_option maxHeartbeats 2000000 in
theorem chunk1_in (F:Fence) (n:Nat) (h7:F.fn 190) (hro:F.round = none) (hn:1 ≤ n) (l b1 b2 g off len cap c:Nat) (hc1:1 ≤ c) (hc2:c ≤ 64) (hlen:len ≤ 100000) (hcap:len ≤ cap) (hcap2:cap ≤ maxLen) (J Jx:List Nat → World → Prop) (hJd:∀ s W,J s W → J s W.drew)
  (hY:∀ pre x W,J pre W → pre.length < (len + c - 1) / c → x < len → YieldAt F (n - 1) Tryz.prog l #[chunkV g off len c x] W fun e W' =>
   (e = .returned (.bool true) ∧ J (pre ++ [x]) W' ∧ Boxes b1 b2 W W') ∨ (e = .returned (.bool false) ∧ Jx (pre ++ [x]) W'))
  (W:World) (hb1:W.heap[b1]? = some (.cells #[.slice (some ⟨g,off,none⟩) len cap] 33 (0,0))) (hb2:W.heap[b2]? = some (.cells #[.int .i64 c] 3 (0,0))) (h0:J [] W) :
  CallsIn F n Tryz.prog 190 #[.func (.yield l) #[] #[],.pointer (some ⟨b1,0,none⟩),.pointer (some ⟨b2,0,none⟩)] W fun e W' => (∃ v,e = .returned v) ∧
   ((∃ ys,ys = offs c ((len + c - 1) / c) ∧ J ys W') ∨ (∃ pre:List Nat,True ∧ Jx pre W')):=by
 have hml:maxLen = 9223372036854775807:=by decide
 refine callsIn_of_wp Tryz.func190 rfl h7 ?_ hro
 simp only [Tryz.ntmps190,List.size_toArray,List.length_cons,List.length_nil,Nat.reduceAdd,Nat.reduceSub,Array.replicate_succ,Array.replicate_zero,List.push_toArray,List.append_toArray,List.nil_append,List.cons_append]
 gi_wp2
 gi_loopw [4,5] (fun ti _ wr => ∃ k i:Nat,i = c * k ∧ k ≤ (len + c - 1) / c ∧ ti = .int .i64 i ∧ J (offs c k) wr ∧ Boxes b1 b2 W wr)
  (fun ti _ _ => len - (intOf ti).toNat)
 case atStart => exact ⟨0,0,by simp,Nat.zero_le _,rfl,h0,⟨rfl,rfl⟩⟩
 case round =>
  obtain ⟨k,i,hi,hk,rfl,hJs,hnx⟩:=hrel
  have e1:=hnx.1.trans hb1
  have e2:=hnx.2.trans hb2
  have c1:=cellAt e1 0
  have c2:=cellAt e2 0
  by_cases hlt:i < len
  ·have hkl:k < (len + c - 1) / c:=by
    rw [Nat.lt_div_iff_mul_lt (by omega)]
    rw [Nat.mul_comm] at hi
    omega
   obtain ⟨fn,tmps,assign,body,hy,hR⟩:=hY _ i wr.drew (hJd _ _ hJs) (by rw [offs_length];exact hkl) hlt
   rw [show chunkV g off len c i = .slice (some ⟨g,off + i,none⟩) (((i:Int) + min (c:Int) ((len - i:Nat):Int)).toNat - i) (((i:Int) + min (c:Int) ((len - i:Nat):Int)).toNat - i) by unfold chunkV;congr 1 <;> omega] at hy
   have HRD:=Lib.hid hR
   have HJ:=Lib.hid hJs
   have E2:Hid (wr.drew.heap[b2]? = some (.cells #[.int .i64 c] 3 (0,0))):=Lib.hid e2
   have HI:=Lib.hid hi
   have HKL:=Lib.hid hkl
   have HNX:=Lib.hid hnx
   have q1:(i:Int) ≤ len:=by omega
   have q2:(len:Int) ≤ cap:=by omega
   clear hR hnx hJs e1 e2 hY h0 hb1 hb2 hi hk hkl
   gi_wp2
   gi_region
   all_goals gi_wp2
   all_goals
    refine HRD.out.mono ?_
    rintro e W3 (⟨rfl,hJ3,hk3⟩ | ⟨rfl,hJx3⟩)
    ·have HK3:=Lib.hid hk3
     have HJ3:=Lib.hid hJ3
     have c3:W3.cell? ⟨b2,0,none⟩ = some (.int .i64 c):=cellAt (hk3.2.trans E2.out) 0
     clear hk3 hJ3
     gi_wp2
     go_roundw
     case rel => exact ⟨k + 1,i + c,by rw [HI.out,Nat.mul_succ],by have:=HKL.out;omega,by go_num,by rw [offs_succ,← HI.out];exact HJ3.out,boxes_t HNX.out HK3.out⟩
     case measure => simp [intOf];omega
    ·gi_wp2
     refine bodyPost_ret (results_none rfl _ _ _) rfl ?_
     exact ⟨⟨_,rfl⟩,.inr ⟨_,trivial,hJx3⟩⟩
  ·have hkk:k = (len + c - 1) / c:=by
    refine Nat.le_antisymm hk ?_
    have h2:len ≤ c * k:=by omega
    have h3:(len + c - 1) / c < k + 1:=by
     rw [Nat.div_lt_iff_lt_mul (by omega),Nat.mul_comm,Nat.mul_succ]
     omega
    omega
   have HI:=Lib.hid hi
   have HJ:=Lib.hid hJs
   have HKK:=Lib.hid hkk
   have q1:(len:Int) ≤ (i:Int):=by omega
   clear hi hk hJs hkk hY h0 hb1 hb2 hnx e1 e2
   gi_wp2
   go_end0
   exact ⟨⟨_,rfl⟩,.inl ⟨_,by rw [← HKK.out],HJ.out⟩⟩
set_option maxRecDepth 100000 in
set_option maxHeartbeats 1000000 in
theorem chunk_in (F:Fence) (n:Nat) (h5:F.fn 161) (hro:F.round = none) (a:Option Addr) (len cap c:Nat) (hc:1 ≤ c) (w:World) :
  CallsIn F n Tryz.prog 161 #[.slice a len cap,.int .i64 c] w fun e w' => e = .returned (.func (.func 190) #[] #[.pointer (some ⟨w.heap.size,0,none⟩),.pointer (some ⟨w.heap.size + 1,0,none⟩)]) ∧ w' = (w.alloc (.cells #[.slice a len cap] 33)).alloc (.cells #[.int .i64 c] 3):=by
 have e1:¬ ((c:Int) < 1):=by omega
 refine callsIn_of_wp Tryz.func161 rfl h5 ?_ hro
 simp only [Tryz.ntmps161,List.size_toArray,List.length_cons,List.length_nil,Nat.reduceAdd,Nat.reduceSub,Array.replicate_succ,Array.replicate_zero,List.push_toArray,List.append_toArray,List.nil_append,List.cons_append]
 gi_wp2
 go_ret
 exact ⟨rfl,rfl⟩
abbrev Off (len:Nat):={ x:Nat // x < len }
theorem chunk_stops (F:Fence) (n:Nat) (h7:F.fn 190) (hro:F.round = none) (hn:1 ≤ n) (b1 b2 g off len cap c:Nat) (hc1:1 ≤ c) (hc2:c ≤ 64) (hlen:len ≤ 100000) (hcap:len ≤ cap) (hcap2:cap ≤ maxLen) (w:World)
  (hb1:w.heap[b1]? = some (.cells #[.slice (some ⟨g,off,none⟩) len cap] 33 (0,0))) (hb2:w.heap[b2]? = some (.cells #[.int .i64 c] 3 (0,0))) :
  SeqStopsK F n Tryz.prog 190 #[.pointer (some ⟨b1,0,none⟩),.pointer (some ⟨b2,0,none⟩)] (fun x:Off len => #[chunkV g off len c x.1]) (Boxes b1 b2) (fun ys => ys.map (·.1) = offs c ((len + c - 1) / c)) (fun _ => True) ((len + c - 1) / c) w:=fun l J Jx W hW hJ hJx hY h0 => by
 have hd:∀ W:World,W.grownBy W.drew none:=fun W => ⟨rfl,rfl,rfl,Nat.le_refl _,fun _ _ _ => rfl⟩
 refine (chunk1_in F n h7 hro hn l b1 b2 g off len cap c hc1 hc2 hlen hcap hcap2 (fun pre W => ∃ ps:List (Off len),ps.map (·.1) = pre ∧ J ps W) (fun pre W => ∃ ps:List (Off len),ps.map (·.1) = pre ∧ Jx ps W) ?_ ?_ W (Below.heap hW (Nat.le_refl _) hb1) (Below.heap hW (Nat.le_refl _) hb2) ⟨[],rfl,h0⟩).mono ?_
 ·rintro s W ⟨ps,h1,h2⟩
  exact ⟨ps,h1,hJ ps W _ none h2 (hd W) (fun r e => by cases e)⟩
 ·rintro pre x W1 ⟨ps,rfl,h2⟩ hlt hx
  obtain ⟨fn,tmps,assign,body,hy,hR⟩:=hY ps ⟨x,hx⟩ W1 h2 (by simpa using hlt)
  refine ⟨fn,tmps,assign,body,hy,hR.mono ?_⟩
  rintro e W' (⟨rfl,hj,hk⟩ | ⟨rfl,hj⟩)
  ·exact .inl ⟨rfl,⟨_,by simp,hj⟩,hk⟩
  ·exact .inr ⟨rfl,_,by simp,hj⟩
 ·rintro e W' ⟨he,⟨ys,rfl,ps,hps,hj⟩ | ⟨pre,-,ps,hps,hj⟩⟩
  ·exact ⟨he,.inl ⟨ps,hps,hj⟩⟩
  ·exact ⟨he,.inr ⟨ps,trivial,hj⟩⟩
end Go.Proofs.YtaonlcgneemimaaGreatDoor
namespace Go.Proofs.YtaonlcgneemimaaGreatDoor
open Go.RowKit
/-! A region that draws its order,in a round of a range over a function: by the orders' law of the plain walk. -/
section
variable {P:Program} {ops:Array Oper} {Q:Exit → Act → World → Prop} {md:Region.Mode}
theorem rows_inRound {row:String} {args:Array Value} {w:World} {R:Value → World → Prop} (l n:Nat) (h:Rows P row args w R):RowsIn (Fence.wide.inRound l) n P row args w R:=by
 intro c cs _
 obtain ⟨v,w',hr,hs⟩:=h c cs
 exact ⟨v,w',hr,stepsIn_wide.2 hs⟩
theorem oper_inRound {o:Oper} {a:Act} {w:World} {K:Act → World → Prop} (l n:Nat) (hd:∀ c,o.op ≠ .defer c) (h:o.wp P a w K Q):o.wpIn (Fence.wide.inRound l) n P a w K Q:=by
 refine ⟨fun f _ => trivial,?_⟩
 unfold Oper.wp at h
 rw [Oper.semAt_eq _ _ _ hd]
 generalize (execOp a.eval o).run P w = r at *
 cases r with
 | ok x w' =>
  cases x with
  | value v => exact h
  | skip => exact h
  | defer d => exact h
  | enter f args =>
   refine ⟨fun h => by simp [Fence.wide] at h,?_⟩
   have h2:CallsIn Fence.wide (n - 1) P f args w' _:=callsIn_wide.2 h
   exact CallsIn.inRound l h2
  | row row args => exact ⟨fun h => by simp [Fence.wide] at h,rows_inRound l _ h⟩
  | round => exact h.elim
  | _ => exact h.elim
 | halt x w' =>
  cases x with
  | panic v => exact h
  | _ => exact h.elim
def noDefer (ops:Array Oper):Bool:=ops.all fun o => match o.op with | .defer _ => false | _ => true
theorem noDefer_spec (h:noDefer ops = true) (i:Nat) (o:Oper) (hi:ops[i]? = some o):∀ c,o.op ≠ .defer c:=by
 intro c hc
 unfold noDefer at h
 rw [Array.all_eq_true] at h
 obtain ⟨hlt,rfl⟩:=Array.getElem?_eq_some_iff.1 hi
 have:=h i hlt
 rw [hc] at this
 cases this
theorem wpOp_inRound (l n:Nat) (hd:noDefer ops = true) (hQ:¬ LetsOut Q) {i:Nat} {K:Act → World → Prop} {a:Act} {w:World} (h:wpOp P ops Q i K a w):wpOpIn (Fence.wide.inRound l) n P ops Q i K a w:=by
 unfold wpOp at h
 unfold wpOpIn
 cases ho:ops[i]? with
 | none => rw [ho] at h;exact h
 | some o =>
  rw [ho] at h
  simp only at h ⊢
  split
  ·rename_i hw
   rw [if_pos hw] at h
   rcases h with h | h
   ·exact oper_inRound l n (noDefer_spec hd i o ho) h
   ·exact absurd h.2 hQ
  ·rename_i hw
   rw [if_neg hw] at h
   exact ⟨fun f _ => trivial,h⟩
theorem any_inRound (l n:Nat) (hd:noDefer ops = true) (hQ:¬ LetsOut Q):∀ (f:Nat) (L:Array Bool) (a:Act) (w:World),wpAny P md ops Q f L a w → wpAnyIn (Fence.wide.inRound l) n P md ops Q f L a w
 | 0,_,_,_,h => h
 | f + 1,_,_,_,h => ⟨h.1,fun i hi => wpOp_inRound l n hd hQ (wpOp_mono (fun a' w' h' => any_inRound l n hd hQ f _ a' w' h') (h.2 i hi))⟩
theorem region_inRound (S:World → Prop) (l n:Nat) (hd:noDefer ops = true) (hQ:¬ LetsOut Q) {id:Nat} {a:Act} {w:World} (hm:P.follows .mixedOrders = true)
  (h:wpAnyH P .any ops Q S ops.size (Array.replicate ops.size false) a w.drew):(Code.region id ops true).wpIn (Fence.wide.inRound l) n P Q a w :=
 wpIn_region_any hm (any_inRound l n hd hQ _ _ _ _ (wpAny_of_held _ _ _ _ h))
end
end Go.Proofs.YtaonlcgneemimaaGreatDoor
namespace Go.Proofs.YtaonlcgneemimaaGreatDoor
open Go.RowKit
theorem sp_idx_spec:∀ (bs:List Bool) (i:Nat),0 < sp_frees bs → ∃ k,sp_idx bs i = (i + k:Nat) ∧ k < bs.length ∧ bs[k]? = some false
 | [],i,h => by simp [sp_frees] at h
 | b :: r,i,h => by
  unfold sp_idx
  cases b with
  | false => exact ⟨0,by simp,by simp,rfl⟩
  | true =>
   have h2:0 < sp_frees r:=by simpa [sp_frees] using h
   obtain ⟨k,h3,h4,h5⟩:=sp_idx_spec r (i + 1) h2
   refine ⟨k + 1,?_,by simpa using h4,by simpa using h5⟩
   rw [if_neg (by decide),h3]
   omega
theorem sp_frees_set:∀ (bs:List Bool) (k:Nat),bs[k]? = some false → sp_frees (bs.set k true) + 1 = sp_frees bs
 | [],k,h => by simp at h
 | b :: r,0,h => by
  simp at h
  subst h
  simp [sp_frees]
 | b :: r,k + 1,h => by
  have:=sp_frees_set r k (by simpa using h)
  cases b <;> simp [sp_frees,List.countP_cons] at this ⊢ <;> omega
structure Took (bs:List Bool) (more:List Int) (bs':List Bool):Prop where
 len:bs'.length = bs.length
 mem:∀ s ∈ more,0 ≤ s ∧ s < bs.length ∧ bs[s.toNat]? = some false
 nodup:more.Nodup
 set:∀ i:Nat,i < bs.length → (bs'[i]? = some true ↔ (bs[i]? = some true ∨ (i:Int) ∈ more))
 fr:sp_frees bs' + more.length = sp_frees bs
theorem Took.nil (bs:List Bool):Took bs [] bs:=⟨rfl,by simp,by simp,fun i _ => by simp,by simp⟩
theorem bool_cases {bs:List Bool} {i:Nat} (h:i < bs.length):bs[i]? = some true ∨ bs[i]? = some false:=by
 rw [List.getElem?_eq_getElem h]
 cases bs[i] <;> simp
theorem Took.step {bs bs':List Bool} {more:List Int} (h:Took bs more bs') (hf:0 < sp_frees bs'):∃ k:Nat,sp_idx bs' 0 = k ∧ Took bs (more ++ [(k:Int)]) (bs'.set k true):=by
 obtain ⟨k,h1,h2,h3⟩:=sp_idx_spec bs' 0 hf
 have hlt:k < bs.length:=by have:=h.len;omega
 have hnot:¬ (bs[k]? = some true ∨ (k:Int) ∈ more):=fun hc => by
  have:=(h.set k hlt).2 hc
  rw [h3] at this
  cases this
 have hk:bs[k]? = some false:=by
  rcases bool_cases hlt with h4 | h4
  ·exact absurd (.inl h4) hnot
  ·exact h4
 refine ⟨k,by simpa using h1,⟨by simpa using h.len,?_,?_,?_,?_⟩⟩
 ·intro s hs
  simp only [List.mem_append,List.mem_singleton] at hs
  rcases hs with hs | rfl
  ·exact h.mem s hs
  ·exact ⟨by omega,by omega,by simpa using hk⟩
 ·rw [List.nodup_append]
  refine ⟨h.nodup,by simp,fun a ha b hb => ?_⟩
  simp only [List.mem_singleton] at hb
  rintro rfl
  exact hnot (.inr (hb ▸ ha))
 ·intro i hi
  by_cases hik:k = i
  ·subst hik
   simp [List.getElem?_set_self h2]
  ·rw [List.getElem?_set_ne hik,h.set i hi]
   simp only [List.mem_append,List.mem_singleton]
   constructor
   ·rintro (h4 | h4)
    ·exact .inl h4
    ·exact .inr (.inl h4)
   ·rintro (h4 | h4 | h4)
    ·exact .inl h4
    ·exact .inr h4
    ·exact absurd (by omega) hik
 ·have h5:=sp_frees_set bs' k h3
  have h6:=h.fr
  simp
  omega
theorem SpaceAt.frame {M:List Nat} {w w':World} {base b g:Nat} {bs:List Bool} (h:SpaceAt w base b g bs) (hf:Frame M w w') (h1:b ∉ M) (h2:g ∉ M):SpaceAt w' base b g bs:=by
 have hl:=h.lt
 obtain ⟨hb,ne,c,hh,own⟩:=h
 refine ⟨hb,ne,c,hf.heap hh h1,row_kept own (fun k o hk hv => ?_)⟩
 simp only [Value.ownBlock,Option.some.injEq] at hv
 subst hv
 exact hf.heap hk h2
theorem SpaceAt.below {w w':World} {base b g:Nat} {bs:List Bool} (h:SpaceAt w base b g bs) (hf:Below w.heap.size w w'):SpaceAt w' base b g bs:=h.frame (Frame.of_below hf []) (by simp) (by simp)
theorem LogAt.frame {M:List Nat} {w w':World} {a d n:Nat} {sv:Value} {ss:List Int} {last:Int} (h:LogAt w a d sv ss n last) (hf:Frame M w w') (h1:a ∉ M) (h2:∀ k,sv.ownBlock = some k → k ∉ M):LogAt w' a d sv ss n last :=
 ⟨hf.heap h.cell h1,row_kept h.segs (fun k o hk hv => hf.heap hk (h2 k hv)),h.snil,h.len,h.few,h.seg⟩
end Go.Proofs.YtaonlcgneemimaaGreatDoor
namespace Go.Proofs.YtaonlcgneemimaaGreatDoor
open Go.RowKit
def TillC (p0:Nat) (c0 c1:World → Prop) (L:Array Bool) (w:World):Prop:=(L.getD p0 true = false → c0 w) ∧ c1 w
theorem TillC_set {p0 i:Nat} {c0 c1:World → Prop} (h0:i ≠ p0) (L:Array Bool) (w:World):TillC p0 c0 c1 (L.setIfInBounds i true) w ↔ TillC p0 c0 c1 L w:=by
 unfold TillC
 rw [getD_set_ne _ h0]
structure AppB (w1 wr:World) (a d b g n k:Nat) (sv:Value) (ss:List Int) (last:Int) (bs:List Bool) (sv':Value) (more:List Int) (bs':List Bool):Prop where
 log:LogAt wr a d sv' (ss ++ more) n last
 space:SpaceAt wr 0 b g bs'
 took:Took bs more bs'
 len:more.length = k
 fr:Frame (a :: g :: sv.ownBlock.toList) w1 wr
 alt:sv'.ownBlock = sv.ownBlock ∨ ∀ j ∈ sv'.ownBlock.toList,w1.heap.size ≤ j
theorem appB_step {w1 wr w5:World} {a d b g n k kk:Nat} {sv sv':Value} {ss more:List Int} {last:Int} {bs bs':List Bool} (h:AppB w1 wr a d b g n k sv ss last bs sv' more bs') (hbs:bs.length = 96) (hfew:ss.length + k + 1 ≤ 96)
  (hsp:SpaceAt w5 0 b g (bs'.set kk true)) (hg:wr.grownBy w5 (some g)) (htk:Took bs (more ++ [(kk:Int)]) (bs'.set kk true)) (hkk:kk < 96) :
  ∃ v6 w6,(Builtin.append_ #[90,90] 90 #[sv',.slice (some ⟨w5.heap.size,0,none⟩) 1 1]).run Tryz.prog (w5.alloc (.cells #[.int .i64 kk] 3)).drew = .ok v6 w6 ∧
   (∃ pa pc,v6 = .slice pa (ss.length + k + 1) pc) ∧ w6.heap[a]? = some (.cells #[.pointer (some ⟨d,0,none⟩),sv',.int .i64 n,.int .u32 last] 227 (0,0)) ∧
   AppB w1 (w6.setCell ⟨a,1,none⟩ v6) a d b g n (k + 1) sv ss last bs v6 (more ++ [(kk:Int)]) (bs'.set kk true) ∧ Frame (a :: g :: sv.ownBlock.toList) w1 w5 ∧ LogAt w5 a d sv' (ss ++ more) n last ∧ Frame (a :: g :: sv.ownBlock.toList) w1 w6:=by
 obtain ⟨i0,hi,hz0,hz1,hz2⟩:=info_parts info3
 have hag:a ≠ g:=by
  obtain ⟨-,-,c,-,own⟩:=h.space
  rcases own.2 with ⟨h1,_⟩ | ⟨g',cap,cur,h1,_,h2,_⟩
  ·simp at h1
  ·simp only [Value.slice.injEq,Option.some.injEq,Addr.mk.injEq] at h1
   obtain ⟨⟨rfl,-⟩,-⟩:=h1
   exact cells_ty h.log.cell h2 (by decide)
 have hsvg:∀ j,sv'.ownBlock = some j → j ≠ g:=by
  intro j hj
  obtain ⟨arr,ha⟩:=own_heap h.log.segs hj
  obtain ⟨-,-,c,-,own⟩:=h.space
  rcases own.2 with ⟨h1,_⟩ | ⟨g',cap,cur,h1,_,h2,_⟩
  ·simp at h1
  ·simp only [Value.slice.injEq,Option.some.injEq,Addr.mk.injEq] at h1
   obtain ⟨⟨rfl,-⟩,-⟩:=h1
   exact cells_ty ha h2 (by decide)
 have hfg:Frame [g] wr w5:=(Frame.refl _ _).grown hg (by rintro j hj;cases hj;exact .inl (by simp))
 have hl5:LogAt w5 a d sv' (ss ++ more) n last:=h.log.frame hfg (by simpa using hag) (fun j hj => by simpa using hsvg j hj)
 have hlen:(ss ++ more).length = ss.length + k:=by rw [List.length_append,h.len]
 have hbl:Below w5.heap.size w5 (w5.alloc (.cells #[.int .i64 kk] 3)).drew:=(crc_below _ _).drew
 have hsegs:=own_below hl5.segs hbl
 rw [hlen] at hsegs
 obtain ⟨v6,w6,hr,ho,hgr,-,hb6⟩:=append_run_sl (P:=Tryz.prog) (w:=(w5.alloc (.cells #[.int .i64 kk] 3)).drew) 0 90 90 3 i0 _ 1 8 Tryz.underlying90 hi hz0 hz1 hz2 rfl (by decide) sv' (ss.length + k) _ hsegs (.slice (some ⟨w5.heap.size,0,none⟩) 1 1) 1 _ (Sl.block' (heap_new w5 _) rfl (by simp [Value.oneCell']) (by decide) (by decide)) (by omega) (by decide) (Nat.zero_le _)
 have hane:sv'.ownBlock ≠ some a:=own_neq hl5.segs hl5.cell (by decide)
 have h6a:w6.heap[a]? = some (.cells #[.pointer (some ⟨d,0,none⟩),sv',.int .i64 n,.int .u32 last] 227 (0,0)):=grown_heap hgr (Below.heap hbl (Nat.le_refl _) hl5.cell) hane
 have hF5:Frame (a :: g :: sv.ownBlock.toList) w1 w5:=h.fr.trans hfg (fun x hx => .inl (by simp at hx;simp [hx]))
 have hF6:Frame (a :: g :: sv.ownBlock.toList) w1 w6:=(hF5.then_below hbl).grown hgr (fun j hj => by
  rcases h.alt with h' | h'
  ·exact .inl (by rw [h'] at hj;simp [hj])
  ·exact .inr (h' j (by simp [hj])))
 have ho6:w6.ownsRow 0 3 1 v6 (ss ++ (more ++ [(kk:Int)])).length (ints (ss ++ (more ++ [(kk:Int)]))):=by
  have e1:(ss ++ (more ++ [(kk:Int)])).length = ss.length + k + 1:=by simp [h.len];omega
  rw [e1]
  have e2:ints (ss ++ (more ++ [(kk:Int)])) = ints (ss ++ more) ++ [.int .i64 kk]:=by simp [ints]
  rw [e2]
  exact ho
 have hv6a:v6.ownBlock ≠ some a:=own_neq ho6 h6a (by decide)
 refine ⟨v6,w6,hr,own_shape (by have:=ho6;rw [show (ss ++ (more ++ [(kk:Int)])).length = ss.length + k + 1 by simp [h.len];omega] at this;exact this),h6a,⟨⟨by simpa using setAt h6a 1 v6,own_setCell ho6 hv6a,.inr (by simp;omega),?_,?_,?_⟩,?_,htk,by simp [h.len],hF6.setCell (p:=⟨a,1,none⟩) (.inl (by simp)) _,?_⟩,hF5,hl5,hF6⟩
 ·have:=h.log.len
  simp at this ⊢
  omega
 ·have:=h.len
  simp
  omega
 ·intro s hs
  simp only [List.mem_append,List.mem_singleton] at hs
  rcases hs with hs | hs | rfl
  ·exact h.log.seg s (by simp [hs])
  ·exact h.log.seg s (by simp [hs])
  ·omega
 ·have hbb:b ≠ a:=by
   obtain ⟨-,-,c,hh,-⟩:=hsp
   rintro rfl
   exact cells_ty hh hl5.cell (by decide) rfl
  have s6:SpaceAt w6 0 b g (bs'.set kk true):=(hsp.below hbl).keep hgr (fun e => by
   obtain ⟨-,-,c,hh,-⟩:=hsp
   exact own_neq hl5.segs hh (by decide) e) (fun e => hsvg g e rfl)
  exact s6.frame (M:=[a]) ((Frame.refl _ _).setCell (p:=⟨a,1,none⟩) (.inl (by simp)) v6) (by simpa using hbb) (by simpa using hag.symm)
 ·rcases hb6 with h' | h'
  ·rw [h'];exact h.alt
  ·refine .inr (fun j hj => ?_)
   rw [h'] at hj
   simp at hj
   subst hj
   have:=hF5.size
   omega
end Go.Proofs.YtaonlcgneemimaaGreatDoor
namespace Go.Proofs.YtaonlcgneemimaaGreatDoor
open Go.RowKit Go.Shelf
theorem chunk_sl {W:World} {B fg len cap x:Nat} {fB:List Int} (h:W.ownsRow B 5 1 (.slice (some ⟨fg,0,none⟩) len cap) len (u8s fB)) (hx:x < len) :
  Sl W 5 1 (chunkV fg 0 len 54 x) ((fB.drop x).take 54).length (u8s ((fB.drop x).take 54)):=by
 have hl:fB.length = len:=by have:=h.1;simpa [u8s] using this
 have hlen:((fB.drop x).take 54).length = min 54 (len - x):=by simp [hl]
 rcases h.2 with ⟨h1,_⟩ | ⟨g',cap',cur,h1,h2,h3,h4,h5,h6,h7⟩
 ·simp at h1
 ·simp only [Value.slice.injEq,Option.some.injEq,Addr.mk.injEq] at h1
  obtain ⟨⟨rfl,-⟩,-,rfl⟩:=h1
  rw [hlen]
  have hmin:min 54 (len - x) ≤ maxLen:=by unfold maxLen;omega
  have hpos:0 < min 54 (len - x):=by omega
  refine ⟨by simp [u8s,hl],u8s_one' _,.inr ⟨fg,0 + x,min 54 (len - x),cur,rfl,hpos,Nat.le_refl _,hmin,h3,fun j u hj => ?_⟩⟩
  have e1:(u8s ((fB.drop x).take 54))[j]? = ((u8s fB).drop x |>.take 54)[j]?:=by simp [u8s,List.map_drop,List.map_take]
  rw [e1] at hj
  have hj54:j < 54:=by
   by_cases h:j < 54
   ·exact h
   ·rw [List.getElem?_eq_none (by simp;omega)] at hj;cases hj
  rw [List.getElem?_take_of_lt hj54,List.getElem?_drop] at hj
  rw [← h7] at hj
  have hlt:x + j < len * 1:=by
   by_cases h:x + j < len * 1
   ·exact h
   ·rw [List.getElem?_eq_none (by simp;omega)] at hj;cases hj
  rw [List.getElem?_take_of_lt hlt] at hj
  simpa using hj
def AppI (wB:World) (d l cb e e16 k n:Nat) (len:Nat) (pre:List (Off len)) (W:World):Prop :=
 Frame [d,cb,e16,e] wB W ∧ DiskAt W d l cb 776 (k + pre.length) ∧ W.heap[e16]? = some (.cells #[.int .i64 ((n + pre.length:Nat):Int)] 3 (0,0)) ∧ W.heap[e]? = some (.cells #[.int .i64 0] 25 (0,0))
theorem appI_own {wB:World} {d l cb e e16 k n len:Nat} (h1:d < wB.heap.size) (h2:l < wB.heap.size) (h3:cb < wB.heap.size) (h4:e < wB.heap.size) (h5:e16 < wB.heap.size):OwnFrom wB.heap.size (AppI wB d l cb e e16 k n len):=by
 rintro s A B row ⟨hF,hD,h16,he⟩ hg hr
 have hk:∀ j,j < wB.heap.size → B.heap[j]? = A.heap[j]?:=fun j hj => hg.block j (by have:=hF.size;omega) (fun e' => by have:=(hr j e'.symm).1;omega)
 exact ⟨hF.grown hg (fun j hj => .inr (hr j hj).1),hD.same (hk _ h1) (hk _ h2) (hk _ h3),(hk _ h5).trans h16,(hk _ h4).trans he⟩
theorem keepsFrom_of_frame {M:List Nat} {B:Nat} {W W':World} (h:Frame M W W') (hM:∀ x ∈ M,x < B):KeepsFrom B W W' :=
 ⟨h.size,fun k o hB hk _ => h.heap hk (fun hm => by have:=hM k hm;omega)⟩
theorem boxes_of_frame {M:List Nat} {b1 b2:Nat} {W W':World} (h:Frame M W W') (h1:b1 < W.heap.size) (h2:b2 < W.heap.size) (n1:b1 ∉ M) (n2:b2 ∉ M):Boxes b1 b2 W W':=⟨h.block _ h1 n1,h.block _ h2 n2⟩
theorem sector_in {s:Int} (hs:0 ≤ s ∧ s < 96) (at_:Nat):∃ q:Nat,8 + s * 8 + ((at_ % 8:Nat):Int) = q ∧ q < 776:=⟨(8 + s * 8 + ((at_ % 8:Nat):Int)).toNat,by omega,by omega⟩
end Go.Proofs.YtaonlcgneemimaaGreatDoor
namespace Go.Proofs.YtaonlcgneemimaaGreatDoor
open Go.RowKit Go.Shelf
theorem SpaceAt.row {w:World} {base b g:Nat} {bs:List Bool} (h:SpaceAt w base b g bs):∃ arr,w.heap[g]? = some (.cells arr 4 (0,0)):=by
 obtain ⟨-,-,c,-,own⟩:=h
 exact own_heap own rfl
theorem SpaceAt.blk {w:World} {base b g:Nat} {bs:List Bool} (h:SpaceAt w base b g bs):∃ arr,w.heap[b]? = some (.cells arr 212 (0,0)):=by
 obtain ⟨-,-,c,hh,-⟩:=h
 exact ⟨_,hh⟩
theorem app_apart {w:World} {a d' d l cb b g n k m:Nat} {sv:Value} {ss:List Int} {last:Int} {bs:List Bool} (HL:LogAt w a d' sv ss n last) (HD:DiskAt w d l cb m k) (HS:SpaceAt w 0 b g bs) :
  ∀ x ∈ a :: g :: sv.ownBlock.toList,x ≠ d ∧ x ≠ l ∧ x ≠ cb:=by
 obtain ⟨ops,hd⟩:=HD.cell
 obtain ⟨lr,hl,-⟩:=HD.row
 obtain ⟨mn,mf,hm,-⟩:=HD.map
 obtain ⟨gr,hg⟩:=HS.row
 have key:∀ (x t:Nat) arr,w.heap[x]? = some (.cells arr t (0,0)) → t ≠ 64 → t ≠ 33 → x ≠ d ∧ x ≠ l ∧ x ≠ cb:=fun x t arr hx h1 h2 => ⟨cells_ty hx hd h1,cells_ty hx hl h2,by rintro rfl;exact hm.cells hx⟩
 intro x hx
 simp only [List.mem_cons,Option.mem_toList] at hx
 rcases hx with rfl | rfl | hx
 ·exact key _ 227 _ HL.cell (by decide) (by decide)
 ·exact key _ 4 _ hg (by decide) (by decide)
 ·obtain ⟨arr,ha⟩:=own_heap HL.segs hx
  exact key _ 3 _ ha (by decide) (by decide)
def AppPost (w:World) (a d l cb b g k n:Nat) (sv:Value) (ss:List Int) (bs:List Bool) (p:List Int) (e:Ending) (w':World):Prop :=
 e = .returned (.int .i64 0) ∧ ∃ sv' more bs' last',LogAt w' a d sv' (ss ++ more) (n + manyN p.length) last' ∧ DiskAt w' d l cb 776 (k + manyN p.length) ∧ SpaceAt w' 0 b g bs' ∧ Took bs more bs' ∧ more.length = needN ss.length n (manyN p.length) ∧
  Frame (a :: g :: d :: cb :: sv.ownBlock.toList) w w' ∧ (sv'.ownBlock = sv.ownBlock ∨ ∀ j ∈ sv'.ownBlock.toList,w.heap.size ≤ j)
theorem app_close {w w1 wr w7 W:World} {a d l cb b g n k nd e e16 M len:Nat} {sv sv':Value} {ss more:List Int} {last nx:Int} {bs bs':List Bool} {pre:List (Off len)} {p:List Int}
  (HL:LogAt w a d sv ss n last) (HD:DiskAt w d l cb 776 k) (HS:SpaceAt w 0 b g bs) (hb1:Below w.heap.size w w1) (HB:AppB w1 wr a d b g n nd sv ss last bs sv' more bs') (hb7:Below wr.heap.size wr w7)
  (he:w.heap.size ≤ e) (he16:w.heap.size ≤ e16) (he2:e < w1.heap.size) (he3:e16 = wr.heap.size) (hI:AppI w7 d l cb e e16 k n len pre W) (hpre:pre.length = M) (hM:M = manyN p.length) (hnd:nd = needN ss.length n M) :
  AppPost w a d l cb b g k n sv ss bs p (.returned (.int .i64 0)) ((W.setCell ⟨a,2,none⟩ (.int .i64 ((n + M:Nat):Int))).setCell ⟨a,3,none⟩ (.int .u32 nx)):=by
 obtain ⟨hF,hDW,-,-⟩:=hI
 have hap:=app_apart HL HD HS
 have hlog:LogAt w7 a d sv' (ss ++ more) n last:=HB.log.below hb7
 have hsp:SpaceAt w7 0 b g bs':=HB.space.below hb7
 obtain ⟨ops,hd⟩:=HD.cell
 obtain ⟨lr,hl,-⟩:=HD.row
 obtain ⟨mn,mf,hm,-⟩:=HD.map
 have hs1:=hb1.size
 have hs2:=HB.fr.size
 have alt:=HB.alt
 have hdl:=HD.lt
 have hsvB:∀ j,sv'.ownBlock = some j → j ≠ d ∧ j ≠ l ∧ j ≠ cb ∧ j ≠ e ∧ j ≠ e16:=by
  intro j hj
  rcases alt with h' | h'
  ·rw [h'] at hj
   have h1:=hap j (by simp [hj])
   have h2:=(HL.segs.lt j hj).2
   exact ⟨h1.1,h1.2.1,h1.2.2,by omega,by omega⟩
  ·have h1:=h' j (by simp [hj])
   have h2:=(HB.log.segs.lt j hj).2
   exact ⟨by omega,by omega,by omega,by omega,by omega⟩
 have hla:=heap_lt HL.cell
 have hlg:=HS.lt
 have hna:a ∉ [d,cb,e16,e]:=by
  have:=hap a (by simp)
  simp only [List.mem_cons,List.not_mem_nil,or_false]
  omega
 have hng:g ∉ [d,cb,e16,e]:=by
  have:=hap g (by simp)
  simp only [List.mem_cons,List.not_mem_nil,or_false]
  omega
 have hnb:b ∉ [d,cb,e16,e]:=by
  obtain ⟨arr,hb⟩:=HS.blk
  have h1:b ≠ d:=cells_ty hb hd (by decide)
  have h2:b ≠ cb:=by rintro rfl;exact hm.cells hb
  simp only [List.mem_cons,List.not_mem_nil,or_false]
  omega
 have hlW:LogAt W a d sv' (ss ++ more) n last:=hlog.frame hF hna (fun j hj => by
  have:=hsvB j hj
  simp only [List.mem_cons,List.not_mem_nil,or_false]
  omega)
 have hsW:SpaceAt W 0 b g bs':=hsp.frame hF hnb hng
 have hsa:Frame [a] W ((W.setCell ⟨a,2,none⟩ (.int .i64 ((n + M:Nat):Int))).setCell ⟨a,3,none⟩ (.int .u32 nx)):=((Frame.refl _ _).setCell (p:=⟨a,2,none⟩) (.inl (by simp)) _).setCell (p:=⟨a,3,none⟩) (.inl (by simp)) _
 have hane:sv'.ownBlock ≠ some a:=own_neq hlW.segs hlW.cell (by decide)
 have hab:a ≠ b:=by
  obtain ⟨arr,hb⟩:=HS.blk
  exact cells_ty HL.cell hb (by decide)
 have hag:a ≠ g:=by
  obtain ⟨arr,hb⟩:=HS.row
  exact cells_ty HL.cell hb (by decide)
 have had:=hap a (by simp)
 refine ⟨rfl,sv',more,bs',nx,⟨?_,row_kept hlW.segs (fun x o hk hv => hsa.heap hk (by simp;rintro rfl;exact hane hv)),hlW.snil,?_,hlW.few,hlW.seg⟩,?_,hsW.frame hsa (by simpa using hab.symm) (by simpa using hag.symm),HB.took,by rw [HB.len,hnd,hM],?_,?_⟩
 ·have:=setAt (setAt hlW.cell 2 (.int .i64 ((n + M:Nat):Int))) 3 (.int .u32 nx)
  rw [← hM]
  simpa using this
 ·have h1:=HB.len
  rw [List.length_append,h1,hnd,← hM]
  unfold needN
  have:=HL.len
  omega
 ·have h9:DiskAt W d l cb 776 (k + manyN p.length):=by rw [← hM,← hpre];exact hDW
  exact h9.frame hsa (by simpa using had.1.symm) (by simpa using had.2.1.symm) (by simpa using had.2.2.symm)
 ·have f1:Frame (a :: g :: d :: cb :: sv.ownBlock.toList) w w1:=Frame.of_below hb1 _
  have f2:Frame (a :: g :: d :: cb :: sv.ownBlock.toList) w wr:=f1.trans HB.fr (fun x hx => .inl (by simp only [List.mem_cons] at hx ⊢;rcases hx with h | h | h <;> simp [h]))
  have f3:Frame (a :: g :: d :: cb :: sv.ownBlock.toList) w w7:=f2.then_below hb7
  have f4:Frame (a :: g :: d :: cb :: sv.ownBlock.toList) w W:=f3.trans hF (fun x hx => by
   simp only [List.mem_cons,List.not_mem_nil,or_false] at hx
   rcases hx with rfl | rfl | rfl | rfl
   ·exact .inl (by simp)
   ·exact .inl (by simp)
   ·exact .inr he16
   ·exact .inr he)
  exact f4.trans hsa (fun x hx => .inl (by simp at hx;simp [hx]))
 ·rcases alt with h' | h'
  ·exact .inl h'
  ·exact .inr (fun j hj => Nat.le_trans hs1 (h' j hj))
end Go.Proofs.YtaonlcgneemimaaGreatDoor
namespace Go.Proofs.YtaonlcgneemimaaGreatDoor
open Go.RowKit Go.Shelf
attribute [local go_sem] Oper.semAt_some
theorem zip_one (p:Tmp) (t:Array Value) (v:Value):((#[p]:Array Tmp).zip #[v]).foldl (fun t (p,v) => t.setIfInBounds p v) t = t.setIfInBounds p v:=by
 simp
theorem assign_region {id s d l n:Nat} {ty:TypeId} {ps:String} {P:Program} {Q:Exit → Act → World → Prop} {t:Array Value} {W:World} (v:Value) (hv:t[s]? = some v)
  (h:Q .normal { tmps:=t.setIfInBounds d v,defers:=[] } W) :
  (Code.region id #[{ dst:=some d,op:=Op.assign (Operand.tmp s),type:=ty,pos:=ps,after:=#[],guard:=none }] false).wpIn (Fence.wide.inRound l) n P Q { tmps:=t,defers:=[] } W:=by
 have h2:=Lib.hid h
 clear h
 have hv2:=Lib.hid hv
 clear hv
 gi_wp2
 have hv:=hv2.out
 have h3:=h2.out
 rw [hv]
 exact h3
end Go.Proofs.YtaonlcgneemimaaGreatDoor
namespace Go.Proofs.YtaonlcgneemimaaGreatDoor
open Go.RowKit Go.Shelf
theorem app_logW {w w1 wr w7 W:World} {a d l cb b g n k nd e e16:Nat} {sv sv':Value} {ss more:List Int} {last:Int} {bs bs':List Bool}
  (HL:LogAt w a d sv ss n last) (HD:DiskAt w d l cb 776 k) (HS:SpaceAt w 0 b g bs) (hb1:Below w.heap.size w w1) (HB:AppB w1 wr a d b g n nd sv ss last bs sv' more bs') (hb7:Below wr.heap.size wr w7)
  (he:w.heap.size ≤ e) (he16:w.heap.size ≤ e16) (he2:e < w1.heap.size) (he3:e16 = wr.heap.size) (hF:Frame [d,cb,e16,e] w7 W):LogAt W a d sv' (ss ++ more) n last:=by
 have hap:=app_apart HL HD HS
 have hlog:LogAt w7 a d sv' (ss ++ more) n last:=HB.log.below hb7
 have hs1:=hb1.size
 have hs2:=HB.fr.size
 have alt:=HB.alt
 have hdl:=HD.lt
 have hsvB:∀ j,sv'.ownBlock = some j → j ≠ d ∧ j ≠ l ∧ j ≠ cb ∧ j ≠ e ∧ j ≠ e16:=by
  intro j hj
  rcases alt with h' | h'
  ·rw [h'] at hj
   have h1:=hap j (by simp [hj])
   have h2:=(HL.segs.lt j hj).2
   exact ⟨h1.1,h1.2.1,h1.2.2,by omega,by omega⟩
  ·have h1:=h' j (by simp [hj])
   have h2:=(HB.log.segs.lt j hj).2
   exact ⟨by omega,by omega,by omega,by omega,by omega⟩
 have hla:=heap_lt HL.cell
 have hna:a ∉ [d,cb,e16,e]:=by
  have:=hap a (by simp)
  simp only [List.mem_cons,List.not_mem_nil,or_false]
  omega
 exact hlog.frame hF hna (fun j hj => by
  have:=hsvB j hj
  simp only [List.mem_cons,List.not_mem_nil,or_false]
  omega)
theorem app_sector {W:World} {a d n nd m M:Nat} {sv':Value} {ss more:List Int} {last:Int} (h:LogAt W a d sv' (ss ++ more) n last) (hl:more.length = nd) (hm:m < M) (hN:n + M ≤ 8 * (ss.length + nd)) :
  ∃ q:Nat,q < 776 ∧ ∀ W',Below W.heap.size W W' → Calls Tryz.prog 163 #[.pointer (some ⟨a,0,none⟩),.int .i64 ((n + m:Nat):Int)] W' fun e w' => e = .returned (.int .i64 q) ∧ w' = W':=by
 have hlt:(n + m) / 8 < (ss ++ more).length:=by simp [hl];omega
 obtain ⟨s,hs⟩:∃ s,(ss ++ more)[(n + m) / 8]? = some s:=⟨_,List.getElem?_eq_getElem hlt⟩
 obtain ⟨q,hq,hq2⟩:=sector_in (h.seg s (List.mem_of_getElem? hs)) (n + m)
 refine ⟨q,hq2,fun W' hb => ?_⟩
 rw [← hq]
 exact sector_any W' a d n sv' _ last (h.below hb) (n + m) s hs
end Go.Proofs.YtaonlcgneemimaaGreatDoor
namespace Go.Proofs.YtaonlcgneemimaaGreatDoor
open Go.RowKit Go.Shelf
theorem AppPost.keep {w w1 w2:World} {a d l cb b g k n x:Nat} {sv:Value} {ss:List Int} {bs:List Bool} {p:List Int} {e:Ending} (h:AppPost w a d l cb b g k n sv ss bs p e w1) (hlt:a < w.heap.size ∧ d < w.heap.size ∧ l < w.heap.size ∧ cb < w.heap.size ∧ b < w.heap.size ∧ g < w.heap.size)
  (hf:Frame [x] w1 w2) (hx:w.heap.size ≤ x) (hne:∀ arr,w1.heap[x]? ≠ some (.cells arr 3 (0,0))):AppPost w a d l cb b g k n sv ss bs p e w2:=by
 obtain ⟨he,sv',more,bs',last',h1,h2,h3,h4,h5,h6,h7⟩:=h
 refine ⟨he,sv',more,bs',last',h1.frame hf (by simp;omega) (fun j hj => ?_),h2.frame hf (by simp;omega) (by simp;omega) (by simp;omega),h3.frame hf (by simp;omega) (by simp;omega),h4,h5,h6.trans hf (fun y hy => by simp at hy;subst hy;exact .inr hx),h7⟩
 obtain ⟨arr,ha⟩:=own_heap h1.segs hj
 simp only [List.mem_singleton]
 rintro rfl
 exact hne arr ha
theorem frame_putObj (W:World) (x:Nat) (o:Obj):Frame [x] W (W.putObj x o) :=
 (Frame.refl _ _).grown (grownBy_putObj' W x o) (by rintro j hj;cases hj;exact .inl (by simp))
theorem frame_setCell (W:World) (p:Addr) (u:Value):Frame [p.block] W (W.setCell p u):=(Frame.refl _ _).setCell (.inl (by simp)) u
end Go.Proofs.YtaonlcgneemimaaGreatDoor
