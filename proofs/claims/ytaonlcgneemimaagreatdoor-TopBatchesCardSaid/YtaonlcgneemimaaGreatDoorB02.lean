/- TopBatches: the contracts of Q1, Q2, Q3; no condition. -/
import Derived.Test.YtaonlcgneemimaaGreatDoorChecked
import Derived.RowKit
import Derived.WalkKit
import Derived.Deep.QuietTactic
import Derived.BigQuiet
import Derived.Lib.Hide
import Derived.Maps.AppendAt
import Derived.Maps.OwnRows
import Derived.OwnWalk
import Derived.RangeFuncBox
namespace Go
end Go
open Go.RowKit
namespace Go.Proofs.YtaonlcgneemimaaGreatDoor
open Go.RowKit
theorem info5:(Tryz.prog.info? 5).map (fun i => (i.zero,i.size,i.bytes)) = some (some (.int .u8 0),1,1):=by kernel_rfl
def u8s (l:List Int):List Value:=l.map (Value.int .u8)
theorem u8s_one (l:List Int):∀ u ∈ u8s l,u.oneCell' = true:=by
 intro u hu
 obtain ⟨x,_,rfl⟩:=List.mem_map.1 hu
 rfl
theorem u8s_append (a b:List Int):u8s (a ++ b) = u8s a ++ u8s b:=by simp [u8s]
theorem own_ne {w:World} {B e size n a t:Nat} {v u:Value} {xs:List Value} (h:w.ownsRow B e size v n xs) (ha:w.heap[a]? = some (.cells #[u] t (0,0))) (ht:e ≠ t):v.ownBlock ≠ some a:=by
 rcases h.2 with ⟨rfl,_⟩ | ⟨g,cap,cur,rfl,_,hg,_⟩
 ·simp [Value.ownBlock]
 ·intro e
  simp only [Value.ownBlock,Option.some.injEq] at e
  subst e
  rw [ha] at hg
  injection hg with hg
  injection hg with _ h2
  exact ht h2.symm
theorem cell_of_heap {w:World} {a t:Nat} {v:Value} (h:w.heap[a]? = some (.cells #[v] t (0,0))):w.cell? ⟨a,0,none⟩ = some v:=by unfold World.cell?;simp only [h];rfl
theorem frozen_of_heap {w:World} {a t:Nat} {v:Value} (h:w.heap[a]? = some (.cells #[v] t (0,0))):w.frozen? ⟨a,0,none⟩ = false:=by unfold World.frozen?;simp [h]
theorem heap_setCell_one {w:World} {a t:Nat} {v:Value} (h:w.heap[a]? = some (.cells #[v] t (0,0))) (u:Value):(w.setCell ⟨a,0,none⟩ u).heap[a]? = some (.cells #[u] t (0,0)):=by
 unfold World.setCell
 simp [Array.getElem?_modify,h]
def PenAt (w:World) (B a:Nat) (l:List Int):Prop :=
 ∃ v,w.heap[a]? = some (.cells #[v] 197 (0,0)) ∧ w.ownsRow B 5 1 v l.length (u8s l) ∧ B ≤ a ∧ v.oneCell' = true
def PenKeep (a:Nat) (w w':World):Prop:=∀ (k:Nat) (o:Obj),w.heap[k]? = some o → k ≠ a → (∀ arr,o ≠ .cells arr 5 (0,0)) → w'.heap[k]? = some o
theorem PenKeep.refl (a:Nat) (w:World):PenKeep a w w:=fun _ _ h _ _ => h
theorem PenKeep.trans {a:Nat} {w w1 w2:World} (h:PenKeep a w w1) (k:PenKeep a w1 w2):PenKeep a w w2:=fun i o h1 h2 h3 => k i o (h i o h1 h2 h3) h2 h3
theorem own_not {w:World} {B e size n k:Nat} {v:Value} {xs:List Value} {o:Obj} (h:w.ownsRow B e size v n xs) (hk:w.heap[k]? = some o) (ho:∀ arr,o ≠ .cells arr e (0,0)):v.ownBlock ≠ some k:=by
 rcases h.2 with ⟨rfl,_⟩ | ⟨g,cap,cur,rfl,_,hg,_⟩
 ·simp [Value.ownBlock]
 ·intro e1
  simp only [Value.ownBlock,Option.some.injEq] at e1
  subst e1
  rw [hk] at hg
  injection hg with hg
  exact ho _ hg
set_option maxRecDepth 100000 in
set_option maxHeartbeats 400000 in
theorem byte_k (B a:Nat) (l:List Int) (x:Int) (hl:l.length ≤ 1000000) (w:World) (h:PenAt w B a l) :
  Calls Tryz.prog 109 #[.pointer (some ⟨a,0,none⟩),.int .u8 x] w fun e w' => e = .returned (.tuple #[]) ∧ PenAt w' B a (l ++ [x]) ∧ Below B w w' ∧ PenKeep a w w':=by
 obtain ⟨v,ha,hown,hBa,hv1⟩:=h
 obtain ⟨i0,hi,hz0,hz1,hz2⟩:=info_parts info5
 have hlt:a < w.heap.size:=(Array.getElem?_eq_some_iff.1 ha).1
 have hc:w.cell? ⟨a,0,none⟩ = some v:=by unfold World.cell?;simp only [ha];rfl
 have HO:=Lib.hid hown
 have HA:=Lib.hid ha
 clear hown ha
 go_enter Tryz.func109,Tryz.ntmps109
 have hne:v.ownBlock ≠ some a:=own_ne HO.out HA.out (by decide)
 have HNE:=Lib.hid hne
 clear hne
 go_wp2_with (at_builtin;refine wpList_append_own_at _ rfl _ _ 33 rfl B 5 i0 (.int .u8 0) 1 1 Tryz.underlying33 hi hz0 hz1 hz2 rfl (by decide) v l.length (u8s l) rfl (HO.out.alloc _) ⟨w.heap.size,0,none⟩ 1 1 [.int .u8 x] rfl rfl (cell_one_new _ _ _) (by simp [Value.oneCell']) (by unfold maxLen;omega) (by omega) (by simp;omega) ?_;intro v' w1 hown' hgrow hnil hloc;obtain ⟨g',cap',rfl⟩:=ownsRow_succ hown';have HO1:=Lib.hid hown';have HG1:=Lib.hid hgrow;have HA1:=Lib.hid ((hgrow.block a (by simp;omega) (fun e => HNE.out e.symm)).trans (((MapKept.heap_alloc w _).2 a hlt).trans HA.out));have ha1:w1.cell? ⟨a,0,none⟩ = some v:=cell_of_heap HA1.out;have hf1:w1.frozen? ⟨a,0,none⟩ = false:=frozen_of_heap HA1.out;clear hown' hgrow hnil hloc)
 go_end0
 refine ⟨rfl,⟨.slice (some ⟨g',0,none⟩) (l.length + 1) cap',?_,?_,hBa,rfl⟩,?_,?_⟩
 ·exact heap_setCell_one HA1.out _
 ·have h1:=own_ne HO1.out HA1.out (by decide)
  have h2:=HO1.out.kept (grownBy_setCell' w1 a (.slice (some ⟨g',0,none⟩) (l.length + 1) cap')) (.inr h1)
  rw [u8s_append]
  simpa [u8s] using h2
 ·exact ((((Below.refl B w).alloc (by omega) _).grown HG1.out (by simp;omega) (fun k hk => (HO.out.lt k hk).1))).setCell (p:=⟨a,0,none⟩) hBa _
 ·intro k o hk hne hno
  rw [Below.heap_setCell _ _ _ _ hne,HG1.out.block k (by have:=(Array.getElem?_eq_some_iff.1 hk).1;simp;omega) (fun e => own_not HO.out hk hno e.symm),Below.heap_alloc w _ k (Array.getElem?_eq_some_iff.1 hk).1]
  exact hk
end Go.Proofs.YtaonlcgneemimaaGreatDoor
namespace Go.Proofs.YtaonlcgneemimaaGreatDoor
open Go.RowKit
def numB (n:Nat):List Int:=if n < 128 then [(n:Int)] else ((n % 128 + 128:Nat):Int) :: numB (n / 128)
termination_by n
decreasing_by omega
theorem numB_lo {n:Nat} (h:n < 128):numB n = [(n:Int)]:=by rw [numB,if_pos h]
theorem numB_hi {n:Nat} (h:128 ≤ n):numB n = ((n % 128 + 128:Nat):Int) :: numB (n / 128):=by rw [numB,if_neg (by omega)]
theorem numB_len:∀ (f n:Nat),n < 128 ^ (f + 1) → (numB n).length ≤ f + 1
 | 0,n,h => by rw [numB_lo (by simpa using h)];simp
 | f + 1,n,h => by
  by_cases h1:n < 128
  ·rw [numB_lo h1];simp
  ·rw [numB_hi (by omega)]
   have:=numB_len f (n / 128) (by rw [Nat.div_lt_iff_lt_mul (by decide)];rw [Nat.pow_succ] at h;exact h)
   simp;omega
set_option maxRecDepth 100000 in
theorem or128 (m:Fin 256):bits BinOp.or IntKind.u8 (m.1:Int) 128 = ((m.1 % 128 + 128:Nat):Int):=by
 revert m;decide
theorem or128' (k:Nat):bits BinOp.or IntKind.u8 ((k:Int) % 256) 128 = ((k % 128 + 128:Nat):Int):=by
 have h:=or128 ⟨k % 256,Nat.mod_lt _ (by decide)⟩
 simp only at h
 rw [show ((k:Int) % 256) = ((k % 256:Nat):Int) by omega,h]
 omega
set_option maxRecDepth 100000 in
set_option maxHeartbeats 1000000 in
theorem num_k (B a:Nat) (l:List Int) (n:Nat) (hn:n ≤ 9223372036854775807) (hl:l.length ≤ 900000) (w:World) (h:PenAt w B a l) :
  Calls Tryz.prog 110 #[.pointer (some ⟨a,0,none⟩),.int .i64 n] w fun e w' => e = .returned (.tuple #[]) ∧ PenAt w' B a (l ++ numB n) ∧ Below B w w' ∧ PenKeep a w w':=by
 have HP:=Lib.hid h
 clear h
 go_enter Tryz.func110,Tryz.ntmps110
 go_wp2
 go_loopw [1] (fun t wr => ∃ k:Nat,∃ pre,k ≤ 9223372036854775807 ∧ t = .int .i64 k ∧ Hid (numB n = pre ++ numB k) ∧ Hid (PenAt wr B a (l ++ pre)) ∧ Hid (Below B w wr ∧ PenKeep a w wr)) (fun t _ => (intOf t).toNat)
 case atStart => exact ⟨n,[],by omega,by simp,rfl,by simpa using HP,⟨Below.refl _ _,PenKeep.refl _ _⟩⟩
 case round =>
  obtain ⟨k,pre,hk,rfl,hnum,hpen,hbel⟩:=hrel
  have hlen:(l ++ pre).length ≤ 1000000:=by
   have h1:=numB_len 8 n (by omega)
   rw [hnum.out] at h1
   simp at h1 ⊢
   omega
  have HL:=Lib.hid hlen
  clear hlen
  by_cases hlt:128 ≤ k
  ·have d:decide (128 ≤ (k:Int)) = true:=by simp;omega
   go_wp2_with (go_at_call 109;refine (byte_k B a _ _ HL.out _ hpen.out).mono ?_;rintro e w1 ⟨rfl,hq,hb,hk⟩;have HQ:=Lib.hid hq;have HB:=Lib.hid hb;have HK:=Lib.hid hk;clear hq hb hk)
   go_roundw
   case rel =>
    refine ⟨k / 128,pre ++ [((k % 128 + 128:Nat):Int)],by omega,by go_num,?_,?_,⟨hbel.out.1.trans HB.out,hbel.out.2.trans HK.out⟩⟩
    ·show numB n = _
     rw [hnum.out,numB_hi hlt];simp
    ·have h:=HQ.out
     rw [or128'] at h
     show PenAt _ _ _ _
     rw [← List.append_assoc];exact h
   case measure => simp [intOf];omega
  ·have d:decide (128 ≤ (k:Int)) = false:=by simp;omega
   have hk2:numB k = [(k:Int)]:=numB_lo (by omega)
   go_wp2_with (go_at_call 109;refine (byte_k B a _ _ HL.out _ hpen.out).mono ?_;rintro e w1 ⟨rfl,hq,hb,hk⟩;have HQ:=Lib.hid hq;have HB:=Lib.hid hb;have HK:=Lib.hid hk;clear hq hb hk)
   go_end0
   refine ⟨rfl,?_,⟨hbel.out.1.trans HB.out,hbel.out.2.trans HK.out⟩⟩
   rw [hnum.out,hk2,← List.append_assoc]
   exact HQ.out
theorem num_any (B a:Nat) (l:List Int) (n:Nat) (hn:n ≤ 9223372036854775807) (hl:l.length ≤ 900000) (w:World) (h:PenAt w B a l) :
  Calls Tryz.prog 110 #[.pointer (some ⟨a,0,none⟩),.int .i64 n] w fun e w' => e = .returned (.tuple #[]) ∧ PenAt w' B a (l ++ numB n) ∧ Below B w w':=(num_k B a l n hn hl w h).mono fun _ _ h => ⟨h.1,h.2.1,h.2.2.1⟩
end Go.Proofs.YtaonlcgneemimaaGreatDoor
namespace Go.Proofs.YtaonlcgneemimaaGreatDoor
open Go.RowKit
def leB:Nat → Nat → List Int
 | 0,_ => []
 | k + 1,n => ((n % 256:Nat):Int) :: leB k (n / 256)
theorem run_fbits (n:Nat) (w:World):Sem.run Tryz.prog (callFunc 41 #[.float .f64 n]) w = .ok (.value (.int .u64 n)) w:=by
 rw [run_callFunc_extern Tryz.func41 (by kernel_rfl) (by kernel_rfl) (e:=Extern.MathFloatBits.float64bits) (by kernel_rfl) (by kernel_rfl)]
 rfl
set_option maxRecDepth 100000 in
set_option maxHeartbeats 1000000 in
theorem float_k (B a:Nat) (l:List Int) (n:Nat) (hn:n < 18446744073709551616) (hl:l.length ≤ 900000) (w:World) (h:PenAt w B a l) :
  Calls Tryz.prog 111 #[.pointer (some ⟨a,0,none⟩),.float .f64 n] w fun e w' => e = .returned (.tuple #[]) ∧ PenAt w' B a (l ++ leB 8 n) ∧ Below B w w' ∧ PenKeep a w w':=by
 have HP:=Lib.hid h
 clear h
 go_enter Tryz.func111,Tryz.ntmps111
 have hfb:=run_fbits n
 go_wp2
 go_loopw [4,7] (fun t i wr => ∃ j k:Nat,∃ pre,j ≤ 8 ∧ k < 18446744073709551616 ∧ t = .int .u64 k ∧ i = .int .i64 j ∧ Hid (pre.length = j ∧ leB 8 n = pre ++ leB (8 - j) k) ∧ Hid (PenAt wr B a (l ++ pre)) ∧ Hid (Below B w wr ∧ PenKeep a w wr)) (fun _ i _ => 8 - (intOf i).toNat)
 case atStart => exact ⟨0,n,[],by omega,hn,rfl,rfl,⟨rfl,rfl⟩,by simpa using HP,⟨Below.refl _ _,PenKeep.refl _ _⟩⟩
 case round =>
  obtain ⟨j,k,pre,hj,hk,rfl,rfl,hnum,hpen,hbel⟩:=hrel
  have hlen:(l ++ pre).length ≤ 1000000:=by have:=hnum.out.1;simp;omega
  have HL:=Lib.hid hlen
  clear hlen
  by_cases hlt:j < 8
  ·go_wp2_with (go_at_call 109;refine (byte_k B a _ _ HL.out _ hpen.out).mono ?_;rintro e w1 ⟨rfl,hq,hb,hk2⟩;have HQ:=Lib.hid hq;have HB:=Lib.hid hb;have HK:=Lib.hid hk2;clear hq hb hk2)
   go_roundw
   case rel =>
    refine ⟨j + 1,k / 256,pre ++ [((k % 256:Nat):Int)],by omega,by omega,by go_num,by go_num,⟨by simp [hnum.out.1],?_⟩,?_,⟨hbel.out.1.trans HB.out,hbel.out.2.trans HK.out⟩⟩
    ·rw [hnum.out.2,show 8 - j = (8 - (j + 1)) + 1 by omega];simp [leB]
    ·have h:=HQ.out
     show PenAt _ _ _ _
     rw [← List.append_assoc];exact h
   case measure => simp [intOf];omega
  ·obtain rfl:j = 8:=by omega
   go_wp2
   go_end0
   refine ⟨rfl,?_,hbel.out⟩
   rw [hnum.out.2];simp [leB];exact hpen.out
end Go.Proofs.YtaonlcgneemimaaGreatDoor
