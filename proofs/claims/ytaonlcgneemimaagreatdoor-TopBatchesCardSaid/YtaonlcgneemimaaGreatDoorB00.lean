/- TopBatches: the contracts of Z2; no condition. -/
import Derived.Laws.Bits
namespace Go.Proofs.YtaonlcgneemimaaGreatDoor
def cutHs (h b:Int):Int:=((h * 31 % 4294967296 + b % 4294967296) % 4294967296 + 1) % 4294967296
def cutHash (l:List Int) (i:Nat):Int:=((l.take (i + 1)).drop (i + 1 - 8)).foldl cutHs 0
def cutGood (l:List Int) (i:Nat):Bool:=bits BinOp.and IntKind.u32 (cutHash l i / 65536) 15 == 0
def cutFrom (s:List Int) (k:Nat):Nat :=
 match (List.range' k (min s.length 64 - k)).find? (cutGood s) with
 | some i => i + 1
 | none => min s.length 64
def cutPl (s:List Int):Nat:=cutFrom s 7
theorem cutHs_range (h b:Int):0 ≤ cutHs h b ∧ cutHs h b < 4294967296:=by unfold cutHs;omega
theorem cutFold_range (l:List Int):0 ≤ l.foldl cutHs 0 ∧ l.foldl cutHs 0 < 4294967296:=by
 rcases List.eq_nil_or_concat l with rfl | ⟨l',b,rfl⟩
 ·simp
 ·simp [List.foldl_append];exact cutHs_range _ _
theorem cutHash_range (l:List Int) (i:Nat):0 ≤ cutHash l i ∧ cutHash l i < 4294967296:=cutFold_range _
theorem cutHash_drop (l:List Int) (f i:Nat) (h:7 ≤ i):cutHash l (f + i) = cutHash (l.drop f) i:=by
 unfold cutHash
 congr 1
 rw [show f + i + 1 - 8 = f + (i + 1 - 8) by omega,List.take_drop,List.drop_drop]
 congr 2
theorem cutGood_drop (l:List Int) (f i:Nat) (h:7 ≤ i):cutGood l (f + i) = cutGood (l.drop f) i:=by unfold cutGood;rw [cutHash_drop _ _ _ h]
theorem cutHash_step (l:List Int) (k0 k:Nat) (x:Int) (h0:k0 ≤ k) (h:l[k]? = some x):((l.take (k + 1)).drop k0).foldl cutHs 0 = cutHs (((l.take k).drop k0).foldl cutHs 0) x:=by
 obtain ⟨h1,h2⟩:=List.getElem?_eq_some_iff.1 h
 rw [List.take_succ_eq_append_getElem h1,List.drop_append_of_le_length (by simp;omega),List.foldl_append,h2]
 simp
theorem cutFrom_step (s:List Int) (k:Nat) (h:k < min s.length 64):cutFrom s k = if cutGood s k then k + 1 else cutFrom s (k + 1):=by
 unfold cutFrom
 obtain ⟨n,hn⟩:∃ n,min s.length 64 - k = n + 1:=⟨min s.length 64 - k - 1,by omega⟩
 rw [hn,List.range'_succ,List.find?_cons,show min s.length 64 - (k + 1) = n by omega]
 cases cutGood s k <;> simp
theorem cutFrom_end (s:List Int) (k:Nat) (h:min s.length 64 ≤ k):cutFrom s k = min s.length 64:=by
 unfold cutFrom
 rw [show min s.length 64 - k = 0 by omega];rfl
theorem cutPl_bounds (s:List Int):cutPl s ≤ s.length ∧ cutPl s ≤ 64 ∧ (8 ≤ cutPl s ∨ cutPl s = s.length):=by
 unfold cutPl cutFrom
 split
 ·rename_i i hi
  have:=List.mem_of_find?_eq_some hi
  simp [List.mem_range'_1] at this
  omega
 ·omega
theorem cutPl_pos (s:List Int) (h:0 < s.length):0 < cutPl s:=by
 have:=cutPl_bounds s
 omega
def cutL (s:List Int):List (List Int) :=
 if _h:0 < s.length then s.take (cutPl s) :: cutL (s.drop (cutPl s)) else []
termination_by s.length
decreasing_by have:=cutPl_pos s _h;simp;omega
theorem cutL_cons (s:List Int) (h:0 < s.length):cutL s = s.take (cutPl s) :: cutL (s.drop (cutPl s)):=by rw [cutL];simp [h]
theorem cutL_nil (s:List Int) (h:s.length = 0):cutL s = []:=by rw [cutL];simp [h]
theorem cutL_all (s:List Int):(cutL s).flatten = s ∧ (∀ p ∈ cutL s,0 < p.length ∧ p.length ≤ 64) ∧ (cutL s).length ≤ (s.length + 7) / 8:=by
 induction hn:s.length using Nat.strongRecOn generalizing s with
 | _ n ih =>
  by_cases h:0 < s.length
  ·rw [cutL_cons s h]
   have hb:=cutPl_bounds s
   have hp:=cutPl_pos s h
   obtain ⟨h1,h2,h3⟩:=ih (s.drop (cutPl s)).length (by simp;omega) _ rfl
   refine ⟨by rw [List.flatten_cons,h1,List.take_append_drop],fun p hpm => ?_,?_⟩
   ·rcases List.mem_cons.1 hpm with rfl | hpm
    ·simp;omega
    ·exact h2 p hpm
   ·simp at h3 ⊢
    omega
  ·rw [cutL_nil s (by omega)]
   have:s = []:=List.eq_nil_of_length_eq_zero (by omega)
   subst this
   simp
end Go.Proofs.YtaonlcgneemimaaGreatDoor
