/- TopBatches: the contracts of W1; no condition. -/
import Derived.Test.YtaonlcgneemimaaGreatDoorB17
import Derived.Test.YtaonlcgneemimaaGreatDoorB10
namespace Go.Proofs
open Go.RowKit Go.Maps Go.Sort Go.Shelf
set_option maxHeartbeats 1000000 in
theorem Tryz.paths_raw {H:Type} (a b nn:Nat) (D0:DataW H) (R:Value → Option (DataW H × List MemPlace)) (w:World) (hcell:w.cell? ⟨a,0,none⟩ = some (.map (some b))) (hown:w.ownsMap Tryz.prog 9 R b nn D0) (hmax:Maps.size D0 ≤ maxLen) (hbytes:Maps.size D0 * 16 ≤ 140737488355328) :
  Calls Tryz.prog 43 #[.pointer (some ⟨a,0,none⟩)] w fun e w' => ∃ (v:Value) (ss:List (List UInt8)),e = .returned v ∧ ss.Perm (strKeys D0) ∧
   w'.ownsRow w.heap.size 9 1 v ss.length ((ss.mergeSort (fun x y => decide (x ≤ y))).map encStr) ∧ (v = .slice none 0 0 ↔ ss = []) ∧ Below w.heap.size w w':=by
 refine (callsIn_wide (n:=6)).1 ?_
 have hfK:Fence.wide.fn 86:=trivial
 have hfS:Fence.wide.fn 85:=trivial
 refine callsIn_of_wp Tryz.func43 rfl trivial ?_ rfl
 simp only [Tryz.ntmps43,List.size_toArray,List.length_cons,List.length_nil,Nat.reduceAdd,Nat.reduceSub,Array.replicate_succ,Array.replicate_zero,List.push_toArray,List.append_toArray,List.nil_append,List.cons_append]
 gi_wp2_with (first
  | (gi_at_call 86;refine (Tryz.maps_Keys_86 _ _).mono ?_;rintro e w' ⟨rfl,rfl⟩)
  | (gi_at_call 85;refine (Tryz.slices_Sorted_keys_85_86 b nn D0 R w hown hmax hbytes).mono ?_;rintro e w' ⟨v,ss,rfl,hS,hrow,hnil,hb⟩))
 go_ret
 exact ⟨v,ss,rfl,hS,ownsRow_base_a hrow (by simp),hnil,((Below.refl _ w).alloc (Nat.le_refl _) _).trans (hb.mono (by simp))⟩
end Go.Proofs
namespace Go.Proofs.YtaonlcgneemimaaGreatDoor
open Go.RowKit
open Go.Maps (Keyed)
theorem strKeys_has {H:Type} {D:DataW H} {x:List UInt8} {P:Program} {R:Value → Option (DataW H × List MemPlace)} {w:World} {b n:Nat} (hown:w.ownsMap P 9 R b n D) (hk:P.underlying 9 = some .string):x ∈ strKeys D ↔ Maps.has D (.string x) = true:=by
 obtain ⟨es,rfl,hko⟩:=hown.keysOf
 constructor
 ·intro hx
  obtain ⟨p,hp,rfl⟩:=List.mem_map.1 hx
  obtain ⟨v,hv⟩:=hko p hp
  obtain ⟨y,_,hy,hl⟩:=Maps.keyOf_str hk hv
  refine List.any_eq_true.2 ⟨p,hp,?_⟩
  rw [hy]
  simp [Lit.sameKey,strOf]
 ·intro hx
  obtain ⟨p,hp,he⟩:=List.any_eq_true.1 hx
  obtain ⟨v,hv⟩:=hko p hp
  obtain ⟨y,_,hy,hl⟩:=Maps.keyOf_str hk hv
  rw [hy] at he
  refine List.mem_map.2 ⟨p,hp,?_⟩
  rw [hy]
  simpa [Lit.sameKey,strOf] using he
def strsC (ps:List ByteArray):List Value:=ps.map .string
end Go.Proofs.YtaonlcgneemimaaGreatDoor
