/- TopBatches: the contracts of M3; no condition. -/
import Derived.Shelf.SlMaps.Clone
import Derived.Test.YtaonlcgneemimaaGreatDoorB13
namespace Go.Proofs.YtaonlcgneemimaaGreatDoor
open Go.RowKit
set_option maxRecDepth 100000 in
set_option maxHeartbeats 2000000 in
theorem mapClone62_any (w:World) (b:Nat) (es:Array MapEntry) (clock:Nat) (hb:w.heap[b]? = some (.map es clock)) :
  Calls Tryz.prog 56 #[.map (some b)] w fun e w' => e = .returned (.map (some w.heap.size)) ∧ w' = w.alloc (.map es clock):=by
 have hq:=fun w => run_eql_map_nil_sl (P:=Tryz.prog) w 62 3 33 (some b) Tryz.underlying62
 go_enter Tryz.func56,Tryz.ntmps56
 go_wp2
 rw [run_callFunc_extern Tryz.func102 (by kernel_rfl) (by kernel_rfl) (by kernel_rfl) (e:=Extern.MapsClone.clone) (by kernel_rfl),run_maps_clone_sl w 62 hb]
 simp only [Result.andThen]
 rw [Oper.upon_value]
 go_wp2
 rw [run_typeAssert_map_sl _ 62 20 3 33 _ Tryz.underlying62]
 simp only [Result.andThen]
 rw [Oper.upon_value]
 go_wp2
 go_ret
 exact ⟨rfl,rfl⟩
set_option maxRecDepth 100000 in
set_option maxHeartbeats 2000000 in
theorem mapClone166_any (w:World) (b:Nat) (es:Array MapEntry) (clock:Nat) (hb:w.heap[b]? = some (.map es clock)) :
  Calls Tryz.prog 133 #[.map (some b)] w fun e w' => e = .returned (.map (some w.heap.size)) ∧ w' = w.alloc (.map es clock):=by
 have hq:=fun w => run_eql_map_nil_sl (P:=Tryz.prog) w 166 9 168 (some b) Tryz.underlying166
 go_enter Tryz.func133,Tryz.ntmps133
 go_wp2
 rw [run_callFunc_extern Tryz.func102 (by kernel_rfl) (by kernel_rfl) (by kernel_rfl) (e:=Extern.MapsClone.clone) (by kernel_rfl),run_maps_clone_sl w 166 hb]
 simp only [Result.andThen]
 rw [Oper.upon_value]
 go_wp2
 rw [run_typeAssert_map_sl _ 166 20 9 168 _ Tryz.underlying166]
 simp only [Result.andThen]
 rw [Oper.upon_value]
 go_wp2
 go_ret
 exact ⟨rfl,rfl⟩
set_option maxRecDepth 100000 in
set_option maxHeartbeats 2000000 in
theorem mapClone119_any (w:World) (b:Nat) (es:Array MapEntry) (clock:Nat) (hb:w.heap[b]? = some (.map es clock)) :
  Calls Tryz.prog 168 #[.map (some b)] w fun e w' => e = .returned (.map (some w.heap.size)) ∧ w' = w.alloc (.map es clock):=by
 have hq:=fun w => run_eql_map_nil_sl (P:=Tryz.prog) w 119 3 100 (some b) Tryz.underlying119
 go_enter Tryz.func168,Tryz.ntmps168
 go_wp2
 rw [run_callFunc_extern Tryz.func102 (by kernel_rfl) (by kernel_rfl) (by kernel_rfl) (e:=Extern.MapsClone.clone) (by kernel_rfl),run_maps_clone_sl w 119 hb]
 simp only [Result.andThen]
 rw [Oper.upon_value]
 go_wp2
 rw [run_typeAssert_map_sl _ 119 20 3 100 _ Tryz.underlying119]
 simp only [Result.andThen]
 rw [Oper.upon_value]
 go_wp2
 go_ret
 exact ⟨rfl,rfl⟩
theorem MapX.cloned {α:Type} {P:Program} {kt:TypeId} {K:KeyKind P kt α} {w:World} {b n:Nat} {f:α → Option Value} {es:Array MapEntry} {clock:Nat} (h:MapX K w b n f) (hb:w.heap[b]? = some (.map es clock)):MapX K (w.alloc (.map es clock)) w.heap.size n f:=by
 obtain ⟨D,⟨es',c',hb',hr⟩,hf⟩:=h
 rw [hb] at hb'
 cases hb'
 exact ⟨D,⟨es,clock,heap_new w _,hr⟩,hf⟩
end Go.Proofs.YtaonlcgneemimaaGreatDoor
