/- TopBatches: the contracts of F1, F2; no condition. -/
import Derived.Laws.Cover2
import Derived.Test.YtaonlcgneemimaaGreatDoorB07
import Derived.Test.YtaonlcgneemimaaGreatDoorB02
namespace Go.Proofs.YtaonlcgneemimaaGreatDoor
open Go.RowKit
theorem f_gtr (w:World):(binOp .gtr 45 (.float .f64 0) (.float .f64 9218868437227405311)).run Tryz.prog w = .ok (.bool false) w:=by rw [binOp_float_cmp_gtr];rfl
theorem f_geq (w:World):(binOp .geq 45 (.float .f64 0) (.float .f64 0)).run Tryz.prog w = .ok (.bool true) w:=by rw [binOp_float_cmp_geq];rfl
theorem f_eql (w:World):(binOp .eql 45 (.float .f64 0) (.float .f64 0)).run Tryz.prog w = .ok (.bool true) w:=by rw [binOp_float_cmp_eql];rfl
set_option maxHeartbeats 1000000 in
theorem isInf0 (w:World):Calls Tryz.prog 132 #[.float .f64 0,.int .i64 1] w fun e w' => e = .returned (.bool false) ∧ w' = w:=by
 have hf:=f_gtr
 go_enter Tryz.func132,Tryz.ntmps132
 go_wp2
 go_ret
 exact ⟨rfl,rfl⟩
set_option maxHeartbeats 1000000 in
theorem ageMay0 (w:World):Calls Tryz.prog 82 #[.float .f64 0] w fun e w' => e = .returned (.bool true) ∧ w' = w:=by
 have hf:=f_geq
 go_enter Tryz.func82,Tryz.ntmps82
 go_wp2_with (go_at_call 132;refine (isInf0 _).mono ?_;rintro e w1 ⟨rfl,hw⟩;have hw:=hw.symm;subst hw)
 go_ret
 exact ⟨rfl,rfl⟩
set_option maxHeartbeats 1000000 in
theorem signbit0 (w:World):Calls Tryz.prog 167 #[.float .f64 0] w fun e w' => e = .returned (.bool false) ∧ w' = w:=by
 have hfb:=run_fbits 0
 go_enter Tryz.func167,Tryz.ntmps167
 go_wp2
 go_ret
 exact ⟨rfl,rfl⟩
set_option maxHeartbeats 1000000 in
theorem stamp0 (w:World):Calls Tryz.prog 150 #[.float .f64 0] w fun e w' => e = .returned (.bool true) ∧ w' = w:=by
 go_enter Tryz.func150,Tryz.ntmps150
 go_wp2_with (first | (go_at_call 82;refine (ageMay0 _).mono ?_;rintro e w1 ⟨rfl,hw⟩;have hw:=hw.symm;subst hw) | (go_at_call 167;refine (signbit0 _).mono ?_;rintro e w1 ⟨rfl,hw⟩;have hw:=hw.symm;subst hw))
 go_ret
 exact ⟨rfl,rfl⟩
end Go.Proofs.YtaonlcgneemimaaGreatDoor
namespace Go.Proofs.YtaonlcgneemimaaGreatDoor
open Go.RowKit
def RecC (seq:Int) (rows:Value):List Value:=[.int .i64 1,.int .i64 seq,rows,.float .f64 0,.string ⟨#[]⟩,.slice none 0 0]
end Go.Proofs.YtaonlcgneemimaaGreatDoor
