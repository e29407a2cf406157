/- TopBatches: the contracts of AF; no condition. -/
import Derived.Laws.FloatArith
import Derived.Test.YtaonlcgneemimaaGreatDoorB08
namespace Go.Proofs.YtaonlcgneemimaaGreatDoor
open Go.RowKit
def stL:List Nat:=[0,4602678819172646912,4607182418800017408,4609434218613702656,4611686018427387904,4612811918334230528,4613937818241073152,4615063718147915776,4616189618054758400,4616752568008179712,4617315517961601024,4617878467915022336,4618441417868443648,4619004367821864960,4619567317775286272,4620130267728707584,4620693217682128896,4620974692658839552,4621256167635550208,4621537642612260864,4621819117588971520,4622100592565682176,4622382067542392832,4622663542519103488,4622945017495814144,4623226492472524800,4623507967449235456,4623789442425946112,4624070917402656768,4624352392379367424,4624633867356078080,4624915342332788736,4625196817309499392,4625337554797854720]
def stF (k:Nat):Nat:=stL.getD k 0
theorem stF_zero:stF 0 = 0:=rfl
theorem stF_one:stF 1 = (4602678819172646912:Nat):=rfl
theorem st_lss_table:∀ j:Fin 34,∀ k:Fin 34,(FloatKind.f64.format.order (stF j.1) (stF k.1) == some .lt) = decide (j.1 < k.1):=by decide +kernel
theorem st_max_table:∀ j:Fin 34,(FloatKind.f64.format.order (stF j.1) 9218868437227405311 == some .gt) = false:=by decide +kernel
theorem st_geq_table:∀ j:Fin 34,(FloatKind.f64.format.order (stF j.1) 0 == some .gt || FloatKind.f64.format.order (stF j.1) 0 == some .eq) = true:=by decide +kernel
theorem st_eql_table:∀ j:Fin 34,(FloatKind.f64.format.order (stF j.1) 0 == some .eq) = decide (j.1 = 0):=by decide +kernel
theorem st_add_table:∀ j:Fin 33,floatBits .add .f64 (stF j.1) 4602678819172646912 = some (stF (j.1 + 1)):=by decide +kernel
theorem st_small_table:∀ j:Fin 34,stF j.1 < 9223372036854775808:=by decide +kernel
theorem st_gtr (w:World) {j:Nat} (hj:j ≤ 33):(binOp .gtr 45 (.float .f64 (stF j)) (.float .f64 9218868437227405311)).run Tryz.prog w = .ok (.bool false) w:=by
 rw [binOp_float_cmp_gtr,st_max_table ⟨j,by omega⟩];rfl
theorem st_add (w:World) {j:Nat} (hj:j ≤ 32):(binOp .add 45 (.float .f64 (stF j)) (.float .f64 4602678819172646912)).run Tryz.prog w = .ok (.float .f64 (stF (j + 1))) w :=
 run_float_arith w .add 45 .f64 _ _ _ (st_add_table ⟨j,by omega⟩)
theorem st_small {j:Nat} (hj:j ≤ 33):stF j < 9223372036854775808:=st_small_table ⟨j,by omega⟩
attribute [irreducible] stF
set_option maxHeartbeats 1000000 in
theorem isInf_g (w:World) (k:Nat) (hk:k ≤ 33):Calls Tryz.prog 132 #[.float .f64 (stF k),.int .i64 1] w fun e w' => e = .returned (.bool false) ∧ w' = w:=by
 have hf:=st_max_table ⟨k,by omega⟩
 simp only at hf
 go_enter Tryz.func132,Tryz.ntmps132
 go_wp2
 go_ret
 exact ⟨by rw [← hf];rfl,rfl⟩
set_option maxHeartbeats 1000000 in
theorem ageMay_g (w:World) (k:Nat) (hk:k ≤ 33):Calls Tryz.prog 82 #[.float .f64 (stF k)] w fun e w' => e = .returned (.bool true) ∧ w' = w:=by
 have hf:=st_geq_table ⟨k,by omega⟩
 simp only at hf
 go_enter Tryz.func82,Tryz.ntmps82
 go_wp2_with (go_at_call 132;refine (isInf_g _ k hk).mono ?_;rintro e w1 ⟨rfl,hw⟩;have hw:=hw.symm;subst hw)
 go_ret
 exact ⟨rfl,rfl⟩
set_option maxHeartbeats 1000000 in
theorem signbit_g (w:World) (k:Nat) (hk:k ≤ 33):Calls Tryz.prog 167 #[.float .f64 (stF k)] w fun e w' => e = .returned (.bool false) ∧ w' = w:=by
 have hfb:=run_fbits (stF k)
 have h1:=st_small hk
 have h2:IntKind.i64.wrap ((stF k:Nat):Int) = (stF k:Nat):=IntWalk.i64_in _ (by omega)
 have h3:decide (((stF k:Nat):Int) < 0) = false:=by simp
 go_enter Tryz.func167,Tryz.ntmps167
 go_wp2
 go_ret
 exact ⟨rfl,rfl⟩
set_option maxHeartbeats 1000000 in
theorem stamp_g (w:World) (k:Nat) (hk:k ≤ 33):Calls Tryz.prog 150 #[.float .f64 (stF k)] w fun e w' => e = .returned (.bool true) ∧ w' = w:=by
 go_enter Tryz.func150,Tryz.ntmps150
 go_wp2_with (first | (go_at_call 82;refine (ageMay_g _ k hk).mono ?_;rintro e w1 ⟨rfl,hw⟩;have hw:=hw.symm;subst hw) | (go_at_call 167;refine (signbit_g _ k hk).mono ?_;rintro e w1 ⟨rfl,hw⟩;have hw:=hw.symm;subst hw))
 go_ret
 exact ⟨rfl,rfl⟩
theorem half_one:stF 1 = (4602678819172646912:Nat):=stF_one
set_option maxHeartbeats 1000000 in
theorem after_g (w:World) (k:Nat) (hk:k ≤ 32):Calls Tryz.prog 39 #[.float .f64 (stF k),.float .f64 4602678819172646912] w fun e w' => e = .returned (.tuple #[.float .f64 (stF (k + 1)),.int .i64 0]) ∧ w' = w:=by
 have ha:=fun w => st_add w hk
 have he:=st_eql_table ⟨k + 1,by omega⟩
 have h0:decide (k + 1 = 0) = false:=by simp
 simp only at he
 rw [h0] at he
 have C1:=Lib.hid (fun w => ageMay_g w k (by omega))
 have C2:=Lib.hid (fun w => ageMay_g w 1 (by omega))
 rw [half_one] at C2
 have C3:=Lib.hid (fun w => ageMay_g w (k + 1) (by omega))
 clear h0
 go_enter Tryz.func39,Tryz.ntmps39
 go_wp2_with (go_at_call 82;first | (with_reducible refine (C1.out _).mono ?_;rintro e w1 ⟨rfl,hw⟩;have hw:=hw.symm;subst hw) | (with_reducible refine (C2.out _).mono ?_;rintro e w1 ⟨rfl,hw⟩;have hw:=hw.symm;subst hw) | (with_reducible refine (C3.out _).mono ?_;rintro e w1 ⟨rfl,hw⟩;have hw:=hw.symm;subst hw))
 go_ret2
 exact ⟨rfl,rfl⟩
end Go.Proofs.YtaonlcgneemimaaGreatDoor
