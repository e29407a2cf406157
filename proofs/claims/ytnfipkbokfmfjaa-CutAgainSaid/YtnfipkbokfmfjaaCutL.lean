import Derived.Test.YtnfipkbokfmfjaaCutK
namespace Go.Proofs.Ytnfipkbokfmfjaa
open Go.RowKit
set_option maxRecDepth 100000 in
set_option maxHeartbeats 2000000 in
theorem cutAgain_any (a0 a1 a2 : Option Addr) (n0 n1 n2 c0 c1 c2 : Nat) (l0 l1 l2 : List Int) (w : World) (h0 : Arg w a0 n0 c0 l0) (h1 : Arg w a1 n1 c1 l1) (h2 : Arg w a2 n2 c2 l2) (b0 : n0 ≤ 1000) (b1 : n1 ≤ 1000) (b2 : 8 ≤ n2) (b3 : n2 ≤ 2000) :
    Calls Try.prog 4 #[.slice a0 n0 c0, .slice a1 n1 c1, .slice a2 n2 c2] w fun e w' => e = .returned (.bool true) ∧ Below w.heap.size w w' := by
  obtain ⟨i0, hi, hz0, hz1, hz2⟩ := info_parts info5
  have H0 := Lib.hid h0
  have H1 := Lib.hid h1
  have H2 := Lib.hid h2
  clear h0 h1 h2
  have d0 : decide ((1000 : Int) < n0) = false := by simp; omega
  have d1 : decide ((1000 : Int) < n1) = false := by simp; omega
  have d2 : decide ((n2 : Int) < 8) = false := by simp; omega
  have d3 : decide ((2000 : Int) < n2) = false := by simp; omega
  go_enter Try.func4, Try.ntmps4
  go_wp2_with (first | (go_at_call 8; refine (awake_any w).mono ?_; rintro e w1 ⟨rfl, hb⟩; have HB1 := Lib.hid hb; have HO1 := Lib.hid (OwnB.lit w1 w1.heap.size (Nat.le_refl _)); have HW := Lib.hid (hb.alloc hb.size (.cells #[] 5)); have HA0 := Lib.hid (H0.out.below HW.out); clear hb) | (at_builtin; refine app_law (.tmp 35) (.tmp 36) rfl rfl w1.heap.size _ 0 [] rfl HO1.out a0 n0 c0 l0 rfl HA0.out (by omega) (by simp) ?_))
  intro v1 w2 ho1 hg1 ha1
  have HO2 : Hid (OwnB w2 w.heap.size v1 n0 l0) := by have := ho1.mono (B' := w.heap.size) (by have := HB1.out.size; omega); show OwnB _ _ _ _ _; simpa using this
  have HB2 := Lib.hid (below_app HW.out (HO1.out.mono HB1.out.size) HW.out.size hg1)
  have HA2 := Lib.hid (H2.out.below HB2.out)
  clear ho1 hg1 ha1 HO1 HW HA0
  go_wp2_with (at_builtin; refine app_law (.tmp 37) (.tmp 38) rfl rfl w.heap.size _ n0 l0 rfl HO2.out a2 n2 c2 l2 rfl HA2.out (by omega) HB2.out.size ?_)
  intro v2 w3 ho3 hg3 _
  have HO3 := Lib.hid ho3
  have HB3 := Lib.hid (below_app HB2.out HO2.out HB2.out.size hg3)
  have HA1 := Lib.hid (H1.out.below (HB3.out.alloc HB3.out.size (.cells #[] 5)))
  have HO4 := Lib.hid (OwnB.lit w3 w3.heap.size (Nat.le_refl _))
  clear ho3 hg3
  go_wp2_with (at_builtin; refine app_law (.tmp 40) (.tmp 41) rfl rfl w3.heap.size _ 0 [] rfl HO4.out a1 n1 c1 l1 rfl HA1.out (by omega) (by simp) ?_)
  intro v3 w5 ho5 hg5 ha5
  have HO5 : Hid (OwnB w5 w3.heap.size v3 n1 l1) := by show OwnB _ _ _ _ _; simpa using ho5
  have HB5 := Lib.hid ((HB3.out.alloc HB3.out.size (.cells #[] 5)).grown hg5 (by have := HB3.out.size; simp; omega) (by intro k hk; have := HB3.out.size; simp [Value.ownBlock] at hk; omega))
  have HX5 : Hid (OwnB w5 w.heap.size v2 (n0 + n2) (l0 ++ l2)) := by
    have h1 : OwnB (w3.alloc (.cells #[] 5)) w.heap.size v2 (n0 + n2) (l0 ++ l2) := HO3.out.kept (World.grownBy_alloc w3 _ none) (by cases v2.ownBlock <;> simp)
    refine h1.kept hg5 (.inr fun e => ?_)
    have : w3.heap.size < w3.heap.size := (HO3.out.lt w3.heap.size (e.trans rfl)).2
    omega
  have HD : Hid (∀ k, v2.ownBlock = some k → k < w3.heap.size) := fun k hk => (HO3.out.lt k hk).2
  have HA5 := Lib.hid (H2.out.below HB5.out)
  have hs5 : w3.heap.size ≤ w5.heap.size := by have := hg5.size; simp at this; omega
  clear ho5 hg5 ha5 HO4 HO3 HA1
  go_wp2_with (at_builtin; refine app_law (.tmp 42) (.tmp 43) rfl rfl w3.heap.size _ n1 l1 rfl HO5.out a2 n2 c2 l2 rfl HA5.out (by omega) hs5 ?_)
  intro v4 w6 ho6 hg6 ha6
  have HX6 : Hid (OwnB w6 w.heap.size v2 (n0 + n2) (l0 ++ l2)) := by
    refine HX5.out.kept hg6 ?_
    cases hv : v2.ownBlock with
    | none => exact .inl rfl
    | some k => exact .inr fun e => by have h1 := HD.out k hv; have h2 := (HO5.out.lt k e.symm).1; omega
  have HB6 := Lib.hid (below_app HB5.out (HO5.out.mono HB3.out.size) HB5.out.size hg6)
  obtain ⟨g4, cp4, rfl, HY4, hl4, _⟩ := ho6.byt (by omega)
  obtain ⟨g2, cp2, rfl, HY2, hl2, _⟩ := HX6.out.byt (by omega)
  have HY4 := Lib.hid HY4
  have HY2 := Lib.hid HY2
  have hl4 := Lib.hid hl4
  have hl2 := Lib.hid hl2
  clear ho6 hg6 ha6 HX5 HX6 HO5 HA5
  have HN0 := Lib.hid H0.out.len
  have HN1 := Lib.hid H1.out.len
  have HN2 := Lib.hid H2.out.len
  obtain ⟨P, HP⟩ : ∃ P, Hid (endsL (l0 ++ l2) (-(n0 : Int)) = P) := ⟨_, rfl⟩
  obtain ⟨kp, HKP⟩ : ∃ kp, Hid (P.length = kp) := ⟨_, rfl⟩
  obtain ⟨Q, HQ⟩ : ∃ Q, Hid (endsL (l1 ++ l2) (-(n1 : Int)) = Q) := ⟨_, rfl⟩
  obtain ⟨kq, HKQ⟩ : ∃ kq, Hid (Q.length = kq) := ⟨_, rfl⟩
  have b0' : n0 ≤ 1000000 := by omega
  have b1' : n1 ≤ 1000000 := by omega
  go_wp2_with (first | (go_at_call 15; first | ((with_reducible refine (closure_any _ _ _ _ _ _ _ _ HY2.out hl2.out b0' HP.out HKP.out).mono ?_); rintro e w7 ⟨Ap, cp7, rfl, hb7, hv7⟩; have HB7 := Lib.hid (HB6.out.trans (hb7.mono HB6.out.size)); have HY7 := Lib.hid (HY4.out.below hb7); have HV7 := Lib.hid hv7; clear hb7 hv7) | ((with_reducible refine (closure_any _ _ _ _ _ _ _ _ HY7.out hl4.out b1' HQ.out HKQ.out).mono ?_); rintro e w8 ⟨Aq, cp8, rfl, hb8, hv8⟩; have HB8 := Lib.hid (HB7.out.trans (hb8.mono HB7.out.size)); have HV8 := Lib.hid hv8; have HK8 := Lib.hid hb8; clear hb8 hv8)))
  have MATCH : Hid (∀ i j, i < kp → j < kq → P.getD i 0 = Q.getD j 0 → 8 ≤ P.getD i 0 → kp - i = kq - j ∧ ∀ t, i + t < kp → P.getD (i + t) 0 = Q.getD (j + t) 0) := fun i j hi hj he h8 => by
    have hd := ends_again l0 l1 l2 i j (by rw [HN0.out, HP.out, HKP.out]; exact hi) (by rw [HN1.out, HQ.out, HKQ.out]; exact hj) (by rw [HN0.out, HN1.out, HP.out, HQ.out]; exact he) (by rw [HN0.out, HP.out]; omega)
    rw [HN0.out, HN1.out, HP.out, HQ.out] at hd
    refine ⟨?_, fun t ht => ?_⟩
    · have := congrArg List.length hd
      simp at this
      rw [HKP.out, HKQ.out] at this
      exact this
    · have := congrArg (fun x : List Int => x.getD t 0) hd
      simpa [List.getD, List.getElem?_drop] using this
  have LAST : Hid (∃ i j, i < kp ∧ j < kq ∧ P.getD i 0 = Q.getD j 0 ∧ 8 ≤ P.getD i 0) := by
    obtain ⟨i, h1, h2⟩ := endsL_last (l0 ++ l2) (-(n0 : Int)) (by intro e; have h := congrArg List.length e; rw [List.length_append, List.length_nil] at h; have := HN2.out; omega)
    obtain ⟨j, h3, h4⟩ := endsL_last (l1 ++ l2) (-(n1 : Int)) (by intro e; have h := congrArg List.length e; rw [List.length_append, List.length_nil] at h; have := HN2.out; omega)
    rw [HP.out] at h1 h2
    rw [HQ.out] at h3 h4
    rw [HKP.out] at h1
    rw [HKQ.out] at h3
    have e0 := HN0.out
    have e1 := HN1.out
    have e2 := HN2.out
    rw [List.length_append] at h2 h4
    exact ⟨i, j, h1, h3, by omega, by omega⟩
  have CELL : Hid (∀ wr, Same wr w8 → (∀ i, i < kp → ∃ g, Ap = some ⟨g, 0, none⟩ ∧ wr.cell? ⟨g, i, none⟩ = some (.int .i64 (P.getD i 0))) ∧ (∀ j, j < kq → ∃ g, Aq = some ⟨g, 0, none⟩ ∧ wr.cell? ⟨g, j, none⟩ = some (.int .i64 (Q.getD j 0)))) := fun wr hS => by
    refine ⟨fun i hi => ?_, fun j hj => ?_⟩
    · obtain ⟨g, h1, h2⟩ := HV7.out i hi
      exact ⟨g, h1, hS.cell ((HK8.out.cell (p := ⟨g, i, none⟩) (World.block_lt_of_cell? w7 _ h2)).trans h2)⟩
    · obtain ⟨g, h1, h2⟩ := HV8.out j hj
      exact ⟨g, h1, hS.cell h2⟩
  have hkp : kp ≤ 3000 := by have := endsL_len (l0 ++ l2) (-(n0 : Int)); rw [HP.out, HKP.out] at this; rw [List.length_append] at this; have := HN0.out; have := HN2.out; omega
  have hkq : kq ≤ 3000 := by have := endsL_len (l1 ++ l2) (-(n1 : Int)); rw [HQ.out, HKQ.out] at this; rw [List.length_append] at this; have := HN1.out; have := HN2.out; omega
  clear HV7 HV8 HK8 HY2 HY4 HY7 HB6 HB7 HP HQ HKP HKQ b0' b1'
  go_loopw [12, 13, 14] (fun t _ _ wr => ∃ i : Nat, i ≤ kp ∧ t = .int .i64 i ∧ Hid (∀ a b, a < i → b < kq → ¬ (P.getD a 0 = Q.getD b 0 ∧ 8 ≤ P.getD a 0)) ∧ Hid (Same wr w8)) (fun t _ _ _ => kp - (intOf t).toNat)
  case atStart => exact ⟨0, by omega, rfl, fun a b h => by omega, Same.refl _⟩
  case round =>
    obtain ⟨i, hi, rfl, hno, hS⟩ := hrel
    by_cases hlt : i < kp
    · go_wp2
      obtain ⟨wo, rfl⟩ : ∃ wo : World, wo = wr := ⟨_, rfl⟩
      go_loopw [13, 14] (fun t _ wr => ∃ j : Nat, j ≤ kq ∧ t = .int .i64 j ∧ Hid (∀ b, b < j → ¬ (P.getD i 0 = Q.getD b 0 ∧ 8 ≤ P.getD i 0)) ∧ Hid (Same wr w8)) (fun t _ _ => kq - (intOf t).toNat)
      case atStart => exact ⟨0, by omega, rfl, fun b h => by omega, hS⟩
      case round =>
        clear hS
        obtain ⟨j, hj, rfl, hnj, hS⟩ := hrel
        by_cases hlj : j < kq
        · obtain ⟨gp, rfl, hcp⟩ := (CELL.out wr hS.out).1 i hlt
          obtain ⟨gq, rfl, hcq⟩ := (CELL.out wr hS.out).2 j hlj
          have HMT := Lib.hid (MATCH.out i j hlt hlj)
          obtain ⟨x, hx⟩ : ∃ x, Hid (P.getD i 0 = x) := ⟨_, rfl⟩
          obtain ⟨y, hy⟩ : ∃ y, Hid (Q.getD j 0 = y) := ⟨_, rfl⟩
          rw [hx.out] at hcp
          rw [hy.out] at hcq
          by_cases hxy : x = y
          · subst hxy
            by_cases h8 : 8 ≤ x
            · have q8 : decide (x < 8) = false := by simp; omega
              obtain ⟨hkk, hall⟩ := HMT.out (by rw [hx.out, hy.out]) (by rw [hx.out]; exact h8)
              have HALL := Lib.hid hall
              have hkk2 : (kp : Int) - i = (kq : Int) - j := by omega
              clear hall
              go_wp2
              go_quiet (fail)
              go_wp2
              have hS2 := Lib.hid (hS.out.drewN nq)
              clear hS
              generalize wr.drewN nq = wq at hS2 ⊢
              go_loopw [14] (fun t wr => ∃ q : Nat, i + q ≤ kp ∧ t = .int .i64 q ∧ Hid (Same wr w8)) (fun t _ => kp - i - (intOf t).toNat)
              case atStart => exact ⟨0, by omega, rfl, hS2⟩
              case round =>
                clear hS2 hcp hcq
                obtain ⟨q, hq, rfl, hS⟩ := hrel
                by_cases hlq : i + q < kp
                · obtain ⟨gp', e1, hcp⟩ := (CELL.out wr hS.out).1 (i + q) hlq
                  obtain ⟨gq', e2, hcq⟩ := (CELL.out wr hS.out).2 (j + q) (by omega)
                  cases e1
                  cases e2
                  have hEQ := Lib.hid (HALL.out q hlq)
                  obtain ⟨z, hz⟩ : ∃ z, Hid (P.getD (i + q) 0 = z) := ⟨_, rfl⟩
                  rw [hz.out] at hcp
                  rw [← hEQ.out, hz.out] at hcq
                  have w1' : IntKind.i64.wrap ((i : Int) + (q : Int)) = (i : Int) + q := Go.IntWalk.i64_in _ (by omega)
                  have w2' : IntKind.i64.wrap ((j : Int) + (q : Int)) = (j : Int) + q := Go.IntWalk.i64_in _ (by omega)
                  have t1 : ((i : Int) + (q : Int)).toNat = i + q := by omega
                  have t2 : ((j : Int) + (q : Int)).toNat = j + q := by omega
                  have s1 : (0 : Int) ≤ (i : Int) + q := by omega
                  have s2 : (0 : Int) ≤ (j : Int) + q := by omega
                  have u1 : (i : Int) + (q : Int) < (kp : Int) := by omega
                  have u2 : (j : Int) + (q : Int) < (kq : Int) := by omega
                  go_wp2
                  go_quiet (fail)
                  go_wp2
                  go_roundw
                  case rel => exact ⟨q + 1, by omega, by go_num, hS.out.drewN _⟩
                  case measure => simp [intOf]; omega
                · go_wp2
                  go_ret
                  exact ⟨rfl, hS.out.below HB8.out⟩
            · have q8 : decide (x < 8) = true := by simp; omega
              go_wp2
              go_quiet (fail)
              go_wp2
              go_roundw
              case rel => exact ⟨j + 1, by omega, by go_num, fun b hb => by
                rcases (by omega : b < j ∨ b = j) with h | rfl
                · exact hnj.out b h
                · rintro ⟨_, h⟩; rw [hx.out] at h; omega
                , hS.out.drewN _⟩
              case measure => simp [intOf]; omega
          · have qn : (x != y) = true := by simpa using hxy
            go_wp2
            go_quiet (fail)
            go_wp2
            go_roundw
            case rel => exact ⟨j + 1, by omega, by go_num, fun b hb => by
              rcases (by omega : b < j ∨ b = j) with h | rfl
              · exact hnj.out b h
              · rintro ⟨h, _⟩; rw [hx.out, hy.out] at h; exact hxy h
              , hS.out.drewN _⟩
            case measure => simp [intOf]; omega
        · obtain rfl : kq = j := by omega
          go_wp2
          go_roundw
          case rel => exact ⟨i + 1, by omega, by go_num, fun a b ha hb => by
            rcases (by omega : a < i ∨ a = i) with h | rfl
            · exact hno.out a b h hb
            · exact hnj.out b hb
            , hS⟩
          case measure => simp [intOf]; omega
    · exfalso
      obtain ⟨a, b, h1, h2, h3, h4⟩ := LAST.out
      exact hno.out a b (by omega) h2 ⟨h3, h4⟩

theorem cutAgain_out (a0 a1 a2 : Option Addr) (n0 n1 n2 c0 c1 c2 : Nat) (w : World) (m0 : n0 ≤ 9223372036854775807) (m1 : n1 ≤ 9223372036854775807) (m2 : n2 ≤ 9223372036854775807) (h : ¬ (n0 ≤ 1000 ∧ n1 ≤ 1000 ∧ 8 ≤ n2 ∧ n2 ≤ 2000)) :
    Calls Try.prog 4 #[.slice a0 n0 c0, .slice a1 n1 c1, .slice a2 n2 c2] w fun e w' => e = .returned (.bool true) ∧ Below w.heap.size w w' := by
  rcases (by omega : 1000 < n0 ∨ (n0 ≤ 1000 ∧ 1000 < n1) ∨ (n0 ≤ 1000 ∧ n1 ≤ 1000 ∧ 2000 < n2) ∨ (n0 ≤ 1000 ∧ n1 ≤ 1000 ∧ n2 ≤ 2000 ∧ n2 < 8)) with h0 | ⟨h0, h1⟩ | ⟨h0, h1, h2⟩ | ⟨h0, h1, h2, h3⟩
  all_goals
    clear h
    go_enter Try.func4, Try.ntmps4
    go_wp2_with (go_at_call 8; refine (awake_any w).mono ?_; rintro e w1 ⟨rfl, hb⟩)
    go_ret
    exact ⟨rfl, hb⟩
theorem walk_CutAgain (a0 : Option Addr) (n0 c0 : Nat) (z0 : List Int) (a1 : Option Addr) (n1 c1 : Nat) (z1 : List Int) (a2 : Option Addr) (n2 c2 : Nat) (z2 : List Int) (w : World) (h0 : IsRow .u8 w a0 n0 c0 z0) (h1 : IsRow .u8 w a1 n1 c1 z1) (h2 : IsRow .u8 w a2 n2 c2 z2) :
    Calls Try.prog 4 #[.slice a0 n0 c0, .slice a1 n1 c1, .slice a2 n2 c2] w fun e w' => e = .returned (.bool true) ∧ Below w.heap.size w w' := by
  by_cases h : n0 ≤ 1000 ∧ n1 ≤ 1000 ∧ 8 ≤ n2 ∧ n2 ≤ 2000
  · exact cutAgain_any a0 a1 a2 n0 n1 n2 c0 c1 c2 _ _ _ w (h0.arg (by omega)) (h1.arg (by omega)) (h2.arg (by omega)) h.1 h.2.1 h.2.2.1 h.2.2.2
  · exact cutAgain_out a0 a1 a2 n0 n1 n2 c0 c1 c2 w h0.len h1.len h2.len h
end Go.Proofs.Ytnfipkbokfmfjaa
