/- TopNames: the contracts of F1, F2; no condition. -/
import Derived.Test.YtaonlcgneemimaaGreatDoorJ07
import Derived.Test.YtaonlcgneemimaaGreatDoorJ02
import Derived.Laws.Cover2
namespace Go.Proofs.YtaonlcgneemimaaGreatDoor
open Go.RowKit
theorem f_gtr (w : World) : (binOp .gtr 45 (.float .f64 0) (.float .f64 9218868437227405311)).run Tryz.prog w = .ok (.bool false) w := by rw [binOp_float_cmp_gtr]; rfl
theorem f_geq (w : World) : (binOp .geq 45 (.float .f64 0) (.float .f64 0)).run Tryz.prog w = .ok (.bool true) w := by rw [binOp_float_cmp_geq]; rfl
theorem f_lss (w : World) : (binOp .lss 45 (.float .f64 0) (.float .f64 0)).run Tryz.prog w = .ok (.bool false) w := by rw [binOp_float_cmp_lss]; rfl
theorem f_eql (w : World) : (binOp .eql 45 (.float .f64 0) (.float .f64 0)).run Tryz.prog w = .ok (.bool true) w := by rw [binOp_float_cmp_eql]; rfl
set_option maxHeartbeats 1000000 in
theorem isInf0 (w : World) : Calls Tryz.prog 132 #[.float .f64 0, .int .i64 1] w fun e w' => e = .returned (.bool false) ∧ w' = w := by
  have hf := f_gtr
  go_enter Tryz.func132, Tryz.ntmps132
  go_wp2
  go_ret
  exact ⟨rfl, rfl⟩
set_option maxHeartbeats 1000000 in
theorem ageMay0 (w : World) : Calls Tryz.prog 82 #[.float .f64 0] w fun e w' => e = .returned (.bool true) ∧ w' = w := by
  have hf := f_geq
  go_enter Tryz.func82, Tryz.ntmps82
  go_wp2_with (go_at_call 132; refine (isInf0 _).mono ?_; rintro e w1 ⟨rfl, hw⟩; have hw := hw.symm; subst hw)
  go_ret
  exact ⟨rfl, rfl⟩
set_option maxHeartbeats 1000000 in
theorem signbit0 (w : World) : Calls Tryz.prog 167 #[.float .f64 0] w fun e w' => e = .returned (.bool false) ∧ w' = w := by
  have hfb := run_fbits 0
  go_enter Tryz.func167, Tryz.ntmps167
  go_wp2
  go_ret
  exact ⟨rfl, rfl⟩
set_option maxHeartbeats 1000000 in
theorem stamp0 (w : World) : Calls Tryz.prog 150 #[.float .f64 0] w fun e w' => e = .returned (.bool true) ∧ w' = w := by
  go_enter Tryz.func150, Tryz.ntmps150
  go_wp2_with (first | (go_at_call 82; refine (ageMay0 _).mono ?_; rintro e w1 ⟨rfl, hw⟩; have hw := hw.symm; subst hw) | (go_at_call 167; refine (signbit0 _).mono ?_; rintro e w1 ⟨rfl, hw⟩; have hw := hw.symm; subst hw))
  go_ret
  exact ⟨rfl, rfl⟩
/-- A row's cells: its stamp is nought. -/
def rowC (s : Value) (i : ItemA) : List Value := [.float .f64 0, .int .i64 i.op, .string i.path, .string i.to, .int .i64 i.off, .int .i64 i.size, .slice none 0 0, s]
def rowsC : List Value → List ItemA → List Value
  | s :: ss, i :: is => rowC s i ++ rowsC ss is
  | _, _ => []
def RowsV (w : World) (v : Value) (its : List ItemA) : Prop :=
  ∃ ps : List Value, ps.length = its.length ∧ Sl w 86 8 v its.length (rowsC ps its) ∧ ∀ (j : Nat) s i, ps[j]? = some s → its[j]? = some i → Sl w 134 4 s i.parts.length (partsC i.parts)
theorem rowsC_get : ∀ (ps : List Value) (its : List ItemA) (j : Nat) (s : Value) (i : ItemA), ps[j]? = some s → its[j]? = some i → ∀ k, k < 8 → (rowsC ps its)[j * 8 + k]? = (rowC s i)[k]?
  | [], its, j, s, i, h, _, k, _ => by simp at h
  | p :: ps, [], j, s, i, _, h, k, _ => by simp at h
  | p :: ps, q :: its, 0, s, i, h, h', k, hk => by
    simp at h h'; subst h; subst h'
    unfold rowsC
    rw [Nat.zero_mul, Nat.zero_add, List.getElem?_append_left (by simp [rowC]; omega)]
  | p :: ps, q :: its, j + 1, s, i, h, h', k, hk => by
    have := rowsC_get ps its j s i (by simpa using h) (by simpa using h') k hk
    unfold rowsC
    rw [List.getElem?_append_right (by simp [rowC]; omega), ← this]
    congr 1
    simp [rowC]; omega
theorem RowsV.below {w w' : World} {v : Value} {its : List ItemA} (h : RowsV w v its) (hb : Below w.heap.size w w') : RowsV w' v its := by
  obtain ⟨ps, h1, h2, h3⟩ := h
  exact ⟨ps, h1, h2.below hb, fun j s i a b => (h3 j s i a b).below hb⟩
/-- The rows, cell by cell. -/
theorem rows_cells {w : World} {v : Value} {its : List ItemA} (h : RowsV w v its) : ∃ a cap, v = .slice a its.length cap ∧ its.length ≤ cap ∧ (a = none → its.length = 0) ∧ ∀ j i, its[j]? = some i → ∃ g off s, a = some ⟨g, off, none⟩ ∧ g < w.heap.size ∧ Sl w 134 4 s i.parts.length (partsC i.parts) ∧
    (w.cell? ⟨g, off + j * 8, none⟩ = some (.float .f64 0) ∧ w.cell? ⟨g, off + j * 8 + 1, none⟩ = some (.int .i64 i.op) ∧ w.cell? ⟨g, off + j * 8 + 2, none⟩ = some (.string i.path) ∧ w.cell? ⟨g, off + j * 8 + 3, none⟩ = some (.string i.to) ∧ w.cell? ⟨g, off + j * 8 + 4, none⟩ = some (.int .i64 i.off) ∧ w.cell? ⟨g, off + j * 8 + 5, none⟩ = some (.int .i64 i.size) ∧ w.cell? ⟨g, off + j * 8 + 6, none⟩ = some (.slice none 0 0) ∧ w.cell? ⟨g, off + j * 8 + 7, none⟩ = some s) := by
  obtain ⟨ps, hl, hs, hp⟩ := h
  obtain ⟨a, cap, rfl, hc, ha, hj⟩ := hs.shape
  refine ⟨a, cap, rfl, hc, ha, fun j i hi => ?_⟩
  have hlt := (List.getElem?_eq_some_iff.1 hi).1
  obtain ⟨s, hs'⟩ : ∃ s, ps[j]? = some s := ⟨_, List.getElem?_eq_getElem (by omega)⟩
  obtain ⟨g, off, rfl, hg, hk⟩ := hj j hlt
  have hc := rowsC_get ps its j s i hs' hi
  refine ⟨g, off, s, rfl, hg, hp j s i hs' hi, ?_⟩
  exact ⟨hk 0 _ (by decide) (hc 0 (by decide)), hk 1 _ (by decide) (hc 1 (by decide)), hk 2 _ (by decide) (hc 2 (by decide)), hk 3 _ (by decide) (hc 3 (by decide)), hk 4 _ (by decide) (hc 4 (by decide)), hk 5 _ (by decide) (hc 5 (by decide)), hk 6 _ (by decide) (hc 6 (by decide)), hk 7 _ (by decide) (hc 7 (by decide))⟩
end Go.Proofs.YtaonlcgneemimaaGreatDoor
namespace Go.Proofs.YtaonlcgneemimaaGreatDoor
open Go.RowKit
set_option maxRecDepth 100000 in
set_option maxHeartbeats 2000000 in
theorem rows_any (w : World) (v : Value) (its : List ItemA) (h : RowsV w v its) (hg : ∀ i ∈ its, i.good) (hne : its ≠ []) (hn : its.length ≤ 100000) :
    Calls Tryz.prog 151 #[v] w fun e w' => e = .returned (.bool true) ∧ Below w.heap.size w w' := by
  obtain ⟨a, cap, rfl, hcap, -, hcells⟩ := rows_cells h
  have HC := Lib.hid hcells
  have HG := Lib.hid hg
  have hpos : decide (0 < its.length) = true := by have := List.length_pos_iff.2 hne; simp; omega
  have hf := f_lss
  have hsf := fun (W : World) (p : Addr) => run_store Tryz.prog W p (.float .f64 0) .plain rfl
  clear h hcells hg
  go_enter Tryz.func151, Tryz.ntmps151
  go_wp2
  go_loopw [3, 8] (fun t3 ti wr => ∃ k : Nat, k ≤ its.length ∧ ti = .int .i64 k ∧ t3 = .float .f64 0 ∧ Hid (Below w.heap.size w wr)) (fun _ i _ => its.length - (intOf i).toNat)
  case atStart => exact ⟨0, by omega, rfl, rfl, Below.refl _ _⟩
  case round =>
    obtain ⟨k, hk, rfl, rfl, hbel⟩ := hrel
    by_cases hlt : k < its.length
    · obtain ⟨i, hi⟩ : ∃ i, its[k]? = some i := ⟨_, List.getElem?_eq_getElem hlt⟩
      have HGI := Lib.hid (HG.out i (List.mem_of_getElem? hi))
      obtain ⟨g, off, s, rfl, hg, hs, c0, c1, c2, c3, c4, c5, c6, c7⟩ := HC.out k i hi
      have t : ∀ o u, w.cell? ⟨g, o, none⟩ = some u → wr.cell? ⟨g, o, none⟩ = some u := fun o u h => by
        rw [hbel.out.cell (p := ⟨g, o, none⟩) hg]
        exact h
      have q0 := t _ _ c0
      have q1 := t _ _ c1
      have q2 := t _ _ c2
      have q3 := t _ _ c3
      have q4 := t _ _ c4
      have q5 := t _ _ c5
      have q6 := t _ _ c6
      have q7 := t _ _ c7
      obtain ⟨sa, sc, rfl, -⟩ := parts_cells hs
      have HI := Lib.hid (show ItemC wr [.int .i64 i.op, .string i.path, .string i.to, .int .i64 i.off, .int .i64 i.size, .slice none 0 0, .slice sa i.parts.length sc] i from ⟨_, rfl, hs.below hbel.out⟩)
      clear c0 c1 c2 c3 c4 c5 c6 c7 t hs hi
      go_wp2_with (first | (go_at_call 150; refine (stamp0 _).mono ?_; rintro e w1 ⟨rfl, hw⟩; have hw := hw.symm; subst hw) | (go_at_call 75; refine (itemMay_any i _ _ (HI.out.below ((Below.refl _ _).alloc (Nat.le_refl _) _)) HGI.out).mono ?_; rintro e w2 ⟨rfl, hq⟩; have HQ := Lib.hid hq; have e0 : w2.cell? ⟨wr.heap.size, 0, none⟩ = some (.float .f64 0) := cellAt (Below.heap hq (Nat.le_refl _) (heap_new wr _)) 0; clear hq))
      go_roundw
      case rel => exact ⟨k + 1, by omega, by go_num, rfl, (hbel.out.alloc hbel.out.size _).trans (HQ.out.mono (by have := hbel.out.size; simp; omega))⟩
      case measure => simp [intOf]; omega
    · go_wp2
      go_ret
      refine ⟨?_, hbel.out⟩
      rw [← hpos]
      rfl
/-- A record of events. -/
def RecC (seq : Int) (rows : Value) : List Value := [.int .i64 1, .int .i64 seq, rows, .float .f64 0, .string ⟨#[]⟩, .slice none 0 0]
set_option maxRecDepth 100000 in
set_option maxHeartbeats 2000000 in
theorem batchMay_any (w : World) (seq : Int) (v : Value) (its : List ItemA) (h : RowsV w v its) (hg : ∀ i ∈ its, i.good) (hne : its ≠ []) (hn : its.length ≤ 100000) (h1 : 1 ≤ seq) (h2 : seq ≤ 4611686018427387904) :
    Calls Tryz.prog 108 #[.agg (RecC seq v).toArray] w fun e w' => e = .returned (.bool true) ∧ Below w.heap.size w w' := by
  have HR := Lib.hid h
  have HG := Lib.hid hg
  obtain ⟨a, cap, rfl, hcap, -, -⟩ := rows_cells h
  have d1 : decide (seq < 1) = false := by simp; omega
  have d2 : decide (4611686018427387904 < seq) = false := by simp; omega
  have hf := f_eql
  have HNE := Lib.hid hne
  clear h hg hne
  unfold RecC
  go_enter Tryz.func108, Tryz.ntmps108
  go_wp2_with (first | (go_at_call 150; refine (stamp0 _).mono ?_; rintro e w1 ⟨rfl, hw⟩; have hw := hw.symm; subst hw) | (go_at_call 151; refine (rows_any _ _ its (HR.out.below ((Below.refl _ _).alloc (Nat.le_refl _) _)) HG.out HNE.out hn).mono ?_; rintro e w2 ⟨rfl, hq⟩; have HQ := Lib.hid hq; have hx := Below.heap hq (Nat.le_refl _) (heap_new w _); have e3 : w2.cell? ⟨w.heap.size, 3, none⟩ = some (.float .f64 0) := cellAt hx 3; have e4 : w2.cell? ⟨w.heap.size, 4, none⟩ = some (.string ⟨#[]⟩) := cellAt hx 4; have e5 : w2.cell? ⟨w.heap.size, 5, none⟩ = some (.slice none 0 0) := cellAt hx 5; clear hq hx))
  go_ret
  exact ⟨rfl, ((Below.refl _ w).alloc (Nat.le_refl _) _).trans (HQ.out.mono (by simp))⟩
end Go.Proofs.YtaonlcgneemimaaGreatDoor
