import Derived.Test.YtnfipkbokfmfjaaCutE
namespace Go.Proofs.Ytnfipkbokfmfjaa
open Go.RowKit
theorem Pieces.view {w w' : World} {v : Value} {ps : List (List Int)} (h : Pieces w w' v ps) (n : Nat) (hn : ps.length = n) : ∃ A cap, v = .slice A n cap ∧ n ≤ cap ∧ Below w.heap.size w w' ∧
    ∀ i, i < n → ∃ g, A = some ⟨g, 0, none⟩ ∧ ∃ x c, w'.cell? ⟨g, i, none⟩ = some (.slice (some x) (ps.getD i []).length c) ∧ Byt w' (some x) c (ps.getD i []) ∧ ps.getD i [] ≠ [] := by
  subst hn
  obtain ⟨vals, ho, hp, hb⟩ := h
  rcases ho.2 with ⟨rfl, h0⟩ | ⟨g, cap, cur, rfl, hbg, hh, hnc, hcm, hcs, ht⟩
  · exact ⟨none, 0, by rw [h0], by omega, hb, fun i hi => by omega⟩
  · refine ⟨some ⟨g, 0, none⟩, cap, rfl, hnc, hb, fun i hi => ⟨g, rfl, ?_⟩⟩
    obtain ⟨x, c, hv, hB, _, _, hne⟩ := hp.2 i hi
    exact ⟨x, c, by rw [ho.cellAt i (by omega)]; exact hv, hB, hne⟩
theorem Byt.lit (w : World) (l : List Int) (hl : l.length ≤ 1000000) (hb : ∀ v ∈ l, 0 ≤ v ∧ v ≤ 255) : Byt (w.alloc (.cells (u8s l).toArray 5)) (some ⟨w.heap.size, 0, none⟩) l.length l :=
  ⟨Nat.le_refl _, hl, fun j hj => ⟨_, rfl, by
    rw [show (⟨w.heap.size, 0, none⟩ : Addr).add j = ⟨w.heap.size, j, none⟩ by unfold Addr.add; split <;> simp_all]
    rw [cell_of_row _ _ _ _ _ _ (heap_alloc_new w _)]
    simp [u8s, List.getD, hj], by
    have : l.getD j 0 ∈ l := by simp [List.getD, hj]
    exact hb _ this⟩⟩
theorem Byt.none (w : World) : Byt w none 0 [] := ⟨Nat.le_refl _, by simp, fun j hj => by simp at hj⟩
theorem pl_short (s : List Int) (h : s.length ≤ 7) : pl s = s.length := by
  unfold pl
  rw [show min s.length 64 - 7 = 0 by omega]
  simp; omega
theorem cut_short (s : List Int) (h : s.length ≤ 7) (hs : s ≠ []) : cut s = [s] := by
  rw [cut_cons s hs, pl_short s h, List.take_length, List.drop_length, cut_nil]
theorem hash_eq (A : Option Addr) (n cap : Nat) (l : List Int) (i H : Int) (w : World) (h : Byt w A cap l) (hn : l.length = n) (hH : hashZ l i = H) :
    Calls Try.prog 11 #[.slice A n cap, .int .i64 i] w fun e w' => e = .returned (.int .u32 H) ∧ w = w' := by
  subst hH; exact hash_any A n cap l i w h hn
theorem ends_eq (A : Option Addr) (n cap : Nat) (l : List Int) (i H : Int) (w : World) (h : Byt w A cap l) (hn : l.length = n) (hH : endsZ l i = H) :
    Calls Try.prog 13 #[.slice A n cap, .int .i64 i] w fun e w' => e = .returned (.int .i64 H) ∧ w = w' := by
  subst hH; exact ends_any A n cap l i w h hn
/-- What Cut leaves, seen from outside. -/
def CutView (w : World) (ps : List (List Int)) (n : Nat) (e : Ending) (w' : World) : Prop := ∃ A cap, e = .returned (.slice A n cap) ∧ n ≤ cap ∧ Below w.heap.size w w' ∧
    ∀ i, i < n → ∃ g, A = some ⟨g, 0, none⟩ ∧ ∃ x c, w'.cell? ⟨g, i, none⟩ = some (.slice (some x) (ps.getD i []).length c) ∧ Byt w' (some x) c (ps.getD i []) ∧ ps.getD i [] ≠ []
theorem cut_view (A : Option Addr) (n cap : Nat) (l : List Int) (w : World) (ps : List (List Int)) (k : Nat) (h : Byt w A cap l) (hn : l.length = n) (hp : cut l = ps) (hk : ps.length = k) :
    Calls Try.prog 9 #[.slice A n cap] w (CutView w ps k) := by
  subst hp
  refine (cut_any A n cap l w h hn).mono ?_
  rintro e w' ⟨v, rfl, hP⟩
  obtain ⟨A', cap', rfl, h⟩ := hP.view k hk
  exact ⟨A', cap', rfl, h⟩
theorem rcut_view (A : Option Addr) (n cap : Nat) (l : List Int) (w : World) (ps : List (List Int)) (k : Nat) (h : Byt w A cap l) (hn : l.length = n) (hp : cut l = ps) (hk : ps.length = k) :
    Calls Try.prog 10 #[.slice A n cap] w (CutView w ps k) := by
  subst hp
  refine (rcut_any A n cap l w h hn).mono ?_
  rintro e w' ⟨v, rfl, hP⟩
  obtain ⟨A', cap', rfl, h⟩ := hP.view k hk
  exact ⟨A', cap', rfl, h⟩
set_option maxHeartbeats 400000 in
theorem awake_any (w : World) : Calls Try.prog 8 #[] w fun e w' => e = .returned (.bool true) ∧ Below w.heap.size w w' := by
  have HL : Hid (Byt (w.alloc (.cells #[.int .u8 1, .int .u8 2, .int .u8 3, .int .u8 4, .int .u8 5] 5)) (some ⟨w.heap.size, 0, none⟩) 5 [1, 2, 3, 4, 5]) := Byt.lit w [1, 2, 3, 4, 5] (by simp) (by simp)
  have HC5 : Hid (cut [1, 2, 3, 4, 5] = [[1, 2, 3, 4, 5]]) := cut_short _ (by simp) (by simp)
  have l5 : Hid (([1, 2, 3, 4, 5] : List Int).length = 5) := rfl
  have l1 : Hid (([[1, 2, 3, 4, 5]] : List (List Int)).length = 1) := rfl
  have HV : Hid (∀ (w2 : World) (A : Option Addr), Below (w.alloc (.cells #[.int .u8 1, .int .u8 2, .int .u8 3, .int .u8 4, .int .u8 5] 5)).heap.size (w.alloc (.cells #[.int .u8 1, .int .u8 2, .int .u8 3, .int .u8 4, .int .u8 5] 5)) w2 → (∀ i, i < 1 → ∃ g : Nat, A = some ⟨g, 0, none⟩ ∧ ∃ (x : Addr) (c : Nat), w2.cell? ⟨g, i, none⟩ = some (.slice (some x) (([[1, 2, 3, 4, 5]] : List (List Int)).getD i []).length c) ∧ Byt w2 (some x) c (([[1, 2, 3, 4, 5]] : List (List Int)).getD i []) ∧ ([[1, 2, 3, 4, 5]] : List (List Int)).getD i [] ≠ []) →
      Hid (Below w.heap.size w w2) ∧ ∃ g : Nat, A = some ⟨g, 0, none⟩ ∧ ∃ (x : Addr) (c : Nat), w2.cell? ⟨g, 0, none⟩ = some (.slice (some x) 5 c)) := by
    intro w2 A hB hv
    obtain ⟨g, e, x, c, hc, _⟩ := hv 0 (by simp)
    exact ⟨((Below.refl w.heap.size w).alloc (Nat.le_refl _) _).trans (hB.mono (by simp)), g, e, x, c, hc⟩
  have H4 : Hid (∀ w2, Byt (World.alloc w2 (.cells #[.int .u8 4] 5)) (some ⟨w2.heap.size, 0, none⟩) 1 [4]) := fun w2 => Byt.lit w2 [4] (by simp) (by simp)
  have H1 : Hid (∀ w2 : World, Byt ((w2.alloc (.cells #[.int .u8 4] 5)).alloc (.cells #[.int .u8 1] 5)) (some ⟨w2.heap.size + 1, 0, none⟩) 1 [1]) := fun w2 => by
    have := Byt.lit (w2.alloc (.cells #[.int .u8 4] 5)) [1] (by simp) (by simp)
    simpa [u8s] using this
  have k4 : Hid (([4] : List Int).length = 1) := rfl
  have k1 : Hid (([1] : List Int).length = 1) := rfl
  have q4 : Hid (hashZ [4] 0 = 5) := by show _ = _; decide
  have q1 : Hid (endsZ [1] 0 = 1) := by show _ = _; unfold endsZ; rw [if_pos (by simp)]; simp [pl_short]
  go_enter Try.func8, Try.ntmps8
  go_wp2_with (first | (go_at_call 9; (with_reducible refine (cut_view _ _ _ [1, 2, 3, 4, 5] _ _ 1 HL.out l5.out HC5.out l1.out).mono ?_); rintro e w2 ⟨A, cap, rfl, hcap, hB, hv⟩; obtain ⟨hb2, g, rfl, x, c, hc⟩ := HV.out w2 A hB hv; clear hB hv) | (go_at_call 11; (with_reducible refine (hash_eq _ _ _ [4] 0 5 _ (H4.out _) k4.out q4.out).mono ?_); rintro e w' ⟨rfl, rfl⟩) | (go_at_call 13; (with_reducible refine (ends_eq _ _ _ [1] 0 1 _ (H1.out _) k1.out q1.out).mono ?_); rintro e w' ⟨rfl, rfl⟩))
  go_ret
  exact ⟨by first | rfl | decide, (((hb2.out.alloc (by have := hb2.out.size; omega) _)).alloc (by have := hb2.out.size; simp; omega) _)⟩
/-- What the walk is told of a slice of integers that came in. -/
def IsRow (k : IntKind) (w : World) (a : Option Addr) (len cap : Nat) (zs : List Int) : Prop :=
  (a = none ∧ len = 0 ∧ cap = 0 ∧ zs = []) ∨
  ∃ x, a = some x ∧ len ≤ cap ∧ cap ≤ maxLen ∧ zs.length = cap ∧ (∀ i, i < zs.length → w.cell? (x.add i) = some (.int k (zs.getD i 0))) ∧ ∀ n ∈ zs, (Lit.int k n).wf = true
theorem IsRow.len {w : World} {a : Option Addr} {len cap : Nat} {zs : List Int} (h : IsRow .u8 w a len cap zs) : len ≤ 9223372036854775807 := by
  rcases h with ⟨_, h, _, _⟩ | ⟨_, _, h, h2, _⟩
  · omega
  · unfold maxLen at h2; omega
theorem IsRow.byt {w : World} {a : Option Addr} {len cap : Nat} {zs : List Int} (h : IsRow .u8 w a len cap zs) (hl : len ≤ 1000000) : Byt w a cap (zs.take len) ∧ (zs.take len).length = len := by
  rcases h with ⟨rfl, rfl, rfl, rfl⟩ | ⟨x, rfl, h1, h2, h3, h4, h5⟩
  · exact ⟨Byt.none w, rfl⟩
  · have hlen : (zs.take len).length = len := by simp; omega
    refine ⟨⟨by omega, by omega, fun j hj => ⟨x, rfl, ?_, ?_⟩⟩, hlen⟩
    · rw [h4 j (by omega)]
      simp only [List.getD_eq_getElem?_getD, List.getElem?_take]
      rw [if_pos (by omega)]
    · have : (zs.take len).getD j 0 ∈ zs := by
        rw [List.getD_eq_getElem?_getD, List.getElem?_eq_getElem hj]
        exact List.mem_of_mem_take (List.getElem_mem hj)
      exact bounds_u8 (h5 _ this)
end Go.Proofs.Ytnfipkbokfmfjaa
