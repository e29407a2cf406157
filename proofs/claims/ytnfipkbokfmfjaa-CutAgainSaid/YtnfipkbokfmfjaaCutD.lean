import Derived.Test.YtnfipkbokfmfjaaCutC
import Derived.Maps.AppendAt
import Derived.Deep.Onto
namespace Go.Proofs.Ytnfipkbokfmfjaa
open Go.RowKit
theorem info5 : (Try.prog.info? 5).map (fun i => (i.zero, i.size, i.bytes)) = some (some (.int .u8 0), 1, 1) := by kernel_rfl
theorem info22 : (Try.prog.info? 22).map (fun i => (i.zero, i.size, i.bytes)) = some (some (.slice none 0 0), 1, 24) := by kernel_rfl
def u8s (l : List Int) : List Value := l.map (Value.int .u8)
theorem u8s_one (l : List Int) : ∀ u ∈ u8s l, u.oneCell' = true := by
  intro u hu
  obtain ⟨_, _, rfl⟩ := List.mem_map.1 hu
  rfl
theorem Byt.cells {w : World} {x : Addr} {cap : Nat} {l : List Int} (h : Byt w (some x) cap l) : ∀ j u, (u8s l)[j]? = some u → w.cell? (x.add j) = some u := by
  intro j u hu
  have hj : j < l.length := by have := (List.getElem?_eq_some_iff.1 hu).1; simpa [u8s] using this
  obtain ⟨y, hy, hc, _, _⟩ := h.cell j hj
  cases hy
  rw [hc, ← hu]
  simp [u8s, List.getD, hj]
/-- Behind Clone: new memory of its own. -/
def ClonePost (w : World) (l : List Int) (e : Ending) (w' : World) : Prop :=
  ∃ g c, e = .returned (.slice (some ⟨g, 0, none⟩) l.length c) ∧ Byt w' (some ⟨g, 0, none⟩) c l ∧ w.heap.size ≤ g ∧ g < w'.heap.size ∧ w.grownBy w' none
set_option maxHeartbeats 400000 in
theorem clone_any (x : Addr) (c : Nat) (l : List Int) (w : World) (h : Byt w (some x) c l) (hx : l ≠ []) :
    Calls Try.prog 16 #[.slice (some x) l.length c] w (ClonePost w l) := by
  obtain ⟨i0, hi, hz0, hz1, hz2⟩ := info_parts info5
  have hxl : x.block < w.heap.size := by
    obtain ⟨y, hy, hc, _, _⟩ := h.cell 0 (List.length_pos_iff.2 hx)
    cases hy
    have := World.block_lt_of_cell? w _ hc
    unfold Addr.add at this; simpa using this
  have HB := Lib.hid h
  have hsm := h.small
  have HX := Lib.hid hx
  clear h hx
  obtain ⟨n, hn⟩ : ∃ n, Hid (n = l.length) := ⟨_, rfl⟩
  rw [← hn.out]
  rw [← hn.out] at hsm
  have HM : Hid (maxLen = 9223372036854775807) := by show _ = _; decide
  have heq := fun wx => Lib.run_eql_slice_nil (P := Try.prog) wx 22 5 (some x) n c 0 0 Try.underlying22
  have HL := Lib.hid (World.ownsRow_lit (base := w.heap.size) (size := 1) (e := 5) w #[] 0 (Nat.le_refl _) (by decide) rfl)
  go_enter Try.func16, Try.ntmps16
  go_wp2_with (at_builtin; refine wpList_append_own_at _ rfl _ _ 22 rfl w.heap.size 5 i0 (.int .u8 0) 1 1 Try.underlying22 hi hz0 hz1 hz2 rfl (by decide) _ 0 [] rfl HL.out x n c (u8s l) rfl ?c1 ?c2 ?c3 ?c4 ?c5 ?c6 ?_)
  case c1 => have := hn.out; simp [u8s]; omega
  case c2 =>
    intro j u hj
    rw [World.cell?_of_block (w := w) (by rw [show (x.add j).block = x.block by unfold Addr.add; split <;> rfl]; exact Below.heap_alloc w _ _ hxl)]
    exact HB.out.cells j u hj
  case c3 => exact u8s_one l
  case c4 => have := HM.out; omega
  case c5 => omega
  intro v' w' ho hg hne hat
  have FIN : Hid (∃ g c, v' = .slice (some ⟨g, 0, none⟩) n c ∧ Byt w' (some ⟨g, 0, none⟩) c l ∧ w.heap.size ≤ g ∧ g < w'.heap.size ∧ w.grownBy w' none) := by
    have hg' : w.grownBy w' none := ⟨hg.os, hg.tape, hg.output, by have := hg.size; simp at this; omega, fun k hk _ => by
      rw [hg.block k (by simp; omega) (by simp [Value.ownBlock]; omega)]; exact Below.heap_alloc w _ k hk⟩
    rcases ho.2 with ⟨h, _⟩ | ⟨g', c', cur, rfl, hb, hh, hnc, hcm, hcs, ht⟩
    · exact absurd h hne
    · refine ⟨g', c', rfl, ⟨by have := hn.out; omega, HB.out.small, fun j hj => ⟨_, rfl, ?_, ?_⟩⟩, hb, (ho.lt _ rfl).2, hg'⟩
      · rw [show (⟨g', 0, none⟩ : Addr).add j = ⟨g', j, none⟩ by unfold Addr.add; split <;> simp_all]
        have := ho.cellAt j (by have := hn.out; omega)
        rw [this]; simp [u8s, List.getD, hj]
      · obtain ⟨_, _, _, h0, h1⟩ := HB.out.cell j hj
        exact ⟨h0, h1⟩
  obtain ⟨g', c', rfl, FIN2⟩ := FIN.out
  have FIN3 := Lib.hid FIN2
  clear FIN FIN2
  clear ho hg hne hat
  go_wp2
  go_ret
  exact ⟨g', c', by rw [← hn.out]; rfl, FIN3.out⟩
/-- Slices that read as lists of bytes, one by one; each lies in a block other than o's. -/
def Pcs (w : World) (o : Option Nat) (vals : List Value) (ps : List (List Int)) : Prop :=
  vals.length = ps.length ∧ ∀ i, i < ps.length → ∃ x c, vals[i]? = some (.slice (some x) (ps.getD i []).length c) ∧ Byt w (some x) c (ps.getD i []) ∧ some x.block ≠ o ∧ x.block < w.heap.size ∧ ps.getD i [] ≠ []
theorem Byt.keep {w w' : World} {x : Addr} {c : Nat} {l : List Int} (h : Byt w (some x) c l) (hb : w'.heap[x.block]? = w.heap[x.block]?) : Byt w' (some x) c l :=
  ⟨h.le, h.small, fun j hj => by
    obtain ⟨y, hy, hc, h0, h1⟩ := h.cell j hj
    cases hy
    exact ⟨x, rfl, by rw [World.cell?_of_block (w := w) (by rw [show (x.add j).block = x.block by unfold Addr.add; split <;> rfl]; exact hb)]; exact hc, h0, h1⟩⟩
theorem Pcs.nil (w : World) (o : Option Nat) : Pcs w o [] [] := ⟨rfl, fun i hi => by simp at hi⟩
/-- Pieces stay what they are, where their blocks stay. -/
theorem Pcs.keep {w w' : World} {o o' : Option Nat} {vals : List Value} {ps : List (List Int)} (h : Pcs w o vals ps) (hb : ∀ k, k < w.heap.size → some k ≠ o → w'.heap[k]? = w.heap[k]?) (hs : w.heap.size ≤ w'.heap.size) (ho : ∀ k, k < w.heap.size → some k ≠ o → some k ≠ o') : Pcs w' o' vals ps :=
  ⟨h.1, fun i hi => by
    obtain ⟨x, c, hv, hB, hn, hl, hne⟩ := h.2 i hi
    exact ⟨x, c, hv, hB.keep (hb _ hl hn), ho _ hl hn, by omega, hne⟩⟩
theorem Pcs.snoc {w : World} {o : Option Nat} {vals : List Value} {ps : List (List Int)} (h : Pcs w o vals ps) {x : Addr} {c : Nat} {p : List Int} (hB : Byt w (some x) c p) (hn : some x.block ≠ o) (hl : x.block < w.heap.size) (hne : p ≠ []) :
    Pcs w o (vals ++ [.slice (some x) p.length c]) (ps ++ [p]) := by
  refine ⟨by simp [h.1], fun i hi => ?_⟩
  simp at hi
  by_cases hlt : i < ps.length
  · have := h.2 i hlt
    rw [List.getElem?_append_left (by rw [h.1]; exact hlt)]
    simpa [List.getD, List.getElem?_append_left hlt] using this
  · obtain rfl : i = ps.length := by omega
    refine ⟨x, c, ?_, ?_, hn, hl, ?_⟩
    · rw [List.getElem?_append_right (by rw [h.1]; exact Nat.le_refl _), h.1]; simp [List.getD]
    · simpa [List.getD] using hB
    · simpa [List.getD] using hne
/-- What a call leaves that makes a list of pieces: a slice of its own, and the pieces. -/
def Pieces (w w' : World) (v : Value) (ps : List (List Int)) : Prop :=
  ∃ vals, w'.ownsRow w.heap.size 22 1 v ps.length vals ∧ Pcs w' v.ownBlock vals ps ∧ Below w.heap.size w w'
def CutPost (w : World) (ps : List (List Int)) (e : Ending) (w' : World) : Prop := ∃ v, e = .returned v ∧ Pieces w w' v ps
/-- A piece behind: the law of one round. -/
theorem Pieces.snoc {w wr w2 w3 : World} {v v' : Value} {ps : List (List Int)} {vals : List Value} {x : Addr} {c : Nat} {p : List Int}
    (h : Pcs wr v.ownBlock vals ps) (hb : Below w.heap.size w wr)
    (h1 : wr.grownBy w2 none) (hown : w2.ownsRow w.heap.size 22 1 v ps.length vals)
    (hB : Byt w2 (some x) c p) (hl : x.block < w2.heap.size) (hxv : some x.block ≠ v.ownBlock) (hne : p ≠ [])
    (ho : w3.ownsRow w.heap.size 22 1 v' (ps.length + 1) (vals ++ [.slice (some x) p.length c])) (hg : (w2.alloc (.cells #[.slice (some x) p.length c] 22)).grownBy w3 v.ownBlock)
    (hat : v'.ownBlock = v.ownBlock ∨ v'.ownBlock = some (w2.heap.size + 1)) : Pieces w w3 v' (ps ++ [p]) := by
  have hg' : w2.grownBy w3 v.ownBlock := ⟨hg.os, hg.tape, hg.output, by have := hg.size; simp at this; omega, fun k hk hne => by
    rw [hg.block k (by simp; omega) hne]; exact Below.heap_alloc w2 _ k hk⟩
  have hne' : ∀ k, k < w2.heap.size → some k ≠ v.ownBlock → some k ≠ v'.ownBlock := by
    intro k hk hkv
    rcases hat with e | e
    · rw [e]; exact hkv
    · rw [e]; simp; omega
  have hs1 := h1.size
  refine ⟨_, by simpa using ho, ?_, ?_⟩
  · refine Pcs.snoc ?_ (hB.keep (hg'.block _ hl hxv)) (hne' _ hl hxv) (by have := hg'.size; omega) hne
    exact h.keep (fun k hk hkv => by rw [hg'.block k (by omega) hkv]; exact h1.block k hk (by simp)) (by have := hg'.size; omega) (fun k hk hkv => hne' k (by omega) hkv)
  · have hb2 := hb.grown h1 hb.size (by simp)
    exact hb2.grown hg' hb2.size (fun k hk => (hown.lt k hk).1)
end Go.Proofs.Ytnfipkbokfmfjaa
