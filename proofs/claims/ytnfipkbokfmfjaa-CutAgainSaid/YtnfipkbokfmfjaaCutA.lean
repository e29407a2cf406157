/- The plain side of the laws of chapter 9: the hash of a window, where pieces end, the pieces. -/
import Derived.Laws.Bits
namespace Go.Proofs.Ytnfipkbokfmfjaa
/-- One step of the hash, as Go's uint32 arithmetic has it. -/
def hs (h b : Int) : Int := ((h * 31 % 4294967296 + b % 4294967296) % 4294967296 + 1) % 4294967296
/-- The hash of the window that ends at i. -/
def hash (l : List Int) (i : Nat) : Int := ((l.take (i + 1)).drop (i + 1 - 8)).foldl hs 0
def good (l : List Int) (i : Nat) : Bool := bits BinOp.and IntKind.u32 (hash l i / 65536) 15 == 0
/-- How long the piece is with which a list begins. -/
def pl (s : List Int) : Nat :=
  match (List.range' 7 (min s.length 64 - 7)).find? (good s) with
  | some i => i + 1
  | none => min s.length 64

theorem hs_range (h b : Int) : 0 ≤ hs h b ∧ hs h b < 4294967296 := by unfold hs; omega
theorem foldl_range (l : List Int) : 0 ≤ l.foldl hs 0 ∧ l.foldl hs 0 < 4294967296 := by
  rcases List.eq_nil_or_concat l with rfl | ⟨l', b, rfl⟩
  · simp
  · simp [List.foldl_append]; exact hs_range _ _
theorem hash_range (l : List Int) (i : Nat) : 0 ≤ hash l i ∧ hash l i < 4294967296 := foldl_range _

theorem hash_drop (l : List Int) (f i : Nat) (h : 7 ≤ i) : hash l (f + i) = hash (l.drop f) i := by
  unfold hash
  congr 1
  rw [show f + i + 1 - 8 = f + (i + 1 - 8) by omega, List.take_drop, List.drop_drop]
  congr 2
theorem good_drop (l : List Int) (f i : Nat) (h : 7 ≤ i) : good l (f + i) = good (l.drop f) i := by unfold good; rw [hash_drop _ _ _ h]

theorem hash_append (a c : List Int) (i : Nat) (h : 7 ≤ i) : hash (a ++ c) (a.length + i) = hash c i := by
  rw [hash_drop _ _ _ h]; simp

theorem pl_bounds (s : List Int) : pl s ≤ s.length ∧ pl s ≤ 64 ∧ (8 ≤ pl s ∨ pl s = s.length) := by
  unfold pl
  split
  · rename_i i hi
    have := List.mem_of_find?_eq_some hi
    simp [List.mem_range'_1] at this
    omega
  · omega
theorem pl_pos (s : List Int) (h : s ≠ []) : 0 < pl s := by
  have := pl_bounds s
  have : 0 < s.length := List.length_pos_iff.2 h
  omega

/-- The first good place from i on, ahead of e; else e. -/
theorem find_step {p : Nat → Bool} (i n : Nat) : (List.range' i (n + 1)).find? p = if p i then some i else (List.range' (i + 1) n).find? p := by
  rw [List.range'_succ, List.find?_cons]
  cases p i <;> rfl

/-- All the places at which pieces end, of a list that begins at a place. -/
def endsL (s : List Int) (at_ : Int) : List Int :=
  if _h : s = [] then [] else (at_ + pl s) :: endsL (s.drop (pl s)) (at_ + pl s)
termination_by s.length
decreasing_by have := pl_pos s (by assumption); have : 0 < s.length := List.length_pos_iff.2 (by assumption); simp; omega

/-- The pieces. -/
def cut (s : List Int) : List (List Int) :=
  if _h : s = [] then [] else s.take (pl s) :: cut (s.drop (pl s))
termination_by s.length
decreasing_by have := pl_pos s (by assumption); have : 0 < s.length := List.length_pos_iff.2 (by assumption); simp; omega

theorem cut_cons (s : List Int) (h : s ≠ []) : cut s = s.take (pl s) :: cut (s.drop (pl s)) := by rw [cut]; simp [h]
theorem cut_nil : cut [] = [] := by rw [cut]; simp

theorem cut_length (s : List Int) : (s.length + 63) / 64 ≤ (cut s).length ∧ (cut s).length ≤ (s.length + 7) / 8 := by
  induction hn : s.length using Nat.strongRecOn generalizing s with
  | _ n ih =>
    by_cases h : s = []
    · subst h; rw [cut_nil]; simp at hn; subst hn; simp
    · rw [cut_cons s h]
      have hb := pl_bounds s
      have hp := pl_pos s h
      have := ih (s.drop (pl s)).length (by simp; omega) _ rfl
      simp at this ⊢
      omega

theorem hash_step (l : List Int) (k0 k : Nat) (h0 : k0 ≤ k) (h : k < l.length) : ((l.take (k + 1)).drop k0).foldl hs 0 = hs (((l.take k).drop k0).foldl hs 0) (l.getD k 0) := by
  rw [List.take_succ_eq_append_getElem h, List.drop_append_of_le_length (by simp; omega), List.foldl_append]
  simp [List.getD, h]
/-- The hash at any place. -/
def hashZ (l : List Int) (i : Int) : Int := if 0 ≤ i ∧ i < l.length then hash l i.toNat else 0
/-- Where the piece ends that begins at any place. -/
def endsZ (l : List Int) (f : Int) : Int := if 0 ≤ f ∧ f < l.length then f + pl (l.drop f.toNat) else l.length
end Go.Proofs.Ytnfipkbokfmfjaa
