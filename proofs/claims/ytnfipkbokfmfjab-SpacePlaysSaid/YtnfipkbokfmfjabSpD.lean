import Derived.Test.YtnfipkbokfmfjabSpC
namespace Go.Proofs.Ytnfipkbokfmfjab
open Go.RowKit

theorem idx_first (i m : Nat) : idx (List.replicate i true ++ List.replicate m false) 0 = if m = 0 then -1 else (i : Int) := by
  have key : ∀ s, idx (List.replicate i true ++ List.replicate m false) s = if m = 0 then -1 else ((s + i : Nat) : Int) := by
    induction i with
    | zero =>
      intro s
      cases m with
      | zero => simp [idx]
      | succ m => simp [List.replicate_succ, idx]
    | succ i ih =>
      intro s
      simp only [List.replicate_succ, List.cons_append, idx]
      rw [if_neg (by decide), ih (s + 1)]
      split
      · rfl
      · omega
  rw [key 0]; simp
theorem set_first (i m : Nat) : (List.replicate i true ++ List.replicate (m + 1) false).set i true = List.replicate (i + 1) true ++ List.replicate m false := by
  rw [List.set_append]
  simp [List.replicate_succ' (n := i), List.replicate_succ (n := m)]
theorem frees_replicate (k : Nat) (b : Bool) : frees (List.replicate k b) = if b then 0 else k := by
  unfold frees; rw [List.countP_replicate]; cases b <;> simp
/-- The rows of the second loop of SpaceAll: what is still taken behind i rounds. -/
def turned (k r i : Nat) : List Bool := (List.range k).map fun p => decide (i ≤ (if r ≤ p then p - r else p + k - r))
theorem turned_zero (k r : Nat) : turned k r 0 = List.replicate k true := by
  unfold turned
  apply List.ext_getElem
  · simp
  · intro p h1 h2; simp
theorem turned_all (k r : Nat) (h : r < k) : turned k r k = List.replicate k false := by
  unfold turned
  apply List.ext_getElem
  · simp
  · intro p h1 h2
    simp at h1 ⊢
    split <;> omega
theorem turned_len (k r i : Nat) : (turned k r i).length = k := by simp [turned]
theorem turned_get (k r i q : Nat) (hq : q < k) : (turned k r i).getD q false = decide (i ≤ (if r ≤ q then q - r else q + k - r)) := by
  simp [turned, List.getD, hq]
theorem turned_set (k r i : Nat) (hr : r < k) (hi : i < k) (q : Nat) (hq : q = if i + r < k then i + r else i + r - k) :
    q < k ∧ (turned k r i).getD q false = true ∧ (turned k r i).set q false = turned k r (i + 1) := by
  have hqk : q < k := by subst hq; split <;> omega
  refine ⟨hqk, ?_, ?_⟩
  · rw [turned_get _ _ _ _ hqk]
    subst hq
    simp only [decide_eq_true_eq]
    split <;> split <;> omega
  · unfold turned
    apply List.ext_getElem
    · simp
    · intro p h1 h2
      simp only [List.getElem_set, List.getElem_map, List.getElem_range]
      simp at h2
      split
      · rename_i e
        subst e
        symm
        simp only [decide_eq_false_iff_not]
        subst hq
        split <;> split <;> omega
      · apply decide_eq_decide.2
        simp at h1
        grind
theorem mod_add (i o k : Nat) (hi : i < k) : ((i : Int) + (o : Int)) % (k : Int) = ((if i + o % k < k then i + o % k else i + o % k - k : Nat) : Int) := by
  have h1 : (i + o) % k = if i + o % k < k then i + o % k else i + o % k - k := by
    rw [Nat.add_mod, Nat.mod_eq_of_lt hi]
    have : o % k < k := Nat.mod_lt _ (by omega)
    split
    · exact Nat.mod_eq_of_lt (by assumption)
    · rw [Nat.mod_eq_sub_mod (by omega)]; exact Nat.mod_eq_of_lt (by omega)
  rw [← h1]
  simp
theorem give_yes (base b g : Nat) (bs : List Bool) (q : Nat) (w : World) (h : SpaceAt w base b g bs) (hq : q < bs.length) (hx : bs.getD q false = true) :
    Calls Try.prog 15 #[.pointer (some ⟨b, 0, none⟩), .int .i64 q] w fun e w' => e = .returned (.bool true) ∧ SpaceAt w' base b g (bs.set q false) ∧ w.grownBy w' (some g) := by
  refine (give_any _ _ _ _ _ _ h).mono ?_
  rintro e w' (⟨h1, _, _⟩ | ⟨_, rfl, hs, hg⟩)
  · exact absurd ⟨by omega, by omega, by simpa using hx⟩ h1
  · exact ⟨rfl, hs, hg⟩
theorem give_no (base b g : Nat) (bs : List Bool) (q : Int) (w : World) (h : SpaceAt w base b g bs) (hq : q < 0 ∨ bs.length ≤ q ∨ bs.getD q.toNat false = false) :
    Calls Try.prog 15 #[.pointer (some ⟨b, 0, none⟩), .int .i64 q] w fun e w' => e = .returned (.bool false) ∧ w = w' := by
  refine (give_any _ _ _ _ _ _ h).mono ?_
  rintro e w' (⟨_, rfl, rfl⟩ | ⟨⟨h1, h2, h3⟩, _⟩)
  · exact ⟨rfl, rfl⟩
  · rcases hq with h | h | h
    · omega
    · omega
    · rw [h] at h3; cases h3
theorem claim_yes (base b g : Nat) (bs : List Bool) (q : Nat) (w : World) (h : SpaceAt w base b g bs) (hq : q < bs.length) (hx : bs.getD q false = false) :
    Calls Try.prog 12 #[.pointer (some ⟨b, 0, none⟩), .int .i64 q] w fun e w' => e = .returned (.bool true) ∧ SpaceAt w' base b g (bs.set q true) ∧ w.grownBy w' (some g) := by
  refine (claim_any _ _ _ _ _ _ h).mono ?_
  rintro e w' (⟨h1, _, _⟩ | ⟨_, rfl, hs, hg⟩)
  · exact absurd ⟨by omega, by omega, by simpa using hx⟩ h1
  · exact ⟨rfl, hs, hg⟩
theorem claim_no (base b g : Nat) (bs : List Bool) (q : Int) (w : World) (h : SpaceAt w base b g bs) (hq : q < 0 ∨ bs.length ≤ q ∨ bs.getD q.toNat false = true) :
    Calls Try.prog 12 #[.pointer (some ⟨b, 0, none⟩), .int .i64 q] w fun e w' => e = .returned (.bool false) ∧ w = w' := by
  refine (claim_any _ _ _ _ _ _ h).mono ?_
  rintro e w' (⟨_, rfl, rfl⟩ | ⟨⟨h1, h2, h3⟩, _⟩)
  · exact ⟨rfl, rfl⟩
  · rcases hq with h | h | h
    · omega
    · omega
    · rw [h] at h3; cases h3
theorem new_nat (k : Nat) (hk : k ≤ 96) (w : World) : Calls Try.prog 11 #[.int .i64 k] w (NewPost w (List.replicate k false)) := by
  have := new_any k w
  rwa [show (min (max (k : Int) 0) 96).toNat = k by omega] at this
theorem free_eq (base b g : Nat) (bs : List Bool) (f : Nat) (w : World) (h : SpaceAt w base b g bs) (hf : frees bs = f) :
    Calls Try.prog 14 #[.pointer (some ⟨b, 0, none⟩)] w fun e w' => e = .returned (.int .i64 f) ∧ w = w' := by
  subst hf; exact free_any _ _ _ _ _ h
end Go.Proofs.Ytnfipkbokfmfjab
