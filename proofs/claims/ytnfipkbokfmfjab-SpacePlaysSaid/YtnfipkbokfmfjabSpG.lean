import Derived.Test.YtnfipkbokfmfjabSpF
namespace Go.Proofs.Ytnfipkbokfmfjab
open Go.RowKit
/-- The array 'on': its first places are as a list says, the others false. -/
structure OnAt (w : World) (B ob : Nat) (bs : List Bool) : Prop where
  hb : B ≤ ob
  st : ∃ c : Array Value, w.heap[ob]? = some (.cells c 28 (0, 0)) ∧ ∀ p, p < 40 → c[p]? = some (.bool (bs.getD p false))
theorem OnAt.cell {w : World} {B ob : Nat} {bs : List Bool} (h : OnAt w B ob bs) (p : Nat) (hp : p < 40) : w.cell? ⟨ob, p, none⟩ = some (.bool (bs.getD p false)) ∧ w.frozen? ⟨ob, p, none⟩ = false := by
  obtain ⟨_, c, hc, hv⟩ := h
  exact ⟨by rw [cell_of_row w ob p c 28 (0, 0) hc]; exact hv p hp, frozen_of_row w ob p c 28 hc⟩
theorem OnAt.lt {w : World} {B ob : Nat} {bs : List Bool} (h : OnAt w B ob bs) : ob < w.heap.size := by
  obtain ⟨_, c, hc, _⟩ := h
  exact (Array.getElem?_eq_some_iff.1 hc).1
theorem OnAt.keep {w w' : World} {B ob : Nat} {bs : List Bool} {r : Option Nat} (h : OnAt w B ob bs) (hg : w.grownBy w' r) (hr : r ≠ some ob) : OnAt w' B ob bs := by
  have hl := h.lt
  obtain ⟨hb, c, hc, hv⟩ := h
  exact ⟨hb, c, by rw [hg.block ob hl (fun e => hr e.symm)]; exact hc, hv⟩
theorem OnAt.set {w : World} {B ob : Nat} {bs : List Bool} (h : OnAt w B ob bs) (p : Nat) (hp : p < bs.length) : OnAt (w.setCell ⟨ob, p, none⟩ (.bool true)) B ob (bs.set p true) ∧ w.grownBy (w.setCell ⟨ob, p, none⟩ (.bool true)) (some ob) := by
  obtain ⟨hb, c, hc, hv⟩ := h
  refine ⟨⟨hb, _, heap_setCell_same w ob p c 28 _ hc, fun q hq => ?_⟩, ⟨rfl, rfl, rfl, by simp, fun k _ hk => heap_setCell_other w ⟨ob, p, none⟩ k _ (fun e => hk (by simp [e]))⟩⟩
  have := hv q hq
  rw [Array.getElem?_setIfInBounds]
  have hs : q < c.size := (Array.getElem?_eq_some_iff.1 this).1
  by_cases e : p = q
  · subst e; simp [hs, List.getD, hp]
  · rw [if_neg e, this]; simp [List.getD, e]
theorem frees_set (bs : List Bool) (p : Nat) (hp : p < bs.length) (h : bs.getD p false = false) : frees bs = frees (bs.set p true) + 1 := by
  unfold frees
  induction bs generalizing p with
  | nil => simp at hp
  | cons b r ih =>
    cases p with
    | zero => simp [List.getD] at h; subst h; simp
    | succ p =>
      have := ih p (by simpa using hp) (by simpa [List.getD] using h)
      simp only [List.set_cons_succ, List.countP_cons]
      omega
/-- The rows of the second loop: i are taken, the others as they were. -/
def upto (bs : List Bool) (i : Nat) : List Bool := List.replicate i true ++ bs.drop i
theorem upto_zero (bs : List Bool) : upto bs 0 = bs := by simp [upto]
theorem upto_len (bs : List Bool) (i : Nat) (h : i ≤ bs.length) : (upto bs i).length = bs.length := by simp [upto]; omega
theorem upto_true (bs : List Bool) (i : Nat) (h : i < bs.length) (hb : bs.getD i false = true) : upto bs i = upto bs (i + 1) := by
  have e : bs[i] = true := by simpa [List.getD, h] using hb
  unfold upto
  rw [List.drop_eq_getElem_cons h, e, List.replicate_succ']; simp
theorem idx_upto (bs : List Bool) (i : Nat) (h : i < bs.length) (hb : bs.getD i false = false) : idx (upto bs i) 0 = i ∧ (upto bs i).set i true = upto bs (i + 1) ∧ frees (upto bs i) = frees (upto bs (i + 1)) + 1 := by
  have e : bs[i] = false := by simpa [List.getD, h] using hb
  have key : ∀ n s, idx (List.replicate n true ++ bs.drop i) s = ((s + n : Nat) : Int) := by
    intro n
    induction n with
    | zero => intro s; rw [List.drop_eq_getElem_cons h, e]; simp [idx]
    | succ n ih => intro s; simp only [List.replicate_succ, List.cons_append, idx]; rw [if_neg (by decide), ih]; omega
  have hs : (upto bs i).set i true = upto bs (i + 1) := by
    unfold upto
    rw [List.set_append, if_neg (by simp), List.length_replicate, Nat.sub_self, List.drop_eq_getElem_cons h, List.set_cons_zero, List.replicate_succ' (n := i)]
    simp
  refine ⟨by unfold upto; rw [key]; simp, hs, ?_⟩
  rw [← hs]
  exact frees_set _ _ (by rw [upto_len _ _ (by omega)]; exact h) (by unfold upto List.getD; rw [List.getElem?_append_right (by simp)]; simp [List.getElem?_drop, h, e])
theorem upto_all (bs : List Bool) : upto bs bs.length = List.replicate bs.length true := by simp [upto]
theorem idx_all (k s : Nat) : idx (List.replicate k true) s < 0 := by
  induction k generalizing s with
  | zero => simp [idx]
  | succ k ih => simp only [List.replicate_succ, idx]; rw [if_neg (by decide)]; exact ih _
structure Held (wr w : World) (B b g ob k : Nat) (ss bs : List Bool) : Prop where
  hS : SpaceAt wr B b g ss
  hO : OnAt wr B ob bs
  hB : Below w.heap.size w wr
  h0 : w.heap.size ≤ B
  n1 : g ≠ ob
  n2 : b ≠ ob
  len : bs.length = k
  len2 : ss.length = k
theorem Held.claimed {wr w w4 : World} {B b g ob k : Nat} {bs : List Bool} (h : Held wr w B b g ob k bs bs) (p : Nat) (hp : p < bs.length) (hs : SpaceAt w4 B b g (bs.set p true)) (hg : wr.grownBy w4 (some g)) :
    Held (w4.setCell ⟨ob, p, none⟩ (.bool true)) w B b g ob k (bs.set p true) (bs.set p true) := by
  have hO := (h.hO.keep hg (by simpa using h.n1)).set p hp
  have hb1 := h.hB.grown hg h.hB.size (by rintro x ⟨⟩; exact Nat.le_trans h.h0 h.hS.lt.2.1)
  exact ⟨hs.keep hO.2 (by simpa using fun e => h.n2 e.symm) (by simpa using fun e => h.n1 e.symm), hO.1, hb1.grown hO.2 hb1.size (by rintro x ⟨⟩; exact Nat.le_trans h.h0 h.hO.hb), h.h0, h.n1, h.n2, by simpa using h.len, by simpa using h.len⟩
theorem Held.taken {wr w w4 : World} {B b g ob k : Nat} {ss ss' bs : List Bool} (h : Held wr w B b g ob k ss bs) (hs : SpaceAt w4 B b g ss') (hl : ss'.length = k) (hg : wr.grownBy w4 (some g)) : Held w4 w B b g ob k ss' bs :=
  ⟨hs, h.hO.keep hg (by simpa using h.n1), h.hB.grown hg h.hB.size (by rintro x ⟨⟩; exact Nat.le_trans h.h0 h.hS.lt.2.1), h.h0, h.n1, h.n2, h.len, hl⟩
set_option maxHeartbeats 400000 in
theorem spaceClaims_any (n : Nat) (a : Option Addr) (len cap : Nat) (z : List Int) (w : World) (hn : n < 256) (hb : IsRow .u8 w a len cap z) :
    Calls Try.prog 4 #[.int .u8 n, .slice a len cap] w fun e w' => e = .returned (.bool true) ∧ Below w.heap.size w w' := by
  obtain ⟨k, HK⟩ : ∃ k, Hid (k = n % 40) := ⟨_, rfl⟩
  have hk97 : k < 40 := by have := HK.out; omega
  have hmod : (n : Int) % 40 = k := by have := HK.out; omega
  have hlen : len ≤ 9223372036854775807 := by
    rcases hb with ⟨_, h, _, _⟩ | ⟨_, _, h, h2, _⟩
    · omega
    · unfold maxLen at h2; omega
  have HC : Hid (∀ j, j < len → ∃ x, a = some x ∧ ∃ v : Nat, v < 256 ∧ w.cell? (x.add j) = some (.int .u8 v)) := by
    intro j hj
    rcases hb with ⟨_, h, _, _⟩ | ⟨x, hx, h, _, hz, h2, h3⟩
    · omega
    · have hm := bounds_u8 (h3 (z.getD j 0) (by rw [show z.getD j 0 = z[j]'(by omega) by simp [List.getD, show j < z.length by omega]]; exact List.getElem_mem _))
      refine ⟨x, hx, (z.getD j 0).toNat, by omega, ?_⟩
      rw [h2 j (by omega)]
      congr 2
      omega
  clear hb
  by_cases hbig : 100 < len
  · go_enter Try.func4, Try.ntmps4
    go_wp2_with (first | (go_at_call 8; refine (awake_any w).mono ?_; rintro e w1 ⟨rfl, HG⟩) | (go_at_call 11; refine (new_nat k (by omega) _).mono ?_; rintro e w2 ⟨b, g, rfl, HS, HG2⟩))
    go_ret
    exact ⟨rfl, (below_of_grown HG (by simp)).trans (below_of_grown' HG2 HG.size)⟩
  · go_enter Try.func4, Try.ntmps4
    go_wp2_with (go_at_call 8; refine (awake_any w).mono ?_; rintro e w1 ⟨rfl, HG⟩)
    have HB1 : Hid (Below w.heap.size w w1) := below_of_grown HG (by simp)
    clear HG
    go_wp2_with (go_at_call 11; refine (new_nat k (by omega) _).mono ?_; rintro e w2 ⟨b, g, rfl, HS, HG⟩)
    have HT : Hid (Held (w2.alloc (.cells (Array.replicate 40 (.bool false)) 28)) w w1.heap.size b g w2.heap.size k (List.replicate k false) (List.replicate k false)) := by
      have l1 := HS.lt
      have l2 := HG.size
      have l4 := HB1.out.size
      exact ⟨HS.keep (World.grownBy_alloc w2 _ none) (by simp) (by simp), ⟨l2, _, heap_alloc_new w2 _, fun p hp => by rw [Array.getElem?_replicate, if_pos hp]; congr 2; simp only [List.getD_eq_getElem?_getD, List.getElem?_replicate]; split <;> rfl⟩,
        (HB1.out.trans (below_of_grown' HG l4)).alloc (by omega) _, l4, by omega, by omega, by simp, by simp⟩
    have hbig' : len ≤ 100 := by omega
    generalize w2.heap.size = ob at HT ⊢
    have hfr : Hid (frees (List.replicate k false) = k) := frees_replicate k false
    clear HS HG HB1
    go_loopw [8, 9, 10] (fun f i _ wr => ∃ (j : Nat) (bs : List Bool), j ≤ len ∧ i = .int .i64 j ∧ f = .int .i64 (frees bs) ∧ Hid (Held wr w w1.heap.size b g ob k bs bs)) (fun _ i _ _ => len - (intOf i).toNat)
    case atStart => exact ⟨0, _, by omega, rfl, by rw [hfr.out], HT⟩
    case round =>
      clear HT
      obtain ⟨j, bs, hj, rfl, rfl, hT⟩ := hrel
      have hfl : frees bs ≤ 40 := by have := frees_le bs; have := hT.out.len; omega
      by_cases hlt : j < len
      · obtain ⟨x, rfl, v, hv, hc⟩ := HC.out j hlt
        have hcell : wr.cell? (x.add j) = some (.int .u8 v) := (hT.out.hB.cell (p := x.add j) (World.block_lt_of_cell? w _ hc)).trans hc
        clear hc
        obtain ⟨c, hcv⟩ : ∃ c, Hid (c = v % 40) := ⟨_, rfl⟩
        have hc40 : c < 40 := by have := hcv.out; omega
        have hmodc : (v : Int) % 40 = c := by have := hcv.out; omega
        have hcl := Lib.hid hT.out.len
        have hon := hT.out.hO.cell c hc40
        by_cases hck : c < k
        · obtain ⟨y, hy⟩ : ∃ y, Hid (bs.getD c false = y) := ⟨_, rfl⟩
          rw [hy.out] at hon
          cases y
          · obtain ⟨ho1, ho2⟩ := hon
            have hfs := Lib.hid (frees_set bs c (by have := hcl.out; omega) hy.out)
            have KO : Hid (∀ w4, wr.grownBy w4 (some g) → w4.cell? ⟨ob, c, none⟩ = some (.bool false) ∧ w4.frozen? ⟨ob, c, none⟩ = false) := fun w4 HG => by
              have := (hT.out.hO.keep HG (by simpa using hT.out.n1)).cell c hc40
              rwa [hy.out] at this
            go_wp2_with (go_at_call 12; refine (claim_yes _ _ _ _ c _ hT.out.hS (by have := hcl.out; omega) hy.out).mono ?_; rintro e w4 ⟨rfl, HS, HG⟩; obtain ⟨hn1, hn2⟩ := KO.out w4 HG)
            go_roundw
            case rel => exact ⟨j + 1, _, by omega, by go_num, by rw [hfs.out]; congr 1; omega, hT.out.claimed c (by have := hcl.out; omega) HS HG⟩
            case measure => simp [intOf]; omega
          · obtain ⟨ho1, ho2⟩ := hon
            go_wp2_with (go_at_call 12; refine (claim_no _ _ _ _ _ _ hT.out.hS (.inr (.inr (by rw [Int.toNat_natCast]; exact hy.out)))).mono ?_; rintro e w' ⟨rfl, rfl⟩)
            go_roundw
            case rel => exact ⟨j + 1, bs, by omega, by go_num, rfl, hT⟩
            case measure => simp [intOf]; omega
        · go_wp2_with (go_at_call 12; refine (claim_no _ _ _ _ _ _ hT.out.hS (.inr (.inl (by have := hcl.out; omega)))).mono ?_; rintro e w' ⟨rfl, rfl⟩)
          go_roundw
          case rel => exact ⟨j + 1, bs, by omega, by go_num, rfl, hT⟩
          case measure => simp [intOf]; omega
      · go_wp2
        have hT2 : Hid (Held wr w w1.heap.size b g ob k (upto bs 0) bs) := by rw [upto_zero]; exact hT
        have hf2 : Hid (frees bs = frees (upto bs 0)) := by rw [upto_zero]; rfl
        clear hT hj hlt hlen HC
        go_loopw [8, 11, 12, 13] (fun f i _ _ wr => ∃ j : Nat, j ≤ k ∧ i = .int .i64 j ∧ f = .int .i64 (frees (upto bs j)) ∧ Hid (Held wr w w1.heap.size b g ob k (upto bs j) bs)) (fun _ i _ _ _ => k - (intOf i).toNat)
        case atStart => exact ⟨0, by omega, rfl, by rw [hf2.out], hT2⟩
        case round =>
          clear hT2 hf2
          obtain ⟨j, hj, rfl, rfl, hT⟩ := hrel
          have hfl2 : frees (upto bs j) ≤ 40 := by have := frees_le (upto bs j); have := hT.out.len2; omega
          by_cases hlt : j < k
          · have hbl := Lib.hid hT.out.len
            have hon := (hT.out.hO.cell j (by omega)).1
            obtain ⟨y, hy⟩ : ∃ y, Hid (bs.getD j false = y) := ⟨_, rfl⟩
            rw [hy.out] at hon
            cases y
            · obtain ⟨hi, hset, hfr⟩ := idx_upto bs j (by have := hbl.out; omega) hy.out
              have HSET := Lib.hid hset
              have HFR := Lib.hid hfr
              have HI := Lib.hid hi
              clear hi hset hfr
              rw [HFR.out] at hfl2 ⊢
              generalize hF : frees (upto bs (j + 1)) = F at hfl2 ⊢
              have HF := Lib.hid hF
              clear hF HFR
              have HT4 : Hid (∀ w4, SpaceAt w4 w1.heap.size b g ((upto bs j).set j true) → wr.grownBy w4 (some g) → Held w4 w w1.heap.size b g ob k (upto bs (j + 1)) bs) := fun w4 HS HG => by
                rw [HSET.out] at HS
                exact hT.out.taken HS (by rw [upto_len _ _ (by have := hbl.out; omega)]; exact hbl.out) HG
              go_wp2_with (first | (go_at_call 13; refine (take_some _ _ _ _ j _ hT.out.hS HI.out).mono ?_; rintro e w4 ⟨rfl, HS, HG⟩; have hT4 := Lib.hid (HT4.out w4 HS HG)) | (go_at_call 14; refine (free_eq _ _ _ _ F _ hT4.out.hS HF.out).mono ?_; rintro e w' ⟨rfl, rfl⟩))
              go_roundw
              case rel => exact ⟨j + 1, by omega, by go_num, by rw [HF.out], hT4⟩
              case measure => simp [intOf]; omega
            · have hup := Lib.hid (upto_true bs j (by have := hbl.out; omega) hy.out)
              go_wp2
              go_roundw
              case rel => exact ⟨j + 1, by omega, by go_num, by rw [hup.out], by rw [← hup.out]; exact hT⟩
              case measure => simp [intOf]; omega
          · obtain rfl : k = j := by omega
            have hall : Hid (upto bs k = List.replicate k true) := by show _ = _; have := upto_all bs; rwa [hT.out.len] at this
            have hT2 : Hid (Held wr w w1.heap.size b g ob k (List.replicate k true) bs) := by rw [← hall.out]; exact hT
            clear hT
            have hfz : Hid (frees (List.replicate k true) = 0) := frees_replicate k true
            go_wp2_with (first | (go_at_call 13; refine (take_none _ _ _ _ _ hT2.out.hS (idx_all _ _)).mono ?_; rintro e w' ⟨rfl, rfl⟩) | (go_at_call 14; refine (free_eq _ _ _ _ 0 _ hT2.out.hS hfz.out).mono ?_; rintro e w' ⟨rfl, rfl⟩))
            go_ret
            exact ⟨by first | rfl | decide, hT2.out.hB⟩
theorem walk_SpaceClaims (n : Int) (a : Option Addr) (len cap : Nat) (z : List Int) (w : World) (w0 : (Lit.int .u8 n).wf = true) (w1 : IsRow .u8 w a len cap z) :
    Calls Try.prog 4 #[.int .u8 n, .slice a len cap] w fun e w' => e = .returned (.bool true) ∧ Below w.heap.size w w' := by
  have h0 := bounds_u8 w0
  obtain ⟨m, rfl⟩ : ∃ m : Nat, n = m := ⟨n.toNat, by omega⟩
  exact spaceClaims_any m a len cap z w (by omega) w1
end Go.Proofs.Ytnfipkbokfmfjab
