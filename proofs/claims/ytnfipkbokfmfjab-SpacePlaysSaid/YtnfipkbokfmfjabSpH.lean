import Derived.Test.YtnfipkbokfmfjabSpG
import Derived.Deep.DeepCutAuto
import Derived.Deep.CutBlock
namespace Go.Proofs.Ytnfipkbokfmfjab
open Go.RowKit
/-- A space, and beside it a row of bools that says the same. -/
structure Play (wr w : World) (B b g ob k : Nat) (bs : List Bool) : Prop where
  hS : SpaceAt wr B b g bs
  hO : wr.ownsRow w.heap.size 4 1 (.slice (some ⟨ob, 0, none⟩) k k) k (bs.map Value.bool)
  hB : Below w.heap.size w wr
  h0 : w.heap.size ≤ B
  n1 : g ≠ ob
  n2 : b ≠ ob
  len : bs.length = k
theorem Play.cell {wr w : World} {B b g ob k : Nat} {bs : List Bool} (h : Play wr w B b g ob k bs) (j : Nat) (hj : j < k) : wr.cell? ⟨ob, j, none⟩ = some (.bool (bs.getD j false)) ∧ wr.frozen? ⟨ob, j, none⟩ = false := by
  refine ⟨?_, h.hO.frozenAt j⟩
  rw [h.hO.cellAt j (by omega)]
  have := h.len
  simp [List.getD, show j < bs.length by omega]
theorem Play.grown {wr w w' : World} {B b g ob k : Nat} {bs : List Bool} (h : Play wr w B b g ob k bs) (hg : wr.grownBy w' none) : Play w' w B b g ob k bs :=
  ⟨h.hS.keep hg (by simp) (by simp), h.hO.kept hg (.inr (by simp [Value.ownBlock])), h.hB.grown hg h.hB.size (by simp), h.h0, h.n1, h.n2, h.len⟩
/-- Behind a Take, a Claim, a Give that did it, and the store beside it. -/
theorem Play.did {wr w w' : World} {B b g ob k : Nat} {bs : List Bool} (h : Play wr w B b g ob k bs) (p : Nat) (x : Bool) (hs : SpaceAt w' B b g (bs.set p x)) (hg : wr.grownBy w' (some g)) : Play (w'.setCell ⟨ob, p, none⟩ (.bool x)) w B b g ob k (bs.set p x) := by
  have hO := (h.hO.kept hg (.inr (by simpa [Value.ownBlock] using fun e => h.n1 e.symm))).stored p (.bool x)
  have hb1 := h.hB.grown hg h.hB.size (by rintro y ⟨⟩; exact Nat.le_trans h.h0 h.hS.lt.2.1)
  refine ⟨hs.keep hO.2 (by simpa using fun e => h.n2 e.symm) (by simpa using fun e => h.n1 e.symm), ?_, hb1.grown hO.2 hb1.size (by rintro y ⟨⟩; exact (h.hO.lt _ rfl).1), h.h0, h.n1, h.n2, by simpa using h.len⟩
  have := hO.1
  rwa [show (bs.set p x).map Value.bool = (bs.map Value.bool).set p (.bool x) by simp]
theorem Play.did2 {wr w w' w7 : World} {B b g ob k cg : Nat} {bs : List Bool} (h : Play wr w B b g ob k bs) (p : Nat) (hp : p < k) (x : Bool) (hs : SpaceAt w' B b g (bs.set p x)) (hg : wr.grownBy w' (some g)) (hg7 : w'.grownBy w7 (some cg)) (c1 : cg ≠ b) (c2 : cg ≠ g) (c3 : cg ≠ ob) (c4 : w.heap.size ≤ cg) :
    Play (w7.setCell ⟨ob, p, none⟩ (.bool x)) w B b g ob k (bs.set p x) ∧ w7.cell? ⟨ob, p, none⟩ = some (.bool (bs.getD p false)) ∧ w7.frozen? ⟨ob, p, none⟩ = false := by
  have hl := h.hS.lt
  have hO1 := h.hO.kept hg (.inr (by simpa [Value.ownBlock] using fun e => h.n1 e.symm))
  have hO2 := hO1.kept hg7 (.inr (by simpa [Value.ownBlock] using fun e => c3 e.symm))
  have hO := hO2.stored p (.bool x)
  have hb1 := h.hB.grown hg h.hB.size (by rintro y ⟨⟩; exact Nat.le_trans h.h0 h.hS.lt.2.1)
  have hb2 := hb1.grown hg7 hb1.size (by rintro y ⟨⟩; exact c4)
  have hs2 := hs.keep hg7 (by simpa using c1) (by simpa using c2)
  refine ⟨⟨hs2.keep hO.2 (by simpa using fun e => h.n2 e.symm) (by simpa using fun e => h.n1 e.symm), ?_, hb2.grown hO.2 hb2.size (by rintro y ⟨⟩; exact (h.hO.lt _ rfl).1), h.h0, h.n1, h.n2, by simpa using h.len⟩, ?_, hO2.frozenAt p⟩
  · have := hO.1
    rwa [show (bs.set p x).map Value.bool = (bs.map Value.bool).set p (.bool x) by simp]
  · rw [hO2.cellAt p (by omega), ← h.hO.cellAt p (by omega)]
    exact (h.cell p hp).1
theorem frees_unset (bs : List Bool) (p : Nat) (hp : p < bs.length) (h : bs.getD p false = true) : frees (bs.set p false) = frees bs + 1 := by
  have := frees_set (bs.set p false) p (by simpa using hp) (by simp [List.getD, hp])
  rw [List.set_set] at this
  rw [this]
  congr 1
  congr 1
  have e : bs[p] = true := by simpa [List.getD, hp] using h
  rw [← e]; exact List.set_getElem_self hp
theorem idx_is (bs : List Bool) (p : Nat) (h : idx bs 0 = p) : bs.getD p false = false := by
  have key : ∀ (p : Nat) (l : List Bool) (s : Nat), idx l s = ((s + p : Nat) : Int) → l.getD p false = false := by
    intro p
    induction p with
    | zero =>
      intro l s hl
      cases l with
      | nil => simp
      | cons b r =>
        simp only [idx] at hl
        have := idx_range r (s + 1)
        split at hl
        · simpa [List.getD] using by assumption
        · omega
    | succ p ih =>
      intro l s hl
      cases l with
      | nil => simp
      | cons b r =>
        simp only [idx] at hl
        split at hl
        · omega
        · have := ih r (s + 1) (by rw [hl]; congr 1; omega)
          simpa [List.getD] using this
  exact key p bs 0 (by simpa using h)
theorem frees_drop (bs : List Bool) (m : Nat) (h : m < bs.length) : frees (bs.drop m) = (if bs.getD m false then 0 else 1) + frees (bs.drop (m + 1)) := by
  unfold frees
  rw [List.drop_eq_getElem_cons h, List.countP_cons]
  have : bs.getD m false = bs[m] := by simp [List.getD, h]
  rw [this]; cases bs[m] <;> simp <;> omega
set_option maxRecDepth 100000 in
set_option maxHeartbeats 8000000 in
theorem spacePlays_any (n : Int) (a : Option Addr) (len cap : Nat) (D N : Nat → Int) (w : World) (hn0 : -9223372036854775808 ≤ n) (hn1 : n ≤ 9223372036854775807) (hlen : len ≤ 9223372036854775807)
    (HC : Hid (∀ j, j < len → ∃ x, a = some x ∧ (-9223372036854775808 ≤ N j ∧ N j ≤ 9223372036854775807) ∧ w.cell? (x.add (j * 2)) = some (.int .i64 (D j)) ∧ w.cell? ⟨(x.add (j * 2)).block, (x.add (j * 2)).off + 1, none⟩ = some (.int .i64 (N j)))) :
    Calls Try.prog 7 #[.int .i64 n, .slice a len cap] w fun e w' => e = .returned (.bool true) ∧ Below w.heap.size w w' := by
  obtain ⟨i0, hi, hz0, hz1, hz2⟩ := info_parts info4
  obtain ⟨k, HK⟩ : ∃ k, Hid (k = (min (max n 0) 96).toNat) := ⟨_, rfl⟩
  have hk96 : k ≤ 96 := by have := HK.out; omega
  by_cases hbig : 300 < len
  · go_enter Try.func7, Try.ntmps7
    go_wp2_with (go_at_call 8; refine (awake_any w).mono ?_; rintro e w1 ⟨rfl, HG⟩)
    go_ret
    exact ⟨rfl, below_of_grown HG (by simp)⟩
  go_enter Try.func7, Try.ntmps7
  go_upto_region 5 with (go_at_call 8; refine (awake_any w).mono ?_; rintro e w1 ⟨rfl, HG⟩)
  have HB1 : Hid (Below w.heap.size w w1) := below_of_grown HG (by simp)
  clear HG
  go_cut [5, 24, 25, 26] (fun v _ _ _ wc => v = .int .i64 k ∧ w1 = wc)
  case first =>
    have hk := HK.out
    by_cases h0 : n < 0
    · obtain rfl : k = 0 := by omega
      clear hk
      go_wp2
      go_meet
      case rel => exact ⟨rfl, rfl⟩
    · by_cases h1 : n ≤ 96
      · obtain rfl : n = k := by omega
        clear hk
        go_wp2
        all_goals
          go_meet
          case rel => exact ⟨rfl, rfl⟩
      · obtain rfl : k = 96 := by omega
        clear hk
        go_wp2
        all_goals
          go_meet
          case rel => exact ⟨rfl, rfl⟩
  case rest =>
    obtain ⟨rfl, rfl⟩ := hcut
    have HNEW : Hid (Calls Try.prog 11 #[.int .i64 n] w1 (NewPost w1 (List.replicate k false))) := by rw [HK.out]; exact new_any n w1
    go_wp2_with (first | (go_at_call 11; refine HNEW.out.mono ?_; rintro e w2 ⟨b, g, rfl, HS, HG⟩) | (at_make; refine wpList_make_full _ rfl _ _ 35 rfl w.heap.size 4 i0 (.bool false) 1 Try.underlying35 hi hz0 hz1 _ _ _ _ k rfl rfl rfl rfl (by rw [hz2]; omega) (by unfold maxLen; omega) (Nat.le_trans HB1.out.size HG.size) ?_))
    intro w3 ho hg
    have HT : Hid (Play w3 w w1.heap.size b g w2.heap.size k (List.replicate k false)) := by
      have l1 := HS.lt
      have l2 := HG.size
      have l4 := HB1.out.size
      exact ⟨HS.keep hg (by simp) (by simp), by rw [toList_madeCells_one] at ho; simpa using ho, (HB1.out.trans (below_of_grown' HG l4)).trans (below_of_grown' hg (by omega)), l4, by omega, by omega, by simp⟩
    generalize w2.heap.size = ob at HT ⊢
    clear HS HG HB1 ho hg HNEW
    go_wp2
    go_loopw [8] (fun i wr => ∃ (j : Nat) (bs : List Bool), j ≤ len ∧ i = .int .i64 j ∧ Hid (Play wr w w1.heap.size b g ob k bs)) (fun i _ => len - (intOf i).toNat)
    case atStart => exact ⟨0, _, by omega, rfl, HT⟩
    case round =>
      clear HT
      obtain ⟨j, bs, hj, rfl, hT⟩ := hrel
      by_cases hlt : j < len
      · obtain ⟨x, rfl, ⟨hN0, hN1⟩, hc0, hc1⟩ := HC.out j hlt
        have hd0 : wr.cell? (x.add (j * 2)) = some (.int .i64 (D j)) := (hT.out.hB.cell (p := x.add (j * 2)) (World.block_lt_of_cell? w _ hc0)).trans hc0
        have hd1 : wr.cell? ⟨(x.add (j * 2)).block, (x.add (j * 2)).off + 1, none⟩ = some (.int .i64 (N j)) := (hT.out.hB.cell (p := ⟨(x.add (j * 2)).block, (x.add (j * 2)).off + 1, none⟩) (World.block_lt_of_cell? w _ hc1)).trans hc1
        clear hc0 hc1
        generalize D j = dd at hd0 
        generalize N j = nn at hd1 hN0 hN1
        go_upto_region 14 with (fail)
        go_cut [10] (fun v wq => v = .bool (decide (0 ≤ nn ∧ nn < k)) ∧ wq = wr.alloc (.cells #[.int .i64 dd, .int .i64 nn] 40))
        case first =>
          rcases (by omega : nn < 0 ∨ (0 ≤ nn ∧ nn < k) ∨ (k ≤ nn)) with h | ⟨h, h'⟩ | h
          · go_wp2
            go_meet
            case rel => exact ⟨by congr 1; symm; simp; omega, rfl⟩
          · go_wp2
            go_meet
            case rel => exact ⟨by congr 1; symm; simp; omega, rfl⟩
          · have h' : 0 ≤ nn := by omega
            go_wp2
            go_meet
            case rel => exact ⟨by congr 1; symm; simp; omega, rfl⟩
        case rest =>
          obtain ⟨rfl, hwq⟩ := hcut
          have hT2 : Hid (Play wc w w1.heap.size b g ob k bs) := by rw [hwq]; exact hT.out.grown (World.grownBy_alloc wr _ none)
          have hd : wc.cell? ⟨wr.heap.size, 0, none⟩ = some (.int .i64 dd) ∧ wc.cell? ⟨wr.heap.size, 1, none⟩ = some (.int .i64 nn) := by
            rw [hwq, cell_of_row _ _ _ _ _ _ (heap_alloc_new wr _), cell_of_row _ _ _ _ _ _ (heap_alloc_new wr _)]; exact ⟨rfl, rfl⟩
          have hdl : w.heap.size ≤ wr.heap.size ∧ b ≠ wr.heap.size ∧ g ≠ wr.heap.size ∧ ob ≠ wr.heap.size := by
            have h1 := hT.out.hS.lt
            have h2 := hT.out.hB.size
            have h3 : ob < wr.heap.size := (hT.out.hO.lt ob rfl).2
            omega
          generalize wr.heap.size = db at hd hdl ⊢
          clear hwq hT hd0 hd1
          obtain ⟨hd0, hd1⟩ := hd
          have HL := Lib.hid hT2.out.len
          go_wp2
          go_loop [11, 12, 13] (fun l f q => ∃ m : Nat, m ≤ k ∧ q = .int .i64 ((m : Int) - 1) ∧ l = .int .i64 (idx (bs.drop m) m) ∧ f = .int .i64 (frees (bs.drop m))) (fun _ _ q => (intOf q + 1).toNat)
          case atStart => exact ⟨k, by omega, rfl, by rw [List.drop_eq_nil_of_le (by have := HL.out; omega)]; rfl, by rw [List.drop_eq_nil_of_le (by have := HL.out; omega)]; rfl⟩
          case round =>
            obtain ⟨m, hm, rfl, rfl, rfl⟩ := hrel
            by_cases hm0 : 1 ≤ m
            · obtain ⟨m, rfl⟩ : ∃ m', m = m' + 1 := ⟨m - 1, by omega⟩
              have hcm := (hT2.out.cell m (by omega)).1
              have hfd := Lib.hid (frees_drop bs m (by have := HL.out; omega))
              have hid := Lib.hid (idx_drop bs m (by have := HL.out; omega))
              have hfl : frees (bs.drop (m + 1)) ≤ 96 := by have := frees_le (bs.drop (m + 1)); have := HL.out; rw [List.length_drop] at *; omega
              obtain ⟨y, hy⟩ : ∃ y, Hid (bs.getD m false = y) := ⟨_, rfl⟩
              rw [hy.out] at hcm
              have hm1 : ((m + 1 : Nat) : Int) - 1 = m := by omega
              rw [hm1]
              cases y
              · go_wp2
                go_round
                case rel => exact ⟨m, by omega, by go_num, by rw [hid.out, if_pos hy.out], by rw [hfd.out, hy.out]; go_num⟩
                case measure => simp [intOf]
              · go_wp2
                go_round
                case rel => exact ⟨m, by omega, by go_num, by rw [hid.out, if_neg (by rw [hy.out]; decide)], by rw [hfd.out, hy.out]; simp⟩
                case measure => simp [intOf]
            · obtain rfl : m = 0 := by omega
              rw [List.drop_zero]
              have hfl : frees bs ≤ 96 := by have := frees_le bs; have := HL.out; omega
              rcases (by omega : dd ≤ 2 ∨ dd = 3 ∨ 3 < dd) with h1 | rfl | h1
              · have hir := idx_range bs 0
                generalize hix : idx bs 0 = ix at hir ⊢
                generalize hfr : frees bs = fr at hfl ⊢
                have HIX := Lib.hid hix
                have HFR := Lib.hid hfr
                clear hix hfr
                by_cases hneg : ix < 0
                · obtain rfl : ix = -1 := by omega
                  have HN : Hid (idx bs 0 < 0) := by show _ < _; rw [HIX.out]; omega
                  clear hneg hir
                  go_wp2_with (first | (go_at_call 16; (with_reducible refine (copy_any _ _ _ _ _ hT2.out.hS (by have := HL.out; omega)).mono ?_); rintro e w5 ⟨cb, cg, rfl, HS5, HG5⟩; have hT5 := Lib.hid (hT2.out.grown HG5); have hS5 := Lib.hid HS5; clear HS5 HG5) | (go_at_call 13; first | ((with_reducible refine (take_none _ _ _ _ _ hT5.out.hS HN.out).mono ?_); rintro e w' ⟨rfl, rfl⟩) | ((with_reducible refine (take_none _ _ _ _ _ hS5.out HN.out).mono ?_); rintro e w' ⟨rfl, rfl⟩)) | (go_at_call 14; (with_reducible refine (free_eq _ _ _ _ fr _ hT5.out.hS HFR.out).mono ?_); rintro e w' ⟨rfl, rfl⟩))
                  go_roundw
                  case rel => exact ⟨j + 1, _, by omega, by go_num, hT5⟩
                  case measure => simp [intOf]; omega
                · obtain ⟨p, rfl⟩ : ∃ p : Nat, ix = p := ⟨ix.toNat, by omega⟩
                  have hpk : p < k := by have := HL.out; omega
                  clear hneg hir
                  have hy : Hid (bs.getD p false = false) := idx_is bs p HIX.out
                  obtain ⟨F, hF⟩ : ∃ F, Hid (frees (bs.set p true) = F) := ⟨_, rfl⟩
                  have hFF := frees_set bs p (by have := HL.out; omega) hy.out
                  rw [hF.out, HFR.out] at hFF
                  rw [hFF]
                  have hF96 : F ≤ 96 := by have := HFR.out; omega
                  clear hFF hfl
                  go_wp2_with (go_at_call 16; (with_reducible refine (copy_any _ _ _ _ _ hT2.out.hS (by have := HL.out; omega)).mono ?_); rintro e w5 ⟨cb, cg, rfl, HS5, HG5⟩)
                  have hT5 := Lib.hid (hT2.out.grown HG5)
                  have hS5 := Lib.hid HS5
                  have hl5 : wc.heap.size ≤ cb ∧ wc.heap.size ≤ cg ∧ cg < w5.heap.size ∧ cb < w5.heap.size := ⟨HS5.lt.1, HS5.lt.2.1, HS5.lt.2.2.2, HS5.lt.2.2.1⟩
                  have hl2 : b < wc.heap.size ∧ g < wc.heap.size ∧ ob < wc.heap.size := ⟨hT2.out.hS.lt.2.2.1, hT2.out.hS.lt.2.2.2, (hT2.out.hO.lt ob rfl).2⟩
                  have HL5 := Lib.hid (And.intro hl5 hl2)
                  clear HS5 HG5 hl5 hl2
                  go_wp2_with (go_at_call 13; (with_reducible refine (take_some _ _ _ _ p _ hT5.out.hS HIX.out).mono ?_); rintro e w6 ⟨rfl, HS6, HG6⟩)
                  have hT6 := Lib.hid (fun w7 h7 => hT5.out.did2 p hpk true HS6 HG6 (w7 := w7) (cg := cg) h7 (by have := HL5.out; omega) (by have := HL5.out; omega) (by have := HL5.out; omega) (by have := HL5.out; have := hT2.out.hB.size; omega))
                  have hS6 := Lib.hid (hS5.out.keep HG6 (by have := HL5.out; simp; omega) (by have := HL5.out; simp; omega))
                  clear HS6 HG6
                  go_wp2_with (first | (go_at_call 13; (with_reducible refine (take_some _ _ _ _ p _ hS6.out HIX.out).mono ?_); rintro e w7 ⟨rfl, HS7, HG7⟩; obtain ⟨hT7', hc7, hf7⟩ := hT6.out w7 HG7; have hT7 := Lib.hid hT7'; clear hT7') | (go_at_call 14; (with_reducible refine (free_eq _ _ _ _ F _ hT7.out.hS hF.out).mono ?_); rintro e w' ⟨rfl, rfl⟩))
                  go_roundw
                  case rel => exact ⟨j + 1, _, by omega, by go_num, hT7⟩
                  case measure => simp [intOf]; omega
              · by_cases hin : 0 ≤ nn ∧ nn < k
                · obtain ⟨p, rfl⟩ : ∃ p : Nat, nn = p := ⟨nn.toNat, by omega⟩
                  have hpk : p < k := by omega
                  clear hin
                  obtain ⟨hon1, hon2⟩ := hT2.out.cell p hpk
                  obtain ⟨y, hy⟩ : ∃ y, Hid (bs.getD p false = y) := ⟨_, rfl⟩
                  rw [hy.out] at hon1
                  cases y
                  · obtain ⟨F, hF⟩ : ∃ F, Hid (frees (bs.set p true) = F) := ⟨_, rfl⟩
                    have hFF := frees_set bs p (by have := HL.out; omega) hy.out
                    rw [hF.out] at hFF
                    rw [hFF]
                    have hF96 : F ≤ 96 := by omega
                    clear hFF hfl
                    have KO : Hid (∀ w4, wc.grownBy w4 (some g) → (w4.cell? ⟨ob, p, none⟩ = some (.bool false) ∧ w4.frozen? ⟨ob, p, none⟩ = false) ∧ w4.cell? ⟨db, 0, none⟩ = some (.int .i64 3) ∧ w4.cell? ⟨db, 1, none⟩ = some (.int .i64 p)) := fun w4 HG => by
                      have h1 := hT2.out.hO.kept HG (.inr (by simpa [Value.ownBlock] using fun e => hT2.out.n1 e.symm))
                      refine ⟨⟨?_, h1.frozenAt p⟩, HG.cell hd0 (by simpa using fun e => hdl.2.2.1 e.symm), HG.cell hd1 (by simpa using fun e => hdl.2.2.1 e.symm)⟩
                      rw [h1.cellAt p (by omega), ← hT2.out.hO.cellAt p (by omega)]
                      exact hon1
                    go_wp2_with (first | (go_at_call 12; (with_reducible refine (claim_yes _ _ _ _ p _ hT2.out.hS (by have := HL.out; omega) hy.out).mono ?_); rintro e w4 ⟨rfl, HS, HG⟩; obtain ⟨⟨hn1, hn2⟩, hn3, hn4⟩ := KO.out w4 HG; have hT4 := Lib.hid (hT2.out.did p true HS HG)) | (go_at_call 14; (with_reducible refine (free_eq _ _ _ _ F _ hT4.out.hS hF.out).mono ?_); rintro e w' ⟨rfl, rfl⟩))
                    go_roundw
                    case rel => exact ⟨j + 1, _, by omega, by go_num, hT4⟩
                    case measure => simp [intOf]; omega
                  · go_wp2_with (first | (go_at_call 12; (with_reducible refine (claim_no _ _ _ _ _ _ hT2.out.hS (.inr (.inr (by rw [Int.toNat_natCast]; exact hy.out)))).mono ?_); rintro e w' ⟨rfl, rfl⟩) | (go_at_call 14; (with_reducible refine (free_any _ _ _ _ _ hT2.out.hS).mono ?_); rintro e w' ⟨rfl, rfl⟩))
                    go_roundw
                    case rel => exact ⟨j + 1, _, by omega, by go_num, hT2⟩
                    case measure => simp [intOf]; omega
                · have hdf : decide (0 ≤ nn ∧ nn < (k : Int)) = false := decide_eq_false hin
                  rw [hdf]
                  have hor : nn < 0 ∨ (bs.length : Int) ≤ nn ∨ bs.getD nn.toNat false = true := by have := HL.out; omega
                  have HOR := Lib.hid hor
                  clear hor hdf hin
                  go_wp2_with (first | (go_at_call 12; (with_reducible refine (claim_no _ _ _ _ _ _ hT2.out.hS HOR.out).mono ?_); rintro e w' ⟨rfl, rfl⟩) | (go_at_call 14; (with_reducible refine (free_any _ _ _ _ _ hT2.out.hS).mono ?_); rintro e w' ⟨rfl, rfl⟩))
                  go_roundw
                  case rel => exact ⟨j + 1, _, by omega, by go_num, hT2⟩
                  case measure => simp [intOf]; omega
              · have hd3 : (dd == 3) = false := by simp; omega
                by_cases hin : 0 ≤ nn ∧ nn < k
                · obtain ⟨p, rfl⟩ : ∃ p : Nat, nn = p := ⟨nn.toNat, by omega⟩
                  have hpk : p < k := by omega
                  clear hin
                  obtain ⟨hon1, hon2⟩ := hT2.out.cell p hpk
                  obtain ⟨y, hy⟩ : ∃ y, Hid (bs.getD p false = y) := ⟨_, rfl⟩
                  rw [hy.out] at hon1
                  cases y
                  · go_wp2_with (first | (go_at_call 15; (with_reducible refine (give_no _ _ _ _ _ _ hT2.out.hS (.inr (.inr (by rw [Int.toNat_natCast]; exact hy.out)))).mono ?_); rintro e w' ⟨rfl, rfl⟩) | (go_at_call 14; (with_reducible refine (free_any _ _ _ _ _ hT2.out.hS).mono ?_); rintro e w' ⟨rfl, rfl⟩))
                    go_roundw
                    case rel => exact ⟨j + 1, _, by omega, by go_num, hT2⟩
                    case measure => simp [intOf]; omega
                  · have hF := Lib.hid (frees_unset bs p (by have := HL.out; omega) hy.out)
                    have KO : Hid (∀ w4, wc.grownBy w4 (some g) → (w4.cell? ⟨ob, p, none⟩ = some (.bool true) ∧ w4.frozen? ⟨ob, p, none⟩ = false) ∧ w4.cell? ⟨db, 0, none⟩ = some (.int .i64 dd) ∧ w4.cell? ⟨db, 1, none⟩ = some (.int .i64 p)) := fun w4 HG => by
                      have h1 := hT2.out.hO.kept HG (.inr (by simpa [Value.ownBlock] using fun e => hT2.out.n1 e.symm))
                      refine ⟨⟨?_, h1.frozenAt p⟩, HG.cell hd0 (by simpa using fun e => hdl.2.2.1 e.symm), HG.cell hd1 (by simpa using fun e => hdl.2.2.1 e.symm)⟩
                      rw [h1.cellAt p (by omega), ← hT2.out.hO.cellAt p (by omega)]
                      exact hon1
                    go_wp2_with (first | (go_at_call 15; (with_reducible refine (give_yes _ _ _ _ p _ hT2.out.hS (by have := HL.out; omega) hy.out).mono ?_); rintro e w4 ⟨rfl, HS, HG⟩; obtain ⟨⟨hn1, hn2⟩, hn3, hn4⟩ := KO.out w4 HG; have hT4 := Lib.hid (hT2.out.did p false HS HG)) | (go_at_call 14; (with_reducible refine (free_eq _ _ _ _ (frees bs + 1) _ hT4.out.hS hF.out).mono ?_); rintro e w' ⟨rfl, rfl⟩))
                    go_roundw
                    case rel => exact ⟨j + 1, _, by omega, by go_num, hT4⟩
                    case measure => simp [intOf]; omega
                · have hdf : decide (0 ≤ nn ∧ nn < (k : Int)) = false := decide_eq_false hin
                  rw [hdf]
                  have hor : nn < 0 ∨ (bs.length : Int) ≤ nn ∨ bs.getD nn.toNat false = false := by have := HL.out; omega
                  have HOR := Lib.hid hor
                  clear hor hdf hin
                  go_wp2_with (first | (go_at_call 15; (with_reducible refine (give_no _ _ _ _ _ _ hT2.out.hS HOR.out).mono ?_); rintro e w' ⟨rfl, rfl⟩) | (go_at_call 14; (with_reducible refine (free_any _ _ _ _ _ hT2.out.hS).mono ?_); rintro e w' ⟨rfl, rfl⟩))
                  go_roundw
                  case rel => exact ⟨j + 1, _, by omega, by go_num, hT2⟩
                  case measure => simp [intOf]; omega
      · go_wp2
        go_ret
        exact ⟨rfl, hT.out.hB⟩
end Go.Proofs.Ytnfipkbokfmfjab
