/- TopNames: the contracts of D1, D2, D3, D4, D5, K4; no condition. -/
import Derived.Test.YtaonlcgneemimaaGreatDoorJ05
import Derived.Test.YtaonlcgneemimaaGreatDoorJ01
import Derived.Test.YtaonlcgneemimaaGreatDoorJ06
import Derived.Test.YtaonlcgneemimaaGreatDoorJ10
import Derived.Deep.RegionHeld3
import Derived.Test.YtaonlcgneemimaaGreatDoorJ03
namespace Go.Proofs.YtaonlcgneemimaaGreatDoor
open Go.RowKit
noncomputable def KI : KeyKind Tryz.prog 3 Int := intKey (q := .i64) Tryz.underlying3
noncomputable def KU : KeyKind Tryz.prog 128 Int := intKey (q := .u32) Tryz.underlying128
noncomputable def KS : KeyKind Tryz.prog 9 ByteArray := strKey Tryz.underlying9
theorem KI_good {x : Int} (h : -9223372036854775808 ≤ x ∧ x ≤ 9223372036854775807) : KI.good x := by
  show (Lit.int .i64 x).wf = true
  simp [Lit.wf]
  exact h
theorem KU_good {x : Int} (h : 0 ≤ x ∧ x ≤ 4294967295) : KU.good x := by
  show (Lit.int .u32 x).wf = true
  simp [Lit.wf]
  exact h
theorem crcSum_lo (l : List Int) : 0 ≤ crcSum l := by unfold crcSum crcNext; exact bits_lo_u32 _ _ _
theorem crcSum_hi (l : List Int) : crcSum l ≤ 4294967295 := by unfold crcSum crcNext; exact bits_hi_u32 _ _ _
/-- Bytes. -/
def ByteL (l : List Int) : Prop := ∀ x ∈ l, 0 ≤ x ∧ x ≤ 255
theorem conv_sl {w : World} {v : Value} {n : Nat} {xs : List Int} (h : Sl w 5 1 v n (u8s xs)) : (convert 33 9 v).run Tryz.prog w = .ok (.string (strOfNums xs)) w := by
  have hl : xs.length = n := by have := h.1; simpa [u8s] using this
  rcases h.2.2 with ⟨rfl, rfl⟩ | ⟨g, off, cap, arr, rfl, e2, e3, e4, e5, e6⟩
  · obtain rfl : xs = [] := List.eq_nil_of_length_eq_zero hl
    exact run_convert_bytes_nil (P := Tryz.prog) w 33 5 Tryz.underlying33 Tryz.underlying5 0 0 9 Tryz.underlying9
  · refine run_convert_bytes_arg (P := Tryz.prog) w 33 5 Tryz.underlying33 Tryz.underlying5 g off n cap xs hl (fun i hi => ?_) 9 Tryz.underlying9
    have h6 := e6 i (.int .u8 (xs.getD i 0)) (by simp [u8s, List.getD, List.getElem?_eq_getElem (show i < xs.length by omega)])
    rw [cellAt e5, h6]
theorem bytesOf_inj {xs ys : List Int} (hx : ByteL xs) (hy : ByteL ys) : (Lib.bytesOf xs == Lib.bytesOf ys) = decide (xs = ys) := by
  have key : ∀ xs ys : List Int, ByteL xs → ByteL ys → Lib.bytesOf xs = Lib.bytesOf ys → xs = ys := by
    intro xs
    induction xs with
    | nil => intro ys _ _ h; cases ys with
      | nil => rfl
      | cons y ys => simp [Lib.bytesOf] at h
    | cons x xs ih => intro ys hx hy h; cases ys with
      | nil => simp [Lib.bytesOf] at h
      | cons y ys =>
        simp only [Lib.bytesOf, List.map_cons, List.cons.injEq] at h
        obtain ⟨h1, h2⟩ := h
        have a := hx x (by simp)
        have b := hy y (by simp)
        have e : x = y := by
          have := congrArg UInt8.toNat h1
          simp at this
          omega
        rw [e, ih ys (fun z hz => hx z (by simp [hz])) (fun z hz => hy z (by simp [hz])) h2]
  by_cases h : xs = ys
  · subst h; simp
  · rw [decide_eq_false h]
    simp only [beq_eq_false_iff_ne, ne_eq]
    exact fun h2 => h (key xs ys hx hy h2)
theorem bytesEq_any (v1 v2 : Value) (n m : Nat) (xs ys : List Int) (w : World) (h1 : Sl w 5 1 v1 n (u8s xs)) (h2 : Sl w 5 1 v2 m (u8s ys)) (hx : ByteL xs) (hy : ByteL ys) :
    Calls Tryz.prog 149 #[v1, v2] w fun e w' => e = .returned (.bool (decide (xs = ys))) ∧ w' = w := by
  have := Tryz.bytes_Equal v1 v2 xs ys w (conv_sl h1) (conv_sl h2)
  rw [bytesOf_inj hx hy] at this
  exact this
/-- The numbers of the pieces from the i-th on that have a sum. -/
def idsFrom (k : Int) : Nat → List (List Int) → List Int
  | _, [] => []
  | i, p :: l => if crcSum p = k then ((i : Int) + 1) :: idsFrom k (i + 1) l else idsFrom k (i + 1) l
def ints (l : List Int) : List Value := l.map (Value.int .i64)
theorem ints_one (l : List Int) : ∀ u ∈ ints l, u.oneCell' = true := by
  intro u hu
  obtain ⟨x, _, rfl⟩ := List.mem_map.1 hu
  rfl
/-- The pieces' values. -/
def PiecesV (w : World) (vs : List Value) (P : List (List Int)) : Prop :=
  vs.length = P.length ∧ ∀ (i : Nat) v p, vs[i]? = some v → P[i]? = some p → Sl w 5 1 v p.length (u8s p) ∧ ByteL p ∧ 0 < p.length ∧ p.length ≤ 64
def ixV (vs : List Value) (id : Int) : Option Value := if 1 ≤ id then vs[(id - 1).toNat]? else none
/-- A store of pieces: its blocks lie from B on. -/
structure ChunksAt (w : World) (B c : Nat) (P : List (List Int)) (bl bb : Nat) (vs : List Value) (fb : Int → Option Value) (m : Nat) (sz : Int) : Prop where
  cell : w.heap[c]? = some (.cells #[.map (some bl), .map (some bb), .int .i64 (P.length + 1), .int .i64 sz] 118 (0, 0))
  lo : B ≤ c ∧ B ≤ bl ∧ B ≤ bb
  ne : bl ≠ bb
  pieces : PiecesV w vs P
  nodup : P.Nodup
  ml : MapX KI w bl P.length (ixV vs)
  mb : MapX KU w bb m fb
  rows : ∀ k v, fb k = some v → w.ownsRow B 3 1 v (idsFrom k 0 P).length (ints (idsFrom k 0 P)) ∧ 0 < (idsFrom k 0 P).length
  empty : ∀ k, fb k = none → idsFrom k 0 P = []
  apart : ∀ k k' v v', k ≠ k' → fb k = some v → fb k' = some v' → v.ownBlock ≠ v'.ownBlock
  small : P.length ≤ 100000 ∧ m ≤ P.length
theorem idsFrom_length (k : Int) : ∀ (i : Nat) (l : List (List Int)), (idsFrom k i l).length ≤ l.length
  | _, [] => by simp [idsFrom]
  | i, p :: l => by
    have := idsFrom_length k (i + 1) l
    unfold idsFrom
    split <;> simp <;> omega
theorem idsFrom_mem (k : Int) : ∀ (i : Nat) (l : List (List Int)) (id : Int), id ∈ idsFrom k i l → ∃ (j : Nat) (p : List Int), l[j]? = some p ∧ id = i + j + 1 ∧ crcSum p = k
  | _, [], id, h => by simp [idsFrom] at h
  | i, q :: l, id, h => by
    unfold idsFrom at h
    split at h
    · rcases List.mem_cons.1 h with rfl | h
      · rename_i hq
        exact ⟨0, q, rfl, by omega, hq⟩
      · obtain ⟨j, p, h1, h2, h3⟩ := idsFrom_mem k (i + 1) l id h
        exact ⟨j + 1, p, by simpa using h1, by omega, h3⟩
    · obtain ⟨j, p, h1, h2, h3⟩ := idsFrom_mem k (i + 1) l id h
      exact ⟨j + 1, p, by simpa using h1, by omega, h3⟩
theorem idsFrom_of (k : Int) : ∀ (i : Nat) (l : List (List Int)) (j : Nat) (p : List Int), l[j]? = some p → crcSum p = k → ((i : Int) + j + 1) ∈ idsFrom k i l
  | _, [], j, p, h, _ => by simp at h
  | i, q :: l, 0, p, h, hk => by
    simp at h; subst h
    unfold idsFrom
    rw [if_pos hk]
    simp
  | i, q :: l, j + 1, p, h, hk => by
    have := idsFrom_of k (i + 1) l j p (by simpa using h) hk
    unfold idsFrom
    rw [show ((i : Int) + ((j + 1 : Nat) : Int) + 1) = (((i + 1 : Nat) : Int) + j + 1) by omega]
    split
    · exact List.mem_cons_of_mem _ this
    · exact this
/-- Where a piece is, from 1 on. -/
def pieceId (P : List (List Int)) (b : List Int) : Option Int := (P.findIdx? (· == b)).map fun (i : Nat) => ((i : Int) + 1)
theorem pieceId_some {P : List (List Int)} {b : List Int} {j : Nat} (hn : P.Nodup) (h : P[j]? = some b) : pieceId P b = some ((j : Int) + 1) := by
  unfold pieceId
  have hj : j < P.length := (List.getElem?_eq_some_iff.1 h).1
  have hb : P[j] = b := (List.getElem?_eq_some_iff.1 h).2
  rw [show P.findIdx? (· == b) = some j by
    rw [List.findIdx?_eq_some_iff_getElem]
    refine ⟨hj, by simpa using hb, fun k hk => ?_⟩
    simp only [Bool.not_eq_true, beq_eq_false_iff_ne, ne_eq]
    intro e
    have := (List.getElem_inj (h₀ := by omega) (h₁ := hj) hn).1 (e.trans hb.symm)
    omega]
  rfl
theorem pieceId_none {P : List (List Int)} {b : List Int} (h : b ∉ P) : pieceId P b = none := by
  unfold pieceId
  rw [show P.findIdx? (· == b) = none by
    rw [List.findIdx?_eq_none_iff]
    intro x hx
    simp only [beq_eq_false_iff_ne, ne_eq]
    exact fun e => h (e ▸ hx)]
  rfl
end Go.Proofs.YtaonlcgneemimaaGreatDoor
namespace Go.Proofs.YtaonlcgneemimaaGreatDoor
open Go.RowKit
theorem zero90 : ∀ w, (zeroValue 90).run Tryz.prog w = .ok (.slice none 0 0) w := Tryz.zeroValue90
theorem zero33 : ∀ w, (zeroValue 33).run Tryz.prog w = .ok (.slice none 0 0) w := Tryz.zeroValue33
theorem keep_map {α : Type} {P : Program} {kt : TypeId} {K : KeyKind P kt α} {w w' : World} {b n : Nat} {f : α → Option Value} (h : MapX K w b n f) (hb : Below w.heap.size w w') : MapX K w' b n f := h.same (hb.block b h.lt)
theorem ChunksAt.below {w w' : World} {B c : Nat} {P : List (List Int)} {bl bb : Nat} {vs : List Value} {fb : Int → Option Value} {m : Nat} {sz : Int} (h : ChunksAt w B c P bl bb vs fb m sz) (hb : Below w.heap.size w w') : ChunksAt w' B c P bl bb vs fb m sz := by
  refine ⟨Below.heap hb (Nat.le_refl _) h.cell, h.lo, h.ne, ⟨h.pieces.1, fun i v p hv hp => ?_⟩, h.nodup, keep_map h.ml hb, keep_map h.mb hb, fun k v hv => ?_, h.empty, h.apart, h.small⟩
  · obtain ⟨h1, h2⟩ := h.pieces.2 i v p hv hp
    exact ⟨h1.below hb, h2⟩
  · obtain ⟨h1, h2⟩ := h.rows k v hv
    refine ⟨h1.kept (row := none) ⟨hb.os, hb.tape, hb.output, hb.size, fun k hk _ => hb.block k hk⟩ ?_, h2⟩
    rcases hv' : v.ownBlock with _ | x
    · exact .inl rfl
    · exact .inr (by simp)
set_option maxRecDepth 100000 in
set_option maxHeartbeats 1000000 in
theorem find_any (w : World) (B c : Nat) (P : List (List Int)) (bl bb : Nat) (vs : List Value) (fb : Int → Option Value) (m : Nat) (sz : Int) (H : ChunksAt w B c P bl bb vs fb m sz) (v : Value) (n : Nat) (b : List Int) (hv : Sl w 5 1 v b.length (u8s b)) (hb : ByteL b) (hn : b.length ≤ 1000000) :
    Calls Tryz.prog 106 #[.pointer (some ⟨c, 0, none⟩), v] w fun e w' => e = .returned (.tuple #[.int .i64 ((pieceId P b).getD 0), .bool (pieceId P b).isSome]) ∧ Below w.heap.size w w' := by
  have HH := Lib.hid H
  have HV := Lib.hid hv
  have HBL := Lib.hid hb
  obtain ⟨ids, hids⟩ : ∃ ids, Hid (ids = idsFrom (crcSum b) 0 P) := ⟨_, rfl⟩
  obtain ⟨av, hav⟩ : ∃ av, Hid (av = (fb (crcSum b)).getD (.slice none 0 0)) := ⟨_, rfl⟩
  have hsl : Sl w 3 1 av ids.length (ints ids) := by
    rw [hav.out, hids.out]
    cases h : fb (crcSum b) with
    | none => rw [H.empty _ h]; exact Sl.nil _ _ _
    | some v =>
      obtain ⟨h1, h2⟩ := H.rows _ _ h
      exact Sl.of_own h1 (ints_one _) (.inr h2)
  have hlook : ∀ w', MapX KU w' bb m fb → (Instr.lookup 116 (.map (some bb)) (.int .u32 (crcSum b)) false).run Tryz.prog w' = .ok av w' := fun w' hm => by
    rw [hav.out]
    exact (hm.look Tryz.underlying116 (zero90 w') (KU_good ⟨crcSum_lo b, crcSum_hi b⟩)).2
  obtain ⟨a, cap, rfl, hcap, -, hcells⟩ := hsl.shape
  have HC := Lib.hid hcells
  have HL := Lib.hid hlook
  have c1 := cellAt H.cell 1
  simp only [List.getElem?_toArray, List.getElem?_cons_zero, List.getElem?_cons_succ] at c1
  have hidl : ids.length ≤ 100000 := by rw [hids.out]; have := idsFrom_length (crcSum b) 0 P; have := H.small.1; omega
  clear H hv hb hsl hlook hcells
  go_enter Tryz.func106, Tryz.ntmps106
  go_wp2_with fail
  go_region_held3 (fun w' => w'.cell? ⟨c, 1, none⟩ = some (.map (some bb)) ∧ (Instr.lookup 116 (.map (some bb)) (.int .u32 (crcSum b)) false).run Tryz.prog w' = .ok (.slice a ids.length cap) w') (first | exact ⟨c1, HL.out _ (HH.out.mb.same rfl)⟩ | exact ⟨cQ, lQ⟩) (first | (go_at_call 148; refine (sum_any _ b _ (HV.out.below ((Below.refl _ w).drew)) hn).mono ?_; rintro e w1 ⟨rfl, hq⟩; have HQ := Lib.hid (((Below.refl w.heap.size w).drew).trans hq); have cQ := (HQ.out.cell (p := ⟨c, 1, none⟩) (heap_lt HH.out.cell)).trans c1; have lQ := HL.out _ (keep_map HH.out.mb HQ.out); clear hq))
  have c0 := cellAt HH.out.cell 0
  simp only [List.getElem?_toArray, List.getElem?_cons_zero, List.getElem?_cons_succ] at c0
  clear lQ
  go_wp2
  go_loopw [7, 16] (fun t7 ti wr => ∃ k : Nat, k ≤ ids.length ∧ ti = .int .i64 k ∧ Hid (∀ (j : Nat) id, j < k → ids[j]? = some id → P[(id - 1).toNat]? ≠ some b) ∧ Hid (wr = w1)) (fun _ i _ => ids.length - (intOf i).toNat)
  case atStart => exact ⟨0, by omega, rfl, fun j id hj => by omega, rfl⟩
  case round =>
    obtain ⟨k, hk, rfl, hno, hw⟩ := hrel
    have hw := hw.out.symm
    subst hw
    by_cases hlt : k < ids.length
    · obtain ⟨id, hid⟩ : ∃ id, ids[k]? = some id := ⟨_, List.getElem?_eq_getElem hlt⟩
      obtain ⟨j, p, hj, hidj, hcp⟩ := idsFrom_mem (crcSum b) 0 P id (by rw [← hids.out]; exact List.mem_of_getElem? hid)
      have hjl := (List.getElem?_eq_some_iff.1 hj).1
      obtain ⟨g, off, rfl, hg, hgc⟩ := HC.out k hlt
      have q0 := hgc 0 (.int .i64 id) (by decide) (by simp [ints, hid])
      have q1 : w1.cell? ⟨g, off + k, none⟩ = some (.int .i64 id) := by
        rw [HQ.out.cell (p := ⟨g, off + k, none⟩) hg]
        simpa using q0
      have q2 : w1.cell? ⟨c, 0, none⟩ = some (.map (some bl)) := (HQ.out.cell (p := ⟨c, 0, none⟩) (heap_lt HH.out.cell)).trans c0
      obtain ⟨pv, hpv⟩ : ∃ pv, vs[j]? = some pv := ⟨_, List.getElem?_eq_getElem (by have := HH.out.pieces.1; omega)⟩
      obtain ⟨hps, hpb, hp0, hp1⟩ := HH.out.pieces.2 j pv p hpv hj
      have hix : ixV vs id = some pv := by
        unfold ixV
        rw [if_pos (by omega), show (id - 1).toNat = j by omega]
        exact hpv
      have hsm := HH.out.small.1
      have hlk := ((keep_map HH.out.ml HQ.out).look Tryz.underlying62 (zero33 w1) (x := id) (KI_good (by omega))).2
      rw [hix] at hlk
      simp only [Option.getD_some] at hlk
      change (Instr.lookup 62 (.map (some bl)) (.int .i64 id) false).run Tryz.prog w1 = .ok pv w1 at hlk
      have HPS := Lib.hid (hps.below HQ.out)
      have HVS := Lib.hid (HV.out.below HQ.out)
      have HPB := Lib.hid hpb
      have HNO := hno
      have HJ := Lib.hid hj
      have HID := Lib.hid hidj
      have HIDK := Lib.hid hid
      clear hgc q0 hps hpb hix hno hcp hid hpv hidj
      by_cases hpe : p = b
      · have HR := Lib.hid (show pieceId P b = some id by rw [HID.out, pieceId_some HH.out.nodup (hpe ▸ HJ.out)]; simp)
        go_wp2_with (go_at_call 149; refine (bytesEq_any _ _ _ _ p b _ HPS.out HVS.out HPB.out HBL.out).mono ?_; rintro e w2 ⟨rfl, rfl⟩; simp only [hpe, decide_true])
        go_ret2
        rw [HR.out]
        exact ⟨rfl, HQ.out⟩
      · go_wp2_with (go_at_call 149; refine (bytesEq_any _ _ _ _ p b _ HPS.out HVS.out HPB.out HBL.out).mono ?_; rintro e w2 ⟨rfl, rfl⟩; simp only [hpe, decide_false])
        go_roundw
        case rel =>
          refine ⟨k + 1, by omega, by go_num, fun j' id' hj' hid' => ?_, trivial⟩
          by_cases e : j' = k
          · subst e
            rw [HIDK.out] at hid'
            cases hid'
            rw [HID.out, show ((0 : Nat) : Int) + j + 1 - 1 = j by omega]
            simp only [Int.toNat_natCast]
            rw [HJ.out]
            simpa using hpe
          · exact HNO.out j' id' (by omega) hid'
        case measure => simp [intOf]; omega
    · have HR := Lib.hid (show pieceId P b = none from pieceId_none (fun hm => by
        obtain ⟨j, hj, hjb⟩ := List.getElem_of_mem hm
        have h1 := idsFrom_of (crcSum b) 0 P j b (by rw [← hjb]; exact List.getElem?_eq_getElem hj) rfl
        rw [← hids.out] at h1
        obtain ⟨i, hi, hib⟩ := List.getElem_of_mem h1
        refine hno.out i _ (by omega) (List.getElem?_eq_getElem hi) ?_
        rw [hib, show (((0 : Nat) : Int) + j + 1 - 1).toNat = j by omega, ← hjb]
        exact List.getElem?_eq_getElem hj))
      go_wp2
      go_ret2
      rw [HR.out]
      exact ⟨rfl, HQ.out⟩
end Go.Proofs.YtaonlcgneemimaaGreatDoor
namespace Go.Proofs.YtaonlcgneemimaaGreatDoor
open Go.RowKit
theorem own_mono {w : World} {base base' : Nat} {e size n : Nat} {v : Value} {xs : List Value} (h : w.ownsRow base e size v n xs) (hb : base' ≤ base) : w.ownsRow base' e size v n xs := by
  refine ⟨h.1, ?_⟩
  rcases h.2 with h | ⟨g, cap, cur, h1, h2, h3⟩
  · exact .inl h
  · exact .inr ⟨g, cap, cur, h1, Nat.le_trans hb h2, h3⟩
theorem u8s_one' (l : List Int) : ∀ u ∈ u8s l, u.oneCell' = true := u8s_one l
set_option maxRecDepth 100000 in
set_option maxHeartbeats 1000000 in
theorem get_any (w : World) (B c : Nat) (P : List (List Int)) (bl bb : Nat) (vs : List Value) (fb : Int → Option Value) (m : Nat) (sz : Int) (H : ChunksAt w B c P bl bb vs fb m sz) (j : Nat) (p : List Int) (hj : P[j]? = some p) :
    Calls Tryz.prog 68 #[.pointer (some ⟨c, 0, none⟩), .int .i64 ((j : Int) + 1)] w fun e w' => ∃ v, e = .returned (.tuple #[v, .bool true]) ∧ w'.ownsRow w.heap.size 5 1 v p.length (u8s p) ∧ (v = .slice none 0 0 ↔ p.length = 0) ∧ Below w.heap.size w w' := by
  have hjl := (List.getElem?_eq_some_iff.1 hj).1
  obtain ⟨pv, hpv⟩ : ∃ pv, vs[j]? = some pv := ⟨_, List.getElem?_eq_getElem (by have := H.pieces.1; omega)⟩
  obtain ⟨hps, hpb, hp0, hp1⟩ := H.pieces.2 j pv p hpv hj
  have hix : ixV vs ((j : Int) + 1) = some pv := by
    unfold ixV
    rw [if_pos (by omega), show ((j : Int) + 1 - 1).toNat = j by omega]
    exact hpv
  have hsm := H.small.1
  have hlk := (H.ml.look Tryz.underlying62 (zero33 w) (x := (j : Int) + 1) (KI_good (by omega))).1
  rw [hix] at hlk
  simp only [Option.getD_some, Option.isSome_some] at hlk
  change (Instr.lookup 62 (.map (some bl)) (.int .i64 ((j : Int) + 1)) true).run Tryz.prog w = .ok (.tuple #[pv, .bool true]) w at hlk
  have c0 := cellAt H.cell 0
  simp only [List.getElem?_toArray, List.getElem?_cons_zero, List.getElem?_cons_succ] at c0
  have HPS := Lib.hid hps
  clear H hps hpb hix hj hpv hjl
  go_enter Tryz.func68, Tryz.ntmps68
  go_wp2_with (go_at_call 119; refine (bytesClone_any _ _ _ _ HPS.out (by omega)).mono ?_; rintro e w1 ⟨v', rfl, ho, hn, hq⟩; have HO := Lib.hid ho; have HN := Lib.hid hn; have HQ := Lib.hid hq; clear ho hn hq)
  go_ret2
  exact ⟨_, rfl, HO.out, HN.out, HQ.out⟩
set_option maxHeartbeats 1000000 in
theorem mayPiece_any (w : World) (v : Value) (b : List Int) (h : Sl w 5 1 v b.length (u8s b)) (h0 : 0 < b.length) (h1 : b.length ≤ 64) :
    Calls Tryz.prog 105 #[v] w fun e w' => e = .returned (.bool true) ∧ w' = w := by
  obtain ⟨a, cap, rfl, hcap, -, -⟩ := h.shape
  have d1 : decide ((1 : Int) ≤ b.length) = true := by simp; omega
  have d2 : decide ((b.length : Int) ≤ 64) = true := by simp; omega
  clear h
  go_enter Tryz.func105, Tryz.ntmps105
  go_wp2
  go_ret
  exact ⟨rfl, rfl⟩
set_option maxHeartbeats 1000000 in
theorem penBytes_any (B a : Nat) (l : List Int) (hl : l.length ≤ 1000000) (h0 : 0 < l.length) (w : World) (h : PenAt w B a l) :
    Calls Tryz.prog 114 #[.pointer (some ⟨a, 0, none⟩)] w fun e w' => ∃ v, e = .returned v ∧ w'.ownsRow w.heap.size 5 1 v l.length (u8s l) ∧ Below w.heap.size w w' := by
  obtain ⟨v, ha, hown, hBa, hv1⟩ := h
  have HS := Lib.hid (Sl.of_own hown (u8s_one l) (.inr h0))
  have hc := cell_of_heap ha
  clear ha hown
  go_enter Tryz.func114, Tryz.ntmps114
  go_wp2_with (go_at_call 104; refine (cloneByte_any _ _ _ _ HS.out hl).mono ?_; rintro e w1 ⟨v', rfl, ho, hn, hq⟩; have HO := Lib.hid ho; have HQ := Lib.hid hq; clear ho hn hq)
  go_ret
  exact ⟨_, rfl, HO.out, HQ.out⟩
theorem pen_new (w : World) : PenAt (w.alloc (.cells #[.slice none 0 0] 197)) w.heap.size w.heap.size [] :=
  ⟨.slice none 0 0, heap_new w _, World.ownsRow_nil _ _ _ _, Nat.le_refl _, rfl⟩
/-- A piece's record. -/
def recB (id : Nat) (b : List Int) : List Int := numB id ++ textB (strOfNums b)
set_option maxHeartbeats 1000000 in
theorem record_any (w : World) (id : Nat) (v : Value) (b : List Int) (hid : id ≤ 9223372036854775807) (hv : Sl w 5 1 v b.length (u8s b)) (hb : b.length ≤ 64) :
    Calls Tryz.prog 69 #[.int .i64 id, v] w fun e w' => ∃ v', e = .returned v' ∧ w'.ownsRow w.heap.size 5 1 v' (recB id b).length (u8s (recB id b)) ∧ Below w.heap.size w w' := by
  have HV := Lib.hid hv
  have HP0 := Lib.hid (pen_new w)
  have hss := strOfNums_size b
  have hn9 := numB_len 8 id (by omega)
  have hn8 := numB_len 0 b.length (by omega)
  have ht0 : 0 < (numB id ++ textB (strOfNums b)).length := by
    simp only [List.length_append, textB, strB_length]
    have : 0 < (numB (strOfNums b).size).length := by
      by_cases h : (strOfNums b).size < 128
      · rw [numB_lo h]; simp
      · rw [numB_hi (by omega)]; simp
    omega
  have ht1 : (numB id ++ textB (strOfNums b)).length ≤ 1000000 := by
    simp only [List.length_append, textB, strB_length, hss]
    omega
  have HT0 := Lib.hid ht0
  have HT1 := Lib.hid ht1
  have HSS := Lib.hid hss
  have HN9 := Lib.hid hn9
  clear hv hn9 hn8 ht0 ht1 hss
  go_enter Tryz.func69, Tryz.ntmps69
  go_wp2_with (first | (go_at_call 110; refine (num_any w.heap.size w.heap.size [] id hid (by simp) _ HP0.out).mono ?_; rintro e w1 ⟨rfl, hq, hb1⟩; have HQ1 := Lib.hid hq; have HB1 := Lib.hid (((Below.refl w.heap.size w).alloc (Nat.le_refl _) _).trans hb1); have hcv := conv_sl (HV.out.below HB1.out); clear hq hb1) | (go_at_call 113; refine (text_any w.heap.size w.heap.size _ (strOfNums b) (by have := HSS.out; omega) (by have := HN9.out; simp only [List.nil_append]; omega) _ HQ1.out).mono ?_; rintro e w2 ⟨rfl, hq, hb2⟩; have HQ2 := Lib.hid hq; have HB2 := Lib.hid (HB1.out.trans hb2); clear hq hb2) | (go_at_call 114; refine (penBytes_any w.heap.size w.heap.size _ HT1.out HT0.out _ HQ2.out).mono ?_; rintro e w3 ⟨v', rfl, ho, hq⟩; have HO := Lib.hid ho; have HQ3 := Lib.hid hq; clear ho hq))
  go_ret
  exact ⟨_, rfl, own_mono HO.out HB2.out.size, HB2.out.trans (HQ3.out.mono HB2.out.size)⟩
set_option maxHeartbeats 1000000 in
theorem newChunks_any (w : World) :
    Calls Tryz.prog 21 #[] w fun e w' => e = .returned (.pointer (some ⟨w.heap.size + 2, 0, none⟩)) ∧ ChunksAt w' w.heap.size (w.heap.size + 2) [] w.heap.size (w.heap.size + 1) [] (fun _ => none) 0 0 ∧ Below w.heap.size w w' := by
  have hmk := fun t w => run_makeMap (P := Tryz.prog) t w
  go_enter Tryz.func21, Tryz.ntmps21
  go_wp2
  go_ret
  refine ⟨rfl, ?_, (((Below.refl _ _).alloc (Nat.le_refl _) _).alloc (by simp) _).alloc (by simp; omega) _⟩
  refine ⟨?_, by omega, by omega, ⟨rfl, fun i v p h => by simp at h⟩, List.nodup_nil, ?_, ?_, fun k v h => by simp at h, fun k _ => rfl, fun k k' v v' _ h => by simp at h, by simp⟩
  · have := heap_new ((w.alloc (.map #[] 0)).alloc (.map #[] 0)) (.cells #[.map (some w.heap.size), .map (some (w.heap.size + 1)), .int .i64 1, .int .i64 0] 118)
    simpa using this
  · have h := (MapX.made KI w).same (w' := ((w.alloc (.map #[] 0)).alloc (.map #[] 0)).alloc (.cells #[.map (some w.heap.size), .map (some (w.heap.size + 1)), .int .i64 1, .int .i64 0] 118)) (by rw [heap_old (heap_old (heap_new w _) _) _, heap_new])
    have e : ixV [] = fun _ => none := by funext x; simp [ixV]
    rw [e]
    exact h
  · have h := (MapX.made KU (w.alloc (.map #[] 0))).same (w' := ((w.alloc (.map #[] 0)).alloc (.map #[] 0)).alloc (.cells #[.map (some w.heap.size), .map (some (w.heap.size + 1)), .int .i64 1, .int .i64 0] 118)) (by rw [heap_old (heap_new _ _) _, heap_new])
    simpa using h
end Go.Proofs.YtaonlcgneemimaaGreatDoor
namespace Go.Proofs.YtaonlcgneemimaaGreatDoor
open Go.RowKit
theorem idsFrom_append (k : Int) : ∀ (i : Nat) (l : List (List Int)) (b : List Int), idsFrom k i (l ++ [b]) = idsFrom k i l ++ (if crcSum b = k then [((i + l.length : Nat) : Int) + 1] else [])
  | i, [], b => by
    simp only [List.nil_append, idsFrom]
    split <;> simp
  | i, p :: l, b => by
    simp only [List.cons_append, idsFrom, idsFrom_append k (i + 1) l b, List.length_cons]
    rw [show i + 1 + l.length = i + (l.length + 1) by omega]
    split <;> simp
/-- The numbers by sum. -/
structure ByAt (w : World) (B bb : Nat) (P : List (List Int)) (fb : Int → Option Value) (m : Nat) : Prop where
  mb : MapX KU w bb m fb
  rows : ∀ k v, fb k = some v → w.ownsRow B 3 1 v (idsFrom k 0 P).length (ints (idsFrom k 0 P)) ∧ 0 < (idsFrom k 0 P).length
  empty : ∀ k, fb k = none → idsFrom k 0 P = []
  apart : ∀ k k' v v', k ≠ k' → fb k = some v → fb k' = some v' → v.ownBlock ≠ v'.ownBlock
  small : P.length ≤ 100000 ∧ m ≤ P.length
theorem row_kept {w w' : World} {B n e sz : Nat} {v : Value} {xs : List Value} (h : w.ownsRow B e sz v n xs) (hg : ∀ (k : Nat) (o : Obj), w.heap[k]? = some o → v.ownBlock = some k → w'.heap[k]? = some o) : w'.ownsRow B e sz v n xs := by
  refine ⟨h.1, ?_⟩
  rcases h.2 with h | ⟨g, cap, cur, h1, h2, h3, h4⟩
  · exact .inl h
  · exact .inr ⟨g, cap, cur, h1, h2, hg g _ h3 (by rw [h1]; rfl), h4⟩
/-- All that is there stays, but for the maps and rows named. -/
def KeptBut (w w' : World) (M : Nat → Prop) : Prop := ∀ (k : Nat) (o : Obj), w.heap[k]? = some o → ¬ M k → w'.heap[k]? = some o
theorem ByAt.kept {w w' : World} {B bb : Nat} {P : List (List Int)} {fb : Int → Option Value} {m : Nat} (h : ByAt w B bb P fb m) (hb : w'.heap[bb]? = w.heap[bb]?) (hr : ∀ (k : Nat) (arr : Array Value), w.heap[k]? = some (.cells arr 3 (0, 0)) → w'.heap[k]? = some (.cells arr 3 (0, 0))) : ByAt w' B bb P fb m := by
  refine ⟨h.mb.same hb, fun k v hv => ?_, h.empty, h.apart, h.small⟩
  obtain ⟨h1, h2⟩ := h.rows k v hv
  refine ⟨⟨h1.1, ?_⟩, h2⟩
  rcases h1.2 with h | ⟨g, cap, cur, e1, e2, e3, e4⟩
  · exact .inl h
  · exact .inr ⟨g, cap, cur, e1, e2, hr g cur e3, e4⟩
theorem by_step {w : World} {B bb : Nat} {P : List (List Int)} {fb : Int → Option Value} {m : Nat} (h : ByAt w B bb P fb m) (hB : B ≤ w.heap.size) (hbb : B ≤ bb) (b : List Int) (hsm : P.length + 1 ≤ 100000) (ty : TypeId) :
    ∃ v' w5 w6, (Builtin.append_ #[90, 90] ty #[(fb (crcSum b)).getD (.slice none 0 0), .slice (some ⟨w.heap.size, 0, none⟩) 1 1]).run Tryz.prog (w.alloc (.cells #[.int .i64 ((P.length : Int) + 1)] 3)) = .ok v' w5 ∧
      (Instr.mapUpdate 116 (.map (some bb)) (.int .u32 (crcSum b)) v').run Tryz.prog w5 = .ok () w6 ∧
      (∃ fb' m', ByAt w6 B bb (P ++ [b]) fb' m') ∧ Below B w w6 ∧ (∀ (k : Nat) (o : Obj), w.heap[k]? = some o → k ≠ bb → (∀ arr, o ≠ .cells arr 3 (0, 0)) → w5.heap[k]? = some o ∧ w6.heap[k]? = some o) := by
  obtain ⟨i0, hi, hz0, hz1, hz2⟩ := info_parts info3
  have hown : w.ownsRow B 3 1 ((fb (crcSum b)).getD (.slice none 0 0)) (idsFrom (crcSum b) 0 P).length (ints (idsFrom (crcSum b) 0 P)) := by
    cases hf : fb (crcSum b) with
    | none => rw [h.empty _ hf]; exact World.ownsRow_nil _ _ _ _
    | some v => exact (h.rows _ _ hf).1
  have hil := idsFrom_length (crcSum b) 0 P
  obtain ⟨v', w5, hrun, ho, hg, hn, hloc⟩ := run_append_own_at (P := Tryz.prog) (w.alloc (.cells #[.int .i64 ((P.length : Int) + 1)] 3)) B 90 ty 3 i0 (.int .i64 0) 1 8 Tryz.underlying90 hi hz0 hz1 hz2 rfl (by decide) _ _ _ (hown.alloc _) ⟨w.heap.size, 0, none⟩ 1 1 [.int .i64 ((P.length : Int) + 1)] rfl (cell_one_new _ _ _) (by simp [Value.oneCell']) (by unfold maxLen; omega) (by omega) (by simp; omega)
  have hmb : MapX KU w5 bb m fb := h.mb.same (by
    rw [hg.block bb (by simp; have := h.mb.lt; omega) (fun e => by
      rcases hown.2 with ⟨e1, _⟩ | ⟨g, cap, cur, e1, _, e3, _⟩
      · rw [e1] at e; simp [Value.ownBlock] at e
      · rw [e1] at e; simp [Value.ownBlock] at e; subst e; exact h.mb.cells e3)]
    exact Below.heap_alloc _ _ _ h.mb.lt)
  obtain ⟨w6, hrun2, hm6, ht6⟩ := hmb.store Tryz.underlying116 (by have := h.small.2; unfold maxLen; omega) (x := crcSum b) (KU_good ⟨crcSum_lo b, crcSum_hi b⟩) v'
  have hids : idsFrom (crcSum b) 0 (P ++ [b]) = idsFrom (crcSum b) 0 P ++ [(P.length : Int) + 1] := by rw [idsFrom_append, if_pos rfl]; simp
  have hother : ∀ k, k ≠ crcSum b → idsFrom k 0 (P ++ [b]) = idsFrom k 0 P := fun k hk => by rw [idsFrom_append, if_neg (fun e => hk e.symm)]; simp
  have kept5 : ∀ k o, w.heap[k]? = some o → ((fb (crcSum b)).getD (.slice none 0 0)).ownBlock ≠ some k → w5.heap[k]? = some o := fun k o hk hne => by
    rw [hg.block k (by simp; have := heap_lt hk; omega) (fun e => hne e.symm)]
    exact heap_old hk _
  have kept6 : ∀ k o, w5.heap[k]? = some o → k ≠ bb → w6.heap[k]? = some o := fun k o hk hne => by
    rw [ht6.grown.block k (heap_lt hk) (by simpa using hne)]
    exact hk
  have hv'bb : v'.ownBlock ≠ some bb := by
    rcases ho.2 with ⟨e1, _⟩ | ⟨g, cap, cur, e1, _, e3, _⟩
    · rw [e1]; simp [Value.ownBlock]
    · rw [e1]; intro e; simp [Value.ownBlock] at e; subst e; exact hmb.cells e3
  refine ⟨v', w5, w6, hrun, hrun2, ⟨fput fb (crcSum b) (some v'), if (fb (crcSum b)).isSome then m else m + 1, ?_⟩, ?_, ?_⟩
  · refine ⟨hm6, fun k v hv => ?_, fun k hk => ?_, fun k k' u u' hkk hu hu' => ?_, by simp; have := h.small.2; split <;> omega⟩
    · by_cases e : k = crcSum b
      · subst e
        simp only [fput, if_pos, Option.some.injEq] at hv
        subst hv
        rw [hids]
        refine ⟨?_, by simp⟩
        have h1 := row_kept (w' := w6) ho (fun k o hk hb => kept6 k o hk (fun e => hv'bb (e ▸ hb)))
        simpa [ints] using h1
      · simp only [fput, if_neg e] at hv
        obtain ⟨h1, h2⟩ := h.rows k v hv
        rw [hother k e]
        refine ⟨row_kept h1 (fun g o hgo hvb => kept6 g o (kept5 g o hgo ?_) ?_), h2⟩
        · intro hb
          cases hf : fb (crcSum b) with
          | none => rw [hf] at hb; simp [Value.ownBlock] at hb
          | some u =>
            rw [hf] at hb
            exact h.apart k (crcSum b) v u e hv hf (hvb.trans hb.symm)
        · rintro rfl
          rcases h1.2 with ⟨e1, _⟩ | ⟨g', cap, cur, e1, _, e3, _⟩
          · rw [e1] at hvb; simp [Value.ownBlock] at hvb
          · rw [e1] at hvb; simp [Value.ownBlock] at hvb; subst hvb; exact h.mb.cells e3
    · by_cases e : k = crcSum b
      · subst e; simp [fput] at hk
      · simp only [fput, if_neg e] at hk
        rw [hother k e]
        exact h.empty k hk
    · have new : ∀ k v, k ≠ crcSum b → fb k = some v → v'.ownBlock ≠ v.ownBlock := fun k v e hv hb => by
        obtain ⟨h1, h2⟩ := h.rows k v hv
        rcases h1.2 with ⟨_, e2⟩ | ⟨g', cap, cur, e1, _, e3, _⟩
        · omega
        · have hvb : v.ownBlock = some g' := by rw [e1]; rfl
          rcases hloc with hl | hl
          · cases hf : fb (crcSum b) with
            | none => rw [hf] at hl; rw [hb, hvb] at hl; simp [Value.ownBlock] at hl
            | some u =>
              rw [hf] at hl
              exact h.apart k (crcSum b) v u e hv hf (hb.symm.trans hl)
          · rw [hb, hvb] at hl
            simp at hl
            have := heap_lt e3
            omega
      by_cases e : k = crcSum b
      · subst e
        simp only [fput, if_pos, Option.some.injEq] at hu
        subst hu
        simp only [fput, if_neg (Ne.symm hkk)] at hu'
        exact new k' u' (Ne.symm hkk) hu'
      · simp only [fput, if_neg e] at hu
        by_cases e' : k' = crcSum b
        · subst e'
          simp only [fput, if_pos, Option.some.injEq] at hu'
          subst hu'
          exact (new k u e hu).symm
        · simp only [fput, if_neg e'] at hu'
          exact h.apart k k' u u' hkk hu hu'
  · exact (((Below.refl B w).alloc hB _).grown hg (by simp; omega) (fun k hk => (hown.lt k hk).1)).grown ht6.grown (by have := hg.size; simp at this; omega) (fun k hk => by cases hk; exact hbb)
  · intro k o hk hne hno
    have h5 := kept5 k o hk (fun e => by
      rcases hown.2 with ⟨e1, _⟩ | ⟨g, cap, cur, e1, _, e3, _⟩
      · rw [e1] at e; simp [Value.ownBlock] at e
      · rw [e1] at e; simp [Value.ownBlock] at e; subst e
        rw [hk] at e3
        exact hno cur (by injection e3))
    exact ⟨h5, kept6 k o h5 hne⟩
end Go.Proofs.YtaonlcgneemimaaGreatDoor
namespace Go.Proofs.YtaonlcgneemimaaGreatDoor
open Go.RowKit
theorem ixV_none {vs : List Value} : ixV vs ((vs.length : Int) + 1) = none := by
  unfold ixV
  rw [if_pos (by omega), show ((vs.length : Int) + 1 - 1).toNat = vs.length by omega]
  simp
theorem ixV_put (vs : List Value) (v : Value) : fput (ixV vs) ((vs.length : Int) + 1) (some v) = ixV (vs ++ [v]) := by
  funext x
  unfold fput ixV
  by_cases h : x = (vs.length : Int) + 1
  · subst h
    rw [if_pos rfl, if_pos (by omega), show ((vs.length : Int) + 1 - 1).toNat = vs.length by omega]
    simp
  · rw [if_neg h]
    by_cases h1 : 1 ≤ x
    · rw [if_pos h1, if_pos h1]
      by_cases h2 : (x - 1).toNat < vs.length
      · rw [List.getElem?_append_left h2]
      · rw [List.getElem?_eq_none (by omega), List.getElem?_eq_none (by simp; omega)]
    · rw [if_neg h1, if_neg h1]
theorem store_piece {w : World} {c bl n : Nat} {vs : List Value} {arr : Array Value} (hc : w.heap[c]? = some (.cells arr 118 (0, 0))) (hm : MapX KI w bl n (ixV vs)) (hn : vs.length = n) (hsm : n ≤ 100000) (v : Value) :
    ∃ w', (Instr.mapUpdate 62 (.map (some bl)) (.int .i64 ((n : Int) + 1)) v).run Tryz.prog w = .ok () w' ∧ MapX KI w' bl (n + 1) (ixV (vs ++ [v])) ∧ w.mapTurned w' bl ∧ w'.heap[c]? = some (.cells arr 118 (0, 0)) := by
  obtain ⟨w', h1, h2, h3⟩ := hm.store Tryz.underlying62 (by unfold maxLen; omega) (x := (n : Int) + 1) (KI_good (by omega)) v
  refine ⟨w', h1, ?_, h3, ?_⟩
  · rw [← hn] at h2
    rw [ixV_none, ixV_put] at h2
    rw [← hn]
    simpa using h2
  · rw [h3.grown.block c (heap_lt hc) (by intro e; injection e with e; exact hm.cells (e ▸ hc))]
    exact hc
theorem Sl.kept {w w' : World} {e sz n : Nat} {v : Value} {xs : List Value} (h : Sl w e sz v n xs) (hk : ∀ (k : Nat) (arr : Array Value), w.heap[k]? = some (.cells arr e (0, 0)) → w'.heap[k]? = some (.cells arr e (0, 0))) : Sl w' e sz v n xs := by
  refine ⟨h.1, h.2.1, ?_⟩
  rcases h.2.2 with h0 | ⟨g, off, cap, arr, e1, e2, e3, e4, e5, e6⟩
  · exact .inl h0
  · exact .inr ⟨g, off, cap, arr, e1, e2, e3, e4, hk g arr e5, e6⟩
theorem MapX.obj {α : Type} {P : Program} {kt : TypeId} {K : KeyKind P kt α} {w : World} {b n : Nat} {f : α → Option Value} (h : MapX K w b n f) : ∃ es cl, w.heap[b]? = some (.map es cl) := by
  obtain ⟨D, ⟨es, c, hb, _⟩, _⟩ := h
  exact ⟨es, c, hb⟩
theorem turned_keep {w w' : World} {b k : Nat} {o : Obj} (h : w.mapTurned w' b) (hk : w.heap[k]? = some o) (hne : k ≠ b) : w'.heap[k]? = some o := by
  rw [h.grown.block k (heap_lt hk) (by simpa using hne)]
  exact hk
/-- Cells stay, but a store's own and rows of numbers. -/
def KeptC (w w' : World) : Prop := ∀ (k : Nat) (arr : Array Value) (t : TypeId), w.heap[k]? = some (.cells arr t (0, 0)) → t ≠ 118 → t ≠ 3 → w'.heap[k]? = some (.cells arr t (0, 0))
theorem KeptC.of_below {w w' : World} (h : Below w.heap.size w w') : KeptC w w' := fun k arr t hk _ _ => Below.heap h (Nat.le_refl _) hk
theorem KeptC.trans {a b c : World} (h : KeptC a b) (k : KeptC b c) : KeptC a c := fun i arr t hi h1 h2 => k i arr t (h i arr t hi h1 h2) h1 h2
theorem set_close {w w2 w3 w4 w6 : World} {B c : Nat} {P : List (List Int)} {bl bb : Nat} {vs : List Value} {fb : Int → Option Value} {m : Nat} {sz : Int} {v v' : Value} {b : List Int}
    (H : ChunksAt w B c P bl bb vs fb m sz) (hv : Sl w 5 1 v b.length (u8s b)) (hb : ByteL b) (hnew : b ∉ P) (h0 : 0 < b.length) (h1 : b.length ≤ 64) (hsm : P.length + 1 ≤ 100000)
    (hq2 : Below w.heap.size w w2) (ho : w2.ownsRow w.heap.size 5 1 v' b.length (u8s b)) (hn : v' = .slice none 0 0 ↔ b.length = 0) (hm3 : MapX KI w3 bl (P.length + 1) (ixV (vs ++ [v']))) (ht3 : w2.mapTurned w3 bl)
    (hc3 : w3.heap[c]? = some (.cells #[.map (some bl), .map (some bb), .int .i64 ((P.length : Int) + 1), .int .i64 sz] 118 (0, 0))) (hq4 : Below w3.heap.size w3 w4) (hby6 : ∃ fb' m', ByAt w6 B bb (P ++ [b]) fb' m') (hB6 : Below B w4.drew w6)
    (hkept : ∀ (k : Nat) (o : Obj), w4.drew.heap[k]? = some o → k ≠ bb → (∀ arr, o ≠ .cells arr 3 (0, 0)) → w6.heap[k]? = some o)
    (hc6 : w6.heap[c]? = some (.cells #[.map (some bl), .map (some bb), .int .i64 ((P.length : Int) + 1), .int .i64 sz] 118 (0, 0))) (sz' : Int) :
    ∃ vs' fb' m' sz'', ChunksAt ((w6.setCell ⟨c, 2, none⟩ (.int .i64 ((P.length : Int) + 1 + 1))).setCell ⟨c, 3, none⟩ (.int .i64 sz')) B c (P ++ [b]) bl bb vs' fb' m' sz'' ∧ Below B w ((w6.setCell ⟨c, 2, none⟩ (.int .i64 ((P.length : Int) + 1 + 1))).setCell ⟨c, 3, none⟩ (.int .i64 sz')) ∧ KeptC w ((w6.setCell ⟨c, 2, none⟩ (.int .i64 ((P.length : Int) + 1 + 1))).setCell ⟨c, 3, none⟩ (.int .i64 sz')) := by
  obtain ⟨fb', m', hby⟩ := hby6
  have hlo := H.lo
  have hcb : c ≠ bb := fun e => hby.mb.cells (e ▸ hc6)
  have hcl : c ≠ bl := fun e => hm3.cells (e ▸ hc3)
  have hF : ∀ (k : Nat) (o : Obj), w6.heap[k]? = some o → k ≠ c → ((w6.setCell ⟨c, 2, none⟩ (.int .i64 ((P.length : Int) + 1 + 1))).setCell ⟨c, 3, none⟩ (.int .i64 sz')).heap[k]? = some o := fun k o hk hne => by
    rw [heap_set_ne _ hne, heap_set_ne _ hne]; exact hk
  have k2F : ∀ (k : Nat) (arr : Array Value), w2.heap[k]? = some (.cells arr 5 (0, 0)) → ((w6.setCell ⟨c, 2, none⟩ (.int .i64 ((P.length : Int) + 1 + 1))).setCell ⟨c, 3, none⟩ (.int .i64 sz')).heap[k]? = some (.cells arr 5 (0, 0)) := fun k arr hk => by
    have a3 := turned_keep ht3 hk (fun e => (keep_map H.ml hq2).cells (e ▸ hk))
    have a4 : w4.drew.heap[k]? = some (.cells arr 5 (0, 0)) := Below.heap hq4.drew (Nat.le_refl _) a3
    have a6 := (hkept k _ a4 (fun e => by
      have h5 : MapX KU w2 bb m fb := keep_map H.mb hq2
      exact h5.cells (e ▸ hk)) (fun arr' h => by injection h with _ h; exact absurd h (by decide)))
    exact hF k _ a6 (fun e => by rw [e, hc6] at a6; injection a6 with a6; injection a6 with _ h; exact absurd h (by decide))
  have hown : Sl w2 5 1 v' b.length (u8s b) := Sl.of_own ho (u8s_one b) (.inr h0)
  refine ⟨vs ++ [v'], fb', m', sz', ⟨?_, hlo, H.ne, ⟨by simp [H.pieces.1], fun i u p hu hp => ?_⟩, ?_, ?_, ?_, ?_, hby.empty, hby.apart, hby.small⟩, ?_, ?_⟩
  · have := setAt (setAt hc6 2 (.int .i64 ((P.length : Int) + 1 + 1))) 3 (.int .i64 sz')
    simpa using this
  · have hvl := H.pieces.1
    by_cases hi : i < P.length
    · rw [List.getElem?_append_left (by omega)] at hu
      rw [List.getElem?_append_left hi] at hp
      obtain ⟨a1, a2⟩ := H.pieces.2 i u p hu hp
      exact ⟨(a1.below hq2).kept k2F, a2⟩
    · rw [List.getElem?_append_right (by omega)] at hu hp
      have hi0 : i - vs.length = 0 := by
        have := (List.getElem?_eq_some_iff.1 hu).1
        simp at this; omega
      rw [hi0] at hu
      rw [show i - P.length = 0 by omega] at hp
      simp at hu hp
      subst hu; subst hp
      exact ⟨hown.kept k2F, hb, h0, h1⟩
  · rw [List.nodup_append]
    refine ⟨H.nodup, by simp, fun x hx y hy => ?_⟩
    simp at hy
    subst hy
    exact fun e => hnew (e ▸ hx)
  · obtain ⟨es, cl, hob⟩ := hm3.obj
    have a4 : w4.drew.heap[bl]? = some (.map es cl) := Below.heap hq4.drew (Nat.le_refl _) hob
    have a6 := (hkept bl _ a4 H.ne (fun arr h => by cases h))
    have := hm3.same (w' := (w6.setCell ⟨c, 2, none⟩ (.int .i64 ((P.length : Int) + 1 + 1))).setCell ⟨c, 3, none⟩ (.int .i64 sz')) ((hF bl _ a6 hcl.symm).trans hob.symm)
    simpa using this
  · obtain ⟨es, cl, hob⟩ := hby.mb.obj
    exact hby.mb.same ((hF bb _ hob hcb.symm).trans hob.symm)
  · intro k u hu
    obtain ⟨a1, a2⟩ := hby.rows k u hu
    refine ⟨row_kept a1 (fun g o hgo hgb => hF g o hgo ?_), a2⟩
    rintro rfl
    rcases a1.2 with ⟨e1, _⟩ | ⟨g', cap, cur, e1, _, e3, _⟩
    · rw [e1] at hgb; simp [Value.ownBlock] at hgb
    · rw [e1] at hgb; simp [Value.ownBlock] at hgb; subst hgb
      rw [hc6] at e3; injection e3 with e3; injection e3 with _ h; exact absurd h (by decide)
  · have hs := H.lo
    have hBw : B ≤ w.heap.size := by have := heap_lt H.cell; omega
    have b3 : Below B w w3 := (hq2.mono hBw).trans ⟨ht3.grown.os, ht3.grown.tape, ht3.grown.output, ht3.grown.size, fun k hk => ht3.grown.block k (by have := hq2.size; omega) (by simp; omega)⟩
    have b4 : Below B w w4 := b3.trans (hq4.mono (by have := b3.size; omega))
    exact (((b4.drew).trans hB6).setCell (p := ⟨c, 2, none⟩) hlo.1 _).setCell (p := ⟨c, 3, none⟩) hlo.1 _
  · intro k arr t hk h118 h3
    have a2 : w2.heap[k]? = some (.cells arr t (0, 0)) := Below.heap hq2 (Nat.le_refl _) hk
    have a3 := turned_keep ht3 a2 (fun e => (keep_map H.ml hq2).cells (e ▸ a2))
    have a4 : w4.drew.heap[k]? = some (.cells arr t (0, 0)) := Below.heap hq4.drew (Nat.le_refl _) a3
    have a6 := hkept k _ a4 (fun e => by
      have h5 : MapX KU w2 bb m fb := keep_map H.mb hq2
      exact h5.cells (e ▸ a2)) (fun arr' h => by injection h with _ h; exact h3 h)
    exact hF k _ a6 (fun e => by rw [e, hc6] at a6; injection a6 with a6; injection a6 with _ h; exact h118 h.symm)
theorem step_append_run {P : Program} {ops : Array Oper} {o : Oper} {a : Act} {w : World} {K : Act → World → Prop} {Q : Exit → Act → World → Prop} {E : Prop} (hgd : o.guard = none) (s x : Operand) (t : TypeId)
    (ho : o.op = .call { callee := .builtin .append, args := #[s, x], argTypes := #[t, t] }) (v' : Value) (w' : World) (hrun : (Builtin.append_ #[t, t] o.type #[a.eval s, a.eval x]).run P w = .ok v' w') (h : K (a.put o.dst v') w') :
    if Region.wanted o (yielded ops a.tmps) = true then Oper.wp P o a w K Q else E := by
  have hw : Region.wanted o (yielded ops a.tmps) = true := by simp [Region.wanted, hgd]
  rw [if_pos hw]
  unfold Oper.wp execOp
  simp only [ho, resolve, invoke, builtin, Sem.run_bind, Sem.run_pure, Result.andThen_ok, List.map_toArray, List.map_cons, List.map_nil, hrun]
  exact h
set_option maxRecDepth 100000 in
set_option maxHeartbeats 2000000 in
theorem set_any (w : World) (B c : Nat) (P : List (List Int)) (bl bb : Nat) (vs : List Value) (fb : Int → Option Value) (m : Nat) (sz : Int) (H : ChunksAt w B c P bl bb vs fb m sz) (v : Value) (b : List Int) (hv : Sl w 5 1 v b.length (u8s b)) (hb : ByteL b) (h0 : 0 < b.length) (h1 : b.length ≤ 64) (hnew : b ∉ P) (hsm : P.length + 1 ≤ 100000) :
    Calls Tryz.prog 107 #[.pointer (some ⟨c, 0, none⟩), .int .i64 ((P.length : Int) + 1), v] w fun e w' => e = .returned (.int .i64 0) ∧ ∃ vs' fb' m' sz', ChunksAt w' B c (P ++ [b]) bl bb vs' fb' m' sz' ∧ Below B w w' ∧ KeptC w w' := by
  have HH := Lib.hid H
  have HV := Lib.hid hv
  have HBL := Lib.hid hb
  have HNEW := Lib.hid hnew
  obtain ⟨a, cap, rfl, hcap, -, -⟩ := hv.shape
  have hvl := H.pieces.1
  have hix : ixV vs ((P.length : Int) + 1) = none := by rw [← hvl]; exact ixV_none
  have hlk := (H.ml.look Tryz.underlying62 (zero33 w) (x := (P.length : Int) + 1) (KI_good (by omega))).1
  rw [hix] at hlk
  simp only [Option.getD_none, Option.isSome_none] at hlk
  change (Instr.lookup 62 (.map (some bl)) (.int .i64 ((P.length : Int) + 1)) true).run Tryz.prog w = .ok (.tuple #[.slice none 0 0, .bool false]) w at hlk
  have c0 := cellAt H.cell 0
  have c1 := cellAt H.cell 1
  simp only [List.getElem?_toArray, List.getElem?_cons_zero, List.getElem?_cons_succ] at c0 c1
  have d1 : decide ((P.length : Int) + 1 < 1) = false := by simp; omega
  have d2 : decide (4611686018427387904 < (P.length : Int) + 1) = false := by simp; omega
  have HFIND := Lib.hid (fun w' (hw : Below w.heap.size w w') => find_any w' B c P bl bb vs fb m sz (H.below hw) (.slice a b.length cap) 0 b (hv.below hw) hb (by omega))
  rw [pieceId_none hnew] at HFIND
  clear H hv hb hnew hix
  go_enter Tryz.func107, Tryz.ntmps107
  go_wp2_with (first | (go_at_call 105; refine (mayPiece_any _ _ b HV.out h0 h1).mono ?_; rintro e w1 ⟨rfl, hw⟩; have hw := hw.symm; subst hw) | (go_at_call 106; refine (HFIND.out _ (Below.refl _ _)).mono ?_; rintro e w1 ⟨rfl, hq⟩; simp only [Option.getD_none, Option.isSome_none]; have HQ1 := Lib.hid hq; have cQ0 := (hq.cell (p := ⟨c, 0, none⟩) (heap_lt HH.out.cell)).trans c0; clear hq))
  go_region_held3 (fun w' => w'.cell? ⟨c, 0, none⟩ = some (.map (some bl))) (first | exact cQ0 | exact cQ2 | exact cQ3) (first | (go_at_call 119; refine (bytesClone_any _ _ _ _ (HV.out.below (HQ1.out.drew)) (by omega)).mono ?_; rintro e w2 ⟨v', rfl, ho, hn, hq⟩; have HQ2 := Lib.hid (HQ1.out.drew.trans (hq.mono HQ1.out.size)); have cQ2 := (HQ2.out.cell (p := ⟨c, 0, none⟩) (heap_lt HH.out.cell)).trans c0; have HO := Lib.hid (own_mono ho (base' := w.heap.size) HQ1.out.size); have HN := Lib.hid hn; obtain ⟨w3, hrun, hm3, ht3, hc3⟩ := store_piece (Below.heap HQ2.out (Nat.le_refl _) HH.out.cell) (keep_map HH.out.ml HQ2.out) HH.out.pieces.1 HH.out.small.1 v'; have HM3 := Lib.hid hm3; have HT3 := Lib.hid ht3; have HC3 := Lib.hid hc3; have cQ3 : w3.cell? ⟨c, 0, none⟩ = some (.map (some bl)) := cellAt hc3 0; clear ho hn hq hm3 ht3 hc3))
  have HBB : Hid (Below w.heap.size w2 w3 ∨ True) := Lib.hid (.inr trivial)
  have HS3 : Hid (Sl w3 5 1 (.slice a b.length cap) b.length (u8s b)) := Lib.hid (by
    refine Sl.frame (M := [bl]) (HV.out.below HQ2.out) ⟨HT3.out.grown.os, HT3.out.grown.tape, HT3.out.grown.output, HT3.out.grown.size, fun k hk hne => HT3.out.grown.block k hk (by simp at hne; simpa using hne)⟩ ?_
    intro g hg arr harr
    simp at hg
    subst hg
    exact (keep_map HH.out.ml HQ2.out).cells harr)
  go_wp2_with (go_at_call 148; refine (sum_any _ b _ HS3.out (by omega)).mono ?_; rintro e w4 ⟨rfl, hq⟩; have HQ4 := Lib.hid hq; clear hq)
  have HBY3 : Hid (ByAt w4 B bb P fb m) := Lib.hid (by
    have hby : ByAt w2 B bb P fb m := ByAt.kept (w := w) ⟨HH.out.mb, HH.out.rows, HH.out.empty, HH.out.apart, HH.out.small⟩ (HQ2.out.block bb HH.out.mb.lt) (fun k arr hk => Below.heap HQ2.out (Nat.le_refl _) hk)
    have hby3 : ByAt w3 B bb P fb m := hby.kept (HT3.out.grown.block bb hby.mb.lt (fun e => HH.out.ne (by injection e with e; exact e.symm))) (fun k arr hk => (HT3.out.grown.block k (heap_lt hk) (fun e => by injection e with e; subst e; exact (keep_map HH.out.ml HQ2.out).cells hk)).trans hk)
    exact hby3.kept (HQ4.out.block bb hby3.mb.lt) (fun k arr hk => Below.heap HQ4.out (Nat.le_refl _) hk))
  have HLO := HH.out.lo
  have hBw : B ≤ w4.heap.size := by have := heap_lt (Below.heap HQ4.out (Nat.le_refl _) HC3.out); omega
  have HC4 : Hid (w4.heap[c]? = some (.cells #[.map (some bl), .map (some bb), .int .i64 ((P.length : Int) + 1), .int .i64 sz] 118 (0, 0))) := Lib.hid (Below.heap HQ4.out (Nat.le_refl _) HC3.out)
  have HBY4 : Hid (ByAt w4.drew B bb P fb m) := Lib.hid (HBY3.out.kept rfl (fun k arr hk => hk))
  obtain ⟨av, hav⟩ : ∃ av, Hid (av = (fb (crcSum b)).getD (.slice none 0 0)) := ⟨_, rfl⟩
  obtain ⟨v5, w5, w6, hr5, hr6, hby6, hB6, hkept⟩ := by_step HBY4.out hBw HLO.2.2 b hsm 90
  rw [← hav.out] at hr5
  have hlk2 : ∀ W, W.heap[bb]? = w4.heap[bb]? → (Instr.lookup 116 (.map (some bb)) (.int .u32 (crcSum b)) false).run Tryz.prog W = .ok av W := fun W hW => by
    rw [hav.out]
    exact ((HBY3.out.mb.same hW).look Tryz.underlying116 (zero90 W) (KU_good ⟨crcSum_lo b, crcSum_hi b⟩)).2
  have HLK2 := Lib.hid hlk2
  have e1 : w4.cell? ⟨c, 1, none⟩ = some (.map (some bb)) := cellAt HC4.out 1
  have hbbA : ((w4.alloc (.cells #[.int .i64 ((P.length : Int) + 1)] 3)).drew).heap[bb]? = w4.heap[bb]? := Below.heap_alloc w4 _ bb HBY3.out.mb.lt
  have e2 : ((w4.alloc (.cells #[.int .i64 ((P.length : Int) + 1)] 3)).drew).cell? ⟨c, 1, none⟩ = some (.map (some bb)) := cellAt (w := (w4.alloc (.cells #[.int .i64 ((P.length : Int) + 1)] 3)).drew) (heap_old HC4.out _) 1
  have hnc : ∀ arr, Obj.cells #[.map (some bl), .map (some bb), .int .i64 ((P.length : Int) + 1), .int .i64 sz] 118 (0, 0) ≠ .cells arr 3 (0, 0) := fun arr h => by injection h with _ h; exact absurd h (by decide)
  have hcbb : c ≠ bb := fun e => (HBY3.out.mb).cells (e ▸ HC4.out)
  obtain ⟨hc5, hc6⟩ := hkept c _ HC4.out hcbb hnc
  have e5 : w5.cell? ⟨c, 1, none⟩ = some (.map (some bb)) := cellAt hc5 1
  have e6 : w6.cell? ⟨c, 1, none⟩ = some (.map (some bb)) := cellAt hc6 1
  have l1 := hlk2 w4.drew rfl
  have l2 := hlk2 _ hbbA
  have hr5' : (Builtin.append_ #[90, 90] 90 #[av, .slice (some ⟨w4.heap.size, 0, none⟩) 1 1]).run Tryz.prog ((w4.alloc (.cells #[.int .i64 ((P.length : Int) + 1)] 3)).drew) = .ok v5 w5 := hr5
  have HBY6 := Lib.hid hby6
  have HB6 := Lib.hid hB6
  have HKEPT := Lib.hid hkept
  have HC6 := Lib.hid hc6
  clear hby6 hB6 hkept hlk2 hr5 hnc hc5 hc6 hbbA
  go_region_held3 (fun w' => w'.cell? ⟨c, 1, none⟩ = some (.map (some bb))) (first | exact e1 | exact e2 | exact e5 | exact e6) (first | (refine step_append_run rfl _ _ 90 rfl v5 w5 hr5' ?_))
  all_goals (
    have f2 := cellAt HC6.out 2
    have f3 := cellAt HC6.out 3
    have g2 := frozenAt HC6.out 2
    have g3 := frozenAt HC6.out 3
    simp only [List.getElem?_toArray, List.getElem?_cons_zero, List.getElem?_cons_succ] at f2 f3
    have dm : decide ((P.length : Int) + 1 < (P.length : Int) + 1 + 1) = true := by simp only [decide_eq_true_eq]; omega
    have wm := IntWalk.wrap64_in ((P.length : Int) + 1 + 1) (by omega)
    go_wp2
    go_ret
    rw [show max (P.length : Int) ((P.length : Int) + 1) + 1 = (P.length : Int) + 1 + 1 by omega]
    exact ⟨rfl, set_close (vs := vs) (v' := v') HH.out HV.out HBL.out HNEW.out h0 h1 hsm HQ2.out HO.out HN.out HM3.out HT3.out HC3.out HQ4.out HBY6.out HB6.out (fun k o a b c => (HKEPT.out k o a b c).2) HC6.out _⟩)
open Classical in
/-- The store behind Put; the piece's number. -/
noncomputable def putP (P : List (List Int)) (b : List Int) : List (List Int) := if b ∈ P then P else P ++ [b]
noncomputable def putId (P : List (List Int)) (b : List Int) : Int := (pieceId P b).getD ((P.length : Int) + 1)
theorem pieceId_mem {P : List (List Int)} {b : List Int} (hn : P.Nodup) (h : b ∈ P) : ∃ j : Nat, P[j]? = some b ∧ pieceId P b = some ((j : Int) + 1) := by
  obtain ⟨j, hj, e⟩ := List.getElem_of_mem h
  have : P[j]? = some b := by rw [List.getElem?_eq_getElem hj, e]
  exact ⟨j, this, pieceId_some hn this⟩
set_option maxRecDepth 100000 in
set_option maxHeartbeats 2000000 in
theorem put_any (w : World) (B c : Nat) (P : List (List Int)) (bl bb : Nat) (vs : List Value) (fb : Int → Option Value) (m : Nat) (sz : Int) (H : ChunksAt w B c P bl bb vs fb m sz) (v : Value) (b : List Int) (hv : Sl w 5 1 v b.length (u8s b)) (hb : ByteL b) (h0 : 0 < b.length) (h1 : b.length ≤ 64) (hsm : P.length + 1 ≤ 100000) :
    Calls Tryz.prog 59 #[.pointer (some ⟨c, 0, none⟩), v] w fun e w' => ∃ nw, e = .returned (.tuple #[.int .i64 (putId P b), .bool nw, .int .i64 0]) ∧ ∃ vs' fb' m' sz', ChunksAt w' B c (putP P b) bl bb vs' fb' m' sz' ∧ Below B w w' ∧ KeptC w w' := by
  have HH := Lib.hid H
  have HV := Lib.hid hv
  obtain ⟨a, cap, rfl, hcap, -, -⟩ := hv.shape
  have hBw : B ≤ w.heap.size := by have := H.lo; have := heap_lt H.cell; omega
  have HFIND := Lib.hid (fun w' (hw : Below w.heap.size w w') => find_any w' B c P bl bb vs fb m sz (H.below hw) (.slice a b.length cap) 0 b (hv.below hw) hb (by omega))
  by_cases hin : b ∈ P
  · obtain ⟨j, hj, hpid⟩ := pieceId_mem H.nodup hin
    have HP := Lib.hid (show putP P b = P by unfold putP; rw [if_pos hin])
    have HI := Lib.hid (show putId P b = (j : Int) + 1 by unfold putId; rw [hpid]; rfl)
    rw [hpid] at HFIND
    clear H hv hin
    go_enter Tryz.func59, Tryz.ntmps59
    go_wp2_with (first | (go_at_call 105; refine (mayPiece_any _ _ b HV.out h0 h1).mono ?_; rintro e w1 ⟨rfl, hw⟩; have hw := hw.symm; subst hw) | (go_at_call 106; refine (HFIND.out _ (Below.refl _ _)).mono ?_; rintro e w1 ⟨rfl, hq⟩; simp only [Option.getD_some, Option.isSome_some]; have HQ1 := Lib.hid hq; clear hq))
    refine bodyPost_ret (v := .tuple #[.int .i64 ((j : Int) + 1), .bool false, .int .i64 0]) (by simp [results, Tryz.results59, go_sem]) rfl ?_
    refine ⟨_, by rw [HI.out], vs, fb, m, sz, ?_, HQ1.out.mono hBw, .of_below HQ1.out⟩
    rw [HP.out]
    exact HH.out.below HQ1.out
  · have HP := Lib.hid (show putP P b = P ++ [b] by unfold putP; rw [if_neg hin])
    have HI := Lib.hid (show putId P b = (P.length : Int) + 1 by unfold putId; rw [pieceId_none hin]; rfl)
    have HIN := Lib.hid hin
    rw [pieceId_none hin] at HFIND
    have HBL := Lib.hid hb
    have c2 := cellAt H.cell 2
    simp only [List.getElem?_toArray, List.getElem?_cons_zero, List.getElem?_cons_succ] at c2
    clear H hv hin hb
    go_enter Tryz.func59, Tryz.ntmps59
    go_wp2_with (first | (go_at_call 105; refine (mayPiece_any _ _ b HV.out h0 h1).mono ?_; rintro e w1 ⟨rfl, hw⟩; have hw := hw.symm; subst hw) | (go_at_call 106; refine (HFIND.out _ (Below.refl _ _)).mono ?_; rintro e w1 ⟨rfl, hq⟩; simp only [Option.getD_none, Option.isSome_none]; have HQ1 := Lib.hid hq; have cQ2 := (hq.cell (p := ⟨c, 2, none⟩) (heap_lt HH.out.cell)).trans c2; clear hq) | (go_at_call 107; refine (set_any _ B c P bl bb vs fb m sz (HH.out.below HQ1.out) _ b (HV.out.below HQ1.out) HBL.out h0 h1 HIN.out hsm).mono ?_; rintro e w2 ⟨rfl, hq⟩; have HQ2 := Lib.hid hq; clear hq))
    refine bodyPost_ret (v := .tuple #[.int .i64 ((P.length : Int) + 1), .bool true, .int .i64 0]) (by simp [results, Tryz.results59, go_sem]) rfl ?_
    obtain ⟨vs', fb', m', sz', h1, h2, h3⟩ := HQ2.out
    refine ⟨_, by rw [HI.out], vs', fb', m', sz', ?_, (HQ1.out.mono hBw).trans h2, (KeptC.of_below HQ1.out).trans h3⟩
    rw [HP.out]
    exact h1
end Go.Proofs.YtaonlcgneemimaaGreatDoor
namespace Go.Proofs.YtaonlcgneemimaaGreatDoor
open Go.RowKit
theorem append_run_sl {P : Program} {w : World} (base : Nat) (t ty e : TypeId) (i : TypeInfo) (z : Value) (size bytes : Nat) (ht : P.underlying t = some (.slice e)) (hi : P.info? e = some i) (hz : i.zero = some z)
    (hsize : i.size = size) (hby : i.bytes = bytes) (hzs : z.cells.size = size) (hsz : 0 < size)
    (v : Value) (n : Nat) (xs : List Value) (hown : w.ownsRow base e size v n xs) (vx : Value) (m : Nat) (news : List Value) (hsl : Sl w e size vx m news)
    (h63 : n + m ≤ 1000000) (hbytes : bytes ≤ 100000) (hbase : base ≤ w.heap.size) :
    ∃ v' w', (Builtin.append_ #[t, t] ty #[v, vx]).run P w = .ok v' w' ∧ w'.ownsRow base e size v' (n + m) (xs ++ news) ∧ w.grownBy w' v.ownBlock ∧ (v' = .slice none 0 0 ↔ v = .slice none 0 0 ∧ m = 0) ∧ (v'.ownBlock = v.ownBlock ∨ v'.ownBlock = some w.heap.size) := by
  obtain ⟨hl, h1, hv⟩ := hsl
  rcases hv with ⟨rfl, rfl⟩ | ⟨g, off, cap, arr, rfl, e2, e3, e4, e5, e6⟩
  · obtain rfl : news = [] := List.eq_nil_of_length_eq_zero (by simpa using hl)
    have hr := run_append_owned_none (P := P) w base t ty e i size ht hi v n xs hown
    exact ⟨v, w, hr, by simpa using hown, World.grownBy.refl _ _, by simp, .inl rfl⟩
  · refine run_append_own_at w base t ty e i z size bytes ht hi hz hsize hby hzs hsz v n xs hown ⟨g, off, none⟩ m cap news hl (fun j u hj => ?_) h1 (by unfold maxLen; omega) ?_ hbase
    · have h6 := e6 j u hj
      rw [show (⟨g, off, none⟩ : Addr).add j = ⟨g, off + j, none⟩ by unfold Addr.add; split <;> simp_all]
      unfold World.cell?
      simp [e5, h6]
    · have : (n + m) * bytes ≤ 1000000 * 100000 := Nat.mul_le_mul h63 hbytes
      omega
theorem step_append_sl {P : Program} {ops : Array Oper} {o : Oper} {a : Act} {w : World} {K : Act → World → Prop} {Q : Exit → Act → World → Prop} {E : Prop} (hgd : o.guard = none) (s x : Operand) (t : TypeId)
    (ho : o.op = .call { callee := .builtin .append, args := #[s, x], argTypes := #[t, t] })
    (base : Nat) (e : TypeId) (i : TypeInfo) (z : Value) (size bytes : Nat) (ht : P.underlying t = some (.slice e)) (hi : P.info? e = some i) (hz : i.zero = some z)
    (hsize : i.size = size) (hby : i.bytes = bytes) (hzs : z.cells.size = size) (hsz : 0 < size)
    (v : Value) (n : Nat) (xs : List Value) (hs : a.eval s = v) (hown : w.ownsRow base e size v n xs)
    (vx : Value) (m : Nat) (news : List Value) (hx : a.eval x = vx) (hsl : Sl w e size vx m news)
    (h63 : n + m ≤ 1000000) (hbytes : bytes ≤ 100000) (hbase : base ≤ w.heap.size)
    (h : ∀ v' w', w'.ownsRow base e size v' (n + m) (xs ++ news) → w.grownBy w' v.ownBlock → (v' = .slice none 0 0 ↔ v = .slice none 0 0 ∧ m = 0) → (v'.ownBlock = v.ownBlock ∨ v'.ownBlock = some w.heap.size) → K (a.put o.dst v') w') :
    if Region.wanted o (yielded ops a.tmps) = true then Oper.wp P o a w K Q else E := by
  obtain ⟨v', w', hr, h1, h2, h3, h4⟩ := append_run_sl (P := P) base t o.type e i z size bytes ht hi hz hsize hby hzs hsz v n xs hown vx m news hsl h63 hbytes hbase
  refine step_append_run hgd s x t ho v' w' ?_ (h v' w' h1 h2 h3 h4)
  rw [hs, hx]
  exact hr
/-- A row of one's own, just laid. -/
theorem Sl.block {w : World} {g e sz n : Nat} {xs : List Value} (h : w.heap[g]? = some (.cells xs.toArray e (0, 0))) (hl : xs.length = n * sz) (h1 : ∀ u ∈ xs, u.oneCell' = true) (h0 : 0 < n) (hn : n ≤ 1000000) : Sl w e sz (.slice (some ⟨g, 0, none⟩) n n) n xs :=
  ⟨hl, h1, .inr ⟨g, 0, n, _, rfl, h0, Nat.le_refl _, by unfold maxLen; omega, h, fun j u hj => by simpa using hj⟩⟩
theorem Sl.block' {w : World} {g e sz n : Nat} {arr : Array Value} (h : w.heap[g]? = some (.cells arr e (0, 0))) (hl : arr.size = n * sz) (h1 : ∀ u ∈ arr.toList, u.oneCell' = true) (h0 : 0 < n) (hn : n ≤ 1000000) : Sl w e sz (.slice (some ⟨g, 0, none⟩) n n) n arr.toList :=
  ⟨by simpa using hl, h1, .inr ⟨g, 0, n, _, rfl, h0, Nat.le_refl _, by unfold maxLen; omega, h, fun j u hj => by simpa using hj⟩⟩
end Go.Proofs.YtaonlcgneemimaaGreatDoor
