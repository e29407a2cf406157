/- TopNames: the contracts of U1, V1, F3; no condition. -/
import Derived.Test.YtaonlcgneemimaaGreatDoorJ15
import Derived.Test.YtaonlcgneemimaaGreatDoorJ08
import Derived.Test.YtaonlcgneemimaaGreatDoorJ14
namespace Go.Proofs.YtaonlcgneemimaaGreatDoor
open Go.RowKit
/-- The first n points, at time nought, without marks. -/
def ptsC : Nat → List Value
  | 0 => []
  | n + 1 => ptsC n ++ [.int .i64 ((n : Int) + 1), .float .f64 0, .string ⟨#[]⟩]
theorem ptsC_length : ∀ n, (ptsC n).length = n * 3
  | 0 => rfl
  | n + 1 => by simp [ptsC, ptsC_length n]; omega
theorem ptsC_one : ∀ n, ∀ u ∈ ptsC n, u.oneCell' = true
  | 0, u, h => by simp [ptsC] at h
  | n + 1, u, h => by
    simp only [ptsC, List.mem_append, List.mem_cons, List.not_mem_nil, or_false] at h
    rcases h with h | rfl | rfl | rfl
    · exact ptsC_one n u h
    · rfl
    · rfl
    · rfl
theorem ptsC_get : ∀ (n i : Nat), i < n → (ptsC n)[i * 3]? = some (.int .i64 ((i : Int) + 1)) ∧ (ptsC n)[i * 3 + 1]? = some (.float .f64 0) ∧ (ptsC n)[i * 3 + 2]? = some (.string ⟨#[]⟩)
  | n + 1, i, h => by
    have hl := ptsC_length n
    by_cases e : i = n
    · subst e
      unfold ptsC
      rw [List.getElem?_append_right (by omega), List.getElem?_append_right (by omega), List.getElem?_append_right (by omega)]
      rw [hl, show i * 3 - i * 3 = 0 by omega, show i * 3 + 1 - i * 3 = 1 by omega, show i * 3 + 2 - i * 3 = 2 by omega]
      exact ⟨rfl, rfl, rfl⟩
    · have ih := ptsC_get n i (by omega)
      unfold ptsC
      rw [List.getElem?_append_left (by omega), List.getElem?_append_left (by omega), List.getElem?_append_left (by omega)]
      exact ih
/-- A slice of the first n points. -/
def PtsV (w : World) (v : Value) (n : Nat) : Prop := Sl w 52 3 v n (ptsC n)
theorem pts_cells {w : World} {v : Value} {n : Nat} (h : PtsV w v n) : ∃ a cap, v = .slice a n cap ∧ n ≤ cap ∧ (a = none → n = 0) ∧ ∀ j, j < n → ∃ g off, a = some ⟨g, off, none⟩ ∧ g < w.heap.size ∧ w.cell? ⟨g, off + j * 3, none⟩ = some (.int .i64 ((j : Int) + 1)) ∧ w.cell? ⟨g, off + j * 3 + 1, none⟩ = some (.float .f64 0) ∧ w.cell? ⟨g, off + j * 3 + 2, none⟩ = some (.string ⟨#[]⟩) := by
  obtain ⟨a, cap, rfl, hc, ha, hj⟩ := Sl.shape h
  refine ⟨a, cap, rfl, hc, ha, fun j hlt => ?_⟩
  obtain ⟨g, off, rfl, hg, hk⟩ := hj j hlt
  have hg3 := ptsC_get n j hlt
  exact ⟨g, off, rfl, hg, hk 0 _ (by decide) hg3.1, hk 1 _ (by decide) hg3.2.1, hk 2 _ (by decide) hg3.2.2⟩
set_option maxRecDepth 100000 in
set_option maxHeartbeats 4000000 in
theorem pointsMay_any (w : World) (v : Value) (n : Nat) (h : PtsV w v n) (hn : n ≤ 100000) :
    Calls Tryz.prog 125 #[v] w fun e w' => e = .returned (.bool true) ∧ Below w.heap.size w w' := by
  obtain ⟨a, cap, rfl, hcap, -, hcells⟩ := pts_cells h
  have HC := Lib.hid hcells
  have hmk := fun t w => run_makeMap (P := Tryz.prog) t w
  have hf := f_lss
  have hsf := fun (W : World) (p : Addr) => run_store Tryz.prog W p (.float .f64 0) .plain rfl
  clear h hcells
  go_enter Tryz.func125, Tryz.ntmps125
  go_wp2
  go_loopw [3, 4, 11] (fun t3 t4 ti wr => ∃ k nm : Nat, ∃ f, k ≤ n ∧ nm ≤ k ∧ ti = .int .i64 k ∧ t3 = .int .i64 k ∧ t4 = .float .f64 0 ∧ Hid (MapX KS wr w.heap.size nm f) ∧ Hid (Below w.heap.size w wr)) (fun _ _ i _ => n - (intOf i).toNat)
  case atStart => exact ⟨0, 0, fun _ => none, by omega, by omega, rfl, rfl, rfl, MapX.made KS w, (Below.refl _ _).alloc (Nat.le_refl _) _⟩
  case round =>
    obtain ⟨k, nm, f, hk, hnm, rfl, rfl, rfl, hmap, hbel⟩ := hrel
    by_cases hlt : k < n
    · obtain ⟨g, off, rfl, hg, c0, c1, c2⟩ := HC.out k hlt
      have t : ∀ o u, w.cell? ⟨g, o, none⟩ = some u → wr.cell? ⟨g, o, none⟩ = some u := fun o u h => by
        rw [hbel.out.cell (p := ⟨g, o, none⟩) hg]
        exact h
      have q0 := t _ _ c0
      have q1 := t _ _ c1
      have q2 := t _ _ c2
      have d1 : decide ((k : Int) + 1 ≤ k) = false := by simp; omega
      have hml := hmap.out.lt
      have HN2 := Lib.hid (heap_new wr (.cells #[.int .i64 ((k : Int) + 1), .float .f64 0, .string ⟨#[]⟩] 52))
      have hm2 : MapX KS (wr.alloc (.cells #[.int .i64 ((k : Int) + 1), .float .f64 0, .string ⟨#[]⟩] 52)).drew w.heap.size nm f := hmap.out.same (Below.heap_alloc wr _ _ hml)
      obtain ⟨w3, hrun, hm3, ht3⟩ := hm2.store Tryz.underlying254 (by unfold maxLen; omega) (x := ⟨#[]⟩) (by show (0 : Nat) ≤ maxLen; omega) (.bool true)
      have hrun' : (Instr.mapUpdate 254 (.map (some w.heap.size)) (.string ⟨#[]⟩) (.bool true)).run Tryz.prog (wr.alloc (.cells #[.int .i64 ((k : Int) + 1), .float .f64 0, .string ⟨#[]⟩] 52)).drew = .ok () w3 := hrun
      have HM3 := Lib.hid hm3
      have HT3 := Lib.hid ht3
      have HN3 := Lib.hid (turned_keep ht3 HN2.out (fun e => by omega))
      have HB3 := Lib.hid ((hbel.out.alloc hbel.out.size (.cells #[.int .i64 ((k : Int) + 1), .float .f64 0, .string ⟨#[]⟩] 52)).drew.grown ht3.grown (by have := hbel.out.size; show w.heap.size ≤ (wr.alloc (.cells #[.int .i64 ((k : Int) + 1), .float .f64 0, .string ⟨#[]⟩] 52)).heap.size; simp; omega) (fun k' hk' => by cases hk'; exact Nat.le_refl _))
      have HK : Hid (∀ W : World, W.heap[wr.heap.size]? = some (.cells #[.int .i64 ((k : Int) + 1), .float .f64 0, .string ⟨#[]⟩] 52 (0, 0)) → W.cell? ⟨wr.heap.size, 0, none⟩ = some (.int .i64 ((k : Int) + 1)) ∧ W.cell? ⟨wr.heap.size, 1, none⟩ = some (.float .f64 0) ∧ W.cell? ⟨wr.heap.size, 2, none⟩ = some (.string ⟨#[]⟩)) := Lib.hid (fun W h => ⟨cellAt h 0, cellAt h 1, cellAt h 2⟩)
      clear c0 c1 c2 t hm2 hrun hm3 ht3
      go_wp2_with (first | (go_at_call 82; refine (ageMay0 _).mono ?_; rintro e w1 ⟨rfl, hw⟩; have hw := hw.symm; subst hw) | (go_at_call 167; refine (signbit0 _).mono ?_; rintro e w1 ⟨rfl, hw⟩; have hw := hw.symm; subst hw))
      go_region_held3 (fun W => W.cell? ⟨wr.heap.size, 0, none⟩ = some (.int .i64 ((k : Int) + 1)) ∧ W.cell? ⟨wr.heap.size, 1, none⟩ = some (.float .f64 0) ∧ W.cell? ⟨wr.heap.size, 2, none⟩ = some (.string ⟨#[]⟩)) (first | exact HK.out _ HN2.out | exact HK.out _ HN3.out) (first | fail)
      go_wp2_with fail
      go_roundw
      case rel => exact ⟨k + 1, _, _, by omega, (by split <;> omega), by go_num, by go_num, rfl, HM3.out, HB3.out⟩
      case measure => simp [intOf]; omega
    · go_wp2
      go_ret
      exact ⟨rfl, hbel.out⟩
end Go.Proofs.YtaonlcgneemimaaGreatDoor
namespace Go.Proofs.YtaonlcgneemimaaGreatDoor
open Go.RowKit
set_option maxRecDepth 100000 in
set_option maxHeartbeats 2000000 in
theorem fstat_any (w : World) (s a b sm nf nb : Nat) (T : ByteArray → Option Int) (next : Int) (S : Int → Option BodyA) (g : Int → Option Value) (H : StateAt w s a b sm nf nb T next S g) (c : Fin 26) (id : Int) (hT : T (fp c.1) = some id) (bd : BodyA) (hS : S id = some bd) (hid : 0 ≤ id ∧ id ≤ 4611686018427387904) :
    Calls Tryz.prog 44 #[.pointer (some ⟨s, 0, none⟩), .string (fp c.1)] w fun e w' => e = .returned (.tuple #[.agg #[.int .i64 id, .bool false, .int .i64 bd.size], .int .i64 0]) ∧ Below w.heap.size w w' := by
  have hb0 : ∀ o, Below w.heap.size w (w.alloc o) := fun o => (Below.refl _ _).alloc (Nat.le_refl _) _
  have HL := Lib.hid (fun w' (hb : Below w.heap.size w w') => look_hit w' a b nf T next (H.tree.below hb) c id hT)
  obtain ⟨bv, hbv, hBV, -, -⟩ := H.bodies.held id bd hS
  obtain ⟨s', rfl, -⟩ := hBV
  have hlook : ∀ W, W.heap[sm]? = w.heap[sm]? → (Instr.lookup 119 (.map (some sm)) (.int .i64 id) false).run Tryz.prog W = .ok (.agg #[.int .i64 bd.size, s']) W := fun W hW => by
    have h := ((H.bodies.map.same hW).look Tryz.underlying119 (zero100 W) (KI_good (x := id) (by omega))).2
    rw [hbv] at h
    exact h
  have HLK := Lib.hid hlook
  have hsml := H.bodies.map.lt
  have hs0 := heap_lt H.cell
  have x0 : (w.alloc (.cells #[.int .i64 0, .bool false, .int .i64 0] 54)).cell? ⟨s, 0, none⟩ = some (.pointer (some ⟨a, 0, none⟩)) := cellAt (heap_old H.cell _) 0
  have HC := Lib.hid H.cell
  have hfd : ∀ w : World, (Instr.field 100 (.agg #[.int .i64 bd.size, s']) 0).run Tryz.prog w = .ok (.int .i64 bd.size) w := fun _ => by kernel_rfl
  clear H hT hS hbv hlook
  obtain ⟨p, hp⟩ : ∃ p, Hid (p = fp c.1) := ⟨_, rfl⟩
  rw [← hp.out] at HL ⊢
  go_enter Tryz.func44, Tryz.ntmps44
  go_wp2_with (go_at_call 87; refine (HL.out _ (hb0 _)).mono ?_; rintro e w1 ⟨rfl, hq⟩; have HQ := Lib.hid ((hb0 (.cells #[.int .i64 0, .bool false, .int .i64 0] 54)).trans (hq.mono (hb0 _).size)); have x1 : w1.cell? ⟨s, 1, none⟩ = some (.map (some sm)) := cellAt (Below.heap HQ.out (Nat.le_refl _) HC.out) 1; have l1 := HLK.out w1 (HQ.out.block sm hsml); have HN := Lib.hid (Below.heap hq (Nat.le_refl _) (heap_new w (.cells #[.int .i64 0, .bool false, .int .i64 0] 54))); have n0 : w1.cell? ⟨w.heap.size, 0, none⟩ = some (.int .i64 0) := cellAt HN.out 0; have n1 : w1.cell? ⟨w.heap.size, 1, none⟩ = some (.bool false) := cellAt HN.out 1; have n2 : w1.cell? ⟨w.heap.size, 2, none⟩ = some (.int .i64 0) := cellAt HN.out 2; have f0 := frozenAt HN.out 0; have f1 := frozenAt HN.out 1; have f2 := frozenAt HN.out 2; clear hq)
  have hF := setAt (setAt (setAt HN.out 0 (.int .i64 id)) 1 (.bool false)) 2 (.int .i64 bd.size)
  have j0 := cellAt hF 0
  have j1 := cellAt hF 1
  have j2 := cellAt hF 2
  simp at j0 j1 j2
  refine bodyPost_ret (v := .tuple #[.agg #[.int .i64 id, .bool false, .int .i64 bd.size], .int .i64 0]) (by simp [results, Tryz.results44, go_sem, j0, j1, j2]) rfl ?_
  exact ⟨rfl, ((HQ.out.setCell (p := ⟨w.heap.size, 0, none⟩) (Nat.le_refl _) _).setCell (p := ⟨w.heap.size, 1, none⟩) (Nat.le_refl _) _).setCell (p := ⟨w.heap.size, 2, none⟩) (Nat.le_refl _) _⟩
set_option maxRecDepth 100000 in
set_option maxHeartbeats 2000000 in
theorem fbody_any (w : World) (s a b sm nf nb : Nat) (T : ByteArray → Option Int) (next : Int) (S : Int → Option BodyA) (g : Int → Option Value) (H : StateAt w s a b sm nf nb T next S g) (id : Int) (bd : BodyA) (hS : S id = some bd) (hid : 0 ≤ id ∧ id ≤ 4611686018427387904) :
    Calls Tryz.prog 37 #[.pointer (some ⟨s, 0, none⟩), .int .i64 id] w fun e w' => ∃ v, e = .returned (.tuple #[v, .bool true]) ∧ BodyV w' v bd ∧ Below w.heap.size w w' := by
  obtain ⟨bv, hbv, hBV, -, hfew⟩ := H.bodies.held id bd hS
  obtain ⟨s', rfl, hsl⟩ := hBV
  obtain ⟨pa, pc, rfl, -, -⟩ := parts_cells hsl
  have hlook : ∀ W, W.heap[sm]? = w.heap[sm]? → (Instr.lookup 119 (.map (some sm)) (.int .i64 id) true).run Tryz.prog W = .ok (.tuple #[.agg #[.int .i64 bd.size, .slice pa bd.parts.length pc], .bool true]) W := fun W hW => by
    have h := ((H.bodies.map.same hW).look Tryz.underlying119 (zero100 W) (KI_good (x := id) (by omega))).1
    rw [hbv] at h
    exact h
  have hsml := H.bodies.map.lt
  have hs0 := heap_lt H.cell
  have x1 : (w.alloc (.cells #[.int .i64 0, .slice none 0 0] 100)).cell? ⟨s, 1, none⟩ = some (.map (some sm)) := cellAt (heap_old H.cell _) 1
  have l1 := hlook _ (Below.heap_alloc w (.cells #[.int .i64 0, .slice none 0 0] 100) sm hsml)
  have HS := Lib.hid hsl
  clear H hS hbv hlook hsl
  go_enter Tryz.func37, Tryz.ntmps37
  go_wp2_with (go_at_call 78; refine (clonePart_any _ _ _ _ (HS.out.below (((Below.refl w.heap.size w).alloc (Nat.le_refl _) _).alloc (by simp) _)) (by omega)).mono ?_; rintro e w1 ⟨v', rfl, ho, hn, hq⟩; have HOS := Lib.hid (Sl.of_own ho (partsC_one _) (by rcases Nat.eq_zero_or_pos bd.parts.length with h0 | h0; exact .inl (hn.2 h0); exact .inr h0)); have HO := Lib.hid ho; (obtain ⟨va, vc, rfl, -, -⟩ := parts_cells HOS.out); have HN := Lib.hid hn; have HQ := Lib.hid hq; have hN := Below.heap hq (Nat.le_refl _) (heap_old (heap_new w (.cells #[.int .i64 0, .slice none 0 0] 100)) (.cells #[.int .i64 bd.size, .slice pa bd.parts.length pc] 100)); have hM := Below.heap hq (Nat.le_refl _) (heap_new (w.alloc (.cells #[.int .i64 0, .slice none 0 0] 100)) (.cells #[.int .i64 bd.size, .slice pa bd.parts.length pc] 100)); simp only [World.size_alloc] at hM; have HN0 := Lib.hid hN; have HM0 := Lib.hid hM; have n0 := cellAt hN 0; have n1 := cellAt hN 1; have m0 := cellAt hM 0; have m1 := cellAt hM 1; simp only [List.getElem?_toArray, List.getElem?_cons_zero, List.getElem?_cons_succ] at n0 n1 m0 m1; have f0 := frozenAt hN 0; have f1 := frozenAt hN 1; have g0 := frozenAt hM 0; have g1 := frozenAt hM 1; clear ho hn hq hN hM)
  have hF := setAt (setAt ((heap_set_ne (w := w1) (i := 1) (.slice va bd.parts.length vc) (by omega : w.heap.size ≠ w.heap.size + 1)).trans HN0.out) 0 (.int .i64 bd.size)) 1 (.slice va bd.parts.length vc)
  have j0 := cellAt hF 0
  have j1 := cellAt hF 1
  simp at j0 j1
  refine bodyPost_ret (v := .tuple #[.agg #[.int .i64 bd.size, .slice va bd.parts.length vc], .bool true]) (by simp [results, Tryz.results37, go_sem, j0, j1]) rfl ?_
  refine ⟨_, rfl, ⟨_, rfl, HOS.out.kept (fun k arr hk => ?_)⟩, ((((((Below.refl w.heap.size w).alloc (Nat.le_refl _) _).alloc (by simp) _).trans (HQ.out.mono (by simp; omega))).setCell (p := ⟨w.heap.size + 1, 1, none⟩) (by simp) _).setCell (p := ⟨w.heap.size, 0, none⟩) (Nat.le_refl _) _).setCell (p := ⟨w.heap.size, 1, none⟩) (Nat.le_refl _) _⟩
  have k1 : k ≠ w.heap.size := fun e => by rw [e, HN0.out] at hk; injection hk with hk; injection hk with _ h; exact absurd h (by decide)
  have k2 : k ≠ w.heap.size + 1 := fun e => by rw [e, HM0.out] at hk; injection hk with hk; injection hk with _ h; exact absurd h (by decide)
  rw [heap_set_ne _ k1, heap_set_ne _ k1, heap_set_ne _ k2]
  exact hk
end Go.Proofs.YtaonlcgneemimaaGreatDoor
namespace Go.Proofs.YtaonlcgneemimaaGreatDoor
open Go.RowKit
def rowB (i : ItemA) : List Int := leB 8 0 ++ itemB i
/-- A record of events as bytes. -/
def recordB (seq : Nat) (its : List ItemA) : List Int := [1] ++ numB seq ++ numB its.length ++ its.flatMap rowB
theorem leB_length : ∀ (k n : Nat), (leB k n).length = k
  | 0, n => rfl
  | k + 1, n => by simp [leB, leB_length k]
theorem rowsB_le {its : List ItemA} {k : Nat} : ((its.take k).flatMap rowB).length ≤ (its.flatMap rowB).length := by
  have h := congrArg (fun l => (List.flatMap rowB l).length) (List.take_append_drop k its)
  simp only [List.flatMap_append, List.length_append] at h
  omega
theorem PenAt.mono {w : World} {B B' a : Nat} {l : List Int} (h : PenAt w B a l) (hB : B' ≤ B) : PenAt w B' a l := by
  obtain ⟨v, h1, h2, h3, h4⟩ := h
  exact ⟨v, h1, own_mono h2 hB, Nat.le_trans hB h3, h4⟩
/-- A pen in a function of a record: it has written l since the call began at wE; the record's box is as it was. -/
structure PenRec (wE w : World) (a : Nat) (l : List Int) (bx : Nat) (cs : List Value) : Prop where
  pen : PenAt w wE.heap.size a l
  below : Below wE.heap.size wE w
  box : w.heap[bx]? = some (.cells cs.toArray 137 (0, 0))
theorem PenRec.step {wE w w' : World} {a bx : Nat} {l l' : List Int} {cs : List Value} (h : PenRec wE w a l bx cs) (hp : PenAt w' wE.heap.size a l') (hb : Below wE.heap.size w w') (hk : PenKeep a w w') : PenRec wE w' a l' bx cs := by
  obtain ⟨v, ha, hr⟩ := h.pen
  refine ⟨hp, h.below.trans hb, hk bx _ h.box ?_ (fun arr e => by injection e with _ e; exact absurd e (by decide))⟩
  rintro rfl
  rw [h.box] at ha
  injection ha with ha
  injection ha with _ e
  exact absurd e (by decide)
theorem PenRec.alloc {wE w : World} {a bx : Nat} {l : List Int} {cs : List Value} (h : PenRec wE w a l bx cs) (o : Obj) : PenRec wE (w.alloc o) a l bx cs := by
  have hb : Below w.heap.size w (w.alloc o) := (Below.refl _ _).alloc (Nat.le_refl _) _
  exact ⟨h.pen.below hb, h.below.trans (hb.mono h.below.size), heap_old h.box _⟩
theorem PenRec.ne {wE w : World} {a bx : Nat} {l : List Int} {cs : List Value} (h : PenRec wE w a l bx cs) : w.heap.size ≠ a := by
  obtain ⟨v, ha, _⟩ := h.pen
  have := heap_lt ha
  omega
theorem PenRec.facts {wE w : World} {a bx : Nat} {l : List Int} {v0 v1 v2 v3 v4 v5 : Value} (h : PenRec wE w a l bx [v0, v1, v2, v3, v4, v5]) : w.cell? ⟨bx, 0, none⟩ = some v0 ∧ w.cell? ⟨bx, 1, none⟩ = some v1 ∧ w.cell? ⟨bx, 2, none⟩ = some v2 ∧ w.cell? ⟨bx, 5, none⟩ = some v5 :=
  ⟨cellAt h.box 0, cellAt h.box 1, cellAt h.box 2, cellAt h.box 5⟩
theorem append_nothing {w : World} {B n : Nat} {v : Value} {xs : List Value} (h : w.ownsRow B 5 1 v n xs) (ty : TypeId) : (Builtin.append_ #[33, 33] ty #[v, .slice none 0 0]).run Tryz.prog w = .ok v w := by
  obtain ⟨i0, hi, hz0, hz1, hz2⟩ := info_parts info5
  exact run_append_owned_none (P := Tryz.prog) w B 33 ty 5 i0 1 Tryz.underlying33 hi v n xs h
set_option maxRecDepth 100000 in
set_option maxHeartbeats 4000000 in
theorem batchBytes_any (w : World) (seq : Nat) (v : Value) (its : List ItemA) (h : RowsV w v its) (hg : ∀ i ∈ its, i.good) (hne : its ≠ []) (hn : its.length ≤ 100000) (h1 : 1 ≤ seq) (h2 : seq ≤ 4611686018427387904) (hlen : (recordB seq its).length ≤ 16384) :
    Calls Tryz.prog 60 #[.agg (RecC seq v).toArray] w fun e w' => ∃ v', e = .returned (.tuple #[v', .int .i64 0]) ∧ w'.ownsRow w.heap.size 5 1 v' (recordB seq its).length (u8s (recordB seq its)) ∧ Below w.heap.size w w' := by
  have HR := Lib.hid h
  have HG := Lib.hid hg
  have HNE := Lib.hid hne
  have HLEN := Lib.hid hlen
  obtain ⟨ra, rc, rfl, hcap, -, hcells⟩ := rows_cells h
  have HC := Lib.hid hcells
  have N9 := Lib.hid (numB_len 8 seq (by omega))
  have N8 := Lib.hid (numB_len 8 its.length (by omega))
  obtain ⟨pre, hpre⟩ : ∃ pre, Hid (pre = [(1 : Int)] ++ numB seq ++ numB its.length) := ⟨_, rfl⟩
  have HREC := Lib.hid (show recordB seq its = pre ++ its.flatMap rowB by rw [hpre.out]; rfl)
  clear h hg hne hlen hcells
  unfold RecC
  go_enter Tryz.func60, Tryz.ntmps60
  go_wp2_with (first
    | (go_at_call 108; refine (batchMay_any _ seq _ its (HR.out.below ((Below.refl _ w).alloc (Nat.le_refl _) _)) HG.out HNE.out hn (by omega) (by omega)).mono ?_; rintro e w1 ⟨rfl, hq⟩; have HB1 := Lib.hid (((Below.refl w.heap.size w).alloc (Nat.le_refl _) _).trans (hq.mono (by simp))); have HX1 := Lib.hid (Below.heap hq (Nat.le_refl _) (heap_new w (.cells #[.int .i64 1, .int .i64 seq, .slice ra its.length rc, .float .f64 0, .string ⟨#[]⟩, .slice none 0 0] 137))); have HP0 := Lib.hid (PenRec.mk (cs := [.int .i64 1, .int .i64 seq, .slice ra its.length rc, .float .f64 0, .string ⟨#[]⟩, .slice none 0 0]) ((pen_new w1).mono HB1.out.size) (HB1.out.alloc HB1.out.size (.cells #[.slice none 0 0] 197)) (heap_old HX1.out _)); obtain ⟨x00, x01, x02, -⟩ := HP0.out.facts; clear hq)
    | (go_at_call 109; with_reducible refine (byte_k _ _ _ _ (by simp) _ HP0.out.pen).mono ?_; rintro e w2 ⟨rfl, hq, hb', hk'⟩; have HP1 := Lib.hid (HP0.out.step hq hb' hk'); obtain ⟨x10, x11, x12, -⟩ := HP1.out.facts; clear hq hb' hk')
    | (go_at_call 110; with_reducible refine (num_k _ _ _ seq (by omega) (by simp) _ HP1.out.pen).mono ?_; rintro e w3 ⟨rfl, hq, hb', hk'⟩; have HP2 := Lib.hid (HP1.out.step hq hb' hk'); obtain ⟨x20, x21, x22, -⟩ := HP2.out.facts; clear hq hb' hk')
    | (go_at_call 110; with_reducible refine (num_k _ _ _ its.length (by omega) (by have := N9.out; simp; omega) _ HP2.out.pen).mono ?_; rintro e w4 ⟨rfl, hq, hb', hk'⟩; have HP3 := Lib.hid (HP2.out.step hq hb' hk'); obtain ⟨x30, x31, x32, -⟩ := HP3.out.facts; clear hq hb' hk'))
  simp only [List.nil_append] at HP3
  rw [← hpre.out] at HP3
  have HTOT := Lib.hid (show (pre ++ its.flatMap rowB).length ≤ 16384 by have := HLEN.out; rwa [HREC.out] at this)
  have hsf := fun (W : World) (p : Addr) => run_store Tryz.prog W p (.float .f64 0) .plain rfl
  go_loopw [33] (fun ti wr => ∃ k : Nat, k ≤ its.length ∧ ti = .int .i64 k ∧ Hid (PenRec w wr w1.heap.size (pre ++ (its.take k).flatMap rowB) w.heap.size [.int .i64 1, .int .i64 seq, .slice ra its.length rc, .float .f64 0, .string ⟨#[]⟩, .slice none 0 0])) (fun i _ => its.length - (intOf i).toNat)
  case atStart => exact ⟨0, by omega, rfl, by simpa using HP3⟩
  case round =>
    obtain ⟨k, hk, rfl, hpin⟩ := hrel
    by_cases hlt : k < its.length
    · obtain ⟨i, hi⟩ : ∃ i, its[k]? = some i := ⟨_, List.getElem?_eq_getElem hlt⟩
      have HGI := Lib.hid (HG.out i (List.mem_of_getElem? hi))
      obtain ⟨g, off, s, rfl, hg, hs, c0, c1, c2, c3, c4, c5, c6, c7⟩ := HC.out k i hi
      have t : ∀ o u, w.cell? ⟨g, o, none⟩ = some u → wr.cell? ⟨g, o, none⟩ = some u := fun o u h => by
        rw [hpin.out.below.cell (p := ⟨g, o, none⟩) hg]
        exact h
      have q0 := t _ _ c0
      have q1 := t _ _ c1
      have q2 := t _ _ c2
      have q3 := t _ _ c3
      have q4 := t _ _ c4
      have q5 := t _ _ c5
      have q6 := t _ _ c6
      have q7 := t _ _ c7
      obtain ⟨sa, sc, rfl, -⟩ := parts_cells hs
      have HI := Lib.hid (show ItemC w [.int .i64 i.op, .string i.path, .string i.to, .int .i64 i.off, .int .i64 i.size, .slice none 0 0, .slice sa i.parts.length sc] i from ⟨_, rfl, hs⟩)
      have HSUC := Lib.hid (show (its.take (k + 1)).flatMap rowB = (its.take k).flatMap rowB ++ (leB 8 0 ++ itemB i) by
        rw [List.take_add_one, hi]
        simp [rowB])
      have HLK := Lib.hid (show (pre ++ (its.take k).flatMap rowB).length ≤ 16384 by
        have h1 := HTOT.out
        have h2 := rowsB_le (its := its) (k := k)
        simp only [List.length_append] at *; omega)
      have HPA := Lib.hid (hpin.out.alloc (.cells #[.float .f64 0, .int .i64 i.op, .string i.path, .string i.to, .int .i64 i.off, .int .i64 i.size, .slice none 0 0, .slice sa i.parts.length sc] 86))
      have HBX := Lib.hid (heap_new wr (.cells #[.float .f64 0, .int .i64 i.op, .string i.path, .string i.to, .int .i64 i.off, .int .i64 i.size, .slice none 0 0, .slice sa i.parts.length sc] 86))
      have HNE2 := Lib.hid (hpin.out.ne)
      clear c0 c1 c2 c3 c4 c5 c6 c7 t hs hi
      go_wp2_with (first
        | (go_at_call 111; with_reducible refine (float_k _ _ _ 0 (by omega) (by have := HLK.out; omega) _ HPA.out.pen).mono ?_; rintro e wa ⟨rfl, hq, hb', hk'⟩; have HPa := Lib.hid (HPA.out.step hq hb' hk'); have hba := keep_at hk' HBX.out HNE2.out (fun arr e => by injection e with _ e; exact absurd e (by decide)); have z1 := cellAt hba 1; have z2 := cellAt hba 2; have z3 := cellAt hba 3; have z4 := cellAt hba 4; have z5 := cellAt hba 5; have z6 := cellAt hba 6; have z7 := cellAt hba 7; clear hq hb' hk' hba)
        | (go_at_call 112; refine (itemWrite_any w _ _ _ _ i HI.out HGI.out HPa.out.below HPa.out.pen (by have := HLK.out; rw [List.length_append, leB_length]; omega)).mono ?_; rintro e wb ⟨rfl, hq, hb', hk'⟩; have HPb := Lib.hid (HPa.out.step hq hb' hk'); clear hq hb' hk'))
      go_roundw
      case rel =>
        refine ⟨k + 1, by omega, by go_num, ?_⟩
        rw [HSUC.out]
        show PenRec _ _ _ _ _ _
        have h := HPb.out
        simpa only [List.append_assoc] using h
      case measure => simp [intOf]; omega
    · have hkl : k = its.length := by omega
      subst hkl
      rw [List.take_length, ← HREC.out] at hpin
      obtain ⟨-, -, -, y5⟩ := hpin.out.facts
      have h0 : 0 < (recordB seq its).length := by simp [recordB]
      have d9 : decide ((16384 : Int) < (recordB seq its).length) = false := by have := HLEN.out; simp; omega
      have H0 := Lib.hid h0
      go_wp2_with fail
      go_region_held3 (fun w' => w'.cell? ⟨w.heap.size, 5, none⟩ = some (.slice none 0 0)) (first | exact y5 | exact y6) (first | (go_at_call 114; refine (penBytes_any w.heap.size _ _ (by have := HLEN.out; omega) H0.out _ (hpin.out.pen.below ((Below.refl _ _).drew))).mono ?_; rintro e w5 ⟨v', rfl, ho, hq⟩; have hbl := hpin.out.below.trans (((Below.refl _ wr).drew.trans hq).mono hpin.out.below.size); have HB5 := Lib.hid hbl; have HO5 := Lib.hid (own_mono ho hpin.out.below.size); (have y6 : w5.cell? ⟨w.heap.size, 5, none⟩ = some (.slice none 0 0) := by (have hbx := hpin.out.box; rw [World.cell?_of_block (w := wr) (((Below.refl _ wr).drew.trans hq).block w.heap.size (heap_lt hbx))]; exact y5)); have hap := append_nothing ho 33; clear ho hq hbl) | (refine step_append_run rfl _ _ 33 rfl v' w5 hap ?_))
      obtain ⟨a5, c5, rfl⟩ := own_shape HO5.out
      go_wp2
      go_ret2
      exact ⟨_, rfl, HO5.out, HB5.out⟩
end Go.Proofs.YtaonlcgneemimaaGreatDoor
