/- TopNames: the contracts of W3, W4, W5; no condition. -/
import Derived.Test.YtaonlcgneemimaaGreatDoorJ23
import Derived.Test.YtaonlcgneemimaaGreatDoorJ17
namespace Go.Proofs.YtaonlcgneemimaaGreatDoor
open Go.RowKit
set_option maxRecDepth 100000 in
set_option maxHeartbeats 2000000 in
theorem stateTree_any (w : World) (s a b sm nf nb : Nat) (T : ByteArray → Option Int) (next : Int) (S : Int → Option BodyA) (g : Int → Option Value) (H : StateAt w s a b sm nf nb T next S g) :
    Calls Tryz.prog 42 #[.pointer (some ⟨s, 0, none⟩)] w fun e w' => ∃ a' b', e = .returned (.pointer (some ⟨a', 0, none⟩)) ∧ TreeAt w' a' b' nf T next ∧ Below w.heap.size w w' := by
  have HC := Lib.hid (copyTree_any w a b nf T next H.tree)
  have c0 : w.cell? ⟨s, 0, none⟩ = some (.pointer (some ⟨a, 0, none⟩)) := cellAt H.cell 0
  clear H
  go_enter Tryz.func42, Tryz.ntmps42
  go_wp2_with (go_at_call 84; refine HC.out.mono ?_; rintro e w1 ⟨rfl, ht, hq, -⟩; have HT := Lib.hid ht; have HQ := Lib.hid hq; clear ht hq)
  go_ret
  exact ⟨_, _, rfl, HT.out, HQ.out⟩
set_option maxRecDepth 100000 in
set_option maxHeartbeats 2000000 in
theorem fbody_none (w : World) (s a b sm nf nb : Nat) (T : ByteArray → Option Int) (next : Int) (S : Int → Option BodyA) (g : Int → Option Value) (H : StateAt w s a b sm nf nb T next S g) (id : Int) (hS : S id = none) (hid : 0 ≤ id ∧ id ≤ 4611686018427387904) :
    Calls Tryz.prog 37 #[.pointer (some ⟨s, 0, none⟩), .int .i64 id] w fun e w' => e = .returned (.tuple #[.agg #[.int .i64 0, .slice none 0 0], .bool false]) ∧ Below w.heap.size w w' := by
  have hg := H.bodies.none id hS
  have hlook : ∀ W, W.heap[sm]? = w.heap[sm]? → (Instr.lookup 119 (.map (some sm)) (.int .i64 id) true).run Tryz.prog W = .ok (.tuple #[.agg #[.int .i64 0, .slice none 0 0], .bool false]) W := fun W hW => by
    have h := ((H.bodies.map.same hW).look Tryz.underlying119 (zero100 W) (KI_good (x := id) (by omega))).1
    rw [hg] at h
    exact h
  have hsml := H.bodies.map.lt
  have hs0 := heap_lt H.cell
  have x1 : (w.alloc (.cells #[.int .i64 0, .slice none 0 0] 100)).cell? ⟨s, 1, none⟩ = some (.map (some sm)) := cellAt (heap_old H.cell _) 1
  have l1 := hlook _ (Below.heap_alloc w (.cells #[.int .i64 0, .slice none 0 0] 100) sm hsml)
  clear H hS hg hlook
  go_enter Tryz.func37, Tryz.ntmps37
  go_wp2_with (go_at_call 78; refine (clonePart_any _ (.slice none 0 0) 0 [] (Sl.nil _ _ _) (by omega)).mono ?_; rintro e w1 ⟨v', rfl, ho, hn, hq⟩; (have hv0 : v' = .slice none 0 0 := hn.2 rfl); subst hv0; have HQ := Lib.hid hq; have hN := Below.heap hq (Nat.le_refl _) (heap_old (heap_new w (.cells #[.int .i64 0, .slice none 0 0] 100)) (.cells #[.int .i64 0, .slice none 0 0] 100)); have hM := Below.heap hq (Nat.le_refl _) (heap_new (w.alloc (.cells #[.int .i64 0, .slice none 0 0] 100)) (.cells #[.int .i64 0, .slice none 0 0] 100)); simp only [World.size_alloc] at hM; have HN0 := Lib.hid hN; have HM0 := Lib.hid hM; have n0 := cellAt hN 0; have n1 := cellAt hN 1; have m0 := cellAt hM 0; have m1 := cellAt hM 1; simp only [List.getElem?_toArray, List.getElem?_cons_zero, List.getElem?_cons_succ] at n0 n1 m0 m1; have f0 := frozenAt hN 0; have f1 := frozenAt hN 1; have g0 := frozenAt hM 0; have g1 := frozenAt hM 1; clear ho hn hq hN hM)
  have hF := setAt (setAt ((heap_set_ne (w := w1) (i := 1) (.slice none 0 0) (by omega : w.heap.size ≠ w.heap.size + 1)).trans HN0.out) 0 (.int .i64 0)) 1 (.slice none 0 0)
  have j0 := cellAt hF 0
  have j1 := cellAt hF 1
  simp at j0 j1
  refine bodyPost_ret (v := .tuple #[.agg #[.int .i64 0, .slice none 0 0], .bool false]) (by simp [results, Tryz.results37, go_sem, j0, j1]) rfl ?_
  refine ⟨rfl, ((((((Below.refl w.heap.size w).alloc (Nat.le_refl _) _).alloc (by simp) _).trans (HQ.out.mono (by simp; omega))).setCell (p := ⟨w.heap.size + 1, 1, none⟩) (by simp) _).setCell (p := ⟨w.heap.size, 0, none⟩) (Nat.le_refl _) _).setCell (p := ⟨w.heap.size, 1, none⟩) (Nat.le_refl _) _⟩
end Go.Proofs.YtaonlcgneemimaaGreatDoor
namespace Go.Proofs.YtaonlcgneemimaaGreatDoor
open Go.RowKit
theorem nodes_cells {w : World} {v : Value} {n : Nat} {T : ByteArray → Option Int} {ps : List ByteArray} (h : Sl w 168 3 v n (nodesC T ps)) (hl : ps.length = n) : ∃ a cap, v = .slice a n cap ∧ n ≤ cap ∧ (a = none → n = 0) ∧ ∀ j p, ps[j]? = some p → ∃ g off, a = some ⟨g, off, none⟩ ∧ g < w.heap.size ∧ w.cell? ⟨g, off + j * 3, none⟩ = some (.string p) ∧ w.cell? ⟨g, off + j * 3 + 1, none⟩ = some (.int .i64 ((T p).getD 0)) ∧ w.cell? ⟨g, off + j * 3 + 2, none⟩ = some (.bool false) := by
  obtain ⟨a, cap, rfl, h1, h2, h3⟩ := h.shape
  refine ⟨a, cap, rfl, h1, h2, fun j p hp => ?_⟩
  have hj : j < n := by rw [← hl]; exact (List.getElem?_eq_some_iff.1 hp).1
  obtain ⟨g, off, e, hg, hc⟩ := h3 j hj
  have hx : ∀ k, k < 3 → (nodesC T ps)[j * 3 + k]? = [Value.string p, .int .i64 ((T p).getD 0), .bool false][k]? := by
    clear hc h hj hl h3 h1 h2
    intro k hk
    induction ps generalizing j with
    | nil => simp at hp
    | cons x l ih =>
      cases j with
      | zero =>
        simp at hp
        subst hp
        simp only [nodesC, List.flatMap_cons]
        rw [List.getElem?_append_left (by simp; omega)]
        simp
      | succ j =>
        simp at hp
        have := ih j hp
        simp only [nodesC, List.flatMap_cons] at this ⊢
        rw [List.getElem?_append_right (by simp; omega)]
        simp only [List.length_cons, List.length_nil]
        rw [show (j + 1) * 3 + k - (0 + 1 + 1 + 1) = j * 3 + k by omega]
        exact this
  refine ⟨g, off, e, hg, ?_, ?_, ?_⟩
  · exact hc 0 _ (by omega) (by rw [hx 0 (by omega)]; rfl)
  · exact hc 1 _ (by omega) (by rw [hx 1 (by omega)]; rfl)
  · exact hc 2 _ (by omega) (by rw [hx 2 (by omega)]; rfl)
set_option maxRecDepth 100000 in
set_option maxHeartbeats 2000000 in
theorem find_none (w : World) (s a b sm nf nb : Nat) (T : ByteArray → Option Int) (next : Int) (S : Int → Option BodyA) (g : Int → Option Value) (H : StateAt w s a b sm nf nb T next S g) (id : Int) (hS : S id = none) (hid : 0 ≤ id ∧ id ≤ 4611686018427387904) :
    Calls Tryz.prog 138 #[.pointer (some ⟨s, 0, none⟩), .int .i64 id] w fun e w' => e = .returned (.tuple #[.string ⟨#[]⟩, .agg #[.int .i64 0, .slice none 0 0], .bool false]) ∧ Below w.heap.size w w' := by
  have B1 : Hid (∀ o, Below w.heap.size w (w.alloc o)) := Lib.hid (fun o => (Below.refl _ _).alloc (Nat.le_refl _) o)
  have HB := Lib.hid (fun W (hW : Below w.heap.size w W) => fbody_none W s a b sm nf nb T next S g (H.below hW) id hS hid)
  clear H hS
  go_enter Tryz.func138, Tryz.ntmps138
  go_wp2_with (go_at_call 37; refine (HB.out _ (B1.out _)).mono ?_; rintro e w1 ⟨rfl, hq⟩; have HQ := Lib.hid ((B1.out (.cells #[.int .i64 0, .slice none 0 0] 100)).trans (hq.mono (B1.out (.cells #[.int .i64 0, .slice none 0 0] 100)).size)); have hN := Below.heap hq (Nat.le_refl _) (heap_new w (.cells #[.int .i64 0, .slice none 0 0] 100)); have HN := Lib.hid hN; have f0 := frozenAt hN 0; have f1 := frozenAt hN 1; have n0 := cellAt hN 0; have n1 := cellAt hN 1; (have z0 : w.heap.size < w1.heap.size := heap_lt hN); clear hq hN)
  have hF := heap_old (setAt (setAt HN.out 0 (.int .i64 0)) 1 (.slice none 0 0)) (.cells #[.int .i64 0, .slice none 0 0] 100)
  have j0 := cellAt hF 0
  have j1 := cellAt hF 1
  simp at j0 j1
  refine bodyPost_ret (v := .tuple #[.string ⟨#[]⟩, .agg #[.int .i64 0, .slice none 0 0], .bool false]) (by simp [results, Tryz.results138, go_sem, j0, j1]) rfl ?_
  exact ⟨rfl, ((HQ.out.setCell (p := ⟨w.heap.size, 0, none⟩) (Nat.le_refl _) _).setCell (p := ⟨w.heap.size, 1, none⟩) (Nat.le_refl _) _).alloc (by simp; omega) _⟩
set_option maxRecDepth 100000 in
set_option maxHeartbeats 4000000 in
theorem find_hit (w : World) (s a b sm nf nb : Nat) (T : ByteArray → Option Int) (next : Int) (S : Int → Option BodyA) (g : Int → Option Value) (H : StateAt w s a b sm nf nb T next S g) (hnf : nf ≤ 100000) (id : Int) (bd : BodyA) (hS : S id = some bd) (hid : 0 ≤ id ∧ id ≤ 4611686018427387904) (hT : ∃ p, T p = some id) :
    Calls Tryz.prog 138 #[.pointer (some ⟨s, 0, none⟩), .int .i64 id] w fun e w' => ∃ p v, e = .returned (.tuple #[.string p, v, .bool true]) ∧ T p = some id ∧ BodyV w' v bd ∧ Below w.heap.size w w' := by
  have B1 : Hid (∀ o, Below w.heap.size w (w.alloc o)) := Lib.hid (fun o => (Below.refl _ _).alloc (Nat.le_refl _) o)
  have HB := Lib.hid (fun W (hW : Below w.heap.size w W) => fbody_any W s a b sm nf nb T next S g (H.below hW) id bd hS hid)
  have HTR := Lib.hid (fun W (hW : Below w.heap.size w W) => stateTree_any W s a b sm nf nb T next S g (H.below hW))
  have HT0 := Lib.hid hT
  clear H hS hT
  go_enter Tryz.func138, Tryz.ntmps138
  go_wp2_with (first | (go_at_call 37; refine (HB.out _ (B1.out _)).mono ?_; rintro e w1 ⟨v, rfl, hbv, hq⟩; obtain ⟨sv, rfl, hsl⟩ := hbv; obtain ⟨pa, pc, rfl, -, -⟩ := parts_cells hsl; have HSL := Lib.hid hsl; have HQ := Lib.hid ((B1.out (.cells #[.int .i64 0, .slice none 0 0] 100)).trans (hq.mono (B1.out (.cells #[.int .i64 0, .slice none 0 0] 100)).size)); have hN := Below.heap hq (Nat.le_refl _) (heap_new w (.cells #[.int .i64 0, .slice none 0 0] 100)); have HN := Lib.hid hN; (have z0 : w.heap.size < w1.heap.size := heap_lt hN); have Q1 := Lib.hid (HQ.out.alloc HQ.out.size (.cells #[.int .i64 bd.size, .slice pa bd.parts.length pc] 100)); clear hq hN hsl) | (go_at_call 42; refine (HTR.out _ Q1.out).mono ?_; rintro e w2 ⟨a2, b2, rfl, ht, hq⟩; have HT2 := Lib.hid ht; have Q2 := Lib.hid hq; clear ht hq) | (go_at_call 174; refine (nodes_any _ a2 b2 nf T next HT2.out hnf).mono ?_; rintro e w3 ⟨nv, ps, rfl, hps, hsl, hq⟩; obtain ⟨na, nk, rfl, n1, n2, n3⟩ := nodes_cells hsl hps.len; have PS := Lib.hid hps; have PC := Lib.hid n3; have Q3 := Lib.hid (Q2.out.trans (hq.mono Q2.out.size)); clear hps hsl hq n3))
  have Q03 := Lib.hid (Q1.out.trans (Q3.out.mono Q1.out.size))
  have hs3 := Q03.out.size
  have hs13 : w1.heap.size < w3.heap.size := by have := Q3.out.size; simp at this; omega
  have HN3 : Hid (w3.heap[w.heap.size]? = some (.cells #[.int .i64 0, .slice none 0 0] 100 (0, 0))) := Lib.hid (Below.heap Q3.out (Nat.le_refl _) (heap_old HN.out _))
  have HM3 : Hid (w3.heap[w1.heap.size]? = some (.cells #[.int .i64 bd.size, .slice pa bd.parts.length pc] 100 (0, 0))) := Lib.hid (Below.heap Q3.out (Nat.le_refl _) (heap_new w1 _))
  go_loopw [10, 24] (fun _ ti wr => ∃ k : Nat, k ≤ nf ∧ ti = .int .i64 k ∧ Hid (∀ j p, j < k → ps[j]? = some p → T p ≠ some id) ∧ Hid (Below w3.heap.size w3 wr)) (fun _ i _ => nf - (intOf i).toNat)
  case atStart => exact ⟨0, by omega, rfl, Lib.hid (fun j p h => by omega), Lib.hid (Below.refl _ _)⟩
  case round =>
    obtain ⟨k, hk, rfl, hno, hbel⟩ := hrel
    have hbw : Below w.heap.size w wr := Q03.out.trans (hbel.out.mono hs3)
    by_cases hlt : k < nf
    · obtain ⟨p, hp⟩ : ∃ p, ps[k]? = some p := ⟨_, List.getElem?_eq_getElem (by rw [PS.out.len]; exact hlt)⟩
      obtain ⟨gg, off, rfl, hg, c0, c1, c2⟩ := PC.out k p hp
      obtain ⟨id2, hid2⟩ := Option.isSome_iff_exists.1 ((PS.out.mem p).1 (List.mem_of_getElem? hp))
      rw [hid2] at c1
      have t : ∀ o u, w3.cell? ⟨gg, o, none⟩ = some u → wr.cell? ⟨gg, o, none⟩ = some u := fun o u h => (hbel.out.cell (p := ⟨gg, o, none⟩) hg).trans h
      have q0 := t _ _ c0
      have q1 := t _ _ c1
      have q2 := t _ _ c2
      have dk : (k : Int) < nf := by omega
      have HID2 := Lib.hid hid2
      have HP := Lib.hid hp
      have hbs := hbel.out.size
      clear c0 c1 c2 t hp hid2
      simp only [Option.getD_some] at q1
      by_cases he : id2 = id
      · subst he
        go_wp2_with fail
        have HN4 : Hid ((wr.alloc (.cells #[.string p, .int .i64 id2, .bool false] 168)).heap[w.heap.size]? = some (.cells #[.int .i64 0, .slice none 0 0] 100 (0, 0))) := Lib.hid (heap_old (Below.heap hbel.out (Nat.le_refl _) HN3.out) _)
        have HM4 : Hid ((wr.alloc (.cells #[.string p, .int .i64 id2, .bool false] 168)).heap[w1.heap.size]? = some (.cells #[.int .i64 bd.size, .slice pa bd.parts.length pc] 100 (0, 0))) := Lib.hid (heap_old (Below.heap hbel.out (Nat.le_refl _) HM3.out) _)
        have HP4 : Hid ((wr.alloc (.cells #[.string p, .int .i64 id2, .bool false] 168)).heap[wr.heap.size]? = some (.cells #[.string p, .int .i64 id2, .bool false] 168 (0, 0))) := Lib.hid (heap_new wr _)
        have hF := setAt (setAt HN4.out 0 (.int .i64 bd.size)) 1 (.slice pa bd.parts.length pc)
        have x1 : w1.heap.size ≠ w.heap.size := by omega
        have x2 : wr.heap.size ≠ w.heap.size := by omega
        have HM5 : Hid ((((wr.alloc (.cells #[.string p, .int .i64 id2, .bool false] 168)).setCell ⟨w.heap.size, 0, none⟩ (.int .i64 bd.size)).setCell ⟨w.heap.size, 1, none⟩ (.slice pa bd.parts.length pc)).heap[w1.heap.size]? = some (.cells #[.int .i64 bd.size, .slice pa bd.parts.length pc] 100 (0, 0))) := Lib.hid ((heap_set_ne _ x1).trans ((heap_set_ne _ x1).trans HM4.out))
        have HP5 : Hid ((((wr.alloc (.cells #[.string p, .int .i64 id2, .bool false] 168)).setCell ⟨w.heap.size, 0, none⟩ (.int .i64 bd.size)).setCell ⟨w.heap.size, 1, none⟩ (.slice pa bd.parts.length pc)).heap[wr.heap.size]? = some (.cells #[.string p, .int .i64 id2, .bool false] 168 (0, 0))) := Lib.hid ((heap_set_ne _ x2).trans ((heap_set_ne _ x2).trans HP4.out))
        have HK : Hid (∀ W : World, W.heap[w1.heap.size]? = some (.cells #[.int .i64 bd.size, .slice pa bd.parts.length pc] 100 (0, 0)) → W.heap[wr.heap.size]? = some (.cells #[.string p, .int .i64 id2, .bool false] 168 (0, 0)) → W.cell? ⟨wr.heap.size, 0, none⟩ = some (.string p) ∧ W.cell? ⟨w1.heap.size, 0, none⟩ = some (.int .i64 bd.size) ∧ W.cell? ⟨w1.heap.size, 1, none⟩ = some (.slice pa bd.parts.length pc)) := Lib.hid (fun W h1 h2 => ⟨cellAt h2 0, cellAt h1 0, cellAt h1 1⟩)
        have f0 := frozenAt HN4.out 0
        have f1 := frozenAt HN4.out 1
        have y0 := cellAt HN4.out 0
        have y1 := cellAt HN4.out 1
        simp only [List.getElem?_toArray, List.getElem?_cons_zero, List.getElem?_cons_succ] at y0 y1
        go_region_held3 (fun W => W.cell? ⟨wr.heap.size, 0, none⟩ = some (.string p) ∧ W.cell? ⟨w1.heap.size, 0, none⟩ = some (.int .i64 bd.size) ∧ W.cell? ⟨w1.heap.size, 1, none⟩ = some (.slice pa bd.parts.length pc)) (first | exact HK.out _ HM4.out HP4.out | exact HK.out _ HM5.out HP5.out) (first | fail)
        go_wp2_with fail
        have j0 := cellAt hF 0
        have j1 := cellAt hF 1
        simp at j0 j1
        refine bodyPost_ret (v := .tuple #[.string p, .agg #[.int .i64 bd.size, .slice pa bd.parts.length pc], .bool true]) (by simp [results, Tryz.results138, go_sem, j0, j1]) rfl ?_
        refine ⟨p, _, rfl, HID2.out, ⟨_, rfl, HSL.out.kept (fun j arr hj => ?_)⟩, (((hbw.alloc hbw.size _).setCell (p := ⟨w.heap.size, 0, none⟩) (Nat.le_refl _) _).setCell (p := ⟨w.heap.size, 1, none⟩) (Nat.le_refl _) _).drew⟩
        have j2 : j ≠ w.heap.size := fun e => by rw [e, HN.out] at hj; injection hj with hj; injection hj with _ h; exact absurd h (by decide)
        have e3 : w3.heap[j]? = some (.cells arr 134 (0, 0)) := Below.heap Q3.out (Nat.le_refl _) (heap_old hj _)
        have e4 := heap_old (Below.heap hbel.out (Nat.le_refl _) e3) (.cells #[.string p, .int .i64 id2, .bool false] 168)
        exact (heap_set_ne _ j2).trans ((heap_set_ne _ j2).trans e4)
      · go_wp2
        go_roundw
        case rel => exact ⟨k + 1, by omega, by go_num, Lib.hid (fun j p2 hj hp2 => by
            by_cases e : j = k
            · subst e
              rw [HP.out] at hp2
              cases hp2
              rw [HID2.out]
              intro h
              exact he (by injection h)
            · exact hno.out j p2 (by omega) hp2), Lib.hid (hbel.out.alloc hbs _)⟩
        case measure => simp [intOf]; omega
    · exfalso
      obtain ⟨p, hp⟩ := HT0.out
      obtain ⟨j, hj⟩ := List.mem_iff_getElem?.1 ((PS.out.mem p).2 (by rw [hp]; rfl))
      have hjl := (List.getElem?_eq_some_iff.1 hj).1
      rw [PS.out.len] at hjl
      exact hno.out j p (by omega) hj hp
end Go.Proofs.YtaonlcgneemimaaGreatDoor
namespace Go.Proofs.YtaonlcgneemimaaGreatDoor
open Go.RowKit
theorem equal_nilnil (w : World) : Calls Tryz.prog 89 #[.slice none 0 0, .slice none 0 0] w fun e w' => e = .returned (.bool true) ∧ w' = w := by
  go_enter Tryz.func89, Tryz.ntmps89
  go_wp2_with fail
  go_loopw [5, 13] (fun _ ti wr => ti = .int .i64 0 ∧ wr = w) (fun _ i _ => 0)
  case atStart => exact ⟨rfl, rfl⟩
  case round =>
    obtain ⟨rfl, h⟩ := hrel
    have h := h.symm
    subst h
    go_wp2
    go_ret
    exact ⟨rfl, rfl⟩
set_option maxRecDepth 100000 in
set_option maxHeartbeats 2000000 in
theorem equal_same (w : World) (v1 v2 : Value) (l : List PartA) (h1 : Sl w 134 4 v1 l.length (partsC l)) (h2 : Sl w 134 4 v2 l.length (partsC l)) (hn : l.length ≤ 1000000) :
    Calls Tryz.prog 89 #[v1, v2] w fun e w' => e = .returned (.bool true) ∧ Below w.heap.size w w' := by
  obtain ⟨a1, k1, rfl, -, -, C1⟩ := parts_cells h1
  obtain ⟨a2, k2, rfl, -, -, C2⟩ := parts_cells h2
  have C1 := Lib.hid C1
  have C2 := Lib.hid C2
  clear h1 h2
  go_enter Tryz.func89, Tryz.ntmps89
  go_wp2_with fail
  go_loopw [5, 13] (fun _ ti wr => ∃ k : Nat, k ≤ l.length ∧ ti = .int .i64 k ∧ Hid (Below w.heap.size w wr)) (fun _ i _ => l.length - (intOf i).toNat)
  case atStart => exact ⟨0, by omega, rfl, Lib.hid (Below.refl _ _)⟩
  case round =>
    obtain ⟨k, hk, rfl, hbel⟩ := hrel
    by_cases hlt : k < l.length
    · obtain ⟨p, hp⟩ : ∃ p, l[k]? = some p := ⟨_, List.getElem?_eq_getElem hlt⟩
      obtain ⟨g1, o1, rfl, hg1, a0, a1, a2, a3⟩ := C1.out k p hp
      obtain ⟨g2, o2, rfl, hg2, b0, b1, b2, b3⟩ := C2.out k p hp
      have t1 : ∀ o u, w.cell? ⟨g1, o, none⟩ = some u → wr.cell? ⟨g1, o, none⟩ = some u := fun o u h => (hbel.out.cell (p := ⟨g1, o, none⟩) hg1).trans h
      have t2 : ∀ o u, w.cell? ⟨g2, o, none⟩ = some u → wr.cell? ⟨g2, o, none⟩ = some u := fun o u h => (hbel.out.cell (p := ⟨g2, o, none⟩) hg2).trans h
      have a0 := t1 _ _ a0
      have a1 := t1 _ _ a1
      have a2 := t1 _ _ a2
      have a3 := t1 _ _ a3
      have b0 := t2 _ _ b0
      have b1 := t2 _ _ b1
      have b2 := t2 _ _ b2
      have b3 := t2 _ _ b3
      have dk : (k : Int) < l.length := by omega
      clear t1 t2 hp
      go_wp2_with fail
      go_quiet (fail)
      go_wp2
      exact ⟨⟨k + 1, by omega, by go_num, Lib.hid (below_drewN hbel.out _)⟩, by simp [intOf]; omega⟩
    · have dk : ¬ ((k : Int) < l.length) := by omega
      go_wp2
      go_ret
      exact ⟨rfl, hbel.out⟩
end Go.Proofs.YtaonlcgneemimaaGreatDoor
