/- TopNames: the contracts of U7, S3, S2, S4; no condition. -/
import Derived.Test.YtaonlcgneemimaaGreatDoorJ19
import Derived.Test.YtaonlcgneemimaaGreatDoorJ18
namespace Go.Proofs.YtaonlcgneemimaaGreatDoor
open Go.RowKit
set_option maxRecDepth 100000 in
set_option maxHeartbeats 4000000 in
theorem histAdd_any (w : World) (h : Nat) (pv sv : Value) (xs : List StX) (H : HistAt w h pv sv xs) (hone : pv.ownBlock ≠ some 1) (hlen : xs.length + 1 ≤ 10000) (i : ItemA) (hi : okA (lastX xs) i) (hg : i.good) (lv : Value) (hl : Sl w 134 4 lv i.parts.length (partsC i.parts)) :
    Calls Tryz.prog 33 #[.pointer (some ⟨h, 0, none⟩), .agg #[.int .i64 ((xs.length : Int) + 1), .float .f64 0, .string ⟨#[]⟩], .agg #[.int .i64 i.op, .string i.path, .string i.to, .int .i64 i.off, .int .i64 i.size, .slice none 0 0, lv]] w fun e w' => e = .returned (.int .i64 0) ∧ AddPost w h pv sv xs i w' := by
  have HH := Lib.hid H
  have H0 := Lib.hid H
  have HI := Lib.hid hi
  have HG := Lib.hid hg
  have HL := Lib.hid hl
  obtain ⟨n, hn⟩ : ∃ n, Hid (n = xs.length) := ⟨xs.length, Lib.hid rfl⟩
  rw [← hn.out] at hlen ⊢
  obtain ⟨la, lc, rfl, -, -, -⟩ := parts_cells hl
  have HX : Hid (∀ W, Below (w.heap.size + 2) ((w.alloc (.cells #[.int .i64 ((n : Int) + 1), .float .f64 0, .string ⟨#[]⟩] 52)).alloc (.cells #[.int .i64 i.op, .string i.path, .string i.to, .int .i64 i.off, .int .i64 i.size, .slice none 0 0, .slice la i.parts.length lc] 84)) W → Below w.heap.size w W ∧ W.heap[w.heap.size]? = some (.cells #[.int .i64 ((n : Int) + 1), .float .f64 0, .string ⟨#[]⟩] 52 (0, 0)) ∧ W.heap[w.heap.size + 1]? = some (.cells #[.int .i64 i.op, .string i.path, .string i.to, .int .i64 i.off, .int .i64 i.size, .slice none 0 0, .slice la i.parts.length lc] 84 (0, 0))) := Lib.hid (fun W hW => by
    have a0 : Below w.heap.size w ((w.alloc (.cells #[.int .i64 ((n : Int) + 1), .float .f64 0, .string ⟨#[]⟩] 52)).alloc (.cells #[.int .i64 i.op, .string i.path, .string i.to, .int .i64 i.off, .int .i64 i.size, .slice none 0 0, .slice la i.parts.length lc] 84)) := ((Below.refl _ _).alloc (Nat.le_refl _) _).alloc (by simp) _
    exact ⟨a0.trans (hW.mono (by omega)), Below.heap hW (by simp) (heap_old (heap_new _ _) _), Below.heap hW (by simp) (heap_new2 w _ _)⟩)
  have HMAY : Hid (∀ W, Below w.heap.size w W → Calls Tryz.prog 74 #[.pointer (some ⟨h, 0, none⟩), .agg #[.int .i64 ((n : Int) + 1), .float .f64 0, .string ⟨#[]⟩]] W fun e w' => e = .returned (.bool true) ∧ Below W.heap.size W w') := Lib.hid (fun W hW => by
    rw [hn.out]
    exact histMay_any W h pv sv xs (HH.out.below hW))
  have HMAY2 : Hid (∀ W, Below w.heap.size w W → Calls Tryz.prog 75 #[.agg #[.int .i64 i.op, .string i.path, .string i.to, .int .i64 i.off, .int .i64 i.size, .slice none 0 0, .slice la i.parts.length lc]] W fun e w' => e = .returned (.bool true) ∧ Below W.heap.size W w') := Lib.hid (fun W hW => itemMay_any i [.int .i64 i.op, .string i.path, .string i.to, .int .i64 i.off, .int .i64 i.size, .slice none 0 0, .slice la i.parts.length lc] W ⟨_, rfl, HL.out.below hW⟩ hg)
  have HX0 := HX.out _ (Below.refl _ _)
  have x0 := cellAt HX0.2.2 0
  have x1 := cellAt HX0.2.2 1
  have HX0 := Lib.hid HX0
  clear H hi hg hl
  go_enter Tryz.func33, Tryz.ntmps33
  go_wp2_with (first | (go_at_call 74; refine (HMAY.out _ HX0.out.1).mono ?_; rintro e w1 ⟨rfl, hq⟩; have HB1 : Hid (Below (w.heap.size + 2) ((w.alloc (.cells #[.int .i64 ((n : Int) + 1), .float .f64 0, .string ⟨#[]⟩] 52)).alloc (.cells #[.int .i64 i.op, .string i.path, .string i.to, .int .i64 i.off, .int .i64 i.size, .slice none 0 0, .slice la i.parts.length lc] 84)) w1) := Lib.hid (hq.mono (by simp)); have HX1 := Lib.hid (HX.out _ HB1.out); clear hq; have y0 := cellAt HX1.out.2.2 0; have y1 := cellAt HX1.out.2.2 1; have y2 := cellAt HX1.out.2.2 2; have y3 := cellAt HX1.out.2.2 3; have y4 := cellAt HX1.out.2.2 4; have y5 := cellAt HX1.out.2.2 5; have y6 := cellAt HX1.out.2.2 6) | (go_at_call 75; refine (HMAY2.out _ HX1.out.1).mono ?_; rintro e w2 ⟨rfl, hq⟩; have HB2 : Hid (Below (w.heap.size + 2) ((w.alloc (.cells #[.int .i64 ((n : Int) + 1), .float .f64 0, .string ⟨#[]⟩] 52)).alloc (.cells #[.int .i64 i.op, .string i.path, .string i.to, .int .i64 i.off, .int .i64 i.size, .slice none 0 0, .slice la i.parts.length lc] 84)) w2) := Lib.hid (HB1.out.trans (hq.mono (by have := HB1.out.size; simp at this; omega))); clear hq) | (go_at_call 76; refine (histLast_any _ _ _ _ _ (HH.out.below (HX.out _ HB2.out).1)).mono ?_; rintro e w3 ⟨y, rfl, h1, h2, h3, h4⟩; have HB3 : Hid (Below (w.heap.size + 2) ((w.alloc (.cells #[.int .i64 ((n : Int) + 1), .float .f64 0, .string ⟨#[]⟩] 52)).alloc (.cells #[.int .i64 i.op, .string i.path, .string i.to, .int .i64 i.off, .int .i64 i.size, .slice none 0 0, .slice la i.parts.length lc] 84)) w3) := Lib.hid (HB2.out.trans (h4.mono (by have := HB2.out.size; simp at this; omega))); have HX3 := Lib.hid (HX.out _ HB3.out); have HY := Lib.hid h1; have HYX := Lib.hid h2; have HYB : Hid (∀ k ∈ y.blocks, w.heap.size + 2 ≤ k) := Lib.hid (fun k hk => by have := h3 k hk; have := HB2.out.size; simp at this; omega); clear h1 h2 h3 h4; have z0 := cellAt HX3.out.2.2 0; have z1 := cellAt HX3.out.2.2 1; have z2 := cellAt HX3.out.2.2 2; have z3 := cellAt HX3.out.2.2 3; have z4 := cellAt HX3.out.2.2 4; have z5 := cellAt HX3.out.2.2 5; have z6 := cellAt HX3.out.2.2 6) | (go_at_call 30; refine (applyS_any _ y HY.out i (HYX.out.symm ▸ HI.out) _ (HL.out.below HX3.out.1)).mono ?_; rintro e w4 ⟨rfl, nb', g', h1, h2⟩; have HY4 := Lib.hid h1; have HB4 : Hid (Below (w.heap.size + 2) ((w.alloc (.cells #[.int .i64 ((n : Int) + 1), .float .f64 0, .string ⟨#[]⟩] 52)).alloc (.cells #[.int .i64 i.op, .string i.path, .string i.to, .int .i64 i.off, .int .i64 i.size, .slice none 0 0, .slice la i.parts.length lc] 84)) w4) := Lib.hid (h2.belowIf HB3.out (fun k hk => HYB.out k (by simp at hk; simp only [StX.blocks, List.mem_cons, List.not_mem_nil, or_false]; rcases hk with hk | hk | hk <;> simp [hk])) (by have := HB3.out.size; simp at this; omega)); clear h1 h2))
  have HX4 := HX.out _ HB4.out
  have HH4 := HH.out.below HX4.1
  have hlt4 := HB4.out.size
  have hhlt := heap_lt HH.out.cell
  have hh4 : h < w4.heap.size := heap_lt HH4.cell
  have hq4 : w.heap.size < w4.heap.size := heap_lt HX4.2.1
  obtain ⟨⟨v1a, waa, v2a, wfa, ra1, ⟨a1, a2, a3, a4, a5, a6, a7⟩, ra2, fa, ⟨a8, a9, a10, a11, a12, a13, a14⟩, hfa⟩, ⟨v1b, wab, v2b, wfb, rb1, ⟨b1, b2, b3, b4, b5, b6, b7⟩, rb2, fb, ⟨b8, b9, b10, b11, b12, b13, b14⟩, hfb⟩, ⟨v1c, wac, v2c, wfc, rc1, ⟨c1, c2, c3, c4, c5, c6, c7⟩, rc2, fc, ⟨c8, c9, c10, c11, c12, c13, c14⟩, hfc⟩⟩ := add_orders (w := w4) (h := h) (q := w.heap.size) (s := y.s) (pv := pv) (sv := sv) (n := n) (ps := xs.map ptrOf) (by rw [hn.out]; exact HH4.pts) (by rw [hn.out]; exact HH4.sts) (by omega) HH4.cell HX4.2.1 (fun g hg => by have := HH.out.pts.lt g hg; omega)
  obtain ⟨p1a, k1a, rfl⟩ := own_shape fa.pts
  obtain ⟨p2a, k2a, rfl⟩ := own_shape fa.sts
  obtain ⟨p1b, k1b, rfl⟩ := own_shape fb.pts
  obtain ⟨p2b, k2b, rfl⟩ := own_shape fb.sts
  obtain ⟨p1c, k1c, rfl⟩ := own_shape fc.pts
  obtain ⟨p2c, k2c, rfl⟩ := own_shape fc.sts
  have d1 := cellAt HH4.cell 0
  have d2 := cellAt HH4.cell 1
  have d3 := frozenAt HH4.cell 0
  have d4 := frozenAt HH4.cell 1
  have d5 := cellAt HX4.2.1 0
  have d6 := cellAt HX4.2.1 1
  have d7 := cellAt HX4.2.1 2
  simp only [List.getElem?_toArray, List.getElem?_cons_zero, List.getElem?_cons_succ] at d1 d2 d5 d6 d7
  have FA := Lib.hid fa
  have FB := Lib.hid fb
  have FC := Lib.hid fc
  have HFA := Lib.hid hfa
  have HFB := Lib.hid hfb
  have HFC := Lib.hid hfc
  have HH4 := Lib.hid HH4
  have HX4 := Lib.hid HX4
  clear fa fb fc hfa hfb hfc x0 x1 y0 y1 y2 y3 y4 y5 y6 z0 z1 z2 z3 z4 z5 z6
  have hS0 : ∀ L, TillS 8 15 7 (fun W => W.cell? ⟨h, 0, none⟩ = some pv) (fun W => W.cell? ⟨h, 1, none⟩ = some sv) (fun W => W.cell? ⟨w.heap.size, 0, none⟩ = some (.int .i64 ((n : Int) + 1)) ∧ W.cell? ⟨w.heap.size, 1, none⟩ = some (.float .f64 0) ∧ W.cell? ⟨w.heap.size, 2, none⟩ = some (.string ⟨#[]⟩)) L w4.drew := fun L => ⟨fun _ => d1, fun _ => d2, fun _ => ⟨d5, d6, d7⟩⟩
  refine wp_region_T (TillS 8 15 7 (fun W => W.cell? ⟨h, 0, none⟩ = some pv) (fun W => W.cell? ⟨h, 1, none⟩ = some sv) (fun W => W.cell? ⟨w.heap.size, 0, none⟩ = some (.int .i64 ((n : Int) + 1)) ∧ W.cell? ⟨w.heap.size, 1, none⟩ = some (.float .f64 0) ∧ W.cell? ⟨w.heap.size, 2, none⟩ = some (.string ⟨#[]⟩))) rfl ?_
  simp only [List.size_toArray, List.length_cons, List.length_nil, Nat.reduceAdd, Array.replicate_succ, Array.replicate_zero, List.push_toArray, List.nil_append, List.cons_append]
  refine anyT_take (i := 0) (p := 16) (v := ?tv1) rfl rfl (by kernel_rfl) (fun L w => TillS_set (by decide) (by decide) (by decide) L w) (by kernel_rfl) (by kernel_rfl) (by kernel_rfl) (by kernel_rfl) (fun _ _ _ h => h) (Or.inl ⟨by rfl, fun w _ => ?ty1⟩) (hS0 _) ?tr1
  case ty1 => go_simp; (try with_reducible rfl)
  simp only [Act.put, List.setIfInBounds_toArray, List.set_cons_zero, List.set_cons_succ]
  refine anyT_take (i := 1) (p := 19) (v := ?tv2) rfl rfl (by kernel_rfl) (fun L w => TillS_set (by decide) (by decide) (by decide) L w) (by kernel_rfl) (by kernel_rfl) (by kernel_rfl) (by kernel_rfl) (fun _ _ _ h => h) (Or.inl ⟨by rfl, fun w _ => ?ty2⟩) (hS0 _) ?tr2
  case ty2 => go_simp; (try with_reducible rfl)
  simp only [Act.put, List.setIfInBounds_toArray, List.set_cons_zero, List.set_cons_succ]
  refine anyT_take (i := 2) (p := 3) (v := ?tv3) rfl rfl (by kernel_rfl) (fun L w => TillS_set (by decide) (by decide) (by decide) L w) (by kernel_rfl) (by kernel_rfl) (by kernel_rfl) (by kernel_rfl) (fun _ _ _ h => h) (Or.inl ⟨by rfl, fun w _ => ?ty3⟩) (hS0 _) ?tr3
  case ty3 => go_simp; (try with_reducible rfl)
  simp only [Act.put, List.setIfInBounds_toArray, List.set_cons_zero, List.set_cons_succ]
  refine anyT_take (i := 3) (p := 4) (v := ?tv4) rfl rfl (by kernel_rfl) (fun L w => TillS_set (by decide) (by decide) (by decide) L w) (by kernel_rfl) (by kernel_rfl) (by kernel_rfl) (by kernel_rfl) (fun _ _ _ h => h) (Or.inl ⟨by rfl, fun w _ => ?ty4⟩) (hS0 _) ?tr4
  case ty4 => go_simp; (try with_reducible rfl)
  simp only [Act.put, List.setIfInBounds_toArray, List.set_cons_zero, List.set_cons_succ]
  refine anyT_take (i := 4) (p := 5) (v := ?tv5) rfl rfl (by kernel_rfl) (fun L w => TillS_set (by decide) (by decide) (by decide) L w) (by kernel_rfl) (by kernel_rfl) (by kernel_rfl) (by kernel_rfl) (fun _ _ _ h => h) (Or.inl ⟨by rfl, fun w _ => ?ty5⟩) (hS0 _) ?tr5
  case ty5 => go_simp; (try with_reducible rfl)
  simp only [Act.put, List.setIfInBounds_toArray, List.set_cons_zero, List.set_cons_succ]
  refine anyT_take (i := 5) (p := 8) (v := ?tv6) rfl rfl (by kernel_rfl) (fun L w => TillS_set (by decide) (by decide) (by decide) L w) (by kernel_rfl) (by kernel_rfl) (by kernel_rfl) (by kernel_rfl) (fun _ _ _ h => h) (Or.inl ⟨by rfl, fun w hw => ?ty6⟩) (hS0 _) ?tr6
  case ty6 => obtain ⟨L, hL, hS⟩ := hw; have hc := hS.1 hL; (try obtain ⟨hc0, hc1, hc2⟩ := hc); go_simp; (try with_reducible rfl)
  simp only [Act.put, List.setIfInBounds_toArray, List.set_cons_zero, List.set_cons_succ]
  refine anyT_take (i := 6) (p := 7) (v := ?tv7) rfl rfl (by kernel_rfl) (fun L w => TillS_set (by decide) (by decide) (by decide) L w) (by kernel_rfl) (by kernel_rfl) (by kernel_rfl) (by kernel_rfl) (fun _ _ _ h => h) (Or.inl ⟨by rfl, fun w hw => ?ty7⟩) (hS0 _) ?tr7
  case ty7 => obtain ⟨L, hL, hS⟩ := hw; have hc := hS.2.2 hL; (try obtain ⟨hc0, hc1, hc2⟩ := hc); go_simp; (try with_reducible rfl)
  simp only [Act.put, List.setIfInBounds_toArray, List.set_cons_zero, List.set_cons_succ]
  refine anyT_take (i := 9) (p := 10) (v := ?tv8) rfl rfl (by kernel_rfl) (fun L w => TillS_set (by decide) (by decide) (by decide) L w) (by kernel_rfl) (by kernel_rfl) (by kernel_rfl) (by kernel_rfl) (fun _ _ _ h => h) (Or.inl ⟨by rfl, fun w _ => ?ty8⟩) (hS0 _) ?tr8
  case ty8 => go_simp; (try with_reducible rfl)
  simp only [Act.put, List.setIfInBounds_toArray, List.set_cons_zero, List.set_cons_succ]
  refine anyT_take (i := 10) (p := 11) (v := ?tv9) rfl rfl (by kernel_rfl) (fun L w => TillS_set (by decide) (by decide) (by decide) L w) (by kernel_rfl) (by kernel_rfl) (by kernel_rfl) (by kernel_rfl) (fun _ _ _ h => h) (Or.inl ⟨by rfl, fun w _ => ?ty9⟩) (hS0 _) ?tr9
  case ty9 => go_simp; (try with_reducible rfl)
  simp only [Act.put, List.setIfInBounds_toArray, List.set_cons_zero, List.set_cons_succ]
  refine anyT_take (i := 11) (p := 12) (v := ?tv10) rfl rfl (by kernel_rfl) (fun L w => TillS_set (by decide) (by decide) (by decide) L w) (by kernel_rfl) (by kernel_rfl) (by kernel_rfl) (by kernel_rfl) (fun _ _ _ h => h) (Or.inl ⟨by rfl, fun w _ => ?ty10⟩) (hS0 _) ?tr10
  case ty10 => go_simp; (try with_reducible rfl)
  simp only [Act.put, List.setIfInBounds_toArray, List.set_cons_zero, List.set_cons_succ]
  refine anyT_take (i := 12) (p := 15) (v := ?tv11) rfl rfl (by kernel_rfl) (fun L w => TillS_set (by decide) (by decide) (by decide) L w) (by kernel_rfl) (by kernel_rfl) (by kernel_rfl) (by kernel_rfl) (fun _ _ _ h => h) (Or.inl ⟨by rfl, fun w hw => ?ty11⟩) (hS0 _) ?tr11
  case ty11 => obtain ⟨L, hL, hS⟩ := hw; have hc := hS.2.1 hL; (try obtain ⟨hc0, hc1, hc2⟩ := hc); go_simp; (try with_reducible rfl)
  simp only [Act.put, List.setIfInBounds_toArray, List.set_cons_zero, List.set_cons_succ]
  refine anyT_take (i := 13) (p := 14) (v := ?tv12) rfl rfl (by kernel_rfl) (fun L w => TillS_set (by decide) (by decide) (by decide) L w) (by kernel_rfl) (by kernel_rfl) (by kernel_rfl) (by kernel_rfl) (fun _ _ _ h => h) (Or.inl ⟨by rfl, fun w _ => ?ty12⟩) (hS0 _) ?tr12
  case ty12 => go_simp; (try with_reducible rfl)
  simp only [Act.put, List.setIfInBounds_toArray, List.set_cons_zero, List.set_cons_succ]
  have hC : ∀ L W, (W.cell? ⟨h, 0, none⟩ = some pv ∧ W.cell? ⟨h, 1, none⟩ = some sv ∧ W.cell? ⟨w.heap.size, 0, none⟩ = some (.int .i64 ((n : Int) + 1)) ∧ W.cell? ⟨w.heap.size, 1, none⟩ = some (.float .f64 0) ∧ W.cell? ⟨w.heap.size, 2, none⟩ = some (.string ⟨#[]⟩)) → TillS 8 15 7 (fun W => W.cell? ⟨h, 0, none⟩ = some pv) (fun W => W.cell? ⟨h, 1, none⟩ = some sv) (fun W => W.cell? ⟨w.heap.size, 0, none⟩ = some (.int .i64 ((n : Int) + 1)) ∧ W.cell? ⟨w.heap.size, 1, none⟩ = some (.float .f64 0) ∧ W.cell? ⟨w.heap.size, 2, none⟩ = some (.string ⟨#[]⟩)) L W := fun L W hc => ⟨fun _ => hc.1, fun _ => hc.2.1, fun _ => hc.2.2⟩
  have hT := fun L (W : World) (hW : Below w4.heap.size w4 W) => hC L W ⟨(hW.cell (p := ⟨h, 0, none⟩) hh4).trans d1, (hW.cell (p := ⟨h, 1, none⟩) hh4).trans d2, (hW.cell (p := ⟨w.heap.size, 0, none⟩) hq4).trans d5, (hW.cell (p := ⟨w.heap.size, 1, none⟩) hq4).trans d6, (hW.cell (p := ⟨w.heap.size, 2, none⟩) hq4).trans d7⟩
  have hA : ∀ o, (waa.alloc o).cell? ⟨h, 0, none⟩ = some pv ∧ (waa.alloc o).cell? ⟨h, 1, none⟩ = some sv ∧ (waa.alloc o).cell? ⟨w.heap.size, 0, none⟩ = some (.int .i64 ((n : Int) + 1)) ∧ (waa.alloc o).cell? ⟨w.heap.size, 1, none⟩ = some (.float .f64 0) ∧ (waa.alloc o).cell? ⟨w.heap.size, 2, none⟩ = some (.string ⟨#[]⟩) := fun o => by
    have g1 : ∀ (b k : Nat) (u : Value), waa.cell? ⟨b, k, none⟩ = some u → (waa.alloc o).cell? ⟨b, k, none⟩ = some u := fun b k u hu => (((Below.refl waa.heap.size waa).alloc (Nat.le_refl _) o).cell (p := ⟨b, k, none⟩) (World.block_lt_of_cell? waa _ hu)).trans hu
    exact ⟨g1 _ _ _ a1, g1 _ _ _ a2, g1 _ _ _ a5, g1 _ _ _ a6, g1 _ _ _ a7⟩
  have FIN : Hid (∀ v1 v2 wf, AddFin w4 pv sv n (xs.map ptrOf) (.pointer (some ⟨y.s, 0, none⟩)) v1 v2 wf → wf.heap[h]? = some (.cells #[pv, sv] 115 (0, 0)) → AddPost w h pv sv xs i ((wf.setCell ⟨h, 0, none⟩ v1).setCell ⟨h, 1, none⟩ v2)) := Lib.hid (fun v1 v2 wf hF hh => by
    have e1 : n = xs.length := hn.out
    subst e1
    exact add_close H0.out hone hlen HX4.out.1 HY4.out (fun k hk => by have := HYB.out k hk; omega) (by rw [HYX.out]) hF hh)
  refine anyT_all (rs := [7, 14]) (by kernel_rfl) (by simp) ?_
  intro j hj
  simp only [List.mem_cons, List.not_mem_nil, or_false] at hj
  rcases hj with rfl | rfl
  · refine T_step rfl (fun K' hK => ?_)
    go_simp
    refine hK.out _ _ (hT _ _ (((Below.refl _ _).alloc (Nat.le_refl _) _).drew)) ?_
    simp only [Act.put, List.setIfInBounds_toArray, List.set_cons_zero, List.set_cons_succ]
    refine anyT_all (rs := [8, 14]) (by kernel_rfl) (by simp) ?_
    intro j hj
    simp only [List.mem_cons, List.not_mem_nil, or_false] at hj
    rcases hj with rfl | rfl
    rotate_left
    refine T_step rfl (fun K' hK => ?_)
    go_simp
    refine hK.out _ _ (hT _ _ ((((Below.refl _ _).alloc (Nat.le_refl _) _).alloc (by simp) _).drew)) ?_
    simp only [Act.put, List.setIfInBounds_toArray, List.set_cons_zero, List.set_cons_succ]
    refine anyT_all (rs := [8]) (by kernel_rfl) (by simp) ?_
    intro j hj
    simp only [List.mem_singleton] at hj
    subst hj
    refine T_step rfl (fun K' hK => ?_)
    refine step_append_run rfl _ _ 46 rfl _ _ rb1 ?_
    refine hK.out _ _ (hC _ _ ⟨b1, b2, b5, b6, b7⟩) ?_
    simp only [Act.put, List.setIfInBounds_toArray, List.set_cons_zero, List.set_cons_succ]
    refine anyT_all (rs := [15]) (by kernel_rfl) (by simp) ?_
    intro j hj
    simp only [List.mem_singleton] at hj
    subst hj
    refine T_step rfl (fun K' hK => ?_)
    refine step_append_run rfl _ _ 113 rfl _ _ rb2 ?_
    refine hK.out _ _ ⟨fun h => absurd h (by decide), fun h => absurd h (by decide), fun h => absurd h (by decide)⟩ ?_
    simp only [Act.put, List.setIfInBounds_toArray, List.set_cons_zero, List.set_cons_succ]
    refine anyT_take (i := 16) (p := 17) (v := ?uv1) rfl rfl (by kernel_rfl) (fun L w => TillS_set (by decide) (by decide) (by decide) L w) (by kernel_rfl) (by kernel_rfl) (by kernel_rfl) (by kernel_rfl) (fun _ _ _ h => h) (Or.inl ⟨by rfl, fun w _ => ?uy1⟩) ⟨fun h => absurd h (by decide), fun h => absurd h (by decide), fun h => absurd h (by decide)⟩ ?ur1
    case uy1 => go_simp; (try with_reducible rfl)
    simp only [Act.put, List.setIfInBounds_toArray, List.set_cons_zero, List.set_cons_succ]
    refine anyT_take (i := 17) (p := 18) (v := ?uv2) rfl rfl (by kernel_rfl) (fun L w => TillS_set (by decide) (by decide) (by decide) L w) (by kernel_rfl) (by kernel_rfl) (by kernel_rfl) (by kernel_rfl) (fun _ _ _ h => h) (Or.inl ⟨by rfl, fun w _ => ?uy2⟩) ⟨fun h => absurd h (by decide), fun h => absurd h (by decide), fun h => absurd h (by decide)⟩ ?ur2
    case uy2 => go_simp; (try with_reducible rfl)
    simp only [Act.put, List.setIfInBounds_toArray, List.set_cons_zero, List.set_cons_succ]
    refine anyT_all (rs := [18]) (by kernel_rfl) (by simp) ?_
    intro j hj
    simp only [List.mem_singleton] at hj
    subst hj
    refine T_step rfl (fun K' hK => ?_)
    go_simp
    refine hK.out _ _ ⟨fun h => absurd h (by decide), fun h => absurd h (by decide), fun h => absurd h (by decide)⟩ ?_
    simp only [Act.put, List.setIfInBounds_toArray, List.set_cons_zero, List.set_cons_succ]
    refine anyT_take (i := 19) (p := 20) (v := ?uv3) rfl rfl (by kernel_rfl) (fun L w => TillS_set (by decide) (by decide) (by decide) L w) (by kernel_rfl) (by kernel_rfl) (by kernel_rfl) (by kernel_rfl) (fun _ _ _ h => h) (Or.inl ⟨by rfl, fun w _ => ?uy3⟩) ⟨fun h => absurd h (by decide), fun h => absurd h (by decide), fun h => absurd h (by decide)⟩ ?ur3
    case uy3 => go_simp; (try with_reducible rfl)
    simp only [Act.put, List.setIfInBounds_toArray, List.set_cons_zero, List.set_cons_succ]
    refine anyT_take (i := 20) (p := 21) (v := ?uv4) rfl rfl (by kernel_rfl) (fun L w => TillS_set (by decide) (by decide) (by decide) L w) (by kernel_rfl) (by kernel_rfl) (by kernel_rfl) (by kernel_rfl) (fun _ _ _ h => h) (Or.inl ⟨by rfl, fun w _ => ?uy4⟩) ⟨fun h => absurd h (by decide), fun h => absurd h (by decide), fun h => absurd h (by decide)⟩ ?ur4
    case uy4 => go_simp; (try with_reducible rfl)
    simp only [Act.put, List.setIfInBounds_toArray, List.set_cons_zero, List.set_cons_succ]
    refine anyT_all (rs := [21]) (by kernel_rfl) (by simp) ?_
    intro j hj
    simp only [List.mem_singleton] at hj
    subst hj
    refine T_step rfl (fun K' hK => ?_)
    go_simp
    refine hK.out _ _ ⟨fun h => absurd h (by decide), fun h => absurd h (by decide), fun h => absurd h (by decide)⟩ ?_
    simp only [Act.put, List.setIfInBounds_toArray, List.set_cons_zero, List.set_cons_succ]
    refine anyT_done (by kernel_rfl) ?_ _
    go_wp2
    go_ret
    exact ⟨rfl, FIN.out _ _ _ FB.out HFB.out⟩
    refine T_step rfl (fun K' hK => ?_)
    refine step_append_run rfl _ _ 46 rfl _ _ ra1 ?_
    refine hK.out _ _ (hC _ _ ⟨a1, a2, a5, a6, a7⟩) ?_
    simp only [Act.put, List.setIfInBounds_toArray, List.set_cons_zero, List.set_cons_succ]
    refine anyT_all (rs := [14]) (by kernel_rfl) (by simp) ?_
    intro j hj
    simp only [List.mem_singleton] at hj
    subst hj
    refine T_step rfl (fun K' hK => ?_)
    go_simp
    refine hK.out _ _ (hC _ _ (hA _)) ?_
    simp only [Act.put, List.setIfInBounds_toArray, List.set_cons_zero, List.set_cons_succ]
    refine anyT_all (rs := [15]) (by kernel_rfl) (by simp) ?_
    intro j hj
    simp only [List.mem_singleton] at hj
    subst hj
    refine T_step rfl (fun K' hK => ?_)
    refine step_append_run rfl _ _ 113 rfl _ _ ra2 ?_
    refine hK.out _ _ ⟨fun h => absurd h (by decide), fun h => absurd h (by decide), fun h => absurd h (by decide)⟩ ?_
    simp only [Act.put, List.setIfInBounds_toArray, List.set_cons_zero, List.set_cons_succ]
    refine anyT_take (i := 16) (p := 17) (v := ?uv5) rfl rfl (by kernel_rfl) (fun L w => TillS_set (by decide) (by decide) (by decide) L w) (by kernel_rfl) (by kernel_rfl) (by kernel_rfl) (by kernel_rfl) (fun _ _ _ h => h) (Or.inl ⟨by rfl, fun w _ => ?uy5⟩) ⟨fun h => absurd h (by decide), fun h => absurd h (by decide), fun h => absurd h (by decide)⟩ ?ur5
    case uy5 => go_simp; (try with_reducible rfl)
    simp only [Act.put, List.setIfInBounds_toArray, List.set_cons_zero, List.set_cons_succ]
    refine anyT_take (i := 17) (p := 18) (v := ?uv6) rfl rfl (by kernel_rfl) (fun L w => TillS_set (by decide) (by decide) (by decide) L w) (by kernel_rfl) (by kernel_rfl) (by kernel_rfl) (by kernel_rfl) (fun _ _ _ h => h) (Or.inl ⟨by rfl, fun w _ => ?uy6⟩) ⟨fun h => absurd h (by decide), fun h => absurd h (by decide), fun h => absurd h (by decide)⟩ ?ur6
    case uy6 => go_simp; (try with_reducible rfl)
    simp only [Act.put, List.setIfInBounds_toArray, List.set_cons_zero, List.set_cons_succ]
    refine anyT_all (rs := [18]) (by kernel_rfl) (by simp) ?_
    intro j hj
    simp only [List.mem_singleton] at hj
    subst hj
    refine T_step rfl (fun K' hK => ?_)
    go_simp
    refine hK.out _ _ ⟨fun h => absurd h (by decide), fun h => absurd h (by decide), fun h => absurd h (by decide)⟩ ?_
    simp only [Act.put, List.setIfInBounds_toArray, List.set_cons_zero, List.set_cons_succ]
    refine anyT_take (i := 19) (p := 20) (v := ?uv7) rfl rfl (by kernel_rfl) (fun L w => TillS_set (by decide) (by decide) (by decide) L w) (by kernel_rfl) (by kernel_rfl) (by kernel_rfl) (by kernel_rfl) (fun _ _ _ h => h) (Or.inl ⟨by rfl, fun w _ => ?uy7⟩) ⟨fun h => absurd h (by decide), fun h => absurd h (by decide), fun h => absurd h (by decide)⟩ ?ur7
    case uy7 => go_simp; (try with_reducible rfl)
    simp only [Act.put, List.setIfInBounds_toArray, List.set_cons_zero, List.set_cons_succ]
    refine anyT_take (i := 20) (p := 21) (v := ?uv8) rfl rfl (by kernel_rfl) (fun L w => TillS_set (by decide) (by decide) (by decide) L w) (by kernel_rfl) (by kernel_rfl) (by kernel_rfl) (by kernel_rfl) (fun _ _ _ h => h) (Or.inl ⟨by rfl, fun w _ => ?uy8⟩) ⟨fun h => absurd h (by decide), fun h => absurd h (by decide), fun h => absurd h (by decide)⟩ ?ur8
    case uy8 => go_simp; (try with_reducible rfl)
    simp only [Act.put, List.setIfInBounds_toArray, List.set_cons_zero, List.set_cons_succ]
    refine anyT_all (rs := [21]) (by kernel_rfl) (by simp) ?_
    intro j hj
    simp only [List.mem_singleton] at hj
    subst hj
    refine T_step rfl (fun K' hK => ?_)
    go_simp
    refine hK.out _ _ ⟨fun h => absurd h (by decide), fun h => absurd h (by decide), fun h => absurd h (by decide)⟩ ?_
    simp only [Act.put, List.setIfInBounds_toArray, List.set_cons_zero, List.set_cons_succ]
    refine anyT_done (by kernel_rfl) ?_ _
    go_wp2
    go_ret
    exact ⟨rfl, FIN.out _ _ _ FA.out HFA.out⟩
  · refine T_step rfl (fun K' hK => ?_)
    go_simp
    refine hK.out _ _ (hT _ _ (((Below.refl _ _).alloc (Nat.le_refl _) _).drew)) ?_
    simp only [Act.put, List.setIfInBounds_toArray, List.set_cons_zero, List.set_cons_succ]
    refine anyT_all (rs := [7]) (by kernel_rfl) (by simp) ?_
    intro j hj
    simp only [List.mem_singleton] at hj
    subst hj
    refine T_step rfl (fun K' hK => ?_)
    go_simp
    refine hK.out _ _ (hT _ _ ((((Below.refl _ _).alloc (Nat.le_refl _) _).alloc (by simp) _).drew)) ?_
    simp only [Act.put, List.setIfInBounds_toArray, List.set_cons_zero, List.set_cons_succ]
    refine anyT_all (rs := [8]) (by kernel_rfl) (by simp) ?_
    intro j hj
    simp only [List.mem_singleton] at hj
    subst hj
    refine T_step rfl (fun K' hK => ?_)
    refine step_append_run rfl _ _ 46 rfl _ _ rc1 ?_
    refine hK.out _ _ (hC _ _ ⟨c1, c2, c5, c6, c7⟩) ?_
    simp only [Act.put, List.setIfInBounds_toArray, List.set_cons_zero, List.set_cons_succ]
    refine anyT_all (rs := [15]) (by kernel_rfl) (by simp) ?_
    intro j hj
    simp only [List.mem_singleton] at hj
    subst hj
    refine T_step rfl (fun K' hK => ?_)
    refine step_append_run rfl _ _ 113 rfl _ _ rc2 ?_
    refine hK.out _ _ ⟨fun h => absurd h (by decide), fun h => absurd h (by decide), fun h => absurd h (by decide)⟩ ?_
    simp only [Act.put, List.setIfInBounds_toArray, List.set_cons_zero, List.set_cons_succ]
    refine anyT_take (i := 16) (p := 17) (v := ?uv9) rfl rfl (by kernel_rfl) (fun L w => TillS_set (by decide) (by decide) (by decide) L w) (by kernel_rfl) (by kernel_rfl) (by kernel_rfl) (by kernel_rfl) (fun _ _ _ h => h) (Or.inl ⟨by rfl, fun w _ => ?uy9⟩) ⟨fun h => absurd h (by decide), fun h => absurd h (by decide), fun h => absurd h (by decide)⟩ ?ur9
    case uy9 => go_simp; (try with_reducible rfl)
    simp only [Act.put, List.setIfInBounds_toArray, List.set_cons_zero, List.set_cons_succ]
    refine anyT_take (i := 17) (p := 18) (v := ?uv10) rfl rfl (by kernel_rfl) (fun L w => TillS_set (by decide) (by decide) (by decide) L w) (by kernel_rfl) (by kernel_rfl) (by kernel_rfl) (by kernel_rfl) (fun _ _ _ h => h) (Or.inl ⟨by rfl, fun w _ => ?uy10⟩) ⟨fun h => absurd h (by decide), fun h => absurd h (by decide), fun h => absurd h (by decide)⟩ ?ur10
    case uy10 => go_simp; (try with_reducible rfl)
    simp only [Act.put, List.setIfInBounds_toArray, List.set_cons_zero, List.set_cons_succ]
    refine anyT_all (rs := [18]) (by kernel_rfl) (by simp) ?_
    intro j hj
    simp only [List.mem_singleton] at hj
    subst hj
    refine T_step rfl (fun K' hK => ?_)
    go_simp
    refine hK.out _ _ ⟨fun h => absurd h (by decide), fun h => absurd h (by decide), fun h => absurd h (by decide)⟩ ?_
    simp only [Act.put, List.setIfInBounds_toArray, List.set_cons_zero, List.set_cons_succ]
    refine anyT_take (i := 19) (p := 20) (v := ?uv11) rfl rfl (by kernel_rfl) (fun L w => TillS_set (by decide) (by decide) (by decide) L w) (by kernel_rfl) (by kernel_rfl) (by kernel_rfl) (by kernel_rfl) (fun _ _ _ h => h) (Or.inl ⟨by rfl, fun w _ => ?uy11⟩) ⟨fun h => absurd h (by decide), fun h => absurd h (by decide), fun h => absurd h (by decide)⟩ ?ur11
    case uy11 => go_simp; (try with_reducible rfl)
    simp only [Act.put, List.setIfInBounds_toArray, List.set_cons_zero, List.set_cons_succ]
    refine anyT_take (i := 20) (p := 21) (v := ?uv12) rfl rfl (by kernel_rfl) (fun L w => TillS_set (by decide) (by decide) (by decide) L w) (by kernel_rfl) (by kernel_rfl) (by kernel_rfl) (by kernel_rfl) (fun _ _ _ h => h) (Or.inl ⟨by rfl, fun w _ => ?uy12⟩) ⟨fun h => absurd h (by decide), fun h => absurd h (by decide), fun h => absurd h (by decide)⟩ ?ur12
    case uy12 => go_simp; (try with_reducible rfl)
    simp only [Act.put, List.setIfInBounds_toArray, List.set_cons_zero, List.set_cons_succ]
    refine anyT_all (rs := [21]) (by kernel_rfl) (by simp) ?_
    intro j hj
    simp only [List.mem_singleton] at hj
    subst hj
    refine T_step rfl (fun K' hK => ?_)
    go_simp
    refine hK.out _ _ ⟨fun h => absurd h (by decide), fun h => absurd h (by decide), fun h => absurd h (by decide)⟩ ?_
    simp only [Act.put, List.setIfInBounds_toArray, List.set_cons_zero, List.set_cons_succ]
    refine anyT_done (by kernel_rfl) ?_ _
    go_wp2
    go_ret
    exact ⟨rfl, FIN.out _ _ _ FC.out HFC.out⟩
end Go.Proofs.YtaonlcgneemimaaGreatDoor
namespace Go.Proofs.YtaonlcgneemimaaGreatDoor
open Go.RowKit
theorem below_alloc3 (w : World) (a b c : Obj) : Below w.heap.size w (((w.alloc a).alloc b).alloc c) := (((Below.refl _ _).alloc (Nat.le_refl _) _).alloc (by simp) _).alloc (by simp; omega) _
set_option maxRecDepth 100000 in
set_option maxHeartbeats 1000000 in
theorem point_any (w : World) (s : Int) (i : ItemA) (h8 : i.op ≠ 8) (lv : Value) (hlv : ∃ a n c, lv = .slice a n c) :
    Calls Tryz.prog 34 #[.int .i64 s, .agg #[.float .f64 0, .int .i64 i.op, .string i.path, .string i.to, .int .i64 i.off, .int .i64 i.size, .slice none 0 0, lv]] w fun e w' => e = .returned (.agg #[.int .i64 s, .float .f64 0, .string ⟨#[]⟩]) ∧ Below w.heap.size w w' := by
  obtain ⟨a, n, c, rfl⟩ := hlv
  have hsf := fun (W : World) (p : Addr) => run_store Tryz.prog W p (.float .f64 0) .plain rfl
  have hd : (i.op == 8) = false := by simpa using h8
  have hd2 : ¬ i.op = 8 := h8
  go_enter Tryz.func34, Tryz.ntmps34
  go_wp2
  refine bodyPost_ret (v := .agg #[.int .i64 s, .float .f64 0, .string ⟨#[]⟩]) (by simp [results, Tryz.results34, go_sem]) rfl ?_
  exact ⟨rfl, (((Below.refl _ _).alloc (Nat.le_refl _) _).alloc (by simp) _).alloc (by simp; omega) _⟩
set_option maxRecDepth 100000 in
set_option maxHeartbeats 1000000 in
theorem lastPt_any (w : World) (h : Nat) (pv sv : Value) (xs : List StX) (H : HistAt w h pv sv xs) :
    Calls Tryz.prog 35 #[.pointer (some ⟨h, 0, none⟩)] w fun e w' => e = .returned (.agg #[.int .i64 xs.length, .float .f64 0, .string ⟨#[]⟩]) ∧ Below w.heap.size w w' := by
  have HH := Lib.hid H
  have hf := H.few
  obtain ⟨n, hn⟩ : ∃ n, Hid (n = xs.length) := ⟨xs.length, Lib.hid rfl⟩
  have HP : Hid (∀ W, Below w.heap.size w W → Calls Tryz.prog 40 #[.pointer (some ⟨h, 0, none⟩)] W fun e w' => ∃ v, e = .returned v ∧ PtsV w' v n ∧ Below W.heap.size W w') := Lib.hid (fun W hW => by rw [hn.out]; exact histPoints_any W h pv sv xs (H.below hW))
  rw [← hn.out] at hf ⊢
  have hsf := fun (W : World) (p : Addr) => run_store Tryz.prog W p (.float .f64 0) .plain rfl
  clear H
  have hb0 : Below w.heap.size w (w.alloc (.cells #[.int .i64 0, .float .f64 0, .string ⟨#[]⟩] 52)) := (Below.refl _ _).alloc (Nat.le_refl _) _
  have HB0 := Lib.hid hb0
  have HN0 := Lib.hid (heap_new w (.cells #[.int .i64 0, .float .f64 0, .string ⟨#[]⟩] 52))
  clear hb0
  by_cases h0 : n = 0
  · subst h0
    go_enter Tryz.func35, Tryz.ntmps35
    go_wp2_with (go_at_call 40; refine (HP.out _ HB0.out).mono ?_; rintro e w1 ⟨v, rfl, hv, hq⟩; have HQ : Hid (Below w.heap.size w w1) := Lib.hid (HB0.out.trans (hq.mono HB0.out.size)); have x := Below.heap hq (Nat.le_refl _) HN0.out; have x0 := cellAt x 0; have x1 := cellAt x 1; have x2 := cellAt x 2; have f0 := frozenAt x 0; have f1 := frozenAt x 1; have f2 := frozenAt x 2; have X := Lib.hid x; obtain ⟨a, cap, rfl, hcap, -, -⟩ := pts_cells hv; clear x hv hq)
    have y := setAt (setAt (setAt X.out 0 (.int .i64 0)) 1 (.float .f64 0)) 2 (.string ⟨#[]⟩)
    have j0 := cellAt y 0
    have j1 := cellAt y 1
    have j2 := cellAt y 2
    simp at j0 j1 j2
    refine bodyPost_ret (v := .agg #[.int .i64 0, .float .f64 0, .string ⟨#[]⟩]) (by simp [results, Tryz.results35, go_sem, j0, j1, j2]) rfl ?_
    exact ⟨rfl, ((HQ.out.setCell (p := ⟨w.heap.size, 0, none⟩) (Nat.le_refl _) _).setCell (p := ⟨w.heap.size, 1, none⟩) (Nat.le_refl _) _).setCell (p := ⟨w.heap.size, 2, none⟩) (Nat.le_refl _) _⟩
  · obtain ⟨m, rfl⟩ : ∃ m, n = m + 1 := ⟨n - 1, by omega⟩
    have e1 : IntKind.i64.wrap ((m : Int) + 1 - 1) = (m : Int) := by
      rw [show (m : Int) + 1 - 1 = m by omega]
      exact IntWalk.i64_in _ (by omega)
    have e2 : wrap64 ((m : Int) + 1 - 1) = (m : Int) := by
      rw [show (m : Int) + 1 - 1 = m by omega]
      exact IntWalk.wrap64_in _ (by omega)
    have e3 : IntKind.i64.wrap (m : Int) = (m : Int) := IntWalk.i64_in _ (by omega)
    have e4 : (m : Int) < (m : Int) + 1 := by omega
    have e5 : IntKind.i64.wrap ((m : Int) + 1) = (m : Int) + 1 := IntWalk.i64_in _ (by omega)
    go_enter Tryz.func35, Tryz.ntmps35
    go_wp2_with (go_at_call 40; refine (HP.out _ HB0.out).mono ?_; rintro e w1 ⟨v, rfl, hv, hq⟩; have HQ : Hid (Below w.heap.size w w1) := Lib.hid (HB0.out.trans (hq.mono HB0.out.size)); have x := Below.heap hq (Nat.le_refl _) HN0.out; have x0 := cellAt x 0; have x1 := cellAt x 1; have x2 := cellAt x 2; have f0 := frozenAt x 0; have f1 := frozenAt x 1; have f2 := frozenAt x 2; have X := Lib.hid x; obtain ⟨a, cap, rfl, hcap, -, hcc⟩ := pts_cells hv; obtain ⟨g, off, rfl, hg, p0, p1, p2⟩ := hcc m (by omega); clear x hv hq hcc)
    have y := setAt (setAt (setAt X.out 0 (.int .i64 ((m : Int) + 1))) 1 (.float .f64 0)) 2 (.string ⟨#[]⟩)
    have j0 := cellAt y 0
    have j1 := cellAt y 1
    have j2 := cellAt y 2
    simp at j0 j1 j2
    refine bodyPost_ret (v := .agg #[.int .i64 ((m : Int) + 1), .float .f64 0, .string ⟨#[]⟩]) (by simp [results, Tryz.results35, go_sem, j0, j1, j2]) rfl ?_
    exact ⟨by push_cast; rfl, ((HQ.out.setCell (p := ⟨w.heap.size, 0, none⟩) (Nat.le_refl _) _).setCell (p := ⟨w.heap.size, 1, none⟩) (Nat.le_refl _) _).setCell (p := ⟨w.heap.size, 2, none⟩) (Nat.le_refl _) _⟩
/-- An event without data that an item keeps: the fields of its kind. -/
structure CleanEv (i : ItemA) : Prop where
  noTo : i.op ≠ 5 → i.to = ⟨#[]⟩
  noOff : i.op ≠ 3 → i.off = 0
  noSize : i.op ≠ 4 → i.size = 0
set_option maxRecDepth 100000 in
set_option maxHeartbeats 1000000 in
theorem clean_any (w : World) (i : ItemA) (hc : CleanEv i) (da : Option Addr) (dn dc : Nat) :
    Calls Tryz.prog 26 #[.agg #[.int .i64 i.op, .string i.path, .string i.to, .int .i64 i.off, .int .i64 i.size, .slice da dn dc]] w fun e w' => e = .returned (.agg #[.int .i64 i.op, .string i.path, .string i.to, .int .i64 i.off, .int .i64 i.size, .slice none 0 0]) ∧ Below w.heap.size w w' := by
  obtain ⟨op, path, tt, off, size, parts⟩ := i
  obtain ⟨h1, h2, h3⟩ := hc
  simp only at h1 h2 h3 ⊢
  by_cases c5 : op = 5
  · subst c5
    obtain rfl := h2 (by decide)
    obtain rfl := h3 (by decide)
    clear h1 h2 h3
    go_enter Tryz.func26, Tryz.ntmps26
    go_wp2
    refine bodyPost_ret (v := .agg #[.int .i64 5, .string path, .string tt, .int .i64 0, .int .i64 0, .slice none 0 0]) (by simp [results, Tryz.results26, go_sem]) rfl ?_
    exact ⟨rfl, below_alloc3 _ _ _ _⟩
  obtain rfl := h1 c5
  by_cases c3 : op = 3
  · subst c3
    obtain rfl := h3 (by decide)
    clear h1 h2 h3
    go_enter Tryz.func26, Tryz.ntmps26
    go_wp2
    refine bodyPost_ret (v := .agg #[.int .i64 3, .string path, .string ⟨#[]⟩, .int .i64 off, .int .i64 0, .slice none 0 0]) (by simp [results, Tryz.results26, go_sem]) rfl ?_
    exact ⟨rfl, below_alloc3 _ _ _ _⟩
  obtain rfl := h2 c3
  by_cases c4 : op = 4
  · subst c4
    clear h1 h2 h3
    go_enter Tryz.func26, Tryz.ntmps26
    go_wp2
    refine bodyPost_ret (v := .agg #[.int .i64 4, .string path, .string ⟨#[]⟩, .int .i64 0, .int .i64 size, .slice none 0 0]) (by simp [results, Tryz.results26, go_sem]) rfl ?_
    exact ⟨rfl, below_alloc3 _ _ _ _⟩
  obtain rfl := h3 c4
  have d5 : (op == 5) = false := by simpa using c5
  have d3 : (op == 3) = false := by simpa using c3
  have d4 : (op == 4) = false := by simpa using c4
  clear h1 h2 h3
  go_enter Tryz.func26, Tryz.ntmps26
  go_wp2
  refine bodyPost_ret (v := .agg #[.int .i64 op, .string path, .string ⟨#[]⟩, .int .i64 0, .int .i64 0, .slice none 0 0]) (by simp [results, Tryz.results26, go_sem]) rfl ?_
  exact ⟨rfl, below_alloc3 _ _ _ _⟩
end Go.Proofs.YtaonlcgneemimaaGreatDoor
namespace Go.Proofs.YtaonlcgneemimaaGreatDoor
open Go.RowKit
set_option maxHeartbeats 1000000 in
theorem cutEnds_short (w : World) (a : Option Addr) (n cap : Nat) (h0 : 0 < n) (h1 : n ≤ 7) :
    Calls Tryz.prog 103 #[.slice a n cap, .int .i64 0] w fun e w' => e = .returned (.int .i64 n) ∧ w' = w := by
  have e1 : ¬ ((n : Int) ≤ 0) := by omega
  have e2 : ¬ ((64 : Int) < n) := by omega
  have e3 : ¬ ((7 : Int) < n) := by omega
  have e4 : min (n : Int) 64 = n := by omega
  go_enter Tryz.func103, Tryz.ntmps103
  go_wp2
  go_loopw [6] (fun ti wr => ti = .int .i64 7 ∧ wr = w) (fun _ _ => 0)
  case atStart => exact ⟨rfl, rfl⟩
  case round =>
    obtain ⟨rfl, rfl⟩ := hrel
    go_wp2
    go_ret
    exact ⟨rfl, rfl⟩
/-- One short piece. -/
def OneCut (w : World) (p : List Int) (v : Value) (w' : World) : Prop := ∃ v', Sl w' 33 1 v 1 [v'] ∧ w'.ownsRow w.heap.size 5 1 v' p.length (u8s p) ∧ Below w.heap.size w w'
set_option maxRecDepth 100000 in
set_option maxHeartbeats 1000000 in
theorem cut_short (w : World) (v : Value) (p : List Int) (hv : Sl w 5 1 v p.length (u8s p)) (h0 : 0 < p.length) (h1 : p.length ≤ 7) :
    Calls Tryz.prog 58 #[v] w fun e w' => ∃ v2, e = .returned v2 ∧ OneCut w p v2 w' := by
  have HV := Lib.hid hv
  obtain ⟨a, cap, rfl, hcap, -, hsh⟩ := hv.shape
  obtain ⟨g, off, rfl, hg, -⟩ := hsh 0 h0
  obtain ⟨n, hn⟩ : ∃ n, Hid (n = p.length) := ⟨p.length, Lib.hid rfl⟩
  rw [← hn.out] at HV hcap h0 h1 ⊢
  obtain ⟨i0, hi, hz0, hz1, hz2⟩ := info_parts info33
  clear hv hsh
  go_enter Tryz.func58, Tryz.ntmps58
  go_wp2
  go_loopw [3, 4] (fun t3 t4 wr => (t3 = .slice none 0 0 ∧ t4 = .int .i64 0 ∧ wr = w) ∨ (t4 = .int .i64 n ∧ Hid (OneCut w p t3 wr))) (fun _ i _ => n - (intOf i).toNat)
  case atStart => exact .inl ⟨rfl, rfl, rfl⟩
  case round =>
    rcases hrel with ⟨rfl, rfl, rfl⟩ | ⟨rfl, hc⟩
    · go_wp2_with (first | (go_at_call 103; refine (cutEnds_short _ _ _ _ h0 h1).mono ?_; rintro e w1 ⟨rfl, hw⟩; have hw := hw.symm; subst hw) | (go_at_call 104; refine (cloneByte_any _ _ _ _ HV.out (by omega)).mono ?_; rintro e w2 ⟨v', rfl, ho, hn', hq⟩; obtain ⟨g', cap', cur, rfl, -, -, -⟩ := own_pos ho h0; have HO := Lib.hid ho; have HQ := Lib.hid hq; clear ho hn' hq) | (at_builtin; refine wp_append_sl rfl _ _ 61 rfl w2.heap.size 33 i0 _ 1 24 Tryz.underlying61 hi hz0 hz1 hz2 rfl (by decide) (.slice none 0 0) 0 [] rfl (World.ownsRow_nil _ _ _ _) _ 1 [.slice (some ⟨g', 0, none⟩) n cap'] rfl (Sl.block (heap_new _ _) rfl (by simp [Value.oneCell']) (by decide) (by decide)) (by omega) (by decide) (by simp) ?_; intro v3 w3 hown hgr _ _; have HW3 := Lib.hid hown; have HG3 := Lib.hid hgr; clear hown hgr))
      go_roundw
      case rel =>
        refine .inr ⟨rfl, Lib.hid ⟨_, Sl.of_own HW3.out (by simp [Value.oneCell']) (.inr (by decide)), ?_, ?_⟩⟩
        · rw [← hn.out]
          exact (own_below HO.out ((Below.refl _ _).alloc (Nat.le_refl _) _)).kept HG3.out (.inr (by simp [Value.ownBlock]))
        · exact (HQ.out.alloc HQ.out.size _).grown HG3.out (by have := HQ.out.size; simp; omega) (by simp [Value.ownBlock])
      case measure => simp [intOf]; omega
    · go_wp2
      go_ret
      exact ⟨_, rfl, hc.out⟩
end Go.Proofs.YtaonlcgneemimaaGreatDoor
namespace Go.Proofs.YtaonlcgneemimaaGreatDoor
open Go.RowKit
set_option maxRecDepth 100000 in
set_option maxHeartbeats 1000000 in
/-- An event that writes nothing has no pieces. -/
theorem pieces_none (w : World) (c : Option Addr) (op : Int) (h3 : op ≠ 3) (path tt : ByteArray) (off size : Int) (da : Option Addr) (dn dc : Nat) :
    Calls Tryz.prog 27 #[.pointer c, .agg #[.int .i64 op, .string path, .string tt, .int .i64 off, .int .i64 size, .slice da dn dc]] w fun e w' => e = .returned (.slice none 0 0) ∧ Below w.heap.size w w' := by
  have d3 : (op != 3) = true := by simpa using h3
  have d4 : ¬ op = 3 := h3
  go_enter Tryz.func27, Tryz.ntmps27
  go_wp2
  go_ret
  exact ⟨rfl, (Below.refl _ _).alloc (Nat.le_refl _) _⟩
noncomputable def newPart (P : List (List Int)) (p : List Int) : PartA := ⟨0, p.length, putId P p, 0⟩
def PiecePost (w : World) (B c : Nat) (P : List (List Int)) (bl bb : Nat) (p : List Int) (v : Value) (w' : World) : Prop :=
  Sl w' 134 4 v 1 (partsC [newPart P p]) ∧ (∃ vs' fb' m' sz', ChunksAt w' B c (putP P p) bl bb vs' fb' m' sz') ∧ Below B w w' ∧ KeptC w w'
set_option maxRecDepth 100000 in
set_option maxHeartbeats 1000000 in
theorem pieces_short (w : World) (B c : Nat) (P : List (List Int)) (bl bb : Nat) (vs : List Value) (fb : Int → Option Value) (m : Nat) (sz : Int) (H : ChunksAt w B c P bl bb vs fb m sz) (hB : B ≤ w.heap.size)
    (v : Value) (p : List Int) (hv : Sl w 5 1 v p.length (u8s p)) (hb : ByteL p) (h0 : 0 < p.length) (h1 : p.length ≤ 7) (hsm : P.length + 1 ≤ 100000) (path tt : ByteArray) (off size : Int) :
    Calls Tryz.prog 27 #[.pointer (some ⟨c, 0, none⟩), .agg #[.int .i64 3, .string path, .string tt, .int .i64 off, .int .i64 size, v]] w fun e w' => ∃ v', e = .returned v' ∧ PiecePost w B c P bl bb p v' w' := by
  have HH := Lib.hid H
  have HV := Lib.hid hv
  have HBL := Lib.hid hb
  obtain ⟨i0, hi, hz0, hz1, hz2⟩ := info_parts info134
  obtain ⟨va, vcap, rfl, hcap, -, -⟩ := hv.shape
  have HB0 : Hid (∀ o, Below w.heap.size w (w.alloc o)) := Lib.hid (fun o => (Below.refl _ _).alloc (Nat.le_refl _) o)
  clear H hv hb
  go_enter Tryz.func27, Tryz.ntmps27
  go_wp2_with (go_at_call 58; refine (cut_short _ _ p (HV.out.below (HB0.out _)) h0 h1).mono ?_; rintro e w1 ⟨v2, rfl, v', hsl, ho, hq⟩; obtain ⟨pg, pcap, cur, rfl, -, -, -⟩ := own_pos ho h0; have HSL := Lib.hid hsl; have HO := Lib.hid ho; have HQ : Hid (Below w.heap.size w w1) := Lib.hid ((HB0.out _).trans (hq.mono (HB0.out _).size)); obtain ⟨sa, scap, rfl, hscap, -, hsh⟩ := hsl.shape; obtain ⟨g, of, rfl, hg, hgc⟩ := hsh 0 (by decide); have cg := hgc 0 _ (by decide) rfl; simp only [Nat.zero_mul, Nat.add_zero] at cg; clear hsl ho hq hsh hgc)
  have hBw : B ≤ w1.heap.size := Nat.le_trans hB HQ.out.size
  go_loopw [5, 7, 8, 9, 10, 19] (fun t5 _ _ _ _ ti wr => (ti = .int .i64 0 ∧ t5 = .slice none 0 0 ∧ wr = w1) ∨ (ti = .int .i64 1 ∧ Hid (PiecePost w B c P bl bb p t5 wr))) (fun _ _ _ _ _ i _ => 1 - (intOf i).toNat)
  case atStart => exact .inl ⟨rfl, rfl, rfl⟩
  case round =>
    rcases hrel with ⟨rfl, rfl, rfl⟩ | ⟨rfl, hc⟩
    · go_wp2_with (first | (go_at_call 59; refine (put_any _ B c P bl bb vs fb m sz (HH.out.below HQ.out) _ p (Sl.of_own HO.out (u8s_one' _) (.inr h0)) HBL.out h0 (by omega) hsm).mono ?_; rintro e w2 ⟨nw, rfl, vs', fb', m', sz', hc', hq', hkc⟩; have HC := Lib.hid hc'; have HKC := Lib.hid ((KeptC.of_below HQ.out).trans hkc); have HQ2 : Hid (Below B w w2) := Lib.hid ((HQ.out.mono hB).trans hq'); have hs2 : B ≤ w2.heap.size := Nat.le_trans hB HQ2.out.size; clear hc' hq' hkc) | (at_builtin; refine wp_append_sl rfl _ _ 81 rfl w2.heap.size 134 i0 _ 4 32 Tryz.underlying81 hi hz0 hz1 hz2 rfl (by decide) (.slice none 0 0) 0 [] rfl (World.ownsRow_nil _ _ _ _) _ 1 _ rfl (Sl.block' (heap_new _ _) rfl (by simp [Value.oneCell']) (by decide) (by decide)) (by omega) (by decide) (by simp) ?_; intro v3 w3 hown hgr _ _; have HW3 := Lib.hid hown; have HG3 := Lib.hid hgr; clear hown hgr))
      go_roundw
      case rel =>
        refine .inr ⟨by go_num, Lib.hid ⟨?_, ?_, ?_, ?_⟩⟩
        · exact Sl.of_own HW3.out (by simp [partsC, newPart, PartA.cells, Value.oneCell']) (.inr (by decide))
        · have hb2 : Below w2.heap.size w2 w3 := ((Below.refl _ _).alloc (Nat.le_refl _) _).grown HG3.out (by simp) (by simp [Value.ownBlock])
          exact ⟨vs', fb', m', sz', HC.out.below hb2⟩
        · exact (HQ2.out.alloc hs2 _).grown HG3.out (by simp; omega) (by simp [Value.ownBlock])
        · exact HKC.out.trans (.of_below (((Below.refl _ _).alloc (Nat.le_refl _) _).grown HG3.out (by simp) (by simp [Value.ownBlock])))
      case measure => simp [intOf]
    · go_wp2
      go_ret
      exact ⟨_, rfl, hc.out⟩
end Go.Proofs.YtaonlcgneemimaaGreatDoor
