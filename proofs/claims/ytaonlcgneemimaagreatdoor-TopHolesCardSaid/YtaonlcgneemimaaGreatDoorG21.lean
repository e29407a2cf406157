/- TopHoles: the contracts of R5, R6, Y1, Y2, Y3, Y4, Y5; no condition. -/
import Derived.Test.YtaonlcgneemimaaGreatDoorG18
import Derived.Test.YtaonlcgneemimaaGreatDoorG20
import Derived.Test.YtaonlcgneemimaaGreatDoorG19
namespace Go.Proofs.YtaonlcgneemimaaGreatDoor
open Go.RowKit Go.Shelf
attribute [local go_sem] Oper.semAt_some
def lenP (pre : List (Off 224)) : Nat := (pre.map fun x => 8 + min 56 (224 - x.1)).sum
theorem lenP_snoc (pre : List (Off 224)) (x : Off 224) : lenP (pre ++ [x]) = lenP pre + (8 + min 56 (224 - x.1)) := by simp [lenP]
theorem lenP_all {xs : List (Off 224)} (h : xs.map (·.1) = offs 56 ((224 + 56 - 1) / 56)) : lenP xs = 256 := by
  have h1 : lenP xs = ((xs.map (·.1)).map fun y => 8 + min 56 (224 - y)).sum := by simp [lenP]
  rw [h1, h]
  decide
theorem chunk_sl2 {W : World} {B fg len cap c x : Nat} {fB : List Int} (h : W.ownsRow B 5 1 (.slice (some ⟨fg, 0, none⟩) len cap) len (u8s fB)) (hc : 0 < c) (hx : x < len) :
    Sl W 5 1 (chunkV fg 0 len c x) ((fB.drop x).take c).length (u8s ((fB.drop x).take c)) ∧ ((fB.drop x).take c).length = min c (len - x) := by
  have hl : fB.length = len := by have := h.1; simpa [u8s] using this
  have hlen : ((fB.drop x).take c).length = min c (len - x) := by simp [hl]
  refine ⟨?_, hlen⟩
  rcases h.2 with ⟨h1, _⟩ | ⟨g', cap', cur, h1, h2, h3, h4, h5, h6, h7⟩
  · simp at h1
  · simp only [Value.slice.injEq, Option.some.injEq, Addr.mk.injEq] at h1
    obtain ⟨⟨rfl, -⟩, -, rfl⟩ := h1
    rw [hlen]
    have hmin : min c (len - x) ≤ maxLen := by omega
    have hpos : 0 < min c (len - x) := by omega
    refine ⟨by simp [u8s, hl], u8s_one' _, .inr ⟨fg, 0 + x, min c (len - x), cur, rfl, hpos, Nat.le_refl _, hmin, h3, fun j u hj => ?_⟩⟩
    have e1 : (u8s ((fB.drop x).take c))[j]? = ((u8s fB).drop x |>.take c)[j]? := by simp [u8s, List.map_drop, List.map_take]
    rw [e1] at hj
    have hj54 : j < c := by
      by_cases h : j < c
      · exact h
      · rw [List.getElem?_eq_none (by simp; omega)] at hj; cases hj
    rw [List.getElem?_take_of_lt hj54, List.getElem?_drop] at hj
    rw [← h7] at hj
    have hlt : x + j < len * 1 := by
      by_cases h : x + j < len * 1
      · exact h
      · rw [List.getElem?_eq_none (by simp; omega)] at hj; cases hj
    rw [List.getElem?_take_of_lt hlt] at hj
    simpa using hj
/-- Between two rounds of Bytes. -/
def BytI (wB : World) (B t5 : Nat) (pre : List (Off 224)) (W : World) : Prop :=
  Frame [t5] wB W ∧ ∃ v f, W.heap[t5]? = some (.cells #[v] 33 (0, 0)) ∧ W.ownsRow B 5 1 v (lenP pre) (u8s f) ∧ (v = .slice none 0 0 ∨ 0 < lenP pre)
theorem bytI_own {wB : World} {B t5 : Nat} (h : t5 < wB.heap.size) : OwnFrom wB.heap.size (BytI wB B t5) := by
  rintro s A C row ⟨hF, v, f, h5, ho, hn⟩ hg hr
  refine ⟨hF.grown hg (fun j hj => .inr (hr j hj).1), v, f, (hg.block t5 (heap_lt h5) (fun e => by have := (hr _ e.symm).1; omega)).trans h5, row_kept ho (fun k o hk hv => ?_), hn⟩
  refine (hg.block k (heap_lt hk) (fun e => ?_)).trans hk
  obtain ⟨-, o', ho', hc⟩ := hr k e.symm
  obtain ⟨arr, ha⟩ := own_heap ho hv
  rw [ha] at ho'
  cases ho'
  simp [Obj.isCells] at hc
set_option maxRecDepth 100000 in
set_option maxHeartbeats 2000000 in
theorem superBytes_any (w : World) (number boot nJ nC : Nat) (ssJ ssC : List Int) (svJ svC : Value) (lastJ lastC : Int) (hok : SuperOk number boot nJ nC ssJ ssC) (hJ : Sl w 3 1 svJ ssJ.length (ints ssJ)) (hC : Sl w 3 1 svC ssC.length (ints ssC)) :
    Calls Tryz.prog 175 #[.agg (superC number boot nJ nC svJ svC lastJ lastC)] w fun e w' => ∃ v fs, e = .returned (.tuple #[v, .int .i64 0]) ∧ w'.ownsRow w.heap.size 5 1 v 256 (u8s fs) ∧ Below w.heap.size w w' := by
  have HOK := Lib.hid hok
  have HJ := Lib.hid hJ
  have HC := Lib.hid hC
  obtain ⟨aJ, capJ, rfl, -, -, -⟩ := hJ.shape
  obtain ⟨aC, capC, rfl, -, -, -⟩ := hC.shape
  unfold superC
  have MAY : Hid (∀ W, Below w.heap.size w W → Calls Tryz.prog 208 #[.agg #[.int .i64 number, .int .i64 boot, .slice aJ ssJ.length capJ, .int .i64 nJ, .int .u32 lastJ, .slice aC ssC.length capC, .int .i64 nC, .int .u32 lastC], .int .i64 96] W fun e w' => e = .returned (.bool true) ∧ Below W.heap.size W w') := Lib.hid (fun W hW => superMay_any W number boot nJ nC ssJ ssC _ _ lastJ lastC hok (hJ.below hW) (hC.below hW))
  have PLAIN : Hid (∀ W, Below w.heap.size w W → Calls Tryz.prog 209 #[.agg #[.int .i64 number, .int .i64 boot, .slice aJ ssJ.length capJ, .int .i64 nJ, .int .u32 lastJ, .slice aC ssC.length capC, .int .i64 nC, .int .u32 lastC]] W fun e w' => ∃ v fs, e = .returned v ∧ w'.ownsRow W.heap.size 5 1 v 224 (u8s fs) ∧ Below W.heap.size W w') := Lib.hid (fun W hW => superPlain_any W number boot nJ nC ssJ ssC _ _ lastJ lastC hok (hJ.below hW) (hC.below hW))
  have crcK : Hid (∀ (W : World) (c : Int), Calls Tryz.prog 188 #[.int .u32 c] W fun e w' => e = .returned (.slice (some ⟨W.heap.size, 0, none⟩) 4 4) ∧ Sl w' 5 1 (.slice (some ⟨W.heap.size, 0, none⟩) 4 4) 4 (u8s (crcB c)) ∧ Below W.heap.size W w') := Lib.hid (fun W c => (crcBytes_any c W).mono (by rintro e w' ⟨rfl, rfl⟩; exact ⟨rfl, crc_new W c, crc_below W _⟩))
  have CH : Hid (∀ W a len cap, Calls Tryz.prog 161 #[.slice a len cap, .int .i64 56] W fun e w' => e = .returned (.func (.func 190) #[] #[.pointer (some ⟨W.heap.size, 0, none⟩), .pointer (some ⟨W.heap.size + 1, 0, none⟩)]) ∧ w' = (W.alloc (.cells #[.slice a len cap] 33)).alloc (.cells #[.int .i64 56] 3)) := Lib.hid (fun W a len cap => callsIn_wide.1 (chunk_in Fence.wide 1 trivial rfl a len cap 56 (by decide) W))
  have B0 : Hid (Below w.heap.size w (w.alloc (.cells #[.int .i64 number, .int .i64 boot, .slice aJ ssJ.length capJ, .int .i64 nJ, .int .u32 lastJ, .slice aC ssC.length capC, .int .i64 nC, .int .u32 lastC] 230))) := Lib.hid (crc_below _ _)
  have X0 := Lib.hid (heap_new w (.cells #[.int .i64 number, .int .i64 boot, .slice aJ ssJ.length capJ, .int .i64 nJ, .int .u32 lastJ, .slice aC ssC.length capC, .int .i64 nC, .int .u32 lastC] 230))
  clear hok hJ hC
  refine (callsIn_wide (n := 3)).1 ?_
  refine callsIn_of_wp_marks Tryz.func175 rfl trivial ?_ rfl
  refine wpIn_wide.2 ?_
  simp only [Tryz.ntmps175, List.size_toArray, List.length_cons, List.length_nil, Nat.reduceAdd, Nat.reduceSub, Array.replicate_succ, Array.replicate_zero, List.push_toArray, List.append_toArray, List.nil_append, List.cons_append]
  go_wp2_with (first | (go_at_call 208; refine (MAY.out _ B0.out).mono ?_; rintro e w1 ⟨rfl, hq⟩; have B1 := Lib.hid (B0.out.trans (hq.mono B0.out.size)); have X1 := Lib.hid (Below.heap hq (Nat.le_refl _) X0.out); have x1 := cellAt X1.out 0; clear hq) | (go_at_call 188; refine (crcK.out w1 _).mono ?_; rintro e w2 ⟨rfl, hs, hb⟩; have S2 := Lib.hid hs; have B2 := Lib.hid hb; have X2 := Lib.hid (Below.heap hb (Nat.le_refl _) X1.out); have y0 := cellAt X2.out 0; have y1 := cellAt X2.out 1; have y2 := cellAt X2.out 2; have y3 := cellAt X2.out 3; have y4 := cellAt X2.out 4; have y5 := cellAt X2.out 5; have y6 := cellAt X2.out 6; have y7 := cellAt X2.out 7; have hl2 := heap_lt X2.out; have BB2 := Lib.hid (B1.out.trans (B2.out.mono B1.out.size)); clear hs hb) | (go_at_call 209; refine (PLAIN.out _ ((BB2.out.alloc BB2.out.size _).alloc (by have := BB2.out.size; simp; omega) _)).mono ?_; rintro e w4 ⟨v4, fs, rfl, ho, hq⟩; obtain ⟨g4, cap4, cur4, rfl, hg4, hgh4, hgl, hgm, -, -⟩ := own_pos ho (by decide); have O4 := Lib.hid ho; have Q4 := Lib.hid hq; have GH4 := Lib.hid hgh4; clear ho hq hgh4) | (go_at_call 161; refine (CH.out w4 _ _ _).mono ?_; rintro e w5 ⟨rfl, hw5⟩; have HW5 := Lib.hid hw5; clear hw5))
  have hb5 : Hid (Below w4.heap.size w4 w5 ∧ w5.heap.size = w4.heap.size + 2 ∧ w5.heap[w4.heap.size]? = some (.cells #[.slice (some ⟨g4, 0, none⟩) 224 cap4] 33 (0, 0)) ∧ w5.heap[w4.heap.size + 1]? = some (.cells #[.int .i64 ((56 : Nat) : Int)] 3 (0, 0))) := Lib.hid (by
    rw [HW5.out]
    exact ⟨((Below.refl _ _).alloc (Nat.le_refl _) _).alloc (by simp) _, by simp, heap_old (heap_new _ _) _, heap_new2 w4 _ _⟩)
  have hw3 : Hid (Below w2.heap.size w2 w4 ∧ w2.heap.size + 2 ≤ w4.heap.size ∧ w4.heap[w2.heap.size]? = some (.cells #[.slice (some ⟨w1.heap.size, 0, none⟩) 4 4] 33 (0, 0)) ∧ w4.heap[w2.heap.size + 1]? = some (.cells #[.slice none 0 0] 33 (0, 0))) := Lib.hid (by
    have h1 := Q4.out
    have h2 := h1.size
    simp only [World.size_alloc] at h2
    exact ⟨(((Below.refl _ _).alloc (Nat.le_refl _) _).alloc (by simp) _).trans (h1.mono (by simp; omega)), by omega, Below.heap h1 (Nat.le_refl _) (heap_old (heap_new _ _) _), Below.heap h1 (Nat.le_refl _) (heap_new2 w2 _ _)⟩)
  have hz4 := hw3.out.2.1
  have hz5 := hb5.out.2.1
  have T4 := Lib.hid (Below.heap hb5.out.1 (Nat.le_refl _) hw3.out.2.2.1)
  have T5 := Lib.hid (Below.heap hb5.out.1 (Nat.le_refl _) hw3.out.2.2.2)
  have S5 : Hid (Sl w5 5 1 (.slice (some ⟨w1.heap.size, 0, none⟩) 4 4) 4 (u8s (crcB ((number : Int) % 4294967296)))) := Lib.hid ((S2.out.below hw3.out.1).below hb5.out.1)
  have O5 := Lib.hid (own_below O4.out hb5.out.1)
  have G5 := Lib.hid (Below.heap hb5.out.1 (Nat.le_refl _) GH4.out)
  have hg4t : Hid (g4 ≠ w2.heap.size + 1) := Lib.hid (cells_ty GH4.out hw3.out.2.2.2 (by decide))
  have hg1t : Hid (w1.heap.size < w2.heap.size) := Lib.hid (by
    rcases S2.out.2.2 with ⟨h1, _⟩ | ⟨g', off', cap', arr, h1, -, -, -, h5, -⟩
    · simp at h1
    · simp only [Value.slice.injEq, Option.some.injEq, Addr.mk.injEq] at h1
      obtain ⟨⟨rfl, -, -⟩, -⟩ := h1
      exact heap_lt h5)
  refine wpIn_wide.1 (?_ : Code.wpIn Fence.wide 3 _ _ _ _ _)
  refine wpIn_rangeFunc_ownG (F := Fence.wide) (n := 3) rfl (by decide) (gf := 190) (lb := #[.pointer (some ⟨w4.heap.size, 0, none⟩), .pointer (some ⟨w4.heap.size + 1, 0, none⟩)]) rfl trivial (enters_of Tryz.func190 (by kernel_rfl) rfl)
    (chunk_stops Fence.wide 2 trivial rfl (by decide) w4.heap.size (w4.heap.size + 1) g4 0 224 cap4 56 (by decide) (by decide) (by decide) hgl hgm w5 hb5.out.2.2.1 hb5.out.2.2.2)
    boxes_t (fun W l o o' h1 h2 h3 h4 => boxes_b (w := w5) (by omega) (by omega) W l o o' h1 h2 h3 h4) (Below.refl _ _) (fun _ => rfl)
    (BytI w5 (w2.heap.size + 2) (w2.heap.size + 1)) (fun _ _ _ => False) (bytI_own (by omega)) (fun _ _ _ _ _ hs _ _ => hs) ⟨Frame.refl _ _, .slice none 0 0, [], T5.out, World.ownsRow_nil _ _ _ _, .inl rfl⟩ ?acts ?assign ?body ?done ?stop
  case assign =>
    intro lx x W K hK
    rw [zip_one]
    refine assign_region (.slice (some ⟨g4, x.1, none⟩) (min 56 (224 - x.1)) (min 56 (224 - x.1))) ?hvv ?_
    case hvv => simp [chunkV]
    simp only [List.setIfInBounds_toArray, List.set_cons_zero, List.set_cons_succ]
    exact hK
  case body =>
    rintro lx pre x W ⟨hF, v, f, h5, ho, hn⟩ hpl
    have HF := Lib.hid hF
    have H5 := Lib.hid h5
    have HO := Lib.hid ho
    have HN := Lib.hid hn
    have hws := hF.size
    have t4 := hF.heap T4.out (by simp)
    have c4 := cellAt t4 0
    have c5 := cellAt h5 0
    have f5 := frozenAt h5 0
    obtain ⟨va, vc, rfl⟩ := own_shape ho
    have hpl4 : Hid (pre.length < 4) := Lib.hid hpl
    clear hF h5 ho hn t4 hpl
    have hcl := chunk_sl2 (c := 56) (row_kept O5.out (fun k o hk hv => HF.out.heap hk (by
      simp only [Value.ownBlock, Option.some.injEq] at hv
      subst hv
      simpa using hg4t.out))) (by decide) x.2
    have HCL : Hid (Sl W 5 1 (.slice (some ⟨g4, x.1, none⟩) (min 56 (224 - x.1)) (min 56 (224 - x.1))) (((fs.drop x.1).take 56)).length (u8s ((fs.drop x.1).take 56)) ∧ ((fs.drop x.1).take 56).length = min 56 (224 - x.1)) := Lib.hid (by
      have h1 := hcl
      unfold chunkV at h1
      simpa using h1)
    have HS : Hid (Sl W 5 1 (.slice (some ⟨w1.heap.size, 0, none⟩) 4 4) 4 (u8s (crcB ((number : Int) % 4294967296)))) := Lib.hid (S5.out.same (fun g off cap he => HF.out.block g (by
      simp only [Value.slice.injEq, Option.some.injEq, Addr.mk.injEq] at he
      obtain ⟨⟨rfl, -⟩, -⟩ := he
      have := hg1t.out; omega) (by
      simp only [Value.slice.injEq, Option.some.injEq, Addr.mk.injEq] at he
      obtain ⟨⟨rfl, -⟩, -⟩ := he
      have := hg1t.out; simp; omega)))
    have hfl : Hid (f.length = lenP pre) := Lib.hid (by have := HO.out.1; simpa [u8s] using this)
    have hlp : Hid (lenP pre ≤ 256) := Lib.hid (by
      have h1 : ∀ q : List (Off 224), lenP q ≤ 64 * q.length := fun q => by
        induction q with
        | nil => simp [lenP]
        | cons y q ih => simp only [lenP, List.map_cons, List.sum_cons, List.length_cons] at ih ⊢; omega
      have h2 := h1 pre
      have h3 := hpl4.out
      omega)
    have RB : Hid (∀ W', W' = W.alloc (.cells #[.slice va (lenP pre) vc, .slice (some ⟨w1.heap.size, 0, none⟩) 4 4, .slice (some ⟨g4, x.1, none⟩) (min 56 (224 - x.1)) (min 56 (224 - x.1)), .slice (some ⟨w1.heap.size, 0, none⟩) 4 4] 33) → Calls Tryz.prog 187 #[.slice (some ⟨W.heap.size, 0, none⟩) 4 4] W' fun e w' => ∃ v, e = .returned v ∧ w'.ownsRow W'.heap.size 5 1 v (lenP (pre ++ [x])) (u8s (f ++ (crcB ((number : Int) % 4294967296) ++ ((fs.drop x.1).take 56 ++ crcB ((number : Int) % 4294967296))))) ∧ Below W'.heap.size W' w') := Lib.hid (fun W' hW' => by
      subst hW'
      have hb := crc_below W (.cells #[.slice va (lenP pre) vc, .slice (some ⟨w1.heap.size, 0, none⟩) 4 4, .slice (some ⟨g4, x.1, none⟩) (min 56 (224 - x.1)) (min 56 (224 - x.1)), .slice (some ⟨w1.heap.size, 0, none⟩) 4 4] 33)
      have hsl := Sl.block' (sz := 1) (n := 4) (heap_new W (.cells #[.slice va (lenP pre) vc, .slice (some ⟨w1.heap.size, 0, none⟩) 4 4, .slice (some ⟨g4, x.1, none⟩) (min 56 (224 - x.1)) (min 56 (224 - x.1)), .slice (some ⟨w1.heap.size, 0, none⟩) 4 4] 33)) rfl (by simp [Value.oneCell']) (by decide) (by decide)
      have h := concat_any _ (.slice (some ⟨W.heap.size, 0, none⟩) 4 4) [f, crcB ((number : Int) % 4294967296), (fs.drop x.1).take 56, crcB ((number : Int) % 4294967296)] ⟨_, hsl, fun i v l hv hl => by
        match i, hv, hl with
        | 0, hv, hl =>
          simp at hv hl
          subst hv hl
          rw [hfl.out]
          exact (Sl.of_own HO.out (u8s_one' _) HN.out).below hb
        | 1, hv, hl => simp at hv hl; subst hv hl; exact HS.out.below hb
        | 2, hv, hl => simp at hv hl; subst hv hl; exact HCL.out.1.below hb
        | 3, hv, hl => simp at hv hl; subst hv hl; exact HS.out.below hb
        | i + 4, hv, hl => simp at hl⟩ (by have h1 := hfl.out; have h2 := hlp.out; have h3 := HCL.out.2; simp only [sumB, List.map_cons, List.map_nil, List.sum_cons, List.sum_nil, crcB_length, h1, h3]; omega)
      have hsum : sumB [f, crcB ((number : Int) % 4294967296), (fs.drop x.1).take 56, crcB ((number : Int) % 4294967296)] = lenP (pre ++ [x]) := by
        have h1 := hfl.out
        have h3 := HCL.out.2
        rw [lenP_snoc]
        simp only [sumB, List.map_cons, List.map_nil, List.sum_cons, List.sum_nil, crcB_length, h1, h3]
        omega
      rw [hsum] at h
      simpa using h)
    clear hcl
    gi_wp2_with (refine ⟨trivial, ?_⟩; gi_at_call 187; refine (CallsIn.inRound lx (callsIn_wide.2 (RB.out _ rfl))).mono ?_; rintro e W2 ⟨v2, rfl, ho2, hq2⟩; have HO2 := Lib.hid ho2; have HQ2 := Lib.hid hq2; obtain ⟨g2, cap2, cur2, rfl, -, -, -⟩ := own_pos ho2 (by rw [lenP_snoc]; omega); have X2' := Lib.hid (Below.heap hq2 (Nat.le_refl _) (heap_old H5.out _)); have z5 := cellAt X2'.out 0; have zf := frozenAt X2'.out 0; clear ho2 hq2)
    have hq3 : Below W.heap.size W W2 := (crc_below W _).trans (HQ2.out.mono (by simp))
    have fW : Frame [w2.heap.size + 1] W (W2.setCell ⟨w2.heap.size + 1, 0, none⟩ (.slice (some ⟨g2, 0, none⟩) (lenP (pre ++ [x])) cap2)) := (Frame.of_below hq3 _).setCell (p := ⟨w2.heap.size + 1, 0, none⟩) (.inl (by simp)) _
    refine ⟨keepsFrom_of_frame fW (fun y hy => by simp at hy; omega), boxes_of_frame fW (by omega) (by omega) (by simp; omega) (by simp; omega), HF.out.trans fW (fun y hy => .inl hy), _, _, by simpa using setAt X2'.out 0 (.slice (some ⟨g2, 0, none⟩) (lenP (pre ++ [x])) cap2), own_setCell (own_mono HO2.out (by simp; omega)) (own_neq HO2.out X2'.out (by decide)), .inr (by rw [lenP_snoc]; omega)⟩
  case done =>
    rintro D xs W hD hS ⟨hF, v, f, h5, ho, hn⟩ hK
    have HF := Lib.hid hF
    have HO := Lib.hid ho
    have HKD := Lib.hid hK
    have HDD := Lib.hid hD
    have hlen := lenP_all hS
    rw [hlen] at ho
    have HO2 := Lib.hid ho
    obtain ⟨va, vc, rfl⟩ := own_shape ho
    have c5 := cellAt h5 0
    clear hF h5 ho hn hK hD hS hlen
    go_wp2
    have hbb := BB2.out
    have hw4 : Below w.heap.size w w4 := hbb.trans (hw3.out.1.mono hbb.size)
    have hw5 : Below w.heap.size w w5 := hw4.trans (hb5.out.1.mono hw4.size)
    have hW : Below w.heap.size w W := HF.out.belowIf hw5 (fun y hy => by simp at hy; have := hbb.size; omega) hw5.size
    have hD1 := HDD.out
    have hP : Below w.heap.size w (W.putObj D (.deferred none)) := (frame_putObj W D (.deferred none)).belowIf hW (fun y hy => by simp at hy; have := hbb.size; omega) hW.size
    refine ⟨by simp, .inl ⟨_, _, rfl, run_takeDeferred HKD.out, ?_⟩⟩
    refine ⟨.tuple #[.slice va 256 vc, .int .i64 0], by simp [results, Tryz.results175, go_sem], _, f, rfl, ?_, hP⟩
    refine own_mono (row_kept HO2.out (fun y o hk hv => (frame_putObj W D (.deferred none)).heap hk (fun hm => ?_))) (by have := hbb.size; omega)
    simp only [List.mem_singleton] at hm
    subst hm
    obtain ⟨arr, ha⟩ := own_heap HO2.out hv
    rw [HKD.out] at ha
    cases ha
  case stop =>
    rintro D c pre W _ _ h _
    exact h.elim
end Go.Proofs.YtaonlcgneemimaaGreatDoor
namespace Go.Proofs.YtaonlcgneemimaaGreatDoor
open Go.RowKit
theorem sl_part {W : World} {B g n cap i m : Nat} {fs : List Int} (h : W.ownsRow B 5 1 (.slice (some ⟨g, 0, none⟩) n cap) n (u8s fs)) (hi : i + m ≤ n) (hm : 0 < m) (c2 : Nat) (hc : m ≤ c2) (hc2 : c2 ≤ maxLen) :
    Sl W 5 1 (.slice (some ⟨g, i, none⟩) m c2) m (u8s ((fs.drop i).take m)) := by
  have hl : fs.length = n := by have := h.1; simpa [u8s] using this
  rcases h.2 with ⟨h1, _⟩ | ⟨g', cap', cur, h1, h2, h3, h4, h5, h6, h7⟩
  · simp at h1
  · simp only [Value.slice.injEq, Option.some.injEq, Addr.mk.injEq] at h1
    obtain ⟨⟨rfl, -⟩, -, rfl⟩ := h1
    refine ⟨by simp [u8s, hl]; omega, u8s_one' _, .inr ⟨g, i, c2, cur, rfl, hm, hc, hc2, h3, fun j u hj => ?_⟩⟩
    have e1 : (u8s ((fs.drop i).take m))[j]? = ((u8s fs).drop i |>.take m)[j]? := by simp [u8s, List.map_drop, List.map_take]
    rw [e1] at hj
    have hj54 : j < m := by
      by_cases h : j < m
      · exact h
      · rw [List.getElem?_eq_none (by simp; omega)] at hj; cases hj
    rw [List.getElem?_take_of_lt hj54, List.getElem?_drop] at hj
    rw [← h7] at hj
    have hlt : i + j < n * 1 := by
      by_cases h : i + j < n * 1
      · exact h
      · rw [List.getElem?_eq_none (by simp; omega)] at hj; cases hj
    rw [List.getElem?_take_of_lt hlt] at hj
    simpa using hj
set_option maxRecDepth 100000 in
set_option maxHeartbeats 2000000 in
theorem superWrite_any (w : World) (d l cb k slot : Nat) (HD : DiskAt w d l cb 776 k) (hk : k ≤ 900000) (hslot : slot ≤ 1) (number boot nJ nC : Nat) (ssJ ssC : List Int) (svJ svC : Value) (lastJ lastC : Int) (hok : SuperOk number boot nJ nC ssJ ssC) (hJ : Sl w 3 1 svJ ssJ.length (ints ssJ)) (hC : Sl w 3 1 svC ssC.length (ints ssC)) :
    Calls Tryz.prog 140 #[.pointer (some ⟨d, 0, none⟩), .int .i64 slot, .agg (superC number boot nJ nC svJ svC lastJ lastC)] w fun e w' => e = .returned (.int .i64 0) ∧ DiskAt w' d l cb 776 (k + 4) ∧ Frame [d, cb] w w' := by
  have HDD := Lib.hid HD
  obtain ⟨aJ, capJ, rfl, -, -, -⟩ := hJ.shape
  obtain ⟨aC, capC, rfl, -, -, -⟩ := hC.shape
  unfold superC
  have BY : Hid (∀ W, Below w.heap.size w W → Calls Tryz.prog 175 #[.agg #[.int .i64 number, .int .i64 boot, .slice aJ ssJ.length capJ, .int .i64 nJ, .int .u32 lastJ, .slice aC ssC.length capC, .int .i64 nC, .int .u32 lastC]] W fun e w' => ∃ v fs, e = .returned (.tuple #[v, .int .i64 0]) ∧ w'.ownsRow W.heap.size 5 1 v 256 (u8s fs) ∧ Below W.heap.size W w') := Lib.hid (fun W hW => superBytes_any W number boot nJ nC ssJ ssC _ _ lastJ lastC hok (hJ.below hW) (hC.below hW))
  have B0 : Hid (∀ o, Below w.heap.size w (w.alloc o)) := Lib.hid (fun o => crc_below _ _)
  have hdl := Lib.hid HD.lt
  clear hok hJ hC HD
  have e1 : ¬ ((slot : Int) < 0) := by omega
  have e2 : ¬ ((1 : Int) < slot) := by omega
  rcases (by omega : slot = 0 ∨ slot = 1) with rfl | rfl
  · go_enter Tryz.func140, Tryz.ntmps140
    go_wp2_with (go_at_call 175; refine (BY.out _ (B0.out _)).mono ?_; rintro e w1 ⟨v1, fs, rfl, ho, hq⟩; have HO := Lib.hid ho; have B1 : Hid (Below w.heap.size w w1) := Lib.hid ((B0.out _).trans (hq.mono (by simp))); obtain ⟨g, cap, cur, rfl, hg, hgh, hgl, hgm, hgs, hgt⟩ := own_pos ho (by decide); have GH := Lib.hid hgh; clear ho hq hgh hgs hgt)
    have hdisk : Hid (∀ W, Frame [d, cb] w1 W → Below w.heap.size w w1 → ∃ u : Unit, W.ownsRow w.heap.size 5 1 (.slice (some ⟨g, 0, none⟩) 256 cap) 256 (u8s fs)) := Lib.hid (fun W hW _ => ⟨(), own_mono (row_kept HO.out (fun y o hk hv => hW.heap hk (by
      simp only [Value.ownBlock, Option.some.injEq] at hv
      subst hv
      have h1 := (HO.out.lt g rfl).1
      have h2 := hdl.out
      simp only [World.size_alloc] at h1
      simp only [List.mem_cons, List.not_mem_nil, or_false]
      omega))) (by simp)⟩)
    have WR : Hid (∀ (W : World) (q i kk : Nat), Frame [d, cb] w1 W → DiskAt W d l cb 776 kk → kk ≤ 1000000 → q < 776 → i + 64 ≤ 256 → Calls Tryz.prog 162 #[.pointer (some ⟨d, 0, none⟩), .int .i64 q, .slice (some ⟨g, i, none⟩) 64 (cap - i)] W fun e w' => e = .returned (.int .i64 0) ∧ DiskAt w' d l cb 776 (kk + 1) ∧ Frame [d, cb] W w') := Lib.hid (fun W q i kk hF hD hkk hq hi => by
      obtain ⟨-, hrow⟩ := hdisk.out W hF B1.out
      exact diskWrite_any W d l cb 776 kk hD hkk q hq _ _ (sl_part hrow hi (by decide) (cap - i) (by omega) (by omega)))
    have D1 : Hid (DiskAt w1 d l cb 776 k) := Lib.hid (HDD.out.below B1.out)
    have g1 : (256 : Int) ≤ cap := by omega
    have g2 : (192 : Int) ≤ cap := by omega
    have g3 : (128 : Int) ≤ cap := by omega
    have g4 : (64 : Int) ≤ cap := by omega
    go_loopw [9, 10, 26] (fun _ _ ti wr => ∃ j : Nat, j ≤ 4 ∧ ti = .int .i64 j ∧ Hid (DiskAt wr d l cb 776 (k + j) ∧ Frame [d, cb] w1 wr)) (fun _ _ i _ => 4 - (intOf i).toNat)
    case atStart => exact ⟨0, by omega, rfl, Lib.hid ⟨D1.out, Frame.refl _ _⟩⟩
    case round =>
      obtain ⟨j, hj4, rfl, hst⟩ := hrel
      rcases (by omega : j = 0 ∨ j = 1 ∨ j = 2 ∨ j = 3 ∨ j = 4) with rfl | rfl | rfl | rfl | rfl
      · go_wp2_with (go_at_call 162; refine (WR.out _ 0 0 _ hst.out.2 hst.out.1 (by omega) (by decide) (by decide)).mono ?_; rintro e w5 ⟨rfl, hd5, hf5⟩; have HD5 := Lib.hid hd5; have HF5 := Lib.hid (hst.out.2.trans hf5 (fun y hy => .inl hy)); clear hd5 hf5)
        go_roundw
        case rel => exact ⟨1, by omega, by go_num, Lib.hid ⟨HD5.out, HF5.out⟩⟩
        case measure => simp [intOf]
      · go_wp2_with (go_at_call 162; refine (WR.out _ 1 64 _ hst.out.2 hst.out.1 (by omega) (by decide) (by decide)).mono ?_; rintro e w5 ⟨rfl, hd5, hf5⟩; have HD5 := Lib.hid hd5; have HF5 := Lib.hid (hst.out.2.trans hf5 (fun y hy => .inl hy)); clear hd5 hf5)
        go_roundw
        case rel => exact ⟨2, by omega, by go_num, Lib.hid ⟨HD5.out, HF5.out⟩⟩
        case measure => simp [intOf]
      · go_wp2_with (go_at_call 162; refine (WR.out _ 2 128 _ hst.out.2 hst.out.1 (by omega) (by decide) (by decide)).mono ?_; rintro e w5 ⟨rfl, hd5, hf5⟩; have HD5 := Lib.hid hd5; have HF5 := Lib.hid (hst.out.2.trans hf5 (fun y hy => .inl hy)); clear hd5 hf5)
        go_roundw
        case rel => exact ⟨3, by omega, by go_num, Lib.hid ⟨HD5.out, HF5.out⟩⟩
        case measure => simp [intOf]
      · go_wp2_with (go_at_call 162; refine (WR.out _ 3 192 _ hst.out.2 hst.out.1 (by omega) (by decide) (by decide)).mono ?_; rintro e w5 ⟨rfl, hd5, hf5⟩; have HD5 := Lib.hid hd5; have HF5 := Lib.hid (hst.out.2.trans hf5 (fun y hy => .inl hy)); clear hd5 hf5)
        go_roundw
        case rel => exact ⟨4, by omega, by go_num, Lib.hid ⟨HD5.out, HF5.out⟩⟩
        case measure => simp [intOf]
      · go_wp2
        go_ret
        exact ⟨rfl, hst.out.1, (Frame.of_below B1.out _).trans hst.out.2 (fun y hy => .inl hy)⟩
  · go_enter Tryz.func140, Tryz.ntmps140
    go_wp2_with (go_at_call 175; refine (BY.out _ (B0.out _)).mono ?_; rintro e w1 ⟨v1, fs, rfl, ho, hq⟩; have HO := Lib.hid ho; have B1 : Hid (Below w.heap.size w w1) := Lib.hid ((B0.out _).trans (hq.mono (by simp))); obtain ⟨g, cap, cur, rfl, hg, hgh, hgl, hgm, hgs, hgt⟩ := own_pos ho (by decide); have GH := Lib.hid hgh; clear ho hq hgh hgs hgt)
    have hdisk : Hid (∀ W, Frame [d, cb] w1 W → Below w.heap.size w w1 → ∃ u : Unit, W.ownsRow w.heap.size 5 1 (.slice (some ⟨g, 0, none⟩) 256 cap) 256 (u8s fs)) := Lib.hid (fun W hW _ => ⟨(), own_mono (row_kept HO.out (fun y o hk hv => hW.heap hk (by
      simp only [Value.ownBlock, Option.some.injEq] at hv
      subst hv
      have h1 := (HO.out.lt g rfl).1
      have h2 := hdl.out
      simp only [World.size_alloc] at h1
      simp only [List.mem_cons, List.not_mem_nil, or_false]
      omega))) (by simp)⟩)
    have WR : Hid (∀ (W : World) (q i kk : Nat), Frame [d, cb] w1 W → DiskAt W d l cb 776 kk → kk ≤ 1000000 → q < 776 → i + 64 ≤ 256 → Calls Tryz.prog 162 #[.pointer (some ⟨d, 0, none⟩), .int .i64 q, .slice (some ⟨g, i, none⟩) 64 (cap - i)] W fun e w' => e = .returned (.int .i64 0) ∧ DiskAt w' d l cb 776 (kk + 1) ∧ Frame [d, cb] W w') := Lib.hid (fun W q i kk hF hD hkk hq hi => by
      obtain ⟨-, hrow⟩ := hdisk.out W hF B1.out
      exact diskWrite_any W d l cb 776 kk hD hkk q hq _ _ (sl_part hrow hi (by decide) (cap - i) (by omega) (by omega)))
    have D1 : Hid (DiskAt w1 d l cb 776 k) := Lib.hid (HDD.out.below B1.out)
    have g1 : (256 : Int) ≤ cap := by omega
    have g2 : (192 : Int) ≤ cap := by omega
    have g3 : (128 : Int) ≤ cap := by omega
    have g4 : (64 : Int) ≤ cap := by omega
    go_loopw [9, 10, 26] (fun _ _ ti wr => ∃ j : Nat, j ≤ 4 ∧ ti = .int .i64 j ∧ Hid (DiskAt wr d l cb 776 (k + j) ∧ Frame [d, cb] w1 wr)) (fun _ _ i _ => 4 - (intOf i).toNat)
    case atStart => exact ⟨0, by omega, rfl, Lib.hid ⟨D1.out, Frame.refl _ _⟩⟩
    case round =>
      obtain ⟨j, hj4, rfl, hst⟩ := hrel
      rcases (by omega : j = 0 ∨ j = 1 ∨ j = 2 ∨ j = 3 ∨ j = 4) with rfl | rfl | rfl | rfl | rfl
      · go_wp2_with (go_at_call 162; refine (WR.out _ 4 0 _ hst.out.2 hst.out.1 (by omega) (by decide) (by decide)).mono ?_; rintro e w5 ⟨rfl, hd5, hf5⟩; have HD5 := Lib.hid hd5; have HF5 := Lib.hid (hst.out.2.trans hf5 (fun y hy => .inl hy)); clear hd5 hf5)
        go_roundw
        case rel => exact ⟨1, by omega, by go_num, Lib.hid ⟨HD5.out, HF5.out⟩⟩
        case measure => simp [intOf]
      · go_wp2_with (go_at_call 162; refine (WR.out _ 5 64 _ hst.out.2 hst.out.1 (by omega) (by decide) (by decide)).mono ?_; rintro e w5 ⟨rfl, hd5, hf5⟩; have HD5 := Lib.hid hd5; have HF5 := Lib.hid (hst.out.2.trans hf5 (fun y hy => .inl hy)); clear hd5 hf5)
        go_roundw
        case rel => exact ⟨2, by omega, by go_num, Lib.hid ⟨HD5.out, HF5.out⟩⟩
        case measure => simp [intOf]
      · go_wp2_with (go_at_call 162; refine (WR.out _ 6 128 _ hst.out.2 hst.out.1 (by omega) (by decide) (by decide)).mono ?_; rintro e w5 ⟨rfl, hd5, hf5⟩; have HD5 := Lib.hid hd5; have HF5 := Lib.hid (hst.out.2.trans hf5 (fun y hy => .inl hy)); clear hd5 hf5)
        go_roundw
        case rel => exact ⟨3, by omega, by go_num, Lib.hid ⟨HD5.out, HF5.out⟩⟩
        case measure => simp [intOf]
      · go_wp2_with (go_at_call 162; refine (WR.out _ 7 192 _ hst.out.2 hst.out.1 (by omega) (by decide) (by decide)).mono ?_; rintro e w5 ⟨rfl, hd5, hf5⟩; have HD5 := Lib.hid hd5; have HF5 := Lib.hid (hst.out.2.trans hf5 (fun y hy => .inl hy)); clear hd5 hf5)
        go_roundw
        case rel => exact ⟨4, by omega, by go_num, Lib.hid ⟨HD5.out, HF5.out⟩⟩
        case measure => simp [intOf]
      · go_wp2
        go_ret
        exact ⟨rfl, hst.out.1, (Frame.of_below B1.out _).trans hst.out.2 (fun y hy => .inl hy)⟩
end Go.Proofs.YtaonlcgneemimaaGreatDoor
namespace Go.Proofs.YtaonlcgneemimaaGreatDoor
open Go.RowKit
/-- An engine's parts, told apart from memory. -/
structure EngX where
  d : Nat
  l : Nat
  cb : Nat
  k : Nat
  b : Nat
  g : Nat
  bs : List Bool
  j : Nat
  svJ : Value
  ssJ : List Int
  nJ : Nat
  lastJ : Int
  c : Nat
  svC : Value
  ssC : List Int
  nC : Nat
  lastC : Int
  number : Nat
/-- An engine in memory. -/
structure EngAt (w : World) (e : Nat) (x : EngX) : Prop where
  cell : w.heap[e]? = some (.cells #[.pointer (some ⟨x.d, 0, none⟩), .pointer (some ⟨x.b, 0, none⟩), .int .i64 96, .int .i64 1, .int .i64 x.number, .int .i64 1, .pointer (some ⟨x.j, 0, none⟩), .pointer (some ⟨x.c, 0, none⟩)] 151 (0, 0))
  disk : DiskAt w x.d x.l x.cb 776 x.k
  space : SpaceAt w 0 x.b x.g x.bs
  blen : x.bs.length = 96
  logJ : LogAt w x.j x.d x.svJ x.ssJ x.nJ x.lastJ
  logC : LogAt w x.c x.d x.svC x.ssC x.nC x.lastC
  nodup : (x.ssJ ++ x.ssC).Nodup
  taken : ∀ s ∈ x.ssJ ++ x.ssC, x.bs[s.toNat]? = some true
  frees : sp_frees x.bs + x.ssJ.length + x.ssC.length = 96
  ne : x.j ≠ x.c
  apart : ∀ y, x.svJ.ownBlock = some y → x.svC.ownBlock ≠ some y
/-- All the blocks that an engine may turn. -/
def EngX.mut (x : EngX) (e : Nat) : List Nat := e :: x.d :: x.l :: x.cb :: x.g :: x.j :: x.c :: (x.svJ.ownBlock.toList ++ x.svC.ownBlock.toList)
theorem EngAt.superOk {w : World} {e : Nat} {x : EngX} (h : EngAt w e x) (n : Nat) (hn : n ≤ 2147483647) : SuperOk n 1 x.nJ x.nC x.ssJ x.ssC :=
  ⟨hn, by decide, h.logJ.len, h.logC.len, by have := h.frees; omega, h.nodup, fun s hs => by
    rcases List.mem_append.1 hs with h1 | h1
    · exact h.logJ.seg s h1
    · exact h.logC.seg s h1⟩
theorem EngAt.below {w w' : World} {e : Nat} {x : EngX} (h : EngAt w e x) (hb : Below w.heap.size w w') : EngAt w' e x :=
  ⟨Below.heap hb (Nat.le_refl _) h.cell, h.disk.below hb, h.space.below hb, h.blen, h.logJ.below hb, h.logC.below hb, h.nodup, h.taken, h.frees, h.ne, h.apart⟩
/-- The disk alone has turned, and the engine's own cells. -/
theorem EngAt.turn {w w' : World} {e : Nat} {x : EngX} (h : EngAt w e x) (n k : Nat) (hf : Frame [e, x.d, x.l, x.cb] w w') (hd : DiskAt w' x.d x.l x.cb 776 k)
    (hc : w'.heap[e]? = some (.cells #[.pointer (some ⟨x.d, 0, none⟩), .pointer (some ⟨x.b, 0, none⟩), .int .i64 96, .int .i64 1, .int .i64 n, .int .i64 1, .pointer (some ⟨x.j, 0, none⟩), .pointer (some ⟨x.c, 0, none⟩)] 151 (0, 0))) : EngAt w' e { x with number := n, k := k } := by
  have hJ := app_apart h.logJ h.disk h.space
  have hC := app_apart h.logC h.disk h.space
  obtain ⟨ba, hba⟩ := h.space.blk
  obtain ⟨ga, hga⟩ := h.space.row
  obtain ⟨ops, hd0⟩ := h.disk.cell
  obtain ⟨lr, hl0, -⟩ := h.disk.row
  obtain ⟨mn, mf, hm0, -⟩ := h.disk.map
  have hb : x.b ∉ [e, x.d, x.l, x.cb] := by
    have h1 : x.b ≠ e := cells_ty hba h.cell (by decide)
    have h2 : x.b ≠ x.d := cells_ty hba hd0 (by decide)
    have h3 : x.b ≠ x.l := cells_ty hba hl0 (by decide)
    have h4 : x.b ≠ x.cb := fun h => by rw [h] at hba; exact hm0.cells hba
    simp [h1, h2, h3, h4]
  have hg : x.g ∉ [e, x.d, x.l, x.cb] := by
    have h1 : x.g ≠ e := cells_ty hga h.cell (by decide)
    have := hJ x.g (by simp)
    simp [h1, this]
  have hj : x.j ∉ [e, x.d, x.l, x.cb] := by
    have h1 : x.j ≠ e := cells_ty h.logJ.cell h.cell (by decide)
    have := hJ x.j (by simp)
    simp [h1, this]
  have hcc : x.c ∉ [e, x.d, x.l, x.cb] := by
    have h1 : x.c ≠ e := cells_ty h.logC.cell h.cell (by decide)
    have := hC x.c (by simp)
    simp [h1, this]
  have hsj : ∀ y, x.svJ.ownBlock = some y → y ∉ [e, x.d, x.l, x.cb] := fun y hy => by
    obtain ⟨arr, ha⟩ := own_heap h.logJ.segs hy
    have h1 : y ≠ e := cells_ty ha h.cell (by decide)
    have := hJ y (by simp [hy])
    simp [h1, this]
  have hsc : ∀ y, x.svC.ownBlock = some y → y ∉ [e, x.d, x.l, x.cb] := fun y hy => by
    obtain ⟨arr, ha⟩ := own_heap h.logC.segs hy
    have h1 : y ≠ e := cells_ty ha h.cell (by decide)
    have := hC y (by simp [hy])
    simp [h1, this]
  exact ⟨hc, hd, h.space.frame hf hb hg, h.blen, h.logJ.frame hf hj hsj, h.logC.frame hf hcc hsc, h.nodup, h.taken, h.frees, h.ne, h.apart⟩
end Go.Proofs.YtaonlcgneemimaaGreatDoor
namespace Go.Proofs.YtaonlcgneemimaaGreatDoor
open Go.RowKit
theorem SpaceAt.base0 {w : World} {base b g : Nat} {bs : List Bool} (h : SpaceAt w base b g bs) : SpaceAt w 0 b g bs := by
  obtain ⟨hb, ne, c, hh, own⟩ := h
  exact ⟨Nat.zero_le _, ne, c, hh, own_mono own (Nat.zero_le _)⟩
set_option maxRecDepth 100000 in
set_option maxHeartbeats 2000000 in
theorem begun_any (w : World) (d l cb k : Nat) (HD : DiskAt w d l cb 776 k) :
    Calls Tryz.prog 46 #[.pointer (some ⟨d, 0, none⟩)] w fun e w' => ∃ (eb : Nat) (x : EngX), e = .returned (.tuple #[.pointer (some ⟨eb, 0, none⟩), .int .i64 0]) ∧ EngAt w' eb x ∧ Below w.heap.size w w' ∧ x.d = d ∧ x.l = l ∧ x.cb = cb ∧ x.k = k ∧ x.number = 0 ∧ x.ssJ = [] ∧ x.ssC = [] ∧ x.nJ = 0 ∧ x.nC = 0 ∧ (∀ y ∈ x.mut eb, y = d ∨ y = l ∨ y = cb ∨ w.heap.size ≤ y) ∧ w.heap.size ≤ x.b := by
  have HDD := Lib.hid HD
  clear HD
  go_enter Tryz.func46, Tryz.ntmps46
  go_wp2_with (first | (go_at_call 91; refine (sectors_any _ _ _ _ _ _ HDD.out).mono ?_; rintro e w1 ⟨rfl, hw⟩; have hw := hw.symm; subst hw) | (go_at_call 90; refine (sp_segs_any 776 _ (by decide) (by decide)).mono ?_; rintro e w1 ⟨rfl, hw⟩; subst hw; rw [show sp_segsN 776 = 96 by decide]) | (go_at_call 92; refine (sp_new_any _).mono ?_; rintro e w1 ⟨b, g, rfl, hs, hg⟩; have HS := Lib.hid hs; have HG := Lib.hid hg; clear hs hg) | (go_at_call 93; with_reducible refine (newLog_any w1 d).mono ?_; rintro e w2 ⟨rfl, hl, hq⟩; have HL := Lib.hid hl; have HQ := Lib.hid hq; clear hl hq) | (go_at_call 93; with_reducible refine (newLog_any w2 d).mono ?_; rintro e w3 ⟨rfl, hl, hq⟩; have HL3 := Lib.hid hl; have HQ3 := Lib.hid hq; clear hl hq))
  refine bodyPost_ret (v := .tuple #[.pointer (some ⟨w3.heap.size, 0, none⟩), .int .i64 0]) (by simp [results, Tryz.results46, go_sem]) rfl ?_
  have b1 : Below w.heap.size w w1 := ⟨HG.out.os, HG.out.tape, HG.out.output, HG.out.size, fun y hy => HG.out.block y hy (by simp)⟩
  have b2 : Below w.heap.size w w2 := b1.trans (HQ.out.mono b1.size)
  have b3 : Below w.heap.size w w3 := b2.trans (HQ3.out.mono b2.size)
  have hnew : Below w3.heap.size w3 (w3.alloc (.cells #[.pointer (some ⟨d, 0, none⟩), .pointer (some ⟨b, 0, none⟩), .int .i64 96, .int .i64 1, .int .i64 0, .int .i64 1, .pointer (some ⟨w1.heap.size, 0, none⟩), .pointer (some ⟨w2.heap.size, 0, none⟩)] 151)) := crc_below _ _
  have hl1 := heap_lt HL.out.cell
  have hsl := HS.out.lt
  refine ⟨w3.heap.size, ⟨d, l, cb, k, b, g, List.replicate 96 false, w1.heap.size, .slice none 0 0, [], 0, 0, w2.heap.size, .slice none 0 0, [], 0, 0, 0⟩, rfl, ⟨heap_new w3 _, (HDD.out.below b3).below hnew, (((HS.out.base0.below HQ.out).below HQ3.out)).below hnew, by simp, (HL.out.below HQ3.out).below hnew, HL3.out.below hnew, by simp, by simp, by simp [sp_frees], ?_, by simp [Value.ownBlock]⟩, b3.trans (hnew.mono b3.size), rfl, rfl, rfl, rfl, rfl, rfl, rfl, rfl, rfl, ?_, hsl.1⟩
  · show w1.heap.size ≠ w2.heap.size
    omega
  · intro y hy
    simp only [EngX.mut, Value.ownBlock, Option.toList, List.append_nil, List.mem_cons, List.not_mem_nil, or_false] at hy
    have h1 := b1.size
    have h2 := b2.size
    have h3 := b3.size
    rcases hy with rfl | rfl | rfl | rfl | rfl | rfl | rfl
    · exact .inr (.inr (.inr h3))
    · exact .inl rfl
    · exact .inr (.inl rfl)
    · exact .inr (.inr (.inl rfl))
    · exact .inr (.inr (.inr hsl.2.1))
    · exact .inr (.inr (.inr h1))
    · exact .inr (.inr (.inr h2))
end Go.Proofs.YtaonlcgneemimaaGreatDoor
namespace Go.Proofs.YtaonlcgneemimaaGreatDoor
open Go.RowKit
theorem cell5 {W : World} {e : Nat} {v0 v1 v2 v3 v4 v5 v6 v7 : Value} (h : W.heap[e]? = some (.cells #[v0, v1, v2, v3, v4, v5, v6, v7] 151 (0, 0))) : W.cell? ⟨e, 0, none⟩ = some v0 ∧ W.cell? ⟨e, 3, none⟩ = some v3 ∧ W.cell? ⟨e, 4, none⟩ = some v4 ∧ W.cell? ⟨e, 5, none⟩ = some v5 ∧ W.cell? ⟨e, 6, none⟩ = some v6 ∧ W.cell? ⟨e, 7, none⟩ = some v7 := ⟨cellAt h 0, cellAt h 3, cellAt h 4, cellAt h 5, cellAt h 6, cellAt h 7⟩
def supZ : Array Value := #[.int .i64 0, .int .i64 0, .slice none 0 0, .int .i64 0, .int .u32 0, .slice none 0 0, .int .i64 0, .int .u32 0]
def supW (W : World) (q : Nat) (a0 a1 a2 a3 a4 a5 a6 a7 : Value) : World := (((((((W.setCell ⟨q, 0, none⟩ a0).setCell ⟨q, 1, none⟩ a1).setCell ⟨q, 2, none⟩ a2).setCell ⟨q, 3, none⟩ a3).setCell ⟨q, 4, none⟩ a4).setCell ⟨q, 5, none⟩ a5).setCell ⟨q, 6, none⟩ a6).setCell ⟨q, 7, none⟩ a7
theorem slot_box {W : World} {q : Nat} (h : W.heap[q]? = some (.cells supZ 230 (0, 0))) (a0 a1 a2 a3 a4 a5 a6 a7 : Value) : (supW W q a0 a1 a2 a3 a4 a5 a6 a7).heap[q]? = some (.cells #[a0, a1, a2, a3, a4, a5, a6, a7] 230 (0, 0)) ∧ Frame [q] W (supW W q a0 a1 a2 a3 a4 a5 a6 a7) := by
  refine ⟨?_, ?_⟩
  · have h0 := setAt h 0 a0
    have h1 := setAt h0 1 a1
    have h2 := setAt h1 2 a2
    have h3 := setAt h2 3 a3
    have h4 := setAt h3 4 a4
    have h5 := setAt h4 5 a5
    have h6 := setAt h5 6 a6
    have h7 := setAt h6 7 a7
    unfold supW
    rw [h7]
    simp [supZ]
  · have f : ∀ (V : World) (i : Nat) (u : Value), Frame [q] W V → Frame [q] W (V.setCell ⟨q, i, none⟩ u) := fun V i u h => h.setCell (.inl (by simp)) u
    exact f _ 7 a7 (f _ 6 a6 (f _ 5 a5 (f _ 4 a4 (f _ 3 a3 (f _ 2 a2 (f _ 1 a1 (f _ 0 a0 (Frame.refl _ _))))))))
theorem slot_fin {w W : World} {q number : Nat} {nJ nC : Nat} {vJ vC : Value} {ssJ ssC : List Int} {lastJ lastC : Int} (S1 : Sl W 3 1 vJ ssJ.length (ints ssJ)) (S2 : Sl W 3 1 vC ssC.length (ints ssC)) (Q2 : W.heap[q]? = some (.cells supZ 230 (0, 0))) (B2 : Below w.heap.size w W) (hq : w.heap.size ≤ q) :
    (supW W q (.int .i64 ((number : Int) + 1)) (.int .i64 1) vJ (.int .i64 nJ) (.int .u32 lastJ) vC (.int .i64 nC) (.int .u32 lastC)).heap[q]? = some (.cells (superC (number + 1) 1 nJ nC vJ vC lastJ lastC) 230 (0, 0)) ∧ Sl (supW W q (.int .i64 ((number : Int) + 1)) (.int .i64 1) vJ (.int .i64 nJ) (.int .u32 lastJ) vC (.int .i64 nC) (.int .u32 lastC)) 3 1 vJ ssJ.length (ints ssJ) ∧ Sl (supW W q (.int .i64 ((number : Int) + 1)) (.int .i64 1) vJ (.int .i64 nJ) (.int .u32 lastJ) vC (.int .i64 nC) (.int .u32 lastC)) 3 1 vC ssC.length (ints ssC) ∧ Below w.heap.size w (supW W q (.int .i64 ((number : Int) + 1)) (.int .i64 1) vJ (.int .i64 nJ) (.int .u32 lastJ) vC (.int .i64 nC) (.int .u32 lastC)) ∧ w.heap.size ≤ q := by
  obtain ⟨h1, h2⟩ := slot_box Q2 (.int .i64 ((number : Int) + 1)) (.int .i64 1) vJ (.int .i64 nJ) (.int .u32 lastJ) vC (.int .i64 nC) (.int .u32 lastC)
  have sl : ∀ (v : Value) (ss : List Int), Sl W 3 1 v ss.length (ints ss) → Sl (supW W q (.int .i64 ((number : Int) + 1)) (.int .i64 1) vJ (.int .i64 nJ) (.int .u32 lastJ) vC (.int .i64 nC) (.int .u32 lastC)) 3 1 v ss.length (ints ss) := fun v ss h => h.same (fun g off cap hg => by
    subst hg
    obtain ⟨-, -, h0 | ⟨g1, off1, cap1, arr, h1, -, -, -, h5, -⟩⟩ := h
    · exact absurd h0.1 (by simp)
    · simp only [Value.slice.injEq, Option.some.injEq, Addr.mk.injEq, and_true, true_and] at h1
      obtain ⟨⟨rfl, -⟩, -⟩ := h1
      exact h2.block g (heap_lt h5) (by simpa using cells_ty h5 Q2 (by decide)))
  refine ⟨h1, sl _ _ S1, sl _ _ S2, ⟨h2.os.trans B2.os, h2.tape.trans B2.tape, h2.output.trans B2.output, Nat.le_trans B2.size h2.size, fun y hy => (h2.block y (by have := B2.size; omega) (by simp; omega)).trans (B2.block y hy)⟩, hq⟩
set_option maxRecDepth 100000 in
set_option maxHeartbeats 4000000 in
theorem slot_any (w : World) (e : Nat) (x : EngX) (H : EngAt w e x) (slot : Nat) (hs : slot ≤ 1) (hn : x.number + 1 ≤ 2147483647) (hk : x.k ≤ 900000) :
    Calls Tryz.prog 94 #[.pointer (some ⟨e, 0, none⟩), .int .i64 slot] w fun e' w' => e' = .returned (.int .i64 0) ∧ EngAt w' e { x with number := x.number + 1, k := 0 } ∧ Frame [e, x.d, x.l, x.cb] w w' := by
  have HH := Lib.hid H
  obtain ⟨d, l, cb, k, b, g, bs, j, svJ, ssJ, nJ, lastJ, c, svC, ssC, nC, lastC, number⟩ := x
  simp only at hn hk ⊢
  have WJ : Hid (∀ W, Below w.heap.size w W → Calls Tryz.prog 139 #[.pointer (some ⟨j, 0, none⟩)] W fun e w' => ∃ v, e = .returned (.agg #[v, .int .i64 nJ, .int .u32 lastJ]) ∧ Sl w' 3 1 v ssJ.length (ints ssJ) ∧ Below W.heap.size W w') := Lib.hid (fun W hW => where_any W j d nJ svJ ssJ lastJ (H.logJ.below hW))
  have WC : Hid (∀ W, Below w.heap.size w W → Calls Tryz.prog 139 #[.pointer (some ⟨c, 0, none⟩)] W fun e w' => ∃ v, e = .returned (.agg #[v, .int .i64 nC, .int .u32 lastC]) ∧ Sl w' 3 1 v ssC.length (ints ssC) ∧ Below W.heap.size W w') := Lib.hid (fun W hW => where_any W c d nC svC ssC lastC (H.logC.below hW))
  have helt := heap_lt H.cell
  obtain ⟨c0, c3, c4, c5, c6, c7⟩ := cell5 H.cell
  have hSB : ∀ {L : Array Bool} {W : World}, Below w.heap.size w W → TillC 21 (fun _ => True) (fun W => W.cell? ⟨e, 4, none⟩ = some (.int .i64 number) ∧ W.cell? ⟨e, 5, none⟩ = some (.int .i64 1) ∧ W.cell? ⟨e, 6, none⟩ = some (.pointer (some ⟨j, 0, none⟩)) ∧ W.cell? ⟨e, 7, none⟩ = some (.pointer (some ⟨c, 0, none⟩))) L W := fun {L} {W} hW => ⟨fun _ => trivial, (hW.cell (p := ⟨e, 4, none⟩) helt).trans c4, (hW.cell (p := ⟨e, 5, none⟩) helt).trans c5, (hW.cell (p := ⟨e, 6, none⟩) helt).trans c6, (hW.cell (p := ⟨e, 7, none⟩) helt).trans c7⟩
  have hSF : Hid (∀ (L : Array Bool) (W W' : World) (q : Nat), Hid (Frame [q] W W') → Below w.heap.size w W → w.heap.size ≤ q → TillC 21 (fun _ => True) (fun W => W.cell? ⟨e, 4, none⟩ = some (.int .i64 number) ∧ W.cell? ⟨e, 5, none⟩ = some (.int .i64 1) ∧ W.cell? ⟨e, 6, none⟩ = some (.pointer (some ⟨j, 0, none⟩)) ∧ W.cell? ⟨e, 7, none⟩ = some (.pointer (some ⟨c, 0, none⟩))) L W') := Lib.hid (fun L W W' q hF hW hq => by
    have hh : W'.heap[e]? = _ := hF.out.heap (Below.heap hW (Nat.le_refl _) HH.out.cell) (by simp; omega)
    exact ⟨fun _ => trivial, (cell5 hh).2.2⟩)
  have hS0 : ∀ L : Array Bool, TillC 21 (fun _ => True) (fun W => W.cell? ⟨e, 4, none⟩ = some (.int .i64 number) ∧ W.cell? ⟨e, 5, none⟩ = some (.int .i64 1) ∧ W.cell? ⟨e, 6, none⟩ = some (.pointer (some ⟨j, 0, none⟩)) ∧ W.cell? ⟨e, 7, none⟩ = some (.pointer (some ⟨c, 0, none⟩))) L w.drew := fun L => hSB (Below.refl _ _).drew
  have hwr : IntKind.i64.wrap ((number : Int) + 1) = (number : Int) + 1 := IntWalk.i64_in _ (by omega)
  clear H
  go_enter Tryz.func94, Tryz.ntmps94
  go_wp2_with fail
  go_cut [5] from 27 (fun s5 wc => ∃ q vJ vC, s5 = .pointer (some ⟨q, 0, none⟩) ∧ Hid (wc.heap[q]? = some (.cells (superC (number + 1) 1 nJ nC vJ vC lastJ lastC) 230 (0, 0)) ∧ Sl wc 3 1 vJ ssJ.length (ints ssJ) ∧ Sl wc 3 1 vC ssC.length (ints ssC) ∧ Below w.heap.size w wc ∧ w.heap.size ≤ q))
  case first =>
    refine wp_region_T (TillC 21 (fun _ => True) (fun W => W.cell? ⟨e, 4, none⟩ = some (.int .i64 number) ∧ W.cell? ⟨e, 5, none⟩ = some (.int .i64 1) ∧ W.cell? ⟨e, 6, none⟩ = some (.pointer (some ⟨j, 0, none⟩)) ∧ W.cell? ⟨e, 7, none⟩ = some (.pointer (some ⟨c, 0, none⟩)))) rfl ?_
    simp only [List.size_toArray, List.length_cons, List.length_nil, Nat.reduceAdd, Array.replicate_succ, Array.replicate_zero, List.push_toArray, List.nil_append, List.cons_append]
    refine anyT_take (i := 0) (p := 1) (v := ?v1) rfl rfl (by kernel_rfl) (fun L w => TillC_set (by decide) L w) (by kernel_rfl) (by kernel_rfl) (by kernel_rfl) (by kernel_rfl) (fun _ _ _ h => h) (Or.inl ⟨by rfl, fun w hw => ?y1⟩) (hS0 _) ?r1
    case y1 => obtain ⟨L, hL, hS⟩ := hw; obtain ⟨e4, e5, e6, e7⟩ := hS.2; go_simp; (try with_reducible rfl)
    simp only [Act.put, List.setIfInBounds_toArray, List.set_cons_zero, List.set_cons_succ, List.getElem_toArray, List.getElem_cons_zero, List.getElem_cons_succ]
    refine anyT_take (i := 1) (p := 2) (v := ?v2) rfl rfl (by kernel_rfl) (fun L w => TillC_set (by decide) L w) (by kernel_rfl) (by kernel_rfl) (by kernel_rfl) (by kernel_rfl) (fun _ _ _ h => h) (Or.inl ⟨by rfl, fun w hw => ?y2⟩) (hS0 _) ?r2
    case y2 => obtain ⟨L, hL, hS⟩ := hw; obtain ⟨e4, e5, e6, e7⟩ := hS.2; go_simp; (try with_reducible rfl)
    simp only [Act.put, List.setIfInBounds_toArray, List.set_cons_zero, List.set_cons_succ, List.getElem_toArray, List.getElem_cons_zero, List.getElem_cons_succ]
    refine anyT_take (i := 2) (p := 3) (v := ?v3) rfl rfl (by kernel_rfl) (fun L w => TillC_set (by decide) L w) (by kernel_rfl) (by kernel_rfl) (by kernel_rfl) (by kernel_rfl) (fun _ _ _ h => h) (Or.inl ⟨by rfl, fun w hw => ?y3⟩) (hS0 _) ?r3
    case y3 => obtain ⟨L, hL, hS⟩ := hw; obtain ⟨e4, e5, e6, e7⟩ := hS.2; go_simp; (try with_reducible rfl)
    simp only [Act.put, List.setIfInBounds_toArray, List.set_cons_zero, List.set_cons_succ, List.getElem_toArray, List.getElem_cons_zero, List.getElem_cons_succ]
    refine anyT_take (i := 3) (p := 4) (v := ?v4) rfl rfl (by kernel_rfl) (fun L w => TillC_set (by decide) L w) (by kernel_rfl) (by kernel_rfl) (by kernel_rfl) (by kernel_rfl) (fun _ _ _ h => h) (Or.inl ⟨by rfl, fun w hw => ?y4⟩) (hS0 _) ?r4
    case y4 => obtain ⟨L, hL, hS⟩ := hw; obtain ⟨e4, e5, e6, e7⟩ := hS.2; go_simp; (try with_reducible rfl)
    simp only [Act.put, List.setIfInBounds_toArray, List.set_cons_zero, List.set_cons_succ, List.getElem_toArray, List.getElem_cons_zero, List.getElem_cons_succ]
    refine anyT_take (i := 4) (p := 19) (v := .int .i64 ((number : Int) + 1)) rfl rfl (by kernel_rfl) (fun L w => TillC_set (by decide) L w) (by kernel_rfl) (by kernel_rfl) (by kernel_rfl) (by kernel_rfl) (fun _ _ _ h => h) (Or.inl ⟨by rfl, fun w hw => ?y5⟩) (hS0 _) ?r5
    case y5 => obtain ⟨L, hL, hS⟩ := hw; obtain ⟨e4, e5, e6, e7⟩ := hS.2; go_simp; skip
    simp only [Act.put, List.setIfInBounds_toArray, List.set_cons_zero, List.set_cons_succ, List.getElem_toArray, List.getElem_cons_zero, List.getElem_cons_succ]
    refine anyT_take (i := 5) (p := 6) (v := ?v6) rfl rfl (by kernel_rfl) (fun L w => TillC_set (by decide) L w) (by kernel_rfl) (by kernel_rfl) (by kernel_rfl) (by kernel_rfl) (fun _ _ _ h => h) (Or.inl ⟨by rfl, fun w hw => ?y6⟩) (hS0 _) ?r6
    case y6 => obtain ⟨L, hL, hS⟩ := hw; obtain ⟨e4, e5, e6, e7⟩ := hS.2; go_simp; (try with_reducible rfl)
    simp only [Act.put, List.setIfInBounds_toArray, List.set_cons_zero, List.set_cons_succ, List.getElem_toArray, List.getElem_cons_zero, List.getElem_cons_succ]
    refine anyT_take (i := 6) (p := 7) (v := ?v7) rfl rfl (by kernel_rfl) (fun L w => TillC_set (by decide) L w) (by kernel_rfl) (by kernel_rfl) (by kernel_rfl) (by kernel_rfl) (fun _ _ _ h => h) (Or.inl ⟨by rfl, fun w hw => ?y7⟩) (hS0 _) ?r7
    case y7 => obtain ⟨L, hL, hS⟩ := hw; obtain ⟨e4, e5, e6, e7⟩ := hS.2; go_simp; (try with_reducible rfl)
    simp only [Act.put, List.setIfInBounds_toArray, List.set_cons_zero, List.set_cons_succ, List.getElem_toArray, List.getElem_cons_zero, List.getElem_cons_succ]
    refine anyT_take (i := 7) (p := 8) (v := ?v8) rfl rfl (by kernel_rfl) (fun L w => TillC_set (by decide) L w) (by kernel_rfl) (by kernel_rfl) (by kernel_rfl) (by kernel_rfl) (fun _ _ _ h => h) (Or.inl ⟨by rfl, fun w hw => ?y8⟩) (hS0 _) ?r8
    case y8 => obtain ⟨L, hL, hS⟩ := hw; obtain ⟨e4, e5, e6, e7⟩ := hS.2; go_simp; (try with_reducible rfl)
    simp only [Act.put, List.setIfInBounds_toArray, List.set_cons_zero, List.set_cons_succ, List.getElem_toArray, List.getElem_cons_zero, List.getElem_cons_succ]
    refine anyT_take (i := 8) (p := 19) (v := ?v9) rfl rfl (by kernel_rfl) (fun L w => TillC_set (by decide) L w) (by kernel_rfl) (by kernel_rfl) (by kernel_rfl) (by kernel_rfl) (fun _ _ _ h => h) (Or.inl ⟨by rfl, fun w hw => ?y9⟩) (hS0 _) ?r9
    case y9 => obtain ⟨L, hL, hS⟩ := hw; obtain ⟨e4, e5, e6, e7⟩ := hS.2; go_simp; (try with_reducible rfl)
    simp only [Act.put, List.setIfInBounds_toArray, List.set_cons_zero, List.set_cons_succ, List.getElem_toArray, List.getElem_cons_zero, List.getElem_cons_succ]
    refine anyT_take (i := 9) (p := 10) (v := ?v10) rfl rfl (by kernel_rfl) (fun L w => TillC_set (by decide) L w) (by kernel_rfl) (by kernel_rfl) (by kernel_rfl) (by kernel_rfl) (fun _ _ _ h => h) (Or.inl ⟨by rfl, fun w hw => ?y10⟩) (hS0 _) ?r10
    case y10 => obtain ⟨L, hL, hS⟩ := hw; obtain ⟨e4, e5, e6, e7⟩ := hS.2; go_simp; (try with_reducible rfl)
    simp only [Act.put, List.setIfInBounds_toArray, List.set_cons_zero, List.set_cons_succ, List.getElem_toArray, List.getElem_cons_zero, List.getElem_cons_succ]
    refine anyT_take (i := 10) (p := 11) (v := ?v11) rfl rfl (by kernel_rfl) (fun L w => TillC_set (by decide) L w) (by kernel_rfl) (by kernel_rfl) (by kernel_rfl) (by kernel_rfl) (fun _ _ _ h => h) (Or.inl ⟨by rfl, fun w hw => ?y11⟩) (hS0 _) ?r11
    case y11 => obtain ⟨L, hL, hS⟩ := hw; obtain ⟨e4, e5, e6, e7⟩ := hS.2; go_simp; (try with_reducible rfl)
    simp only [Act.put, List.setIfInBounds_toArray, List.set_cons_zero, List.set_cons_succ, List.getElem_toArray, List.getElem_cons_zero, List.getElem_cons_succ]
    refine anyT_take (i := 11) (p := 12) (v := ?v12) rfl rfl (by kernel_rfl) (fun L w => TillC_set (by decide) L w) (by kernel_rfl) (by kernel_rfl) (by kernel_rfl) (by kernel_rfl) (fun _ _ _ h => h) (Or.inl ⟨by rfl, fun w hw => ?y12⟩) (hS0 _) ?r12
    case y12 => obtain ⟨L, hL, hS⟩ := hw; obtain ⟨e4, e5, e6, e7⟩ := hS.2; go_simp; (try with_reducible rfl)
    simp only [Act.put, List.setIfInBounds_toArray, List.set_cons_zero, List.set_cons_succ, List.getElem_toArray, List.getElem_cons_zero, List.getElem_cons_succ]
    refine anyT_take (i := 12) (p := 13) (v := ?v13) rfl rfl (by kernel_rfl) (fun L w => TillC_set (by decide) L w) (by kernel_rfl) (by kernel_rfl) (by kernel_rfl) (by kernel_rfl) (fun _ _ _ h => h) (Or.inl ⟨by rfl, fun w hw => ?y13⟩) (hS0 _) ?r13
    case y13 => obtain ⟨L, hL, hS⟩ := hw; obtain ⟨e4, e5, e6, e7⟩ := hS.2; go_simp; (try with_reducible rfl)
    simp only [Act.put, List.setIfInBounds_toArray, List.set_cons_zero, List.set_cons_succ, List.getElem_toArray, List.getElem_cons_zero, List.getElem_cons_succ]
    refine anyT_take (i := 14) (p := 15) (v := ?v14) rfl rfl (by kernel_rfl) (fun L w => TillC_set (by decide) L w) (by kernel_rfl) (by kernel_rfl) (by kernel_rfl) (by kernel_rfl) (fun _ _ _ h => h) (Or.inl ⟨by rfl, fun w hw => ?y14⟩) (hS0 _) ?r14
    case y14 => obtain ⟨L, hL, hS⟩ := hw; obtain ⟨e4, e5, e6, e7⟩ := hS.2; go_simp; (try with_reducible rfl)
    simp only [Act.put, List.setIfInBounds_toArray, List.set_cons_zero, List.set_cons_succ, List.getElem_toArray, List.getElem_cons_zero, List.getElem_cons_succ]
    refine anyT_take (i := 15) (p := 16) (v := ?v15) rfl rfl (by kernel_rfl) (fun L w => TillC_set (by decide) L w) (by kernel_rfl) (by kernel_rfl) (by kernel_rfl) (by kernel_rfl) (fun _ _ _ h => h) (Or.inl ⟨by rfl, fun w hw => ?y15⟩) (hS0 _) ?r15
    case y15 => obtain ⟨L, hL, hS⟩ := hw; obtain ⟨e4, e5, e6, e7⟩ := hS.2; go_simp; (try with_reducible rfl)
    simp only [Act.put, List.setIfInBounds_toArray, List.set_cons_zero, List.set_cons_succ, List.getElem_toArray, List.getElem_cons_zero, List.getElem_cons_succ]
    refine anyT_take (i := 16) (p := 17) (v := ?v16) rfl rfl (by kernel_rfl) (fun L w => TillC_set (by decide) L w) (by kernel_rfl) (by kernel_rfl) (by kernel_rfl) (by kernel_rfl) (fun _ _ _ h => h) (Or.inl ⟨by rfl, fun w hw => ?y16⟩) (hS0 _) ?r16
    case y16 => obtain ⟨L, hL, hS⟩ := hw; obtain ⟨e4, e5, e6, e7⟩ := hS.2; go_simp; (try with_reducible rfl)
    simp only [Act.put, List.setIfInBounds_toArray, List.set_cons_zero, List.set_cons_succ, List.getElem_toArray, List.getElem_cons_zero, List.getElem_cons_succ]
    refine anyT_take (i := 17) (p := 18) (v := ?v17) rfl rfl (by kernel_rfl) (fun L w => TillC_set (by decide) L w) (by kernel_rfl) (by kernel_rfl) (by kernel_rfl) (by kernel_rfl) (fun _ _ _ h => h) (Or.inl ⟨by rfl, fun w hw => ?y17⟩) (hS0 _) ?r17
    case y17 => obtain ⟨L, hL, hS⟩ := hw; obtain ⟨e4, e5, e6, e7⟩ := hS.2; go_simp; (try with_reducible rfl)
    simp only [Act.put, List.setIfInBounds_toArray, List.set_cons_zero, List.set_cons_succ, List.getElem_toArray, List.getElem_cons_zero, List.getElem_cons_succ]
    refine anyT_all (rs := [13, 20]) (by kernel_rfl) (by simp) ?_
    intro jj hj
    simp only [List.mem_cons, List.not_mem_nil, or_false] at hj
    rcases hj with rfl | rfl
    · refine T_step rfl (fun K' hK => ?_)
      go_simp
      go_at_call 139
      refine (WJ.out _ (Below.refl w.heap.size w).drew).mono ?_
      rintro e1 w1 ⟨v1, rfl, hs1, hq1⟩
      have B1 : Below w.heap.size w w1 := (Below.refl w.heap.size w).drew.trans (hq1.mono (Below.refl w.heap.size w).drew.size)
      have S1 := Lib.hid hs1
      refine hK.out _ _ (hSB B1) ?_
      simp only [Act.put, List.setIfInBounds_toArray, List.set_cons_zero, List.set_cons_succ, List.getElem_toArray, List.getElem_cons_zero, List.getElem_cons_succ]
      refine anyT_all (rs := [18, 20]) (by kernel_rfl) (by simp) ?_
      intro jj hj
      simp only [List.mem_cons, List.not_mem_nil, or_false] at hj
      rcases hj with rfl | rfl
      · refine T_step rfl (fun K' hK => ?_)
        go_simp
        go_at_call 139
        refine (WC.out _ B1).mono ?_
        rintro e1 w2 ⟨v2, rfl, hs2, hq2⟩
        have B2 : Below w.heap.size w w2 := B1.trans (hq2.mono B1.size)
        have S1 := Lib.hid (S1.out.below hq2)
        have S2 := Lib.hid hs2
        refine hK.out _ _ (hSB B2) ?_
        simp only [Act.put, List.setIfInBounds_toArray, List.set_cons_zero, List.set_cons_succ, List.getElem_toArray, List.getElem_cons_zero, List.getElem_cons_succ]
        obtain ⟨pa1, pc1, rfl, -, -, -⟩ := S1.out.shape
        obtain ⟨pa2, pc2, rfl, -, -, -⟩ := S2.out.shape
        refine anyT_take (i := 19) (p := 21) (v := ?v18) rfl rfl (by kernel_rfl) (fun L w => TillC_set (by decide) L w) (by kernel_rfl) (by kernel_rfl) (by kernel_rfl) (by kernel_rfl) (fun _ _ _ h => h) (Or.inl ⟨by rfl, fun w hw => ?y18⟩) (hSB B2) ?r18
        case y18 => obtain ⟨L, hL, hS⟩ := hw; obtain ⟨e4, e5, e6, e7⟩ := hS.2; go_simp; (try with_reducible rfl)
        simp only [Act.put, List.setIfInBounds_toArray, List.set_cons_zero, List.set_cons_succ, List.getElem_toArray, List.getElem_cons_zero, List.getElem_cons_succ]
        refine anyT_all (rs := [20]) (by kernel_rfl) (by simp) ?_
        intro jj hj
        simp only [List.mem_singleton] at hj
        subst hj
        refine T_step rfl (fun K' hK => ?_)
        go_simp
        refine hK.out _ _ (hSB (B2.alloc B2.size _)) ?_
        simp only [Act.put, List.setIfInBounds_toArray, List.set_cons_zero, List.set_cons_succ, List.getElem_toArray, List.getElem_cons_zero, List.getElem_cons_succ]
        have Q2 : (w2.alloc (.cells supZ 230)).heap[w2.heap.size]? = some (.cells supZ 230 (0, 0)) := heap_new _ _
        have Q3 := Q2
        unfold supZ at Q3
        have z0 := cellAt Q3 0
        have f0 := frozenAt Q3 0
        have z1 := cellAt Q3 1
        have f1 := frozenAt Q3 1
        have z2 := cellAt Q3 2
        have f2 := frozenAt Q3 2
        have z3 := cellAt Q3 3
        have f3 := frozenAt Q3 3
        have z4 := cellAt Q3 4
        have f4 := frozenAt Q3 4
        have z5 := cellAt Q3 5
        have f5 := frozenAt Q3 5
        have z6 := cellAt Q3 6
        have f6 := frozenAt Q3 6
        have z7 := cellAt Q3 7
        have f7 := frozenAt Q3 7
        refine anyT_all (rs := [21]) (by kernel_rfl) (by simp) ?_
        intro jj hj
        simp only [List.mem_singleton] at hj
        subst hj
        refine T_step rfl (fun K' hK => ?_)
        go_simp
        refine hK.out _ _ (hSB (B2.alloc B2.size _)) ?_
        simp only [Act.put, List.setIfInBounds_toArray, List.set_cons_zero, List.set_cons_succ, List.getElem_toArray, List.getElem_cons_zero, List.getElem_cons_succ]
        refine anyT_done (by kernel_rfl) ?_ _
        go_wp2_with fail
        go_meet
        case rel => exact ⟨_, _, _, rfl, Lib.hid ⟨heap_new _ _, S1.out.below (crc_below _ _), S2.out.below (crc_below _ _), B2.alloc B2.size _, B2.size⟩⟩
      · refine T_step rfl (fun K' hK => ?_)
        go_simp
        refine hK.out _ _ (hSB (B1.alloc B1.size _)) ?_
        simp only [Act.put, List.setIfInBounds_toArray, List.set_cons_zero, List.set_cons_succ, List.getElem_toArray, List.getElem_cons_zero, List.getElem_cons_succ]
        refine anyT_all (rs := [18]) (by kernel_rfl) (by simp) ?_
        intro jj hj
        simp only [List.mem_singleton] at hj
        subst hj
        refine T_step rfl (fun K' hK => ?_)
        go_simp
        go_at_call 139
        refine (WC.out _ (show Below w.heap.size w (w1.alloc (.cells supZ 230)) from B1.alloc B1.size _)).mono ?_
        rintro e1 w2 ⟨v2, rfl, hs2, hq2⟩
        have B2 : Below w.heap.size w w2 := (show Below w.heap.size w (w1.alloc (.cells supZ 230)) from B1.alloc B1.size _).trans (hq2.mono (show Below w.heap.size w (w1.alloc (.cells supZ 230)) from B1.alloc B1.size _).size)
        have S1 := Lib.hid (S1.out.below ((crc_below w1 (.cells supZ 230)).trans (hq2.mono (crc_below w1 (.cells supZ 230)).size)))
        have S2 := Lib.hid hs2
        refine hK.out _ _ (hSB B2) ?_
        simp only [Act.put, List.setIfInBounds_toArray, List.set_cons_zero, List.set_cons_succ, List.getElem_toArray, List.getElem_cons_zero, List.getElem_cons_succ]
        have B3 := Lib.hid B2
        have hqe : w.heap.size ≤ w1.heap.size := B1.size
        have Q2 : w2.heap[w1.heap.size]? = some (.cells supZ 230 (0, 0)) := Below.heap hq2 (Nat.le_refl _) (heap_new w1 (.cells supZ 230))
        obtain ⟨pa1, pc1, rfl, -, -, -⟩ := S1.out.shape
        obtain ⟨pa2, pc2, rfl, -, -, -⟩ := S2.out.shape
        have Q3 := Q2
        unfold supZ at Q3
        have z0 := cellAt Q3 0
        have f0 := frozenAt Q3 0
        have z1 := cellAt Q3 1
        have f1 := frozenAt Q3 1
        have z2 := cellAt Q3 2
        have f2 := frozenAt Q3 2
        have z3 := cellAt Q3 3
        have f3 := frozenAt Q3 3
        have z4 := cellAt Q3 4
        have f4 := frozenAt Q3 4
        have z5 := cellAt Q3 5
        have f5 := frozenAt Q3 5
        have z6 := cellAt Q3 6
        have f6 := frozenAt Q3 6
        have z7 := cellAt Q3 7
        have f7 := frozenAt Q3 7
        refine anyT_take (i := 19) (p := 21) (v := ?v19) rfl rfl (by kernel_rfl) (fun L w => TillC_set (by decide) L w) (by kernel_rfl) (by kernel_rfl) (by kernel_rfl) (by kernel_rfl) (fun _ _ _ h => h) (Or.inl ⟨by rfl, fun w hw => ?y19⟩) (hSB B3.out) ?r19
        case y19 => obtain ⟨L, hL, hS⟩ := hw; obtain ⟨e4, e5, e6, e7⟩ := hS.2; go_simp; (try with_reducible rfl)
        simp only [Act.put, List.setIfInBounds_toArray, List.set_cons_zero, List.set_cons_succ, List.getElem_toArray, List.getElem_cons_zero, List.getElem_cons_succ]
        refine anyT_all (rs := [21]) (by kernel_rfl) (by simp) ?_
        intro jj hj
        simp only [List.mem_singleton] at hj
        subst hj
        refine T_step rfl (fun K' hK => ?_)
        go_simp
        refine hK.out _ _ (hSF.out _ _ _ _ (Lib.hid (slot_box Q2 _ _ _ _ _ _ _ _).2) B3.out hqe) ?_
        simp only [Act.put, List.setIfInBounds_toArray, List.set_cons_zero, List.set_cons_succ, List.getElem_toArray, List.getElem_cons_zero, List.getElem_cons_succ]
        refine anyT_done (by kernel_rfl) ?_ _
        go_wp2_with fail
        go_meet
        case rel => exact ⟨_, _, _, rfl, Lib.hid (slot_fin S1.out S2.out Q2 B3.out hqe)⟩
    · refine T_step rfl (fun K' hK => ?_)
      go_simp
      refine hK.out _ _ (hSB (show Below w.heap.size w (w.alloc (.cells supZ 230)).drew from (crc_below _ _).drew)) ?_
      simp only [Act.put, List.setIfInBounds_toArray, List.set_cons_zero, List.set_cons_succ, List.getElem_toArray, List.getElem_cons_zero, List.getElem_cons_succ]
      refine anyT_all (rs := [13]) (by kernel_rfl) (by simp) ?_
      intro jj hj
      simp only [List.mem_singleton] at hj
      subst hj
      refine T_step rfl (fun K' hK => ?_)
      go_simp
      go_at_call 139
      refine (WJ.out _ (show Below w.heap.size w (w.alloc (.cells supZ 230)).drew from (crc_below _ _).drew)).mono ?_
      rintro e1 w1 ⟨v1, rfl, hs1, hq1⟩
      have B1 : Below w.heap.size w w1 := (show Below w.heap.size w (w.alloc (.cells supZ 230)).drew from (crc_below _ _).drew).trans (hq1.mono (show Below w.heap.size w (w.alloc (.cells supZ 230)).drew from (crc_below _ _).drew).size)
      have S1 := Lib.hid hs1
      refine hK.out _ _ (hSB B1) ?_
      simp only [Act.put, List.setIfInBounds_toArray, List.set_cons_zero, List.set_cons_succ, List.getElem_toArray, List.getElem_cons_zero, List.getElem_cons_succ]
      refine anyT_all (rs := [18]) (by kernel_rfl) (by simp) ?_
      intro jj hj
      simp only [List.mem_singleton] at hj
      subst hj
      refine T_step rfl (fun K' hK => ?_)
      go_simp
      go_at_call 139
      refine (WC.out _ B1).mono ?_
      rintro e1 w2 ⟨v2, rfl, hs2, hq2⟩
      have B2 : Below w.heap.size w w2 := B1.trans (hq2.mono B1.size)
      have S1 := Lib.hid (S1.out.below hq2)
      have S2 := Lib.hid hs2
      refine hK.out _ _ (hSB B2) ?_
      simp only [Act.put, List.setIfInBounds_toArray, List.set_cons_zero, List.set_cons_succ, List.getElem_toArray, List.getElem_cons_zero, List.getElem_cons_succ]
      have B3 := Lib.hid B2
      have hqe : w.heap.size ≤ w.heap.size := Nat.le_refl _
      have Q2 : w2.heap[w.heap.size]? = some (.cells supZ 230 (0, 0)) := Below.heap hq2 (Nat.le_refl _) (Below.heap hq1 (Nat.le_refl _) (show (w.alloc (.cells supZ 230)).drew.heap[w.heap.size]? = _ from heap_new w _))
      obtain ⟨pa1, pc1, rfl, -, -, -⟩ := S1.out.shape
      obtain ⟨pa2, pc2, rfl, -, -, -⟩ := S2.out.shape
      have Q3 := Q2
      unfold supZ at Q3
      have z0 := cellAt Q3 0
      have f0 := frozenAt Q3 0
      have z1 := cellAt Q3 1
      have f1 := frozenAt Q3 1
      have z2 := cellAt Q3 2
      have f2 := frozenAt Q3 2
      have z3 := cellAt Q3 3
      have f3 := frozenAt Q3 3
      have z4 := cellAt Q3 4
      have f4 := frozenAt Q3 4
      have z5 := cellAt Q3 5
      have f5 := frozenAt Q3 5
      have z6 := cellAt Q3 6
      have f6 := frozenAt Q3 6
      have z7 := cellAt Q3 7
      have f7 := frozenAt Q3 7
      refine anyT_take (i := 19) (p := 21) (v := ?v20) rfl rfl (by kernel_rfl) (fun L w => TillC_set (by decide) L w) (by kernel_rfl) (by kernel_rfl) (by kernel_rfl) (by kernel_rfl) (fun _ _ _ h => h) (Or.inl ⟨by rfl, fun w hw => ?y20⟩) (hSB B3.out) ?r20
      case y20 => obtain ⟨L, hL, hS⟩ := hw; obtain ⟨e4, e5, e6, e7⟩ := hS.2; go_simp; (try with_reducible rfl)
      simp only [Act.put, List.setIfInBounds_toArray, List.set_cons_zero, List.set_cons_succ, List.getElem_toArray, List.getElem_cons_zero, List.getElem_cons_succ]
      refine anyT_all (rs := [21]) (by kernel_rfl) (by simp) ?_
      intro jj hj
      simp only [List.mem_singleton] at hj
      subst hj
      refine T_step rfl (fun K' hK => ?_)
      go_simp
      refine hK.out _ _ (hSF.out _ _ _ _ (Lib.hid (slot_box Q2 _ _ _ _ _ _ _ _).2) B3.out hqe) ?_
      simp only [Act.put, List.setIfInBounds_toArray, List.set_cons_zero, List.set_cons_succ, List.getElem_toArray, List.getElem_cons_zero, List.getElem_cons_succ]
      refine anyT_done (by kernel_rfl) ?_ _
      go_wp2_with fail
      go_meet
      case rel => exact ⟨_, _, _, rfl, Lib.hid (slot_fin S1.out S2.out Q2 B3.out hqe)⟩
  case rest =>
    obtain ⟨q, vJ, vC, rfl, hb⟩ := hcut
    obtain ⟨hq, hJ, hC, hB, hqw⟩ := hb.out
    obtain ⟨pa1, pc1, rfl, -, -, -⟩ := hJ.shape
    obtain ⟨pa2, pc2, rfl, -, -, -⟩ := hC.shape
    have hcast : ((number + 1 : Nat) : Int) = (number : Int) + 1 := rfl
    have WR : Hid (∀ W, Below wc.heap.size wc W → Calls Tryz.prog 140 #[.pointer (some ⟨d, 0, none⟩), .int .i64 slot, .agg #[.int .i64 ((number : Int) + 1), .int .i64 1, .slice pa1 ssJ.length pc1, .int .i64 nJ, .int .u32 lastJ, .slice pa2 ssC.length pc2, .int .i64 nC, .int .u32 lastC]] W fun e w' => e = .returned (.int .i64 0) ∧ DiskAt w' d l cb 776 (k + 4) ∧ Frame [d, cb] W w') := Lib.hid (fun W hW => by rw [← hcast]; exact superWrite_any W d l cb k slot ((HH.out.disk.below hB).below hW) hk hs (number + 1) 1 nJ nC ssJ ssC _ _ lastJ lastC (HH.out.superOk (number + 1) hn) (hJ.below hW) (hC.below hW))
    unfold superC at hq
    have z0 := cellAt hq 0
    have z1 := cellAt hq 1
    have z2 := cellAt hq 2
    have z3 := cellAt hq 3
    have z4 := cellAt hq 4
    have z5 := cellAt hq 5
    have z6 := cellAt hq 6
    have z7 := cellAt hq 7
    have ec : wc.heap[e]? = _ := Below.heap hB (Nat.le_refl _) HH.out.cell
    have HE := Lib.hid ec
    have HBB := Lib.hid hB
    have hed := cells_ty HH.out.cell HH.out.disk.cell.choose_spec (by decide)
    have hne : e ∉ [d, cb] ∧ e ∉ [d, l, cb] := by
      obtain ⟨ops, hd0⟩ := HH.out.disk.cell
      obtain ⟨lr, hl0, -⟩ := HH.out.disk.row
      obtain ⟨mn, mf, hm0, -⟩ := HH.out.disk.map
      have h2 : e ≠ d := cells_ty HH.out.cell hd0 (by decide)
      have h3 : e ≠ l := cells_ty HH.out.cell hl0 (by decide)
      have h4 : e ≠ cb := fun h => hm0.cells (by have := HH.out.cell; rw [h] at this; exact this)
      simp [h2, h3, h4]
    have HNE := Lib.hid hne
    have HQ := Lib.hid hq
    have hqd : q ∉ [d, cb] := by
      have h1 : d < w.heap.size ∧ l < w.heap.size ∧ cb < w.heap.size := HH.out.disk.lt
      simp only [List.mem_cons, List.not_mem_nil, or_false]
      omega
    have CELLS : Hid (∀ W : World, W.heap[e]? = wc.heap[e]? → W.heap[q]? = wc.heap[q]? → W.cell? ⟨e, 0, none⟩ = some (.pointer (some ⟨d, 0, none⟩)) ∧ W.cell? ⟨q, 0, none⟩ = some (.int .i64 ((number : Int) + 1)) ∧ W.cell? ⟨q, 1, none⟩ = some (.int .i64 1) ∧ W.cell? ⟨q, 2, none⟩ = some (.slice pa1 ssJ.length pc1) ∧ W.cell? ⟨q, 3, none⟩ = some (.int .i64 nJ) ∧ W.cell? ⟨q, 4, none⟩ = some (.int .u32 lastJ) ∧ W.cell? ⟨q, 5, none⟩ = some (.slice pa2 ssC.length pc2) ∧ W.cell? ⟨q, 6, none⟩ = some (.int .i64 nC) ∧ W.cell? ⟨q, 7, none⟩ = some (.int .u32 lastC)) := Lib.hid (fun W h1 h2 => by
      have h3 := h1.trans HE.out
      have h4 := h2.trans HQ.out
      exact ⟨cellAt h3 0, cellAt h4 0, cellAt h4 1, cellAt h4 2, cellAt h4 3, cellAt h4 4, cellAt h4 5, cellAt h4 6, cellAt h4 7⟩)
    have KB : Hid (∀ W : World, Frame [d, cb] wc W → W.cell? ⟨e, 0, none⟩ = some (.pointer (some ⟨d, 0, none⟩)) ∧ W.cell? ⟨q, 0, none⟩ = some (.int .i64 ((number : Int) + 1)) ∧ W.cell? ⟨q, 1, none⟩ = some (.int .i64 1) ∧ W.cell? ⟨q, 2, none⟩ = some (.slice pa1 ssJ.length pc1) ∧ W.cell? ⟨q, 3, none⟩ = some (.int .i64 nJ) ∧ W.cell? ⟨q, 4, none⟩ = some (.int .u32 lastJ) ∧ W.cell? ⟨q, 5, none⟩ = some (.slice pa2 ssC.length pc2) ∧ W.cell? ⟨q, 6, none⟩ = some (.int .i64 nC) ∧ W.cell? ⟨q, 7, none⟩ = some (.int .u32 lastC)) := Lib.hid (fun W hW => CELLS.out W (hW.block e (heap_lt HE.out) HNE.out.1) (hW.block q (heap_lt HQ.out) hqd))
    have R0 : Hid (Frame [d, cb] wc wc.drew) := Lib.hid (Frame.of_below (Below.refl _ _).drew _)
    clear hq hJ hC hB hb ec hed hne c0 c3 c4 c5 c6 c7 hSB hSF hS0 WJ WC hqd z0 z1 z2 z3 z4 z5 z6 z7
    go_wp2_with fail
    go_region_held3 (fun W => W.cell? ⟨e, 0, none⟩ = some (.pointer (some ⟨d, 0, none⟩)) ∧ W.cell? ⟨q, 0, none⟩ = some (.int .i64 ((number : Int) + 1)) ∧ W.cell? ⟨q, 1, none⟩ = some (.int .i64 1) ∧ W.cell? ⟨q, 2, none⟩ = some (.slice pa1 ssJ.length pc1) ∧ W.cell? ⟨q, 3, none⟩ = some (.int .i64 nJ) ∧ W.cell? ⟨q, 4, none⟩ = some (.int .u32 lastJ) ∧ W.cell? ⟨q, 5, none⟩ = some (.slice pa2 ssC.length pc2) ∧ W.cell? ⟨q, 6, none⟩ = some (.int .i64 nC) ∧ W.cell? ⟨q, 7, none⟩ = some (.int .u32 lastC)) (first | exact KB.out _ R0.out | exact KB.out _ HF1.out) ((go_at_call 140; with_reducible refine (WR.out _ (Below.refl _ _).drew).mono ?_; rintro e1 w1 ⟨rfl, hd1, hf1⟩; have HD1 := Lib.hid hd1; have HF1 : Hid (Frame [d, cb] wc w1) := Lib.hid (R0.out.trans hf1 (fun _ h => .inl h)); clear hd1 hf1))
    have he1 := HF1.out.heap HE.out HNE.out.1
    have x0 := cellAt he1 0
    have FL : Hid (Calls Tryz.prog 124 #[.pointer (some ⟨d, 0, none⟩)] w1 fun e w' => e = .returned (.int .i64 0) ∧ DiskAt w' d l cb 776 0 ∧ Frame [d, l, cb] w1 w') := Lib.hid (flush_any w1 d l cb 776 (k + 4) HD1.out)
    have HE1 := Lib.hid he1
    clear he1
    go_wp2_with ((go_at_call 124; with_reducible refine FL.out.mono ?_; rintro e1 w2 ⟨rfl, hd2, hf2⟩; have HD2 := Lib.hid hd2; have HF2 := Lib.hid hf2; have HE2 := Lib.hid (hf2.heap HE1.out HNE.out.2); clear hd2 hf2; have x4 := cellAt HE2.out 4; have x4f := frozenAt HE2.out 4))
    refine bodyPost_ret (v := .int .i64 0) (by simp [results, Tryz.results94, go_sem]) rfl ?_
    have hf0 : Frame [e, d, l, cb] w wc := Frame.of_below HBB.out _
    have hf1 : Frame [e, d, l, cb] w w1 := hf0.trans HF1.out (fun x hx => .inl (by simp at hx ⊢; omega))
    have hf2 : Frame [e, d, l, cb] w w2 := hf1.trans HF2.out (fun x hx => .inl (by simp at hx ⊢; omega))
    have hf3 : Frame [e, d, l, cb] w (w2.setCell ⟨e, 4, none⟩ (.int .i64 ((number : Int) + 1))) := hf2.setCell (.inl (by simp)) _
    refine ⟨rfl, HH.out.turn (number + 1) 0 hf3 (HD2.out.frame (frame_setCell _ ⟨e, 4, none⟩ _) (by simpa using fun h : d = e => HNE.out.2 (by simp [h])) (by simpa using fun h : l = e => HNE.out.2 (by simp [h])) (by simpa using fun h : cb = e => HNE.out.2 (by simp [h]))) ?_, hf3⟩
    exact (setAt HE2.out 4 _).trans (by simp)
end Go.Proofs.YtaonlcgneemimaaGreatDoor
namespace Go.Proofs.YtaonlcgneemimaaGreatDoor
open Go.RowKit
set_option maxRecDepth 100000 in
set_option maxHeartbeats 2000000 in
theorem slots_any (w : World) (e : Nat) (x : EngX) (H : EngAt w e x) (hn : x.number + 2 ≤ 2147483647) (hk : x.k ≤ 900000) :
    Calls Tryz.prog 47 #[.pointer (some ⟨e, 0, none⟩)] w fun e' w' => e' = .returned (.int .i64 0) ∧ EngAt w' e { x with number := x.number + 2, k := 0 } ∧ Frame [e, x.d, x.l, x.cb] w w' := by
  have HH := Lib.hid H
  obtain ⟨c0, c3, c4, c5, c6, c7⟩ := cell5 H.cell
  have S0 : Hid (Calls Tryz.prog 94 #[.pointer (some ⟨e, 0, none⟩), .int .i64 0] w fun e' w' => e' = .returned (.int .i64 0) ∧ EngAt w' e { x with number := x.number + 1, k := 0 } ∧ Frame [e, x.d, x.l, x.cb] w w') := Lib.hid (slot_any w e x H 0 (by decide) (by omega) hk)
  have S1 : Hid (∀ w1, EngAt w1 e { x with number := x.number + 1, k := 0 } → Calls Tryz.prog 94 #[.pointer (some ⟨e, 0, none⟩), .int .i64 1] w1 fun e' w' => e' = .returned (.int .i64 0) ∧ EngAt w' e { x with number := x.number + 2, k := 0 } ∧ Frame [e, x.d, x.l, x.cb] w1 w') := Lib.hid (fun w1 h1 => slot_any w1 e { x with number := x.number + 1, k := 0 } h1 1 (by decide) (by simp only; omega) (by simp only; omega))
  clear H hn hk
  go_enter Tryz.func47, Tryz.ntmps47
  go_wp2_with (first | (go_at_call 94; with_reducible refine S0.out.mono ?_; rintro e1 w1 ⟨rfl, h1, hf1⟩; have H1 := Lib.hid h1; have F1 := Lib.hid hf1; have z3 := (cell5 h1.cell).2.1; clear h1 hf1) | (go_at_call 94; with_reducible refine (S1.out w1 H1.out).mono ?_; rintro e1 w2 ⟨rfl, h2, hf2⟩; have H2 := Lib.hid h2; have F2 := Lib.hid hf2; clear h2 hf2))
  refine bodyPost_ret (v := .int .i64 0) (by simp [results, Tryz.results47, go_sem]) rfl ?_
  exact ⟨rfl, H2.out, F1.out.trans F2.out (fun _ h => .inl h)⟩
/-- What Format leaves. -/
structure FormatPost (w : World) (d l cb : Nat) (eb : Nat) (x : EngX) (w' : World) : Prop where
  eng : EngAt w' eb x
  fr : Frame [d, l, cb] w w'
  ed : x.d = d
  el : x.l = l
  ec : x.cb = cb
  number : x.number = 2
  k : x.k = 0
  ssJ : x.ssJ = []
  ssC : x.ssC = []
  nJ : x.nJ = 0
  nC : x.nC = 0
  own : ∀ y ∈ x.mut eb, y = d ∨ y = l ∨ y = cb ∨ w.heap.size ≤ y
  b : w.heap.size ≤ x.b
set_option maxRecDepth 100000 in
set_option maxHeartbeats 2000000 in
theorem format_any (w : World) (d l cb k : Nat) (HD : DiskAt w d l cb 776 k) (hk : k ≤ 900000) :
    Calls Tryz.prog 19 #[.pointer (some ⟨d, 0, none⟩)] w fun e w' => ∃ (eb : Nat) (x : EngX), e = .returned (.tuple #[.pointer (some ⟨eb, 0, none⟩), .int .i64 0]) ∧ FormatPost w d l cb eb x w' := by
  have B := Lib.hid (begun_any w d l cb k HD)
  have SL : Hid (∀ w1 e x, EngAt w1 e x → x.number = 0 → x.k ≤ 900000 → Calls Tryz.prog 47 #[.pointer (some ⟨e, 0, none⟩)] w1 fun e' w' => e' = .returned (.int .i64 0) ∧ EngAt w' e { x with number := x.number + 2, k := 0 } ∧ Frame [e, x.d, x.l, x.cb] w1 w') := Lib.hid (fun w1 e x h h0 h1 => slots_any w1 e x h (by omega) h1)
  clear HD
  go_enter Tryz.func19, Tryz.ntmps19
  go_wp2_with (first | (go_at_call 46; with_reducible refine B.out.mono ?_; rintro e1 w1 ⟨eb, x, rfl, h1⟩; have H1 := Lib.hid h1; clear h1) | (go_at_call 47; with_reducible refine (SL.out w1 eb x H1.out.1 H1.out.2.2.2.2.2.2.1 (by rw [H1.out.2.2.2.2.2.1]; exact hk)).mono ?_; rintro e1 w2 ⟨rfl, h2, hf2⟩; have H2 := Lib.hid h2; have F2 := Lib.hid hf2; clear h2 hf2))
  refine bodyPost_ret (v := .tuple #[.pointer (some ⟨eb, 0, none⟩), .int .i64 0]) (by simp [results, Tryz.results19, go_sem]) rfl ?_
  obtain ⟨h1, hb, h3, h4, h5, h6, h7, h8, h9, h10, h11, h12, h13⟩ := H1.out
  refine ⟨eb, _, rfl, H2.out, ?_, h3, h4, h5, by simp [h7], rfl, h8, h9, h10, h11, h12, h13⟩
  refine (Frame.of_below hb _).trans F2.out (fun y hy => ?_)
  simp only [List.mem_cons, List.not_mem_nil, or_false] at hy ⊢
  rcases hy with rfl | rfl | rfl | rfl
  · rcases h12 y (by simp [EngX.mut]) with h | h | h | h
    · exact .inl (.inl h)
    · exact .inl (.inr (.inl h))
    · exact .inl (.inr (.inr h))
    · exact .inr h
  · exact .inl (.inl h3)
  · exact .inl (.inr (.inl h4))
  · exact .inl (.inr (.inr h5))
end Go.Proofs.YtaonlcgneemimaaGreatDoor
namespace Go.Proofs.YtaonlcgneemimaaGreatDoor
open Go.RowKit
theorem Took.trans {bs bs' bs'' : List Bool} {m1 m2 : List Int} (h : Took bs m1 bs') (k : Took bs' m2 bs'') : Took bs (m1 ++ m2) bs'' := by
  have hfalse : ∀ s ∈ m2, 0 ≤ s ∧ s < bs.length ∧ bs[s.toNat]? = some false ∧ s ∉ m1 := fun s hs => by
    obtain ⟨h1, h2, h3⟩ := k.mem s hs
    rw [h.len] at h2
    have hlt : s.toNat < bs.length := by omega
    have hnot : ¬ (bs[s.toNat]? = some true ∨ ((s.toNat : Nat) : Int) ∈ m1) := fun hc => by
      have := (h.set s.toNat hlt).2 hc
      rw [h3] at this
      cases this
    have he : ((s.toNat : Nat) : Int) = s := by omega
    rw [he] at hnot
    refine ⟨h1, h2, ?_, fun hm => hnot (.inr hm)⟩
    rcases bool_cases hlt with hb | hb
    · exact absurd (.inl hb) hnot
    · exact hb
  refine ⟨k.len.trans h.len, fun s hs => ?_, ?_, fun i hi => ?_, ?_⟩
  · rcases List.mem_append.1 hs with h1 | h1
    · exact h.mem s h1
    · exact ⟨(hfalse s h1).1, (hfalse s h1).2.1, (hfalse s h1).2.2.1⟩
  · rw [List.nodup_append]
    exact ⟨h.nodup, k.nodup, fun x hx y hy hxy => (hfalse y hy).2.2.2 (hxy ▸ hx)⟩
  · rw [k.set i (by rw [h.len]; exact hi), h.set i hi, List.mem_append, or_assoc]
  · have := h.fr
    have := k.fr
    simp only [List.length_append]
    omega
theorem needN_add (m n k1 k2 : Nat) (h : n ≤ 8 * m) : needN m n (k1 + k2) = needN m n k1 + needN (m + needN m n k1) (n + k1) k2 := by
  unfold needN
  omega
theorem RowsB.frame {M : List Nat} {w w' : World} {lv : Value} {ls : List (List Int)} (h : RowsB w lv ls) (hf : Frame M w w') (h33 : ∀ g ∈ M, lv.ownBlock ≠ some g) (h5 : ∀ g ∈ M, ∀ arr, w.heap[g]? ≠ some (.cells arr 5 (0, 0))) : RowsB w' lv ls := by
  obtain ⟨vs, h1, h2⟩ := h
  refine ⟨vs, h1.same (fun g off cap hg => ?_), fun i v l hv hl => (h2 i v l hv hl).frame hf h5⟩
  subst hg
  rcases h1.2.2 with h0 | ⟨g1, off1, cap1, arr, e1, -, -, -, e5, -⟩
  · exact absurd h0.1 (by simp)
  · simp only [Value.slice.injEq, Option.some.injEq, Addr.mk.injEq, and_true, true_and] at e1
    obtain ⟨⟨rfl, -⟩, -⟩ := e1
    exact hf.block g (heap_lt e5) (fun hg => h33 g hg (by simp [Value.ownBlock]))
theorem RowsB.lt {w : World} {lv : Value} {ls : List (List Int)} (h : RowsB w lv ls) : ∀ g, lv.ownBlock = some g → ∃ arr, w.heap[g]? = some (.cells arr 33 (0, 0)) := by
  obtain ⟨vs, h1, -⟩ := h
  intro g hg
  rcases h1.2.2 with h0 | ⟨g1, off1, cap1, arr, e1, -, -, -, e5, -⟩
  · rw [h0.1] at hg
    simp [Value.ownBlock] at hg
  · rw [e1] at hg
    simp only [Value.ownBlock, Option.some.injEq] at hg
    subst hg
    exact ⟨arr, e5⟩
/-- Between two rounds of put. -/
structure PutI (w wr : World) (a d l cb b g k n : Nat) (sv : Value) (ss : List Int) (bs : List Bool) (T : Nat) (sv' : Value) (more : List Int) (bs' : List Bool) (last' : Int) : Prop where
  log : LogAt wr a d sv' (ss ++ more) (n + T) last'
  disk : DiskAt wr d l cb 776 (k + T)
  space : SpaceAt wr 0 b g bs'
  took : Took bs more bs'
  need : more.length = needN ss.length n T
  fr : Frame (a :: g :: d :: cb :: sv.ownBlock.toList) w wr
  own : sv'.ownBlock = sv.ownBlock ∨ ∀ j ∈ sv'.ownBlock.toList, w.heap.size ≤ j
theorem PutI.start {w : World} {a d l cb b g k n : Nat} {sv : Value} {ss : List Int} {bs : List Bool} {last : Int} (HL : LogAt w a d sv ss n last) (HD : DiskAt w d l cb 776 k) (HS : SpaceAt w 0 b g bs) : PutI w w a d l cb b g k n sv ss bs 0 sv [] bs last :=
  ⟨by simpa using HL, HD, HS, Took.nil bs, by have := HL.len; simp [needN]; omega, Frame.refl _ _, .inl rfl⟩
theorem PutI.step {w wr w2 : World} {a d l cb b g k n : Nat} {sv : Value} {ss : List Int} {bs : List Bool} {T : Nat} {sv' : Value} {more : List Int} {bs' : List Bool} {last' : Int} {p : List Int} {e : Ending} (hn : n ≤ 8 * ss.length)
    (h : PutI w wr a d l cb b g k n sv ss bs T sv' more bs' last') (k2 : AppPost wr a d l cb b g (k + T) (n + T) sv' (ss ++ more) bs' p e w2) : e = .returned (.int .i64 0) ∧ ∃ sv2 more2 bs2 last2, PutI w w2 a d l cb b g k n sv ss bs (T + manyN p.length) sv2 more2 bs2 last2 := by
  obtain ⟨rfl, sv2, more2, bs2, last2, h1, h2, h3, h4, h5, h6, h7⟩ := k2
  refine ⟨rfl, sv2, more ++ more2, bs2, last2, ?_, ?_, h3, h.took.trans h4, ?_, ?_, ?_⟩
  · rw [← List.append_assoc, ← Nat.add_assoc]
    exact h1
  · rw [← Nat.add_assoc]
    exact h2
  · rw [needN_add _ _ _ _ hn, List.length_append, h5, h.need, List.length_append, h.need]
  · refine h.fr.trans h6 (fun x hx => ?_)
    simp only [List.mem_cons, Option.mem_toList] at hx ⊢
    rcases hx with rfl | rfl | rfl | rfl | hx
    · exact .inl (.inl rfl)
    · exact .inl (.inr (.inl rfl))
    · exact .inl (.inr (.inr (.inl rfl)))
    · exact .inl (.inr (.inr (.inr (.inl rfl))))
    · rcases h.own with ho | ho
      · exact .inl (.inr (.inr (.inr (.inr (ho ▸ hx)))))
      · exact .inr (ho x (by simpa using hx))
  · rcases h7 with h7 | h7
    · rcases h.own with ho | ho
      · exact .inl (h7.trans ho)
      · exact .inr (fun j hj => ho j (h7 ▸ hj))
    · exact .inr (fun j hj => Nat.le_trans h.fr.size (h7 j hj))
/-- What a frame of this kind leaves of a row of rows. -/
theorem PutI.ty {w wr : World} {a d l cb b g k n : Nat} {sv : Value} {ss : List Int} {bs : List Bool} {last : Int} {T : Nat} {sv' : Value} {more : List Int} {bs' : List Bool} {last' : Int} (_h : PutI w wr a d l cb b g k n sv ss bs T sv' more bs' last') (HL : LogAt w a d sv ss n last) (HD : DiskAt w d l cb 776 k) (HS : SpaceAt w 0 b g bs) :
    ∀ x ∈ a :: g :: d :: cb :: sv.ownBlock.toList, ∀ arr t, w.heap[x]? = some (.cells arr t (0, 0)) → t = 227 ∨ t = 4 ∨ t = 64 ∨ t = 3 := by
  obtain ⟨ops, hd⟩ := HD.cell
  obtain ⟨mn, mf, hm, -⟩ := HD.map
  obtain ⟨ga, hg⟩ := HS.row
  intro x hx arr t hc
  simp only [List.mem_cons, Option.mem_toList] at hx
  rcases hx with rfl | rfl | rfl | rfl | hx
  · rw [HL.cell] at hc; injection hc with hc; injection hc with _ h2; simp [← h2]
  · rw [hg] at hc; injection hc with hc; injection hc with _ h2; simp [← h2]
  · rw [hd] at hc; injection hc with hc; injection hc with _ h2; simp [← h2]
  · exact absurd hc hm.cells
  · obtain ⟨ar, ha⟩ := own_heap HL.segs hx
    rw [ha] at hc; injection hc with hc; injection hc with _ h2; simp [← h2]
end Go.Proofs.YtaonlcgneemimaaGreatDoor
