/- TopNames: the contracts of M4, D6, T1, T2, T3, T4, T5; no condition. -/
import Derived.Test.YtaonlcgneemimaaGreatDoorJ13
import Derived.Maps.RangeWalk
import Derived.Deep.Cut
import Derived.Test.YtaonlcgneemimaaGreatDoorJ11
import Derived.Test.YtaonlcgneemimaaGreatDoorJ06
namespace Go.Proofs.YtaonlcgneemimaaGreatDoor
open Go.RowKit
open Go.Maps (Keyed)
variable {P : Program} {k e t : TypeId} {α : Type}
/-- Every key's value is one of K's. -/
def KeyInv (K : KeyKind P k α) : Prop := ∀ key kl, keyOf P k key = some kl → ∃ x, K.good x ∧ key = K.enc x ∧ kl = K.lit x
theorem KI_inv : KeyInv KI := fun key kl h => by
  obtain ⟨x, rfl, rfl, hw⟩ := Maps.keyOf_int_inv Tryz.underlying3 h
  exact ⟨x, hw, rfl, rfl⟩
theorem KU_inv : KeyInv KU := fun key kl h => by
  obtain ⟨x, rfl, rfl, hw⟩ := Maps.keyOf_int_inv Tryz.underlying128 h
  exact ⟨x, hw, rfl, rfl⟩
/-- A range over a map, under way. -/
def RangeX (K : KeyKind P k α) (w : World) (b r n : Nat) (f : α → Option Value) (left : α → Bool) (cnt : Nat) : Prop :=
  ∃ D lf, w.ranges P k (rawR : Value → Option (DataW Value × List MemPlace)) b r n D lf cnt ∧ Maps.size D = n ∧ (∀ x, K.good x →
    (∀ v, f x = some v → Maps.has D (K.lit x) = true ∧ ∀ z, D.atKey (K.lit x) z = .held v) ∧ (f x = none → Maps.has D (K.lit x) = false ∧ ∀ z, D.atKey (K.lit x) z = z)) ∧ ∀ x, K.good x → lf (K.lit x) = left x
theorem RangeX.map {K : KeyKind P k α} {w : World} {b r n : Nat} {f : α → Option Value} {left : α → Bool} {cnt : Nat} (h : RangeX K w b r n f left cnt) : MapX K w b n f := by
  obtain ⟨D, lf, h, hs, hf, _⟩ := h
  exact ⟨D, h.owns, hs, hf⟩
theorem RangeX.left_eq {K : KeyKind P k α} {w : World} {b r n : Nat} {f : α → Option Value} {left : α → Bool} {cnt : Nat} (h : RangeX K w b r n f left cnt) : w.rangeLeft b r = cnt := by
  obtain ⟨D, lf, h, _⟩ := h
  exact h.left_eq
theorem RangeX.lt {K : KeyKind P k α} {w : World} {b r n : Nat} {f : α → Option Value} {left : α → Bool} {cnt : Nat} (h : RangeX K w b r n f left cnt) : r < w.heap.size := by
  obtain ⟨D, lf, h, _⟩ := h
  exact h.lt
theorem RangeX.kept {K : KeyKind P k α} {w w' : World} {b r n : Nat} {f : α → Option Value} {left : α → Bool} {cnt : Nat} (h : RangeX K w b r n f left cnt) (hb : w'.heap[b]? = w.heap[b]?) (hr : w'.heap[r]? = w.heap[r]?) : RangeX K w' b r n f left cnt := by
  obtain ⟨D, lf, ⟨es, cl, since, seen, c0, h1, h2, h3, h4, h5, h6⟩, hs⟩ := h
  exact ⟨D, lf, ⟨es, cl, since, seen, c0, hb.trans h1, h2, h3, h4, hr.trans h5, h6⟩, hs⟩
section
variable (w : World) {ops : Array Oper} {rest : List Oper} {o : Oper} {a : Act} {Q : Exit → Act → World → Prop}
theorem wpx_range (hg : o.guard = none) (m : Operand) (t : TypeId) (hop : o.op = Op.range t m) (K : KeyKind P k α) (e : TypeId) (ht : P.underlying t = some (.map k e)) (b n : Nat) (f : α → Option Value)
    (hm : a.eval m = .map (some b)) (hM : MapX K w b n f)
    (hK : ∀ w', RangeX K w' b w.heap.size n f (fun x => (f x).isSome) n → w.grownBy w' none → w'.heap.size = w.heap.size + 1 → wpList P ops Q rest (a.put o.dst (.pointer (some ⟨w.heap.size, 0, none⟩))) w') : wpList P ops Q (o :: rest) a w := by
  obtain ⟨D, hown, hs, hf⟩ := hM
  refine wpList_range_own w hg m t hop k e K.keyed ht rawR b n D hm hown fun w' h1 h2 h3 => hK w' ⟨D, _, hs ▸ h1, hs, hf, fun x hx => MapX.has_iff (hf x hx)⟩ h2 h3
theorem wpx_next [DecidableEq α] (hg : o.guard = none) (it : Operand) (hop : o.op = Op.next it false) (K : KeyKind P k α) (hinv : KeyInv K) (b r n : Nat) (f : α → Option Value) (left : α → Bool) (cnt : Nat)
    (hit : a.eval it = .pointer (some ⟨r, 0, none⟩)) (h : RangeX K w b r n f left cnt)
    (hDone : cnt = 0 → (∀ x, K.good x → left x = false) → wpList P ops Q rest (a.put o.dst (.tuple #[.bool false])) w)
    (hMore : ∀ (x : α) (v : Value) (w' : World) (cnt' : Nat), K.good x → left x = true → f x = some v → RangeX K w' b r n f (fun y => left y && !decide (y = x)) cnt' → cnt' < cnt → w.grownBy w' (some r) → w'.heap.size = w.heap.size →
      (Instr.entry (.pointer (some ⟨r, 0, none⟩))).run P w' = .ok (.tuple #[K.enc x, v]) w' → wpList P ops Q rest (a.put o.dst (.tuple #[.bool true, K.enc x, v])) w') : wpList P ops Q (o :: rest) a w := by
  obtain ⟨D, lf, hr, hs, hf, hl⟩ := h
  refine wpList_plain hg fun K' hK' => ?_
  unfold Oper.wp
  rcases hr.next K.keyed o.type with ⟨h0, hlf, hrun⟩ | ⟨key, v, kl, y, w', cnt', hkey, hlk, hv, hat, hrun, hrg, hlt, hgr, hsz, hen⟩
  · simp [execOp, hop, hit, hrun, Result.andThen]
    exact hK' _ _ (hDone h0 (fun x hx => by rw [← hl x hx]; exact hlf _))
  · obtain ⟨x, hx, rfl, rfl⟩ := hinv key kl hkey
    simp [execOp, hop, hit, hrun, Result.andThen]
    refine hK' _ _ (hMore x v w' cnt' hx (by rw [← hl x hx]; exact hlk) ?_ ⟨D, _, hrg, hs, hf, fun z hz => ?_⟩ hlt hgr hsz hen)
    · simp only [rawR, Option.some.injEq] at hv
      subst hv
      cases hfx : f x with
      | none =>
        have h1 := ((hf x hx).2 hfx).2 (.held .nilFunc)
        have h2 := ((hf x hx).2 hfx).2 (.held (.bool true))
        rw [hat] at h1 h2
        simp only [DataW.held.injEq] at h1 h2
        rw [h1] at h2
        cases h2
      | some u =>
        have h1 := ((hf x hx).1 u hfx).2 (.held .nilFunc)
        rw [hat] at h1
        simp only [DataW.held.injEq] at h1
        rw [h1]
    · have e1 : (K.lit z).sameKey (K.lit x) = decide (z = x) := by
        by_cases e : z = x
        · subst e
          rw [WideAt.sameKey_self (K.isKey z)]; simp
        · rw [decide_eq_false e]
          cases h : (K.lit z).sameKey (K.lit x)
          · rfl
          · exact absurd (K.inj _ _ (WideAt.sameKey_eq h)) e
      show (lf (K.lit z) && !(K.lit z).sameKey (K.lit x)) = _
      rw [hl z hz, e1]
end
end Go.Proofs.YtaonlcgneemimaaGreatDoor
namespace Go.Proofs.YtaonlcgneemimaaGreatDoor
open Go.RowKit
theorem hk1 {w : World} {c : Nat} (h : c < w.heap.size) (o : Obj) : (w.alloc o).drew.heap[c]? = w.heap[c]? := Below.heap_alloc w o c h
theorem hk2 {w : World} {c : Nat} (h : c < w.heap.size) (o p : Obj) : ((w.alloc o).alloc p).drew.heap[c]? = w.heap[c]? := (Below.heap_alloc _ p c (by simp; omega)).trans (Below.heap_alloc w o c h)
theorem hk3 {w : World} {c : Nat} (h : c < w.heap.size) (o p q : Obj) : (((w.alloc o).alloc p).alloc q).drew.heap[c]? = w.heap[c]? := (Below.heap_alloc _ q c (by simp; omega)).trans ((Below.heap_alloc _ p c (by simp; omega)).trans (Below.heap_alloc w o c h))
/-- Behind the making of the copy. -/
def Made (w : World) (wc : World) (c2 bl2 bb2 : Nat) (P : List (List Int)) (vs : List Value) (sz : Int) : Prop :=
  wc.heap[c2]? = some (.cells #[.map (some bl2), .map (some bb2), .int .i64 ((P.length : Int) + 1), .int .i64 sz] 118 (0, 0)) ∧ w.heap.size ≤ c2 ∧ w.heap.size ≤ bl2 ∧ w.heap.size ≤ bb2 ∧ bl2 ≠ bb2 ∧ MapX KI wc bl2 P.length (ixV vs) ∧ MapX KU wc bb2 0 (fun _ => none) ∧ Below w.heap.size w wc
theorem made1 {w : World} {bl cl : Nat} {es : Array MapEntry} {P : List (List Int)} {vs : List Value} {sz : Int} (hm : MapX KI w bl P.length (ixV vs)) (hb : w.heap[bl]? = some (.map es cl)) :
    Made w (((w.alloc (.map es cl)).alloc (.map #[] 0)).alloc (.cells #[.map (some w.heap.size), .map (some (w.heap.size + 1)), .int .i64 ((P.length : Int) + 1), .int .i64 sz] 118)).drew (w.heap.size + 2) w.heap.size (w.heap.size + 1) P vs sz := by
  refine ⟨?_, by omega, by omega, by omega, by omega, ?_, ?_, ((((Below.refl _ _).alloc (Nat.le_refl _) _).alloc (by simp) _).alloc (by simp; omega) _).drew⟩
  · have := heap_new ((w.alloc (.map es cl)).alloc (.map #[] 0)) (.cells #[.map (some w.heap.size), .map (some (w.heap.size + 1)), .int .i64 ((P.length : Int) + 1), .int .i64 sz] 118)
    rw [show w.heap.size + 2 = ((w.alloc (.map es cl)).alloc (.map #[] 0)).heap.size by simp]
    exact this
  · exact (hm.cloned hb).same ((heap_old (heap_old (heap_new w (.map es cl)) _) _).trans (heap_new w (.map es cl)).symm)
  · have h := (MapX.made KU (w.alloc (.map es cl))).same (w' := (((w.alloc (.map es cl)).alloc (.map #[] 0)).alloc (.cells #[.map (some w.heap.size), .map (some (w.heap.size + 1)), .int .i64 ((P.length : Int) + 1), .int .i64 sz] 118)).drew) ((heap_old (heap_new (w.alloc (.map es cl)) (.map #[] 0)) _).trans (heap_new (w.alloc (.map es cl)) (.map #[] 0)).symm)
    simpa using h
theorem made2 {w : World} {bl cl : Nat} {es : Array MapEntry} {P : List (List Int)} {vs : List Value} {sz : Int} (hm : MapX KI w bl P.length (ixV vs)) (hb : w.heap[bl]? = some (.map es cl)) :
    Made w (((w.alloc (.map #[] 0)).alloc (.map es cl)).alloc (.cells #[.map (some (w.heap.size + 1)), .map (some w.heap.size), .int .i64 ((P.length : Int) + 1), .int .i64 sz] 118)).drew (w.heap.size + 2) (w.heap.size + 1) w.heap.size P vs sz := by
  refine ⟨?_, by omega, by omega, by omega, by omega, ?_, ?_, ((((Below.refl _ _).alloc (Nat.le_refl _) _).alloc (by simp) _).alloc (by simp; omega) _).drew⟩
  · have := heap_new ((w.alloc (.map #[] 0)).alloc (.map es cl)) (.cells #[.map (some (w.heap.size + 1)), .map (some w.heap.size), .int .i64 ((P.length : Int) + 1), .int .i64 sz] 118)
    rw [show w.heap.size + 2 = ((w.alloc (.map #[] 0)).alloc (.map es cl)).heap.size by simp]
    exact this
  · have h1 : MapX KI (w.alloc (.map #[] 0)) bl P.length (ixV vs) := hm.same (Below.heap_alloc w _ bl hm.lt)
    have h := (h1.cloned (heap_old hb _)).same (w' := (((w.alloc (.map #[] 0)).alloc (.map es cl)).alloc (.cells #[.map (some (w.heap.size + 1)), .map (some w.heap.size), .int .i64 ((P.length : Int) + 1), .int .i64 sz] 118)).drew) ((heap_old (heap_new (w.alloc (.map #[] 0)) (.map es cl)) _).trans (heap_new (w.alloc (.map #[] 0)) (.map es cl)).symm)
    simpa using h
  · exact (MapX.made KU w).same ((heap_old (heap_old (heap_new w (.map #[] 0)) _) _).trans (heap_new w (.map #[] 0)).symm)
/-- The sums that are copied so far. -/
structure Part2 (w : World) (B bb2 m : Nat) (P : List (List Int)) (fb : Int → Option Value) (left : Int → Bool) (cnt : Nat) (fb2 : Int → Option Value) (m2 : Nat) : Prop where
  mb : MapX KU w bb2 m2 fb2
  yes : ∀ k, KU.good k → (fb k).isSome = true → left k = false → (fb2 k).isSome = true
  rows : ∀ k v, fb2 k = some v → left k = false ∧ (fb k).isSome = true ∧ w.ownsRow B 3 1 v (idsFrom k 0 P).length (ints (idsFrom k 0 P)) ∧ 0 < (idsFrom k 0 P).length
  apart : ∀ k k' v v', k ≠ k' → fb2 k = some v → fb2 k' = some v' → v.ownBlock ≠ v'.ownBlock
  small : m2 + cnt ≤ m
theorem Part2.kept {w w' : World} {B bb2 m : Nat} {P : List (List Int)} {fb : Int → Option Value} {left : Int → Bool} {cnt : Nat} {fb2 : Int → Option Value} {m2 : Nat} (h : Part2 w B bb2 m P fb left cnt fb2 m2) (hb : w'.heap[bb2]? = w.heap[bb2]?) (hr : ∀ (k : Nat) (arr : Array Value), w.heap[k]? = some (.cells arr 3 (0, 0)) → w'.heap[k]? = some (.cells arr 3 (0, 0))) : Part2 w' B bb2 m P fb left cnt fb2 m2 := by
  refine ⟨h.mb.same hb, h.yes, fun k v hv => ?_, h.apart, h.small⟩
  obtain ⟨h0, h1, h2, h3⟩ := h.rows k v hv
  refine ⟨h0, h1, ⟨h2.1, ?_⟩, h3⟩
  rcases h2.2 with h | ⟨g, cap, cur, e1, e2, e3, e4⟩
  · exact .inl h
  · exact .inr ⟨g, cap, cur, e1, e2, hr g cur e3, e4⟩
theorem fresh_of {w1 w2 : World} {B B0 n : Nat} {v' : Value} {xs : List Value} {P : List (List Int)} {fb2 : Int → Option Value} (ho : w2.ownsRow B 3 1 v' n xs) (h0 : 0 < n) (hr : ∀ (k : Int) u, fb2 k = some u → w1.ownsRow B0 3 1 u (idsFrom k 0 P).length (ints (idsFrom k 0 P)) ∧ 0 < (idsFrom k 0 P).length) (hB : w1.heap.size ≤ B := by exact Nat.le_refl _) : ∀ k u, fb2 k = some u → v'.ownBlock ≠ u.ownBlock := by
  intro k u hu e
  obtain ⟨h1, h2⟩ := hr k u hu
  rcases ho.2 with ⟨_, e2⟩ | ⟨g, cap, cur, e1, e2, e3, _⟩
  · omega
  · rcases h1.2 with ⟨_, e4⟩ | ⟨g', cap', cur', e4, _, e6, _⟩
    · omega
    · rw [e1, e4] at e
      simp [Value.ownBlock] at e
      subst e
      have := heap_lt e6
      omega
theorem part_step {w : World} {B bb2 m : Nat} {P : List (List Int)} {fb : Int → Option Value} {left : Int → Bool} {cnt cnt' : Nat} {fb2 : Int → Option Value} {m2 : Nat} (h : Part2 w B bb2 m P fb left cnt fb2 m2) (hm : m ≤ 100000) (x : Int) (hx : KU.good x) (hl : left x = true) (hfx : (fb x).isSome = true) (v : Value) (hv : w.ownsRow B 3 1 v (idsFrom x 0 P).length (ints (idsFrom x 0 P)) ∧ 0 < (idsFrom x 0 P).length) (hf : ∀ k u, fb2 k = some u → v.ownBlock ≠ u.ownBlock) (hc : cnt' < cnt) :
    ∃ w', (Instr.mapUpdate 116 (.map (some bb2)) (KU.enc x) v).run Tryz.prog w = .ok () w' ∧ Part2 w' B bb2 m P fb (fun y => left y && !decide (y = x)) cnt' (fput fb2 x (some v)) (m2 + 1) ∧ w.mapTurned w' bb2 := by
  have hnone : fb2 x = none := by
    cases he : fb2 x with
    | none => rfl
    | some u => have := (h.rows x u he).1; rw [hl] at this; cases this
  have hs := h.small
  obtain ⟨w', hrun, hm', ht⟩ := h.mb.store Tryz.underlying116 (by unfold maxLen; omega) (x := x) hx v
  rw [hnone] at hm'
  have kept : ∀ k u n xs, w.ownsRow B 3 1 u n xs → fb2 k = some u ∨ u = v → w'.ownsRow B 3 1 u n xs := fun k u n xs ho _ => row_kept ho (fun g o hg hb => turned_keep ht hg (fun e => by
    rcases ho.2 with ⟨e1, _⟩ | ⟨g', cap, cur, e1, _, e3, _⟩
    · rw [e1] at hb; simp [Value.ownBlock] at hb
    · rw [e1] at hb; simp [Value.ownBlock] at hb; subst hb; exact h.mb.cells (e ▸ e3)))
  refine ⟨w', hrun, ⟨by simpa using hm', fun k hk hfk hlk => ?_, fun k u hu => ?_, fun k k' u u' hkk hu hu' => ?_, by omega⟩, ht⟩
  · by_cases e : k = x
    · subst e; simp [fput]
    · simp only [fput, if_neg e]
      exact h.yes k hk hfk (by simpa [e] using hlk)
  · by_cases e : k = x
    · subst e
      simp only [fput, if_pos, Option.some.injEq] at hu
      subst hu
      exact ⟨by simp, hfx, kept k v _ _ hv.1 (.inr rfl), hv.2⟩
    · simp only [fput, if_neg e] at hu
      obtain ⟨a1, a2, a3, a4⟩ := h.rows k u hu
      exact ⟨by simp [a1], a2, kept k u _ _ a3 (.inl hu), a4⟩
  · by_cases e : k = x
    · subst e
      simp only [fput, if_pos, Option.some.injEq] at hu
      subst hu
      simp only [fput, if_neg (Ne.symm hkk)] at hu'
      exact hf k' u' hu'
    · simp only [fput, if_neg e] at hu
      by_cases e' : k' = x
      · subst e'
        simp only [fput, if_pos, Option.some.injEq] at hu'
        subst hu'
        exact (hf k u hu).symm
      · simp only [fput, if_neg e'] at hu'
        exact h.apart k k' u u' hkk hu hu'
set_option maxRecDepth 100000 in
set_option maxHeartbeats 4000000 in
theorem copy_any (w : World) (B c : Nat) (P : List (List Int)) (bl bb : Nat) (vs : List Value) (fb : Int → Option Value) (m : Nat) (sz : Int) (H : ChunksAt w B c P bl bb vs fb m sz) :
    Calls Tryz.prog 25 #[.pointer (some ⟨c, 0, none⟩)] w fun e w' => ∃ c', e = .returned (.pointer (some ⟨c', 0, none⟩)) ∧ ∃ bl' bb' vs' fb' m', ChunksAt w' w.heap.size c' P bl' bb' vs' fb' m' sz ∧ Below w.heap.size w w' := by
  have HH := Lib.hid H
  obtain ⟨es, cl, hob⟩ := H.ml.obj
  have c0 := cellAt H.cell 0
  have c1 := cellAt H.cell 1
  have c2 := cellAt H.cell 2
  have c3 := cellAt H.cell 3
  simp only [List.getElem?_toArray, List.getElem?_cons_zero, List.getElem?_cons_succ] at c0 c1 c2 c3
  have hlt := heap_lt H.cell
  have z1 : c < w.heap.size + 1 := by omega
  have z2 : c < w.heap.size + 2 := by omega
  have z3 : c < w.heap.size + 3 := by omega
  have hmk := fun t w => run_makeMap (P := Tryz.prog) t w
  have HOB := Lib.hid hob
  have HK : Hid (∀ W : World, W.heap[c]? = w.heap[c]? → W.cell? ⟨c, 0, none⟩ = some (.map (some bl)) ∧ W.cell? ⟨c, 2, none⟩ = some (.int .i64 ((P.length : Int) + 1)) ∧ W.cell? ⟨c, 3, none⟩ = some (.int .i64 sz)) := Lib.hid (fun W hW => by
    have h := hW.trans H.cell
    exact ⟨cellAt h 0, cellAt h 2, cellAt h 3⟩)
  clear H hob
  go_enter Tryz.func25, Tryz.ntmps25
  go_wp2_with fail
  go_cut [3] from 6 (fun s3 wc => ∃ c2 bl2 bb2, s3 = .pointer (some ⟨c2, 0, none⟩) ∧ Hid (Made w wc c2 bl2 bb2 P vs sz))
  case first =>
    go_region_held3 (fun w' => w'.cell? ⟨c, 0, none⟩ = some (.map (some bl)) ∧ w'.cell? ⟨c, 2, none⟩ = some (.int .i64 ((P.length : Int) + 1)) ∧ w'.cell? ⟨c, 3, none⟩ = some (.int .i64 sz)) (first | exact HK.out _ rfl | exact HK.out _ (hk1 hlt _) | exact HK.out _ (hk2 hlt _ _) | exact HK.out _ (hk3 hlt _ _ _)) (first | (go_at_call 56; refine (mapClone62_any _ bl es cl (by first | exact HOB.out | exact heap_old HOB.out _)).mono ?_; rintro e w1 ⟨rfl, rfl⟩))
    · go_wp2_with fail
      go_meet
      case rel => exact ⟨_, _, _, rfl, made1 HH.out.ml HOB.out⟩
    · go_wp2_with fail
      go_meet
      case rel => exact ⟨_, _, _, rfl, made2 HH.out.ml HOB.out⟩
  case rest =>
    obtain ⟨c', bl', bb', rfl, hmade⟩ := hcut
    obtain ⟨hc', hB1, hB2, hB3, hne, hml', hmb', hbel⟩ := hmade.out
    have HMB0 := Lib.hid ((HH.out.mb).same (hbel.block bb HH.out.mb.lt))
    have k1 : wc.cell? ⟨c, 1, none⟩ = some (.map (some bb)) := (hbel.cell (p := ⟨c, 1, none⟩) hlt).trans c1
    have HC' := Lib.hid hc'
    have HML' := Lib.hid hml'
    have HMB' := Lib.hid hmb'
    have HBEL := Lib.hid hbel
    clear hmade hc' hml' hmb' hbel
    go_wp2_with (first | (at_range; refine wpx_range _ rfl _ 116 rfl KU 90 Tryz.underlying116 bb m fb rfl HMB0.out ?_; intro w0 hrg0 hg0 hs0; have HR0 := Lib.hid hrg0; have HG0 := Lib.hid hg0; clear hrg0 hg0) | go_in)
    go_frame
    have hlc := heap_lt HC'.out
    have hb1 : bb ≠ bb' := by have := HH.out.mb.lt; omega
    have hb2 : bb ≠ c' := by have := HH.out.mb.lt; omega
    have hW : w.heap.size ≤ wc.heap.size := HBEL.out.size
    have hm5 : m ≤ 100000 := by have := HH.out.small; omega
    go_loopw [4, 5] (fun t4 t5 wr => ∃ left cnt fb2 m2, RangeX KU wr bb wc.heap.size m fb left cnt ∧ Hid (Part2 wr w.heap.size bb' m P fb left cnt fb2 m2) ∧ Hid (wr.heap[c']? = some (.cells #[.map (some bl'), .map (some bb'), .int .i64 ((P.length : Int) + 1), .int .i64 sz] 118 (0, 0))) ∧ Hid (MapX KI wr bl' P.length (ixV vs)) ∧ Hid (Below w.heap.size w wr)) (fun _ _ wr => wr.rangeLeft bb wc.heap.size)
    case atStart =>
      have k0 : ∀ (k : Nat) (o : Obj), wc.heap[k]? = some o → w0.heap[k]? = some o := fun k o hk => (HG0.out.block k (heap_lt hk) (by simp)).trans hk
      obtain ⟨es1, cl1, ob1⟩ := HML'.out.obj
      obtain ⟨es2, cl2, ob2⟩ := HMB'.out.obj
      refine ⟨_, _, fun _ => none, 0, HR0.out, ⟨HMB'.out.same ((k0 _ _ ob2).trans ob2.symm), fun k hk h1 h2 => ?_, fun k v h => by simp at h, fun k k' v v' _ h => by simp at h, by omega⟩, k0 _ _ HC'.out, HML'.out.same ((k0 _ _ ob1).trans ob1.symm), HBEL.out.trans ⟨HG0.out.os, HG0.out.tape, HG0.out.output, HG0.out.size, fun k hk => HG0.out.block k (by omega) (by simp)⟩⟩
      rw [h1] at h2; cases h2
    case round =>
      obtain ⟨left, cnt, fb2, m2, hrg, hp2, hcc, hml, hbel⟩ := hrel
      have HRG := Lib.hid hrg
      clear hrg
      go_wp2_with (first | (at_next; refine wpx_next _ rfl _ rfl KU KU_inv bb wc.heap.size m fb left cnt rfl HRG.out ?_ ?_) | go_in)
      · intro h0 hl0
        have hl0' := Lib.hid hl0
        clear hl0
        go_wp2
        go_ret
        refine ⟨c', rfl, bl', bb', vs, fb2, m2, ⟨hcc.out, ⟨hB1, hB2, hB3⟩, hne, ⟨HH.out.pieces.1, fun i v p hv hp => ?_⟩, HH.out.nodup, hml.out, hp2.out.mb, fun k v hv => ⟨(hp2.out.rows k v hv).2.2.1, (hp2.out.rows k v hv).2.2.2⟩, fun k hk => ?_, hp2.out.apart, ⟨HH.out.small.1, by have := hp2.out.small; have := HH.out.small.2; omega⟩⟩, hbel.out⟩
        · obtain ⟨a1, a2⟩ := HH.out.pieces.2 i v p hv hp
          exact ⟨a1.below hbel.out, a2⟩
        · by_cases hg : KU.good k
          · cases hf : fb k with
            | none => exact HH.out.empty k hf
            | some u =>
              have := hp2.out.yes k hg (by rw [hf]; rfl) (hl0'.out k hg)
              rw [hk] at this; cases this
          · cases hi : idsFrom k 0 P with
            | nil => rfl
            | cons y l =>
              obtain ⟨j, p, _, _, h3⟩ := idsFrom_mem k 0 P y (by rw [hi]; simp)
              exact absurd (h3 ▸ KU_good ⟨crcSum_lo p, crcSum_hi p⟩) hg
      · intro x v w1 cnt1 hx hlx hfx hrg1 hlt1 hg1 hs1 hen
        have HX := Lib.hid hx
        have HLX := Lib.hid hlx
        have HFX := Lib.hid hfx
        have HRG1 := Lib.hid hrg1
        have HLT1 := Lib.hid hlt1
        have hbw1 : Below w.heap.size w w1 := hbel.out.trans ⟨hg1.os, hg1.tape, hg1.output, hg1.size, fun k hk => hg1.block k (by have := hbel.out.size; omega) (by simp; omega)⟩
        have HBW1 := Lib.hid hbw1
        have HG1 := Lib.hid hg1
        obtain ⟨hro, hr0⟩ := HH.out.rows x v hfx
        have HSL := Lib.hid (Sl.of_own hro (ints_one _) (.inr hr0))
        have HR00 := Lib.hid hr0
        have hkr : ∀ (k : Nat) (o : Obj), wr.heap[k]? = some o → k ≠ wc.heap.size → w1.heap[k]? = some o := fun k o hk hne => (hg1.block k (heap_lt hk) (by simpa using hne)).trans hk
        obtain ⟨esr, clr, sir, sesr, cr, obr⟩ : ∃ a b c d e, wr.heap[wc.heap.size]? = some (.mapIter a b c d) ∧ e = () := by
          obtain ⟨D, lf, ⟨es, cl, since, seen, c0, _, _, _, _, h5, _⟩, _⟩ := HRG.out
          exact ⟨_, _, _, _, (), h5, rfl⟩
        have hcr : c' ≠ wc.heap.size := fun e => by have h := hcc.out; rw [e, obr.1] at h; cases h
        have HCC1 := Lib.hid (hkr c' _ hcc.out hcr)
        have hp1 : Part2 w1 w.heap.size bb' m P fb left cnt fb2 m2 := by
          obtain ⟨es2, cl2, ob2⟩ := hp2.out.mb.obj
          exact hp2.out.kept ((hkr bb' _ ob2 (fun e => by rw [e, obr.1] at ob2; cases ob2)).trans ob2.symm) (fun k arr hk => hkr k _ hk (fun e => by rw [e, obr.1] at hk; cases hk))
        have HP1 := Lib.hid hp1
        have e1 : w1.cell? ⟨c', 1, none⟩ = some (.map (some bb')) := cellAt HCC1.out 1
        have hil := idsFrom_length x 0 P
        have hPs := HH.out.small.1
        clear hx hlx hfx hrg1 hlt1 hbw1 hro hr0 hp1 hg1 hkr
        go_wp2_with fail
        go_region_held3 (fun w' => w'.cell? ⟨c', 1, none⟩ = some (.map (some bb'))) (first | exact e1 | exact e2 | exact e3) (first | (go_at_call 57; refine (cloneInt_any _ _ _ _ (HSL.out.below HBW1.out.drew) (by omega)).mono ?_; rintro e w2 ⟨v', rfl, ho, hn, hq⟩; have HQ := Lib.hid (show Below w1.heap.size w1 w2 from ((Below.refl _ _).drew).trans hq); have e2 := (HQ.out.cell (p := ⟨c', 1, none⟩) (heap_lt HCC1.out)).trans e1; have hp2' : Part2 w2 w.heap.size bb' m P fb left cnt fb2 m2 := HP1.out.kept (HQ.out.block bb' HP1.out.mb.lt) (fun k arr hk => Below.heap HQ.out (Nat.le_refl _) hk); obtain ⟨w3, hrun, hp3, ht3⟩ := part_step hp2' hm5 x HX.out HLX.out (by rw [HFX.out]; rfl) v' ⟨own_mono ho HBW1.out.size, HR00.out⟩ (fresh_of ho HR00.out (fun k u hu => (HP1.out.rows k u hu).2.2)) HLT1.out; have HC2 := Lib.hid (Below.heap HQ.out (Nat.le_refl _) HCC1.out); have HC3 := Lib.hid (turned_keep ht3 HC2.out (fun e => hp2'.mb.cells (e ▸ HC2.out))); have e3 : w3.cell? ⟨c', 1, none⟩ = some (.map (some bb')) := cellAt HC3.out 1; have HP3 := Lib.hid hp3; have HT3 := Lib.hid ht3; clear ho hn hq hp2' hp3 ht3))
        have HRG3 := Lib.hid (HRG1.out.kept (w' := w3) ((HT3.out.grown.block bb (by have := HRG1.out.map.lt; have := HQ.out.size; omega) (by simpa using hb1)).trans (HQ.out.block bb HRG1.out.map.lt)) ((HT3.out.grown.block _ (by have := HRG1.out.lt; have := HQ.out.size; omega) (by simp; have := HMB'.out.lt; omega)).trans (HQ.out.block _ HRG1.out.lt)))
        go_wp2_with fail
        go_roundw
        case rel =>
          obtain ⟨es3, cl3, ob3⟩ := hml.out.obj
          have hblr : bl' ≠ wc.heap.size := fun e => by have h := ob3; rw [e, obr.1] at h; cases h
          have hmlw : w3.heap[bl']? = some (.map es3 cl3) := turned_keep HT3.out (Below.heap HQ.out (Nat.le_refl _) ((HG1.out.block bl' (heap_lt ob3) (by simpa using hblr)).trans ob3)) hne
          refine ⟨_, cnt1, _, m2 + 1, HRG3.out, HP3.out, HC3.out, hml.out.same (hmlw.trans ob3.symm), (HBW1.out.trans (HQ.out.mono HBW1.out.size)).grown HT3.out.grown (by have := HBW1.out.size; have := HQ.out.size; omega) (fun k hk => by cases hk; exact hB3)⟩
        case measure =>
          rw [HRG.out.left_eq, HRG3.out.left_eq]
          exact HLT1.out
end Go.Proofs.YtaonlcgneemimaaGreatDoor
namespace Go.Proofs.YtaonlcgneemimaaGreatDoor
open Go.RowKit
/-- The path of a file in the root; its name. -/
def fp (c : Nat) : ByteArray := ⟨#[47, UInt8.ofNat (97 + c)]⟩
def fnm (c : Nat) : ByteArray := ⟨#[UInt8.ofNat (97 + c)]⟩
def rootP : ByteArray := ⟨#[47]⟩
theorem name_fnm : ∀ c : Fin 26, nameOk (fnm c.1) = true := by
  intro c
  unfold nameOk
  simp only [Lib.toList_data]
  revert c
  decide
theorem cut_fp : ∀ c : Fin 26, cutAt ((fp c.1).extract 1 (fp c.1).size) = [fnm c.1] := by decide
theorem fp_hd : ∀ c : Fin 26, ¬ (64 < (fp c.1).size ∨ Lib.hasPrefix (fp c.1).data.toList slash.data.toList = false) := by decide
theorem split_fp (c : Fin 26) : splitP (fp c.1) = some [fnm c.1] := by
  have h1 : ¬ (fp c.1).toList = [47] := by
    rw [Lib.toList_data]
    revert c
    decide
  have h2 := fp_hd c
  unfold splitP
  rw [if_neg h1, if_neg h2, cut_fp, if_neg (by simp [name_fnm])]
theorem join_fp : ∀ c : Fin 26, joinP [fnm c.1] = fp c.1 := by decide
theorem fp_ne : ∀ c : Fin 26, fp c.1 ≠ rootP := by decide
theorem split_root : splitP rootP = some [] := by
  unfold splitP
  rw [if_pos (by rw [Lib.toList_data]; decide)]
theorem joinT_fnm : ∀ c : Fin 26, (joinT [fnm c.1]).size = 1 := by decide
theorem fp_size (c : Nat) : (fp c).size = 2 := rfl
theorem fp_inj : ∀ c d : Fin 26, fp c.1 = fp d.1 → c = d := by decide
theorem root_ne (c : Fin 26) : ((fp c.1).toList == [47]) = false := by
  rw [Lib.toList_data]
  revert c
  decide
/-- The nodes of a tree of files in the root. -/
def tmap (T : ByteArray → Option Int) : ByteArray → Option Value := fun s => (T s).map fun id => .agg #[.string s, .int .i64 id, .bool false]
/-- A tree in memory: its block, its map's. -/
structure TreeAt (w : World) (a b nf : Nat) (T : ByteArray → Option Int) (next : Int) : Prop where
  cell : w.heap[a]? = some (.cells #[.map (some b), .int .i64 next] 170 (0, 0))
  map : MapX KS w b nf (tmap T)
  glob : ∃ m, w.cell? ⟨1, 0, none⟩ = some (.int .i64 m)
  flat : ∀ s id, T s = some id → ∃ c : Fin 26, s = fp c.1
theorem TreeAt.below {w w' : World} {a b nf : Nat} {T : ByteArray → Option Int} {next : Int} (h : TreeAt w a b nf T next) (hb : Below w.heap.size w w') : TreeAt w' a b nf T next := by
  refine ⟨Below.heap hb (Nat.le_refl _) h.cell, keep_map h.map hb, ?_, h.flat⟩
  obtain ⟨m, hm⟩ := h.glob
  exact ⟨m, (hb.cell (p := ⟨1, 0, none⟩) (World.block_lt_of_cell? w _ hm)).trans hm⟩
theorem KS_good (c : Nat) : KS.good (fp c) := by show (fp c).size ≤ maxLen; rw [fp_size]; decide
theorem zero168 : ∀ w, (zeroValue 168).run Tryz.prog w = .ok (.agg #[.string ⟨#[]⟩, .int .i64 0, .bool false]) w := Tryz.zeroValue168
set_option maxRecDepth 100000 in
set_option maxHeartbeats 2000000 in
theorem look_root (w : World) (a b nf : Nat) (T : ByteArray → Option Int) (next : Int) (H : TreeAt w a b nf T next) :
    Calls Tryz.prog 87 #[.pointer (some ⟨a, 0, none⟩), .string ⟨#[47]⟩] w fun e w' => e = .returned (.tuple #[.int .i64 0, .bool true, .int .i64 0]) ∧ Below w.heap.size w w' := by
  obtain ⟨m, hm⟩ := H.glob
  have HSP := Lib.hid (split_nil ⟨#[47]⟩ (by decide) m w hm split_root)
  clear H hm
  go_enter Tryz.func87, Tryz.ntmps87
  go_wp2_with (go_at_call 96; refine HSP.out.mono ?_; rintro e w1 ⟨rfl, hq⟩; have HQ := Lib.hid hq; clear hq)
  go_loopw [25] (fun ti wr => ti = .int .i64 0 ∧ Hid (wr = w1.alloc (.cells #[.string ⟨#[]⟩, .int .i64 0, .bool true] 168))) (fun _ _ => 0)
  case atStart => exact ⟨rfl, rfl⟩
  case round =>
    obtain ⟨rfl, hw⟩ := hrel
    have hw := hw.out
    subst hw
    go_wp2
    go_quiet (fail)
    go_wp2
    refine bodyPost_ret (v := .tuple #[.int .i64 0, .bool true, .int .i64 0]) (by simp [results, Tryz.results87, go_sem]) rfl ?_
    exact ⟨rfl, below_drewN (HQ.out.alloc HQ.out.size _) _⟩
end Go.Proofs.YtaonlcgneemimaaGreatDoor
namespace Go.Proofs.YtaonlcgneemimaaGreatDoor
open Go.RowKit
/-- What the number of a path is told as: the number, 0, and the error. -/
def lookV (o : Option Int) : Value := .tuple #[.int .i64 (o.getD 0), .bool false, .int .i64 (if o.isSome then 0 else 4)]
set_option maxRecDepth 100000 in
set_option maxHeartbeats 4000000 in
theorem look_hit (w : World) (a b nf : Nat) (T : ByteArray → Option Int) (next : Int) (H : TreeAt w a b nf T next) (c : Fin 26) (id : Int) (hT : T (fp c.1) = some id) :
    Calls Tryz.prog 87 #[.pointer (some ⟨a, 0, none⟩), .string (fp c.1)] w fun e w' => e = .returned (.tuple #[.int .i64 id, .bool false, .int .i64 0]) ∧ Below w.heap.size w w' := by
  obtain ⟨m, hm⟩ := H.glob
  have HH := Lib.hid H
  obtain ⟨s, hs⟩ : ∃ s, Hid (s = fp c.1) := ⟨_, rfl⟩
  obtain ⟨nm, hnm⟩ : ∃ nm, Hid (nm = fnm c.1) := ⟨_, rfl⟩
  have HSP := Lib.hid (split_row (fp c.1) (by rw [fp_size]; decide) m w hm [fnm c.1] (split_fp c) (by simp))
  have HJ := Lib.hid (fun (g : Nat) (w1 : World) (hr : Row w1 g [fnm c.1]) => join_any g 0 1 [fnm c.1] (by simp) (by simp) (by rw [joinT_fnm]; decide) w1 hr.1 hr.2)
  rw [join_fp] at HJ
  have hlook : ∀ W, W.heap[b]? = w.heap[b]? → (Instr.lookup 166 (.map (some b)) (.string (fp c.1)) true).run Tryz.prog W = .ok (.tuple #[.agg #[.string (fp c.1), .int .i64 id, .bool false], .bool true]) W := fun W hW => by
    have h := ((H.map.same hW).look Tryz.underlying166 (zero168 W) (KS_good c.1)).1
    unfold tmap at h
    rw [hT] at h
    exact h
  rw [← hs.out, ← hnm.out] at HSP HJ
  rw [← hs.out] at hlook ⊢
  have HL := Lib.hid hlook
  have hla := heap_lt H.cell
  have hlb := H.map.lt
  clear H hm hlook hT
  go_enter Tryz.func87, Tryz.ntmps87
  go_wp2_with (go_at_call 96; refine HSP.out.mono ?_; rintro e w1 ⟨g, rfl, hr, hq⟩; have HQ := Lib.hid hq; have HR := Lib.hid hr; clear hq hr)
  have hs1 := HQ.out.size
  have HA1 := Lib.hid (Below.heap HQ.out (Nat.le_refl _) HH.out.cell)
  go_loopw [10, 11, 25] (fun _ _ ti wr => (ti = .int .i64 0 ∧ Hid (wr = w1.alloc (.cells #[.string ⟨#[]⟩, .int .i64 0, .bool true] 168))) ∨ (ti = .int .i64 1 ∧ Hid (wr.heap[w1.heap.size]? = some (.cells #[.string s, .int .i64 id, .bool false] 168 (0, 0)) ∧ Below w.heap.size w wr))) (fun _ _ i _ => 1 - (intOf i).toNat)
  case atStart => exact .inl ⟨rfl, rfl⟩
  case round =>
    rcases hrel with ⟨rfl, hw⟩ | ⟨rfl, hw⟩
    · have hw := hw.out
      subst hw
      have HRG := Lib.hid (HR.out.below (w' := (w1.alloc (.cells #[.string ⟨#[]⟩, .int .i64 0, .bool true] 168)).drew) (((Below.refl _ w1).alloc (Nat.le_refl _) _).drew) (Nat.le_refl _))
      have HA2 := Lib.hid (heap_old HA1.out (.cells #[.string ⟨#[]⟩, .int .i64 0, .bool true] 168))
      have c0 : (w1.alloc (.cells #[.string ⟨#[]⟩, .int .i64 0, .bool true] 168)).cell? ⟨a, 0, none⟩ = some (.map (some b)) := cellAt HA2.out 0
      have HNB := Lib.hid (heap_new w1 (.cells #[.string ⟨#[]⟩, .int .i64 0, .bool true] 168))
      have HK : Hid (∀ W : World, W.heap[a]? = (w1.alloc (.cells #[.string ⟨#[]⟩, .int .i64 0, .bool true] 168)).heap[a]? → W.heap[b]? = w.heap[b]? → W.cell? ⟨a, 0, none⟩ = some (.map (some b)) ∧ (Instr.lookup 166 (.map (some b)) (.string s) true).run Tryz.prog W = .ok (.tuple #[.agg #[.string s, .int .i64 id, .bool false], .bool true]) W) := Lib.hid (fun W h1 h2 => ⟨cellAt (h1.trans HA2.out) 0, HL.out W h2⟩)
      have hb1 : (w1.alloc (.cells #[.string ⟨#[]⟩, .int .i64 0, .bool true] 168)).heap[b]? = w.heap[b]? := (Below.heap_alloc w1 _ b (by omega)).trans (HQ.out.block b hlb)
      have hwr : IntKind.i64.wrap 1 = 1 := IntWalk.i64_in _ (by decide)
      go_wp2_with fail
      go_region_held3 (fun w' => w'.cell? ⟨a, 0, none⟩ = some (.map (some b)) ∧ (Instr.lookup 166 (.map (some b)) (.string s) true).run Tryz.prog w' = .ok (.tuple #[.agg #[.string s, .int .i64 id, .bool false], .bool true]) w') (first | exact HK.out _ rfl hb1 | exact k2 | exact k3) (first | (go_at_call 137; refine (HJ.out g _ HRG.out).mono ?_; rintro e w2 ⟨rfl, hq⟩; have hq2 := (((Below.refl _ (w1.alloc (.cells #[.string ⟨#[]⟩, .int .i64 0, .bool true] 168))).drew).trans hq); have HQ2 := Lib.hid hq2; (have k2 := HK.out w2 (hq2.block a (heap_lt HA2.out)) ((hq2.block b (by simp; omega)).trans hb1)); have HNB2 := Lib.hid (Below.heap hq2 (Nat.le_refl _) HNB.out); have n0 := cellAt HNB2.out 0; have n1 := cellAt HNB2.out 1; have n2 := cellAt HNB2.out 2; have f0 := frozenAt HNB2.out 0; have f1 := frozenAt HNB2.out 1; have f2 := frozenAt HNB2.out 2; have k3 := HK.out (((w2.setCell ⟨w1.heap.size, 0, none⟩ (.string s)).setCell ⟨w1.heap.size, 1, none⟩ (.int .i64 id)).setCell ⟨w1.heap.size, 2, none⟩ (.bool false)) (((heap_set_ne _ (by omega)).trans ((heap_set_ne _ (by omega)).trans (heap_set_ne _ (by omega)))).trans (hq2.block a (heap_lt HA2.out))) (((heap_set_ne _ (by omega)).trans ((heap_set_ne _ (by omega)).trans (heap_set_ne _ (by omega)))).trans ((hq2.block b (by simp; omega)).trans hb1)); clear hq hq2))
      have HBF := Lib.hid ((((((HQ.out.alloc hs1 (.cells #[.string ⟨#[]⟩, .int .i64 0, .bool true] 168)).trans ((HQ2.out).mono (by show w.heap.size ≤ (w1.alloc (.cells #[.string ⟨#[]⟩, .int .i64 0, .bool true] 168)).heap.size; simp; omega)))).setCell (p := ⟨w1.heap.size, 0, none⟩) hs1 (.string s)).setCell (p := ⟨w1.heap.size, 1, none⟩) hs1 (.int .i64 id)).setCell (p := ⟨w1.heap.size, 2, none⟩) hs1 (.bool false))
      have HBX := Lib.hid (setAt (setAt (setAt HNB2.out 0 (.string s)) 1 (.int .i64 id)) 2 (.bool false))
      go_wp2_with fail
      go_roundw
      case rel => exact .inr ⟨by go_num, by simpa using HBX.out, HBF.out⟩
      case measure => simp [intOf]
    · obtain ⟨hbx, hbl⟩ := hw.out
      have n0 := cellAt hbx 0
      have n1 := cellAt hbx 1
      have n2 := cellAt hbx 2
      simp only [List.getElem?_toArray, List.getElem?_cons_zero, List.getElem?_cons_succ] at n0 n1 n2
      have HBL := Lib.hid hbl
      clear hbx hbl hw
      go_wp2
      go_quiet (fail)
      go_wp2
      refine bodyPost_ret (v := .tuple #[.int .i64 id, .bool false, .int .i64 0]) (by simp [results, Tryz.results87, go_sem]) rfl ?_
      exact ⟨rfl, below_drewN HBL.out _⟩
end Go.Proofs.YtaonlcgneemimaaGreatDoor
namespace Go.Proofs.YtaonlcgneemimaaGreatDoor
open Go.RowKit
set_option maxRecDepth 100000 in
set_option maxHeartbeats 4000000 in
theorem parent_any (w : World) (a b nf : Nat) (T : ByteArray → Option Int) (next : Int) (H : TreeAt w a b nf T next) (c : Fin 26) :
    Calls Tryz.prog 95 #[.pointer (some ⟨a, 0, none⟩), .string (fp c.1)] w fun e w' => e = .returned (.int .i64 0) ∧ Below w.heap.size w w' := by
  obtain ⟨m, hm⟩ := H.glob
  have HH := Lib.hid H
  obtain ⟨s, hs⟩ : ∃ s, Hid (s = fp c.1) := ⟨_, rfl⟩
  obtain ⟨nm, hnm⟩ : ∃ nm, Hid (nm = fnm c.1) := ⟨_, rfl⟩
  have HSP := Lib.hid (split_row (fp c.1) (by rw [fp_size]; decide) m w hm [fnm c.1] (split_fp c) (by simp))
  rw [← hs.out, ← hnm.out] at HSP
  rw [← hs.out]
  clear H hm
  go_enter Tryz.func95, Tryz.ntmps95
  go_wp2_with (first | (go_at_call 96; refine HSP.out.mono ?_; rintro e w1 ⟨g, rfl, hr, hq⟩; have HQ := Lib.hid hq; clear hq hr) | (go_at_call 137; refine (join_zero _ _ _).mono ?_; rintro e w2 ⟨rfl, hw⟩; have hw := hw.symm; subst hw) | (go_at_call 87; refine (look_root _ a b nf T next (HH.out.below HQ.out)).mono ?_; rintro e w3 ⟨rfl, hq⟩; have HQ3 := Lib.hid hq; clear hq))
  go_ret
  exact ⟨rfl, HQ.out.trans (HQ3.out.mono HQ.out.size)⟩
set_option maxRecDepth 100000 in
set_option maxHeartbeats 4000000 in
theorem can_any (w : World) (a b nf : Nat) (T : ByteArray → Option Int) (next : Int) (H : TreeAt w a b nf T next) (c : Fin 26) (hT : T (fp c.1) = none) (hnf : nf < 64) :
    Calls Tryz.prog 49 #[.pointer (some ⟨a, 0, none⟩), .string (fp c.1)] w fun e w' => e = .returned (.int .i64 0) ∧ Below w.heap.size w w' := by
  have HH := Lib.hid H
  obtain ⟨s, hs⟩ : ∃ s, Hid (s = fp c.1) := ⟨_, rfl⟩
  have HPA := Lib.hid (parent_any w a b nf T next H c)
  have hroot := root_ne c
  have hlook : ∀ W, W.heap[b]? = w.heap[b]? → (Instr.lookup 166 (.map (some b)) (.string (fp c.1)) true).run Tryz.prog W = .ok (.tuple #[.agg #[.string ⟨#[]⟩, .int .i64 0, .bool false], .bool false]) W := fun W hW => by
    have h := ((H.map.same hW).look Tryz.underlying166 (zero168 W) (KS_good c.1)).1
    unfold tmap at h
    rw [hT] at h
    exact h
  have hlen : ∀ W, W.heap[b]? = w.heap[b]? → ∀ ty, (Builtin.len_ #[166] ty #[.map (some b)]).run Tryz.prog W = .ok (.int .i64 nf) W := fun W hW ty => (H.map.same hW).len Tryz.underlying166 ty
  have d1 : decide ((64 : Int) ≤ nf) = false := by simp; omega
  rw [← hs.out] at HPA hroot hlook ⊢
  have HL := Lib.hid hlook
  have HLEN := Lib.hid hlen
  have hlb := H.map.lt
  clear H hlook hlen hT
  go_enter Tryz.func49, Tryz.ntmps49
  go_wp2_with (go_at_call 95; refine HPA.out.mono ?_; rintro e w1 ⟨rfl, hq⟩; have HQ := Lib.hid hq; have c0 : w1.cell? ⟨a, 0, none⟩ = some (.map (some b)) := cellAt (Below.heap hq (Nat.le_refl _) HH.out.cell) 0; have l1 := HL.out w1 (hq.block b hlb); have l2 := HLEN.out (w1.alloc (.cells #[.string ⟨#[]⟩, .int .i64 0, .bool false] 168)) ((Below.heap_alloc w1 _ b (by have := hq.size; omega)).trans (hq.block b hlb)); (have z0 : a < w1.heap.size := by (have := hq.size; have := heap_lt HH.out.cell; omega)); clear hq)
  go_ret
  exact ⟨rfl, HQ.out.alloc HQ.out.size _⟩
end Go.Proofs.YtaonlcgneemimaaGreatDoor
namespace Go.Proofs.YtaonlcgneemimaaGreatDoor
open Go.RowKit
def tset (T : ByteArray → Option Int) (s : ByteArray) (v : Option Int) : ByteArray → Option Int := fun y => if y = s then v else T y
theorem tmap_set (T : ByteArray → Option Int) (s : ByteArray) (id : Int) : fput (tmap T) s (some (.agg #[.string s, .int .i64 id, .bool false])) = tmap (tset T s (some id)) := by
  funext y
  unfold fput tmap tset
  by_cases h : y = s
  · subst h; simp
  · simp [h]
theorem tmap_drop (T : ByteArray → Option Int) (s : ByteArray) : fput (tmap T) s none = tmap (tset T s none) := by
  funext y
  unfold fput tmap tset
  by_cases h : y = s
  · subst h; simp
  · simp [h]
set_option maxRecDepth 100000 in
set_option maxHeartbeats 4000000 in
theorem make_any (w : World) (a b nf : Nat) (T : ByteArray → Option Int) (next : Int) (H : TreeAt w a b nf T next) (c : Fin 26) (hT : T (fp c.1) = none) (hnf : nf < 64) (hx : 0 ≤ next ∧ next ≤ 4611686018427387904) (h1 : 1 ≠ a ∧ 1 ≠ b) :
    Calls Tryz.prog 61 #[.pointer (some ⟨a, 0, none⟩), .string (fp c.1), .bool false] w fun e w' => e = .returned (.tuple #[.int .i64 next, .int .i64 0]) ∧ TreeAt w' a b (nf + 1) (tset T (fp c.1) (some next)) (next + 1) ∧ Frame [a, b] w w' := by
  have HH := Lib.hid H
  obtain ⟨s, hs⟩ : ∃ s, Hid (s = fp c.1) := ⟨_, rfl⟩
  have HCAN := Lib.hid (can_any w a b nf T next H c hT hnf)
  have hg := KS_good c.1
  have hTm : tmap T (fp c.1) = none := by unfold tmap; rw [hT]; rfl
  have hflat : ∀ y id, tset T (fp c.1) (some next) y = some id → ∃ d : Fin 26, y = fp d.1 := fun y id hy => by
    unfold tset at hy
    by_cases h : y = fp c.1
    · exact ⟨c, h⟩
    · rw [if_neg h] at hy; exact H.flat y id hy
  have wn := IntWalk.wrap64_in (next + 1) (by omega)
  rw [← hs.out] at HCAN hg hTm hflat ⊢
  have HGS := Lib.hid hg
  have HTM := Lib.hid hTm
  have HFL := Lib.hid hflat
  have hab : a ≠ b := fun e => H.map.cells (e ▸ H.cell)
  clear H hg hTm hflat hT
  go_enter Tryz.func61, Tryz.ntmps61
  go_wp2_with (go_at_call 49; refine HCAN.out.mono ?_; rintro e w1 ⟨rfl, hq⟩; have HQ := Lib.hid hq; (have c1 : w1.cell? ⟨a, 1, none⟩ = some (.int .i64 next) := by (rw [cellAt (Below.heap hq (Nat.le_refl _) HH.out.cell) 1]; rfl)); have c0 := cellAt (Below.heap hq (Nat.le_refl _) HH.out.cell) 0; (have z0 : a < w1.heap.size := by (have := hq.size; have := heap_lt HH.out.cell; omega)); clear hq)
  have HA2 := Lib.hid (heap_old (Below.heap HQ.out (Nat.le_refl _) HH.out.cell) (.cells #[.string s, .int .i64 next, .bool false] 168))
  have HN2 := Lib.hid (heap_new w1 (.cells #[.string s, .int .i64 next, .bool false] 168))
  have hm2 : MapX KS (w1.alloc (.cells #[.string s, .int .i64 next, .bool false] 168)).drew b nf (tmap T) := (keep_map HH.out.map HQ.out).same (Below.heap_alloc w1 _ b (by have := HQ.out.size; have := HH.out.map.lt; omega))
  obtain ⟨w3, hrun, hm3, ht3⟩ := hm2.store Tryz.underlying166 (by unfold maxLen; omega) (x := s) HGS.out (.agg #[.string s, .int .i64 next, .bool false])
  rw [HTM.out] at hm3
  have hrun' : (Instr.mapUpdate 166 (.map (some b)) (.string s) (.agg #[.string s, .int .i64 next, .bool false])).run Tryz.prog (w1.alloc (.cells #[.string s, .int .i64 next, .bool false] 168)).drew = .ok () w3 := hrun
  clear hrun
  have HM3 := Lib.hid hm3
  have HT3 := Lib.hid ht3
  have HA3 := Lib.hid (turned_keep ht3 HA2.out hab)
  have HN3 := Lib.hid (turned_keep ht3 HN2.out (fun e => by have := HQ.out.size; have := HH.out.map.lt; omega))
  have HK : Hid (∀ W : World, W.heap[a]? = some (.cells #[.map (some b), .int .i64 next] 170 (0, 0)) → W.heap[w1.heap.size]? = some (.cells #[.string s, .int .i64 next, .bool false] 168 (0, 0)) → W.cell? ⟨a, 0, none⟩ = some (.map (some b)) ∧ W.cell? ⟨w1.heap.size, 0, none⟩ = some (.string s) ∧ W.cell? ⟨w1.heap.size, 1, none⟩ = some (.int .i64 next) ∧ W.cell? ⟨w1.heap.size, 2, none⟩ = some (.bool false)) := Lib.hid (fun W h1 h2 => ⟨cellAt h1 0, cellAt h2 0, cellAt h2 1, cellAt h2 2⟩)
  clear hm2 hm3 ht3
  go_region_held3 (fun W => W.cell? ⟨a, 0, none⟩ = some (.map (some b)) ∧ W.cell? ⟨w1.heap.size, 0, none⟩ = some (.string s) ∧ W.cell? ⟨w1.heap.size, 1, none⟩ = some (.int .i64 next) ∧ W.cell? ⟨w1.heap.size, 2, none⟩ = some (.bool false)) (first | exact HK.out _ HA2.out HN2.out | exact HK.out _ HA3.out HN3.out) (first | fail)
  have e1 := cellAt HA3.out 1
  have e2 := frozenAt HA3.out 1
  have e3 := cellAt HN3.out 1
  have hne : w1.heap.size ≠ a := by omega
  simp only [List.getElem?_toArray, List.getElem?_cons_zero, List.getElem?_cons_succ] at e1 e3
  have hFr : Frame [a, b] w w3 := by
    refine ((Frame.of_below HQ.out [a, b]).alloc _).drew.turned (w := (w1.alloc (.cells #[.string s, .int .i64 next, .bool false] 168)).drew) HT3.out (.inl (by simp))
  have HFR := Lib.hid hFr
  clear hFr
  go_wp2
  go_ret2
  refine ⟨rfl, ⟨by simpa using setAt HA3.out 1 (.int .i64 (next + 1)), ?_, ?_, HFL.out⟩, HFR.out.setCell (p := ⟨a, 1, none⟩) (.inl (by simp)) _⟩
  · have h := HM3.out
    simp only [Option.isSome_none, Bool.false_eq_true, if_false] at h
    rw [tmap_set] at h
    exact h.same (heap_set_ne _ (fun e => hab e.symm))
  · obtain ⟨m, hm⟩ := HH.out.glob
    have hl := World.block_lt_of_cell? w _ hm
    refine ⟨m, ?_⟩
    rw [World.cell?_of_block (w := w) ((heap_set_ne _ h1.1).trans (HFR.out.block 1 hl (by simp; exact ⟨h1.1, h1.2⟩)))]
    exact hm
end Go.Proofs.YtaonlcgneemimaaGreatDoor
namespace Go.Proofs.YtaonlcgneemimaaGreatDoor
open Go.RowKit
set_option maxHeartbeats 2000000 in
theorem newTree_any (w : World) (hg : ∃ m, w.cell? ⟨1, 0, none⟩ = some (.int .i64 m)) :
    Calls Tryz.prog 48 #[] w fun e w' => e = .returned (.pointer (some ⟨w.heap.size + 1, 0, none⟩)) ∧ TreeAt w' (w.heap.size + 1) w.heap.size 0 (fun _ => none) 1 ∧ Below w.heap.size w w' ∧ w'.heap.size = w.heap.size + 2 := by
  have HG := Lib.hid hg
  clear hg
  have hmk := fun t w => run_makeMap (P := Tryz.prog) t w
  go_enter Tryz.func48, Tryz.ntmps48
  go_wp2
  go_ret
  have hb : Below w.heap.size w ((w.alloc (.map #[] 0)).alloc (.cells #[.map (some w.heap.size), .int .i64 1] 170)) := ((Below.refl _ _).alloc (Nat.le_refl _) _).alloc (by simp) _
  refine ⟨rfl, ⟨?_, ?_, ?_, fun s id h => by simp at h⟩, hb, by simp⟩
  · have := heap_new (w.alloc (.map #[] 0)) (.cells #[.map (some w.heap.size), .int .i64 1] 170)
    simpa using this
  · have h := (MapX.made KS w).same (w' := (w.alloc (.map #[] 0)).alloc (.cells #[.map (some w.heap.size), .int .i64 1] 170)) ((heap_old (heap_new w _) _).trans (heap_new w _).symm)
    have e : tmap (fun _ => none) = fun _ => none := by funext x; rfl
    rw [e]
    exact h
  · obtain ⟨m, hm⟩ := HG.out
    exact ⟨m, (hb.cell (p := ⟨1, 0, none⟩) (World.block_lt_of_cell? w _ hm)).trans hm⟩
set_option maxRecDepth 100000 in
set_option maxHeartbeats 2000000 in
theorem copyTree_any (w : World) (a b nf : Nat) (T : ByteArray → Option Int) (next : Int) (H : TreeAt w a b nf T next) :
    Calls Tryz.prog 84 #[.pointer (some ⟨a, 0, none⟩)] w fun e w' => e = .returned (.pointer (some ⟨w.heap.size + 1, 0, none⟩)) ∧ TreeAt w' (w.heap.size + 1) w.heap.size nf T next ∧ Below w.heap.size w w' ∧ w'.heap.size = w.heap.size + 2 := by
  have HH := Lib.hid H
  obtain ⟨es, cl, hob⟩ := H.map.obj
  have HOB := Lib.hid hob
  have hlt := heap_lt H.cell
  have HK : Hid (∀ W : World, W.heap[a]? = w.heap[a]? → W.cell? ⟨a, 0, none⟩ = some (.map (some b)) ∧ W.cell? ⟨a, 1, none⟩ = some (.int .i64 next)) := Lib.hid (fun W hW => by
    have h := hW.trans H.cell
    exact ⟨cellAt h 0, cellAt h 1⟩)
  clear H hob
  go_enter Tryz.func84, Tryz.ntmps84
  go_wp2_with fail
  go_region_held3 (fun W => W.cell? ⟨a, 0, none⟩ = some (.map (some b)) ∧ W.cell? ⟨a, 1, none⟩ = some (.int .i64 next)) (first | exact HK.out _ rfl | exact HK.out _ (hk1 hlt _) | exact HK.out _ (hk2 hlt _ _)) (first | (go_at_call 133; refine (mapClone166_any w.drew b es cl HOB.out).mono ?_; rintro e w1 ⟨rfl, rfl⟩))
  go_wp2_with fail
  go_ret
  have hb : Below w.heap.size w ((w.alloc (.map es cl)).alloc (.cells #[.map (some w.heap.size), .int .i64 next] 170)).drew := (((Below.refl _ _).alloc (Nat.le_refl _) _).alloc (by simp) _).drew
  refine ⟨rfl, ⟨?_, ?_, ?_, HH.out.flat⟩, hb, by simp [World.drew]⟩
  · have := heap_new (w.alloc (.map es cl)) (.cells #[.map (some w.heap.size), .int .i64 next] 170)
    rw [show w.heap.size + 1 = (w.alloc (.map es cl)).heap.size by simp]
    exact this
  · exact (HH.out.map.cloned HOB.out).same ((heap_old (heap_new w (.map es cl)) _).trans (heap_new w (.map es cl)).symm)
  · obtain ⟨m, hm⟩ := HH.out.glob
    exact ⟨m, (hb.cell (p := ⟨1, 0, none⟩) (World.block_lt_of_cell? w _ hm)).trans hm⟩
/-- Files' contents. -/
structure BodiesAt (w : World) (sm nb : Nat) (S : Int → Option BodyA) (g : Int → Option Value) : Prop where
  map : MapX KI w sm nb g
  none : ∀ id, S id = none → g id = none
  held : ∀ id bd, S id = some bd → ∃ v, g id = some v ∧ BodyV w v bd ∧ bd.may ∧ bd.parts.length ≤ 1000
theorem BodyV.kept {w w' : World} {v : Value} {b : BodyA} (h : BodyV w v b) (hk : ∀ (k : Nat) (arr : Array Value), w.heap[k]? = some (.cells arr 134 (0, 0)) → w'.heap[k]? = some (.cells arr 134 (0, 0))) : BodyV w' v b := by
  obtain ⟨s, e, hs⟩ := h
  exact ⟨s, e, hs.kept hk⟩
theorem BodiesAt.below {w w' : World} {sm nb : Nat} {S : Int → Option BodyA} {g : Int → Option Value} (h : BodiesAt w sm nb S g) (hb : Below w.heap.size w w') : BodiesAt w' sm nb S g :=
  ⟨keep_map h.map hb, h.none, fun id bd hS => by
    obtain ⟨v, h1, h2, h3⟩ := h.held id bd hS
    exact ⟨v, h1, h2.kept (fun k arr hk => Below.heap hb (Nat.le_refl _) hk), h3⟩⟩
/-- A state in memory. -/
structure StateAt (w : World) (s a b sm nf nb : Nat) (T : ByteArray → Option Int) (next : Int) (S : Int → Option BodyA) (g : Int → Option Value) : Prop where
  cell : w.heap[s]? = some (.cells #[.pointer (some ⟨a, 0, none⟩), .map (some sm)] 121 (0, 0))
  tree : TreeAt w a b nf T next
  bodies : BodiesAt w sm nb S g
  ne : b ≠ sm
theorem StateAt.below {w w' : World} {s a b sm nf nb : Nat} {T : ByteArray → Option Int} {next : Int} {S : Int → Option BodyA} {g : Int → Option Value} (h : StateAt w s a b sm nf nb T next S g) (hb : Below w.heap.size w w') : StateAt w' s a b sm nf nb T next S g :=
  ⟨Below.heap hb (Nat.le_refl _) h.cell, h.tree.below hb, h.bodies.below hb, h.ne⟩
theorem state_boxed {w1 : World} {a b nf nb : Nat} {sm : Nat} {T : ByteArray → Option Int} {next : Int} {S : Int → Option BodyA} {g : Int → Option Value} (ht : TreeAt w1 a b nf T next) (hb : BodiesAt w1 sm nb S g) (hne : b ≠ sm) :
    StateAt (w1.alloc (.cells #[.pointer (some ⟨a, 0, none⟩), .map (some sm)] 121)) w1.heap.size a b sm nf nb T next S g :=
  ⟨heap_new w1 _, ht.below ((Below.refl _ _).alloc (Nat.le_refl _) _), hb.below ((Below.refl _ _).alloc (Nat.le_refl _) _), hne⟩
set_option maxHeartbeats 2000000 in
theorem newState_any (w : World) (hg : ∃ m, w.cell? ⟨1, 0, none⟩ = some (.int .i64 m)) :
    Calls Tryz.prog 22 #[] w fun e w' => ∃ s a b sm, e = .returned (.pointer (some ⟨s, 0, none⟩)) ∧ StateAt w' s a b sm 0 0 (fun _ => none) 1 (fun _ => none) (fun _ => none) ∧ (w.heap.size ≤ s ∧ w.heap.size ≤ a ∧ w.heap.size ≤ b ∧ w.heap.size ≤ sm) ∧ Below w.heap.size w w' := by
  have HN := Lib.hid (newTree_any w hg)
  have hmk := fun t w => run_makeMap (P := Tryz.prog) t w
  clear hg
  go_enter Tryz.func22, Tryz.ntmps22
  go_wp2_with (go_at_call 48; refine HN.out.mono ?_; rintro e w1 ⟨rfl, ht, hb, hs⟩; have HT := Lib.hid ht; have HB := Lib.hid hb; have HS := Lib.hid hs; clear ht hb hs)
  go_ret
  have hs := HS.out
  have h1 : (w1.alloc (.map #[] 0)).heap.size = w1.heap.size + 1 := by simp
  refine ⟨w1.heap.size + 1, w.heap.size + 1, w.heap.size, w1.heap.size, rfl, ?_, by omega, (HB.out.alloc HB.out.size _).alloc (by simp; omega) _⟩
  have h := state_boxed (w1 := w1.alloc (.map #[] 0)) (HT.out.below ((Below.refl _ _).alloc (Nat.le_refl _) _)) (sm := w1.heap.size) (nb := 0) (S := fun _ => none) (g := fun _ => none) ⟨MapX.made KI w1, fun _ _ => rfl, fun id bd h => by cases h⟩ (by omega)
  rw [h1] at h
  exact h
set_option maxRecDepth 100000 in
set_option maxHeartbeats 2000000 in
theorem copyState_any (w : World) (s a b sm nf nb : Nat) (T : ByteArray → Option Int) (next : Int) (S : Int → Option BodyA) (g : Int → Option Value) (H : StateAt w s a b sm nf nb T next S g) :
    Calls Tryz.prog 129 #[.pointer (some ⟨s, 0, none⟩)] w fun e w' => ∃ s' a' b' sm', e = .returned (.pointer (some ⟨s', 0, none⟩)) ∧ StateAt w' s' a' b' sm' nf nb T next S g ∧ (w.heap.size ≤ s' ∧ w.heap.size ≤ a' ∧ w.heap.size ≤ b' ∧ w.heap.size ≤ sm') ∧ Below w.heap.size w w' := by
  have HH := Lib.hid H
  obtain ⟨es, cl, hob⟩ := H.bodies.map.obj
  have HOB := Lib.hid hob
  have c0 := cellAt H.cell 0
  have c1 := cellAt H.cell 1
  simp only [List.getElem?_toArray, List.getElem?_cons_zero, List.getElem?_cons_succ] at c0 c1
  have hlt := heap_lt H.cell
  have HK : Hid (∀ W : World, W.heap[s]? = w.heap[s]? → W.cell? ⟨s, 0, none⟩ = some (.pointer (some ⟨a, 0, none⟩)) ∧ W.cell? ⟨s, 1, none⟩ = some (.map (some sm))) := Lib.hid (fun W hW => by
    have h := hW.trans H.cell
    exact ⟨cellAt h 0, cellAt h 1⟩)
  clear H hob
  go_enter Tryz.func129, Tryz.ntmps129
  go_wp2_with fail
  go_region_held3 (fun W => W.cell? ⟨s, 0, none⟩ = some (.pointer (some ⟨a, 0, none⟩)) ∧ W.cell? ⟨s, 1, none⟩ = some (.map (some sm))) (first | exact HK.out _ rfl | exact k1 | exact k2 | exact k3) (first | (go_at_call 84; refine (copyTree_any w.drew a b nf T next (HH.out.tree.below ((Below.refl _ _).drew))).mono ?_; rintro e w1 ⟨rfl, ht, hq, hs⟩; have HT := Lib.hid ht; have HQ := Lib.hid (((Below.refl _ w).drew).trans hq); have k1 := HK.out w1 (HQ.out.block s hlt); have HS := Lib.hid (show w1.heap.size = w.heap.size + 2 from hs); have HOB1 := Lib.hid ((HQ.out.block sm HH.out.bodies.map.lt).trans HOB.out); have k2 := HK.out (w1.alloc (.map es cl)) ((Below.heap_alloc w1 _ s (by have := HQ.out.size; omega)).trans (HQ.out.block s hlt)); have k3 := HK.out ((w1.alloc (.map es cl)).alloc (.cells #[.pointer (some ⟨w.heap.size + 1, 0, none⟩), .map (some w1.heap.size)] 121)) ((Below.heap_alloc (w1.alloc (.map es cl)) _ s (by have := HQ.out.size; simp; omega)).trans ((Below.heap_alloc w1 _ s (by have := HQ.out.size; omega)).trans (HQ.out.block s hlt))); clear ht hq hs) | (go_at_call 168; refine (mapClone119_any _ sm es cl HOB1.out).mono ?_; rintro e w2 ⟨rfl, rfl⟩))
  go_wp2_with fail
  go_ret
  have hs := HS.out
  have hsm := HH.out.bodies.map.lt
  have h1 : (w1.alloc (.map es cl)).heap.size = w1.heap.size + 1 := by simp
  refine ⟨w1.heap.size + 1, w.heap.size + 1, w.heap.size, w1.heap.size, rfl, ?_, by omega, (HQ.out.alloc HQ.out.size _).alloc (by simp; omega) _⟩
  have hbod : BodiesAt (w1.alloc (.map es cl)) w1.heap.size nb S g := by
    have h2 := HH.out.bodies.below HQ.out
    refine ⟨h2.map.cloned HOB1.out, h2.none, fun id bd hS => ?_⟩
    obtain ⟨v, a1, a2, a3⟩ := h2.held id bd hS
    exact ⟨v, a1, a2.kept (fun k arr hk => heap_old hk _), a3⟩
  have h := state_boxed (w1 := w1.alloc (.map es cl)) (HT.out.below ((Below.refl _ _).alloc (Nat.le_refl _) _)) hbod (show w.heap.size ≠ w1.heap.size by omega)
  rw [h1] at h
  exact h
end Go.Proofs.YtaonlcgneemimaaGreatDoor
