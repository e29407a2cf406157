/- TopNames: the contracts of T6, T7, T8, T9; no condition. -/
import Derived.Test.YtaonlcgneemimaaGreatDoorJ14
import Derived.Test.YtaonlcgneemimaaGreatDoorJ03
import Derived.Deep.Cut
namespace Go.Proofs.YtaonlcgneemimaaGreatDoor
open Go.RowKit
set_option maxRecDepth 100000 in
set_option maxHeartbeats 2000000 in
theorem file_any (w : World) (s a b sm nf nb : Nat) (T : ByteArray → Option Int) (next : Int) (S : Int → Option BodyA) (g : Int → Option Value) (H : StateAt w s a b sm nf nb T next S g) (c : Fin 26) (id : Int) (hT : T (fp c.1) = some id) :
    Calls Tryz.prog 63 #[.pointer (some ⟨s, 0, none⟩), .string (fp c.1)] w fun e w' => e = .returned (.tuple #[.int .i64 id, .int .i64 0]) ∧ Below w.heap.size w w' := by
  have HL := Lib.hid (look_hit w a b nf T next H.tree c id hT)
  have c0 : w.cell? ⟨s, 0, none⟩ = some (.pointer (some ⟨a, 0, none⟩)) := cellAt H.cell 0
  clear H hT
  obtain ⟨p, hp⟩ : ∃ p, Hid (p = fp c.1) := ⟨_, rfl⟩
  rw [← hp.out] at HL ⊢
  go_enter Tryz.func63, Tryz.ntmps63
  go_wp2_with (go_at_call 87; refine HL.out.mono ?_; rintro e w1 ⟨rfl, hq⟩; have HQ := Lib.hid hq; clear hq)
  go_ret2
  exact ⟨rfl, HQ.out⟩
set_option maxRecDepth 100000 in
set_option maxHeartbeats 2000000 in
theorem stateWrite_any (w : World) (s a b sm nf nb : Nat) (T : ByteArray → Option Int) (next : Int) (S : Int → Option BodyA) (g : Int → Option Value) (H : StateAt w s a b sm nf nb T next S g) (c : Fin 26) (id : Int) (hT : T (fp c.1) = some id)
    (op off size : Int) (tt : ByteArray) (da : Option Addr) (dn dc : Nat) (hd : dn ≤ 1024) (h0 : 0 ≤ off) (h1 : off + dn ≤ 1099511627776) :
    Calls Tryz.prog 50 #[.pointer (some ⟨s, 0, none⟩), .agg #[.int .i64 op, .string (fp c.1), .string tt, .int .i64 off, .int .i64 size, .slice da dn dc]] w fun e w' => e = .returned (.int .i64 0) ∧ Below w.heap.size w w' := by
  have HF := Lib.hid (fun w' (hb : Below w.heap.size w w') => file_any w' s a b sm nf nb T next S g (H.below hb) c id hT)
  have d1 : decide ((1024 : Int) < dn) = false := by simp; omega
  have d2 : decide (off < 0) = false := by simp; omega
  have e1 := IntWalk.wrap64_in (1099511627776 - (dn : Int)) (by omega)
  have d3 : decide (1099511627776 - (dn : Int) < off) = false := by simp; omega
  clear H hT
  obtain ⟨p, hp⟩ : ∃ p, Hid (p = fp c.1) := ⟨_, rfl⟩
  rw [← hp.out] at HF ⊢
  go_enter Tryz.func50, Tryz.ntmps50
  go_wp2_with (go_at_call 63; refine (HF.out _ ((Below.refl _ _).alloc (Nat.le_refl _) _)).mono ?_; rintro e w1 ⟨rfl, hq⟩; have HQ := Lib.hid hq; have hx := Below.heap hq (Nat.le_refl _) (heap_new w _); have x3 : w1.cell? ⟨w.heap.size, 3, none⟩ = some (.int .i64 off) := (cellAt hx 3); have x5 : w1.cell? ⟨w.heap.size, 5, none⟩ = some (.slice da dn dc) := (cellAt hx 5); clear hq hx)
  go_ret
  exact ⟨rfl, ((Below.refl _ w).alloc (Nat.le_refl _) _).trans (HQ.out.mono (by simp))⟩
set_option maxRecDepth 100000 in
set_option maxHeartbeats 2000000 in
theorem stateTrunc_any (w : World) (s a b sm nf nb : Nat) (T : ByteArray → Option Int) (next : Int) (S : Int → Option BodyA) (g : Int → Option Value) (H : StateAt w s a b sm nf nb T next S g) (c : Fin 26) (id : Int) (hT : T (fp c.1) = some id)
    (op off size : Int) (tt : ByteArray) (da : Option Addr) (dn dc : Nat) (h0 : 0 ≤ size) (h1 : size ≤ 1099511627776) :
    Calls Tryz.prog 51 #[.pointer (some ⟨s, 0, none⟩), .agg #[.int .i64 op, .string (fp c.1), .string tt, .int .i64 off, .int .i64 size, .slice da dn dc]] w fun e w' => e = .returned (.int .i64 0) ∧ Below w.heap.size w w' := by
  have HF := Lib.hid (fun w' (hb : Below w.heap.size w w') => file_any w' s a b sm nf nb T next S g (H.below hb) c id hT)
  have d2 : decide (size < 0) = false := by simp; omega
  have d3 : decide (1099511627776 < size) = false := by simp; omega
  clear H hT
  obtain ⟨p, hp⟩ : ∃ p, Hid (p = fp c.1) := ⟨_, rfl⟩
  rw [← hp.out] at HF ⊢
  go_enter Tryz.func51, Tryz.ntmps51
  go_wp2_with (go_at_call 63; refine (HF.out _ ((Below.refl _ _).alloc (Nat.le_refl _) _)).mono ?_; rintro e w1 ⟨rfl, hq⟩; have HQ := Lib.hid hq; have hx := Below.heap hq (Nat.le_refl _) (heap_new w _); have x4 : w1.cell? ⟨w.heap.size, 4, none⟩ = some (.int .i64 size) := (cellAt hx 4); clear hq hx)
  go_ret
  exact ⟨rfl, ((Below.refl _ w).alloc (Nat.le_refl _) _).trans (HQ.out.mono (by simp))⟩
/-- An event that a flat state lets in. -/
def EvOk (T : ByteArray → Option Int) (nf : Nat) (c : Fin 26) (op off size : Int) (dn : Nat) : Prop :=
  (op = 1 ∧ T (fp c.1) = none ∧ nf < 64) ∨ (op = 3 ∧ (∃ id, T (fp c.1) = some id) ∧ dn ≤ 1024 ∧ 0 ≤ off ∧ off + dn ≤ 1099511627776) ∨ (op = 4 ∧ (∃ id, T (fp c.1) = some id) ∧ 0 ≤ size ∧ size ≤ 1099511627776)
set_option maxRecDepth 100000 in
set_option maxHeartbeats 2000000 in
theorem check_any (w : World) (s a b sm nf nb : Nat) (T : ByteArray → Option Int) (next : Int) (S : Int → Option BodyA) (g : Int → Option Value) (H : StateAt w s a b sm nf nb T next S g) (c : Fin 26)
    (op off size : Int) (tt : ByteArray) (da : Option Addr) (dn dc : Nat) (hok : EvOk T nf c op off size dn) :
    Calls Tryz.prog 23 #[.pointer (some ⟨s, 0, none⟩), .agg #[.int .i64 op, .string (fp c.1), .string tt, .int .i64 off, .int .i64 size, .slice da dn dc]] w fun e w' => e = .returned (.int .i64 0) ∧ Below w.heap.size w w' := by
  have hb0 : ∀ o, Below w.heap.size w (w.alloc o) := fun o => (Below.refl _ _).alloc (Nat.le_refl _) _
  rcases hok with ⟨rfl, hT, hnf⟩ | ⟨rfl, ⟨id, hT⟩, h1, h2, h3⟩ | ⟨rfl, ⟨id, hT⟩, h2, h3⟩
  · have HC := Lib.hid (fun w' (hb : Below w.heap.size w w') => can_any w' a b nf T next (H.tree.below hb) c hT hnf)
    have hs0 := heap_lt H.cell
    obtain ⟨p, hp⟩ : ∃ p, Hid (p = fp c.1) := ⟨_, rfl⟩
    rw [← hp.out] at HC ⊢
    have HX := Lib.hid (heap_old H.cell (.cells #[.int .i64 1, .string p, .string tt, .int .i64 off, .int .i64 size, .slice da dn dc] 35))
    have x0 : (w.alloc (.cells #[.int .i64 1, .string p, .string tt, .int .i64 off, .int .i64 size, .slice da dn dc] 35)).cell? ⟨s, 0, none⟩ = some (.pointer (some ⟨a, 0, none⟩)) := cellAt HX.out 0
    have HY := Lib.hid (heap_new w (.cells #[.int .i64 1, .string p, .string tt, .int .i64 off, .int .i64 size, .slice da dn dc] 35))
    have x1 : (w.alloc (.cells #[.int .i64 1, .string p, .string tt, .int .i64 off, .int .i64 size, .slice da dn dc] 35)).cell? ⟨w.heap.size, 1, none⟩ = some (.string p) := (cellAt HY.out 1)
    have HK : Hid (∀ W : World, Below (w.alloc (.cells #[.int .i64 1, .string p, .string tt, .int .i64 off, .int .i64 size, .slice da dn dc] 35)).heap.size (w.alloc (.cells #[.int .i64 1, .string p, .string tt, .int .i64 off, .int .i64 size, .slice da dn dc] 35)) W → W.cell? ⟨s, 0, none⟩ = some (.pointer (some ⟨a, 0, none⟩)) ∧ W.cell? ⟨w.heap.size, 1, none⟩ = some (.string p)) := Lib.hid (fun W hW => ⟨cellAt (Below.heap hW (Nat.le_refl _) HX.out) 0, cellAt (Below.heap hW (Nat.le_refl _) HY.out) 1⟩)
    clear H hT
    go_enter Tryz.func23, Tryz.ntmps23
    go_wp2_with fail
    go_region_held3 (fun W => W.cell? ⟨s, 0, none⟩ = some (.pointer (some ⟨a, 0, none⟩)) ∧ W.cell? ⟨w.heap.size, 1, none⟩ = some (.string p)) (first | exact HK.out _ ((Below.refl _ _).drew) | exact k1) (first | (go_at_call 49; refine (HC.out _ (hb0 _).drew).mono ?_; rintro e w1 ⟨rfl, hq⟩; have HQ := Lib.hid ((hb0 _).drew.trans (hq.mono (hb0 _).drew.size)); have k1 := HK.out w1 (((Below.refl _ _).drew).trans hq); clear hq))
    go_wp2_with fail
    go_ret
    exact ⟨rfl, HQ.out⟩
  · have HC := Lib.hid (fun w' (hb : Below w.heap.size w w') => stateWrite_any w' s a b sm nf nb T next S g (H.below hb) c id hT 3 off size tt da dn dc h1 h2 h3)
    obtain ⟨p, hp⟩ : ∃ p, Hid (p = fp c.1) := ⟨_, rfl⟩
    rw [← hp.out] at HC ⊢
    clear H hT
    go_enter Tryz.func23, Tryz.ntmps23
    go_wp2_with (go_at_call 50; refine (HC.out _ (hb0 _)).mono ?_; rintro e w1 ⟨rfl, hq⟩; have HQ := Lib.hid ((hb0 _).trans (hq.mono (hb0 _).size)); clear hq)
    go_ret
    exact ⟨rfl, HQ.out⟩
  · have HC := Lib.hid (fun w' (hb : Below w.heap.size w w') => stateTrunc_any w' s a b sm nf nb T next S g (H.below hb) c id hT 4 off size tt da dn dc h2 h3)
    obtain ⟨p, hp⟩ : ∃ p, Hid (p = fp c.1) := ⟨_, rfl⟩
    rw [← hp.out] at HC ⊢
    clear H hT
    go_enter Tryz.func23, Tryz.ntmps23
    go_wp2_with (go_at_call 51; refine (HC.out _ (hb0 _)).mono ?_; rintro e w1 ⟨rfl, hq⟩; have HQ := Lib.hid ((hb0 _).trans (hq.mono (hb0 _).size)); clear hq)
    go_ret
    exact ⟨rfl, HQ.out⟩
end Go.Proofs.YtaonlcgneemimaaGreatDoor
namespace Go.Proofs.YtaonlcgneemimaaGreatDoor
open Go.RowKit
def bset (S : Int → Option BodyA) (id : Int) (v : Option BodyA) : Int → Option BodyA := fun y => if y = id then v else S y
theorem cell_map_none {w : World} {b : Nat} {es : Array MapEntry} {cl i : Nat} (h : w.heap[b]? = some (.map es cl)) : w.cell? ⟨b, i, none⟩ = none := by unfold World.cell?; simp [h]
theorem TreeAt.ne1 {w : World} {a b nf : Nat} {T : ByteArray → Option Int} {next : Int} (h : TreeAt w a b nf T next) : 1 ≠ a ∧ 1 ≠ b := by
  obtain ⟨m, hm⟩ := h.glob
  constructor
  · rintro rfl
    rw [cellAt h.cell 0] at hm
    simp at hm
  · rintro rfl
    obtain ⟨es, cl, ho⟩ := h.map.obj
    rw [cell_map_none ho] at hm
    cases hm
theorem MapX.ne1 {α : Type} {P : Program} {kt : TypeId} {K : KeyKind P kt α} {w : World} {b n : Nat} {f : α → Option Value} (h : MapX K w b n f) (hg : ∃ m, w.cell? ⟨1, 0, none⟩ = some (.int .i64 m)) : 1 ≠ b := by
  obtain ⟨m, hm⟩ := hg
  rintro rfl
  obtain ⟨es, cl, ho⟩ := h.obj
  rw [cell_map_none ho] at hm
  cases hm
theorem heap_type_ne {w : World} {a b t u : Nat} {x y : Array Value} (ha : w.heap[a]? = some (.cells x t (0, 0))) (hb : w.heap[b]? = some (.cells y u (0, 0))) (h : t ≠ u) : a ≠ b := by
  rintro rfl
  rw [ha] at hb
  injection hb with hb
  injection hb with _ e
  exact h e
theorem heap_map_ne {w : World} {a b t : Nat} {x : Array Value} {es : Array MapEntry} {cl : Nat} (ha : w.heap[a]? = some (.cells x t (0, 0))) (hb : w.heap[b]? = some (.map es cl)) : a ≠ b := by
  rintro rfl
  rw [ha] at hb
  cases hb
theorem BodiesAt.frame {M : List Nat} {w w' : World} {sm nb : Nat} {S : Int → Option BodyA} {g : Int → Option Value} (h : BodiesAt w sm nb S g) (hf : Frame M w w') (hs : sm ∉ M) (hM : ∀ k ∈ M, ∀ arr, w.heap[k]? ≠ some (.cells arr 134 (0, 0))) : BodiesAt w' sm nb S g :=
  ⟨h.map.same (hf.block sm h.map.lt hs), h.none, fun id bd hS => by
    obtain ⟨v, h1, h2, h3⟩ := h.held id bd hS
    exact ⟨v, h1, h2.kept (fun k arr hk => hf.heap hk (fun hm => hM k hm arr hk)), h3⟩⟩
theorem TreeAt.frame {M : List Nat} {w w' : World} {a b nf : Nat} {T : ByteArray → Option Int} {next : Int} (h : TreeAt w a b nf T next) (hf : Frame M w w') (ha : a ∉ M) (hb : b ∉ M) (h1 : 1 ∉ M) : TreeAt w' a b nf T next := by
  refine ⟨hf.heap h.cell ha, h.map.same (hf.block b h.map.lt hb), ?_, h.flat⟩
  obtain ⟨m, hm⟩ := h.glob
  exact ⟨m, (hf.cell (p := ⟨1, 0, none⟩) (World.block_lt_of_cell? w _ hm) h1).trans hm⟩
/-- A body is laid at a number. -/
theorem BodiesAt.put {w w' : World} {sm nb : Nat} {S : Int → Option BodyA} {g : Int → Option Value} (h : BodiesAt w sm nb S g) (id : Int) (v : Value) (bd : BodyA) (hv : BodyV w v bd) (hm : bd.may) (hf : bd.parts.length ≤ 1000) {n' : Nat} (hmap : MapX KI w' sm n' (fput g id (some v))) (ht : w.mapTurned w' sm) : BodiesAt w' sm n' (bset S id (some bd)) (fput g id (some v)) := by
  have hk : ∀ (k : Nat) (arr : Array Value), w.heap[k]? = some (.cells arr 134 (0, 0)) → w'.heap[k]? = some (.cells arr 134 (0, 0)) := fun k arr hk => turned_keep ht hk (fun e => h.map.cells (e ▸ hk))
  refine ⟨hmap, fun y hy => ?_, fun y b hy => ?_⟩
  · unfold bset at hy
    unfold fput
    by_cases e : y = id
    · rw [if_pos e] at hy; cases hy
    · rw [if_neg e] at hy ⊢; exact h.none y hy
  · unfold bset at hy
    unfold fput
    by_cases e : y = id
    · rw [if_pos e] at hy ⊢
      cases hy
      exact ⟨v, rfl, hv.kept hk, hm, hf⟩
    · rw [if_neg e] at hy ⊢
      obtain ⟨u, h1, h2, h3⟩ := h.held y b hy
      exact ⟨u, h1, h2.kept hk, h3⟩
set_option maxRecDepth 100000 in
set_option maxHeartbeats 4000000 in
theorem applyCreate_any (w : World) (s a b sm nf nb : Nat) (T : ByteArray → Option Int) (next : Int) (S : Int → Option BodyA) (g : Int → Option Value) (H : StateAt w s a b sm nf nb T next S g) (c : Fin 26)
    (off size : Int) (tt : ByteArray) (da : Option Addr) (dn dc : Nat) (lv : Value) (hT : T (fp c.1) = none) (hnf : nf < 64) (hnx : 0 ≤ next ∧ next ≤ 4611686018427387904) (hnb : nb ≤ 1000000) :
    Calls Tryz.prog 30 #[.pointer (some ⟨s, 0, none⟩), .agg #[.int .i64 1, .string (fp c.1), .string tt, .int .i64 off, .int .i64 size, .slice da dn dc], lv] w fun e w' => e = .returned (.int .i64 0) ∧ ∃ nb' g', nb' ≤ nb + 1 ∧ StateAt w' s a b sm (nf + 1) nb' (tset T (fp c.1) (some next)) (next + 1) (bset S next (some ⟨0, []⟩)) g' ∧ Frame [a, b, sm] w w' := by
  have HH := Lib.hid H
  have hb0 : ∀ o, Below w.heap.size w (w.alloc o) := fun o => (Below.refl _ _).alloc (Nat.le_refl _) _
  have HC := Lib.hid (fun w' (hb : Below w.heap.size w w') => check_any w' s a b sm nf nb T next S g (H.below hb) c 1 off size tt da dn dc (.inl ⟨rfl, hT, hnf⟩))
  have HMK := Lib.hid (fun w' (hb : Below w.heap.size w w') => make_any w' a b nf T next (H.tree.below hb) c hT hnf hnx (H.tree.below hb).ne1)
  have hs0 := heap_lt H.cell
  obtain ⟨es, cl, hob⟩ := H.tree.map.obj
  have hsa : s ≠ a := heap_type_ne H.cell H.tree.cell (by decide)
  have hsb : s ≠ b := heap_map_ne H.cell hob
  have hal := heap_lt H.tree.cell
  have hbl := heap_lt hob
  obtain ⟨p, hp⟩ : ∃ p, Hid (p = fp c.1) := ⟨_, rfl⟩
  rw [← hp.out] at HC HMK ⊢
  have hsm : s ≠ sm := by obtain ⟨es2, cl2, ob2⟩ := H.bodies.map.obj; exact heap_map_ne H.cell ob2
  have hasm : a ≠ sm := by obtain ⟨es2, cl2, ob2⟩ := H.bodies.map.obj; exact heap_map_ne H.tree.cell ob2
  have h1sm : 1 ≠ sm := H.bodies.map.ne1 H.tree.glob
  have hbsm := H.ne
  have HOBB := Lib.hid hob
  clear H hT hob
  go_enter Tryz.func30, Tryz.ntmps30
  go_wp2_with (go_at_call 23; refine (HC.out _ (hb0 _)).mono ?_; rintro e w1 ⟨rfl, hq⟩; have HQ := Lib.hid ((hb0 (.cells #[.int .i64 1, .string p, .string tt, .int .i64 off, .int .i64 size, .slice da dn dc] 35)).trans (hq.mono (hb0 _).size)); have HX := Lib.hid (Below.heap hq (Nat.le_refl _) (heap_new w (.cells #[.int .i64 1, .string p, .string tt, .int .i64 off, .int .i64 size, .slice da dn dc] 35))); have x0 : w1.cell? ⟨w.heap.size, 0, none⟩ = some (.int .i64 1) := cellAt HX.out 0; clear hq)
  have HS1 := Lib.hid (Below.heap HQ.out (Nat.le_refl _) HH.out.cell)
  have HK : Hid (∀ W : World, W.heap[s]? = some (.cells #[.pointer (some ⟨a, 0, none⟩), .map (some sm)] 121 (0, 0)) → W.heap[w.heap.size]? = some (.cells #[.int .i64 1, .string p, .string tt, .int .i64 off, .int .i64 size, .slice da dn dc] 35 (0, 0)) → W.cell? ⟨s, 0, none⟩ = some (.pointer (some ⟨a, 0, none⟩)) ∧ W.cell? ⟨w.heap.size, 0, none⟩ = some (.int .i64 1) ∧ W.cell? ⟨w.heap.size, 1, none⟩ = some (.string p)) := Lib.hid (fun W h1 h2 => ⟨cellAt h1 0, cellAt h2 0, cellAt h2 1⟩)
  go_region_held3 (fun W => W.cell? ⟨s, 0, none⟩ = some (.pointer (some ⟨a, 0, none⟩)) ∧ W.cell? ⟨w.heap.size, 0, none⟩ = some (.int .i64 1) ∧ W.cell? ⟨w.heap.size, 1, none⟩ = some (.string p)) (first | exact HK.out _ HS1.out HX.out | exact k2) (first | (go_at_call 61; refine (HMK.out _ HQ.out.drew).mono ?_; rintro e w2 ⟨rfl, ht, hf⟩; have HT2 := Lib.hid ht; have HF2 := Lib.hid ((Frame.of_below HQ.out [a, b]).drew.trans hf (fun x hx => .inl hx)); have HS2 := Lib.hid (hf.heap HS1.out (by simp [hsa, hsb])); have HX2 := Lib.hid (hf.heap HX.out (by simp; omega)); have k2 := HK.out w2 HS2.out HX2.out; have HF := Lib.hid hf; clear ht hf))
  have HB2 := Lib.hid (HH.out.bodies.frame HF2.out (by simp; exact ⟨fun e => hasm e.symm, fun e => hbsm e.symm⟩) (fun k hk arr e => by
    simp at hk
    rcases hk with rfl | rfl
    · exact heap_type_ne HH.out.tree.cell e (by decide) rfl
    · rw [HOBB.out] at e; cases e))
  have y1 : w2.cell? ⟨s, 1, none⟩ = some (.map (some sm)) := (cellAt HS2.out 1)
  have y0 := k2.1
  have y2 := k2.2.1
  go_wp2_with (at_mapUpdate; refine wpx_store _ rfl _ _ _ 119 rfl KI 100 Tryz.underlying119 sm nb g rfl HB2.out.map (by unfold maxLen; omega) next (KI_good (by omega)) (.agg #[.int .i64 0, .slice none 0 0]) rfl rfl ?_; intro w3 hm3 ht3; have HM3 := Lib.hid hm3; have HT3 := Lib.hid ht3; clear hm3 ht3)
  go_ret
  refine ⟨rfl, if (g next).isSome then nb else nb + 1, fput g next (some (.agg #[.int .i64 0, .slice none 0 0])), ?_, ⟨turned_keep HT3.out HS2.out hsm, ?_, ?_, hbsm⟩, (HF2.out.mono (fun x hx => .inl (by simp at hx ⊢; rcases hx with h | h <;> simp [h]))).turned HT3.out (.inl (by simp))⟩
  · split <;> omega
  · exact HT2.out.frame ((Frame.refl [sm] w2).turned HT3.out (.inl (by simp))) (by simpa using hasm) (by simpa using hbsm) (by simpa using h1sm)
  · exact HB2.out.put next _ ⟨0, []⟩ ⟨_, rfl, Sl.nil _ _ _⟩ ⟨by decide, by decide, trivial⟩ (by simp) HM3.out HT3.out
end Go.Proofs.YtaonlcgneemimaaGreatDoor
namespace Go.Proofs.YtaonlcgneemimaaGreatDoor
open Go.RowKit
theorem zero100 : ∀ w, (zeroValue 100).run Tryz.prog w = .ok (.agg #[.int .i64 0, .slice none 0 0]) w := Tryz.zeroValue100
/-- The new body lies in block vb. -/
def CutP (w wc : World) (vb : Nat) (X : BodyA) (va : Option Addr) (vc : Nat) : Prop :=
  wc.heap[vb]? = some (.cells #[.int .i64 X.size, .slice va X.parts.length vc] 100 (0, 0)) ∧ w.heap.size ≤ vb ∧ BodyV wc (.agg #[.int .i64 X.size, .slice va X.parts.length vc]) X ∧ Below w.heap.size w wc
theorem cut_a {w w1 w2 : World} {X : BodyA} {va : Option Addr} {vc : Nat} (h1 : Below w.heap.size w w1) (h2 : Below w1.heap.size w1 w2) (hz : w2.heap[w1.heap.size]? = some (.cells #[.int .i64 0, .slice none 0 0] 100 (0, 0))) (hv : BodyV w2 (.agg #[.int .i64 X.size, .slice va X.parts.length vc]) X) :
    CutP w ((w2.setCell ⟨w1.heap.size, 0, none⟩ (.int .i64 X.size)).setCell ⟨w1.heap.size, 1, none⟩ (.slice va X.parts.length vc)) w1.heap.size X va vc := by
  refine ⟨by simpa using setAt (setAt hz 0 (.int .i64 X.size)) 1 (.slice va X.parts.length vc), h1.size, hv.kept (fun k arr hk => ?_), ((h1.trans (h2.mono h1.size)).setCell (p := ⟨w1.heap.size, 0, none⟩) h1.size _).setCell (p := ⟨w1.heap.size, 1, none⟩) h1.size _⟩
  have hne : k ≠ w1.heap.size := by
    rintro rfl
    rw [hz] at hk
    injection hk with hk
    injection hk with _ e
    exact absurd e (by decide)
  rw [heap_set_ne _ hne, heap_set_ne _ hne]
  exact hk
theorem cut_b {w w1 w2 : World} {X : BodyA} {va : Option Addr} {vc : Nat} (h1 : Below w.heap.size w w1) (h2 : Below w1.heap.size w1 w2) (hv : BodyV w2 (.agg #[.int .i64 X.size, .slice va X.parts.length vc]) X) :
    CutP w (w2.alloc (.cells #[.int .i64 X.size, .slice va X.parts.length vc] 100)) w2.heap.size X va vc :=
  ⟨heap_new w2 _, by have := h1.size; have := h2.size; omega, hv.kept (fun k arr hk => heap_old hk _), (h1.trans (h2.mono h1.size)).alloc (by have := h1.size; have := h2.size; omega) _⟩
set_option maxRecDepth 100000 in
set_option maxHeartbeats 4000000 in
theorem put_state (w : World) (s a b sm nf nb : Nat) (T : ByteArray → Option Int) (next : Int) (S : Int → Option BodyA) (g : Int → Option Value) (H : StateAt w s a b sm nf nb T next S g) (c : Fin 26) (id : Int) (hT : T (fp c.1) = some id) (bd : BodyA) (hS : S id = some bd)
    (op off size : Int) (tt : ByteArray) (l : List PartA) (lv : Value) (hl : Sl w 134 4 lv l.length (partsC l)) (hf : ∀ p ∈ l, p.fits) (hln : bd.parts.length + l.length + 1 ≤ 1000) (h0 : 0 ≤ off) (h1 : off + sumLen l ≤ 1099511627776) (hid : 0 ≤ id ∧ id ≤ 4611686018427387904) (hnb : nb ≤ 1000000) :
    Calls Tryz.prog 62 #[.pointer (some ⟨s, 0, none⟩), .agg #[.int .i64 op, .string (fp c.1), .string tt, .int .i64 off, .int .i64 size, .slice none 0 0], lv] w fun e w' => e = .returned (.int .i64 0) ∧ ∃ g', StateAt w' s a b sm nf nb T next (bset S id (some (writeB bd off l))) g' ∧ Frame [sm] w w' := by
  have HH := Lib.hid H
  have hb0 : ∀ o, Below w.heap.size w (w.alloc o) := fun o => (Below.refl _ _).alloc (Nat.le_refl _) _
  have HF := Lib.hid (fun w' (hb : Below w.heap.size w w') => file_any w' s a b sm nf nb T next S g (H.below hb) c id hT)
  obtain ⟨bv, hbv, hBV, hmay, hfew⟩ := H.bodies.held id bd hS
  have HWR := Lib.hid (fun w' (hb : Below w.heap.size w w') => write_any bd off l bv lv w' (hBV.kept (fun k arr hk => Below.heap hb (Nat.le_refl _) hk)) hmay (by omega) (hl.below hb) hf (by omega) h0 h1)
  have HMAY := Lib.hid (writeB_may hmay hf h0 h1)
  have HFEW := Lib.hid (show (writeB bd off l).parts.length ≤ 1000 by have := writeB_few (off := off) hmay hf; omega)
  have hlook : ∀ W, W.heap[sm]? = w.heap[sm]? → (Instr.lookup 119 (.map (some sm)) (.int .i64 id) false).run Tryz.prog W = .ok bv W := fun W hW => by
    have h := ((H.bodies.map.same hW).look Tryz.underlying119 (zero100 W) (KI_good (x := id) (by omega))).2
    rw [hbv] at h
    exact h
  have HLK := Lib.hid hlook
  have hgs : (g id).isSome = true := by rw [hbv]; rfl
  have HGS := Lib.hid hgs
  have hs0 := heap_lt H.cell
  have hsml := H.bodies.map.lt
  obtain ⟨lva, lvc, rfl, -⟩ := parts_cells hl
  obtain ⟨p, hp⟩ : ∃ p, Hid (p = fp c.1) := ⟨_, rfl⟩
  rw [← hp.out] at HF ⊢
  clear H hT hS hbv hBV hmay hfew hlook hf hl hgs
  go_enter Tryz.func62, Tryz.ntmps62
  go_wp2_with fail
  go_quiet (fail)
  go_wp2_with (go_at_call 63; refine (HF.out _ (below_drewN (hb0 _) _)).mono ?_; rintro e w1 ⟨rfl, hq⟩; have HQ := Lib.hid ((below_drewN (hb0 (.cells #[.int .i64 op, .string p, .string tt, .int .i64 off, .int .i64 size, .slice none 0 0] 35)) nq).trans (hq.mono (below_drewN (hb0 (.cells #[.int .i64 op, .string p, .string tt, .int .i64 off, .int .i64 size, .slice none 0 0] 35)) nq).size)); have HX := Lib.hid (Below.heap hq (Nat.le_refl _) (Below.heap (below_drewN (Below.refl (w.alloc (.cells #[.int .i64 op, .string p, .string tt, .int .i64 off, .int .i64 size, .slice none 0 0] 35)).heap.size (w.alloc (.cells #[.int .i64 op, .string p, .string tt, .int .i64 off, .int .i64 size, .slice none 0 0] 35))) nq) (Nat.le_refl _) (heap_new w (.cells #[.int .i64 op, .string p, .string tt, .int .i64 off, .int .i64 size, .slice none 0 0] 35)))); clear hq)
  have hsm : s ≠ sm := by obtain ⟨es2, cl2, ob2⟩ := HH.out.bodies.map.obj; exact heap_map_ne HH.out.cell ob2
  have hasm : a ≠ sm := by obtain ⟨es2, cl2, ob2⟩ := HH.out.bodies.map.obj; exact heap_map_ne HH.out.tree.cell ob2
  have h1sm : 1 ≠ sm := HH.out.bodies.map.ne1 HH.out.tree.glob
  have HK : Hid (∀ W : World, Below w1.heap.size w1 W → W.cell? ⟨s, 1, none⟩ = some (.map (some sm)) ∧ (Instr.lookup 119 (.map (some sm)) (.int .i64 id) false).run Tryz.prog W = .ok bv W ∧ W.cell? ⟨w.heap.size, 3, none⟩ = some (.int .i64 off)) := Lib.hid (fun W hW => ⟨cellAt (Below.heap (HQ.out.trans (hW.mono HQ.out.size)) (Nat.le_refl _) HH.out.cell) 1, HLK.out W ((HQ.out.trans (hW.mono HQ.out.size)).block sm hsml), cellAt (Below.heap hW (Nat.le_refl _) HX.out) 3⟩)
  go_cut [9, 10] from 11 (fun s9 s10 wc => s10 = .int .i64 0 ∧ ∃ vb va vc, s9 = .pointer (some ⟨vb, 0, none⟩) ∧ Hid (CutP w wc vb (writeB bd off l) va vc))
  case first =>
    go_region_held3 (fun W => W.cell? ⟨s, 1, none⟩ = some (.map (some sm)) ∧ (Instr.lookup 119 (.map (some sm)) (.int .i64 id) false).run Tryz.prog W = .ok bv W ∧ W.cell? ⟨w.heap.size, 3, none⟩ = some (.int .i64 off)) (first | exact HK.out _ ((Below.refl _ _).drew) | exact HK.out _ (((Below.refl _ w1).alloc (Nat.le_refl _) _).drew) | exact k2 | exact k3 _ | exact k4 _ _) (first | (go_at_call 116; refine (HWR.out w1.drew HQ.out.drew).mono ?_; rintro e w2 ⟨v2, rfl, hbv, hq⟩; have HQ2 := Lib.hid (((Below.refl w1.heap.size w1).drew).trans hq); have HBV := Lib.hid hbv; have k2 := HK.out w2 HQ2.out; have k3 := (fun o => HK.out (w2.alloc o) (HQ2.out.alloc HQ2.out.size o)); obtain ⟨sv2, rfl, hsl2⟩ := hbv; obtain ⟨va, vc, rfl, -⟩ := parts_cells hsl2; clear hq hsl2) | (go_at_call 116; refine (HWR.out (w1.alloc (.cells #[.int .i64 0, .slice none 0 0] 100)).drew (HQ.out.alloc HQ.out.size _).drew).mono ?_; rintro e w2 ⟨v2, rfl, hbv, hq⟩; have HQ3 := Lib.hid ((((Below.refl w1.heap.size w1).alloc (Nat.le_refl _) (.cells #[.int .i64 0, .slice none 0 0] 100)).drew).trans (hq.mono (by show w1.heap.size ≤ (w1.alloc (.cells #[.int .i64 0, .slice none 0 0] 100)).heap.size; simp))); have HBV := Lib.hid hbv; have k2 := HK.out w2 HQ3.out; have HZ := Lib.hid (Below.heap hq (Nat.le_refl _) (heap_new w1 (.cells #[.int .i64 0, .slice none 0 0] 100))); have zz0 := cellAt HZ.out 0; have zz1 := cellAt HZ.out 1; have zf0 := frozenAt HZ.out 0; have zf1 := frozenAt HZ.out 1; have k4 := (fun x y => HK.out ((w2.setCell ⟨w1.heap.size, 0, none⟩ x).setCell ⟨w1.heap.size, 1, none⟩ y) ((HQ3.out.setCell (p := ⟨w1.heap.size, 0, none⟩) (Nat.le_refl _) x).setCell (p := ⟨w1.heap.size, 1, none⟩) (Nat.le_refl _) y)); obtain ⟨sv2, rfl, hsl2⟩ := hbv; obtain ⟨va, vc, rfl, -⟩ := parts_cells hsl2; clear hq hsl2))
    all_goals (go_wp2_with fail; go_meet)
    all_goals first | exact ⟨rfl, _, _, _, rfl, cut_b HQ.out HQ2.out HBV.out⟩ | exact ⟨rfl, _, _, _, rfl, cut_a HQ.out HQ3.out HZ.out HBV.out⟩
  case rest =>
  obtain ⟨rfl, vb, va, vc, rfl, hcutp⟩ := hcut
  obtain ⟨hvb, hvl, hbvc, hqw⟩ := hcutp.out
  have HQW := Lib.hid hqw
  have HBV := Lib.hid hbvc
  have HS2 := Lib.hid (Below.heap hqw (Nat.le_refl _) HH.out.cell)
  have HV2 := Lib.hid hvb
  have HBD := Lib.hid (HH.out.bodies.below hqw)
  have hm2 : MapX KI wc.drew sm nb g := HBD.out.map
  obtain ⟨w3, hrun, hm3, ht3⟩ := hm2.store Tryz.underlying119 (by unfold maxLen; omega) (x := id) (KI_good (by omega)) (.agg #[.int .i64 (writeB bd off l).size, .slice va (writeB bd off l).parts.length vc])
  rw [if_pos HGS.out] at hm3
  have hrun' : (Instr.mapUpdate 119 (.map (some sm)) (.int .i64 id) (.agg #[.int .i64 (writeB bd off l).size, .slice va (writeB bd off l).parts.length vc])).run Tryz.prog wc.drew = .ok () w3 := hrun
  clear hrun hm2
  have HM3 := Lib.hid hm3
  have HT3 := Lib.hid ht3
  have HS3 := Lib.hid (turned_keep ht3 HS2.out hsm)
  have HV3 := Lib.hid (turned_keep ht3 HV2.out (fun e => by omega))
  clear hm3 ht3 hcutp hvb hbvc hqw
  go_wp2_with fail
  have HK2 : Hid (∀ W : World, W.heap[s]? = some (.cells #[.pointer (some ⟨a, 0, none⟩), .map (some sm)] 121 (0, 0)) → W.heap[vb]? = some (.cells #[.int .i64 (writeB bd off l).size, .slice va (writeB bd off l).parts.length vc] 100 (0, 0)) → W.cell? ⟨s, 1, none⟩ = some (.map (some sm)) ∧ W.cell? ⟨vb, 0, none⟩ = some (.int .i64 (writeB bd off l).size) ∧ W.cell? ⟨vb, 1, none⟩ = some (.slice va (writeB bd off l).parts.length vc)) := Lib.hid (fun W h1 h2 => ⟨cellAt h1 1, cellAt h2 0, cellAt h2 1⟩)
  go_region_held3 (fun W => W.cell? ⟨s, 1, none⟩ = some (.map (some sm)) ∧ W.cell? ⟨vb, 0, none⟩ = some (.int .i64 (writeB bd off l).size) ∧ W.cell? ⟨vb, 1, none⟩ = some (.slice va (writeB bd off l).parts.length vc)) (first | exact HK2.out _ HS2.out HV2.out | exact HK2.out _ HS3.out HV3.out) (first | fail)
  go_wp2_with fail
  go_ret
  have hFr : Frame [sm] w w3 := (Frame.of_below HQW.out [sm]).drew.turned (w := wc.drew) HT3.out (.inl (by simp))
  refine ⟨rfl, fput g id (some (.agg #[.int .i64 (writeB bd off l).size, .slice va (writeB bd off l).parts.length vc])), ⟨HS3.out, HH.out.tree.frame hFr (by simpa using hasm) (by simpa using HH.out.ne) (by simpa using h1sm), ?_, HH.out.ne⟩, hFr⟩
  exact BodiesAt.put (w := wc.drew) ⟨HBD.out.map, HBD.out.none, HBD.out.held⟩ id _ (writeB bd off l) HBV.out HMAY.out HFEW.out HM3.out HT3.out
end Go.Proofs.YtaonlcgneemimaaGreatDoor
namespace Go.Proofs.YtaonlcgneemimaaGreatDoor
open Go.RowKit
set_option maxRecDepth 100000 in
set_option maxHeartbeats 4000000 in
theorem applyWrite_any (w : World) (s a b sm nf nb : Nat) (T : ByteArray → Option Int) (next : Int) (S : Int → Option BodyA) (g : Int → Option Value) (H : StateAt w s a b sm nf nb T next S g) (c : Fin 26) (id : Int) (hT : T (fp c.1) = some id) (bd : BodyA) (hS : S id = some bd)
    (off size : Int) (tt : ByteArray) (l : List PartA) (lv : Value) (hl : Sl w 134 4 lv l.length (partsC l)) (hf : ∀ p ∈ l, p.fits) (hln : bd.parts.length + l.length + 1 ≤ 1000) (h0 : 0 ≤ off) (h1 : off + sumLen l ≤ 1099511627776) (hid : 0 ≤ id ∧ id ≤ 4611686018427387904) (hnb : nb ≤ 1000000) :
    Calls Tryz.prog 30 #[.pointer (some ⟨s, 0, none⟩), .agg #[.int .i64 3, .string (fp c.1), .string tt, .int .i64 off, .int .i64 size, .slice none 0 0], lv] w fun e w' => e = .returned (.int .i64 0) ∧ ∃ g', StateAt w' s a b sm nf nb T next (bset S id (some (writeB bd off l))) g' ∧ Frame [sm] w w' := by
  have hb0 : ∀ o, Below w.heap.size w (w.alloc o) := fun o => (Below.refl _ _).alloc (Nat.le_refl _) _
  have hsn := sumLen_nonneg hf
  have HC := Lib.hid (fun w' (hb : Below w.heap.size w w') => check_any w' s a b sm nf nb T next S g (H.below hb) c 3 off size tt none 0 0 (.inr (.inl ⟨rfl, ⟨id, hT⟩, by decide, h0, by simp; omega⟩)))
  have HP := Lib.hid (fun w' (hb : Below w.heap.size w w') => put_state w' s a b sm nf nb T next S g (H.below hb) c id hT bd hS 3 off size tt l lv (hl.below hb) hf hln h0 h1 hid hnb)
  obtain ⟨p, hp⟩ : ∃ p, Hid (p = fp c.1) := ⟨_, rfl⟩
  rw [← hp.out] at HC HP ⊢
  clear H hT hS hf hl
  go_enter Tryz.func30, Tryz.ntmps30
  go_wp2_with (first | (go_at_call 23; refine (HC.out _ (hb0 _)).mono ?_; rintro e w1 ⟨rfl, hq⟩; have HQ := Lib.hid ((hb0 (.cells #[.int .i64 3, .string p, .string tt, .int .i64 off, .int .i64 size, .slice none 0 0] 35)).trans (hq.mono (hb0 _).size)); have hx := Below.heap hq (Nat.le_refl _) (heap_new w (.cells #[.int .i64 3, .string p, .string tt, .int .i64 off, .int .i64 size, .slice none 0 0] 35)); have x0 := cellAt hx 0; have x1 := cellAt hx 1; have x2 := cellAt hx 2; have x3 := cellAt hx 3; have x4 := cellAt hx 4; have x5 := cellAt hx 5; clear hq hx) | (go_at_call 62; refine (HP.out _ HQ.out).mono ?_; rintro e w2 ⟨rfl, hs2⟩; have HS2 := Lib.hid hs2; clear hs2))
  go_ret
  obtain ⟨g', hs, hfr⟩ := HS2.out
  exact ⟨rfl, g', hs, (Frame.of_below HQ.out [sm]).trans hfr (fun x hx => .inl hx)⟩
set_option maxRecDepth 100000 in
set_option maxHeartbeats 4000000 in
theorem applyTrunc_any (w : World) (s a b sm nf nb : Nat) (T : ByteArray → Option Int) (next : Int) (S : Int → Option BodyA) (g : Int → Option Value) (H : StateAt w s a b sm nf nb T next S g) (c : Fin 26) (id : Int) (hT : T (fp c.1) = some id) (bd : BodyA) (hS : S id = some bd)
    (off size : Int) (tt : ByteArray) (lv : Value) (h0 : 0 ≤ size) (h1 : size ≤ 1099511627776) (hid : 0 ≤ id ∧ id ≤ 4611686018427387904) (hnb : nb ≤ 1000000) :
    Calls Tryz.prog 30 #[.pointer (some ⟨s, 0, none⟩), .agg #[.int .i64 4, .string (fp c.1), .string tt, .int .i64 off, .int .i64 size, .slice none 0 0], lv] w fun e w' => e = .returned (.int .i64 0) ∧ ∃ g', StateAt w' s a b sm nf nb T next (bset S id (some (truncB bd size))) g' ∧ Frame [sm] w w' := by
  have HH := Lib.hid H
  have hb0 : ∀ o, Below w.heap.size w (w.alloc o) := fun o => (Below.refl _ _).alloc (Nat.le_refl _) _
  have HC := Lib.hid (fun w' (hb : Below w.heap.size w w') => check_any w' s a b sm nf nb T next S g (H.below hb) c 4 off size tt none 0 0 (.inr (.inr ⟨rfl, ⟨id, hT⟩, h0, h1⟩)))
  have HF := Lib.hid (fun w' (hb : Below w.heap.size w w') => file_any w' s a b sm nf nb T next S g (H.below hb) c id hT)
  obtain ⟨bv, hbv, hBV, hmay, hfew⟩ := H.bodies.held id bd hS
  have HTR := Lib.hid (fun w' (hb : Below w.heap.size w w') => trunc_any bd size bv w' (hBV.kept (fun k arr hk => Below.heap hb (Nat.le_refl _) hk)) hmay (by omega) h0 h1)
  have HMAY := Lib.hid (truncB_may hmay h0 h1)
  have HFEW := Lib.hid (show (truncB bd size).parts.length ≤ 1000 by have := truncB_few (b := bd) (size := size); omega)
  have hlook : ∀ W, W.heap[sm]? = w.heap[sm]? → (Instr.lookup 119 (.map (some sm)) (.int .i64 id) false).run Tryz.prog W = .ok bv W := fun W hW => by
    have h := ((H.bodies.map.same hW).look Tryz.underlying119 (zero100 W) (KI_good (x := id) (by omega))).2
    rw [hbv] at h
    exact h
  have HLK := Lib.hid hlook
  have hgs : (g id).isSome = true := by rw [hbv]; rfl
  have HGS := Lib.hid hgs
  have hs0 := heap_lt H.cell
  have hsml := H.bodies.map.lt
  have hsm : s ≠ sm := by obtain ⟨es2, cl2, ob2⟩ := H.bodies.map.obj; exact heap_map_ne H.cell ob2
  have hasm : a ≠ sm := by obtain ⟨es2, cl2, ob2⟩ := H.bodies.map.obj; exact heap_map_ne H.tree.cell ob2
  have h1sm : 1 ≠ sm := H.bodies.map.ne1 H.tree.glob
  obtain ⟨p, hp⟩ : ∃ p, Hid (p = fp c.1) := ⟨_, rfl⟩
  rw [← hp.out] at HC HF ⊢
  clear H hT hS hbv hBV hmay hfew hlook hgs
  go_enter Tryz.func30, Tryz.ntmps30
  go_wp2_with (first | (go_at_call 23; refine (HC.out _ (hb0 _)).mono ?_; rintro e w1 ⟨rfl, hq⟩; have HQ := Lib.hid ((hb0 (.cells #[.int .i64 4, .string p, .string tt, .int .i64 off, .int .i64 size, .slice none 0 0] 35)).trans (hq.mono (hb0 _).size)); have hx := Below.heap hq (Nat.le_refl _) (heap_new w (.cells #[.int .i64 4, .string p, .string tt, .int .i64 off, .int .i64 size, .slice none 0 0] 35)); have HX := Lib.hid hx; have x0 := cellAt hx 0; have x1 := cellAt hx 1; have x2 := cellAt hx 2; have x3 := cellAt hx 3; have x4 := cellAt hx 4; have x5 := cellAt hx 5; clear hq hx) | (go_at_call 63; refine (HF.out _ HQ.out).mono ?_; rintro e w2 ⟨rfl, hq⟩; have HQ2 := Lib.hid (HQ.out.trans (hq.mono HQ.out.size)); have HX2 := Lib.hid (Below.heap hq (Nat.le_refl _) HX.out); clear hq))
  have HS2 := Lib.hid (Below.heap HQ2.out (Nat.le_refl _) HH.out.cell)
  have HK : Hid (∀ W : World, W.heap[s]? = some (.cells #[.pointer (some ⟨a, 0, none⟩), .map (some sm)] 121 (0, 0)) → W.heap[w.heap.size]? = some (.cells #[.int .i64 4, .string p, .string tt, .int .i64 off, .int .i64 size, .slice none 0 0] 35 (0, 0)) → W.cell? ⟨s, 1, none⟩ = some (.map (some sm)) ∧ W.cell? ⟨w.heap.size, 4, none⟩ = some (.int .i64 size)) := Lib.hid (fun W h1 h2 => ⟨cellAt h1 1, cellAt h2 4⟩)
  have l1 := HLK.out w2.drew (HQ2.out.block sm hsml)
  have HBD := Lib.hid (HH.out.bodies.below HQ2.out)
  go_region_held3 (fun W => W.cell? ⟨s, 1, none⟩ = some (.map (some sm)) ∧ W.cell? ⟨w.heap.size, 4, none⟩ = some (.int .i64 size)) (first | exact HK.out _ HS2.out HX2.out | exact HK.out _ HS3.out HX3.out | exact HK.out _ HS4.out HX4.out) (first | (go_at_call 64; refine (HTR.out _ HQ2.out.drew).mono ?_; rintro e w3 ⟨v3, rfl, hbv, hq⟩; have HQ3 := Lib.hid (((Below.refl w2.heap.size w2).drew).trans hq); have HBV := Lib.hid hbv; have HS3 := Lib.hid (Below.heap HQ3.out (Nat.le_refl _) HS2.out); have HX3 := Lib.hid (Below.heap HQ3.out (Nat.le_refl _) HX2.out); have HBD3 := Lib.hid (HBD.out.below HQ3.out); obtain ⟨sv, rfl, hsl⟩ := hbv; obtain ⟨va, vc, rfl, -⟩ := parts_cells hsl; obtain ⟨w4, hrun, hm4, ht4⟩ := HBD3.out.map.store Tryz.underlying119 (by unfold maxLen; omega) (x := id) (KI_good (by omega)) (.agg #[.int .i64 (truncB bd size).size, .slice va (truncB bd size).parts.length vc]); rw [if_pos HGS.out] at hm4; (have hrun' : (Instr.mapUpdate 119 (.map (some sm)) (.int .i64 id) (.agg #[.int .i64 (truncB bd size).size, .slice va (truncB bd size).parts.length vc])).run Tryz.prog w3 = .ok () w4 := hrun); have HM4 := Lib.hid hm4; have HT4 := Lib.hid ht4; have HS4 := Lib.hid (turned_keep ht4 HS3.out hsm); have HX4 := Lib.hid (turned_keep ht4 HX3.out (fun e => by omega)); clear hq hsl hrun hm4 ht4))
  go_wp2_with fail
  go_ret
  have hqw := HQ2.out.trans (HQ3.out.mono HQ2.out.size)
  have hFr : Frame [sm] w w4 := (Frame.of_below hqw [sm]).turned HT4.out (.inl (by simp))
  refine ⟨rfl, fput g id (some (.agg #[.int .i64 (truncB bd size).size, .slice va (truncB bd size).parts.length vc])), ⟨HS4.out, HH.out.tree.frame hFr (by simpa using hasm) (by simpa using HH.out.ne) (by simpa using h1sm), ?_, HH.out.ne⟩, hFr⟩
  exact HBD3.out.put id _ (truncB bd size) HBV.out HMAY.out HFEW.out HM4.out HT4.out
end Go.Proofs.YtaonlcgneemimaaGreatDoor
