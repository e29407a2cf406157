/- TopNames: the contracts of U2, U3, U4, U5, K5, U6; no condition. -/
import Derived.Test.YtaonlcgneemimaaGreatDoorJ18
import Derived.Test.YtaonlcgneemimaaGreatDoorJ16
import Derived.Test.YtaonlcgneemimaaGreatDoorJ12
import Derived.BigRegion
import Derived.OrdersHeld
namespace Go.Proofs.YtaonlcgneemimaaGreatDoor
open Go.RowKit
/-- A flat state, told apart from memory. -/
structure Abs where
  T : ByteArray → Option Int
  next : Int
  S : Int → Option BodyA
  nf : Nat
def Abs.new : Abs := ⟨fun _ => none, 1, fun _ => none, 0⟩
structure Abs.ok (x : Abs) : Prop where
  n1 : 1 ≤ x.next
  n2 : x.next ≤ 100000
  nf : x.nf ≤ 64
  ids : ∀ s id, x.T s = some id → 0 ≤ id ∧ id < x.next
/-- A file's body. -/
def Abs.body (x : Abs) (p : ByteArray) : Option BodyA := (x.T p).bind x.S
noncomputable def stepA (x : Abs) (i : ItemA) : Abs :=
  if i.op = 1 then ⟨tset x.T i.path (some x.next), x.next + 1, bset x.S x.next (some ⟨0, []⟩), x.nf + 1⟩
  else if i.op = 5 then match x.T i.path with
    | some id => ⟨renT x.T i.path i.to id, x.next, bset x.S (-1) none, renN x.nf i.path i.to⟩
    | none => x
  else if i.op = 6 then match x.T i.path with
    | some id => ⟨tset x.T i.path none, x.next, bset x.S id none, x.nf - 1⟩
    | none => x
  else match x.T i.path, x.body i.path with
    | some id, some bd => if i.op = 3 then { x with S := bset x.S id (some (writeB bd i.off i.parts)) } else { x with S := bset x.S id (some (truncB bd i.size)) }
    | _, _ => x
/-- An event that a flat state lets in, with its pieces. -/
def okA (x : Abs) (i : ItemA) : Prop :=
  ∃ c : Fin 26, i.path = fp c.1 ∧
    ((i.op = 1 ∧ x.T i.path = none ∧ x.nf < 64 ∧ x.next < 100000 ∧ i.parts = [] ∧ i.off = 0 ∧ i.size = 0) ∨
     (i.op = 3 ∧ (∃ bd, x.body i.path = some bd ∧ bd.parts.length + i.parts.length + 1 ≤ 1000) ∧ (∀ p ∈ i.parts, p.fits) ∧ 0 ≤ i.off ∧ i.off + sumLen i.parts ≤ 1099511627776 ∧ i.size = 0) ∨
     (i.op = 4 ∧ (∃ bd, x.body i.path = some bd) ∧ 0 ≤ i.size ∧ i.size ≤ 1099511627776 ∧ i.parts = [] ∧ i.off = 0) ∨
     (i.op = 5 ∧ (∃ id, x.T i.path = some id) ∧ (∃ d : Fin 26, i.to = fp d.1) ∧ (i.to = i.path ∨ x.T i.to = none) ∧ i.parts = [] ∧ i.off = 0 ∧ i.size = 0) ∨
     (i.op = 6 ∧ (∃ bd, x.body i.path = some bd) ∧ i.parts = [] ∧ i.off = 0 ∧ i.size = 0))
theorem body_id {x : Abs} {p : ByteArray} {bd : BodyA} (h : x.body p = some bd) : ∃ id, x.T p = some id ∧ x.S id = some bd := by
  unfold Abs.body at h
  cases hT : x.T p with
  | none => rw [hT] at h; simp at h
  | some id => rw [hT] at h; exact ⟨id, rfl, by simpa using h⟩
theorem renT_ids {T : ByteArray → Option Int} {s t y : ByteArray} {id k : Int} (h : renT T s t id y = some k) : k = id ∨ T y = some k := by
  unfold renT at h
  split at h
  · exact .inr h
  · unfold tset at h
    split at h
    · cases h; exact .inl rfl
    · split at h
      · cases h
      · exact .inr h
theorem stepA_34 {x : Abs} {i : ItemA} {id : Int} {bd : BodyA} (h1 : i.op ≠ 1) (h5 : i.op ≠ 5) (h6 : i.op ≠ 6) (hT : x.T i.path = some id) (hb : x.body i.path = some bd) :
    stepA x i = if i.op = 3 then { x with S := bset x.S id (some (writeB bd i.off i.parts)) } else { x with S := bset x.S id (some (truncB bd i.size)) } := by
  unfold stepA
  rw [if_neg h1, if_neg h5, if_neg h6, hT, hb]
theorem stepA_ok {x : Abs} {i : ItemA} (h : x.ok) (hi : okA x i) : (stepA x i).ok := by
  obtain ⟨c, hp, ⟨ho, hT, hf, hn, -⟩ | ⟨ho, ⟨bd, hb, -⟩, -⟩ | ⟨ho, ⟨bd, hb⟩, -⟩ | ⟨ho, ⟨id, hT⟩, -⟩ | ⟨ho, ⟨bd, hb⟩, -⟩⟩ := hi
  · unfold stepA
    rw [if_pos ho]
    refine ⟨by have := h.n1; simp; omega, by simp; omega, by simp; omega, fun s id hs => ?_⟩
    simp only [tset] at hs
    split at hs
    · cases hs
      have := h.n1
      simp; omega
    · have := h.ids s id hs
      simp; omega
  · obtain ⟨id, hT, -⟩ := body_id hb
    rw [stepA_34 (by omega) (by omega) (by omega) hT hb]
    split <;> exact ⟨h.n1, h.n2, h.nf, h.ids⟩
  · obtain ⟨id, hT, -⟩ := body_id hb
    rw [stepA_34 (by omega) (by omega) (by omega) hT hb]
    split <;> exact ⟨h.n1, h.n2, h.nf, h.ids⟩
  · unfold stepA
    rw [if_neg (by omega), if_pos ho, hT]
    refine ⟨h.n1, h.n2, ?_, fun s k hs => ?_⟩
    · have := h.nf
      show renN x.nf i.path i.to ≤ 64
      unfold renN
      split <;> omega
    · rcases renT_ids hs with e | e
      · rw [e]; exact h.ids _ _ hT
      · exact h.ids _ _ e
  · obtain ⟨id, hT, -⟩ := body_id hb
    unfold stepA
    rw [if_neg (by omega), if_neg (by omega), if_pos ho, hT]
    refine ⟨h.n1, h.n2, ?_, fun s k hs => ?_⟩
    · have := h.nf
      show x.nf - 1 ≤ 64
      omega
    · simp only [tset] at hs
      split at hs
      · cases hs
      · exact h.ids _ _ hs
/-- A state in memory. -/
structure StX where
  s : Nat
  a : Nat
  b : Nat
  sm : Nat
  nb : Nat
  g : Int → Option Value
  x : Abs
def StX.blocks (y : StX) : List Nat := [y.s, y.a, y.b, y.sm]
structure StAt (w : World) (y : StX) : Prop where
  at' : StateAt w y.s y.a y.b y.sm y.x.nf y.nb y.x.T y.x.next y.x.S y.g
  nb : y.nb ≤ y.x.nf
  ok : y.x.ok
theorem StAt.below {w w' : World} {y : StX} (h : StAt w y) (hb : Below w.heap.size w w') : StAt w' y := ⟨h.at'.below hb, h.nb, h.ok⟩
theorem StateAt.frame {M : List Nat} {w w' : World} {s a b sm nf nb : Nat} {T : ByteArray → Option Int} {next : Int} {S : Int → Option BodyA} {g : Int → Option Value} (h : StateAt w s a b sm nf nb T next S g) (hf : Frame M w w') (hs : s ∉ M) (ha : a ∉ M) (hb : b ∉ M) (hsm : sm ∉ M) (h1 : 1 ∉ M) (hM : ∀ k ∈ M, ∀ arr, w.heap[k]? ≠ some (.cells arr 134 (0, 0))) : StateAt w' s a b sm nf nb T next S g :=
  ⟨hf.heap h.cell hs, h.tree.frame hf ha hb h1, h.bodies.frame hf hsm hM, h.ne⟩
theorem StAt.frame {M : List Nat} {w w' : World} {y : StX} (h : StAt w y) (hf : Frame M w w') (hs : ∀ k ∈ y.blocks, k ∉ M) (h1 : 1 ∉ M) (hM : ∀ k ∈ M, ∀ arr, w.heap[k]? ≠ some (.cells arr 134 (0, 0))) : StAt w' y :=
  ⟨h.at'.frame hf (hs _ (by simp [StX.blocks])) (hs _ (by simp [StX.blocks])) (hs _ (by simp [StX.blocks])) (hs _ (by simp [StX.blocks])) h1 hM, h.nb, h.ok⟩
theorem StAt.lt {w : World} {y : StX} (h : StAt w y) : ∀ k ∈ y.blocks, k < w.heap.size := by
  intro k hk
  simp only [StX.blocks, List.mem_cons, List.not_mem_nil, or_false] at hk
  rcases hk with rfl | rfl | rfl | rfl
  · exact heap_lt h.at'.cell
  · exact heap_lt h.at'.tree.cell
  · exact h.at'.tree.map.lt
  · exact h.at'.bodies.map.lt
theorem applyS_any (w : World) (y : StX) (H : StAt w y) (i : ItemA) (hi : okA y.x i) (lv : Value) (hl : Sl w 134 4 lv i.parts.length (partsC i.parts)) :
    Calls Tryz.prog 30 #[.pointer (some ⟨y.s, 0, none⟩), .agg #[.int .i64 i.op, .string i.path, .string i.to, .int .i64 i.off, .int .i64 i.size, .slice none 0 0], lv] w fun e w' => e = .returned (.int .i64 0) ∧ ∃ nb' g', StAt w' ⟨y.s, y.a, y.b, y.sm, nb', g', stepA y.x i⟩ ∧ Frame [y.a, y.b, y.sm] w w' := by
  have hok := stepA_ok H.ok hi
  have hnb := H.nb
  have hnf := H.ok.nf
  have hn1 := H.ok.n1
  have hn2 := H.ok.n2
  obtain ⟨c, hp, ⟨ho, hT, hf, hn, -⟩ | ⟨ho, ⟨bd, hb, hbl⟩, hfit, h0, h1, -⟩ | ⟨ho, ⟨bd, hb⟩, h0, h1, -⟩ | ⟨ho, ⟨id, hT⟩, ⟨d, hd⟩, hto, -⟩ | ⟨ho, ⟨bd, hb⟩, -⟩⟩ := hi
  · have e : stepA y.x i = ⟨tset y.x.T (fp c.1) (some y.x.next), y.x.next + 1, bset y.x.S y.x.next (some ⟨0, []⟩), y.x.nf + 1⟩ := by unfold stepA; rw [if_pos ho, hp]
    rw [e] at hok ⊢
    rw [ho, hp]
    rw [hp] at hT
    refine (applyCreate_any w _ _ _ _ _ _ _ _ _ _ H.at' c i.off i.size i.to none 0 0 lv hT hf (by omega) (by omega)).mono ?_
    rintro e w' ⟨rfl, nb', g', h1, h2, h3⟩
    exact ⟨rfl, nb', g', ⟨h2, (by show nb' ≤ y.x.nf + 1; omega), hok⟩, h3⟩
  · obtain ⟨id, hT, hb2⟩ := body_id hb
    have hid := H.ok.ids _ _ hT
    rw [stepA_34 (by omega) (by omega) (by omega) hT hb, if_pos ho] at hok ⊢
    rw [ho]
    rw [hp] at hT ⊢
    refine (applyWrite_any w _ _ _ _ _ _ _ _ _ _ H.at' c id hT bd hb2 i.off i.size i.to i.parts lv hl hfit hbl h0 h1 (by omega) (by omega)).mono ?_
    rintro e w' ⟨rfl, g', h2, h3⟩
    exact ⟨rfl, y.nb, g', ⟨h2, hnb, hok⟩, h3.mono (fun k hk => .inl (by simp at hk; simp [hk]))⟩
  · obtain ⟨id, hT, hb2⟩ := body_id hb
    have hid := H.ok.ids _ _ hT
    rw [stepA_34 (by omega) (by omega) (by omega) hT hb, if_neg (by omega)] at hok ⊢
    rw [ho]
    rw [hp] at hT ⊢
    refine (applyTrunc_any w _ _ _ _ _ _ _ _ _ _ H.at' c id hT bd hb2 i.off i.size i.to lv h0 h1 (by omega) (by omega)).mono ?_
    rintro e w' ⟨rfl, g', h2, h3⟩
    exact ⟨rfl, y.nb, g', ⟨h2, hnb, hok⟩, h3.mono (fun k hk => .inl (by simp at hk; simp [hk]))⟩
  · have e : stepA y.x i = ⟨renT y.x.T (fp c.1) (fp d.1) id, y.x.next, bset y.x.S (-1) none, renN y.x.nf (fp c.1) (fp d.1)⟩ := by unfold stepA; rw [if_neg (by omega), if_pos ho, hT, hp, hd]
    rw [e] at hok ⊢
    rw [ho, hp, hd]
    rw [hp] at hT hto
    rw [hd] at hto
    refine (applyRename_any w _ _ _ _ _ _ _ _ _ _ H.at' c d i.off i.size none 0 0 lv id hT hto hnf).mono ?_
    rintro e w' ⟨rfl, nb', g', h1, h2, h3⟩
    refine ⟨rfl, nb', g', ⟨h2, ?_, hok⟩, h3⟩
    show nb' ≤ renN y.x.nf (fp c.1) (fp d.1)
    unfold renN
    split <;> omega
  · obtain ⟨id, hT, hb2⟩ := body_id hb
    have hid := H.ok.ids _ _ hT
    have e : stepA y.x i = ⟨tset y.x.T (fp c.1) none, y.x.next, bset y.x.S id none, y.x.nf - 1⟩ := by unfold stepA; rw [if_neg (by omega), if_neg (by omega), if_pos ho, hT, hp]
    rw [e] at hok ⊢
    rw [ho, hp]
    rw [hp] at hT
    refine (applyDrop_any w _ _ _ _ _ _ _ _ _ _ H.at' c i.off i.size i.to none 0 0 lv id hT bd hb2 (by omega)).mono ?_
    rintro e w' ⟨rfl, g', h2, h3⟩
    exact ⟨rfl, y.nb - 1, g', ⟨h2, (by show y.nb - 1 ≤ y.x.nf - 1; omega), hok⟩, h3⟩
theorem checkS_any (w : World) (y : StX) (H : StAt w y) (i : ItemA) (hi : okA y.x i) (da : Option Addr) (dn dc : Nat) (hd : i.op = 3 → dn ≤ 1024 ∧ i.off + dn ≤ 1099511627776) :
    Calls Tryz.prog 23 #[.pointer (some ⟨y.s, 0, none⟩), .agg #[.int .i64 i.op, .string i.path, .string i.to, .int .i64 i.off, .int .i64 i.size, .slice da dn dc]] w fun e w' => e = .returned (.int .i64 0) ∧ Below w.heap.size w w' := by
  obtain ⟨c, hp, hr⟩ := hi
  have hT : ∀ bd, y.x.body i.path = some bd → ∃ id, y.x.T (fp c.1) = some id := by
    intro bd hb
    obtain ⟨id, h, -⟩ := body_id hb
    exact ⟨id, hp ▸ h⟩
  rcases hr with ⟨ho, hT, hf, hn, -⟩ | ⟨ho, ⟨bd, hb, hbl⟩, hfit, h0, h1, -⟩ | ⟨ho, ⟨bd, hb⟩, h0, h1, -⟩ | ⟨ho, ⟨id, hT⟩, ⟨d, hto⟩, -⟩ | ⟨ho, ⟨bd, hb⟩, -⟩
  · rw [hp]
    exact check_any w _ _ _ _ _ _ _ _ _ _ H.at' c i.op i.off i.size i.to da dn dc (.inl ⟨ho, hp ▸ hT, hf⟩)
  · rw [hp]
    exact check_any w _ _ _ _ _ _ _ _ _ _ H.at' c i.op i.off i.size i.to da dn dc (.inr (.inl ⟨ho, hT _ hb, (hd ho).1, h0, (hd ho).2⟩))
  · rw [hp]
    exact check_any w _ _ _ _ _ _ _ _ _ _ H.at' c i.op i.off i.size i.to da dn dc (.inr (.inr ⟨ho, hT _ hb, h0, h1⟩))
  · rw [hp] at hT
    rw [hp, hto, ho]
    exact checkRename_any w _ _ _ _ _ _ _ _ _ _ H.at' c d i.off i.size da dn dc id hT
  · obtain ⟨id, hT⟩ := hT _ hb
    rw [hp, ho]
    exact checkDrop_any w _ _ _ _ _ _ _ _ _ _ H.at' c i.off i.size i.to da dn dc id hT
theorem copyS_any (w : World) (y : StX) (H : StAt w y) :
    Calls Tryz.prog 129 #[.pointer (some ⟨y.s, 0, none⟩)] w fun e w' => ∃ y' : StX, e = .returned (.pointer (some ⟨y'.s, 0, none⟩)) ∧ StAt w' y' ∧ y'.x = y.x ∧ (∀ k ∈ y'.blocks, w.heap.size ≤ k) ∧ Below w.heap.size w w' := by
  refine (copyState_any w _ _ _ _ _ _ _ _ _ _ H.at').mono ?_
  rintro e w' ⟨s', a', b', sm', rfl, h1, h2, h3⟩
  exact ⟨⟨s', a', b', sm', y.nb, y.g, y.x⟩, rfl, ⟨h1, H.nb, H.ok⟩, rfl, by simp [StX.blocks]; omega, h3⟩
theorem Abs.new_ok : Abs.new.ok := ⟨by decide, by decide, by decide, fun s id h => by simp [Abs.new] at h⟩
theorem newS_any (w : World) (hg : ∃ m, w.cell? ⟨1, 0, none⟩ = some (.int .i64 m)) :
    Calls Tryz.prog 22 #[] w fun e w' => ∃ y' : StX, e = .returned (.pointer (some ⟨y'.s, 0, none⟩)) ∧ StAt w' y' ∧ y'.x = Abs.new ∧ (∀ k ∈ y'.blocks, w.heap.size ≤ k) ∧ Below w.heap.size w w' := by
  refine (newState_any w hg).mono ?_
  rintro e w' ⟨s', a', b', sm', rfl, h1, h2, h3⟩
  exact ⟨⟨s', a', b', sm', 0, fun _ => none, Abs.new⟩, rfl, ⟨h1, Nat.le_refl _, Abs.new_ok⟩, rfl, by simp [StX.blocks]; omega, h3⟩
theorem statS_any (w : World) (y : StX) (H : StAt w y) (c : Fin 26) (id : Int) (hT : y.x.T (fp c.1) = some id) (bd : BodyA) (hS : y.x.S id = some bd) :
    Calls Tryz.prog 44 #[.pointer (some ⟨y.s, 0, none⟩), .string (fp c.1)] w fun e w' => e = .returned (.tuple #[.agg #[.int .i64 id, .bool false, .int .i64 bd.size], .int .i64 0]) ∧ Below w.heap.size w w' := by
  have hid := H.ok.ids _ _ hT
  have := H.ok.n2
  exact fstat_any w _ _ _ _ _ _ _ _ _ _ H.at' c id hT bd hS (by omega)
theorem bodyS_any (w : World) (y : StX) (H : StAt w y) (id : Int) (bd : BodyA) (hS : y.x.S id = some bd) (hid : 0 ≤ id ∧ id ≤ 100000) :
    Calls Tryz.prog 37 #[.pointer (some ⟨y.s, 0, none⟩), .int .i64 id] w fun e w' => ∃ v, e = .returned (.tuple #[v, .bool true]) ∧ BodyV w' v bd ∧ Below w.heap.size w w' :=
  fbody_any w _ _ _ _ _ _ _ _ _ _ H.at' id bd hS (by omega)
end Go.Proofs.YtaonlcgneemimaaGreatDoor
namespace Go.Proofs.YtaonlcgneemimaaGreatDoor
open Go.RowKit
theorem info73 : (Tryz.prog.info? 73).map (fun i => (i.zero, i.size, i.bytes)) = some (some (.pointer none), 1, 8) := by kernel_rfl
def ptrOf (y : StX) : Value := .pointer (some ⟨y.s, 0, none⟩)
/-- A history in memory: its block, its two rows. -/
structure HistAt (w : World) (h : Nat) (pv sv : Value) (xs : List StX) : Prop where
  cell : w.heap[h]? = some (.cells #[pv, sv] 115 (0, 0))
  pts : w.ownsRow 0 52 3 pv xs.length (ptsC xs.length)
  sts : w.ownsRow 0 73 1 sv xs.length (xs.map ptrOf)
  pnil : pv = .slice none 0 0 ∨ 0 < xs.length
  snil : sv = .slice none 0 0 ∨ 0 < xs.length
  each : ∀ y ∈ xs, StAt w y
  glob : ∃ m, w.cell? ⟨1, 0, none⟩ = some (.int .i64 m)
  few : xs.length ≤ 10000
theorem HistAt.psl {w : World} {h : Nat} {pv sv : Value} {xs : List StX} (H : HistAt w h pv sv xs) : PtsV w pv xs.length := Sl.of_own H.pts (ptsC_one _) H.pnil
theorem ptr_one (xs : List StX) : ∀ u ∈ xs.map ptrOf, u.oneCell' = true := by
  intro u hu
  obtain ⟨y, _, rfl⟩ := List.mem_map.1 hu
  rfl
theorem HistAt.ssl {w : World} {h : Nat} {pv sv : Value} {xs : List StX} (H : HistAt w h pv sv xs) : Sl w 73 1 sv xs.length (xs.map ptrOf) := Sl.of_own H.sts (ptr_one _) H.snil
set_option maxHeartbeats 1000000 in
theorem newHist_any (w : World) (hg : ∃ m, w.cell? ⟨1, 0, none⟩ = some (.int .i64 m)) :
    Calls Tryz.prog 20 #[] w fun e w' => e = .returned (.pointer (some ⟨w.heap.size, 0, none⟩)) ∧ HistAt w' w.heap.size (.slice none 0 0) (.slice none 0 0) [] ∧ Below w.heap.size w w' := by
  have hb : Below w.heap.size w (w.alloc (.cells #[.slice none 0 0, .slice none 0 0] 115)) := (Below.refl _ _).alloc (Nat.le_refl _) _
  have HG : Hid (∃ m, (w.alloc (.cells #[.slice none 0 0, .slice none 0 0] 115)).cell? ⟨1, 0, none⟩ = some (.int .i64 m)) := Lib.hid (by
    obtain ⟨m, hm⟩ := hg
    exact ⟨m, (hb.cell (p := ⟨1, 0, none⟩) (World.block_lt_of_cell? w _ hm)).trans hm⟩)
  clear hg
  go_enter Tryz.func20, Tryz.ntmps20
  go_wp2
  go_ret
  exact ⟨rfl, ⟨heap_new w _, World.ownsRow_nil _ _ _ _, World.ownsRow_nil _ _ _ _, .inl rfl, .inl rfl, fun y h => by simp at h, HG.out, by simp⟩, hb⟩
set_option maxHeartbeats 1000000 in
theorem histPoints_any (w : World) (h : Nat) (pv sv : Value) (xs : List StX) (H : HistAt w h pv sv xs) :
    Calls Tryz.prog 40 #[.pointer (some ⟨h, 0, none⟩)] w fun e w' => ∃ v, e = .returned v ∧ PtsV w' v xs.length ∧ Below w.heap.size w w' := by
  have HP := Lib.hid H.psl
  have hf := H.few
  have c0 : w.cell? ⟨h, 0, none⟩ = some pv := cellAt H.cell 0
  clear H
  go_enter Tryz.func40, Tryz.ntmps40
  go_wp2_with (go_at_call 83; refine (clonePoint_any _ _ _ _ HP.out (by omega)).mono ?_; rintro e w1 ⟨v, rfl, ho, hn, hq⟩; have HO := Lib.hid (show PtsV w1 v xs.length from Sl.of_own ho (ptsC_one _) (by rcases Nat.eq_zero_or_pos xs.length with h0 | h0; exact .inl (hn.2 h0); exact .inr h0)); have HQ := Lib.hid hq; clear ho hn hq)
  go_ret
  exact ⟨_, rfl, HO.out, HQ.out⟩
def ptV (n : Nat) : Value := .agg #[.int .i64 ((n : Int) + 1), .float .f64 0, .string ⟨#[]⟩]
def ptA (n : Nat) : Array Value := #[.int .i64 ((n : Int) + 1), .float .f64 0, .string ⟨#[]⟩]
set_option maxRecDepth 100000 in
set_option maxHeartbeats 4000000 in
theorem histMay_any (w : World) (h : Nat) (pv sv : Value) (xs : List StX) (H : HistAt w h pv sv xs) :
    Calls Tryz.prog 74 #[.pointer (some ⟨h, 0, none⟩), .agg #[.int .i64 ((xs.length : Int) + 1), .float .f64 0, .string ⟨#[]⟩]] w fun e w' => e = .returned (.bool true) ∧ Below w.heap.size w w' := by
  have HP := Lib.hid H.psl
  have hf := H.few
  have hlt := heap_lt H.cell
  obtain ⟨n, hn⟩ : ∃ n, n = xs.length := ⟨_, rfl⟩
  rw [← hn] at HP hf ⊢
  have c0 : w.cell? ⟨h, 0, none⟩ = some pv := cellAt H.cell 0
  obtain ⟨i0, hi, hz0, hz1, hz2⟩ := info_parts info52
  have HB : Hid (∀ o, Below w.heap.size w (w.alloc o)) := Lib.hid (fun o => (Below.refl _ _).alloc (Nat.le_refl _) _)
  have HX : Hid (∀ W : World, Below w.heap.size w W → W.cell? ⟨h, 0, none⟩ = some pv) := Lib.hid (fun W hW => (hW.cell (p := ⟨h, 0, none⟩) hlt).trans c0)
  have HN := Lib.hid (heap_new w (.cells #[.int .i64 ((n : Int) + 1), .float .f64 0, .string ⟨#[]⟩] 52))
  have HK : Hid (∀ W : World, Below (w.heap.size + 1) (w.alloc (.cells #[.int .i64 ((n : Int) + 1), .float .f64 0, .string ⟨#[]⟩] 52)) W → W.cell? ⟨h, 0, none⟩ = some pv ∧ W.cell? ⟨w.heap.size, 0, none⟩ = some (.int .i64 ((n : Int) + 1)) ∧ W.cell? ⟨w.heap.size, 1, none⟩ = some (.float .f64 0) ∧ W.cell? ⟨w.heap.size, 2, none⟩ = some (.string ⟨#[]⟩)) := Lib.hid (fun W hW => by
    have hh := Below.heap hW (by simp) HN.out
    refine ⟨?_, cellAt hh 0, cellAt hh 1, cellAt hh 2⟩
    rw [hW.cell (p := ⟨h, 0, none⟩) (by show h < _; omega)]
    exact HX.out _ (HB.out _))
  have HP0 : Hid (∀ W, Below (w.heap.size + 1) (w.alloc (.cells #[.int .i64 ((n : Int) + 1), .float .f64 0, .string ⟨#[]⟩] 52)) W → PtsV W pv n) := Lib.hid (fun W hW => (HP.out.below (HB.out _)).below (hW.mono (by simp)))
  clear H c0 hn
  go_enter Tryz.func74, Tryz.ntmps74
  go_wp2_with fail
  go_cut [4] from 5 (fun s4 wc => s4 = .bool true ∧ Hid (Below w.heap.size w wc))
  case first =>
    go_region_held3 (fun W => W.cell? ⟨h, 0, none⟩ = some pv ∧ W.cell? ⟨w.heap.size, 0, none⟩ = some (.int .i64 ((n : Int) + 1)) ∧ W.cell? ⟨w.heap.size, 1, none⟩ = some (.float .f64 0) ∧ W.cell? ⟨w.heap.size, 2, none⟩ = some (.string ⟨#[]⟩)) (first | exact HK.out _ ((Below.refl _ _).drew) | exact HK.out _ ((Below.refl _ _).drew.alloc (by simp) _) | exact HK.out _ HQ1.out | exact HK.out _ (HQ1.out.alloc (by have := HQ1.out.size; simp at this; omega) _) | exact HK.out _ HQ2.out | exact HK.out _ HQ3.out) (first | (go_at_call 83; refine (clonePoint_any _ _ _ _ (HP0.out _ (by first | exact (Below.refl _ _).drew | exact ((Below.refl _ _).drew.alloc (by simp) _))) (by omega)).mono ?_; rintro e w1 ⟨v, rfl, ho, hn, hq⟩; have HQ1 : Hid (Below (w.heap.size + 1) (w.alloc (.cells #[.int .i64 ((n : Int) + 1), .float .f64 0, .string ⟨#[]⟩] 52)) w1) := Lib.hid (by first | exact ((Below.refl _ _).drew).trans (hq.mono (by simp)) | exact ((Below.refl _ _).drew.alloc (by simp) _).trans (hq.mono (by simp))); have HO := Lib.hid (own_mono ho (base' := w.heap.size + 1) (by simp)); (first | (have HE : Hid (w1.heap[w.heap.size + 1]? = some (.cells #[.int .i64 ((n : Int) + 1), .float .f64 0, .string ⟨#[]⟩] 52 (0, 0))) := Lib.hid (by have h := Below.heap hq (Nat.le_refl _) (heap_new (w.alloc (.cells #[.int .i64 ((n : Int) + 1), .float .f64 0, .string ⟨#[]⟩] 52)).drew (.cells #[.int .i64 ((n : Int) + 1), .float .f64 0, .string ⟨#[]⟩] 52)); simpa using h)) | skip); clear ho hn hq) | (refine step_append_sl rfl _ _ 46 rfl (w.heap.size + 1) 52 i0 _ 3 32 Tryz.underlying46 hi hz0 hz1 hz2 rfl (by decide) v n _ rfl (HO.out.alloc _) _ 1 _ rfl (Sl.block' (heap_new w1 _) rfl (by simp [Value.oneCell']) (by decide) (by decide)) (by omega) (by decide) (by have := HQ1.out.size; simp at this; simp; omega) ?_; intro v2 w2 hown hgr _ _; have HV2 : Hid (PtsV w2 v2 (n + 1)) := Lib.hid (Sl.of_own hown (ptsC_one (n + 1)) (.inr (by omega))); have HQ2 : Hid (Below (w.heap.size + 1) (w.alloc (.cells #[.int .i64 ((n : Int) + 1), .float .f64 0, .string ⟨#[]⟩] 52)) w2) := Lib.hid ((HQ1.out.alloc (by have := HQ1.out.size; simp at this; omega) _).grown hgr (by have := HQ1.out.size; simp at this; simp; omega) (fun k hk => (HO.out.lt k hk).1)); clear hown hgr) | (refine step_append_sl rfl _ _ 46 rfl (w.heap.size + 1) 52 i0 _ 3 32 Tryz.underlying46 hi hz0 hz1 hz2 rfl (by decide) v n _ rfl HO.out _ 1 _ rfl (Sl.block' HE.out rfl (by simp [Value.oneCell']) (by decide) (by decide)) (by omega) (by decide) (by have := HQ1.out.size; simp at this; omega) ?_; intro v2 w2 hown hgr _ _; have HV2 : Hid (PtsV w2 v2 (n + 1)) := Lib.hid (Sl.of_own hown (ptsC_one (n + 1)) (.inr (by omega))); have HQ2 : Hid (Below (w.heap.size + 1) (w.alloc (.cells #[.int .i64 ((n : Int) + 1), .float .f64 0, .string ⟨#[]⟩] 52)) w2) := Lib.hid (HQ1.out.grown hgr (by have := HQ1.out.size; simp at this; omega) (fun k hk => (HO.out.lt k hk).1)); clear hown hgr) | (go_at_call 125; refine (pointsMay_any _ _ (n + 1) HV2.out (by omega)).mono ?_; rintro e w3 ⟨rfl, hq⟩; have HQ3 : Hid (Below (w.heap.size + 1) (w.alloc (.cells #[.int .i64 ((n : Int) + 1), .float .f64 0, .string ⟨#[]⟩] 52)) w3) := Lib.hid (HQ2.out.trans (hq.mono (by have := HQ2.out.size; simp at this; omega))); clear hq))
    all_goals
      go_wp2_with fail
      go_meet
      case rel => exact ⟨rfl, (HB.out _).trans (HQ3.out.mono (by omega))⟩
  case rest =>
    obtain ⟨rfl, hbel⟩ := hcut
    go_wp2
    go_ret
    exact ⟨rfl, hbel.out⟩
set_option maxRecDepth 100000 in
set_option maxHeartbeats 4000000 in
theorem histLast_none (w : World) (h : Nat) (pv sv : Value) (H : HistAt w h pv sv []) :
    Calls Tryz.prog 76 #[.pointer (some ⟨h, 0, none⟩)] w fun e w' => ∃ y' : StX, e = .returned (.pointer (some ⟨y'.s, 0, none⟩)) ∧ StAt w' y' ∧ y'.x = Abs.new ∧ (∀ k ∈ y'.blocks, w.heap.size ≤ k) ∧ Below w.heap.size w w' := by
  have HG := Lib.hid H.glob
  have hs := H.snil
  simp only [List.length_nil, Nat.lt_irrefl, or_false] at hs
  subst hs
  have c1 : w.cell? ⟨h, 1, none⟩ = some (.slice none 0 0) := cellAt H.cell 1
  clear H
  go_enter Tryz.func76, Tryz.ntmps76
  go_wp2_with (go_at_call 22; refine (newS_any _ HG.out).mono ?_; rintro e w1 ⟨y', rfl, h1, h2, h3, h4⟩; have HF : Hid (StAt w1 y' ∧ y'.x = Abs.new ∧ (∀ k ∈ y'.blocks, w.heap.size ≤ k) ∧ Below w.heap.size w w1) := Lib.hid ⟨h1, h2, h3, h4⟩; clear h1 h2 h3 h4)
  go_ret
  exact ⟨_, rfl, HF.out⟩
set_option maxRecDepth 100000 in
set_option maxHeartbeats 4000000 in
theorem histLast_some (w : World) (h : Nat) (pv sv : Value) (xs : List StX) (y : StX) (H : HistAt w h pv sv (xs ++ [y])) :
    Calls Tryz.prog 76 #[.pointer (some ⟨h, 0, none⟩)] w fun e w' => ∃ y' : StX, e = .returned (.pointer (some ⟨y'.s, 0, none⟩)) ∧ StAt w' y' ∧ y'.x = y.x ∧ (∀ k ∈ y'.blocks, w.heap.size ≤ k) ∧ Below w.heap.size w w' := by
  have HY := Lib.hid (H.each y (by simp))
  have hs := H.ssl
  have hf := H.few
  rw [show (xs ++ [y]).length = xs.length + 1 by simp] at hs hf
  obtain ⟨n, hn⟩ : ∃ n, n = xs.length := ⟨_, rfl⟩
  rw [← hn] at hs hf
  obtain ⟨a, cap, rfl, hcap, -, hcells⟩ := hs.shape
  obtain ⟨g, off, rfl, hg, hc⟩ := hcells n (by omega)
  have c2 : w.cell? ⟨g, off + n, none⟩ = some (.pointer (some ⟨y.s, 0, none⟩)) := by
    have := hc 0 (ptrOf y) (by decide) (by simp [hn])
    simpa [ptrOf] using this
  have c1 : w.cell? ⟨h, 1, none⟩ = some (.slice (some ⟨g, off, none⟩) (n + 1) cap) := cellAt H.cell 1
  have e1 : IntKind.i64.wrap ((n : Int) + 1 - 1) = (n : Int) := by
    rw [show (n : Int) + 1 - 1 = n by omega]
    exact IntWalk.i64_in _ (by omega)
  have e2 : wrap64 ((n : Int) + 1 - 1) = (n : Int) := by
    rw [show (n : Int) + 1 - 1 = n by omega]
    exact IntWalk.wrap64_in _ (by omega)
  have e3 : IntKind.i64.wrap (n : Int) = (n : Int) := IntWalk.i64_in _ (by omega)
  have e4 : (n : Int) < (n : Int) + 1 := by omega
  have e5 : IntKind.i64.wrap ((n : Int) + 1) = (n : Int) + 1 := IntWalk.i64_in _ (by omega)
  clear H hs hcells hc hn
  go_enter Tryz.func76, Tryz.ntmps76
  go_wp2_with fail
  go_region_held3 (fun W => W.cell? ⟨h, 1, none⟩ = some (.slice (some ⟨g, off, none⟩) (n + 1) cap) ∧ W.cell? ⟨g, off + n, none⟩ = some (.pointer (some ⟨y.s, 0, none⟩))) (first | exact ⟨c1, c2⟩ | exact ⟨k1, k2⟩) (first | (go_at_call 129; refine (copyS_any _ _ (HY.out.below ((Below.refl _ _).drew))).mono ?_; rintro e w1 ⟨y', rfl, h1, h2, h3, h4⟩; have hw : Below w.heap.size w w1 := ((Below.refl _ _).drew).trans h4; have k1 := (hw.cell (p := ⟨h, 1, none⟩) (World.block_lt_of_cell? w _ c1)).trans c1; have k2 := (hw.cell (p := ⟨g, off + n, none⟩) hg).trans c2; have HF : Hid (StAt w1 y' ∧ y'.x = y.x ∧ (∀ k ∈ y'.blocks, w.heap.size ≤ k) ∧ Below w.heap.size w w1) := Lib.hid ⟨h1, h2, h3, hw⟩; clear h1 h2 h3 h4 hw))
  go_wp2_with fail
  go_ret
  exact ⟨_, rfl, HF.out⟩
end Go.Proofs.YtaonlcgneemimaaGreatDoor
namespace Go.Proofs.YtaonlcgneemimaaGreatDoor
open Go.RowKit
set_option maxRecDepth 100000 in
set_option maxHeartbeats 4000000 in
theorem histState_any (w : World) (h : Nat) (pv sv : Value) (xs : List StX) (H : HistAt w h pv sv xs) (j : Nat) (y : StX) (hj : xs[j]? = some y) :
    Calls Tryz.prog 77 #[.pointer (some ⟨h, 0, none⟩), .int .i64 ((j : Int) + 1)] w fun e w' => ∃ y' : StX, e = .returned (.tuple #[.pointer (some ⟨y'.s, 0, none⟩), .int .i64 0]) ∧ StAt w' y' ∧ y'.x = y.x ∧ (∀ k ∈ y'.blocks, w.heap.size ≤ k) ∧ Below w.heap.size w w' := by
  have HY := Lib.hid (H.each y (List.mem_of_getElem? hj))
  have hf := H.few
  have hjl := (List.getElem?_eq_some_iff.1 hj).1
  obtain ⟨a, cap, rfl, hcap, -, hcells⟩ := pts_cells H.psl
  have HC := Lib.hid hcells
  obtain ⟨sa, scap, rfl, hscap, -, hscells⟩ := H.ssl.shape
  obtain ⟨g, off, rfl, hg, hc⟩ := hscells j hjl
  have c2 : w.cell? ⟨g, off + j, none⟩ = some (.pointer (some ⟨y.s, 0, none⟩)) := by
    have := hc 0 (ptrOf y) (by decide) (by simp [hj])
    simpa [ptrOf] using this
  obtain ⟨n, hn⟩ : ∃ n, n = xs.length := ⟨_, rfl⟩
  rw [← hn] at hf hjl hcap HC
  have c0 : w.cell? ⟨h, 0, none⟩ = some (.slice a n cap) := hn ▸ cellAt H.cell 0
  have c1 : w.cell? ⟨h, 1, none⟩ = some (.slice (some ⟨g, off, none⟩) n scap) := hn ▸ cellAt H.cell 1
  have hhl := heap_lt H.cell
  have hsf := fun (W : World) (p : Addr) => run_store Tryz.prog W p (.float .f64 0) .plain rfl
  clear H hcells hscells hc hj hn hscap
  go_enter Tryz.func77, Tryz.ntmps77
  go_wp2
  go_loopw [15] (fun ti wr => ∃ k : Nat, k ≤ j ∧ ti = .int .i64 k ∧ Hid (Below w.heap.size w wr)) (fun i _ => n - (intOf i).toNat)
  case atStart => exact ⟨0, by omega, rfl, Below.refl _ _⟩
  case round =>
    obtain ⟨k, hk, rfl, hbel⟩ := hrel
    obtain ⟨g1, off1, rfl, hg1, p0, p1, p2⟩ := HC.out k (by omega)
    have t : ∀ (b o : Nat) u, b < w.heap.size → w.cell? ⟨b, o, none⟩ = some u → wr.cell? ⟨b, o, none⟩ = some u := fun b o u hb h => by
      rw [hbel.out.cell (p := ⟨b, o, none⟩) hb]
      exact h
    have q0 := t _ _ _ hg1 p0
    have q1 := t _ _ _ hg1 p1
    have q2 := t _ _ _ hg1 p2
    have r1 := t _ _ _ hhl c1
    have r2 := t _ _ _ hg c2
    have hs := hbel.out.size
    have hwh : h < wr.heap.size := by omega
    have hwg : g < wr.heap.size := by omega
    have hkn : k < n := by omega
    have hb2 := Lib.hid (hbel.out.alloc hs (.cells #[.int .i64 ((k : Int) + 1), .float .f64 0, .string ⟨#[]⟩] 52))
    clear p0 p1 p2 t
    by_cases e : k = j
    · subst e
      go_wp2_with (go_at_call 129; refine (copyS_any _ _ (HY.out.below hb2.out)).mono ?_; rintro e w1 ⟨y', rfl, h1, h2, h3, h4⟩; have HF : Hid (StAt w1 y' ∧ y'.x = y.x ∧ (∀ k ∈ y'.blocks, w.heap.size ≤ k) ∧ Below w.heap.size w w1) := Lib.hid ⟨h1, h2, fun k hk => Nat.le_trans hb2.out.size (h3 k hk), hb2.out.trans (h4.mono hb2.out.size)⟩; clear h1 h2 h3 h4)
      go_ret2
      exact ⟨_, rfl, HF.out⟩
    · have d1 : ((k : Int) + 1 == (j : Int) + 1) = false := by simp; omega
      have d2 : ¬ ((k : Int) = j) := by omega
      go_wp2
      go_roundw
      case rel => exact ⟨k + 1, by omega, by go_num, hb2.out⟩
      case measure => simp [intOf]; omega
end Go.Proofs.YtaonlcgneemimaaGreatDoor
namespace Go.Proofs.YtaonlcgneemimaaGreatDoor
open Go.RowKit
theorem own_below {w w' : World} {B e sz n : Nat} {v : Value} {xs : List Value} (h : w.ownsRow B e sz v n xs) (hb : Below w.heap.size w w') : w'.ownsRow B e sz v n xs :=
  row_kept h (fun _ _ hk _ => Below.heap hb (Nat.le_refl _) hk)
theorem HistAt.below {w w' : World} {h : Nat} {pv sv : Value} {xs : List StX} (H : HistAt w h pv sv xs) (hb : Below w.heap.size w w') : HistAt w' h pv sv xs := by
  refine ⟨Below.heap hb (Nat.le_refl _) H.cell, own_below H.pts hb, own_below H.sts hb, H.pnil, H.snil, fun y hy => (H.each y hy).below hb, ?_, H.few⟩
  obtain ⟨m, hm⟩ := H.glob
  exact ⟨m, (hb.cell (p := ⟨1, 0, none⟩) (World.block_lt_of_cell? w _ hm)).trans hm⟩
/-- The last state. -/
noncomputable def lastX (xs : List StX) : Abs := match xs.getLast? with
  | none => Abs.new
  | some y => y.x
theorem histLast_any (w : World) (h : Nat) (pv sv : Value) (xs : List StX) (H : HistAt w h pv sv xs) :
    Calls Tryz.prog 76 #[.pointer (some ⟨h, 0, none⟩)] w fun e w' => ∃ y' : StX, e = .returned (.pointer (some ⟨y'.s, 0, none⟩)) ∧ StAt w' y' ∧ y'.x = lastX xs ∧ (∀ k ∈ y'.blocks, w.heap.size ≤ k) ∧ Below w.heap.size w w' := by
  rcases List.eq_nil_or_concat xs with rfl | ⟨l, y, rfl⟩
  · exact histLast_none w h pv sv H
  · rw [List.concat_eq_append] at H ⊢
    refine (histLast_some w h pv sv l y H).mono ?_
    rintro e w' ⟨y', h1, h2, h3, h4⟩
    exact ⟨y', h1, h2, by rw [h3]; simp [lastX], h4⟩
theorem Frame.belowIf {M : List Nat} {B : Nat} {w w1 w2 : World} (h : Frame M w1 w2) (hb : Below B w w1) (hM : ∀ k ∈ M, B ≤ k) (hs : B ≤ w1.heap.size) : Below B w w2 := by
  refine hb.trans ⟨h.os, h.tape, h.output, h.size, fun k hk => h.block k (by omega) (fun hm => ?_)⟩
  have := hM k hm
  omega
/-- What the two appends come to. -/
structure AddFin (w : World) (pv sv : Value) (n : Nat) (ps : List Value) (p : Value) (v1 v2 : Value) (wf : World) : Prop where
  pts : wf.ownsRow 0 52 3 v1 (n + 1) (ptsC (n + 1))
  sts : wf.ownsRow 0 73 1 v2 (n + 1) (ps ++ [p])
  fr : Frame (pv.ownBlock.toList ++ sv.ownBlock.toList) w wf
  b1 : v1.ownBlock = pv.ownBlock ∨ ∀ k ∈ v1.ownBlock.toList, w.heap.size ≤ k
  b2 : v2.ownBlock = sv.ownBlock ∨ ∀ k ∈ v2.ownBlock.toList, w.heap.size ≤ k
theorem app_pt {w : World} {pv : Value} {n k : Nat} (hp : w.ownsRow 0 52 3 pv n (ptsC n)) (hk : w.heap[k]? = some (.cells #[.int .i64 ((n : Int) + 1), .float .f64 0, .string ⟨#[]⟩] 52 (0, 0))) (hn : n ≤ 10000) :
    ∃ v' w', (Builtin.append_ #[46, 46] 46 #[pv, .slice (some ⟨k, 0, none⟩) 1 1]).run Tryz.prog w = .ok v' w' ∧ w'.ownsRow 0 52 3 v' (n + 1) (ptsC (n + 1)) ∧ w.grownBy w' pv.ownBlock ∧ (v'.ownBlock = pv.ownBlock ∨ v'.ownBlock = some w.heap.size) := by
  obtain ⟨i0, hi, hz0, hz1, hz2⟩ := info_parts info52
  obtain ⟨v', w', h1, h2, h3, -, h5⟩ := append_run_sl (P := Tryz.prog) (w := w) 0 46 46 52 i0 _ 3 32 Tryz.underlying46 hi hz0 hz1 hz2 rfl (by decide) pv n _ hp _ 1 _ (Sl.block' hk rfl (by simp [Value.oneCell']) (by decide) (by decide)) (by omega) (by decide) (Nat.zero_le _)
  exact ⟨v', w', h1, h2, h3, h5⟩
theorem app_st {w : World} {sv : Value} {n k s : Nat} {ps : List Value} (hp : w.ownsRow 0 73 1 sv n ps) (hk : w.heap[k]? = some (.cells #[.pointer (some ⟨s, 0, none⟩)] 73 (0, 0))) (hn : n ≤ 10000) :
    ∃ v' w', (Builtin.append_ #[113, 113] 113 #[sv, .slice (some ⟨k, 0, none⟩) 1 1]).run Tryz.prog w = .ok v' w' ∧ w'.ownsRow 0 73 1 v' (n + 1) (ps ++ [.pointer (some ⟨s, 0, none⟩)]) ∧ w.grownBy w' sv.ownBlock ∧ (v'.ownBlock = sv.ownBlock ∨ v'.ownBlock = some w.heap.size) := by
  obtain ⟨i0, hi, hz0, hz1, hz2⟩ := info_parts info73
  obtain ⟨v', w', h1, h2, h3, -, h5⟩ := append_run_sl (P := Tryz.prog) (w := w) 0 113 113 73 i0 _ 1 8 Tryz.underlying113 hi hz0 hz1 hz2 rfl (by decide) sv n _ hp _ 1 _ (Sl.block' hk rfl (by simp [Value.oneCell']) (by decide) (by decide)) (by omega) (by decide) (Nat.zero_le _)
  exact ⟨v', w', h1, h2, h3, h5⟩
theorem other_row {w w' : World} {e1 e2 s1 s2 n m : Nat} {v1 v2 : Value} {xs ys : List Value} (h1 : w.ownsRow 0 e1 s1 v1 n xs) (h2 : w.ownsRow 0 e2 s2 v2 m ys) (hne : e1 ≠ e2) (hg : w.grownBy w' v1.ownBlock) : w'.ownsRow 0 e2 s2 v2 m ys := by
  refine h2.kept hg ?_
  rcases h2.2 with ⟨rfl, _⟩ | ⟨g, cap, cur, rfl, _, hg2, _⟩
  · exact .inl rfl
  · refine .inr (fun e => ?_)
    exact own_neq h1 hg2 hne e.symm
def ptO (n : Nat) : Obj := .cells #[.int .i64 ((n : Int) + 1), .float .f64 0, .string ⟨#[]⟩] 52
def stO (s : Nat) : Obj := .cells #[.pointer (some ⟨s, 0, none⟩)] 73
/-- The cells that the region of Add reads. -/
def AddC (w : World) (h q : Nat) (pv sv : Value) (n : Nat) : Prop :=
  w.cell? ⟨h, 0, none⟩ = some pv ∧ w.cell? ⟨h, 1, none⟩ = some sv ∧ w.frozen? ⟨h, 0, none⟩ = false ∧ w.frozen? ⟨h, 1, none⟩ = false ∧ w.cell? ⟨q, 0, none⟩ = some (.int .i64 ((n : Int) + 1)) ∧ w.cell? ⟨q, 1, none⟩ = some (.float .f64 0) ∧ w.cell? ⟨q, 2, none⟩ = some (.string ⟨#[]⟩)
theorem own_lt' {w : World} {B e sz n g : Nat} {v : Value} {xs : List Value} (h : w.ownsRow B e sz v n xs) (hg : v.ownBlock = some g) : g < w.heap.size := (h.lt g hg).2
set_option maxHeartbeats 1000000 in
/-- One order: both blocks are there. -/
theorem add_run {w W : World} {h q k1 : Nat} {pv sv : Value} {n : Nat} {ps : List Value} (hB : Below w.heap.size w W)
    (hp : w.ownsRow 0 52 3 pv n (ptsC n)) (hs : w.ownsRow 0 73 1 sv n ps) (hn : n ≤ 10000)
    (hh : w.heap[h]? = some (.cells #[pv, sv] 115 (0, 0))) (hq : w.heap[q]? = some (.cells #[.int .i64 ((n : Int) + 1), .float .f64 0, .string ⟨#[]⟩] 52 (0, 0)))
    (hqp : ∀ g, pv.ownBlock = some g → g ≠ q) (h1 : W.heap[k1]? = some (.cells #[.int .i64 ((n : Int) + 1), .float .f64 0, .string ⟨#[]⟩] 52 (0, 0))) :
    ∃ v1 wa, (Builtin.append_ #[46, 46] 46 #[pv, .slice (some ⟨k1, 0, none⟩) 1 1]).run Tryz.prog W = .ok v1 wa ∧ wa.ownsRow 0 52 3 v1 (n + 1) (ptsC (n + 1)) ∧ wa.ownsRow 0 73 1 sv n ps ∧ Frame pv.ownBlock.toList w wa ∧ (v1.ownBlock = pv.ownBlock ∨ ∀ g, v1.ownBlock = some g → w.heap.size ≤ g) ∧ AddC wa h q pv sv n ∧ W.grownBy wa pv.ownBlock ∧ wa.heap[h]? = some (.cells #[pv, sv] 115 (0, 0)) ∧ wa.heap[q]? = some (.cells #[.int .i64 ((n : Int) + 1), .float .f64 0, .string ⟨#[]⟩] 52 (0, 0)) := by
  have hpW := own_below hp hB
  have hsW := own_below hs hB
  obtain ⟨v1, wa, r1, o1, g1, b1⟩ := app_pt hpW h1 hn
  have hF : Frame pv.ownBlock.toList w wa := (Frame.of_below hB _).grown g1 (fun k hk => .inl (by simp [hk]))
  have e1 : wa.heap[h]? = some (.cells #[pv, sv] 115 (0, 0)) := hF.heap hh (fun hm => by
    have := own_neq hp hh (by decide)
    simp at hm
    exact this hm)
  have e2 := hF.heap hq (fun hm => by
    simp at hm
    exact hqp _ hm rfl)
  refine ⟨v1, wa, r1, o1, other_row hpW hsW (by decide) g1, hF, ?_, ⟨cellAt e1 0, cellAt e1 1, frozenAt e1 0, frozenAt e1 1, cellAt e2 0, cellAt e2 1, cellAt e2 2⟩, g1, e1, e2⟩
  rcases b1 with b1 | b1
  · exact .inl b1
  · refine .inr (fun g hg => ?_)
    rw [b1] at hg
    cases hg
    exact hB.size
theorem add_run2 {w W : World} {h q s k2 : Nat} {pv sv v1 : Value} {n : Nat} {ps : List Value} (hF : Frame pv.ownBlock.toList w W)
    (hp : W.ownsRow 0 52 3 v1 (n + 1) (ptsC (n + 1))) (hs : W.ownsRow 0 73 1 sv n ps) (hn : n ≤ 10000)
    (hh : W.heap[h]? = some (.cells #[pv, sv] 115 (0, 0))) (hq : W.heap[q]? = some (.cells #[.int .i64 ((n : Int) + 1), .float .f64 0, .string ⟨#[]⟩] 52 (0, 0)))
    (b1 : v1.ownBlock = pv.ownBlock ∨ ∀ g, v1.ownBlock = some g → w.heap.size ≤ g)
    (h2 : W.heap[k2]? = some (.cells #[.pointer (some ⟨s, 0, none⟩)] 73 (0, 0))) :
    ∃ v2 wf, (Builtin.append_ #[113, 113] 113 #[sv, .slice (some ⟨k2, 0, none⟩) 1 1]).run Tryz.prog W = .ok v2 wf ∧ AddFin w pv sv n ps (.pointer (some ⟨s, 0, none⟩)) v1 v2 wf ∧ AddC wf h q pv sv n ∧ wf.heap[h]? = some (.cells #[pv, sv] 115 (0, 0)) := by
  obtain ⟨v2, wf, r2, o2, g2, b2⟩ := app_st hs h2 hn
  have hF2 : Frame sv.ownBlock.toList W wf := (Frame.refl _ _).grown g2 (fun k hk => .inl (by simp [hk]))
  have e1 : wf.heap[h]? = some (.cells #[pv, sv] 115 (0, 0)) := hF2.heap hh (fun hm => by
    have := own_neq hs hh (by decide)
    simp at hm
    exact this hm)
  have e2 := hF2.heap hq (fun hm => by
    have := own_neq hs hq (by decide)
    simp at hm
    exact this hm)
  refine ⟨v2, wf, r2, ⟨other_row hs hp (by decide) g2, o2, (hF.mono (M' := pv.ownBlock.toList ++ sv.ownBlock.toList) (fun x hx => .inl (by simp at hx; simp [hx]))).trans hF2 (fun x hx => .inl (by simp at hx; simp [hx])), ?_, ?_⟩, ⟨cellAt e1 0, cellAt e1 1, frozenAt e1 0, frozenAt e1 1, cellAt e2 0, cellAt e2 1, cellAt e2 2⟩, e1⟩
  · rcases b1 with b1 | b1
    · exact .inl b1
    · exact .inr (fun k hk => b1 k (by simpa using hk))
  · rcases b2 with b2 | b2
    · exact .inl b2
    · refine .inr (fun k hk => ?_)
      rw [b2] at hk
      simp at hk
      subst hk
      exact hF.size
theorem heap_new2 (w : World) (a b : Obj) : ((w.alloc a).alloc b).drew.heap[w.heap.size + 1]? = some b := by
  have := heap_new (w.alloc a) b
  rw [World.size_alloc] at this
  exact this
/-- The three orders. -/
theorem add_orders {w : World} {h q s : Nat} {pv sv : Value} {n : Nat} {ps : List Value}
    (hp : w.ownsRow 0 52 3 pv n (ptsC n)) (hs : w.ownsRow 0 73 1 sv n ps) (hn : n ≤ 10000)
    (hh : w.heap[h]? = some (.cells #[pv, sv] 115 (0, 0))) (hq : w.heap[q]? = some (.cells #[.int .i64 ((n : Int) + 1), .float .f64 0, .string ⟨#[]⟩] 52 (0, 0)))
    (hqp : ∀ g, pv.ownBlock = some g → g ≠ q) :
    (∃ v1 wa v2 wf, (Builtin.append_ #[46, 46] 46 #[pv, .slice (some ⟨w.heap.size, 0, none⟩) 1 1]).run Tryz.prog (w.alloc (.cells #[.int .i64 ((n : Int) + 1), .float .f64 0, .string ⟨#[]⟩] 52)).drew = .ok v1 wa ∧ AddC wa h q pv sv n ∧
      (Builtin.append_ #[113, 113] 113 #[sv, .slice (some ⟨wa.heap.size, 0, none⟩) 1 1]).run Tryz.prog (wa.alloc (.cells #[.pointer (some ⟨s, 0, none⟩)] 73)) = .ok v2 wf ∧ AddFin w pv sv n ps (.pointer (some ⟨s, 0, none⟩)) v1 v2 wf ∧ AddC wf h q pv sv n ∧ wf.heap[h]? = some (.cells #[pv, sv] 115 (0, 0))) ∧
    (∃ v1 wa v2 wf, (Builtin.append_ #[46, 46] 46 #[pv, .slice (some ⟨w.heap.size, 0, none⟩) 1 1]).run Tryz.prog ((w.alloc (.cells #[.int .i64 ((n : Int) + 1), .float .f64 0, .string ⟨#[]⟩] 52)).alloc (.cells #[.pointer (some ⟨s, 0, none⟩)] 73)).drew = .ok v1 wa ∧ AddC wa h q pv sv n ∧
      (Builtin.append_ #[113, 113] 113 #[sv, .slice (some ⟨w.heap.size + 1, 0, none⟩) 1 1]).run Tryz.prog wa = .ok v2 wf ∧ AddFin w pv sv n ps (.pointer (some ⟨s, 0, none⟩)) v1 v2 wf ∧ AddC wf h q pv sv n ∧ wf.heap[h]? = some (.cells #[pv, sv] 115 (0, 0))) ∧
    (∃ v1 wa v2 wf, (Builtin.append_ #[46, 46] 46 #[pv, .slice (some ⟨w.heap.size + 1, 0, none⟩) 1 1]).run Tryz.prog ((w.alloc (.cells #[.pointer (some ⟨s, 0, none⟩)] 73)).alloc (.cells #[.int .i64 ((n : Int) + 1), .float .f64 0, .string ⟨#[]⟩] 52)).drew = .ok v1 wa ∧ AddC wa h q pv sv n ∧
      (Builtin.append_ #[113, 113] 113 #[sv, .slice (some ⟨w.heap.size, 0, none⟩) 1 1]).run Tryz.prog wa = .ok v2 wf ∧ AddFin w pv sv n ps (.pointer (some ⟨s, 0, none⟩)) v1 v2 wf ∧ AddC wf h q pv sv n ∧ wf.heap[h]? = some (.cells #[pv, sv] 115 (0, 0))) := by
  have B1 : ∀ o, Below w.heap.size w (w.alloc o).drew := fun o => ((Below.refl _ _).alloc (Nat.le_refl _) _).drew
  have B2 : ∀ o o', Below w.heap.size w ((w.alloc o).alloc o').drew := fun o o' => (((Below.refl _ _).alloc (Nat.le_refl _) _).alloc (by simp) _).drew
  have row_other : ∀ (wa : World) (W : World) (k2 : Nat), W.grownBy wa pv.ownBlock → W.ownsRow 0 52 3 pv n (ptsC n) → W.heap[k2]? = some (.cells #[.pointer (some ⟨s, 0, none⟩)] 73 (0, 0)) → wa.heap[k2]? = some (.cells #[.pointer (some ⟨s, 0, none⟩)] 73 (0, 0)) := fun wa W k2 hg ho hk => grown_heap hg hk (own_neq ho hk (by decide))
  refine ⟨?_, ?_, ?_⟩
  · obtain ⟨v1, wa, r1, o1, o1', f1, b1, c1, -, d1, d2⟩ := add_run (B1 _) hp hs hn hh hq hqp (heap_new w _)
    obtain ⟨v2, wf, r2, a2, c2, d3⟩ := add_run2 (f1.alloc (.cells #[.pointer (some ⟨s, 0, none⟩)] 73)) (o1.alloc _) (o1'.alloc _) hn (heap_old d1 _) (heap_old d2 _) b1 (heap_new wa _)
    exact ⟨v1, wa, v2, wf, r1, c1, r2, a2, c2, d3⟩
  · obtain ⟨v1, wa, r1, o1, o1', f1, b1, c1, g1, d1, d2⟩ := add_run (B2 _ (.cells #[.pointer (some ⟨s, 0, none⟩)] 73)) hp hs hn hh hq hqp (heap_old (heap_new w _) _)
    obtain ⟨v2, wf, r2, a2, c2, d3⟩ := add_run2 f1 o1 o1' hn d1 d2 b1 (row_other wa _ (w.heap.size + 1) g1 (own_below hp (B2 _ _)) (heap_new2 w _ _))
    exact ⟨v1, wa, v2, wf, r1, c1, r2, a2, c2, d3⟩
  · obtain ⟨v1, wa, r1, o1, o1', f1, b1, c1, g1, d1, d2⟩ := add_run (k1 := w.heap.size + 1) (B2 (.cells #[.pointer (some ⟨s, 0, none⟩)] 73) (.cells #[.int .i64 ((n : Int) + 1), .float .f64 0, .string ⟨#[]⟩] 52)) hp hs hn hh hq hqp (heap_new2 w _ _)
    obtain ⟨v2, wf, r2, a2, c2, d3⟩ := add_run2 f1 o1 o1' hn d1 d2 b1 (row_other wa _ w.heap.size g1 (own_below hp (B2 _ _)) (heap_old (heap_new w _) _))
    exact ⟨v1, wa, v2, wf, r1, c1, r2, a2, c2, d3⟩
end Go.Proofs.YtaonlcgneemimaaGreatDoor
namespace Go.Proofs.YtaonlcgneemimaaGreatDoor
open Go.RowKit
/-! A region whose loads come first, though its last stores write what they read: the condition on the world may hang on which operations have come up. -/
section
variable {P : Program} {ops : Array Oper} {Q : Exit → Act → World → Prop} {md : Region.Mode}
/-- Whatever order is picked; behind each operation S holds of those that have come up, and of the world. -/
def wpAnyT (P : Program) (md : Region.Mode) (ops : Array Oper) (Q : Exit → Act → World → Prop) (S : Array Bool → World → Prop) : Nat → Array Bool → Act → World → Prop
  | 0, L, a, w => Region.ready md ops L = [] ∧ Q .normal a w
  | f + 1, L, a, w => (Region.ready md ops L = [] → Q .normal a w) ∧ ∀ i ∈ Region.ready md ops L, wpOp P ops Q i (fun a' w' => S (L.setIfInBounds i true) w' ∧ wpAnyT P md ops Q S f (L.setIfInBounds i true) a' w') a w
theorem any_of_T {S : Array Bool → World → Prop} : ∀ (f : Nat) (L : Array Bool) (a : Act) (w : World), wpAnyT P md ops Q S f L a w → wpAny P md ops Q f L a w
  | 0, _, _, _, h => h
  | f + 1, _, _, _, h => ⟨h.1, fun i hi => wpOp_mono (fun a' w' h' => any_of_T f _ a' w' h'.2) (h.2 i hi)⟩
theorem wp_region_T {id : Nat} {a : Act} {w : World} (S : Array Bool → World → Prop) (hm : P.follows .mixedOrders = true)
    (h : wpAnyT P .any ops Q S ops.size (Array.replicate ops.size false) a w.drew) : (Code.region id ops true).wp P Q a w :=
  wp_region_any hm (any_of_T _ _ _ _ h)
/-- What S says as long as number p has not come up. -/
def Till (S : Array Bool → World → Prop) (p : Nat) (w : World) : Prop := ∃ L : Array Bool, L.getD p true = false ∧ S L w
theorem anyT_first {S : Array Bool → World → Prop} {i p : Nat} {oi op : Oper} {v : Value} (hi : ops[i]? = some oi) (hp : ops[p]? = some op) (hwait : ∃ e ∈ op.after, Region.binds md e = true ∧ e.on = i)
    (hS : ∀ L w, S (L.setIfInBounds i true) w ↔ S L w)
    (hsel : ∀ (j : Nat) (o : Oper) cs b, ops[j]? = some o → o.op ≠ .select cs b) (hQ : ∀ c a w, Q (.panic c) (a.put oi.dst v) w → Q (.panic c) a w) :
    ∀ (f : Nat) (L : Array Bool) (a : Act) (w : World),
      (∀ j oj, ops[j]? = some oj → j ≠ i → L.getD j true = false → (∀ e ∈ oj.after, Region.binds md e = true → e.on ≠ i) → oi.apart ops oj = true) →
      i ∈ Region.ready md ops L → L.getD p true = false → YieldsIf P ops (Till S p) oi v a → S L w →
      wpAnyT P md ops Q S f (L.setIfInBounds i true) (a.put oi.dst v) w → wpAnyT P md ops Q S (f + 1) L a w := by
  intro f
  induction f with
  | zero =>
    intro L a w _ hr hpL hy hSL H
    refine ⟨fun h => (by rw [h] at hr; cases hr), fun j hj => ?_⟩
    by_cases hji : j = i
    · subst hji
      exact hy.wpOp hi ⟨L, hpL, hSL⟩ ⟨(hS L w).2 hSL, H⟩
    · have := ready_mono hj hji
      rw [H.1] at this
      cases this
  | succ f ih =>
    intro L a w hfree hr hpL hy hSL H
    refine ⟨fun h => (by rw [h] at hr; cases hr), fun j hj => ?_⟩
    by_cases hji : j = i
    · subst hji
      exact hy.wpOp hi ⟨L, hpL, hSL⟩ ⟨(hS L w).2 hSL, H⟩
    · have h1 := H.2 j (ready_mono hj hji)
      obtain ⟨hjun, oj, hoj, hall⟩ := mem_ready.1 hj
      have hiun := (mem_ready.1 hr).1
      have hnot : ∀ e ∈ oj.after, Region.binds md e = true → e.on ≠ i := fun e he hb heq => by
        have h2 := hall e he hb
        rw [heq] at h2
        rcases Nat.lt_or_ge i L.size with h' | h'
        · simp [h'] at h2 hiun
          rw [hiun] at h2
          cases h2
        · simp [Array.getElem?_eq_none h'] at h2
      have hjp : j ≠ p := by
        rintro rfl
        obtain ⟨e, he, hb, heq⟩ := hwait
        rw [hp] at hoj
        cases hoj
        exact hnot e he hb heq
      have h2 := wpOp_putIf hoj (hfree j oj hoj hji hjun hnot) (fun cs b => hsel i oi cs b hi) (fun cs b => hsel j oj cs b hoj) hQ hy h1
      have hfree' : ∀ k ok, ops[k]? = some ok → k ≠ i → (L.setIfInBounds j true).getD k true = false →
          (∀ e ∈ ok.after, Region.binds md e = true → e.on ≠ i) → oi.apart ops ok = true := fun k ok hk hki hun hno => by
        refine hfree k ok hk hki ?_ hno
        by_cases hjk : j = k
        · subst hjk; exact hjun
        · rw [getD_set_ne true hjk] at hun; exact hun
      refine wpOp_mono (fun a' w' h3 => ?_) h2
      obtain ⟨hy', hS', H'⟩ := h3
      rw [Array.setIfInBounds_comm _ _ (Ne.symm hji)] at hS'
      have hSj := (hS _ _).1 hS'
      refine ⟨hSj, ih (L.setIfInBounds j true) a' w' hfree' (ready_mono hr (Ne.symm hji)) (by rw [getD_set_ne true hjp]; exact hpL) hy' hSj ?_⟩
      rw [Array.setIfInBounds_comm _ _ hji]
      exact H'
/-- Number i, for which number p waits, may be taken first. -/
theorem anyT_take {S : Array Bool → World → Prop} {i p : Nat} {oi op : Oper} {v : Value} {f : Nat} {L : Array Bool} {a : Act} {w : World} (hi : ops[i]? = some oi) (hp : ops[p]? = some op) (hwait : (op.after.any fun e => Region.binds md e && e.on == i) = true)
    (hS : ∀ L w, S (L.setIfInBounds i true) w ↔ S L w)
    (hs : Region.noSelect ops = true) (hf : Region.free md ops L i = true) (hr : (Region.ready md ops L).contains i = true) (hpL : L.getD p true = false)
    (hQ : ∀ c a w, Q (.panic c) (a.put oi.dst v) w → Q (.panic c) a w) (hy : YieldsIf P ops (Till S p) oi v a) (hSL : S L w)
    (h : wpAnyT P md ops Q S f (L.setIfInBounds i true) (a.put oi.dst v) w) : wpAnyT P md ops Q S (f + 1) L a w :=
  anyT_first hi hp (by obtain ⟨k, hk, he⟩ := Array.any_eq_true.1 hwait; simp at he; exact ⟨_, Array.getElem_mem hk, he.1, he.2⟩) hS (Region.noSelect_spec hs) hQ f L a w (Region.free_spec hi hf) (by simpa using hr) hpL hy hSL h
theorem anyT_all {S : Array Bool → World → Prop} {rs : List Nat} {f : Nat} {L : Array Bool} {a : Act} {w : World} (hr : Region.ready md ops L = rs) (hne : rs ≠ [])
    (h : ∀ i ∈ rs, wpOp P ops Q i (fun a' w' => S (L.setIfInBounds i true) w' ∧ wpAnyT P md ops Q S f (L.setIfInBounds i true) a' w') a w) : wpAnyT P md ops Q S (f + 1) L a w :=
  ⟨fun h0 => absurd (hr ▸ h0) hne, hr ▸ h⟩
theorem anyT_done {S : Array Bool → World → Prop} {L : Array Bool} {a : Act} {w : World} (hr : Region.ready md ops L = []) (h : Q .normal a w) : ∀ f, wpAnyT P md ops Q S f L a w
  | 0 => ⟨hr, h⟩
  | _ + 1 => ⟨fun _ => h, by rw [hr]; simp⟩
theorem T_step {S : Array Bool → World → Prop} {i : Nat} {o : Oper} {f : Nat} {L : Array Bool} {a : Act} {w : World} (ho : ops[i]? = some o)
    (h : ∀ K' : Act → World → Prop, Hid (∀ a w, S (L.setIfInBounds i true) w → wpAnyT P md ops Q S f (L.setIfInBounds i true) a w → K' a w) → if Region.wanted o (yielded ops a.tmps) = true then Oper.wp P o a w K' Q else K' (a.put o.dst undef) w) :
    wpOp P ops Q i (fun a' w' => S (L.setIfInBounds i true) w' ∧ wpAnyT P md ops Q S f (L.setIfInBounds i true) a' w') a w :=
  wpOp_step ho (fun K' hK => h K' (Lib.hid fun a w h1 h2 => hK a w ⟨h1, h2⟩))
/-- Three cells' words, each till the operation that reads it has come up. -/
def TillS (p0 p1 p2 : Nat) (c0 c1 c2 : World → Prop) (L : Array Bool) (w : World) : Prop := (L.getD p0 true = false → c0 w) ∧ (L.getD p1 true = false → c1 w) ∧ (L.getD p2 true = false → c2 w)
theorem TillS_set {p0 p1 p2 i : Nat} {c0 c1 c2 : World → Prop} (h0 : i ≠ p0) (h1 : i ≠ p1) (h2 : i ≠ p2) (L : Array Bool) (w : World) : TillS p0 p1 p2 c0 c1 c2 (L.setIfInBounds i true) w ↔ TillS p0 p1 p2 c0 c1 c2 L w := by
  unfold TillS
  rw [getD_set_ne _ h0, getD_set_ne _ h1, getD_set_ne _ h2]
end
end Go.Proofs.YtaonlcgneemimaaGreatDoor
namespace Go.Proofs.YtaonlcgneemimaaGreatDoor
open Go.RowKit
theorem cells_ty {w : World} {a b t u : Nat} {x y : Array Value} (h1 : w.heap[a]? = some (.cells x t (0, 0))) (h2 : w.heap[b]? = some (.cells y u (0, 0))) (hne : t ≠ u) : a ≠ b := by
  rintro rfl
  rw [h1] at h2
  injection h2 with h2
  injection h2 with _ h2
  exact hne h2
theorem own_heap {w : World} {B e sz n g : Nat} {v : Value} {xs : List Value} (h : w.ownsRow B e sz v n xs) (hg : v.ownBlock = some g) : ∃ arr, w.heap[g]? = some (.cells arr e (0, 0)) := by
  rcases h.2 with ⟨rfl, _⟩ | ⟨g', cap, cur, rfl, _, hg2, _⟩
  · simp [Value.ownBlock] at hg
  · simp only [Value.ownBlock, Option.some.injEq] at hg
    subst hg
    exact ⟨_, hg2⟩
/-- A history's blocks. -/
def histM (h : Nat) (pv sv : Value) : List Nat := h :: (pv.ownBlock.toList ++ sv.ownBlock.toList)
theorem histM_ty {w : World} {h : Nat} {pv sv : Value} {xs : List StX} (H : HistAt w h pv sv xs) : ∀ k ∈ histM h pv sv, ∃ arr t, w.heap[k]? = some (.cells arr t (0, 0)) ∧ (t = 115 ∨ t = 52 ∨ t = 73) := by
  intro k hk
  simp only [histM, List.mem_cons, List.mem_append, Option.mem_toList] at hk
  rcases hk with rfl | hk | hk
  · exact ⟨_, _, H.cell, .inl rfl⟩
  · obtain ⟨arr, ha⟩ := own_heap H.pts hk
    exact ⟨arr, _, ha, .inr (.inl rfl)⟩
  · obtain ⟨arr, ha⟩ := own_heap H.sts hk
    exact ⟨arr, _, ha, .inr (.inr rfl)⟩
theorem StAt.apart {w : World} {y : StX} (hy : StAt w y) {M : List Nat} (hM : ∀ k ∈ M, ∃ arr t, w.heap[k]? = some (.cells arr t (0, 0)) ∧ (t = 115 ∨ t = 52 ∨ t = 73)) : (∀ k ∈ y.blocks, k ∉ M) ∧ (∀ k ∈ M, ∀ arr, w.heap[k]? ≠ some (.cells arr 134 (0, 0))) := by
  refine ⟨fun k hk hm => ?_, fun k hk arr he => ?_⟩
  · obtain ⟨arr, t, ha, ht⟩ := hM k hm
    simp only [StX.blocks, List.mem_cons, List.not_mem_nil, or_false] at hk
    rcases hk with rfl | rfl | rfl | rfl
    · exact cells_ty hy.at'.cell ha (by rcases ht with rfl | rfl | rfl <;> decide) rfl
    · exact cells_ty hy.at'.tree.cell ha (by rcases ht with rfl | rfl | rfl <;> decide) rfl
    · exact hy.at'.tree.map.cells ha
    · exact hy.at'.bodies.map.cells ha
  · obtain ⟨arr', t, ha, ht⟩ := hM k hk
    exact cells_ty he ha (by rcases ht with rfl | rfl | rfl <;> decide) rfl
theorem hist_no_one {w : World} {h : Nat} {pv sv : Value} {xs : List StX} (H : HistAt w h pv sv xs) (hone : pv.ownBlock ≠ some 1) : 1 ∉ histM h pv sv := by
  obtain ⟨m, hm⟩ := H.glob
  intro hk
  simp only [histM, List.mem_cons, List.mem_append, Option.mem_toList] at hk
  rcases hk with rfl | hk | hk
  · have := cellAt H.cell 0
    rw [hm] at this
    simp at this
    rcases H.pts.2 with ⟨rfl, _⟩ | ⟨g, cap, cur, rfl, _⟩ <;> simp at this
  · exact hone hk
  · rcases H.snil with rfl | h0
    · simp [Value.ownBlock] at hk
    · obtain ⟨g, cap, cur, rfl, -, hg, hc, -, hs, ht⟩ := own_pos H.sts h0
      simp only [Value.ownBlock, Option.some.injEq] at hk
      subst hk
      have h1 := cellAt hg 0
      rw [hm] at h1
      obtain ⟨y, l, rfl⟩ : ∃ y l, xs = y :: l := by
        cases xs with
        | nil => simp at h0
        | cons y l => exact ⟨y, l, rfl⟩
      have h2 : (cur.toList.take ((y :: l).length * 1))[0]? = some (ptrOf y) := by rw [ht]; rfl
      rw [List.getElem?_take_of_lt (by simp)] at h2
      have h3 : cur[0]? = some (ptrOf y) := by simpa using h2
      rw [h3] at h1
      simp [ptrOf] at h1
theorem StAt.histFrame {w w' : World} {h : Nat} {pv sv : Value} {xs : List StX} (H : HistAt w h pv sv xs) (hone : pv.ownBlock ≠ some 1) (hf : Frame (histM h pv sv) w w') {y : StX} (hy : StAt w y) : StAt w' y := by
  have ha := hy.apart (histM_ty H)
  exact hy.frame hf ha.1 (hist_no_one H hone) ha.2
/-- What Add leaves. -/
def AddPost (w : World) (h : Nat) (pv sv : Value) (xs : List StX) (i : ItemA) (w' : World) : Prop :=
  ∃ pv' sv' y', HistAt w' h pv' sv' (xs ++ [y']) ∧ y'.x = stepA (lastX xs) i ∧ (∀ k ∈ y'.blocks, w.heap.size ≤ k) ∧ Frame (histM h pv sv) w w' ∧ pv'.ownBlock ≠ some 1 ∧
    (pv'.ownBlock = pv.ownBlock ∨ ∀ k ∈ pv'.ownBlock.toList, w.heap.size ≤ k) ∧ (sv'.ownBlock = sv.ownBlock ∨ ∀ k ∈ sv'.ownBlock.toList, w.heap.size ≤ k)
theorem add_close {w w4 wf : World} {h : Nat} {pv sv v1 v2 : Value} {xs : List StX} {y : StX} {i : ItemA} (H : HistAt w h pv sv xs) (hone : pv.ownBlock ≠ some 1) (hlen : xs.length + 1 ≤ 10000) (hb : Below w.heap.size w w4) (hY : StAt w4 y) (hyb : ∀ k ∈ y.blocks, w.heap.size ≤ k)
    (hx : y.x = stepA (lastX xs) i) (hF : AddFin w4 pv sv xs.length (xs.map ptrOf) (.pointer (some ⟨y.s, 0, none⟩)) v1 v2 wf) (hh : wf.heap[h]? = some (.cells #[pv, sv] 115 (0, 0))) :
    AddPost w h pv sv xs i ((wf.setCell ⟨h, 0, none⟩ v1).setCell ⟨h, 1, none⟩ v2) := by
  have h1lt : 1 < w.heap.size := by
    obtain ⟨m, hm⟩ := H.glob
    exact World.block_lt_of_cell? w ⟨1, 0, none⟩ hm
  have hf4 : Frame (histM h pv sv) w4 ((wf.setCell ⟨h, 0, none⟩ v1).setCell ⟨h, 1, none⟩ v2) :=
    (((hF.fr.mono (M' := histM h pv sv) (fun x hx => .inl (by simp only [histM]; exact List.mem_cons_of_mem _ hx))).setCell (p := ⟨h, 0, none⟩) (.inl (by simp [histM])) v1).setCell (p := ⟨h, 1, none⟩) (.inl (by simp [histM])) v2)
  have hfr : Frame (histM h pv sv) w ((wf.setCell ⟨h, 0, none⟩ v1).setCell ⟨h, 1, none⟩ v2) := (Frame.of_below hb _).trans hf4 (fun x hx => .inl hx)
  have hMlt : ∀ k ∈ histM h pv sv, k < w.heap.size := fun k hk => by
    obtain ⟨arr, t, ha, -⟩ := histM_ty H k hk
    exact heap_lt ha
  have H4 := H.below hb
  have hb1 : v1.ownBlock = pv.ownBlock ∨ ∀ k ∈ v1.ownBlock.toList, w.heap.size ≤ k := hF.b1.imp id (fun h k hk => Nat.le_trans hb.size (h k hk))
  refine ⟨v1, v2, y, ⟨?_, ?_, ?_, .inr (by simp), .inr (by simp), ?_, ?_, by simpa using hlen⟩, hx, hyb, hfr, ?_, hb1, hF.b2.imp id (fun h k hk => Nat.le_trans hb.size (h k hk))⟩
  · simpa using setAt (setAt hh 0 v1) 1 v2
  · have := own_setCell (i := 1) (u := v2) (own_setCell (i := 0) (u := v1) hF.pts (own_neq hF.pts hh (by decide))) (own_neq hF.pts hh (by decide))
    simpa using this
  · have := own_setCell (i := 1) (u := v2) (own_setCell (i := 0) (u := v1) hF.sts (own_neq hF.sts hh (by decide))) (own_neq hF.sts hh (by decide))
    simpa [ptrOf] using this
  · intro z hz
    simp only [List.mem_append, List.mem_singleton] at hz
    rcases hz with hz | rfl
    · exact StAt.histFrame H hone hfr (H.each z hz)
    · refine StAt.frame hY hf4 (fun k hk hm => ?_) (hist_no_one H hone) ?_
      · have := hyb k hk
        have := hMlt k hm
        omega
      · intro k hk arr he
        obtain ⟨arr', t, ha, ht⟩ := histM_ty H4 k hk
        exact cells_ty he ha (by rcases ht with rfl | rfl | rfl <;> decide) rfl
  · obtain ⟨m, hm⟩ := H.glob
    exact ⟨m, (hfr.cell (p := ⟨1, 0, none⟩) h1lt (hist_no_one H hone)).trans hm⟩
  · rcases hb1 with h' | h'
    · rw [h']; exact hone
    · intro e
      have := h' 1 (by rw [e]; simp)
      omega
end Go.Proofs.YtaonlcgneemimaaGreatDoor
