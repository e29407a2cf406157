/- TopHoles: the contracts of Z1; no condition. -/
import Derived.Test.YtaonlcgneemimaaGreatDoorG15
import Derived.Lib.SlBytesConst
namespace Go.Proofs.YtaonlcgneemimaaGreatDoor
open Go.RowKit
/-- Bytes that are read, told by their cells alone. -/
def SlC (w : World) (v : Value) (n : Nat) (xs : List Value) : Prop :=
  xs.length = n ∧ (∀ u ∈ xs, u.oneCell' = true) ∧ ∃ g off cap, v = .slice (some ⟨g, off, none⟩) n cap ∧ 0 < n ∧ n ≤ cap ∧ cap ≤ maxLen ∧ g < w.heap.size ∧ ∀ (j : Nat) u, xs[j]? = some u → w.cell? ⟨g, off + j, none⟩ = some u
theorem SlC.below {w w' : World} {v : Value} {n : Nat} {xs : List Value} (h : SlC w v n xs) (hb : Below w.heap.size w w') : SlC w' v n xs := by
  obtain ⟨h0, h1, g, off, cap, rfl, h2, h3, h4, h5, h6⟩ := h
  exact ⟨h0, h1, g, off, cap, rfl, h2, h3, h4, Nat.lt_of_lt_of_le h5 hb.size, fun j u hj => (hb.cell (p := ⟨g, off + j, none⟩) h5).trans (h6 j u hj)⟩
theorem SlC.two {w : World} {g : Nat} {a b : Value} {fr : Nat × Nat} (h : w.heap[g]? = some (.cells #[a, b] 5 fr)) (ha : a.oneCell' = true) (hb : b.oneCell' = true) : SlC w (.slice (some ⟨g, 0, none⟩) 2 2) 2 [a, b] := by
  refine ⟨rfl, fun u hu => ?_, g, 0, 2, rfl, by decide, by decide, by decide, heap_lt h, fun j u hj => ?_⟩
  · simp only [List.mem_cons, List.not_mem_nil, or_false] at hu
    rcases hu with rfl | rfl <;> assumption
  · unfold World.cell?
    simp only [h]
    match j, hj with
    | 0, hj => simpa using hj
    | 1, hj => simpa using hj
    | j + 2, hj => simp at hj
theorem wp_append_c {P : Program} {w : World} {ops : Array Oper} {rest : List Oper} {o : Oper} {a : Act} {Q : Exit → Act → World → Prop} (hgd : o.guard = none) (s x : Operand) (t : TypeId)
    (ho : o.op = .call { callee := .builtin .append, args := #[s, x], argTypes := #[t, t] })
    (base : Nat) (e : TypeId) (i : TypeInfo) (z : Value) (size bytes : Nat) (ht : P.underlying t = some (.slice e)) (hi : P.info? e = some i) (hz : i.zero = some z)
    (hsize : i.size = size) (hby : i.bytes = bytes) (hzs : z.cells.size = size) (hsz : 0 < size)
    (v : Value) (n : Nat) (xs : List Value) (hs : a.eval s = v) (hown : w.ownsRow base e size v n xs)
    (vx : Value) (m : Nat) (news : List Value) (hx : a.eval x = vx) (hsl : SlC w vx m news) (hone : size = 1)
    (h63 : n + m ≤ 1000000) (hbytes : bytes ≤ 100000) (hbase : base ≤ w.heap.size)
    (h : ∀ v' w', w'.ownsRow base e size v' (n + m) (xs ++ news) → w.grownBy w' v.ownBlock → (v' = .slice none 0 0 ↔ v = .slice none 0 0 ∧ m = 0) → (v'.ownBlock = v.ownBlock ∨ v'.ownBlock = some w.heap.size) → wpList P ops Q rest (a.put o.dst v') w') :
    wpList P ops Q (o :: rest) a w := by
  obtain ⟨hl, h1, g, off, cap, rfl, e2, e3, e4, e5, e6⟩ := hsl
  refine wpList_append_own_at w hgd s x t ho base e i z size bytes ht hi hz hsize hby hzs hsz v n xs hs hown ⟨g, off, none⟩ m cap news hx (by rw [hl, hone]; omega) ?_ h1 (by unfold maxLen; omega) ?_ hbase h
  · intro j u hj
    have h6 := e6 j u hj
    rw [show (⟨g, off, none⟩ : Addr).add j = ⟨g, off + j, none⟩ by unfold Addr.add; split <;> simp_all]
    exact h6
  · have : (n + m) * bytes ≤ 1000000 * 100000 := Nat.mul_le_mul h63 hbytes
    omega
set_option maxRecDepth 100000 in
set_option maxHeartbeats 1000000 in
theorem cloneByte_c (w : World) (v : Value) (n : Nat) (xs : List Value) (h : SlC w v n xs) (hn : n ≤ 1000000) :
    Calls Tryz.prog 104 #[v] w fun e w' => ∃ v', e = .returned v' ∧ w'.ownsRow w.heap.size 5 1 v' n xs ∧ (v' = .slice none 0 0 ↔ n = 0) ∧ Below w.heap.size w w' := by
  obtain ⟨i0, hi, hz0, hz1, hz2⟩ := info_parts info5
  obtain ⟨hl, h1, hv⟩ := h
  obtain ⟨g, off, cap, rfl, e2, e3, e4, hgl, e6⟩ := hv
  have HS : Hid (SlC (w.alloc (.cells #[] 5)) (.slice (some ⟨g, off, none⟩) n cap) n xs) := Lib.hid (SlC.below ⟨hl, h1, g, off, cap, rfl, e2, e3, e4, hgl, e6⟩ ((Below.refl _ _).alloc (Nat.le_refl _) _))
  have HN := Lib.hid e2
  clear e6 hl h1 e2 e3 e4
  have heq := fun wx => Lib.run_eql_slice_nil (P := Tryz.prog) wx 33 5 (some ⟨g, off, none⟩) n cap 0 0 Tryz.underlying33
  have HL := Lib.hid (World.ownsRow_lit (base := w.heap.size) (size := 1) (e := 5) w #[] 0 (Nat.le_refl _) (by decide) rfl)
  go_enter Tryz.func104, Tryz.ntmps104
  go_wp2_with (at_builtin; refine wp_append_c rfl _ _ 33 rfl w.heap.size 5 i0 (.int .u8 0) 1 1 Tryz.underlying33 hi hz0 hz1 hz2 rfl (by decide) _ 0 [] rfl HL.out _ n xs rfl HS.out rfl ?c1 ?c2 ?c3 ?_)
  intro v' w' ho hg hne hat
  have FIN : Hid (w'.ownsRow w.heap.size 5 1 v' n xs ∧ (v' = .slice none 0 0 ↔ n = 0) ∧ Below w.heap.size w w') := Lib.hid ⟨ho, ⟨fun h => absurd h hne, fun h => by have := HN.out; omega⟩, ((Below.refl _ _).alloc (Nat.le_refl _) _).grown hg (by simp) (by intro k hk; simp [Value.ownBlock] at hk; omega)⟩
  clear ho hg hne hat
  go_wp2
  go_ret
  exact ⟨_, rfl, FIN.out⟩
set_option maxRecDepth 100000 in
set_option maxHeartbeats 1000000 in
theorem cut_shortC (w : World) (v : Value) (p : List Int) (hv : SlC w v p.length (u8s p)) (h0 : 0 < p.length) (h1 : p.length ≤ 7) :
    Calls Tryz.prog 58 #[v] w fun e w' => ∃ v2, e = .returned v2 ∧ OneCut w p v2 w' := by
  have HV := Lib.hid hv
  obtain ⟨-, -, g, off, cap, rfl, -, hcap, -, hg, -⟩ := hv
  obtain ⟨n, hn⟩ : ∃ n, Hid (n = p.length) := ⟨p.length, Lib.hid rfl⟩
  rw [← hn.out] at HV hcap h0 h1 ⊢
  obtain ⟨i0, hi, hz0, hz1, hz2⟩ := info_parts info33
  go_enter Tryz.func58, Tryz.ntmps58
  go_wp2
  go_loopw [3, 4] (fun t3 t4 wr => (t3 = .slice none 0 0 ∧ t4 = .int .i64 0 ∧ wr = w) ∨ (t4 = .int .i64 n ∧ Hid (OneCut w p t3 wr))) (fun _ i _ => n - (intOf i).toNat)
  case atStart => exact .inl ⟨rfl, rfl, rfl⟩
  case round =>
    rcases hrel with ⟨rfl, rfl, rfl⟩ | ⟨rfl, hc⟩
    · go_wp2_with (first | (go_at_call 103; refine (cutEnds_short _ _ _ _ h0 h1).mono ?_; rintro e w1 ⟨rfl, hw⟩; have hw := hw.symm; subst hw) | (go_at_call 104; refine (cloneByte_c _ _ _ _ HV.out (by omega)).mono ?_; rintro e w2 ⟨v', rfl, ho, hn', hq⟩; obtain ⟨g', cap', cur, rfl, -, -, -⟩ := own_pos ho h0; have HO := Lib.hid ho; have HQ := Lib.hid hq; clear ho hn' hq) | (at_builtin; refine wp_append_sl rfl _ _ 61 rfl w2.heap.size 33 i0 _ 1 24 Tryz.underlying61 hi hz0 hz1 hz2 rfl (by decide) (.slice none 0 0) 0 [] rfl (World.ownsRow_nil _ _ _ _) _ 1 [.slice (some ⟨g', 0, none⟩) n cap'] rfl (Sl.block (heap_new _ _) rfl (by simp [Value.oneCell']) (by decide) (by decide)) (by omega) (by decide) (by simp) ?_; intro v3 w3 hown hgr _ _; have HW3 := Lib.hid hown; have HG3 := Lib.hid hgr; clear hown hgr))
      go_roundw
      case rel =>
        refine .inr ⟨rfl, Lib.hid ⟨_, Sl.of_own HW3.out (by simp [Value.oneCell']) (.inr (by decide)), ?_, ?_⟩⟩
        · rw [← hn.out]
          exact (own_below HO.out ((Below.refl _ _).alloc (Nat.le_refl _) _)).kept HG3.out (.inr (by simp [Value.ownBlock]))
        · exact (HQ.out.alloc HQ.out.size _).grown HG3.out (by have := HQ.out.size; simp; omega) (by simp [Value.ownBlock])
      case measure => simp [intOf]; omega
    · go_wp2
      go_ret
      exact ⟨_, rfl, hc.out⟩
def PiecePost3 (w : World) (B c : Nat) (P : List (List Int)) (bl bb : Nat) (vs : List Value) (p : List Int) (v : Value) (w' : World) : Prop :=
  Sl w' 134 4 v 1 (partsC [newPart P p]) ∧ (∃ vs' fb' m' sz', ChunksAt w' B c (putP P p) bl bb vs' fb' m' sz' ∧ VsOk w vs vs') ∧ Below B w w' ∧ KeptC w w'
set_option maxRecDepth 100000 in
set_option maxHeartbeats 1000000 in
theorem pieces_shortC (w : World) (B c : Nat) (P : List (List Int)) (bl bb : Nat) (vs : List Value) (fb : Int → Option Value) (m : Nat) (sz : Int) (H : ChunksAt w B c P bl bb vs fb m sz) (hB : B ≤ w.heap.size)
    (v : Value) (p : List Int) (hv : SlC w v p.length (u8s p)) (hb : ByteL p) (h0 : 0 < p.length) (h1 : p.length ≤ 7) (hsm : P.length + 1 ≤ 100000) (path tt : ByteArray) (off size : Int) :
    Calls Tryz.prog 27 #[.pointer (some ⟨c, 0, none⟩), .agg #[.int .i64 3, .string path, .string tt, .int .i64 off, .int .i64 size, v]] w fun e w' => ∃ v', e = .returned v' ∧ PiecePost3 w B c P bl bb vs p v' w' := by
  have HH := Lib.hid H
  have HV := Lib.hid hv
  have HBL := Lib.hid hb
  obtain ⟨i0, hi, hz0, hz1, hz2⟩ := info_parts info134
  obtain ⟨-, -, va0, vo0, vcap, rfl, -, hcap, -, hg0, -⟩ := hv
  have HB0 : Hid (∀ o, Below w.heap.size w (w.alloc o)) := Lib.hid (fun o => (Below.refl _ _).alloc (Nat.le_refl _) o)
  clear H hb
  go_enter Tryz.func27, Tryz.ntmps27
  go_wp2_with (go_at_call 58; refine (cut_shortC _ _ p (HV.out.below (HB0.out _)) h0 h1).mono ?_; rintro e w1 ⟨v2, rfl, v', hsl, ho, hq⟩; obtain ⟨pg, pcap, cur, rfl, -, -, -⟩ := own_pos ho h0; have HSL := Lib.hid hsl; have HO := Lib.hid ho; have HQ : Hid (Below w.heap.size w w1) := Lib.hid ((HB0.out _).trans (hq.mono (HB0.out _).size)); obtain ⟨sa, scap, rfl, hscap, -, hsh⟩ := hsl.shape; obtain ⟨g, of, rfl, hg, hgc⟩ := hsh 0 (by decide); have cg := hgc 0 _ (by decide) rfl; simp only [Nat.zero_mul, Nat.add_zero] at cg; clear hsl ho hq hsh hgc)
  have hBw : B ≤ w1.heap.size := Nat.le_trans hB HQ.out.size
  go_loopw [5, 7, 8, 9, 10, 19] (fun t5 _ _ _ _ ti wr => (ti = .int .i64 0 ∧ t5 = .slice none 0 0 ∧ wr = w1) ∨ (ti = .int .i64 1 ∧ Hid (PiecePost3 w B c P bl bb vs p t5 wr))) (fun _ _ _ _ _ i _ => 1 - (intOf i).toNat)
  case atStart => exact .inl ⟨rfl, rfl, rfl⟩
  case round =>
    rcases hrel with ⟨rfl, rfl, rfl⟩ | ⟨rfl, hc⟩
    · go_wp2_with (first | (go_at_call 59; refine (put_any3 _ B c P bl bb vs fb m sz (HH.out.below HQ.out) _ p (Sl.of_own HO.out (u8s_one' _) (.inr h0)) HBL.out h0 (by omega) hsm).mono ?_; rintro e w2 ⟨nw, rfl, vs', fb', m', sz', hc', hq', hvo, hkc⟩; have HC := Lib.hid hc'; have HVO := Lib.hid (hvo.before HQ.out.size); have HKC := Lib.hid ((KeptC.of_below HQ.out).trans hkc); have HQ2 : Hid (Below B w w2) := Lib.hid ((HQ.out.mono hB).trans hq'); have hs2 : B ≤ w2.heap.size := Nat.le_trans hB HQ2.out.size; clear hc' hq' hvo hkc) | (at_builtin; refine wp_append_sl rfl _ _ 81 rfl w2.heap.size 134 i0 _ 4 32 Tryz.underlying81 hi hz0 hz1 hz2 rfl (by decide) (.slice none 0 0) 0 [] rfl (World.ownsRow_nil _ _ _ _) _ 1 _ rfl (Sl.block' (heap_new _ _) rfl (by simp [Value.oneCell']) (by decide) (by decide)) (by omega) (by decide) (by simp) ?_; intro v3 w3 hown hgr _ _; have HW3 := Lib.hid hown; have HG3 := Lib.hid hgr; clear hown hgr))
      go_roundw
      case rel =>
        refine .inr ⟨by go_num, Lib.hid ⟨?_, ?_, ?_, ?_⟩⟩
        · exact Sl.of_own HW3.out (by simp [partsC, newPart, PartA.cells, Value.oneCell']) (.inr (by decide))
        · have hb2 : Below w2.heap.size w2 w3 := ((Below.refl _ _).alloc (Nat.le_refl _) _).grown HG3.out (by simp) (by simp [Value.ownBlock])
          exact ⟨vs', fb', m', sz', HC.out.below hb2, HVO.out⟩
        · exact (HQ2.out.alloc hs2 _).grown HG3.out (by simp; omega) (by simp [Value.ownBlock])
        · exact HKC.out.trans (.of_below (((Below.refl _ _).alloc (Nat.le_refl _) _).grown HG3.out (by simp) (by simp [Value.ownBlock])))
      case measure => simp [intOf]
    · go_wp2
      go_ret
      exact ⟨_, rfl, hc.out⟩
end Go.Proofs.YtaonlcgneemimaaGreatDoor
