import Derived.Test.YtnfipkbokfmfjaaCutG
namespace Go
/-- 'append(s, x...)' of bytes that came in, nil too, onto bytes of the call's own. -/
theorem wp_append_bytes {P : Program} {w : World} {ops : Array Oper} {rest : List Oper} {o : Oper} {a : Act} {Q : Exit → Act → World → Prop} (hgd : o.guard = none) (s x : Operand) (t : TypeId)
    (ho : o.op = .call { callee := .builtin .append, args := #[s, x], argTypes := #[t, t] })
    (base : Nat) (e : TypeId) (i : TypeInfo) (z : Value) (ht : P.underlying t = some (.slice e)) (hi : P.info? e = some i) (hz : i.zero = some z)
    (hsize : i.size = 1) (hby : i.bytes = 1) (hzs : z.cells.size = 1)
    (v : Value) (n : Nat) (xs : List Value) (hs : a.eval s = v) (hown : w.ownsRow base e 1 v n xs)
    (A : Option Addr) (m c : Nat) (news : List Value) (hx : a.eval x = .slice A m c) (hl : news.length = m) (hA : A = none → m = 0 ∧ c = 0) (hnews : ∀ y, A = some y → ∀ j u, news[j]? = some u → w.cell? (y.add j) = some u) (h1 : ∀ u ∈ news, u.oneCell' = true)
    (h63 : n + m ≤ 1000000) (hbase : base ≤ w.heap.size)
    (h : ∀ v' w', w'.ownsRow base e 1 v' (n + m) (xs ++ news) → w.grownBy w' v.ownBlock → (v'.ownBlock = v.ownBlock ∨ v'.ownBlock = some w.heap.size) → wpList P ops Q rest (a.put o.dst v') w') :
    wpList P ops Q (o :: rest) a w := by
  cases A with
  | none =>
    obtain ⟨rfl, rfl⟩ := hA rfl
    obtain rfl : news = [] := List.eq_nil_of_length_eq_zero hl
    refine wpList_plain hgd fun K hK => ?_
    have hr := run_append_owned_none (P := P) w base t o.type e i 1 ht hi v n xs hown
    unfold Oper.wp execOp
    simp only [ho, resolve, invoke, builtin, Sem.run_bind, Sem.run_pure, Result.andThen_ok, List.map_toArray, List.map_cons, List.map_nil, hs, hx, hr]
    exact hK _ _ (h v w (by simpa using hown) (World.grownBy.refl _ _) (.inl rfl))
  | some y =>
    exact wpList_append_own_at w hgd s x t ho base e i z 1 1 ht hi hz hsize hby hzs (by decide) v n xs hs hown y m c news hx (by omega) (hnews y rfl) h1 (by unfold maxLen; omega) (by omega) hbase fun v' w' a b _ d => h v' w' a b d
end Go
namespace Go.Proofs.Ytnfipkbokfmfjaa
open Go.RowKit
theorem u8s_append (a b : List Int) : u8s (a ++ b) = u8s a ++ u8s b := by simp [u8s]
theorem u8s_length (a : List Int) : (u8s a).length = a.length := by simp [u8s]
theorem Byt.news {w : World} {A : Option Addr} {cap : Nat} {l : List Int} (h : Byt w A cap l) : ∀ y, A = some y → ∀ j u, (u8s l)[j]? = some u → w.cell? (y.add j) = some u := by
  rintro y rfl; exact h.cells
/-- Bytes of the call's own. -/
def OwnB (w : World) (B : Nat) (v : Value) (n : Nat) (l : List Int) : Prop := w.ownsRow B 5 1 v n (u8s l) ∧ (∀ x ∈ l, 0 ≤ x ∧ x ≤ 255) ∧ l.length ≤ 1000000
theorem Byt.mem {w : World} {A : Option Addr} {cap : Nat} {l : List Int} (h : Byt w A cap l) : ∀ x ∈ l, 0 ≤ x ∧ x ≤ 255 := by
  intro x hx
  obtain ⟨j, hj, rfl⟩ := List.getElem_of_mem hx
  obtain ⟨_, _, _, h0, h1⟩ := h.cell j hj
  simp [List.getD, hj] at h0 h1
  exact ⟨h0, h1⟩
theorem OwnB.byt {w : World} {B : Nat} {v : Value} {n : Nat} {l : List Int} (h : OwnB w B v n l) (hn : 0 < n) : ∃ g c, v = .slice (some ⟨g, 0, none⟩) n c ∧ Byt w (some ⟨g, 0, none⟩) c l ∧ l.length = n ∧ v.ownBlock = some g := by
  obtain ⟨ho, hm, hl⟩ := h
  have hln : l.length = n := by have := ho.1; rw [u8s_length] at this; omega
  rcases ho.2 with ⟨_, h0⟩ | ⟨g, cap, cur, rfl, _, hh, hnc, _⟩
  · omega
  · refine ⟨g, cap, rfl, ⟨by omega, hl, fun j hj => ⟨_, rfl, ?_, ?_⟩⟩, hln, rfl⟩
    · rw [show (⟨g, 0, none⟩ : Addr).add j = ⟨g, j, none⟩ by unfold Addr.add; split <;> simp_all, ho.cellAt j (by omega)]
      simp [u8s, List.getD, hj]
    · have : l.getD j 0 ∈ l := by simp [List.getD, hj]
      exact hm _ this
/-- Ends in the shared part are alike. -/
theorem hash_tail (a c : List Int) (i : Nat) (h7 : 7 ≤ i) : hash (a ++ c) (a.length + i) = hash c i := hash_append a c i h7
theorem ends_tail (a c : List Int) (i : Nat) (hi : i < c.length) : endsZ (a ++ c) ((a.length : Int) + i) = (a.length : Int) + i + pl (c.drop i) := by
  unfold endsZ
  rw [if_pos (by simp; omega)]
  rw [show ((a.length : Int) + (i : Int)).toNat = a.length + i by omega]
  rw [show (a ++ c).drop (a.length + i) = c.drop i by rw [← List.drop_drop, List.drop_left]]
/-- What the walk knows of an argument: bytes, nil or not. -/
structure Arg (w : World) (A : Option Addr) (n cap : Nat) (l : List Int) : Prop where
  byt : Byt w A cap l
  len : l.length = n
  nil : A = none → n = 0 ∧ cap = 0
theorem Arg.below {w w' : World} {A : Option Addr} {n cap : Nat} {l : List Int} (h : Arg w A n cap l) (hb : Below w.heap.size w w') : Arg w' A n cap l := ⟨h.byt.below hb, h.len, h.nil⟩
theorem IsRow.arg {w : World} {a : Option Addr} {len cap : Nat} {zs : List Int} (h : IsRow .u8 w a len cap zs) (hl : len ≤ 1000000) : Arg w a len cap (zs.take len) :=
  ⟨(h.byt hl).1, (h.byt hl).2, fun e => by
    rcases h with ⟨_, h2, h3, _⟩ | ⟨x, h2, _⟩
    · exact ⟨h2, h3⟩
    · rw [e] at h2; cases h2⟩
theorem OwnB.lit (w : World) (B : Nat) (hB : B ≤ w.heap.size) : OwnB (w.alloc (.cells #[] 5)) B (.slice (some ⟨w.heap.size, 0, none⟩) 0 0) 0 [] :=
  ⟨World.ownsRow_lit w #[] 0 hB (by decide) rfl, by simp, by simp⟩
/-- Behind an append. -/
theorem OwnB.app {w w' : World} {B : Nat} {v v' : Value} {n m : Nat} {l r : List Int} {A : Option Addr} {c : Nat} (h : OwnB w B v n l) (hr : Arg w A m c r) (hs : l.length + r.length ≤ 1000000) (ho : w'.ownsRow B 5 1 v' (n + m) (u8s l ++ u8s r)) : OwnB w' B v' (n + m) (l ++ r) :=
  ⟨by rw [u8s_append]; exact ho, fun x hx => by exact (List.mem_append.1 hx).elim (h.2.1 x) (hr.byt.mem x), by simpa using hs⟩
theorem OwnB.kept {w w' : World} {B : Nat} {v : Value} {n : Nat} {l : List Int} {r : Option Nat} (h : OwnB w B v n l) (hg : w.grownBy w' r) (hne : v.ownBlock = none ∨ v.ownBlock ≠ r) : OwnB w' B v n l := ⟨h.1.kept hg hne, h.2⟩
theorem app_law {w : World} {ops : Array Oper} {rest : List Oper} {o : Oper} {a : Act} {Q : Exit → Act → World → Prop} (s x : Operand)
    (ho : o.op = .call { callee := .builtin .append, args := #[s, x], argTypes := #[22, 22] }) (hgd : o.guard = none) (B : Nat) (v : Value) (n : Nat) (l : List Int) (hs : a.eval s = v) (hown : OwnB w B v n l)
    (A : Option Addr) (m c : Nat) (r : List Int) (hx : a.eval x = .slice A m c) (hr : Arg w A m c r) (hsz : n + m ≤ 1000000) (hB : B ≤ w.heap.size)
    (h : ∀ v' w', OwnB w' B v' (n + m) (l ++ r) → w.grownBy w' v.ownBlock → (v'.ownBlock = v.ownBlock ∨ v'.ownBlock = some w.heap.size) → wpList Try.prog ops Q rest (a.put o.dst v') w') :
    wpList Try.prog ops Q (o :: rest) a w := by
  obtain ⟨i0, hi, hz0, hz1, hz2⟩ := info_parts info5
  have hl : l.length = n := by have := hown.1.1; rw [u8s_length] at this; omega
  exact wp_append_bytes hgd s x 22 ho B 5 i0 (.int .u8 0) Try.underlying22 hi hz0 hz1 hz2 rfl v n (u8s l) hs hown.1 A m c (u8s r) hx (by rw [u8s_length]; exact hr.len) hr.nil hr.byt.news (u8s_one r) hsz hB
    fun v' w' a b d => h v' w' (hown.app hr (by have := hr.len; omega) a) b d
theorem OwnB.lt {w : World} {B : Nat} {v : Value} {n : Nat} {l : List Int} (h : OwnB w B v n l) : ∀ k, v.ownBlock = some k → B ≤ k ∧ k < w.heap.size := h.1.lt
/-- One step: an append onto bytes of the call's own, whose block is none of the old ones. -/
theorem below_app {B : Nat} {w w2 w3 : World} {v : Value} {n : Nat} {l : List Int} (hb : Below B w w2) (ho : OwnB w2 B v n l) (hB : B ≤ w2.heap.size) (hg : w2.grownBy w3 v.ownBlock) : Below B w w3 :=
  hb.grown hg hB (fun k hk => (ho.lt k hk).1)
theorem OwnB.mono {w : World} {B B' : Nat} {v : Value} {n : Nat} {l : List Int} (h : OwnB w B v n l) (hB : B' ≤ B) : OwnB w B' v n l := ⟨World.ownsRow.mono h.1 hB, h.2⟩
/-- Others' bytes stay, where one's own are appended to. -/
theorem OwnB.beside {w w' : World} {B B' : Nat} {v u : Value} {n m : Nat} {l r : List Int} (h : OwnB w B v n l) (_hu : OwnB w B' u m r) (hne : v.ownBlock = none ∨ v.ownBlock ≠ u.ownBlock) (hg : w.grownBy w' u.ownBlock) : OwnB w' B v n l := h.kept hg hne
set_option maxRecDepth 100000 in
set_option maxHeartbeats 1000000 in
theorem cutLocal_any (a0 a1 a2 : Option Addr) (n0 n1 n2 c0 c1 c2 : Nat) (l0 l1 l2 : List Int) (w : World) (h0 : Arg w a0 n0 c0 l0) (h1 : Arg w a1 n1 c1 l1) (h2 : Arg w a2 n2 c2 l2) (b0 : n0 ≤ 500) (b1 : n1 ≤ 500) (b2 : 8 ≤ n2) (b3 : n2 ≤ 500) :
    Calls Try.prog 5 #[.slice a0 n0 c0, .slice a1 n1 c1, .slice a2 n2 c2] w fun e w' => e = .returned (.bool true) ∧ Below w.heap.size w w' := by
  obtain ⟨i0, hi, hz0, hz1, hz2⟩ := info_parts info5
  have H0 := Lib.hid h0
  have H1 := Lib.hid h1
  have H2 := Lib.hid h2
  clear h0 h1 h2
  have d0 : decide ((500 : Int) < n0) = false := by simp; omega
  have d1 : decide ((500 : Int) < n1) = false := by simp; omega
  have d2 : decide ((n2 : Int) < 8) = false := by simp; omega
  have d3 : decide ((500 : Int) < n2) = false := by simp; omega
  go_enter Try.func5, Try.ntmps5
  go_wp2_with (first | (go_at_call 8; refine (awake_any w).mono ?_; rintro e w1 ⟨rfl, hb⟩; have HB1 := Lib.hid hb; have HO1 := Lib.hid (OwnB.lit w1 w1.heap.size (Nat.le_refl _)); have HW := Lib.hid (hb.alloc hb.size (.cells #[] 5)); have HA0 := Lib.hid (H0.out.below HW.out); clear hb) | (at_builtin; refine app_law (.tmp 31) (.tmp 32) rfl rfl w1.heap.size _ 0 [] rfl HO1.out a0 n0 c0 l0 rfl HA0.out (by omega) (by simp) ?_))
  intro v1 w2 ho1 hg1 ha1
  have HO2 : Hid (OwnB w2 w.heap.size v1 n0 l0) := by have := ho1.mono (B' := w.heap.size) (by have := HB1.out.size; omega); show OwnB _ _ _ _ _; simpa using this
  have HB2 := Lib.hid (below_app HW.out (HO1.out.mono HB1.out.size) HW.out.size hg1)
  have HA2 := Lib.hid (H2.out.below HB2.out)
  clear ho1 hg1 ha1 HO1 HW HA0
  go_wp2_with (at_builtin; refine app_law (.tmp 33) (.tmp 34) rfl rfl w.heap.size _ n0 l0 rfl HO2.out a2 n2 c2 l2 rfl HA2.out (by omega) HB2.out.size ?_)
  intro v2 w3 ho3 hg3 _
  have HO3 := Lib.hid ho3
  have HB3 := Lib.hid (below_app HB2.out HO2.out HB2.out.size hg3)
  have HA1 := Lib.hid (H1.out.below (HB3.out.alloc HB3.out.size (.cells #[] 5)))
  have HO4 := Lib.hid (OwnB.lit w3 w3.heap.size (Nat.le_refl _))
  clear ho3 hg3
  go_wp2_with (at_builtin; refine app_law (.tmp 36) (.tmp 37) rfl rfl w3.heap.size _ 0 [] rfl HO4.out a1 n1 c1 l1 rfl HA1.out (by omega) (by simp) ?_)
  intro v3 w5 ho5 hg5 ha5
  have HO5 : Hid (OwnB w5 w3.heap.size v3 n1 l1) := by show OwnB _ _ _ _ _; simpa using ho5
  have HB5 := Lib.hid ((HB3.out.alloc HB3.out.size (.cells #[] 5)).grown hg5 (by have := HB3.out.size; simp; omega) (by intro k hk; have := HB3.out.size; simp [Value.ownBlock] at hk; omega))
  have HX5 : Hid (OwnB w5 w.heap.size v2 (n0 + n2) (l0 ++ l2)) := by
    have h1 : OwnB (w3.alloc (.cells #[] 5)) w.heap.size v2 (n0 + n2) (l0 ++ l2) := HO3.out.kept (World.grownBy_alloc w3 _ none) (by cases v2.ownBlock <;> simp)
    refine h1.kept hg5 (.inr fun e => ?_)
    have : w3.heap.size < w3.heap.size := (HO3.out.lt w3.heap.size (e.trans rfl)).2
    omega
  have HD : Hid (∀ k, v2.ownBlock = some k → k < w3.heap.size) := fun k hk => (HO3.out.lt k hk).2
  have HA5 := Lib.hid (H2.out.below HB5.out)
  have hs5 : w3.heap.size ≤ w5.heap.size := by have := hg5.size; simp at this; omega
  clear ho5 hg5 ha5 HO4 HO3 HA1
  go_wp2_with (at_builtin; refine app_law (.tmp 38) (.tmp 39) rfl rfl w3.heap.size _ n1 l1 rfl HO5.out a2 n2 c2 l2 rfl HA5.out (by omega) hs5 ?_)
  intro v4 w6 ho6 hg6 ha6
  have HX6 : Hid (OwnB w6 w.heap.size v2 (n0 + n2) (l0 ++ l2)) := by
    refine HX5.out.kept hg6 ?_
    cases hv : v2.ownBlock with
    | none => exact .inl rfl
    | some k => exact .inr fun e => by have h1 := HD.out k hv; have h2 := (HO5.out.lt k e.symm).1; omega
  have HB6 := Lib.hid (below_app HB5.out (HO5.out.mono HB3.out.size) HB5.out.size hg6)
  obtain ⟨g4, cp4, rfl, HY4, hl4, _⟩ := ho6.byt (by omega)
  obtain ⟨g2, cp2, rfl, HY2, hl2, _⟩ := HX6.out.byt (by omega)
  have HY4 := Lib.hid HY4
  have HY2 := Lib.hid HY2
  have hl4 := Lib.hid hl4
  have hl2 := Lib.hid hl2
  clear ho6 hg6 ha6 HX5 HX6 HO5 HA5
  have HN0 := Lib.hid H0.out.len
  have HN1 := Lib.hid H1.out.len
  have HN2 := Lib.hid H2.out.len
  go_wp2
  go_loop [9] (fun t => ∃ k : Nat, 7 ≤ k ∧ k ≤ n2 ∧ t = .int .i64 k) (fun t => n2 - (intOf t).toNat)
  case atStart => exact ⟨7, by omega, by omega, rfl⟩
  case round =>
    obtain ⟨k, hk7, hkn, rfl⟩ := hrel
    by_cases hlt : k < n2
    · obtain ⟨H, hH⟩ : ∃ H, Hid (hash l2 k = H) := ⟨_, rfl⟩
      have e2 : Hid (hash (l0 ++ l2) (n0 + k) = H) := by show _ = _; rw [← HN0.out, hash_tail _ _ _ hk7]; exact hH.out
      have e4 : Hid (hash (l1 ++ l2) (n1 + k) = H) := by show _ = _; rw [← HN1.out, hash_tail _ _ _ hk7]; exact hH.out
      go_wp2_with (go_at_call 11; first | ((with_reducible refine (hash_at _ _ _ _ (n0 + k) _ H _ HY2.out hl2.out (by omega) (by omega) e2.out).mono ?_); rintro e w' ⟨rfl, rfl⟩) | ((with_reducible refine (hash_at _ _ _ _ (n1 + k) _ H _ HY4.out hl4.out (by omega) (by omega) e4.out).mono ?_); rintro e w' ⟨rfl, rfl⟩))
      go_round
      case rel => exact ⟨k + 1, by omega, by omega, by go_num⟩
      case measure => simp [intOf]; omega
    · go_wp2
      go_loop [10] (fun t => ∃ k : Nat, 8 ≤ k ∧ k ≤ n2 ∧ t = .int .i64 k) (fun t => n2 - (intOf t).toNat)
      case atStart => exact ⟨8, by omega, by omega, rfl⟩
      case round =>
        clear hlt hkn hk7
        obtain ⟨k, hk7, hkn, rfl⟩ := hrel
        by_cases hlt : k < n2
        · obtain ⟨m, hm⟩ : ∃ m, Hid (pl (l2.drop k) = m) := ⟨_, rfl⟩
          have hmb : m ≤ 64 := by rw [← hm.out]; exact (pl_bounds _).2.1
          have e2 : Hid (endsZ (l0 ++ l2) ((n0 : Int) + k) = (n0 : Int) + k + m) := by show _ = _; rw [← HN0.out, ends_tail _ _ _ (by rw [HN2.out]; exact hlt), hm.out]
          have e4 : Hid (endsZ (l1 ++ l2) ((n1 : Int) + k) = (n1 : Int) + k + m) := by show _ = _; rw [← HN1.out, ends_tail _ _ _ (by rw [HN2.out]; exact hlt), hm.out]
          have s2 : (n0 : Int) + k + m - n0 = k + m := by omega
          have s4 : (n1 : Int) + k + m - n1 = k + m := by omega
          go_wp2_with (go_at_call 13; first | ((with_reducible refine (ends_eq _ _ _ _ _ _ _ HY2.out hl2.out e2.out).mono ?_); rintro e w' ⟨rfl, rfl⟩) | ((with_reducible refine (ends_eq _ _ _ _ _ _ _ HY4.out hl4.out e4.out).mono ?_); rintro e w' ⟨rfl, rfl⟩))
          go_round
          case rel => exact ⟨k + 1, by omega, by omega, by go_num⟩
          case measure => simp [intOf]; omega
        · go_wp2
          go_ret
          exact ⟨rfl, HB6.out⟩
set_option maxHeartbeats 1000000 in
theorem cutLocal_out (a0 a1 a2 : Option Addr) (n0 n1 n2 c0 c1 c2 : Nat) (w : World) (m0 : n0 ≤ 9223372036854775807) (m1 : n1 ≤ 9223372036854775807) (m2 : n2 ≤ 9223372036854775807) (h : ¬ (n0 ≤ 500 ∧ n1 ≤ 500 ∧ 8 ≤ n2 ∧ n2 ≤ 500)) :
    Calls Try.prog 5 #[.slice a0 n0 c0, .slice a1 n1 c1, .slice a2 n2 c2] w fun e w' => e = .returned (.bool true) ∧ Below w.heap.size w w' := by
  rcases (by omega : 500 < n0 ∨ (n0 ≤ 500 ∧ 500 < n1) ∨ (n0 ≤ 500 ∧ n1 ≤ 500 ∧ n2 < 8) ∨ (n0 ≤ 500 ∧ n1 ≤ 500 ∧ 8 ≤ n2 ∧ 500 < n2)) with h0 | ⟨h0, h1⟩ | ⟨h0, h1, h2⟩ | ⟨h0, h1, h2, h3⟩
  all_goals
    clear h
    go_enter Try.func5, Try.ntmps5
    go_wp2_with (go_at_call 8; refine (awake_any w).mono ?_; rintro e w1 ⟨rfl, hb⟩)
    go_ret
    exact ⟨rfl, hb⟩
theorem walk_CutLocal (a0 : Option Addr) (n0 c0 : Nat) (z0 : List Int) (a1 : Option Addr) (n1 c1 : Nat) (z1 : List Int) (a2 : Option Addr) (n2 c2 : Nat) (z2 : List Int) (w : World) (h0 : IsRow .u8 w a0 n0 c0 z0) (h1 : IsRow .u8 w a1 n1 c1 z1) (h2 : IsRow .u8 w a2 n2 c2 z2) :
    Calls Try.prog 5 #[.slice a0 n0 c0, .slice a1 n1 c1, .slice a2 n2 c2] w fun e w' => e = .returned (.bool true) ∧ Below w.heap.size w w' := by
  by_cases h : n0 ≤ 500 ∧ n1 ≤ 500 ∧ 8 ≤ n2 ∧ n2 ≤ 500
  · exact cutLocal_any a0 a1 a2 n0 n1 n2 c0 c1 c2 _ _ _ w (h0.arg (by omega)) (h1.arg (by omega)) (h2.arg (by omega)) h.1 h.2.1 h.2.2.1 h.2.2.2
  · exact cutLocal_out a0 a1 a2 n0 n1 n2 c0 c1 c2 w h0.len h1.len h2.len h
end Go.Proofs.Ytnfipkbokfmfjaa
