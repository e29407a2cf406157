/- TopNames: the contracts of W10, W11, W12; no condition. -/
import Derived.Test.YtaonlcgneemimaaGreatDoorJ35
import Derived.Test.YtaonlcgneemimaaGreatDoorJ36
namespace Go.Proofs.YtaonlcgneemimaaGreatDoor
open Go.RowKit
/-- Events of short names. -/
structure ShortI (i : ItemA) : Prop where
  good : i.good
  path : i.path.size ≤ 2
  tt : i.to.size ≤ 2
theorem textB_len2 (s : ByteArray) (h : s.size ≤ 2) : (textB s).length ≤ 3 := by
  have := numB_len 0 s.size (by omega)
  simp only [textB, List.length_append, strB_length]; omega
theorem itemB_len2 (i : ItemA) (h : ShortI i) : (itemB i).length ≤ 40 + 27 * i.parts.length := by
  have a := textB_len2 i.path h.path
  have b := textB_len2 i.to h.tt
  have g := h.good
  have c := numB_len 8 i.size.toNat (by have := g.size2; omega)
  have d := numB_len 8 i.off.toNat (by have := g.off2; omega)
  have e := numB_len 8 i.parts.length (by have := g.few; omega)
  have f := partsB_len i.parts (fun p hp => (g.parts p hp).2)
  unfold itemB
  simp only [List.length_append, List.length_cons, List.length_nil]
  split <;> split <;> split <;> simp only [List.length_append, List.length_nil] <;> omega
def partsN (its : List ItemA) : Nat := (its.map fun i => i.parts.length).sum
theorem partsN_append (a b : List ItemA) : partsN (a ++ b) = partsN a + partsN b := by simp [partsN]
theorem record_names (its : List ItemA) (hg : ∀ i ∈ its, ShortI i) (hl : its.length ≤ 64) (hp : partsN its ≤ 64) : (recordB 1 its).length ≤ 16384 := by
  have h1 := numB_9 (k := 1) (by decide)
  have h2 := numB_9 (k := its.length) (by omega)
  have h3 : ∀ (l : List ItemA), (∀ i ∈ l, ShortI i) → (l.flatMap rowB).length ≤ 48 * l.length + 27 * partsN l := by
    intro l
    induction l with
    | nil => intro _; simp [partsN]
    | cons a t ih =>
      intro h
      have h4 := itemB_len2 a (h a (by simp))
      have h6 := ih (fun i hi => h i (by simp [hi]))
      have h7 : (rowB a).length = 8 + (itemB a).length := by simp [rowB, leB_length]
      simp only [partsN, List.map_cons, List.sum_cons, List.flatMap_cons, List.length_append, List.length_cons] at h6 ⊢
      omega
  have h4 := h3 its hg
  unfold recordB
  simp only [List.length_append, List.length_cons, List.length_nil]
  omega
theorem crI_short (c : Fin 26) : ShortI (crI c) := ⟨crI_good c, Nat.le_refl _, by show (⟨#[]⟩ : ByteArray).size ≤ 2; decide⟩
theorem rnI_short (c d : Fin 26) : ShortI (rnI c d) :=
  ⟨⟨by simp [rnI], by simp [rnI], by show (fp c.1).size ≤ 64; rw [fp_size]; decide, by show (fp d.1).size ≤ 64; rw [fp_size]; decide, fun h => absurd rfl h, fun _ => rfl, fun _ => rfl, by simp [rnI], by simp [rnI], by simp [rnI], by simp [rnI], by simp [rnI], fun _ => rfl, by simp [rnI]⟩, Nat.le_refl _, Nat.le_refl _⟩
theorem ulI_short (c : Fin 26) : ShortI (ulI c) :=
  ⟨⟨by simp [ulI], by simp [ulI], by show (fp c.1).size ≤ 64; rw [fp_size]; decide, by show (⟨#[]⟩ : ByteArray).size ≤ 64; decide, fun _ => rfl, fun _ => rfl, fun _ => rfl, by simp [ulI], by simp [ulI], by simp [ulI], by simp [ulI], by simp [ulI], fun _ => rfl, by simp [ulI]⟩, Nat.le_refl _, by show (⟨#[]⟩ : ByteArray).size ≤ 2; decide⟩
theorem wI_parts (l : List Int) (hl : l.length ≤ 500) : (wI l).parts.length ≤ 63 := by
  have := (cutL_all l).2.2
  show (piecesA [] (cutL l)).length ≤ 63
  rw [piecesA_len]
  omega
theorem wI_short (l : List Int) (hl : l.length ≤ 500) : ShortI (wI l) :=
  ⟨⟨by simp [wI], by simp [wI], by show (fp (0 : Fin 26).1).size ≤ 64; rw [fp_size]; decide, by show (⟨#[]⟩ : ByteArray).size ≤ 64; decide, fun _ => rfl, fun h => absurd rfl h, fun _ => rfl, by simp [wI], by simp [wI], by simp [wI], by simp [wI], wI_fits l hl, fun h => absurd rfl h, by have := wI_parts l hl; omega⟩, Nat.le_refl _, by show (⟨#[]⟩ : ByteArray).size ≤ 2; decide⟩
theorem renI_short : ∀ (cs : List (Fin 26)) (c : Fin 26), (∀ i ∈ renI c cs, ShortI i) ∧ partsN (renI c cs) = 0
  | [], c => ⟨fun i hi => by simp [renI] at hi, rfl⟩
  | d :: ds, c => by
    obtain ⟨h1, h2⟩ := renI_short ds d
    refine ⟨fun i hi => ?_, ?_⟩
    · rcases List.mem_cons.1 hi with rfl | hi
      · exact rnI_short c d
      · exact h1 i hi
    · show (rnI c d).parts.length + partsN (renI d ds) = 0
      rw [h2]
      rfl
theorem namesI_short (l : List Int) (hl : l.length ≤ 500) (cs : List (Fin 26)) : (∀ i ∈ namesI l cs, ShortI i) ∧ partsN (namesI l cs) ≤ 63 := by
  obtain ⟨h1, h2⟩ := renI_short cs 0
  refine ⟨fun i hi => ?_, ?_⟩
  · rcases List.mem_cons.1 hi with rfl | hi
    · exact crI_short 0
    · rcases List.mem_cons.1 hi with rfl | hi
      · exact wI_short l hl
      · exact h1 i hi
  · show (crI 0).parts.length + ((wI l).parts.length + partsN (renI 0 cs)) ≤ 63
    rw [h2]
    have := wI_parts l hl
    show 0 + ((wI l).parts.length + 0) ≤ 63
    omega
/-- A repository with events that are pending. -/
def NamI (w W : World) (r : Nat) (its : List ItemA) (P : List (List Int)) : Prop :=
  ∃ X, RepAt W r X ∧ X.xs = [] ∧ X.its = its ∧ X.P = P ∧ NewEng X ∧ (∀ k ∈ X.mu r, w.heap.size ≤ k) ∧ (∀ k ∈ X.m1 r, w.heap.size ≤ k) ∧ Below w.heap.size w W
theorem NamI.more {w W w' : World} {r : Nat} {its : List ItemA} {P : List (List Int)} (h : NamI w W r its P) (hb : Below W.heap.size W w') : NamI w w' r its P := by
  obtain ⟨X, h1, h2, h3, h4, h5, h6, h7, h8⟩ := h
  exact ⟨X, h1.below hb, h2, h3, h4, h5, h6, h7, h8.trans (hb.mono h8.size)⟩
theorem NamI.bel {w W : World} {r : Nat} {its : List ItemA} {P : List (List Int)} (h : NamI w W r its P) : Below w.heap.size w W := by
  obtain ⟨X, -, -, -, -, -, -, -, h8⟩ := h
  exact h8
theorem nam_ingest {w W : World} {r : Nat} {its : List ItemA} {P P' : List (List Int)} (h : NamI w W r its P) (i : ItemA) (da : Option Addr) (dn dc : Nat) (hi : okA (stepAll Abs.new its) i) (hs : ∀ j ∈ its ++ [i], ShortI j) (hcl : CleanEv i) (h8 : i.op ≠ 8) (hd : i.op = 3 → dn ≤ 1024 ∧ i.off + dn ≤ 1099511627776) (hP : PcsOk W i da dn dc P P') (hfew : its.length ≤ 63) (hpn : partsN (its ++ [i]) ≤ 64) :
    Calls Tryz.prog 9 #[.pointer (some ⟨r, 0, none⟩), .agg #[.int .i64 i.op, .string i.path, .string i.to, .int .i64 i.off, .int .i64 i.size, .slice da dn dc]] W fun e w' => e = .returned (.tuple #[.int .i64 ((its.length : Int) + 1), .int .i64 0]) ∧ NamI w w' r (its ++ [i]) P' := by
  obtain ⟨X, h1, h2, rfl, rfl, h5, h6, h7, hb⟩ := h
  have hy : X.y.x = stepAll Abs.new X.its := by rw [h1.yx, h2, lastX_nil]
  have hrec := record_names (X.its ++ [i]) hs (by simp; omega) hpn
  refine (ingest_nice W r X h1 i P' da dn dc (by rw [hy]; exact hi) (hs i (by simp)).good hcl h8 hd hP (by rw [h2]; exact hrec) (by omega)).mono ?_
  rintro e w' ⟨rfl, X1, N⟩
  refine ⟨by rw [h2]; simp, X1, N.rep, N.xs.trans h2, N.its, N.P, h5.of N, by rw [N.mu]; exact h6, by rw [N.m1]; exact h7, N.fr.fresh hb h7⟩
/-- A repository whose events are points. -/
def NamD (w W : World) (r : Nat) (its : List ItemA) (P : List (List Int)) : Prop :=
  ∃ X, RepAt W r X ∧ X.P = P ∧ X.xs.length = its.length ∧ (∀ (j : Nat) z, X.xs[j]? = some z → z.x = stepAll Abs.new (its.take (j + 1))) ∧ Below w.heap.size w W
theorem NamD.more {w W w' : World} {r : Nat} {its : List ItemA} {P : List (List Int)} (h : NamD w W r its P) (hb : Below W.heap.size W w') : NamD w w' r its P := by
  obtain ⟨X, h1, h2, h3, h4, h8⟩ := h
  exact ⟨X, h1.below hb, h2, h3, h4, h8.trans (hb.mono h8.size)⟩
theorem nam_commit {w W : World} {r : Nat} {its : List ItemA} {P : List (List Int)} (h : NamI w W r its P) (hne : its ≠ []) (hs : ∀ j ∈ its, ShortI j) (hfew : its.length ≤ 64) (hpn : partsN its ≤ 64) (hP : P.length ≤ 63) :
    Calls Tryz.prog 10 #[.pointer (some ⟨r, 0, none⟩)] W fun e w' => e = .returned (.int .i64 0) ∧ NamD w w' r its P := by
  obtain ⟨X, h1, h2, rfl, rfl, E, h6, h7, hb⟩ := h
  have hrec : (recordB (X.xs.length + 1) X.its).length ≤ 16384 := by rw [h2]; exact record_names X.its hs hfew hpn
  have hfr := h1.eng.frees
  rw [E.ssJ, E.ssC] at hfr
  refine (commit_any W r X h1 hne hrec (by rw [h2]; simp; omega) (by omega) (by rw [E.dn]; decide) (by rw [E.k]; decide) (by rw [E.number]; decide) (fun T hT => ?_)).mono ?_
  · rw [E.ssJ, E.ssC, E.nJ, E.nC]
    unfold needN manyN
    simp at hfr ⊢
    omega
  · rintro e w' ⟨rfl, x', pv, sv, zs, dn, df, T, a1, a2, a3, a4, -⟩
    refine ⟨rfl, _, a1, rfl, ?_, fun j z hz => ?_, a2.fresh hb h6⟩
    · show (X.xs ++ zs).length = _
      rw [h2, List.nil_append, a3]
    · have hz2 : (X.xs ++ zs)[j]? = some z := hz
      rw [h2, List.nil_append] at hz2
      rw [a4 j z hz2, h2, lastX_nil]
theorem nam_vers {w W : World} {r : Nat} {its : List ItemA} {P : List (List Int)} (h : NamD w W r its P) (id : Int) (hid : 0 ≤ id ∧ id ≤ 4611686018427387904) (os : List Seen) (hl : os.length = its.length) (hS : SeenL id (trail Abs.new its) os) (hn : versNice none os) (N : Nat) (hN : versN none os = N) :
    Calls Tryz.prog 18 #[.pointer (some ⟨r, 0, none⟩), .int .i64 id] W fun e w' => ∃ a cap, e = .returned (.slice a N cap) ∧ NamD w w' r its P := by
  have h0 := h
  obtain ⟨X, h1, h2, h3, h4, h5⟩ := h
  refine (versions_any W r X h1 id hid os (by rw [hl, h3]) (fun j y o hy ho => ?_) hn).mono ?_
  · have hj : j < its.length := by rw [← h3]; exact (List.getElem?_eq_some_iff.1 hy).1
    have := hS.at j _ o (trail_at its Abs.new j hj) ho
    rw [← h4 j y hy] at this
    exact this
  · rintro e w' ⟨a, cap, rfl, hq⟩
    rw [hN]
    exact ⟨a, cap, rfl, h0.more hq⟩
theorem nam_read {w W : World} {r : Nat} {its : List ItemA} {l : List Int} (h : NamD w W r its (putAll [] (cutL l))) (hl : l.length ≤ 500) (j : Nat) (hj : j < its.length) (c : Fin 26) (ha : Alone c (stepAll Abs.new (its.take (j + 1))) (bodyW (cutL l))) :
    Calls Tryz.prog 11 #[.pointer (some ⟨r, 0, none⟩), .int .i64 ((j : Int) + 1), .string (fp c.1), .int .i64 0, .int .i64 l.length] W fun e w' => ∃ v', e = .returned (.tuple #[v', .int .i64 0]) ∧ Sl w' 5 1 v' l.length (u8s l) ∧ NamD w w' r its (putAll [] (cutL l)) := by
  have h0 := h
  obtain ⟨X, h1, h2, h3, h4, h5⟩ := h
  obtain ⟨y, hy⟩ : ∃ y, X.xs[j]? = some y := ⟨_, List.getElem?_eq_getElem (by omega)⟩
  rw [← h4 j y hy] at ha
  have hr := bodyW_read (cutL l)
  rw [(cutL_all l).1] at hr
  have := repRead_any W r X h1 j y hy c 1 ha.at (bodyW (cutL l)) ha.S1 (by rw [h2]; exact bodyW_whole _) 0 l.length (by omega) (by omega) (by omega) (by omega)
  rw [h2, hr] at this
  refine this.mono ?_
  rintro e w' ⟨v', rfl, a1, a2⟩
  exact ⟨v', rfl, a1, h0.more a2⟩
theorem nam_stat {w W : World} {r : Nat} {its : List ItemA} {P : List (List Int)} (h : NamD w W r its P) (j : Nat) (hj : j < its.length) (c : Fin 26) (ha : Anew c (stepAll Abs.new (its.take (j + 1)))) :
    Calls Tryz.prog 17 #[.pointer (some ⟨r, 0, none⟩), .int .i64 ((j : Int) + 1), .string (fp c.1)] W fun e w' => e = .returned (.tuple #[.agg #[.int .i64 2, .bool false, .int .i64 0], .int .i64 0]) ∧ NamD w w' r its P ∧ Below W.heap.size W w' := by
  have h0 := h
  obtain ⟨X, h1, h2, h3, h4, h5⟩ := h
  obtain ⟨y, hy⟩ : ∃ y, X.xs[j]? = some y := ⟨_, List.getElem?_eq_getElem (by omega)⟩
  rw [← h4 j y hy] at ha
  refine (repStat_any W r X h1 j y hy c 2 (by rw [ha.T, if_pos rfl]) ⟨0, []⟩ ha.S2).mono ?_
  rintro e w' ⟨rfl, a2⟩
  exact ⟨rfl, h0.more a2, a2⟩
/-- A write of all the data there are. -/
theorem pcs_all (W : World) (A : Option Addr) (n cap : Nat) (l : List Int) (hv : BytX W A cap l) (hn : l.length = n) (hl : l.length ≤ 500) (hb : ByteL l) : PcsOk W (wI l) A n cap [] (putAll [] (cutL l)) := by
  intro W2 B c bl bb vs fb m sz hW hc hB
  exact pieces_all W2 B c [] bl bb vs fb m sz hc hB A n cap l (hv.below hW) hn hb (by simp; omega) _ _ _ _
end Go.Proofs.YtaonlcgneemimaaGreatDoor
namespace Go.Proofs.YtaonlcgneemimaaGreatDoor
open Go.RowKit
/-- An argument: a row of bytes. -/
def ArgB (w : World) (a : Option Addr) (len cap : Nat) (zs : List Int) : Prop :=
  len ≤ cap ∧ len ≤ zs.length ∧ ∀ i, i < len → ∃ x : Addr, a = some x ∧ w.cell? (x.add i) = some (.int .u8 (zs.getD i 0)) ∧ 0 ≤ zs.getD i 0 ∧ zs.getD i 0 ≤ 255
theorem ArgB.byt {w : World} {a : Option Addr} {len cap : Nat} {zs : List Int} (h : ArgB w a len cap zs) (hl : len ≤ 1000000) : BytX w a cap (zs.take len) ∧ (zs.take len).length = len := by
  obtain ⟨h1, h2, h3⟩ := h
  have hlen : (zs.take len).length = len := by simp; omega
  refine ⟨⟨by omega, by omega, fun j hj => ?_⟩, hlen⟩
  obtain ⟨x, rfl, h4, h5, h6⟩ := h3 j (by omega)
  have e : (zs.take len).getD j 0 = zs.getD j 0 := by
    simp only [List.getD_eq_getElem?_getD, List.getElem?_take]
    rw [if_pos (by omega)]
  rw [e]
  exact ⟨x, rfl, h4, h5, h6⟩
theorem BytX.byteL {w : World} {a : Option Addr} {cap : Nat} {l : List Int} (h : BytX w a cap l) : ByteL l := by
  intro x hx
  obtain ⟨j, hj, rfl⟩ := List.getElem_of_mem hx
  obtain ⟨-, -, -, h1, h2⟩ := h.cell j hj
  have e : l.getD j 0 = l[j] := by simp [List.getD, hj]
  rw [e] at h1 h2
  exact ⟨h1, h2⟩
theorem conv_x {w : World} {a : Option Addr} {n cap : Nat} {l : List Int} (h : BytX w a cap l) (hn : l.length = n) : (convert 33 9 (.slice a n cap)).run Tryz.prog w = .ok (.string (strOfNums l)) w := by
  subst hn
  cases a with
  | none =>
    have : l = [] := by
      rcases l with _ | ⟨y, t⟩
      · rfl
      · obtain ⟨x, hx, -⟩ := h.cell 0 (by simp)
        cases hx
    subst this
    exact run_convert_bytes_nil (P := Tryz.prog) w 33 5 Tryz.underlying33 Tryz.underlying5 0 cap 9 Tryz.underlying9
  | some x =>
    rw [run_convert_bytes_string w 33 9 5 _ l.length cap Tryz.underlying33 Tryz.underlying5 Tryz.underlying9]
    have hl := run_loadCells_list (P := Tryz.prog) w x (l.map (Value.int .u8)) (fun j v hj => h.cells j v hj)
    simp only [List.length_map] at hl
    rw [run_bytesToString w x l.length cap _ hl, foldl_push_bytes]
    simp [strOfNums, ByteArray.empty, ByteArray.emptyWithCapacity]
    rfl
/-- The name that a byte picks. -/
def letter (z : Int) : Fin 26 := ⟨(z % 5).toNat % 26, Nat.mod_lt _ (by decide)⟩
theorem letter_fp (z : Int) : (⟨#[47]⟩ : ByteArray) ++ strOfNums [97 + z % 5] = fp (letter z).1 := by
  have h : z % 5 = 0 ∨ z % 5 = 1 ∨ z % 5 = 2 ∨ z % 5 = 3 ∨ z % 5 = 4 := by omega
  unfold letter
  rcases h with h | h | h | h | h <;> simp only [h] <;> decide
theorem fpA : fp (lastC 0 ([] : List (Fin 26))).1 = ⟨#[47, 97]⟩ := by decide
theorem fp_tt (c d : Fin 26) : ((fp d.1).toList == (fp c.1).toList) = decide (d = c) := fp_lbeq d c
theorem csOf_succ (zs : List Int) (i : Nat) (z : Int) (h : zs[i]? = some z) : (zs.take (i + 1)).map letter = (zs.take i).map letter ++ [letter z] := by
  rw [List.take_add_one, h]
  simp
theorem names_take (l : List Int) (cs : List (Fin 26)) : (allI l cs).take (cs.length + 1 + 1) = namesI l cs := by
  unfold allI
  rw [List.take_append_of_le_length (by simp [namesI, renI_len])]
  rw [List.take_of_length_le (by simp [namesI, renI_len])]
theorem all_take (l : List Int) (cs : List (Fin 26)) : (allI l cs).take (cs.length + 3 + 1) = allI l cs := List.take_of_length_le (by rw [allI_len]; omega)
theorem allI_short (l : List Int) (hl : l.length ≤ 500) (cs : List (Fin 26)) : (∀ i ∈ allI l cs, ShortI i) ∧ partsN (allI l cs) ≤ 63 := by
  obtain ⟨h1, h2⟩ := namesI_short l hl cs
  refine ⟨fun i hi => ?_, ?_⟩
  · rcases List.mem_append.1 hi with hi | hi
    · exact h1 i hi
    · simp only [List.mem_cons, List.not_mem_nil, or_false] at hi
      rcases hi with rfl | rfl
      · exact ulI_short _
      · exact crI_short _
  · unfold allI
    rw [partsN_append]
    show _ + ((ulI (lastC 0 cs)).parts.length + ((crI (lastC 0 cs)).parts.length + 0)) ≤ 63
    show _ + (0 + (0 + 0)) ≤ 63
    omega
theorem namesI_len (l : List Int) (cs : List (Fin 26)) : (namesI l cs).length = cs.length + 2 := by simp [namesI, renI_len]
theorem ulI_clean (c : Fin 26) : CleanEv (ulI c) := ⟨fun _ => rfl, fun _ => rfl, fun _ => rfl⟩
theorem rnI_clean (c d : Fin 26) : CleanEv (rnI c d) := ⟨fun h => absurd rfl h, fun _ => rfl, fun _ => rfl⟩
theorem wI_clean (l : List Int) : CleanEv (wI l) := ⟨fun _ => rfl, fun h => absurd rfl h, fun _ => rfl⟩
theorem nam_create {w W : World} {r : Nat} (h : NamI w W r [] []) :
    Calls Tryz.prog 9 #[.pointer (some ⟨r, 0, none⟩), .agg #[.int .i64 1, .string ⟨#[47, 97]⟩, .string ⟨#[]⟩, .int .i64 0, .int .i64 0, .slice none 0 0]] W fun e w' => e = .returned (.tuple #[.int .i64 1, .int .i64 0]) ∧ NamI w w' r [crI 0] [] := by
  have := nam_ingest h (crI 0) none 0 0 (one_cr 0).1 (fun j hj => by simp at hj; subst hj; exact crI_short 0) (crI_clean 0) (by simp [crI]) (fun h => by simp [crI] at h) (pcs_none W (crI 0) none 0 0 [] (by simp [crI]) rfl) (by simp) (by simp [partsN, crI])
  exact this
theorem nam_write {w W : World} {r : Nat} (h : NamI w W r [crI 0] []) (A : Option Addr) (n cap : Nat) (l : List Int) (hv : BytX W A cap l) (hn : l.length = n) (hl : l.length ≤ 500) :
    Calls Tryz.prog 9 #[.pointer (some ⟨r, 0, none⟩), .agg #[.int .i64 3, .string ⟨#[47, 97]⟩, .string ⟨#[]⟩, .int .i64 0, .int .i64 0, .slice A n cap]] W fun e w' => e = .returned (.tuple #[.int .i64 2, .int .i64 0]) ∧ NamI w w' r (namesI l []) (putAll [] (cutL l)) := by
  have := nam_ingest h (wI l) A n cap (alone_wr alone_cr.2 l hl).1 (fun j hj => by simp at hj; rcases hj with rfl | rfl; exact crI_short 0; exact wI_short l hl) (wI_clean l) (by simp [wI]) (fun _ => ⟨by omega, by simp [wI]; omega⟩) (pcs_all W A n cap l hv hn hl hv.byteL) (by simp) (by rw [partsN_append]; have := wI_parts l hl; simp only [partsN, List.map_cons, List.map_nil, List.sum_cons, List.sum_nil]; show 0 + 0 + ((wI l).parts.length + 0) ≤ 64; omega)
  exact this
theorem nam_rename {w W : World} {r : Nat} {l : List Int} (hl : l.length ≤ 500) {cs : List (Fin 26)} (hcs : cs.length ≤ 59) (h : NamI w W r (namesI l cs) (putAll [] (cutL l))) (d : Fin 26) :
    Calls Tryz.prog 9 #[.pointer (some ⟨r, 0, none⟩), .agg #[.int .i64 5, .string (fp (lastC 0 cs).1), .string (fp d.1), .int .i64 0, .int .i64 0, .slice none 0 0]] W fun e w' => e = .returned (.tuple #[.int .i64 ((cs.length : Int) + 3), .int .i64 0]) ∧ NamI w w' r (namesI l (cs ++ [d])) (putAll [] (cutL l)) := by
  have e : namesI l (cs ++ [d]) = namesI l cs ++ [rnI (lastC 0 cs) d] := by
    unfold namesI
    rw [renI_snoc]
    rfl
  obtain ⟨s1, s2⟩ := namesI_short l hl (cs ++ [d])
  rw [e] at s1 s2 ⊢
  have := nam_ingest h (rnI (lastC 0 cs) d) none 0 0 (alone_rn (names_law l hl cs).1 d).1 s1 (rnI_clean _ _) (by simp [rnI]) (fun h => by simp [rnI] at h) (pcs_none W _ none 0 0 _ (by simp [rnI]) rfl) (by rw [namesI_len]; omega) (by omega)
  refine this.mono ?_
  rintro e w' ⟨rfl, h2⟩
  refine ⟨?_, h2⟩
  rw [namesI_len]
  congr 3
theorem nam_unlink {w W : World} {r : Nat} {l : List Int} (hl : l.length ≤ 500) {cs : List (Fin 26)} (hcs : cs.length ≤ 60) (h : NamI w W r (namesI l cs) (putAll [] (cutL l))) :
    Calls Tryz.prog 9 #[.pointer (some ⟨r, 0, none⟩), .agg #[.int .i64 6, .string (fp (lastC 0 cs).1), .string ⟨#[]⟩, .int .i64 0, .int .i64 0, .slice none 0 0]] W fun e w' => e = .returned (.tuple #[.int .i64 ((cs.length : Int) + 3), .int .i64 0]) ∧ NamI w w' r (namesI l cs ++ [ulI (lastC 0 cs)]) (putAll [] (cutL l)) := by
  obtain ⟨s1, s2⟩ := namesI_short l hl cs
  have := nam_ingest h (ulI (lastC 0 cs)) none 0 0 (alone_ul (names_law l hl cs).1).1 (fun j hj => by rcases List.mem_append.1 hj with hj | hj; exact s1 j hj; simp only [List.mem_singleton] at hj; subst hj; exact ulI_short _) (ulI_clean _) (by simp [ulI]) (fun h => by simp [ulI] at h) (pcs_none W _ none 0 0 _ (by simp [ulI]) rfl) (by rw [namesI_len]; omega) (by rw [partsN_append]; show _ + (0 + 0) ≤ 64; omega)
  refine this.mono ?_
  rintro e w' ⟨rfl, h2⟩
  refine ⟨?_, h2⟩
  rw [namesI_len]
  congr 3
theorem nam_again {w W : World} {r : Nat} {l : List Int} (hl : l.length ≤ 500) {cs : List (Fin 26)} (hcs : cs.length ≤ 60) (h : NamI w W r (namesI l cs ++ [ulI (lastC 0 cs)]) (putAll [] (cutL l))) :
    Calls Tryz.prog 9 #[.pointer (some ⟨r, 0, none⟩), .agg #[.int .i64 1, .string (fp (lastC 0 cs).1), .string ⟨#[]⟩, .int .i64 0, .int .i64 0, .slice none 0 0]] W fun e w' => e = .returned (.tuple #[.int .i64 ((cs.length : Int) + 4), .int .i64 0]) ∧ NamI w w' r (allI l cs) (putAll [] (cutL l)) := by
  have ha : allI l cs = namesI l cs ++ [ulI (lastC 0 cs)] ++ [crI (lastC 0 cs)] := by simp [allI]
  obtain ⟨s1, s2⟩ := allI_short l hl cs
  rw [ha] at s1 s2 ⊢
  have hg : Gone (stepAll Abs.new (namesI l cs ++ [ulI (lastC 0 cs)])) := by
    rw [stepAll_snoc]
    exact (alone_ul (names_law l hl cs).1).2
  have := nam_ingest h (crI (lastC 0 cs)) none 0 0 (gone_cr hg _).1 s1 (crI_clean _) (by simp [crI]) (fun h => by simp [crI] at h) (pcs_none W _ none 0 0 _ (by simp [crI]) rfl) (by rw [List.length_append, namesI_len]; simp; omega) (by omega)
  refine this.mono ?_
  rintro e w' ⟨rfl, h2⟩
  refine ⟨?_, h2⟩
  rw [List.length_append, namesI_len]
  congr 3
theorem nam_done {w W : World} {r : Nat} {l : List Int} (hl : l.length ≤ 500) {cs : List (Fin 26)} (hcs : cs.length ≤ 60) (h : NamI w W r (allI l cs) (putAll [] (cutL l))) :
    Calls Tryz.prog 10 #[.pointer (some ⟨r, 0, none⟩)] W fun e w' => e = .returned (.int .i64 0) ∧ NamD w w' r (allI l cs) (putAll [] (cutL l)) := by
  obtain ⟨s1, s2⟩ := allI_short l hl cs
  refine nam_commit h (fun e => by have := congrArg List.length e; rw [allI_len] at this; simp at this) s1 (by rw [allI_len]; omega) (by omega) ?_
  have h1 := putAll_len (cutL l) []
  have h2 := (cutL_all l).2.2
  simp only [List.length_nil] at h1
  omega
end Go.Proofs.YtaonlcgneemimaaGreatDoor
namespace Go.Proofs.YtaonlcgneemimaaGreatDoor
open Go.RowKit
set_option maxRecDepth 100000 in
set_option maxHeartbeats 8000000 in
theorem names_any (w : World) (hg : ∃ m, w.cell? ⟨1, 0, none⟩ = some (.int .i64 m)) (a0 a1 : Option Addr) (ln cn lb cb : Nat) (zs zb : List Int) (hA : ArgB w a0 ln cn zs) (hC : ArgB w a1 lb cb zb) (hln : ln ≤ maxLen) (hlb : lb ≤ maxLen) :
    Calls Tryz.prog 5 #[.slice a0 ln cn, .slice a1 lb cb] w fun e w' => e = .returned (.bool true) ∧ Below w.heap.size w w' := by
  have hml : maxLen = 9223372036854775807 := by decide
  have AW := Lib.hid (awake_any w hg)
  have HA := Lib.hid hA
  have HC := Lib.hid hC
  have h1lt : 1 < w.heap.size := by
    obtain ⟨m, hm⟩ := hg
    exact World.block_lt_of_cell? w ⟨1, 0, none⟩ hm
  have GB : Hid (∃ m, w.cell? ⟨1, 0, none⟩ = some (.int .i64 m)) := Lib.hid hg
  clear hA hC hg
  by_cases h1 : 60 < ln
  · go_enter Tryz.func5, Tryz.ntmps5
    go_wp2_with (go_at_call 6; with_reducible refine AW.out.mono ?_; rintro e1 w1 ⟨rfl, hq⟩; have B1 := Lib.hid hq; clear hq)
    go_ret
    exact ⟨rfl, B1.out⟩
  by_cases h2 : 500 < lb
  · go_enter Tryz.func5, Tryz.ntmps5
    go_wp2_with (go_at_call 6; with_reducible refine AW.out.mono ?_; rintro e1 w1 ⟨rfl, hq⟩; have B1 := Lib.hid hq; clear hq)
    go_ret
    exact ⟨rfl, B1.out⟩
  have h6 : ln ≤ 60 := by omega
  have h5 : lb ≤ 500 := by omega
  clear h1 h2
  obtain ⟨hbx, hbl⟩ := HC.out.byt (by omega)
  obtain ⟨l, hl⟩ : ∃ l, Hid (l = zb.take lb) := ⟨_, Lib.hid rfl⟩
  rw [← hl.out] at hbx hbl
  have BX := Lib.hid (fun W (hW : Below w.heap.size w W) => hbx.below hW)
  have BL := Lib.hid hbl
  have L5 : Hid (l.length ≤ 500) := Lib.hid (by omega)
  obtain ⟨P1, hP1⟩ : ∃ P, Hid (P = putAll [] (cutL l)) := ⟨_, Lib.hid rfl⟩
  clear hbx hbl hln hlb hml HC hl
  have ND : Hid (∀ W, Below w.heap.size w W → Calls Tryz.prog 7 #[.int .i64 776] W fun e w' => ∃ d l cb, e = .returned (.tuple #[.pointer (some ⟨d, 0, none⟩), .int .i64 0]) ∧ Hid (DiskAt w' d l cb 776 0) ∧ Hid (Below w.heap.size w w') ∧ w.heap.size ≤ d ∧ w.heap.size ≤ l ∧ w.heap.size ≤ cb) := Lib.hid (fun W hW => by
    refine (newDisk_any W).mono ?_
    rintro e w' ⟨d, l, cb, rfl, h3, h4, h5, h6, h7⟩
    have := hW.size
    exact ⟨d, l, cb, rfl, Lib.hid h3, Lib.hid (hW.trans (h4.mono hW.size)), by omega, by omega, by omega⟩)
  have NF : Hid (∀ W d l cb, Hid (DiskAt W d l cb 776 0) → Hid (Below w.heap.size w W) → w.heap.size ≤ d → w.heap.size ≤ l → w.heap.size ≤ cb → Calls Tryz.prog 8 #[.pointer (some ⟨d, 0, none⟩)] W fun e w' => ∃ r, e = .returned (.tuple #[.pointer (some ⟨r, 0, none⟩), .int .i64 0]) ∧ Hid (NamI w w' r [] [])) := Lib.hid (fun W d l cb hd hW h3 h4 h5 => by
    refine (begin_any w GB.out W d l cb hd.out hW.out h3 h4 h5).mono ?_
    rintro e w' ⟨r, X, rfl, a1, a2, a3, a4, a5, a6, a7, a8⟩
    exact ⟨r, rfl, Lib.hid ⟨X, a1, a2, a3, a4, a5, a6, a7, a8⟩⟩)
  have NC : Hid (∀ W r, Hid (NamI w W r [] []) → Calls Tryz.prog 9 #[.pointer (some ⟨r, 0, none⟩), .agg #[.int .i64 1, .string ⟨#[47, 97]⟩, .string ⟨#[]⟩, .int .i64 0, .int .i64 0, .slice none 0 0]] W fun e w' => e = .returned (.tuple #[.int .i64 1, .int .i64 0]) ∧ Hid (NamI w w' r [crI 0] [])) := Lib.hid (fun W r h => by
    refine (nam_create h.out).mono ?_
    rintro e w' ⟨rfl, h3⟩
    exact ⟨rfl, Lib.hid h3⟩)
  have WR : Hid (∀ W r, Hid (NamI w W r [crI 0] []) → Calls Tryz.prog 9 #[.pointer (some ⟨r, 0, none⟩), .agg #[.int .i64 3, .string ⟨#[47, 97]⟩, .string ⟨#[]⟩, .int .i64 0, .int .i64 0, .slice a1 lb cb]] W fun e w' => e = .returned (.tuple #[.int .i64 2, .int .i64 0]) ∧ Hid (NamI w w' r (namesI l []) P1)) := Lib.hid (fun W r h => by
    rw [hP1.out]
    refine (nam_write h.out a1 lb cb l (BX.out W h.out.bel) BL.out L5.out).mono ?_
    rintro e w' ⟨rfl, h3⟩
    exact ⟨rfl, Lib.hid h3⟩)
  have RN : Hid (∀ W r (cs : List (Fin 26)) (c d : Fin 26) (n : Nat), Hid (NamI w W r (namesI l cs) P1) → Hid (c = lastC 0 cs) → Hid (cs.length = n) → n ≤ 59 → Calls Tryz.prog 9 #[.pointer (some ⟨r, 0, none⟩), .agg #[.int .i64 5, .string (fp c.1), .string (fp d.1), .int .i64 0, .int .i64 0, .slice none 0 0]] W fun e w' => e = .returned (.tuple #[.int .i64 ((n : Int) + 3), .int .i64 0]) ∧ Hid (NamI w w' r (namesI l (cs ++ [d])) P1)) := Lib.hid (fun W r cs c d n h hc hn h59 => by
    rw [hP1.out] at h ⊢
    have hc := hc.out
    have hn := hn.out
    subst hc
    subst hn
    refine (nam_rename L5.out h59 h.out d).mono ?_
    rintro e w' ⟨rfl, h3⟩
    exact ⟨rfl, Lib.hid h3⟩)
  have UL : Hid (∀ W r (cs : List (Fin 26)) (c : Fin 26) (n : Nat), Hid (NamI w W r (namesI l cs) P1) → Hid (c = lastC 0 cs) → Hid (cs.length = n) → n ≤ 60 → Calls Tryz.prog 9 #[.pointer (some ⟨r, 0, none⟩), .agg #[.int .i64 6, .string (fp c.1), .string ⟨#[]⟩, .int .i64 0, .int .i64 0, .slice none 0 0]] W fun e w' => e = .returned (.tuple #[.int .i64 ((n : Int) + 3), .int .i64 0]) ∧ Hid (NamI w w' r (namesI l cs ++ [ulI (lastC 0 cs)]) P1)) := Lib.hid (fun W r cs c n h hc hn h60 => by
    rw [hP1.out] at h ⊢
    have hc := hc.out
    have hn := hn.out
    subst hc
    subst hn
    refine (nam_unlink L5.out h60 h.out).mono ?_
    rintro e w' ⟨rfl, h3⟩
    exact ⟨rfl, Lib.hid h3⟩)
  have AG : Hid (∀ W r (cs : List (Fin 26)) (c : Fin 26) (n : Nat), Hid (NamI w W r (namesI l cs ++ [ulI (lastC 0 cs)]) P1) → Hid (c = lastC 0 cs) → Hid (cs.length = n) → n ≤ 60 → Calls Tryz.prog 9 #[.pointer (some ⟨r, 0, none⟩), .agg #[.int .i64 1, .string (fp c.1), .string ⟨#[]⟩, .int .i64 0, .int .i64 0, .slice none 0 0]] W fun e w' => e = .returned (.tuple #[.int .i64 ((n : Int) + 4), .int .i64 0]) ∧ Hid (NamI w w' r (allI l cs) P1)) := Lib.hid (fun W r cs c n h hc hn h60 => by
    rw [hP1.out] at h ⊢
    have hc := hc.out
    have hn := hn.out
    subst hc
    subst hn
    refine (nam_again L5.out h60 h.out).mono ?_
    rintro e w' ⟨rfl, h3⟩
    exact ⟨rfl, Lib.hid h3⟩)
  have CM : Hid (∀ W r (cs : List (Fin 26)) (n : Nat), Hid (NamI w W r (allI l cs) P1) → Hid (cs.length = n) → n ≤ 60 → Calls Tryz.prog 10 #[.pointer (some ⟨r, 0, none⟩)] W fun e w' => e = .returned (.int .i64 0) ∧ Hid (NamD w w' r (allI l cs) P1)) := Lib.hid (fun W r cs n h hn h60 => by
    rw [hP1.out] at h ⊢
    have hn := hn.out
    subst hn
    refine (nam_done L5.out h60 h.out).mono ?_
    rintro e w' ⟨rfl, h3⟩
    exact ⟨rfl, Lib.hid h3⟩)
  have V1 : Hid (∀ W r (cs : List (Fin 26)) (M q : Nat), Hid (NamD w W r (allI l cs) P1) → Hid (M = movedN 0 cs) → Hid (q = if 0 < lb then 1 else 0) → Calls Tryz.prog 18 #[.pointer (some ⟨r, 0, none⟩), .int .i64 1] W fun e w' => ∃ a cap, e = .returned (.slice a (1 + M + q) cap) ∧ Hid (NamD w w' r (allI l cs) P1)) := Lib.hid (fun W r cs M q h hM hq => by
    obtain ⟨v1, v2⟩ := vers_1 l cs
    refine (nam_vers h.out 1 (by decide) (seen1 (bodyW (cutL l)) cs) (by rw [seen1_len, allI_len]) (names_law l L5.out cs).2.2.1 v2 (1 + M + q) (by rw [v1, hM.out, hq.out, BL.out])).mono ?_
    rintro e w' ⟨a, cap, rfl, h3⟩
    exact ⟨a, cap, rfl, Lib.hid h3⟩)
  have V2 : Hid (∀ W r (cs : List (Fin 26)), Hid (NamD w W r (allI l cs) P1) → Calls Tryz.prog 18 #[.pointer (some ⟨r, 0, none⟩), .int .i64 2] W fun e w' => ∃ a cap, e = .returned (.slice a 1 cap) ∧ Hid (NamD w w' r (allI l cs) P1)) := Lib.hid (fun W r cs h => by
    obtain ⟨v1, v2⟩ := vers_2 cs
    refine (nam_vers h.out 2 (by decide) (seen2 cs) (by rw [seen2_len, allI_len]) (names_law l L5.out cs).2.2.2 v2 1 v1).mono ?_
    rintro e w' ⟨a, cap, rfl, h3⟩
    exact ⟨a, cap, rfl, Lib.hid h3⟩)
  have RD : Hid (∀ W r (cs : List (Fin 26)) (c : Fin 26) (n : Nat), Hid (NamD w W r (allI l cs) P1) → Hid (c = lastC 0 cs) → Hid (cs.length = n) → Calls Tryz.prog 11 #[.pointer (some ⟨r, 0, none⟩), .int .i64 ((n : Int) + 2), .string (fp c.1), .int .i64 0, .int .i64 lb] W fun e w' => ∃ v', e = .returned (.tuple #[v', .int .i64 0]) ∧ Hid (Sl w' 5 1 v' lb (u8s l)) ∧ Hid (NamD w w' r (allI l cs) P1)) := Lib.hid (fun W r cs c n h hc hn => by
    rw [hP1.out] at h ⊢
    have hc := hc.out
    have hn := hn.out
    subst hc
    have := nam_read h.out L5.out (cs.length + 1) (by rw [allI_len]; omega) (lastC 0 cs) (by rw [names_take]; exact (names_law l L5.out cs).1)
    rw [BL.out, show (((cs.length + 1 : Nat) : Int) + 1) = (n : Int) + 2 by omega] at this
    refine this.mono ?_
    rintro e w' ⟨v', rfl, h3, h4⟩
    exact ⟨v', rfl, Lib.hid h3, Lib.hid h4⟩)
  have ST : Hid (∀ W r (cs : List (Fin 26)) (c : Fin 26) (n : Nat), Hid (NamD w W r (allI l cs) P1) → Hid (c = lastC 0 cs) → Hid (cs.length = n) → Calls Tryz.prog 17 #[.pointer (some ⟨r, 0, none⟩), .int .i64 ((n : Int) + 4), .string (fp c.1)] W fun e w' => e = .returned (.tuple #[.agg #[.int .i64 2, .bool false, .int .i64 0], .int .i64 0]) ∧ Hid (Below w.heap.size w w') ∧ Hid (Below W.heap.size W w')) := Lib.hid (fun W r cs c n h hc hn => by
    have hc := hc.out
    have hn := hn.out
    subst hc
    have := nam_stat h.out (cs.length + 3) (by rw [allI_len]; omega) (lastC 0 cs) (by rw [all_take]; exact (names_law l L5.out cs).2.1)
    rw [show (((cs.length + 3 : Nat) : Int) + 1) = (n : Int) + 4 by omega] at this
    refine this.mono ?_
    rintro e w' ⟨rfl, ⟨X, -, -, -, -, h3⟩, h4⟩
    exact ⟨rfl, Lib.hid h3, Lib.hid h4⟩)
  go_enter Tryz.func5, Tryz.ntmps5
  go_wp2_with (first | (go_at_call 6; with_reducible refine AW.out.mono ?_; rintro e1 w1 ⟨rfl, hq⟩; have B1 := Lib.hid hq; clear hq) | (go_at_call 7; with_reducible refine (ND.out _ B1.out).mono ?_; rintro e1 w2 ⟨dd, dl, dcb, rfl, D2, B2, k1, k2, k3⟩) | (go_at_call 8; with_reducible refine (NF.out _ dd dl dcb D2 B2 k1 k2 k3).mono ?_; rintro e1 w3 ⟨r, rfl, H3⟩) | (go_at_call 9; with_reducible refine (NC.out _ r H3).mono ?_; rintro e1 w4 ⟨rfl, H4⟩) | (go_at_call 9; with_reducible refine (WR.out _ r H4).mono ?_; rintro e1 w5 ⟨rfl, H5⟩))
  go_loopw [9, 12, 13, 14, 15, 16] (fun t9 t12 t13 _ _ _ wr => ∃ (i M : Nat) (cs : List (Fin 26)) (c : Fin 26), i ≤ ln ∧ M ≤ i ∧ t13 = .int .i64 i ∧ t9 = .string (fp c.1) ∧ t12 = .int .i64 M ∧ Hid (c = lastC 0 cs) ∧ Hid (M = movedN 0 cs) ∧ Hid (cs.length = i) ∧ Hid (NamI w wr r (namesI l cs) P1)) (fun _ _ t13 _ _ _ _ => ln - (intOf t13).toNat)
  case atStart => exact ⟨0, 0, [], 0, by omega, by omega, rfl, rfl, rfl, rfl, rfl, rfl, H5⟩
  case round =>
  obtain ⟨i, M, cs, c, hi, hM, rfl, rfl, rfl, HL, HM, HN, HI⟩ := hrel
  by_cases hlt : i < ln
  · have di : (i : Int) < ln := by omega
    obtain ⟨x, rfl, hxc, hz0, hz1⟩ := HA.out.2.2 i hlt
    obtain ⟨z, hz⟩ : ∃ z, Hid (z = zs.getD i 0) := ⟨_, Lib.hid rfl⟩
    rw [← hz.out] at hxc hz0 hz1
    have hxw : wr.cell? (x.add i) = some (.int .u8 z) := (HI.out.bel.cell (World.block_lt_of_cell? w _ hxc)).trans hxc
    obtain ⟨d, hd⟩ : ∃ d, Hid (d = letter z) := ⟨_, Lib.hid rfl⟩
    have LF : Hid ((⟨#[47]⟩ : ByteArray) ++ strOfNums [97 + z % 5] = fp d.1) := Lib.hid (by rw [hd.out]; exact letter_fp z)
    have hcv : (convert 33 9 (.slice (some ⟨wr.heap.size, 0, none⟩) 1 1)).run Tryz.prog (wr.alloc (.cells #[.int .u8 (97 + z % 5)] 5)) = .ok (.string (strOfNums [97 + z % 5])) (wr.alloc (.cells #[.int .u8 (97 + z % 5)] 5)) := conv_sl (Sl.block (xs := [.int .u8 (97 + z % 5)]) (heap_new wr _) rfl (by simp [Value.oneCell']) (by decide) (by decide))
    have HI2 : Hid (NamI w (wr.alloc (.cells #[.int .u8 (97 + z % 5)] 5)) r (namesI l cs) P1) := Lib.hid (HI.out.more (crc_below _ _))
    clear hxc
    by_cases hdc : d = c
    · subst hdc
      have hcmp : ((fp d.1).toList == (fp d.1).toList) = true := by simp
      go_wp2_with (go_at_call 9; rw [LF.out]; with_reducible refine (RN.out _ r cs d d i HI2 HL HN (by omega)).mono ?_; rintro e1 w6 ⟨rfl, H6⟩)
      go_roundw
      case rel => exact ⟨i + 1, M, cs ++ [d], d, by omega, by omega, by go_num, rfl, rfl, (lastC_snoc d cs 0).symm, by show _ = _; rw [movedN_snoc, ← HL.out, if_pos rfl, HM.out]; rfl, by show _ = _; rw [List.length_append, HN.out]; rfl, H6⟩
      case measure => simp [intOf]; omega
    · have hcmp : ((fp d.1).toList == (fp c.1).toList) = false := by rw [fp_lbeq]; simpa using hdc
      go_wp2_with (go_at_call 9; rw [LF.out]; with_reducible refine (RN.out _ r cs c d i HI2 HL HN (by omega)).mono ?_; rintro e1 w6 ⟨rfl, H6⟩)
      go_roundw
      case rel => exact ⟨i + 1, M + 1, cs ++ [d], d, by omega, by omega, by go_num, rfl, by go_num, (lastC_snoc d cs 0).symm, by show _ = _; rw [movedN_snoc, ← HL.out, if_neg hdc, HM.out], by show _ = _; rw [List.length_append, HN.out]; rfl, H6⟩
      case measure => simp [intOf]; omega
  · have hie : i = ln := by omega
    subst hie
    obtain ⟨q, hq⟩ : ∃ q, Hid (q = if 0 < lb then 1 else 0) := ⟨_, Lib.hid rfl⟩
    obtain ⟨S, hS⟩ : ∃ S, Hid (S = strOfNums l) := ⟨_, Lib.hid rfl⟩
    by_cases hb0 : 0 < lb
    · have hq1 : q = 1 := by rw [hq.out, if_pos hb0]
      subst hq1
      go_wp2_with (first | (go_at_call 9; with_reducible refine (UL.out _ r cs c i HI HL HN h6).mono ?_; rintro e1 w6 ⟨rfl, H6⟩) | (go_at_call 9; with_reducible refine (AG.out _ r cs c i H6 HL HN h6).mono ?_; rintro e1 w7 ⟨rfl, H7⟩) | (go_at_call 10; with_reducible refine (CM.out _ r cs i H7 HN h6).mono ?_; rintro e1 w8 ⟨rfl, H8⟩) | (go_at_call 18; with_reducible refine (V1.out _ r cs M 1 H8 HM hq).mono ?_; rintro e1 w9 ⟨va, vc, rfl, H9⟩) | (go_at_call 18; with_reducible refine (V2.out _ r cs H9).mono ?_; rintro e1 w10 ⟨ua, uc, rfl, H10⟩) | (go_at_call 11; rw [show (i : Int) + 4 - 2 = (i : Int) + 2 by omega]; with_reducible refine (RD.out _ r cs c i H10 HL HN).mono ?_; rintro e1 w11 ⟨v', rfl, S11, H11⟩; obtain ⟨xa, xc, rfl, -, -, -⟩ := S11.out.shape) | (go_at_call 17; with_reducible refine (ST.out _ r cs c i H11 HL HN).mono ?_; rintro e1 w12 ⟨rfl, B12, Q12⟩; (have hcv1 : (convert 33 9 (.slice xa lb xc)).run Tryz.prog (w12.alloc (.cells #[.int .i64 2, .bool false, .int .i64 0] 54)) = .ok (.string S) (w12.alloc (.cells #[.int .i64 2, .bool false, .int .i64 0] 54)) := by rw [hS.out]; exact conv_sl ((S11.out.below Q12.out).below (crc_below _ _))); (have hcv2 : (convert 33 9 (.slice a1 lb cb)).run Tryz.prog (w12.alloc (.cells #[.int .i64 2, .bool false, .int .i64 0] 54)) = .ok (.string S) (w12.alloc (.cells #[.int .i64 2, .bool false, .int .i64 0] 54)) := by rw [hS.out]; exact conv_x (BX.out _ (B12.out.alloc B12.out.size _)) BL.out)))
      go_ret
      exact ⟨rfl, B12.out.alloc B12.out.size _⟩
    · have hq1 : q = 0 := by rw [hq.out, if_neg hb0]
      subst hq1
      go_wp2_with (first | (go_at_call 9; with_reducible refine (UL.out _ r cs c i HI HL HN h6).mono ?_; rintro e1 w6 ⟨rfl, H6⟩) | (go_at_call 9; with_reducible refine (AG.out _ r cs c i H6 HL HN h6).mono ?_; rintro e1 w7 ⟨rfl, H7⟩) | (go_at_call 10; with_reducible refine (CM.out _ r cs i H7 HN h6).mono ?_; rintro e1 w8 ⟨rfl, H8⟩) | (go_at_call 18; with_reducible refine (V1.out _ r cs M 0 H8 HM hq).mono ?_; rintro e1 w9 ⟨va, vc, rfl, H9⟩) | (go_at_call 18; with_reducible refine (V2.out _ r cs H9).mono ?_; rintro e1 w10 ⟨ua, uc, rfl, H10⟩) | (go_at_call 11; rw [show (i : Int) + 4 - 2 = (i : Int) + 2 by omega]; with_reducible refine (RD.out _ r cs c i H10 HL HN).mono ?_; rintro e1 w11 ⟨v', rfl, S11, H11⟩; obtain ⟨xa, xc, rfl, -, -, -⟩ := S11.out.shape) | (go_at_call 17; with_reducible refine (ST.out _ r cs c i H11 HL HN).mono ?_; rintro e1 w12 ⟨rfl, B12, Q12⟩; (have hcv1 : (convert 33 9 (.slice xa lb xc)).run Tryz.prog (w12.alloc (.cells #[.int .i64 2, .bool false, .int .i64 0] 54)) = .ok (.string S) (w12.alloc (.cells #[.int .i64 2, .bool false, .int .i64 0] 54)) := by rw [hS.out]; exact conv_sl ((S11.out.below Q12.out).below (crc_below _ _))); (have hcv2 : (convert 33 9 (.slice a1 lb cb)).run Tryz.prog (w12.alloc (.cells #[.int .i64 2, .bool false, .int .i64 0] 54)) = .ok (.string S) (w12.alloc (.cells #[.int .i64 2, .bool false, .int .i64 0] 54)) := by rw [hS.out]; exact conv_x (BX.out _ (B12.out.alloc B12.out.size _)) BL.out)))
      go_ret
      exact ⟨rfl, B12.out.alloc B12.out.size _⟩
end Go.Proofs.YtaonlcgneemimaaGreatDoor
