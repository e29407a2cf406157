/- TopNames: the contracts of Y21, Y22, Z6, W9, Y23; no condition. -/
import Derived.Test.YtaonlcgneemimaaGreatDoorJ35
import Derived.Test.YtaonlcgneemimaaGreatDoorJ22
import Derived.Test.YtaonlcgneemimaaGreatDoorJ21
import Derived.Test.YtaonlcgneemimaaGreatDoorJ33
import Derived.Test.YtaonlcgneemimaaGreatDoorJ25
import Derived.Test.YtaonlcgneemimaaGreatDoorJ18
namespace Go.Proofs.YtaonlcgneemimaaGreatDoor
open Go.RowKit
theorem pcs_none (w : World) (i : ItemA) (da : Option Addr) (dn dc : Nat) (P : List (List Int)) (h3 : i.op ≠ 3) (hp : i.parts = []) : PcsOk w i da dn dc P P := by
  intro W B c bl bb vs fb m sz hW hc hB
  refine (pieces_none W (some ⟨c, 0, none⟩) i.op h3 i.path i.to i.off i.size da dn dc).mono ?_
  rintro e w' ⟨rfl, hq⟩
  rw [hp]
  exact ⟨_, rfl, Sl.nil _ _ _, ⟨vs, fb, m, sz, hc.below hq, .refl _ _⟩, hq.mono hB, .of_below hq⟩
theorem pcs_shortC (w : World) (i : ItemA) (da : Option Addr) (dn dc : Nat) (P : List (List Int)) (p : List Int) (h3 : i.op = 3) (hp : i.parts = [newPart P p]) (hd : SlC w (.slice da dn dc) p.length (u8s p)) (hb : ByteL p) (h0 : 0 < p.length) (h1 : p.length ≤ 7) (hsm : P.length + 1 ≤ 100000) : PcsOk w i da dn dc P (putP P p) := by
  intro W B c bl bb vs fb m sz hW hc hB
  have := pieces_shortC W B c P bl bb vs fb m sz hc hB (.slice da dn dc) p (hd.below hW) hb h0 h1 hsm i.path i.to i.off i.size
  rw [← h3] at this
  refine this.mono ?_
  rintro e w' ⟨v', rfl, h4, h5, h6, h7⟩
  rw [hp]
  exact ⟨_, rfl, h4, h5, h6, h7⟩
/-- A repository behind an event. -/
structure IngNice (w : World) (r : Nat) (X : RepX) (i : ItemA) (P' : List (List Int)) (w' : World) (X1 : RepX) : Prop where
  rep : RepAt w' r X1
  fr : Frame (X.m1 r) w w'
  mu : X1.mu r = X.mu r
  m1 : X1.m1 r = X.m1 r
  xs : X1.xs = X.xs
  its : X1.its = X.its ++ [i]
  P : X1.P = P'
  x : X1.x = X.x
  dn : X1.dn = X.dn
  vs : VsOk w X.vs X1.vs
theorem ingest_nice (w : World) (r : Nat) (X : RepX) (H : RepAt w r X) (i : ItemA) (P' : List (List Int)) (da : Option Addr) (dn dc : Nat) (hi : okA X.y.x i) (hg : i.good) (hcl : CleanEv i) (h8 : i.op ≠ 8) (hd : i.op = 3 → dn ≤ 1024 ∧ i.off + dn ≤ 1099511627776) (hP : PcsOk w i da dn dc X.P P') (hlen : (recordB (X.xs.length + 1) (X.its ++ [i])).length ≤ 16384) (hfew : X.its.length ≤ 9999) :
    Calls Tryz.prog 9 #[.pointer (some ⟨r, 0, none⟩), .agg #[.int .i64 i.op, .string i.path, .string i.to, .int .i64 i.off, .int .i64 i.size, .slice da dn dc]] w fun e w' => e = .returned (.tuple #[.int .i64 ((X.xs.length : Int) + X.its.length + 1), .int .i64 0]) ∧ ∃ X1, IngNice w r X i P' w' X1 := by
  refine (ingest_any w r X H i P' da dn dc hi hg hcl h8 hd hP hlen hfew).mono ?_
  rintro e w' ⟨rfl, c', bl', bb', vs', fb', m', sz', rv', nb', g', h1, h2, h3⟩
  exact ⟨rfl, _, h1, h2, rfl, rfl, rfl, rfl, rfl, rfl, rfl, h3⟩
/-- The events of a file: it is made, written, cut. -/
def crI (c : Fin 26) : ItemA := ⟨1, fp c.1, ⟨#[]⟩, 0, 0, []⟩
noncomputable def wrI (c : Fin 26) (off : Nat) (p : List Int) (P : List (List Int)) : ItemA := ⟨3, fp c.1, ⟨#[]⟩, off, 0, [newPart P p]⟩
def trI (c : Fin 26) (n : Nat) : ItemA := ⟨4, fp c.1, ⟨#[]⟩, 0, n, []⟩
theorem crI_clean (c : Fin 26) : CleanEv (crI c) := ⟨fun _ => rfl, fun _ => rfl, fun _ => rfl⟩
theorem wrI_clean (c : Fin 26) (off : Nat) (p : List Int) (P : List (List Int)) : CleanEv (wrI c off p P) := ⟨fun _ => rfl, fun h => absurd rfl h, fun _ => rfl⟩
theorem trI_clean (c : Fin 26) (n : Nat) : CleanEv (trI c n) := ⟨fun _ => rfl, fun _ => rfl, fun h => absurd rfl h⟩
theorem crI_good (c : Fin 26) : (crI c).good :=
  ⟨by simp [crI], by simp [crI], by show (fp c.1).size ≤ 64; rw [fp_size]; decide, by show (⟨#[]⟩ : ByteArray).size ≤ 64; decide, fun _ => rfl, fun _ => rfl, fun _ => rfl, by simp [crI], by simp [crI], by simp [crI], by simp [crI], by simp [crI], fun _ => rfl, by simp [crI]⟩
theorem wrI_good (c : Fin 26) (off : Nat) (p : List Int) (P : List (List Int)) (hoff : off ≤ 1099511627776) (hf : (newPart P p).fits) : (wrI c off p P).good :=
  ⟨by simp [wrI], by simp [wrI], by show (fp c.1).size ≤ 64; rw [fp_size]; decide, by show (⟨#[]⟩ : ByteArray).size ≤ 64; decide, fun _ => rfl, fun h => absurd rfl h, fun _ => rfl, by simp [wrI], by simp [wrI]; omega, by simp [wrI], by simp [wrI], fun q hq => by simp only [wrI, List.mem_singleton] at hq; subst hq; exact ⟨rfl, hf⟩, fun h => absurd rfl h, by simp [wrI]⟩
theorem trI_good (c : Fin 26) (n : Nat) (hn : n ≤ 1099511627776) : (trI c n).good :=
  ⟨by simp [trI], by simp [trI], by show (fp c.1).size ≤ 64; rw [fp_size]; decide, by show (⟨#[]⟩ : ByteArray).size ≤ 64; decide, fun _ => rfl, fun _ => rfl, fun h => absurd rfl h, by simp [trI], by simp [trI], by simp [trI], by simp [trI]; omega, by simp [trI], fun _ => rfl, by simp [trI]⟩
theorem putId_nil (p : List Int) : putId [] p = 1 := by
  unfold putId
  rw [pieceId_none (by simp)]
  rfl
theorem putId_one (p : List Int) : putId [p] p = 1 := by
  obtain ⟨j, hj, he⟩ := pieceId_mem (P := [p]) (b := p) (by simp) (by simp)
  unfold putId
  rw [he]
  have : j = 0 := by
    have := (List.getElem?_eq_some_iff.1 hj).1
    simpa using this
  subst this
  rfl
theorem putP_nil (p : List Int) : putP [] p = [p] := by
  unfold putP
  rw [if_neg (by simp)]
  rfl
theorem putP_one (p : List Int) : putP [p] p = [p] := by
  unfold putP
  rw [if_pos (by simp)]
theorem newPart_fits (P : List (List Int)) (p : List Int) (hP : P = [] ∨ P = [p]) (h0 : 0 < p.length) (h1 : p.length ≤ 64) : newPart P p = ⟨0, p.length, 1, 0⟩ ∧ (newPart P p).fits := by
  have e : newPart P p = ⟨0, p.length, 1, 0⟩ := by
    unfold newPart
    rcases hP with rfl | rfl
    · rw [putId_nil]
    · rw [putId_one]
  rw [e]
  exact ⟨rfl, by simp; omega, by simp; omega, by simp, by simp, by simp, by simp; omega⟩
/-- One file, of number 1. -/
structure OneFile (c : Fin 26) (x : Abs) (bd : BodyA) : Prop where
  T : x.T (fp c.1) = some 1
  S : x.S 1 = some bd
theorem OneFile.body {c : Fin 26} {x : Abs} {bd : BodyA} (h : OneFile c x bd) : x.body (fp c.1) = some bd := by
  unfold Abs.body
  rw [h.T]
  exact h.S
theorem one_cr (c : Fin 26) : okA Abs.new (crI c) ∧ OneFile c (stepA Abs.new (crI c)) ⟨0, []⟩ := by
  refine ⟨⟨c, rfl, .inl ⟨rfl, rfl, by decide, by decide, rfl, rfl, rfl⟩⟩, ?_⟩
  have e : stepA Abs.new (crI c) = ⟨tset Abs.new.T (fp c.1) (some 1), 2, bset Abs.new.S 1 (some ⟨0, []⟩), 1⟩ := by
    unfold stepA
    rw [if_pos (show (crI c).op = 1 from rfl)]
    rfl
  rw [e]
  exact ⟨by simp [tset], by simp [bset]⟩
theorem one_wr {c : Fin 26} {x : Abs} {bd : BodyA} (h : OneFile c x bd) (off : Nat) (p : List Int) (P : List (List Int)) (hf : (newPart P p).fits) (hl : bd.parts.length + 2 ≤ 1000) (ho : (off : Int) + p.length ≤ 1099511627776) :
    okA x (wrI c off p P) ∧ OneFile c (stepA x (wrI c off p P)) (writeB bd off [newPart P p]) := by
  refine ⟨⟨c, rfl, .inr (.inl ⟨rfl, ⟨bd, h.body, by simp [wrI]; omega⟩, fun q hq => by simp only [wrI, List.mem_singleton] at hq; subst hq; exact hf, by simp [wrI], by simp [wrI, sumLen, newPart]; omega, rfl⟩)⟩, ?_⟩
  have e : stepA x (wrI c off p P) = { x with S := bset x.S 1 (some (writeB bd off [newPart P p])) } := by
    have h1 : x.T (wrI c off p P).path = some 1 := h.T
    have h2 : x.body (wrI c off p P).path = some bd := h.body
    rw [stepA_34 (by simp [wrI]) (by simp [wrI]) (by simp [wrI]) h1 h2]
    rfl
  rw [e]
  exact ⟨h.T, by simp [bset]⟩
theorem one_tr {c : Fin 26} {x : Abs} {bd : BodyA} (h : OneFile c x bd) (n : Nat) (hn : (n : Int) ≤ 1099511627776) :
    okA x (trI c n) ∧ OneFile c (stepA x (trI c n)) (truncB bd n) := by
  refine ⟨⟨c, rfl, .inr (.inr (.inl ⟨rfl, ⟨bd, h.body⟩, by simp [trI], by simp [trI]; omega, rfl, rfl⟩))⟩, ?_⟩
  have e : stepA x (trI c n) = { x with S := bset x.S 1 (some (truncB bd n)) } := by
    have h1 : x.T (trI c n).path = some 1 := h.T
    have h2 : x.body (trI c n).path = some bd := h.body
    rw [stepA_34 (by simp [trI]) (by simp [trI]) (by simp [trI]) h1 h2]
    rfl
  rw [e]
  exact ⟨h.T, by simp [bset]⟩
/-- A record of few events is short. -/
theorem record_short (seq : Nat) (its : List ItemA) (hs : seq ≤ 9223372036854775807) (hg : ∀ i ∈ its, i.good ∧ i.parts.length ≤ 1) (hl : its.length ≤ 60) : (recordB seq its).length ≤ 16384 := by
  have h1 := numB_9 hs
  have h2 := numB_9 (k := its.length) (by omega)
  have h3 : ∀ (l : List ItemA), (∀ i ∈ l, i.good ∧ i.parts.length ≤ 1) → (l.flatMap rowB).length ≤ 235 * l.length := by
    intro l
    induction l with
    | nil => intro _; simp
    | cons a t ih =>
      intro h
      have h4 := itemB_len a (h a (by simp)).1
      have h5 := (h a (by simp)).2
      have h6 := ih (fun i hi => h i (by simp [hi]))
      have h7 : (rowB a).length = 8 + (itemB a).length := by simp [rowB, leB_length]
      simp only [List.flatMap_cons, List.length_append, List.length_cons]
      omega
  have h4 := h3 its hg
  unfold recordB
  simp only [List.length_append, List.length_cons, List.length_nil]
  omega
end Go.Proofs.YtaonlcgneemimaaGreatDoor
namespace Go.Proofs.YtaonlcgneemimaaGreatDoor
open Go.RowKit
/-- A file's script so far: it was made, and each event behind left it with these bytes. -/
structure Scr (c : Fin 26) (p : List Int) (X : RepX) (ms : List (List Int)) : Prop where
  xs : X.xs = []
  len : X.its.length = ms.length + 1
  good : ∀ i ∈ X.its, i.good ∧ i.parts.length ≤ 1
  st : ∀ j m, ([] :: ms)[j]? = some m → ∃ bd, OneFile c (stepAll Abs.new (X.its.take (j + 1))) bd ∧ HoldsB p bd m (2 * j) ∧ (bd.parts = [] ∨ X.P = [p])
  P : X.P = [] ∨ X.P = [p]
def lastM (ms : List (List Int)) : List Int := ms.getLastD []
theorem lastM_at (ms : List (List Int)) : ([] :: ms)[ms.length]? = some (lastM ms) := by
  unfold lastM
  rcases List.eq_nil_or_concat ms with rfl | ⟨l, z, h⟩
  · rfl
  · rw [List.concat_eq_append] at h
    subst h
    simp
theorem lastX_nil : lastX [] = Abs.new := rfl
theorem Scr.cur {w : World} {r : Nat} {c : Fin 26} {p : List Int} {X : RepX} {ms : List (List Int)} (S : Scr c p X ms) (H : RepAt w r X) : ∃ bd, OneFile c X.y.x bd ∧ HoldsB p bd (lastM ms) (2 * ms.length) ∧ (bd.parts = [] ∨ X.P = [p]) := by
  have := S.st ms.length (lastM ms) (lastM_at ms)
  rw [← S.len, List.take_length] at this
  rw [H.yx, S.xs, lastX_nil]
  exact this
theorem Scr.more {w w' : World} {r : Nat} {c : Fin 26} {p : List Int} {X X1 : RepX} {ms : List (List Int)} {i : ItemA} {P' : List (List Int)} {m : List Int} {bd : BodyA} (S : Scr c p X ms) (H : RepAt w r X) (N : IngNice w r X i P' w' X1) (hi : i.good ∧ i.parts.length ≤ 1) (hP : P' = X.P ∨ P' = [p]) (h1 : OneFile c (stepA X.y.x i) bd) (h2 : HoldsB p bd m (2 * (ms.length + 1))) (h3 : bd.parts = [] ∨ P' = [p]) : Scr c p X1 (ms ++ [m]) := by
  refine ⟨N.xs.trans S.xs, by rw [N.its]; simp [S.len], fun j hj => ?_, fun j m' hm => ?_, ?_⟩
  · rw [N.its] at hj
    rcases List.mem_append.1 hj with hj | hj
    · exact S.good j hj
    · simp only [List.mem_singleton] at hj
      subst hj
      exact hi
  · rw [N.its, N.P]
    by_cases hj : j ≤ ms.length
    · rw [← List.cons_append, List.getElem?_append_left (by simp; omega)] at hm
      obtain ⟨b, a1, a2, a3⟩ := S.st j m' hm
      rw [List.take_append_of_le_length (by rw [S.len]; omega)]
      refine ⟨b, a1, a2, ?_⟩
      rcases a3 with a3 | a3
      · exact .inl a3
      · rcases hP with h | h
        · exact .inr (h.trans a3)
        · exact .inr h
    · have hj0 : j = ms.length + 1 := by
        have := (List.getElem?_eq_some_iff.1 hm).1
        simp at this
        omega
      subst hj0
      rw [← List.cons_append, List.getElem?_append_right (by simp)] at hm
      simp at hm
      subst hm
      refine ⟨bd, ?_, h2, h3⟩
      rw [List.take_of_length_le (by simp [S.len]), stepAll_snoc]
      have := H.yx
      rw [S.xs, lastX_nil] at this
      rw [← this]
      exact h1
  · rw [N.P]
    rcases hP with h | h
    · rw [h]; exact S.P
    · exact .inr h
theorem scr_create (w : World) (r : Nat) (X : RepX) (H : RepAt w r X) (c : Fin 26) (p : List Int) (hx : X.xs = []) (hi : X.its = []) (hP : X.P = []) :
    Calls Tryz.prog 9 #[.pointer (some ⟨r, 0, none⟩), .agg #[.int .i64 1, .string (fp c.1), .string ⟨#[]⟩, .int .i64 0, .int .i64 0, .slice none 0 0]] w fun e w' => e = .returned (.tuple #[.int .i64 1, .int .i64 0]) ∧ ∃ X1, IngNice w r X (crI c) [] w' X1 ∧ Scr c p X1 [] := by
  have hy : X.y.x = Abs.new := by rw [H.yx, hx, hi]; rfl
  obtain ⟨h1, h2⟩ := one_cr c
  have hpc : PcsOk w (crI c) none 0 0 X.P [] := by rw [hP]; exact pcs_none w (crI c) none 0 0 [] (by simp [crI]) rfl
  refine (ingest_nice w r X H (crI c) [] none 0 0 (by rw [hy]; exact h1) (crI_good c) (crI_clean c) (by simp [crI]) (fun h => by simp [crI] at h) hpc (by rw [hi]; exact record_short _ _ (by rw [hx]; decide) (fun i hi => by simp at hi; subst hi; exact ⟨crI_good c, by simp [crI]⟩) (by simp)) (by rw [hi]; simp)).mono ?_
  rintro e w' ⟨rfl, X1, N⟩
  rw [hx, hi]
  refine ⟨rfl, X1, N, ⟨N.xs.trans hx, by rw [N.its, hi]; rfl, fun i hi2 => ?_, fun j m hm => ?_, .inl N.P⟩⟩
  · rw [N.its, hi] at hi2
    simp at hi2
    subst hi2
    exact ⟨crI_good c, by simp [crI]⟩
  · cases j with
    | zero =>
      simp at hm
      subst hm
      refine ⟨⟨0, []⟩, ?_, HoldsB.empty p _, .inl rfl⟩
      rw [N.its, hi]
      exact h2
    | succ j => simp at hm
theorem scr_writeC (w : World) (r : Nat) (X : RepX) (H : RepAt w r X) (c : Fin 26) (p : List Int) (ms : List (List Int)) (S : Scr c p X ms) (hms : ms.length ≤ 45) (da : Option Addr) (dc : Nat) (hd : SlC w (.slice da p.length dc) p.length (u8s p)) (hb : ByteL p) (h0 : 0 < p.length) (h7 : p.length ≤ 7) (off : Nat) (ho : off ≤ 100000) :
    Calls Tryz.prog 9 #[.pointer (some ⟨r, 0, none⟩), .agg #[.int .i64 3, .string (fp c.1), .string ⟨#[]⟩, .int .i64 off, .int .i64 0, .slice da p.length dc]] w fun e w' => e = .returned (.tuple #[.int .i64 ((ms.length : Int) + 2), .int .i64 0]) ∧ ∃ X1, IngNice w r X (wrI c off p X.P) [p] w' X1 ∧ Scr c p X1 (ms ++ [putBytes (lastM ms) p off]) := by
  obtain ⟨bd, h1, h2, h3⟩ := S.cur H
  obtain ⟨e1, hf⟩ := newPart_fits X.P p S.P h0 (by omega)
  have hfew := h2.few
  obtain ⟨h4, h5⟩ := one_wr h1 off p X.P hf (by omega) (by omega)
  have hpp : putP X.P p = [p] := by
    rcases S.P with h | h
    · rw [h, putP_nil]
    · rw [h, putP_one]
  have hpl : X.P.length ≤ 1 := by rcases S.P with h | h <;> simp [h]
  have hpc : PcsOk w (wrI c off p X.P) da p.length dc X.P [p] := by
    rw [← hpp]
    exact pcs_shortC w _ da p.length dc X.P p rfl rfl hd hb h0 h7 (by omega)
  have hgood := wrI_good c off p X.P (by omega) hf
  refine (ingest_nice w r X H (wrI c off p X.P) [p] da p.length dc h4 hgood (wrI_clean c off p X.P) (by simp [wrI]) (fun _ => ⟨by omega, by simp [wrI]; omega⟩) hpc (record_short _ _ (by rw [S.xs]; decide) (fun i hi => ?_) (by rw [List.length_append, S.len]; simp; omega)) (by rw [S.len]; omega)).mono ?_
  · rcases List.mem_append.1 hi with hi | hi
    · exact S.good i hi
    · simp only [List.mem_singleton] at hi
      subst hi
      exact ⟨hgood, by simp [wrI]⟩
  · rintro e w' ⟨rfl, X1, N⟩
    refine ⟨by rw [S.xs, S.len]; simp; omega, X1, N, S.more H N ⟨hgood, by simp [wrI]⟩ (.inr rfl) h5 ?_ (.inr rfl)⟩
    rw [e1]
    exact h2.write h0 (by omega) off (by omega)
theorem scr_trunc (w : World) (r : Nat) (X : RepX) (H : RepAt w r X) (c : Fin 26) (p : List Int) (ms : List (List Int)) (S : Scr c p X ms) (hms : ms.length ≤ 45) (n : Nat) (hn : n ≤ 100000) :
    Calls Tryz.prog 9 #[.pointer (some ⟨r, 0, none⟩), .agg #[.int .i64 4, .string (fp c.1), .string ⟨#[]⟩, .int .i64 0, .int .i64 n, .slice none 0 0]] w fun e w' => e = .returned (.tuple #[.int .i64 ((ms.length : Int) + 2), .int .i64 0]) ∧ ∃ X1, IngNice w r X (trI c n) X.P w' X1 ∧ Scr c p X1 (ms ++ [cutBytes (lastM ms) n]) := by
  obtain ⟨bd, h1, h2, h3⟩ := S.cur H
  obtain ⟨h4, h5⟩ := one_tr h1 n (by omega)
  have hgood := trI_good c n (by omega)
  refine (ingest_nice w r X H (trI c n) X.P none 0 0 h4 hgood (trI_clean c n) (by simp [trI]) (fun h => by simp [trI] at h) (pcs_none w _ none 0 0 _ (by simp [trI]) rfl) (record_short _ _ (by rw [S.xs]; decide) (fun i hi => ?_) (by rw [List.length_append, S.len]; simp; omega)) (by rw [S.len]; omega)).mono ?_
  · rcases List.mem_append.1 hi with hi | hi
    · exact S.good i hi
    · simp only [List.mem_singleton] at hi
      subst hi
      exact ⟨hgood, by simp [trI]⟩
  · rintro e w' ⟨rfl, X1, N⟩
    refine ⟨by rw [S.xs, S.len]; simp; omega, X1, N, S.more H N ⟨hgood, by simp [trI]⟩ (.inl rfl) h5 (h2.trunc n (by omega)) ?_⟩
    rcases h3 with h3 | h3
    · exact .inl (by show bd.parts.filterMap _ = []; rw [h3]; rfl)
    · exact .inr h3
/-- An engine as it was made. -/
structure NewEng (X : RepX) : Prop where
  dn : X.dn = 0
  number : X.x.number = 2
  k : X.x.k = 0
  ssJ : X.x.ssJ = []
  ssC : X.x.ssC = []
  nJ : X.x.nJ = 0
  nC : X.x.nC = 0
theorem NewEng.of {w w' : World} {r : Nat} {X X1 : RepX} {i : ItemA} {P' : List (List Int)} (h : NewEng X) (N : IngNice w r X i P' w' X1) : NewEng X1 :=
  ⟨N.dn.trans h.dn, by rw [N.x]; exact h.number, by rw [N.x]; exact h.k, by rw [N.x]; exact h.ssJ, by rw [N.x]; exact h.ssC, by rw [N.x]; exact h.nJ, by rw [N.x]; exact h.nC⟩
/-- A script that is committed. -/
structure ScrDone (c : Fin 26) (p : List Int) (X : RepX) (ms : List (List Int)) : Prop where
  len : X.xs.length = ms.length + 1
  st : ∀ j m, ([] :: ms)[j]? = some m → ∃ y bd, X.xs[j]? = some y ∧ OneFile c y.x bd ∧ HoldsB p bd m (2 * j) ∧ (bd.parts = [] ∨ X.P = [p])
theorem scr_commit (w : World) (r : Nat) (X : RepX) (H : RepAt w r X) (c : Fin 26) (p : List Int) (ms : List (List Int)) (S : Scr c p X ms) (E : NewEng X) (hms : ms.length ≤ 46) :
    Calls Tryz.prog 10 #[.pointer (some ⟨r, 0, none⟩)] w fun e w' => e = .returned (.int .i64 0) ∧ ∃ X2, RepAt w' r X2 ∧ Frame (X.mu r) w w' ∧ ScrDone c p X2 ms := by
  have hpl : X.P.length ≤ 1 := by rcases S.P with h | h <;> simp [h]
  have hrec : (recordB (X.xs.length + 1) X.its).length ≤ 16384 := record_short _ _ (by rw [S.xs]; decide) S.good (by rw [S.len]; omega)
  have hfr := H.eng.frees
  rw [E.ssJ, E.ssC] at hfr
  refine (commit_any w r X H (fun h => by have := S.len; rw [h] at this; simp at this) hrec (by rw [S.xs, S.len]; simp; omega) (by omega) (by rw [E.dn]; decide) (by rw [E.k]; decide) (by rw [E.number]; decide) (fun T hT => ?_)).mono ?_
  · rw [E.ssJ, E.ssC, E.nJ, E.nC]
    unfold needN manyN
    simp at hfr ⊢
    omega
  · rintro e w' ⟨rfl, x', pv, sv, zs, dn, df, T, h1, h2, h3, h4, -⟩
    refine ⟨rfl, _, h1, h2, ?_, fun j m hm => ?_⟩
    · show (X.xs ++ zs).length = _
      rw [S.xs, List.nil_append, h3, S.len]
    · obtain ⟨bd, a1, a2, a3⟩ := S.st j m hm
      have hj : j < zs.length := by
        have := (List.getElem?_eq_some_iff.1 hm).1
        rw [h3, S.len]
        simpa using this
      refine ⟨zs[j], bd, ?_, ?_, a2, a3⟩
      · show (X.xs ++ zs)[j]? = _
        rw [S.xs, List.nil_append, List.getElem?_eq_getElem hj]
      · rw [h4 j _ (List.getElem?_eq_getElem hj), S.xs, lastX_nil]
        exact a1
theorem scr_read (w : World) (r : Nat) (X : RepX) (H : RepAt w r X) (c : Fin 26) (p : List Int) (ms : List (List Int)) (S : ScrDone c p X ms) (j : Nat) (m : List Int) (hj : ([] :: ms)[j]? = some m) (off n : Nat) (h0 : off ≤ m.length) (h1 : m.length ≤ off + n) (h2 : off ≤ 100000) (h3 : n ≤ 4096) :
    Calls Tryz.prog 11 #[.pointer (some ⟨r, 0, none⟩), .int .i64 ((j : Int) + 1), .string (fp c.1), .int .i64 off, .int .i64 n] w fun e w' => ∃ v', e = .returned (.tuple #[v', .int .i64 0]) ∧ Sl w' 5 1 v' (m.drop off).length (u8s (m.drop off)) ∧ Below w.heap.size w w' := by
  obtain ⟨y, bd, a1, a2, a3, a4⟩ := S.st j m hj
  have := repRead_any w r X H j y a1 c 1 a2.T bd a2.S (fun q hq => ?_) off n (by omega) (by omega) (by omega) (by omega)
  · rw [a3.read X.P a4 off n h0 h1] at this
    exact this
  · obtain ⟨h5, h6⟩ := a3.one q hq
    rcases a4 with a4 | a4
    · rw [a4] at hq
      simp at hq
    · rw [h5, a4]
      exact ⟨by decide, p, rfl, h6⟩
end Go.Proofs.YtaonlcgneemimaaGreatDoor
namespace Go.Proofs.YtaonlcgneemimaaGreatDoor
open Go.RowKit
theorem VsOk.trans {w w2 : World} {a b c : List Value} (h : VsOk w a b) (k : VsOk w2 b c) (hs : w.heap.size ≤ w2.heap.size) : VsOk w a c := fun v hv => by
  rcases k v hv with h1 | h1
  · exact h v h1
  · exact .inr (fun g hg => Nat.le_trans hs (h1 g hg))
theorem own_shapeZ {w : World} {B e sz n : Nat} {v : Value} {xs : List Value} (h : w.ownsRow B e sz v n xs) : ∃ a cap, v = .slice a n cap := by
  obtain ⟨-, ⟨rfl, rfl⟩ | ⟨g, cap, cur, rfl, -⟩⟩ := h
  · exact ⟨none, 0, rfl⟩
  · exact ⟨_, cap, rfl⟩
/-- Behind some of the pieces. -/
structure PcsI (w w1 wr : World) (B c : Nat) (P : List (List Int)) (bl bb : Nat) (vs : List Value) (ps : List (List Int)) (v : Value) : Prop where
  own : wr.ownsRow w1.heap.size 134 4 v ps.length (partsC (piecesA P ps))
  nz : v = .slice none 0 0 ∨ 0 < ps.length
  chunks : ∃ vs' fb' m' sz', ChunksAt wr B c (putAll P ps) bl bb vs' fb' m' sz' ∧ VsOk w vs vs'
  below : Below B w wr
  kept : KeptC w1 wr
  size : w1.heap.size ≤ wr.heap.size
theorem PcsI.snoc {w w1 wr w2 w3 : World} {B c : Nat} {P : List (List Int)} {bl bb : Nat} {vs : List Value} {ps : List (List Int)} {v v3 : Value} {p : List Int} (h : PcsI w w1 wr B c P bl bb vs ps v) (hw : w.heap.size ≤ w1.heap.size)
    (hc : ∃ vs0 vs' fb' m' sz', VsOk w vs vs0 ∧ ChunksAt w2 B c (putP (putAll P ps) p) bl bb vs' fb' m' sz' ∧ VsOk wr vs0 vs') (hb : Below B wr w2) (hk : KeptC wr w2) (hB : B ≤ w.heap.size) (o : Obj) (hg : (w2.alloc o).grownBy w3 v.ownBlock)
    (ho : w3.ownsRow w1.heap.size 134 4 v3 (ps.length + 1) (partsC (piecesA P ps) ++ partsC [newPart (putAll P ps) p])) : PcsI w w1 w3 B c P bl bb vs (ps ++ [p]) v3 := by
  obtain ⟨vs0, vs', fb', m', sz', h0, h1, h2⟩ := hc
  have hw1 := h.size
  have hw2 := hb.size
  have hw3 : w2.heap.size + 1 ≤ w3.heap.size := by have := hg.size; simpa using this
  have hlt : ∀ g, v.ownBlock = some g → w1.heap.size ≤ g := fun g hg => (h.own.lt g hg).1
  have hb3 : ∀ k, k < w2.heap.size → v.ownBlock ≠ some k → w3.heap[k]? = w2.heap[k]? := fun k hk hne => by
    rw [hg.block k (by simp; omega) (fun e => hne e.symm)]
    exact Below.heap_alloc w2 o k hk
  have hv134 : ∀ g, v.ownBlock = some g → ∃ arr, w2.heap[g]? = some (.cells arr 134 (0, 0)) := fun g hg => by
    obtain ⟨arr, ha⟩ := own_heap h.own hg
    exact ⟨arr, hk g arr 134 ha (by decide) (by decide)⟩
  refine ⟨by rw [List.length_append, piecesA_snoc, partsC_append]; exact ho, .inr (by simp), ⟨vs', fb', m', sz', ?_, h0.trans h2 (by omega)⟩, ?_, ?_, by omega⟩
  · rw [putAll_snoc]
    have F : Frame (v.ownBlock.toList) w2 w3 := ⟨hg.os, hg.tape, hg.output, by omega, fun k hk hne => hb3 k hk (fun e => hne (by rw [e]; simp))⟩
    refine h1.frame F ?_ ?_ ?_ ?_ ?_
    · intro hm
      simp at hm
      obtain ⟨arr, ha⟩ := hv134 _ hm
      exact cells_ty ha h1.cell (by decide) rfl
    · intro hm
      simp at hm
      obtain ⟨arr, ha⟩ := hv134 _ hm
      exact h1.ml.cells ha
    · intro hm
      simp at hm
      obtain ⟨arr, ha⟩ := hv134 _ hm
      exact h1.mb.cells ha
    · intro k x g hx hg2 hm
      simp at hm
      obtain ⟨arr, ha⟩ := hv134 _ hm
      obtain ⟨arr2, ha2⟩ := own_heap (h1.rows k x hx).1 hg2
      exact cells_ty ha ha2 (by decide) rfl
    · intro g hm arr he
      simp at hm
      obtain ⟨arr2, ha⟩ := hv134 _ hm
      exact cells_ty ha he (by decide) rfl
  · have hBw := h.below.size
    exact ((h.below.trans hb).alloc (by omega) o).grown hg (by simp; omega) (fun k hk => by have := hlt k hk; omega)
  · intro k arr t hk1 ht ht3
    have h5 := hk k arr t (h.kept k arr t hk1 ht ht3) ht ht3
    exact (hb3 k (heap_lt h5) (fun e => by have := hlt k e; have := heap_lt hk1; omega)).trans h5
theorem cutL_byte {l : List Int} (hb : ByteL l) : ∀ p ∈ cutL l, ByteL p := fun p hp x hx => hb x (by
  have h := (cutL_all l).1
  rw [← h]
  exact List.mem_flatten.2 ⟨p, hp, hx⟩)
set_option maxRecDepth 100000 in
set_option maxHeartbeats 2000000 in
theorem pieces_all (w : World) (B c : Nat) (P : List (List Int)) (bl bb : Nat) (vs : List Value) (fb : Int → Option Value) (m : Nat) (sz : Int) (H : ChunksAt w B c P bl bb vs fb m sz) (hB : B ≤ w.heap.size)
    (A : Option Addr) (n cap : Nat) (l : List Int) (hv : BytX w A cap l) (hn : l.length = n) (hb : ByteL l) (hsm : P.length + l.length ≤ 99999) (path tt : ByteArray) (off size : Int) :
    Calls Tryz.prog 27 #[.pointer (some ⟨c, 0, none⟩), .agg #[.int .i64 3, .string path, .string tt, .int .i64 off, .int .i64 size, .slice A n cap]] w fun e w' => ∃ v', e = .returned v' ∧ Sl w' 134 4 v' (piecesA P (cutL l)).length (partsC (piecesA P (cutL l))) ∧ (∃ vs' fb' m' sz', ChunksAt w' B c (putAll P (cutL l)) bl bb vs' fb' m' sz' ∧ VsOk w vs vs') ∧ Below B w w' ∧ KeptC w w' := by
  have HH := Lib.hid H
  have HV := Lib.hid hv
  have HN := Lib.hid hn
  obtain ⟨i0, hi, hz0, hz1, hz2⟩ := info_parts info134
  have HB0 : Hid (∀ o, Below w.heap.size w (w.alloc o)) := Lib.hid (fun o => (Below.refl _ _).alloc (Nat.le_refl _) o)
  have HCL := Lib.hid (cutL_all l)
  have HCB := Lib.hid (cutL_byte hb)
  obtain ⟨ps, hps⟩ : ∃ ps, Hid (ps = cutL l) := ⟨_, Lib.hid rfl⟩
  rw [← hps.out] at HCL HCB ⊢
  have hpl : P.length + ps.length ≤ 99999 := by have := HCL.out.2.2; omega
  obtain ⟨np, hnp⟩ : ∃ np, Hid (np = ps.length) := ⟨_, Lib.hid rfl⟩
  have hnp6 : np ≤ 99999 := by have := hnp.out; omega
  clear H hv hb hn
  go_enter Tryz.func27, Tryz.ntmps27
  go_wp2_with (go_at_call 58; refine (cut_all _ _ _ _ l (HV.out.below (HB0.out _)) HN.out).mono ?_; rintro e w1 ⟨v2, rfl, us, ho, hpc, hone, hq⟩; rw [← hps.out] at ho hpc; rw [← hnp.out] at ho; obtain ⟨sa, scap, hsh⟩ := own_shapeZ ho; subst hsh; have HO := Lib.hid ho; have HPC := Lib.hid hpc; have HONE := Lib.hid hone; have HQ : Hid (Below w.heap.size w w1) := Lib.hid ((HB0.out _).trans (hq.mono (HB0.out _).size)); clear ho hpc hone hq)
  have hBw : B ≤ w1.heap.size := Nat.le_trans hB HQ.out.size
  go_loopw [5, 7, 8, 9, 10, 19] (fun t5 _ _ _ _ ti wr => ∃ k : Nat, k ≤ np ∧ ti = .int .i64 k ∧ Hid (PcsI w w1 wr B c P bl bb vs (ps.take k) t5)) (fun _ _ _ _ _ i _ => np - (intOf i).toNat)
  case atStart => exact ⟨0, by omega, rfl, Lib.hid ⟨World.ownsRow_nil _ _ _ _, .inl rfl, ⟨vs, fb, m, sz, HH.out.below HQ.out, .refl _ _⟩, HQ.out.mono hB, .of_below (Below.refl _ _), Nat.le_refl _⟩⟩
  case round =>
    obtain ⟨k, hk, rfl, hI⟩ := hrel
    by_cases hlt : k < np
    · obtain ⟨p, hp⟩ : ∃ p, ps[k]? = some p := ⟨_, List.getElem?_eq_getElem (by have := hnp.out; omega)⟩
      have hus : us.length = np := by have := HO.out.1; simpa using this
      obtain ⟨u, hu⟩ : ∃ u, us[k]? = some u := ⟨_, List.getElem?_eq_getElem (by omega)⟩
      have hp64 := HCL.out.2.1 p (List.mem_of_getElem? hp)
      have hpb := HCB.out p (List.mem_of_getElem? hp)
      have hsu := HPC.out k u p hu hp
      obtain ⟨pa, pcap, rfl, hpcap, -, -⟩ := hsu.shape
      obtain ⟨g, gcap, cur, he, hg0, hgc, hncap, hcm, -, ht⟩ := own_pos HO.out (by omega)
      simp only [Value.slice.injEq] at he
      obtain ⟨rfl, -, rfl⟩ := he
      have hkept := hI.out.kept
      have cg : wr.cell? ⟨g, k, none⟩ = some (.slice pa p.length pcap) := by
        have h1 := hkept g cur 33 hgc (by decide) (by decide)
        rw [cellAt h1 k, ← hu, ← ht, List.getElem?_take_of_lt (by omega), Array.getElem?_toList]
      have HSU : Hid (Sl wr 5 1 (.slice pa p.length pcap) p.length (u8s p)) := Lib.hid (hsu.kept (fun k arr hk => hkept k arr 5 hk (by decide) (by decide)))
      obtain ⟨vs0, fb0, m0, sz0, hc0, hvo0⟩ := hI.out.chunks
      have HC0 := Lib.hid hc0
      have HVO0 := Lib.hid hvo0
      have HP := Lib.hid hp
      have HPB := Lib.hid hpb
      have HTK : Hid ((ps.take k).length = k) := Lib.hid (by rw [List.length_take]; have := hnp.out; omega)
      have HPA : Hid ((putAll P (ps.take k)).length + 1 ≤ 100000) := Lib.hid (by have := putAll_len (ps.take k) P; have := HTK.out; have := hnp.out; omega)
      have HOWN : Hid (wr.ownsRow w1.heap.size 134 4 u5 k (partsC (piecesA P (ps.take k)))) := Lib.hid (by have := hI.out.own; rw [HTK.out] at this; exact this)
      have HWS : Hid (w1.heap.size ≤ wr.heap.size) := Lib.hid hI.out.size
      have HBR : Hid (Below B w wr) := Lib.hid hI.out.below
      obtain ⟨h0, h1⟩ := hp64
      clear hp hu hpb hsu hgc ht hkept hc0 hvo0 hcm
      go_wp2_with (first | (go_at_call 59; refine (put_any3 _ B c (putAll P (ps.take k)) bl bb vs0 fb0 m0 sz0 HC0.out _ p HSU.out HPB.out h0 h1 HPA.out).mono ?_; rintro e w2 ⟨nw, rfl, vs', fb', m', sz', hc', hq', hvo, hkc⟩; have HC := Lib.hid hc'; have HVO := Lib.hid hvo; have HKC := Lib.hid hkc; have HQ2 := Lib.hid hq'; have HO2 : Hid (∀ o, (w2.alloc o).ownsRow w1.heap.size 134 4 u5 k (partsC (piecesA P (ps.take k)))) := Lib.hid (fun o => row_kept HOWN.out (fun k ob hk hb => by obtain ⟨arr, ha⟩ := own_heap HOWN.out hb; rw [hk] at ha; injection ha with ha; subst ha; exact heap_old (HKC.out k arr 134 hk (by decide) (by decide)) o)); (have hs2 : w1.heap.size ≤ w2.heap.size := by have h1 := HQ2.out.size; have h2 := HWS.out; omega); clear hc' hq' hvo hkc) | (at_builtin; refine wp_append_sl rfl _ _ 81 rfl w1.heap.size 134 i0 _ 4 32 Tryz.underlying81 hi hz0 hz1 hz2 rfl (by decide) _ k _ rfl (HO2.out _) _ 1 _ rfl (Sl.block' (heap_new _ _) rfl (by simp [Value.oneCell']) (by decide) (by decide)) (by omega) (by decide) (by simp; omega) ?_; intro v3 w3 hown hgr _ _; have HW3 := Lib.hid hown; have HG3 := Lib.hid hgr; clear hown hgr))
      have HI3 : Hid (PcsI w w1 w3 B c P bl bb vs (ps.take (k + 1)) v3) := Lib.hid (by
        have e : ps.take (k + 1) = ps.take k ++ [p] := by rw [List.take_add_one, HP.out]; rfl
        rw [e]
        exact PcsI.snoc hI.out HQ.out.size ⟨vs0, vs', fb', m', sz', HVO0.out, HC.out, HVO.out⟩ HQ2.out HKC.out hB _ HG3.out (by rw [HTK.out]; exact HW3.out))
      go_wp2
      go_roundw
      case rel => exact ⟨k + 1, by omega, by go_num, HI3⟩
      case measure => simp [intOf]; omega
    · have hke : k = ps.length := by have := hnp.out; omega
      have hI2 := hI.out
      rw [hke, List.take_length] at hI2
      have FIN := Lib.hid hI2
      have HKW : Hid (KeptC w w1) := Lib.hid (.of_below HQ.out)
      clear hI2
      go_wp2
      go_ret
      exact ⟨_, rfl, by rw [piecesA_len]; exact Sl.of_own FIN.out.own (partsC_one _) FIN.out.nz, FIN.out.chunks, FIN.out.below, HKW.out.trans FIN.out.kept⟩
end Go.Proofs.YtaonlcgneemimaaGreatDoor
namespace Go.Proofs.YtaonlcgneemimaaGreatDoor
open Go.RowKit
/-- The events of a file that is written once and renamed, over and over. -/
noncomputable def wI (l : List Int) : ItemA := ⟨3, fp (0 : Fin 26).1, ⟨#[]⟩, 0, 0, piecesA [] (cutL l)⟩
def rnI (c d : Fin 26) : ItemA := ⟨5, fp c.1, fp d.1, 0, 0, []⟩
def ulI (c : Fin 26) : ItemA := ⟨6, fp c.1, ⟨#[]⟩, 0, 0, []⟩
def lastC (c : Fin 26) : List (Fin 26) → Fin 26
  | [] => c
  | d :: ds => lastC d ds
def renI : Fin 26 → List (Fin 26) → List ItemA
  | _, [] => []
  | c, d :: ds => rnI c d :: renI d ds
theorem lastC_snoc (e : Fin 26) : ∀ (ds : List (Fin 26)) (c : Fin 26), lastC c (ds ++ [e]) = e
  | [], c => rfl
  | d :: ds, c => lastC_snoc e ds d
theorem renI_snoc (e : Fin 26) : ∀ (ds : List (Fin 26)) (c : Fin 26), renI c (ds ++ [e]) = renI c ds ++ [rnI (lastC c ds) e]
  | [], c => rfl
  | d :: ds, c => by
    show rnI c d :: renI d (ds ++ [e]) = _
    rw [renI_snoc e ds d]
    rfl
theorem renI_len : ∀ (ds : List (Fin 26)) (c : Fin 26), (renI c ds).length = ds.length
  | [], c => rfl
  | d :: ds, c => by
    show (renI d ds).length + 1 = _
    rw [renI_len ds d]
    rfl
noncomputable def namesI (l : List Int) (cs : List (Fin 26)) : List ItemA := crI 0 :: wI l :: renI 0 cs
/-- One file, of number 1, and nothing else. -/
structure Alone (c : Fin 26) (x : Abs) (bd : BodyA) : Prop where
  T : ∀ q, x.T q = if q = fp c.1 then some 1 else none
  S1 : x.S 1 = some bd
  S2 : x.S 2 = none
  next : x.next = 2
  nf : x.nf = 1
structure Gone (x : Abs) : Prop where
  T : ∀ q, x.T q = none
  S1 : x.S 1 = none
  S2 : x.S 2 = none
  next : x.next = 2
  nf : x.nf = 0
structure Anew (c : Fin 26) (x : Abs) : Prop where
  T : ∀ q, x.T q = if q = fp c.1 then some 2 else none
  S1 : x.S 1 = none
  S2 : x.S 2 = some ⟨0, []⟩
theorem Alone.at {c : Fin 26} {x : Abs} {bd : BodyA} (h : Alone c x bd) : x.T (fp c.1) = some 1 := by rw [h.T, if_pos rfl]
theorem Alone.body {c : Fin 26} {x : Abs} {bd : BodyA} (h : Alone c x bd) : x.body (fp c.1) = some bd := by
  unfold Abs.body
  rw [h.at]
  exact h.S1
theorem alone_cr : okA Abs.new (crI 0) ∧ Alone 0 (stepA Abs.new (crI 0)) ⟨0, []⟩ := by
  refine ⟨(one_cr 0).1, ?_⟩
  have e : stepA Abs.new (crI 0) = ⟨tset Abs.new.T (fp (0 : Fin 26).1) (some 1), 2, bset Abs.new.S 1 (some ⟨0, []⟩), 1⟩ := by
    unfold stepA
    rw [if_pos (show (crI 0).op = 1 from rfl)]
    rfl
  rw [e]
  exact ⟨fun q => rfl, by simp [bset], by simp [bset, Abs.new], rfl, rfl⟩
theorem wI_fits (l : List Int) (hl : l.length ≤ 500) : ∀ q ∈ (wI l).parts, q.off = 0 ∧ q.fits := by
  obtain ⟨-, h2, h3⟩ := cutL_all l
  exact piecesA_fits (cutL l) [] (by simp) (by simp; omega) h2
theorem alone_wr {x : Abs} (h : Alone 0 x ⟨0, []⟩) (l : List Int) (hl : l.length ≤ 500) : okA x (wI l) ∧ Alone 0 (stepA x (wI l)) (bodyW (cutL l)) := by
  obtain ⟨h1, h2, h3⟩ := cutL_all l
  have hs : sumLen (wI l).parts = l.length := by
    show sumLen (piecesA [] (cutL l)) = _
    rw [sumLen_pieces, h1]
  have hp : (wI l).parts.length ≤ 64 := by
    show (piecesA [] (cutL l)).length ≤ 64
    rw [piecesA_len]
    omega
  refine ⟨⟨0, rfl, .inr (.inl ⟨rfl, ⟨_, h.body, by simp; omega⟩, fun p hp => (wI_fits l hl p hp).2, Int.le_refl _, ?_, rfl⟩)⟩, ?_⟩
  · rw [hs]
    show 0 + (l.length : Int) ≤ _
    omega
  · have e : stepA x (wI l) = { x with S := bset x.S 1 (some (bodyW (cutL l))) } := by
      rw [stepA_34 (i := wI l) (by simp [wI]) (by simp [wI]) (by simp [wI]) h.at h.body]
      rfl
    rw [e]
    exact ⟨h.T, by simp [bset], by simp [bset]; exact h.S2, h.next, h.nf⟩
theorem alone_rn {c : Fin 26} {x : Abs} {bd : BodyA} (h : Alone c x bd) (d : Fin 26) : okA x (rnI c d) ∧ Alone d (stepA x (rnI c d)) bd := by
  refine ⟨⟨c, rfl, .inr (.inr (.inr (.inl ⟨rfl, ⟨1, h.at⟩, ⟨d, rfl⟩, ?_, rfl, rfl, rfl⟩)))⟩, ?_⟩
  · by_cases e : d = c
    · subst e
      exact .inl rfl
    · refine .inr ?_
      show x.T (fp d.1) = none
      rw [h.T, if_neg (fun k => e (fp_inj _ _ k))]
  · have e : stepA x (rnI c d) = ⟨renT x.T (fp c.1) (fp d.1) 1, x.next, bset x.S (-1) none, renN x.nf (fp c.1) (fp d.1)⟩ := by
      unfold stepA
      rw [if_neg (show ¬ (rnI c d).op = 1 by simp [rnI]), if_pos (show (rnI c d).op = 5 from rfl), show x.T (rnI c d).path = some 1 from h.at]
      rfl
    rw [e]
    refine ⟨fun q => ?_, by simp [bset]; exact h.S1, by simp [bset]; exact h.S2, h.next, ?_⟩
    · show renT x.T (fp c.1) (fp d.1) 1 q = _
      unfold renT tset
      by_cases k : fp d.1 = fp c.1
      · rw [if_pos k, h.T, k]
      · rw [if_neg k]
        by_cases k2 : q = fp d.1
        · simp only [if_pos k2]
        · simp only [if_neg k2]
          rw [h.T]
          split <;> rfl
    · show renN x.nf (fp c.1) (fp d.1) = 1
      unfold renN
      rw [h.nf]
      split <;> rfl
theorem alone_ul {c : Fin 26} {x : Abs} {bd : BodyA} (h : Alone c x bd) : okA x (ulI c) ∧ Gone (stepA x (ulI c)) := by
  refine ⟨⟨c, rfl, .inr (.inr (.inr (.inr ⟨rfl, ⟨bd, h.body⟩, rfl, rfl, rfl⟩)))⟩, ?_⟩
  have e : stepA x (ulI c) = ⟨tset x.T (fp c.1) none, x.next, bset x.S 1 none, x.nf - 1⟩ := by
    unfold stepA
    rw [if_neg (show ¬ (ulI c).op = 1 by simp [ulI]), if_neg (show ¬ (ulI c).op = 5 by simp [ulI]), if_pos (show (ulI c).op = 6 from rfl), show x.T (ulI c).path = some 1 from h.at]
    rfl
  rw [e]
  refine ⟨fun q => ?_, by simp [bset], by simp [bset]; exact h.S2, h.next, by show x.nf - 1 = 0; rw [h.nf]⟩
  show tset x.T (fp c.1) none q = none
  unfold tset
  split
  · rfl
  · rename_i k
    rw [h.T, if_neg k]
theorem gone_cr {x : Abs} (h : Gone x) (c : Fin 26) : okA x (crI c) ∧ Anew c (stepA x (crI c)) := by
  refine ⟨⟨c, rfl, .inl ⟨rfl, h.T _, by rw [h.nf]; decide, by rw [h.next]; decide, rfl, rfl, rfl⟩⟩, ?_⟩
  have e : stepA x (crI c) = ⟨tset x.T (fp c.1) (some x.next), x.next + 1, bset x.S x.next (some ⟨0, []⟩), x.nf + 1⟩ := by
    unfold stepA
    rw [if_pos (show (crI c).op = 1 from rfl)]
    rfl
  rw [e, h.next]
  refine ⟨fun q => ?_, by simp [bset]; exact h.S1, by simp [bset]⟩
  show tset x.T (fp c.1) (some 2) q = _
  unfold tset
  rw [h.T]
/-- The states that events make, one behind another. -/
noncomputable def trail : Abs → List ItemA → List Abs
  | _, [] => []
  | x, i :: l => stepA x i :: trail (stepA x i) l
theorem trail_cons (x : Abs) (i : ItemA) (l : List ItemA) : trail x (i :: l) = stepA x i :: trail (stepA x i) l := rfl
theorem trail_append (b : List ItemA) : ∀ (a : List ItemA) (x : Abs), trail x (a ++ b) = trail x a ++ trail (stepAll x a) b
  | [], x => rfl
  | i :: a, x => by
    show stepA x i :: trail (stepA x i) (a ++ b) = _
    rw [trail_append b a]
    rfl
theorem trail_at : ∀ (l : List ItemA) (x : Abs) (j : Nat), j < l.length → (trail x l)[j]? = some (stepAll x (l.take (j + 1)))
  | [], _, j, h => by simp at h
  | i :: l, x, 0, _ => rfl
  | i :: l, x, j + 1, h => by
    show (trail (stepA x i) l)[j]? = _
    rw [trail_at l _ j (by simpa using h)]
    rfl
theorem trail_len : ∀ (l : List ItemA) (x : Abs), (trail x l).length = l.length
  | [], _ => rfl
  | i :: l, x => by
    show (trail (stepA x i) l).length + 1 = _
    rw [trail_len l]
    rfl
def SeenL (id : Int) : List Abs → List Seen → Prop
  | [], [] => True
  | x :: xs, o :: os => seenOk x id o ∧ SeenL id xs os
  | _, _ => False
theorem SeenL.at {id : Int} : ∀ {xs : List Abs} {os : List Seen}, SeenL id xs os → ∀ (j : Nat) x o, xs[j]? = some x → os[j]? = some o → seenOk x id o
  | [], [], _, j, x, o, hx, _ => by simp at hx
  | a :: xs, b :: os, h, 0, x, o, hx, ho => by
    simp at hx ho
    subst hx; subst ho
    exact h.1
  | a :: xs, b :: os, h, j + 1, x, o, hx, ho => SeenL.at h.2 j x o (by simpa using hx) (by simpa using ho)
  | [], b :: os, h, _, _, _, _, _ => h.elim
  | a :: xs, [], h, _, _, _, _, _ => h.elim
theorem SeenL.append {id : Int} : ∀ {xs ys : List Abs} {os us : List Seen}, SeenL id xs os → SeenL id ys us → SeenL id (xs ++ ys) (os ++ us)
  | [], ys, [], us, _, h => h
  | a :: xs, ys, b :: os, us, h, k => ⟨h.1, SeenL.append h.2 k⟩
  | [], ys, b :: os, us, h, _ => h.elim
  | a :: xs, ys, [], us, h, _ => h.elim
theorem Alone.seen {c : Fin 26} {x : Abs} {bd : BodyA} (h : Alone c x bd) : seenOk x 1 (some (fp c.1, bd)) := by
  refine ⟨h.S1, ⟨fp c.1, h.at⟩, fun q hq => ?_⟩
  rw [h.T] at hq
  by_cases k : q = fp c.1
  · exact k
  · rw [if_neg k] at hq
    simp at hq
/-- A file's renames. -/
def seenR (bd : BodyA) (cs : List (Fin 26)) : List Seen := cs.map fun c => some (fp c.1, bd)
theorem ren_all {bd : BodyA} : ∀ (cs : List (Fin 26)) (c : Fin 26) (x : Abs), Alone c x bd → okAll x (renI c cs) ∧ Alone (lastC c cs) (stepAll x (renI c cs)) bd ∧ SeenL 1 (trail x (renI c cs)) (seenR bd cs) ∧ SeenL 2 (trail x (renI c cs)) (List.replicate cs.length none)
  | [], c, x, h => ⟨trivial, h, trivial, trivial⟩
  | d :: ds, c, x, h => by
    obtain ⟨h1, h2⟩ := alone_rn h d
    obtain ⟨a1, a2, a3, a4⟩ := ren_all ds d _ h2
    exact ⟨⟨h1, a1⟩, a2, ⟨h2.seen, a3⟩, ⟨h2.S2, a4⟩⟩
noncomputable def allI (l : List Int) (cs : List (Fin 26)) : List ItemA := namesI l cs ++ [ulI (lastC 0 cs), crI (lastC 0 cs)]
def seen1 (bd : BodyA) (cs : List (Fin 26)) : List Seen := some (fp (0 : Fin 26).1, ⟨0, []⟩) :: some (fp (0 : Fin 26).1, bd) :: (seenR bd cs ++ [none, none])
def seen2 (cs : List (Fin 26)) : List Seen := none :: none :: (List.replicate cs.length none ++ [none, some (fp (lastC 0 cs).1, ⟨0, []⟩)])
/-- The states of the whole script. -/
theorem names_law (l : List Int) (hl : l.length ≤ 500) (cs : List (Fin 26)) :
    Alone (lastC 0 cs) (stepAll Abs.new (namesI l cs)) (bodyW (cutL l)) ∧ Anew (lastC 0 cs) (stepAll Abs.new (allI l cs)) ∧ SeenL 1 (trail Abs.new (allI l cs)) (seen1 (bodyW (cutL l)) cs) ∧ SeenL 2 (trail Abs.new (allI l cs)) (seen2 cs) := by
  obtain ⟨-, h1⟩ := alone_cr
  obtain ⟨-, h2⟩ := alone_wr h1 l hl
  obtain ⟨-, h3, h4, h5⟩ := ren_all cs 0 _ h2
  obtain ⟨-, h6⟩ := alone_ul h3
  obtain ⟨-, h7⟩ := gone_cr h6 (lastC 0 cs)
  have hT : trail Abs.new (allI l cs) = stepA Abs.new (crI 0) :: stepA (stepA Abs.new (crI 0)) (wI l) :: (trail (stepA (stepA Abs.new (crI 0)) (wI l)) (renI 0 cs) ++ [stepA (stepAll (stepA (stepA Abs.new (crI 0)) (wI l)) (renI 0 cs)) (ulI (lastC 0 cs)), stepA (stepA (stepAll (stepA (stepA Abs.new (crI 0)) (wI l)) (renI 0 cs)) (ulI (lastC 0 cs))) (crI (lastC 0 cs))]) := by
    show trail Abs.new (crI 0 :: wI l :: (renI 0 cs ++ [ulI (lastC 0 cs), crI (lastC 0 cs)])) = _
    rw [trail_cons, trail_cons, trail_append]
    rfl
  refine ⟨h3, ?_, ?_, ?_⟩
  · have : stepAll Abs.new (allI l cs) = stepA (stepA (stepAll (stepA (stepA Abs.new (crI 0)) (wI l)) (renI 0 cs)) (ulI (lastC 0 cs))) (crI (lastC 0 cs)) := by
      unfold allI namesI stepAll
      rw [List.foldl_append]
      rfl
    rw [this]
    exact h7
  · rw [hT]
    exact ⟨h1.seen, h2.seen, h4.append ⟨h6.S1, h7.S1, trivial⟩⟩
  · rw [hT]
    refine ⟨h1.S2, h2.S2, h5.append ⟨h6.S2, ⟨h7.S2, ⟨_, by rw [h7.T, if_pos rfl]⟩, fun q hq => ?_⟩, trivial⟩⟩
    rw [h7.T] at hq
    by_cases k : q = fp (lastC 0 cs).1
    · exact k
    · rw [if_neg k] at hq
      simp at hq
/-- How often a name was another one. -/
def movedN : Fin 26 → List (Fin 26) → Nat
  | _, [] => 0
  | c, d :: ds => (if d = c then 0 else 1) + movedN d ds
theorem movedN_snoc (e : Fin 26) : ∀ (ds : List (Fin 26)) (c : Fin 26), movedN c (ds ++ [e]) = movedN c ds + if e = lastC c ds then 0 else 1
  | [], c => by
    by_cases k : e = c
    · rw [if_pos (show e = lastC c [] from k)]
      simp [movedN, k]
    · rw [if_neg (show ¬ e = lastC c [] from k)]
      simp [movedN, k]
  | d :: ds, c => by
    show (if d = c then 0 else 1) + movedN d (ds ++ [e]) = (if d = c then 0 else 1) + movedN d ds + _
    rw [movedN_snoc e ds d]
    by_cases k : e = lastC d ds
    · rw [if_pos (show e = lastC c (d :: ds) from k), if_pos k]
      omega
    · rw [if_neg (show ¬ e = lastC c (d :: ds) from k), if_neg k]
      omega
theorem vers_ren (bd : BodyA) : ∀ (cs : List (Fin 26)) (c : Fin 26), versN (some (fp c.1, bd)) (seenR bd cs ++ [none, none]) = movedN c cs ∧ versNice (some (fp c.1, bd)) (seenR bd cs ++ [none, none])
  | [], c => ⟨rfl, trivial⟩
  | d :: ds, c => by
    obtain ⟨h1, h2⟩ := vers_ren bd ds d
    constructor
    · show versN (some (fp c.1, bd)) (some (fp d.1, bd) :: (seenR bd ds ++ [none, none])) = (if d = c then 0 else 1) + movedN d ds
      rw [versN_cons, h1]
      by_cases k : d = c
      · subst k
        rw [if_pos rfl, if_pos rfl]
        omega
      · rw [if_neg (fun h => k (by simp at h; exact (fp_inj _ _ h).symm)), if_neg k]
        omega
    · refine ⟨fun e he h3 h4 => ?_, h2⟩
      simp only [Option.some.injEq] at he
      subst he
      simp only at h3
      simp only [Prod.mk.injEq, and_true]
      exact h3
theorem bodyW_nil {l : List Int} (h : l.length = 0) : bodyW (cutL l) = ⟨0, []⟩ := by
  rw [cutL_nil l h]
  rfl
theorem bodyW_len (l : List Int) : (bodyW (cutL l)).size = l.length := by rw [bodyW_size, (cutL_all l).1]
theorem vers_1 (l : List Int) (cs : List (Fin 26)) : versN none (seen1 (bodyW (cutL l)) cs) = 1 + movedN 0 cs + (if 0 < l.length then 1 else 0) ∧ versNice none (seen1 (bodyW (cutL l)) cs) := by
  obtain ⟨h1, h2⟩ := vers_ren (bodyW (cutL l)) cs 0
  have hs := bodyW_len l
  have same : ((⟨0, []⟩ : BodyA).size = (bodyW (cutL l)).size → (⟨0, []⟩ : BodyA) = bodyW (cutL l)) := fun h => by
    rw [hs] at h
    rw [bodyW_nil (show l.length = 0 by simp at h; omega)]
  constructor
  · unfold seen1
    rw [versN_cons, versN_cons, h1, if_neg (by simp)]
    by_cases k : 0 < l.length
    · rw [if_neg (fun h => ?_), if_pos k]
      · omega
      · simp only [Option.some.injEq, Prod.mk.injEq, true_and] at h
        rw [← h] at hs
        simp at hs
        omega
    · rw [if_pos (by rw [bodyW_nil (by omega)]), if_neg k]
      omega
  · refine ⟨fun d hd => by simp at hd, fun d hd _ h4 => ?_, h2⟩
    simp only [Option.some.injEq] at hd
    subst hd
    exact congrArg (fun z => (fp (0 : Fin 26).1, z)) (same h4)
theorem vers_none : ∀ (n : Nat) (s : List Seen), versN none (List.replicate n none ++ s) = versN none s ∧ (versNice none s → versNice none (List.replicate n none ++ s))
  | 0, s => ⟨rfl, id⟩
  | n + 1, s => by
    obtain ⟨h1, h2⟩ := vers_none n s
    rw [List.replicate_succ]
    exact ⟨h1, h2⟩
theorem vers_2 (cs : List (Fin 26)) : versN none (seen2 cs) = 1 ∧ versNice none (seen2 cs) := by
  obtain ⟨h1, h2⟩ := vers_none cs.length [none, some (fp (lastC 0 cs).1, ⟨0, []⟩)]
  constructor
  · show versN none (List.replicate cs.length none ++ [none, some (fp (lastC 0 cs).1, ⟨0, []⟩)]) = 1
    rw [h1]
    show versN none (some (fp (lastC 0 cs).1, ⟨0, []⟩) :: []) = 1
    rw [versN_cons, if_neg (by simp)]
    rfl
  · exact h2 ⟨fun d hd => by simp at hd, trivial⟩
theorem allI_len (l : List Int) (cs : List (Fin 26)) : (allI l cs).length = cs.length + 4 := by
  simp [allI, namesI, renI_len]
theorem seen1_len (bd : BodyA) (cs : List (Fin 26)) : (seen1 bd cs).length = cs.length + 4 := by simp [seen1, seenR]
theorem seen2_len (cs : List (Fin 26)) : (seen2 cs).length = cs.length + 4 := by simp [seen2]
end Go.Proofs.YtaonlcgneemimaaGreatDoor
namespace Go.Proofs.YtaonlcgneemimaaGreatDoor
open Go.RowKit
/-- Blocks made since a world are no matter of its own. -/
theorem Frame.fresh {M : List Nat} {w w1 w2 : World} (h : Frame M w1 w2) (hb : Below w.heap.size w w1) (hM : ∀ k ∈ M, w.heap.size ≤ k) : Below w.heap.size w w2 := h.belowIf hb hM hb.size
/-- A fresh disk and a fresh repository. -/
theorem begin_any (w : World) (hg : ∃ m, w.cell? ⟨1, 0, none⟩ = some (.int .i64 m)) (w1 : World) (d l cb : Nat) (HD : DiskAt w1 d l cb 776 0) (hb : Below w.heap.size w w1) (h1 : w.heap.size ≤ d) (h2 : w.heap.size ≤ l) (h3 : w.heap.size ≤ cb) :
    Calls Tryz.prog 8 #[.pointer (some ⟨d, 0, none⟩)] w1 fun e w' => ∃ r X, e = .returned (.tuple #[.pointer (some ⟨r, 0, none⟩), .int .i64 0]) ∧ RepAt w' r X ∧ X.xs = [] ∧ X.its = [] ∧ X.P = [] ∧ NewEng X ∧ (∀ k ∈ X.mu r, w.heap.size ≤ k) ∧ (∀ k ∈ X.m1 r, w.heap.size ≤ k) ∧ Below w.heap.size w w' := by
  obtain ⟨m, hm⟩ := hg
  have hlt : 1 < w.heap.size := World.block_lt_of_cell? w ⟨1, 0, none⟩ hm
  refine (repFormat_any w1 d l cb 0 HD (by decide) ⟨by omega, by omega, by omega⟩ ⟨m, (hb.cell (p := ⟨1, 0, none⟩) hlt).trans hm⟩).mono ?_
  rintro e w' ⟨r, X, rfl, N⟩
  have hs := hb.size
  refine ⟨r, X, rfl, N.rep, N.xs, N.its, N.P, ⟨N.dn, N.number, N.k, N.ssJ, N.ssC, N.nJ, N.nC⟩, fun k hk => ?_, fun k hk => Nat.le_trans hs (N.own1 k hk), N.fr.fresh hb (by simp only [List.mem_cons, List.not_mem_nil, or_false]; rintro k (rfl | rfl | rfl) <;> assumption)⟩
  rcases N.own k hk with rfl | rfl | rfl | h <;> omega
def pXY : List Int := [120, 121]
theorem pXY_byte : ByteL pXY := by unfold ByteL pXY; decide
theorem putXY : putBytes [] pXY 2 = [0, 0, 120, 121] := by decide
set_option maxRecDepth 100000 in
set_option maxHeartbeats 4000000 in
theorem awake_any (w : World) (hg : ∃ m, w.cell? ⟨1, 0, none⟩ = some (.int .i64 m)) :
    Calls Tryz.prog 6 #[] w fun e w' => e = .returned (.bool true) ∧ Below w.heap.size w w' := by
  have D := Lib.hid (newDisk_any w)
  have F : Hid (∀ (w1 : World) (d l cb : Nat), Hid (DiskAt w1 d l cb 776 0) → Hid (Below w.heap.size w w1) → w.heap.size ≤ d → w.heap.size ≤ l → w.heap.size ≤ cb → Calls Tryz.prog 8 #[.pointer (some ⟨d, 0, none⟩)] w1 fun e w' => ∃ r X, e = .returned (.tuple #[.pointer (some ⟨r, 0, none⟩), .int .i64 0]) ∧ Hid (RepAt w' r X ∧ X.xs = [] ∧ X.its = [] ∧ X.P = [] ∧ NewEng X) ∧ Hid ((∀ k ∈ X.mu r, w.heap.size ≤ k) ∧ (∀ k ∈ X.m1 r, w.heap.size ≤ k)) ∧ Hid (Below w.heap.size w w')) := Lib.hid (fun w1 d l cb hd hb h1 h2 h3 => by
    refine (begin_any w hg w1 d l cb hd.out hb.out h1 h2 h3).mono ?_
    rintro e w' ⟨r, X, a1, a2, a3, a4, a5, a6, a7, a8, a9⟩
    exact ⟨r, X, a1, Lib.hid ⟨a2, a3, a4, a5, a6⟩, Lib.hid ⟨a7, a8⟩, Lib.hid a9⟩)
  have CR : Hid (∀ (W : World) (r : Nat) (X : RepX), Hid (RepAt W r X ∧ X.xs = [] ∧ X.its = [] ∧ X.P = [] ∧ NewEng X) → Hid ((∀ k ∈ X.mu r, w.heap.size ≤ k) ∧ (∀ k ∈ X.m1 r, w.heap.size ≤ k)) → Hid (Below w.heap.size w W) → Calls Tryz.prog 9 #[.pointer (some ⟨r, 0, none⟩), .agg #[.int .i64 1, .string ⟨#[47, 97]⟩, .string ⟨#[]⟩, .int .i64 0, .int .i64 0, .slice none 0 0]] W fun e w' => e = .returned (.tuple #[.int .i64 1, .int .i64 0]) ∧ ∃ X1, Hid (RepAt w' r X1 ∧ Scr 0 pXY X1 [] ∧ NewEng X1) ∧ Hid ((∀ k ∈ X1.mu r, w.heap.size ≤ k) ∧ (∀ k ∈ X1.m1 r, w.heap.size ≤ k)) ∧ Hid (Below w.heap.size w w')) := Lib.hid (fun W r X hX hk hb => by
    obtain ⟨a1, a2, a3, a4, a5⟩ := hX.out
    refine (scr_create W r X a1 0 pXY a2 a3 a4).mono ?_
    rintro e w' ⟨rfl, X1, N, S⟩
    exact ⟨rfl, X1, Lib.hid ⟨N.rep, S, a5.of N⟩, Lib.hid (by rw [N.mu, N.m1]; exact hk.out), Lib.hid (N.fr.fresh hb.out hk.out.2)⟩)
  have WR : Hid (∀ (W : World) (r g : Nat) (X : RepX), Hid (RepAt W r X ∧ Scr 0 pXY X [] ∧ NewEng X) → Hid ((∀ k ∈ X.mu r, w.heap.size ≤ k) ∧ (∀ k ∈ X.m1 r, w.heap.size ≤ k)) → Hid (Below w.heap.size w W) → Hid (W.heap[g]? = some (.cells #[.int .u8 120, .int .u8 121] 5 (2, 3))) → Calls Tryz.prog 9 #[.pointer (some ⟨r, 0, none⟩), .agg #[.int .i64 3, .string ⟨#[47, 97]⟩, .string ⟨#[]⟩, .int .i64 2, .int .i64 0, .slice (some ⟨g, 0, none⟩) 2 2]] W fun e w' => e = .returned (.tuple #[.int .i64 2, .int .i64 0]) ∧ ∃ X1, Hid (RepAt w' r X1 ∧ Scr 0 pXY X1 [[0, 0, 120, 121]] ∧ NewEng X1) ∧ Hid ((∀ k ∈ X1.mu r, w.heap.size ≤ k) ∧ (∀ k ∈ X1.m1 r, w.heap.size ≤ k)) ∧ Hid (Below w.heap.size w w')) := Lib.hid (fun W r g X hX hk hb hgd => by
    obtain ⟨a1, a2, a3⟩ := hX.out
    refine (scr_writeC W r X a1 0 pXY [] a2 (by simp) (some ⟨g, 0, none⟩) 2 (SlC.two hgd.out rfl rfl) pXY_byte (by decide) (by decide) 2 (by decide)).mono ?_
    rintro e w' ⟨rfl, X1, N, S⟩
    exact ⟨rfl, X1, Lib.hid ⟨N.rep, putXY ▸ S, a3.of N⟩, Lib.hid (by rw [N.mu, N.m1]; exact hk.out), Lib.hid (N.fr.fresh hb.out hk.out.2)⟩)
  have CM : Hid (∀ (W : World) (r : Nat) (X : RepX), Hid (RepAt W r X ∧ Scr 0 pXY X [[0, 0, 120, 121]] ∧ NewEng X) → Hid ((∀ k ∈ X.mu r, w.heap.size ≤ k) ∧ (∀ k ∈ X.m1 r, w.heap.size ≤ k)) → Hid (Below w.heap.size w W) → Calls Tryz.prog 10 #[.pointer (some ⟨r, 0, none⟩)] W fun e w' => e = .returned (.int .i64 0) ∧ ∃ X1, Hid (RepAt w' r X1 ∧ ScrDone 0 pXY X1 [[0, 0, 120, 121]]) ∧ Hid (Below w.heap.size w w')) := Lib.hid (fun W r X hX hk hb => by
    obtain ⟨a1, a2, a3⟩ := hX.out
    refine (scr_commit W r X a1 0 pXY _ a2 a3 (by simp)).mono ?_
    rintro e w' ⟨rfl, X2, b1, b2, b3⟩
    exact ⟨rfl, X2, Lib.hid ⟨b1, b3⟩, Lib.hid (b2.fresh hb.out hk.out.1)⟩)
  have RD : Hid (∀ (W : World) (r : Nat) (X : RepX), Hid (RepAt W r X ∧ ScrDone 0 pXY X [[0, 0, 120, 121]]) → Hid (Below w.heap.size w W) → Calls Tryz.prog 11 #[.pointer (some ⟨r, 0, none⟩), .int .i64 2, .string ⟨#[47, 97]⟩, .int .i64 1, .int .i64 9] W fun e w' => ∃ v', e = .returned (.tuple #[v', .int .i64 0]) ∧ Sl w' 5 1 v' 3 (u8s [0, 120, 121]) ∧ Hid (RepAt w' r X) ∧ Hid (X.xs.length = 2) ∧ Hid (Below w.heap.size w w')) := Lib.hid (fun W r X hX hb => by
    obtain ⟨a1, a2⟩ := hX.out
    refine (scr_read W r X a1 0 pXY _ a2 1 [0, 0, 120, 121] rfl 1 9 (by decide) (by decide) (by decide) (by decide)).mono ?_
    rintro e w' ⟨v', rfl, hs, hq⟩
    exact ⟨v', rfl, hs, Lib.hid (a1.below hq), Lib.hid a2.len, Lib.hid (hb.out.trans (hq.mono hb.out.size))⟩)
  have PT : Hid (∀ (W : World) (r : Nat) (X : RepX), Hid (RepAt W r X) → Hid (X.xs.length = 2) → Hid (Below w.heap.size w W) → Calls Tryz.prog 14 #[.pointer (some ⟨r, 0, none⟩)] W fun e w' => ∃ a cap, e = .returned (.slice a 2 cap) ∧ Hid (Below w.heap.size w w')) := Lib.hid (fun W r X hX hl hb => by
    refine (repPoints_any W r X hX.out).mono ?_
    rintro e w' ⟨v, rfl, hv, hq⟩
    rw [hl.out] at hv
    obtain ⟨a, cap, rfl, -⟩ := pts_cells hv
    exact ⟨a, cap, rfl, Lib.hid (hb.out.trans (hq.mono hb.out.size))⟩)
  have hss : strOfNums [0, 120, 121] = ⟨#[0, 120, 121]⟩ := by decide
  have hcc : ∀ W : World, (convert 33 33 (.slice (some ⟨W.heap.size, 0, none⟩) 2 2)).run Tryz.prog (W.alloc (.cells #[.int .u8 120, .int .u8 121] 5)) = .ok (.slice (some ⟨W.heap.size, 0, none⟩) 2 2) (W.alloc (.cells #[.int .u8 120, .int .u8 121] 5 (2, 3))) := fun W => Go.Lib.run_convert_bytes_const (P := Tryz.prog) W 33 5 #[.int .u8 120, .int .u8 121] 2 2 Tryz.underlying33 Tryz.underlying5
  clear hg
  go_enter Tryz.func6, Tryz.ntmps6
  go_wp2_with (first | (go_at_call 7; with_reducible refine D.out.mono ?_; rintro e1 w1 ⟨d, l, cb, rfl, hd, hq, h1, h2, h3⟩; have D1 := Lib.hid hd; have B1 := Lib.hid hq; clear hd hq) | (go_at_call 8; with_reducible refine (F.out w1 d l cb D1 B1 h1 h2 h3).mono ?_; rintro e1 w2 ⟨r, X, rfl, X2, K2, B2⟩) | (go_at_call 9; with_reducible refine (CR.out w2 r X X2 K2 B2).mono ?_; rintro e1 w3 ⟨rfl, X1, X3, K3, B3⟩) | (go_at_call 9; with_reducible refine (WR.out _ r _ X1 (Lib.hid ⟨X3.out.1.below (crc_below _ _), X3.out.2⟩) K3 (Lib.hid (B3.out.alloc B3.out.size _)) (Lib.hid (heap_new _ _))).mono ?_; rintro e1 w4 ⟨rfl, Xb, X4, K4, B4⟩) | (go_at_call 10; with_reducible refine (CM.out w4 r Xb X4 K4 B4).mono ?_; rintro e1 w5 ⟨rfl, Xc, X5, B5⟩) | (go_at_call 11; with_reducible refine (RD.out w5 r Xc X5 B5).mono ?_; rintro e1 w6 ⟨v', rfl, hs, X6, L6, B6⟩; have hcv := conv_sl hs; rw [hss] at hcv; obtain ⟨va, vc, rfl, -, -, -⟩ := hs.shape; clear hs) | (go_at_call 14; with_reducible refine (PT.out w6 r Xc X6 L6 B6).mono ?_; rintro e1 w7 ⟨pa, pc, rfl, B7⟩))
  go_ret
  exact ⟨rfl, B7.out⟩
end Go.Proofs.YtaonlcgneemimaaGreatDoor
