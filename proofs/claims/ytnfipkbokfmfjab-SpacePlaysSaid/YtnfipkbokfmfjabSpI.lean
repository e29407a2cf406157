import Derived.Test.YtnfipkbokfmfjabSpC
import Derived.Deep.Slices
import Derived.Deep.Fields
import Derived.ChangeSame
namespace Go.Proofs.Ytnfipkbokfmfjab
open Go.RowKit Go.ChangeShapes Go.WideShapes Go.Deep
section
variable {H : Type} {enc : TypeId × Value → H} {P : Program} {w : World} {base : Nat} {spare : Nat → Bool} {held : Bool}
theorem open_slice_fields {t e : TypeId} {fs : Array Field} {fuel : Nat} {cs : List Value} {x : DataW H × List MemPlace} (ht : P.underlying t = some (.slice e)) (he : P.underlying e = some (.struct fs))
    (hone : oneCellFields P fs = true) (hC : P.cellsOf e = fs.size) (h : DataW.trod enc P w base spare held fuel t cs = some x) :
    (cs = [.slice none 0 0] ∧ x = (.nil, [])) ∨
    ∃ (a : Addr) (len cap m : Nat) (D : Nat → DataW H) (Pl : Nat → List MemPlace), cs = [.slice (some a) len cap] ∧ base ≤ a.block ∧ len ≤ cap ∧ cap ≤ maxLen ∧ m = (if spare a.block then cap else len) ∧
      x = (.slice ((List.range len).map D) ((List.range (m - len)).map fun j => D (len + j)), MemPlace.row a (m * fs.size) ++ (List.range m).flatMap Pl) ∧
      ∀ i, i < m → ∃ (ys : List (DataW H × List MemPlace)) (n : Nat), D i = .agg (ys.map (·.1)) ∧ Pl i = ys.flatMap (·.2) ∧ ys.length = fs.size ∧
        ∀ (j : Nat) (f : Field), fs[j]? = some f → ∃ (v : Value) (y : DataW H × List MemPlace), w.cell? (a.add (i * fs.size + j)) = some v ∧ ys[j]? = some y ∧ DataW.trod enc P w base spare held n f.type [v] = some y := by
  rcases open_slice ht h with h0 | ⟨a, len, cap, m, n, D, Pl, hcs, hb, hl, hm, hmm, hx, hi⟩
  · exact .inl h0
  · refine .inr ⟨a, len, cap, m, D, Pl, hcs, hb, hl, hm, hmm, by rw [hC] at hx; exact hx, fun i him => ?_⟩
    obtain ⟨cs', hc, ht'⟩ := hi i him
    rw [hC] at hc
    obtain ⟨ys, n', hn', hy, hlen, hyl, hf⟩ := DataW.trod_struct he ht'
    obtain ⟨_, hcl, hat⟩ := World.cells?_some hc
    simp only [Prod.mk.injEq] at hy
    refine ⟨ys, n', hy.1, hy.2, hyl, fun j f hj => ?_⟩
    obtain ⟨ho, hk⟩ := hone_of hone j f hj
    have hjl : j < fs.size := (Array.getElem?_eq_some_iff.1 hj).1
    have hcell := hat j hjl
    have hv : cs'[j]? = some (cs'[j]'(by omega)) := List.getElem?_eq_getElem (by omega)
    have h1 := hf j f hj
    rw [ho, hk] at h1
    have hone' : (cs'.drop j).take 1 = [cs'[j]'(by omega)] := by
      rw [List.drop_eq_getElem_cons (by omega)]
      rfl
    rw [hone'] at h1
    have hys : ys[j]? = some (ys[j]'(by omega)) := List.getElem?_eq_getElem (by omega)
    refine ⟨_, _, ?_, hys, h1.trans hys⟩
    rw [← Go.Deep.add_add, hcell, hv]
end
/-- What the walk is told of a slice of pairs of ints that came in. -/
def IsPairs (w : World) (a : Option Addr) (len : Nat) (D N : Nat → Int) : Prop :=
  len ≤ 9223372036854775807 ∧ ∀ j, j < len → ∃ x, a = some x ∧ (-9223372036854775808 ≤ N j ∧ N j ≤ 9223372036854775807) ∧ w.cell? (x.add (j * 2)) = some (.int .i64 (D j)) ∧ w.cell? ⟨(x.add (j * 2)).block, (x.add (j * 2)).off + 1, none⟩ = some (.int .i64 (N j))
theorem choose2 {P : Nat → Int → Int → Prop} {n : Nat} (h : ∀ i, i < n → ∃ a b, P i a b) : ∃ A B : Nat → Int, ∀ i, i < n → P i (A i) (B i) := by
  have : ∀ i, ∃ p : Int × Int, i < n → P i p.1 p.2 := fun i => by
    by_cases hi : i < n
    · obtain ⟨a, b, hab⟩ := h i hi; exact ⟨(a, b), fun _ => hab⟩
    · exact ⟨(0, 0), fun h => absurd h hi⟩
  exact ⟨fun i => (Classical.choose (this i)).1, fun i => (Classical.choose (this i)).2, fun i hi => Classical.choose_spec (this i) hi⟩
theorem bounds_i64' {n : Int} (h : (Lit.int .i64 n).wf = true) : -9223372036854775808 ≤ n ∧ n ≤ 9223372036854775807 := bounds_i64 h
theorem open_pairs {H : Type} {enc : TypeId × Value → H} {w : World} {base fuel : Nat} {spare : Nat → Bool} {held : Bool} {a : Option Addr} {len cap : Nat} {x : DataW H × List MemPlace}
    (h : DataW.trod enc Try.prog w base spare held fuel 38 [.slice a len cap] = some x) : ∃ D N, IsPairs w a len D N := by
  rcases open_slice_fields Try.underlying38 Try.underlying40 (by kernel_rfl) (by kernel_rfl) h with ⟨hcs, _⟩ | ⟨y, l, c, m, Dd, Pl, hcs, _, hl, hm, hmm, _, hx⟩
  · simp at hcs
    obtain ⟨_, rfl, rfl⟩ := hcs
    exact ⟨fun _ => 0, fun _ => 0, by omega, fun j hj => by omega⟩
  · simp only [List.cons.injEq, Value.slice.injEq, and_true] at hcs
    obtain ⟨rfl, rfl, rfl⟩ := hcs
    have key : ∀ i, i < len → ∃ d n : Int, (-9223372036854775808 ≤ n ∧ n ≤ 9223372036854775807) ∧ w.cell? (y.add (i * 2)) = some (.int .i64 d) ∧ w.cell? ⟨(y.add (i * 2)).block, (y.add (i * 2)).off + 1, none⟩ = some (.int .i64 n) := by
      intro i hi
      obtain ⟨ys, n, _, _, _, hf⟩ := hx i (by rw [hmm]; split <;> omega)
      obtain ⟨v0, y0, c0, _, t0⟩ := hf 0 _ rfl
      obtain ⟨v1, y1, c1, _, t1⟩ := hf 1 _ rfl
      obtain ⟨d, e0, _, _⟩ := DataW.trod_int Try.underlying3 t0
      obtain ⟨e, e1, _, w1⟩ := DataW.trod_int Try.underlying3 t1
      simp only [List.cons.injEq, and_true] at e0 e1
      subst e0; subst e1
      refine ⟨d, e, bounds_i64' w1, by simpa using c0, ?_⟩
      have : (y.add (i * 2)).add 1 = ⟨(y.add (i * 2)).block, (y.add (i * 2)).off + 1, none⟩ := by simp [Addr.add]
      rw [← this, Go.Deep.add_add]
      simpa using c1
    obtain ⟨D, N, hDN⟩ := choose2 key
    exact ⟨D, N, by unfold maxLen at hm; omega, fun j hj => ⟨y, rfl, hDN j hj⟩⟩
end Go.Proofs.Ytnfipkbokfmfjab
