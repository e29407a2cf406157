/- TopNames: the contracts of W6, W7; no condition. -/
import Derived.Test.YtaonlcgneemimaaGreatDoorJ24
import Derived.Test.YtaonlcgneemimaaGreatDoorJ19
import Derived.WalkMore
namespace Go.Proofs.YtaonlcgneemimaaGreatDoor
open Go.RowKit
set_option maxRecDepth 100000 in
set_option maxHeartbeats 2000000 in
theorem look_none (w : World) (h : Nat) (pv sv : Value) (xs : List StX) (H : HistAt w h pv sv xs) (j : Nat) (y : StX) (hj : xs[j]? = some y) (id : Int) (hS : y.x.S id = none) (hid : 0 ≤ id ∧ id ≤ 4611686018427387904) :
    Calls Tryz.prog 88 #[.pointer (some ⟨h, 0, none⟩), .int .i64 ((j : Int) + 1), .int .i64 id] w fun e w' => e = .returned (.tuple #[.string ⟨#[]⟩, .agg #[.int .i64 0, .slice none 0 0], .bool false]) ∧ Below w.heap.size w w' := by
  have B1 : Hid (∀ o, Below w.heap.size w (w.alloc o)) := Lib.hid (fun o => (Below.refl _ _).alloc (Nat.le_refl _) o)
  have HST := Lib.hid (fun W (hW : Below w.heap.size w W) (HW : HistAt W h pv sv xs) => histState_any W h pv sv xs HW j y hj)
  have HH := Lib.hid (fun W (hW : Below w.heap.size w W) => H.below hW)
  have HF : Hid (∀ W (y' : StX), StAt W y' → y'.x = y.x → Calls Tryz.prog 138 #[.pointer (some ⟨y'.s, 0, none⟩), .int .i64 id] W fun e w' => e = .returned (.tuple #[.string ⟨#[]⟩, .agg #[.int .i64 0, .slice none 0 0], .bool false]) ∧ Below W.heap.size W w') := Lib.hid (fun W y' h1 h2 => find_none W _ _ _ _ _ _ _ _ _ _ h1.at' id (by rw [h2]; exact hS) hid)
  clear H hS hj
  go_enter Tryz.func88, Tryz.ntmps88
  go_wp2_with (first | (go_at_call 77; refine (HST.out _ (B1.out _) (HH.out _ (B1.out _))).mono ?_; rintro e w1 ⟨y', rfl, hst, hyx, -, hq⟩; have Q1 := Lib.hid ((B1.out (.cells #[.int .i64 0, .slice none 0 0] 100)).trans (hq.mono (B1.out (.cells #[.int .i64 0, .slice none 0 0] 100)).size)); have hN := Lib.hid (Below.heap hq (Nat.le_refl _) (heap_new w (.cells #[.int .i64 0, .slice none 0 0] 100))); have HST1 := Lib.hid hst; clear hq hst) | (go_at_call 138; refine (HF.out _ y' HST1.out hyx).mono ?_; rintro e w2 ⟨rfl, hq⟩; have Q2 := Lib.hid (Q1.out.trans (hq.mono Q1.out.size)); have hN2 := Below.heap hq (Nat.le_refl _) hN.out; have HN2 := Lib.hid hN2; have f0 := frozenAt hN2 0; have f1 := frozenAt hN2 1; have n0 := cellAt hN2 0; have n1 := cellAt hN2 1; clear hq hN2))
  have hF := setAt (setAt HN2.out 0 (.int .i64 0)) 1 (.slice none 0 0)
  have j0 := cellAt hF 0
  have j1 := cellAt hF 1
  simp at j0 j1
  refine bodyPost_ret (v := .tuple #[.string ⟨#[]⟩, .agg #[.int .i64 0, .slice none 0 0], .bool false]) (by simp [results, Tryz.results88, go_sem, j0, j1]) rfl ?_
  exact ⟨rfl, (Q2.out.setCell (p := ⟨w.heap.size, 0, none⟩) (Nat.le_refl _) _).setCell (p := ⟨w.heap.size, 1, none⟩) (Nat.le_refl _) _⟩
set_option maxRecDepth 100000 in
set_option maxHeartbeats 2000000 in
theorem look_seen (w : World) (h : Nat) (pv sv : Value) (xs : List StX) (H : HistAt w h pv sv xs) (j : Nat) (y : StX) (hj : xs[j]? = some y) (id : Int) (bd : BodyA) (hS : y.x.S id = some bd) (hid : 0 ≤ id ∧ id ≤ 4611686018427387904) (hT : ∃ p, y.x.T p = some id) :
    Calls Tryz.prog 88 #[.pointer (some ⟨h, 0, none⟩), .int .i64 ((j : Int) + 1), .int .i64 id] w fun e w' => ∃ p v, e = .returned (.tuple #[.string p, v, .bool true]) ∧ y.x.T p = some id ∧ BodyV w' v bd ∧ Below w.heap.size w w' := by
  have B1 : Hid (∀ o, Below w.heap.size w (w.alloc o)) := Lib.hid (fun o => (Below.refl _ _).alloc (Nat.le_refl _) o)
  have HST := Lib.hid (fun W (hW : Below w.heap.size w W) (HW : HistAt W h pv sv xs) => histState_any W h pv sv xs HW j y hj)
  have HH := Lib.hid (fun W (hW : Below w.heap.size w W) => H.below hW)
  have hnf := (H.each y (List.mem_of_getElem? hj)).ok.nf
  have HF : Hid (∀ W (y' : StX), StAt W y' → y'.x = y.x → Calls Tryz.prog 138 #[.pointer (some ⟨y'.s, 0, none⟩), .int .i64 id] W fun e w' => ∃ p v, e = .returned (.tuple #[.string p, v, .bool true]) ∧ y.x.T p = some id ∧ BodyV w' v bd ∧ Below W.heap.size W w') := Lib.hid (fun W y' h1 h2 => by
    have := find_hit W _ _ _ _ _ _ _ _ _ _ h1.at' (by rw [h2]; omega) id bd (by rw [h2]; exact hS) hid (by rw [h2]; exact hT)
    rw [h2] at this
    exact this)
  clear H hS hj hT
  go_enter Tryz.func88, Tryz.ntmps88
  go_wp2_with (first | (go_at_call 77; refine (HST.out _ (B1.out _) (HH.out _ (B1.out _))).mono ?_; rintro e w1 ⟨y', rfl, hst, hyx, -, hq⟩; have Q1 := Lib.hid ((B1.out (.cells #[.int .i64 0, .slice none 0 0] 100)).trans (hq.mono (B1.out (.cells #[.int .i64 0, .slice none 0 0] 100)).size)); have hN := Lib.hid (Below.heap hq (Nat.le_refl _) (heap_new w (.cells #[.int .i64 0, .slice none 0 0] 100))); have HST1 := Lib.hid hst; clear hq hst) | (go_at_call 138; refine (HF.out _ y' HST1.out hyx).mono ?_; rintro e w2 ⟨p, v, rfl, hTp, hbv, hq⟩; obtain ⟨ss, rfl, hsl⟩ := hbv; obtain ⟨pa, pc, rfl, -, -⟩ := parts_cells hsl; have HSL := Lib.hid hsl; have HTP := Lib.hid hTp; have Q2 := Lib.hid (Q1.out.trans (hq.mono Q1.out.size)); have hN2 := Below.heap hq (Nat.le_refl _) hN.out; have HN2 := Lib.hid hN2; have f0 := frozenAt hN2 0; have f1 := frozenAt hN2 1; have n0 := cellAt hN2 0; have n1 := cellAt hN2 1; clear hq hN2 hsl hTp))
  have hF := setAt (setAt HN2.out 0 (.int .i64 bd.size)) 1 (.slice pa bd.parts.length pc)
  have j0 := cellAt hF 0
  have j1 := cellAt hF 1
  simp at j0 j1
  refine bodyPost_ret (v := .tuple #[.string p, .agg #[.int .i64 bd.size, .slice pa bd.parts.length pc], .bool true]) (by simp [results, Tryz.results88, go_sem, j0, j1]) rfl ?_
  refine ⟨p, _, rfl, HTP.out, ⟨_, rfl, HSL.out.kept (fun k arr hk => ?_)⟩, (Q2.out.setCell (p := ⟨w.heap.size, 0, none⟩) (Nat.le_refl _) _).setCell (p := ⟨w.heap.size, 1, none⟩) (Nat.le_refl _) _⟩
  have j2 : k ≠ w.heap.size := fun e => by rw [e, HN2.out] at hk; injection hk with hk; injection hk with _ h; exact absurd h (by decide)
  exact (heap_set_ne _ j2).trans ((heap_set_ne _ j2).trans hk)
end Go.Proofs.YtaonlcgneemimaaGreatDoor
namespace Go.Proofs.YtaonlcgneemimaaGreatDoor
open Go.RowKit
theorem info176 : (Tryz.prog.info? 176).map (fun i => (i.zero, i.size, i.bytes)) = some (some (.agg #[.int .i64 0, .float .f64 0, .string ⟨#[]⟩, .string ⟨#[]⟩, .int .i64 0]), 5, 56) := by kernel_rfl
theorem toListB_inj {s t : ByteArray} (h : s.toList = t.toList) : s = t := by
  rw [Lib.toList_data, Lib.toList_data] at h
  exact ByteArray.ext (Array.toList_inj.1 h)
/-- A file's path and body in a state. -/
abbrev Seen := Option (ByteArray × BodyA)
def seenOk (x : Abs) (id : Int) : Seen → Prop
  | none => x.S id = none
  | some c => x.S id = some c.2 ∧ (∃ q, x.T q = some id) ∧ ∀ q, x.T q = some id → q = c.1
open Classical in
/-- How many versions there are. -/
noncomputable def versN : Seen → List Seen → Nat
  | _, [] => 0
  | _, none :: l => versN none l
  | last, some c :: l => if last = some c then versN (some c) l else versN (some c) l + 1
open Classical in
theorem versN_cons (last : Seen) (c : ByteArray × BodyA) (l : List Seen) : versN last (some c :: l) = if last = some c then versN (some c) l else versN (some c) l + 1 := by
  cases l <;> rfl
/-- Where path and size are as before, all is. -/
def versNice : Seen → List Seen → Prop
  | _, [] => True
  | _, none :: l => versNice none l
  | last, some c :: l => (∀ d, last = some d → d.1 = c.1 → d.2.size = c.2.size → d = c) ∧ versNice (some c) l
/-- What the loop keeps of the last version. -/
def LastV (w : World) (q7 : Nat) (last : Seen) (t6 : Value) : Prop :=
  ∃ p s v, t6 = .string p ∧ w.heap[q7]? = some (.cells #[.int .i64 s, v] 100 (0, 0)) ∧ v.oneCell' = true ∧ ∀ c, last = some c → p = c.1 ∧ s = c.2.size ∧ Sl w 134 4 v c.2.parts.length (partsC c.2.parts)
theorem own_shapeW {w : World} {B e sz n : Nat} {v : Value} {xs : List Value} (h : w.ownsRow B e sz v n xs) : ∃ a cap, v = .slice a n cap := by
  obtain ⟨-, ⟨rfl, rfl⟩ | ⟨g, cap, cur, rfl, -⟩⟩ := h
  · exact ⟨none, 0, rfl⟩
  · exact ⟨_, cap, rfl⟩
theorem own_heapW {w : World} {B e sz n g : Nat} {v : Value} {xs : List Value} (h : w.ownsRow B e sz v n xs) (hg : v.ownBlock = some g) : ∃ arr, w.heap[g]? = some (.cells arr e (0, 0)) := by
  rcases h.2 with ⟨rfl, _⟩ | ⟨g', cap, cur, rfl, _, hg2, _⟩
  · simp [Value.ownBlock] at hg
  · simp only [Value.ownBlock, Option.some.injEq] at hg
    subst hg
    exact ⟨_, hg2⟩
/-- Behind the append of a version: what lies there, and how it stays. -/
theorem of_close {w w1 wr w5 w7 : World} {c : ByteArray × BodyA} {pb : Option Addr} {kb cnt : Nat} {u5 v7 : Value} {ys zs : List Value} {ls : Int} {lv : Value} (hown : wr.ownsRow w1.heap.size 176 5 u5 cnt ys) (hlh : wr.heap[w.heap.size]? = some (.cells #[.int .i64 ls, lv] 100 (0, 0))) (hw1 : w.heap.size < w1.heap.size)
    (hfr : Frame [w.heap.size] w1 wr) (hbw : Below w.heap.size w wr) (h5 : Below wr.heap.size wr w5) (hsl : Sl w5 134 4 (.slice pb c.2.parts.length kb) c.2.parts.length (partsC c.2.parts)) (o : Obj)
    (hg : ((w5.alloc (.cells #[.int .i64 c.2.size, .slice pb c.2.parts.length kb] 100)).alloc o).grownBy w7 u5.ownBlock) (ho : w7.ownsRow w1.heap.size 176 5 v7 (cnt + 1) zs) :
    w7.heap[w.heap.size]? = some (.cells #[.int .i64 ls, lv] 100 (0, 0)) ∧ w7.heap[w5.heap.size]? = some (.cells #[.int .i64 c.2.size, .slice pb c.2.parts.length kb] 100 (0, 0)) ∧ w5.heap.size ≠ w.heap.size ∧
    ((((w7.setCell ⟨w.heap.size, 0, none⟩ (.int .i64 c.2.size)).setCell ⟨w.heap.size, 1, none⟩ (.slice pb c.2.parts.length kb)).drew).ownsRow w1.heap.size 176 5 v7 (cnt + 1) zs ∧ LastV (((w7.setCell ⟨w.heap.size, 0, none⟩ (.int .i64 c.2.size)).setCell ⟨w.heap.size, 1, none⟩ (.slice pb c.2.parts.length kb)).drew) w.heap.size (some c) (.string c.1) ∧ Frame [w.heap.size] w1 (((w7.setCell ⟨w.heap.size, 0, none⟩ (.int .i64 c.2.size)).setCell ⟨w.heap.size, 1, none⟩ (.slice pb c.2.parts.length kb)).drew) ∧ Below w.heap.size w (((w7.setCell ⟨w.heap.size, 0, none⟩ (.int .i64 c.2.size)).setCell ⟨w.heap.size, 1, none⟩ (.slice pb c.2.parts.length kb)).drew)) := by
  have s5 := h5.size
  have sw := heap_lt hlh
  have sf := hfr.size
  have hbk : ∀ g, u5.ownBlock = some g → w1.heap.size ≤ g ∧ g < wr.heap.size := fun g hg => hown.lt g hg
  have hA : Below wr.heap.size wr ((w5.alloc (.cells #[.int .i64 c.2.size, .slice pb c.2.parts.length kb] 100)).alloc o) := (h5.alloc s5 _).alloc (by simp; omega) o
  have k7 : ∀ (k : Nat) (ob : Obj), ((w5.alloc (.cells #[.int .i64 c.2.size, .slice pb c.2.parts.length kb] 100)).alloc o).heap[k]? = some ob → u5.ownBlock ≠ some k → w7.heap[k]? = some ob := fun k ob hk hne => (hg.block k (heap_lt hk) (fun e => hne e.symm)).trans hk
  have a1 : w7.heap[w.heap.size]? = some (.cells #[.int .i64 ls, lv] 100 (0, 0)) := k7 _ _ (Below.heap hA (Nat.le_refl _) hlh) (fun e => by have := (hbk _ e).1; omega)
  have a2 : w7.heap[w5.heap.size]? = some (.cells #[.int .i64 c.2.size, .slice pb c.2.parts.length kb] 100 (0, 0)) := k7 _ _ (heap_old (heap_new w5 _) o) (fun e => by have := (hbk _ e).2; omega)
  have F7 : Frame (u5.ownBlock.toList) wr w7 := ((Frame.of_below hA _).trans ⟨hg.os, hg.tape, hg.output, hg.size, fun k hk hne => hg.block k hk (fun e => hne (by simp [← e]))⟩ (fun x hx => .inl hx))
  refine ⟨a1, a2, by omega, row_kept ho (fun k ob hk hb => ?_), ⟨c.1, c.2.size, .slice pb c.2.parts.length kb, rfl, ?_, rfl, fun d hd => ?_⟩, ?_, ?_⟩
  · have hne : k ≠ w.heap.size := fun e => by have := (ho.lt k hb).1; omega
    exact (heap_set_ne _ hne).trans ((heap_set_ne _ hne).trans hk)
  · have h9 : ((w7.setCell ⟨w.heap.size, 0, none⟩ (.int .i64 c.2.size)).setCell ⟨w.heap.size, 1, none⟩ (.slice pb c.2.parts.length kb)).heap[w.heap.size]? = some (.cells #[.int .i64 c.2.size, .slice pb c.2.parts.length kb] 100 (0, 0)) := by
      simpa using setAt (setAt a1 0 (.int .i64 c.2.size)) 1 (.slice pb c.2.parts.length kb)
    exact h9
  · cases hd
    refine ⟨rfl, rfl, hsl.kept (fun k arr hk => ?_)⟩
    have hk2 : w7.heap[k]? = some (.cells arr 134 (0, 0)) := k7 k _ (heap_old (heap_old hk _) o) (fun e => by
      obtain ⟨ar, ha⟩ := own_heapW hown e
      have := Below.heap h5 (Nat.le_refl _) ha
      rw [hk] at this
      injection this with this
      injection this with _ h
      exact absurd h (by decide))
    have hne : k ≠ w.heap.size := fun e => by
      rw [e, a1] at hk2
      injection hk2 with hk2
      injection hk2 with _ h
      exact absurd h (by decide)
    exact (heap_set_ne _ hne).trans ((heap_set_ne _ hne).trans hk2)
  · have f1 : Frame [w.heap.size] w1 w7 := ⟨by rw [F7.os, hfr.os], by rw [F7.tape, hfr.tape], by rw [F7.output, hfr.output], by have := F7.size; omega, fun k hk hne => by
      rw [F7.block k (by omega) (fun hm => by simp at hm; have := (hbk _ hm).1; omega), hfr.block k hk hne]⟩
    exact ((f1.setCell (p := ⟨w.heap.size, 0, none⟩) (.inl (by simp)) _).setCell (p := ⟨w.heap.size, 1, none⟩) (.inl (by simp)) _).drew
  · have hbs := hbw.size
    have b1 : Below w.heap.size w w7 := ((hbw.trans (hA.mono hbs))).grown hg (by have := hA.size; omega) (fun k hk => by have := (hbk k hk).1; omega)
    exact ((b1.setCell (p := ⟨w.heap.size, 0, none⟩) (Nat.le_refl _) _).setCell (p := ⟨w.heap.size, 1, none⟩) (Nat.le_refl _) _).drew
set_option maxRecDepth 100000 in
set_option maxHeartbeats 4000000 in
theorem of_any (w : World) (h : Nat) (pv sv : Value) (xs : List StX) (H : HistAt w h pv sv xs) (id : Int) (hid : 0 ≤ id ∧ id ≤ 4611686018427387904) (os : List Seen) (hlen : os.length = xs.length) (hos : ∀ (j : Nat) y o, xs[j]? = some y → os[j]? = some o → seenOk y.x id o) (hn : versNice none os) :
    Calls Tryz.prog 45 #[.pointer (some ⟨h, 0, none⟩), .int .i64 id] w fun e w' => ∃ a cap, e = .returned (.slice a (versN none os) cap) ∧ Below w.heap.size w w' := by
  have hf := H.few
  have B1 : Hid (∀ o, Below w.heap.size w (w.alloc o)) := Lib.hid (fun o => (Below.refl _ _).alloc (Nat.le_refl _) o)
  have HH := Lib.hid (fun W (hW : Below w.heap.size w W) => H.below hW)
  have HPT := Lib.hid (fun W (hW : Below w.heap.size w W) => histPoints_any W h pv sv xs (H.below hW))
  have HOS := Lib.hid hos
  have HN := Lib.hid hn
  obtain ⟨i0, hi, hz0, hz1, hz2⟩ := info_parts info176
  have HPL := Lib.hid (fun (j : Nat) (y : StX) (hj : xs[j]? = some y) (bd : BodyA) (hS : y.x.S id = some bd) => show bd.parts.length ≤ 1000 by obtain ⟨-, -, -, -, hfew⟩ := (H.each y (List.mem_of_getElem? hj)).at'.bodies.held id bd hS; exact hfew)
  clear H hos hn
  go_enter Tryz.func45, Tryz.ntmps45
  go_wp2_with fail
  go_step3
  go_wp2_with fail
  go_step3
  go_wp2_with (go_at_call 40; refine (HPT.out _ (B1.out _)).mono ?_; rintro e w1 ⟨v, rfl, hpv, hq⟩; obtain ⟨pa, pk, rfl, p1, p2, -⟩ := pts_cells hpv; have HPV := Lib.hid hpv; have Q1 := Lib.hid ((B1.out (.cells #[.int .i64 0, .slice none 0 0] 100)).trans (hq.mono (B1.out (.cells #[.int .i64 0, .slice none 0 0] 100)).size)); have hN := Lib.hid (Below.heap hq (Nat.le_refl _) (heap_new w (.cells #[.int .i64 0, .slice none 0 0] 100))); clear hq hpv)
  have hs1 := Q1.out.size
  have hw1 := heap_lt hN.out
  go_loopw [5, 6, 8, 10, 11, 12, 13, 18] (fun t5 t6 t8 _ _ _ _ ti wr => ∃ (k cnt : Nat) (last : Seen) (ys : List Value), k ≤ xs.length ∧ cnt ≤ k ∧ ti = .int .i64 k ∧ t8 = .bool last.isSome ∧ Hid (wr.ownsRow w1.heap.size 176 5 t5 cnt ys ∧ LastV wr w.heap.size last t6 ∧ cnt + versN last (os.drop k) = versN none os ∧ versNice last (os.drop k) ∧ Frame [w.heap.size] w1 wr ∧ Below w.heap.size w wr)) (fun _ _ _ _ _ _ _ i _ => xs.length - (intOf i).toNat)
  case atStart =>
    refine ⟨0, 0, none, [], by omega, by omega, rfl, rfl, Lib.hid ⟨World.ownsRow_nil _ _ _ _, ⟨_, _, _, rfl, hN.out, rfl, fun c hc => by cases hc⟩, by simp, by simpa using HN.out, Frame.refl _ _, Q1.out⟩⟩
  case round =>
    obtain ⟨k, cnt, last, ys, hk, hck, rfl, rfl, hall⟩ := hrel
    obtain ⟨hown, hlast, hcnt, hnice, hfr, hbw⟩ := hall.out
    by_cases hlt : k < xs.length
    · obtain ⟨y, hy⟩ : ∃ y, xs[k]? = some y := ⟨_, List.getElem?_eq_getElem hlt⟩
      obtain ⟨o, ho⟩ : ∃ o, os[k]? = some o := ⟨_, List.getElem?_eq_getElem (by omega)⟩
      have hso := HOS.out k y o hy ho
      have hdrop : os.drop k = o :: os.drop (k + 1) := by
        obtain ⟨h1, h2⟩ := List.getElem?_eq_some_iff.1 ho
        rw [List.drop_eq_getElem_cons h1, h2]
      rw [hdrop] at hcnt hnice
      have hpw : PtsV wr (.slice pa xs.length pk) xs.length := HPV.out.kept (fun j arr hj => hfr.heap hj (by
        simp
        intro e
        rw [e, hN.out] at hj
        injection hj with hj
        injection hj with _ h
        exact absurd h (by decide)))
      obtain ⟨pa2, pk2, e2, -, -, p3⟩ := pts_cells hpw
      simp only [Value.slice.injEq] at e2
      obtain ⟨rfl, -, rfl⟩ := e2
      obtain ⟨pg, poff, rfl, hpg, c0, c1, c2⟩ := p3 k hlt
      have dk : (k : Int) < xs.length := by omega
      have hbs := hbw.size
      have HW := Lib.hid hbw
      have HOWN := Lib.hid hown
      have HLAST := Lib.hid hlast
      have HCNT := Lib.hid hcnt
      have HNICE := Lib.hid hnice
      have HFR := Lib.hid hfr
      have HSO := Lib.hid hso
      have HY := Lib.hid hy
      clear hown hlast hcnt hnice hfr hso hy ho p3 hpw hall
      cases o with
      | none =>
        have hsf := fun (W : World) (p : Addr) => run_store Tryz.prog W p (.float .f64 0) .plain rfl
        have LK : Hid (∀ W, Below wr.heap.size wr W → Calls Tryz.prog 88 #[.pointer (some ⟨h, 0, none⟩), .int .i64 ((k : Int) + 1), .int .i64 id] W fun e w' => e = .returned (.tuple #[.string ⟨#[]⟩, .agg #[.int .i64 0, .slice none 0 0], .bool false]) ∧ Below W.heap.size W w') := Lib.hid (fun W hW => look_none W h pv sv xs (HH.out W (HW.out.trans (hW.mono HW.out.size))) k y HY.out id HSO.out hid)
        go_wp2_with (go_at_call 88; refine (LK.out _ ((Below.refl _ _).alloc (Nat.le_refl _) _)).mono ?_; rintro e w5 ⟨rfl, hq⟩; have Q5 := Lib.hid (((Below.refl wr.heap.size wr).alloc (Nat.le_refl _) (.cells #[.int .i64 ((k : Int) + 1), .float .f64 0, .string ⟨#[]⟩] 52)).trans (hq.mono (by simp))); clear hq)
        have Q6 : Below wr.heap.size wr (w5.alloc (.cells #[.int .i64 0, .slice none 0 0] 100)) := Q5.out.alloc Q5.out.size _
        obtain ⟨lp, ls, lv, e6, lh, l1, -⟩ := HLAST.out
        refine ⟨⟨k + 1, cnt, none, ys, by omega, by omega, by go_num, rfl, Lib.hid ⟨own_belowN HOWN.out Q6, ⟨lp, ls, lv, e6, Below.heap Q6 (Nat.le_refl _) lh, l1, fun c hc => by cases hc⟩, by simpa [versN] using HCNT.out, by simpa [versNice] using HNICE.out, HFR.out.trans (Frame.of_below Q6 [w.heap.size]) (fun x hx => .inl hx), HW.out.trans (Q6.mono HW.out.size)⟩⟩, by simp [intOf]; omega⟩
      | some c =>
        have hsf := fun (W : World) (p : Addr) => run_store Tryz.prog W p (.float .f64 0) .plain rfl
        have LK : Hid (∀ W, Below wr.heap.size wr W → Calls Tryz.prog 88 #[.pointer (some ⟨h, 0, none⟩), .int .i64 ((k : Int) + 1), .int .i64 id] W fun e w' => ∃ v, e = .returned (.tuple #[.string c.1, v, .bool true]) ∧ BodyV w' v c.2 ∧ Below W.heap.size W w') := Lib.hid (fun W hW => by
          refine (look_seen W h pv sv xs (HH.out W (HW.out.trans (hW.mono HW.out.size))) k y HY.out id c.2 HSO.out.1 hid HSO.out.2.1).mono ?_
          rintro e w' ⟨p, v, rfl, hp, h1, h2⟩
          exact ⟨v, by rw [HSO.out.2.2 p hp], h1, h2⟩)
        obtain ⟨lp, ls, lv, rfl, lh, l1, lc⟩ := HLAST.out
        have hsw1 : w.heap.size < w1.heap.size := hw1
        cases last with
        | none =>
          go_wp2_with (first | (at_builtin; refine wp_append_sl rfl _ _ 58 rfl w1.heap.size 176 i0 _ 5 56 Tryz.underlying58 hi hz0 hz1 hz2 rfl (by decide) _ cnt _ rfl (OA.out _) _ 1 _ rfl (Sl.block' (HN6.out (.cells #[.int .i64 ((k : Int) + 1), .float .f64 0, .string ⟨#[]⟩, .string c.1, .int .i64 c.2.size] 176)) rfl (by simp [Value.oneCell']) (by decide) (by decide)) (by omega) (by decide) (HS6.out _) ?_; intro v7 w7 hown7 hgr7 _ _; obtain ⟨r1, r2, r3, r4⟩ := of_close HOWN.out lh hw1 HFR.out HW.out Q5.out HSL.out _ hgr7 hown7; have R1 := Lib.hid r1; have R2 := Lib.hid r2; have CL := Lib.hid r4; clear hown7 hgr7 r1 r2 r4) | (go_at_call 88; refine (LK.out _ ((Below.refl _ _).alloc (Nat.le_refl _) _)).mono ?_; rintro e w5 ⟨v, rfl, hbv, hq⟩; obtain ⟨ss, rfl, hsl⟩ := hbv; obtain ⟨pb, kb, rfl, -, -⟩ := parts_cells hsl; have HSL := Lib.hid hsl; have hE := heap_old (Below.heap hq (Nat.le_refl _) (heap_new wr (.cells #[.int .i64 ((k : Int) + 1), .float .f64 0, .string ⟨#[]⟩] 52))) (.cells #[.int .i64 c.2.size, .slice pb c.2.parts.length kb] 100); have e0 := cellAt hE 0; have e1 := cellAt hE 1; have e2 := cellAt hE 2; simp only [List.getElem?_toArray, List.getElem?_cons_zero, List.getElem?_cons_succ] at e0 e1 e2; have Q5 := Lib.hid (((Below.refl wr.heap.size wr).alloc (Nat.le_refl _) (.cells #[.int .i64 ((k : Int) + 1), .float .f64 0, .string ⟨#[]⟩] 52)).trans (hq.mono (by simp))); have OA : Hid (∀ o, ((w5.alloc (.cells #[.int .i64 c.2.size, .slice pb c.2.parts.length kb] 100)).alloc o).ownsRow w1.heap.size 176 5 u5 cnt ys) := Lib.hid (fun o => own_belowN HOWN.out ((Q5.out.alloc Q5.out.size _).alloc (by have := Q5.out.size; simp; omega) o)); have HN6 : Hid (∀ o, ((w5.alloc (.cells #[.int .i64 c.2.size, .slice pb c.2.parts.length kb] 100)).alloc o).heap[w5.heap.size + 1]? = some o) := Lib.hid (fun o => by have := heap_new (w5.alloc (.cells #[.int .i64 c.2.size, .slice pb c.2.parts.length kb] 100)) o; simpa using this); have HS6 : Hid (∀ o, w1.heap.size ≤ ((w5.alloc (.cells #[.int .i64 c.2.size, .slice pb c.2.parts.length kb] 100)).alloc o).heap.size) := Lib.hid (fun o => by have := Q5.out.size; have := HFR.out.size; simp; omega); clear hq hsl hE))
          have z2 := heap_lt R2.out
          have f0 := frozenAt R1.out 0
          have f1 := frozenAt R1.out 1
          have y0 := cellAt R1.out 0
          have y1 := cellAt R1.out 1
          simp only [List.getElem?_toArray, List.getElem?_cons_zero, List.getElem?_cons_succ] at y0 y1
          have R3 : Hid (((w7.setCell ⟨w.heap.size, 0, none⟩ (.int .i64 c.2.size)).setCell ⟨w.heap.size, 1, none⟩ (.slice pb c.2.parts.length kb)).heap[w5.heap.size]? = some (.cells #[.int .i64 c.2.size, .slice pb c.2.parts.length kb] 100 (0, 0))) := Lib.hid ((heap_set_ne _ r3).trans ((heap_set_ne _ r3).trans R2.out))
          have HK : Hid (∀ W : World, W.heap[w5.heap.size]? = some (.cells #[.int .i64 c.2.size, .slice pb c.2.parts.length kb] 100 (0, 0)) → W.cell? ⟨w5.heap.size, 0, none⟩ = some (.int .i64 c.2.size) ∧ W.cell? ⟨w5.heap.size, 1, none⟩ = some (.slice pb c.2.parts.length kb)) := Lib.hid (fun W h => ⟨cellAt h 0, cellAt h 1⟩)
          go_region_held3 (fun W => W.cell? ⟨w5.heap.size, 0, none⟩ = some (.int .i64 c.2.size) ∧ W.cell? ⟨w5.heap.size, 1, none⟩ = some (.slice pb c.2.parts.length kb)) (first | exact HK.out _ R2.out | exact HK.out _ R3.out) (first | fail)
          go_wp2_with fail
          have e10 : versN none (some c :: os.drop (k + 1)) = versN (some c) (os.drop (k + 1)) + 1 := by
            rw [versN_cons, if_neg (by simp)]
          exact ⟨⟨k + 1, cnt + 1, some c, _, by omega, by omega, by go_num, rfl, Lib.hid ⟨CL.out.1, CL.out.2.1, by have := HCNT.out; rw [e10] at this; omega, HNICE.out.2, CL.out.2.2.1, CL.out.2.2.2⟩⟩, by simp [intOf]; omega⟩
        | some d =>
          obtain ⟨rfl, rfl, lsl⟩ := lc d rfl
          by_cases hpe : c.1 = d.1
          · by_cases hse : c.2.size = d.2.size
            · have hdc := HNICE.out.1 d rfl hpe.symm hse.symm
              subst hdc
              have HLV := Lib.hid lsl
              obtain ⟨la, lk, rfl, -, -⟩ := parts_cells lsl
              clear lsl
              have hcp : (d.1.toList == d.1.toList) = true := by simp
              clear hpe hse
              have hpn : d.2.parts.length ≤ 1000000 := by have := HPL.out k y HY.out d.2 HSO.out.1; omega
              go_wp2_with (first | (go_at_call 89; refine (equal_same _ _ _ d.2.parts (HSL.out.below ((Below.refl _ _).alloc (Nat.le_refl _) _)) ((HLV.out.below Q5.out).below ((Below.refl _ _).alloc (Nat.le_refl _) _)) (by omega)).mono ?_; rintro e w9 ⟨rfl, hq9⟩; have Q9 := Lib.hid (((Q5.out.alloc Q5.out.size _)).trans (hq9.mono (by have := Q5.out.size; simp; omega))); clear hq9) | (go_at_call 88; refine (LK.out _ ((Below.refl _ _).alloc (Nat.le_refl _) _)).mono ?_; rintro e w5 ⟨v, rfl, hbv, hq⟩; obtain ⟨ss, rfl, hsl⟩ := hbv; obtain ⟨pb, kb, rfl, -, -⟩ := parts_cells hsl; have HSL := Lib.hid hsl; have hE := heap_old (Below.heap hq (Nat.le_refl _) (heap_new wr (.cells #[.int .i64 ((k : Int) + 1), .float .f64 0, .string ⟨#[]⟩] 52))) (.cells #[.int .i64 d.2.size, .slice pb d.2.parts.length kb] 100); have e0 := cellAt hE 0; have e1 := cellAt hE 1; have e2 := cellAt hE 2; simp only [List.getElem?_toArray, List.getElem?_cons_zero, List.getElem?_cons_succ] at e0 e1 e2; have Q5 := Lib.hid (((Below.refl wr.heap.size wr).alloc (Nat.le_refl _) (.cells #[.int .i64 ((k : Int) + 1), .float .f64 0, .string ⟨#[]⟩] 52)).trans (hq.mono (by simp))); have OA : Hid (∀ o, ((w5.alloc (.cells #[.int .i64 d.2.size, .slice pb d.2.parts.length kb] 100)).alloc o).ownsRow w1.heap.size 176 5 u5 cnt ys) := Lib.hid (fun o => own_belowN HOWN.out ((Q5.out.alloc Q5.out.size _).alloc (by have := Q5.out.size; simp; omega) o)); have HN6 : Hid (∀ o, ((w5.alloc (.cells #[.int .i64 d.2.size, .slice pb d.2.parts.length kb] 100)).alloc o).heap[w5.heap.size + 1]? = some o) := Lib.hid (fun o => by have := heap_new (w5.alloc (.cells #[.int .i64 d.2.size, .slice pb d.2.parts.length kb] 100)) o; simpa using this); have HS6 : Hid (∀ o, w1.heap.size ≤ ((w5.alloc (.cells #[.int .i64 d.2.size, .slice pb d.2.parts.length kb] 100)).alloc o).heap.size) := Lib.hid (fun o => by have := Q5.out.size; have := HFR.out.size; simp; omega); (have hL := heap_old (Below.heap Q5.out (Nat.le_refl _) lh) (.cells #[.int .i64 d.2.size, .slice pb d.2.parts.length kb] 100)); have l0 := cellAt hL 0; have l1 := cellAt hL 1; simp only [List.getElem?_toArray, List.getElem?_cons_zero, List.getElem?_cons_succ] at l0 l1; clear hq hsl hE hL))
              exact ⟨⟨k + 1, cnt, some d, ys, by omega, by omega, by go_num, rfl, Lib.hid ⟨own_belowN HOWN.out Q9.out, ⟨_, _, _, rfl, Below.heap Q9.out (Nat.le_refl _) lh, rfl, fun c hc => by cases hc; exact ⟨rfl, rfl, HLV.out.below Q9.out⟩⟩, by have := HCNT.out; rw [versN_cons, if_pos rfl] at this; exact this, HNICE.out.2, HFR.out.trans (Frame.of_below Q9.out [w.heap.size]) (fun x hx => .inl hx), HW.out.trans (Q9.out.mono HW.out.size)⟩⟩, by simp [intOf]; omega⟩
            · have hdc : ¬ ((some d : Seen) = some c) := fun h => hse (by injection h with h; rw [h])
              have hcp : (c.1.toList == d.1.toList) = true := by rw [hpe]; simp
              clear hpe
              go_wp2_with (first | (at_builtin; refine wp_append_sl rfl _ _ 58 rfl w1.heap.size 176 i0 _ 5 56 Tryz.underlying58 hi hz0 hz1 hz2 rfl (by decide) _ cnt _ rfl (OA.out _) _ 1 _ rfl (Sl.block' (HN6.out (.cells #[.int .i64 ((k : Int) + 1), .float .f64 0, .string ⟨#[]⟩, .string c.1, .int .i64 c.2.size] 176)) rfl (by simp [Value.oneCell']) (by decide) (by decide)) (by omega) (by decide) (HS6.out _) ?_; intro v7 w7 hown7 hgr7 _ _; obtain ⟨r1, r2, r3, r4⟩ := of_close HOWN.out lh hw1 HFR.out HW.out Q5.out HSL.out _ hgr7 hown7; have R1 := Lib.hid r1; have R2 := Lib.hid r2; have CL := Lib.hid r4; clear hown7 hgr7 r1 r2 r4) | (go_at_call 88; refine (LK.out _ ((Below.refl _ _).alloc (Nat.le_refl _) _)).mono ?_; rintro e w5 ⟨v, rfl, hbv, hq⟩; obtain ⟨ss, rfl, hsl⟩ := hbv; obtain ⟨pb, kb, rfl, -, -⟩ := parts_cells hsl; have HSL := Lib.hid hsl; have hE := heap_old (Below.heap hq (Nat.le_refl _) (heap_new wr (.cells #[.int .i64 ((k : Int) + 1), .float .f64 0, .string ⟨#[]⟩] 52))) (.cells #[.int .i64 c.2.size, .slice pb c.2.parts.length kb] 100); have e0 := cellAt hE 0; have e1 := cellAt hE 1; have e2 := cellAt hE 2; simp only [List.getElem?_toArray, List.getElem?_cons_zero, List.getElem?_cons_succ] at e0 e1 e2; have Q5 := Lib.hid (((Below.refl wr.heap.size wr).alloc (Nat.le_refl _) (.cells #[.int .i64 ((k : Int) + 1), .float .f64 0, .string ⟨#[]⟩] 52)).trans (hq.mono (by simp))); have OA : Hid (∀ o, ((w5.alloc (.cells #[.int .i64 c.2.size, .slice pb c.2.parts.length kb] 100)).alloc o).ownsRow w1.heap.size 176 5 u5 cnt ys) := Lib.hid (fun o => own_belowN HOWN.out ((Q5.out.alloc Q5.out.size _).alloc (by have := Q5.out.size; simp; omega) o)); have HN6 : Hid (∀ o, ((w5.alloc (.cells #[.int .i64 c.2.size, .slice pb c.2.parts.length kb] 100)).alloc o).heap[w5.heap.size + 1]? = some o) := Lib.hid (fun o => by have := heap_new (w5.alloc (.cells #[.int .i64 c.2.size, .slice pb c.2.parts.length kb] 100)) o; simpa using this); have HS6 : Hid (∀ o, w1.heap.size ≤ ((w5.alloc (.cells #[.int .i64 c.2.size, .slice pb c.2.parts.length kb] 100)).alloc o).heap.size) := Lib.hid (fun o => by have := Q5.out.size; have := HFR.out.size; simp; omega); (have hL := heap_old (Below.heap Q5.out (Nat.le_refl _) lh) (.cells #[.int .i64 c.2.size, .slice pb c.2.parts.length kb] 100)); have l0 := cellAt hL 0; have l1 := cellAt hL 1; simp only [List.getElem?_toArray, List.getElem?_cons_zero, List.getElem?_cons_succ] at l0 l1; clear hq hsl hE hL))
              have z2 := heap_lt R2.out
              have f0 := frozenAt R1.out 0
              have f1 := frozenAt R1.out 1
              have y0 := cellAt R1.out 0
              have y1 := cellAt R1.out 1
              simp only [List.getElem?_toArray, List.getElem?_cons_zero, List.getElem?_cons_succ] at y0 y1
              have R3 : Hid (((w7.setCell ⟨w.heap.size, 0, none⟩ (.int .i64 c.2.size)).setCell ⟨w.heap.size, 1, none⟩ (.slice pb c.2.parts.length kb)).heap[w5.heap.size]? = some (.cells #[.int .i64 c.2.size, .slice pb c.2.parts.length kb] 100 (0, 0))) := Lib.hid ((heap_set_ne _ r3).trans ((heap_set_ne _ r3).trans R2.out))
              have HK : Hid (∀ W : World, W.heap[w5.heap.size]? = some (.cells #[.int .i64 c.2.size, .slice pb c.2.parts.length kb] 100 (0, 0)) → W.cell? ⟨w5.heap.size, 0, none⟩ = some (.int .i64 c.2.size) ∧ W.cell? ⟨w5.heap.size, 1, none⟩ = some (.slice pb c.2.parts.length kb)) := Lib.hid (fun W h => ⟨cellAt h 0, cellAt h 1⟩)
              go_region_held3 (fun W => W.cell? ⟨w5.heap.size, 0, none⟩ = some (.int .i64 c.2.size) ∧ W.cell? ⟨w5.heap.size, 1, none⟩ = some (.slice pb c.2.parts.length kb)) (first | exact HK.out _ R2.out | exact HK.out _ R3.out) (first | fail)
              go_wp2_with fail
              have e10 : versN (some d) (some c :: os.drop (k + 1)) = versN (some c) (os.drop (k + 1)) + 1 := by
                rw [versN_cons, if_neg hdc]
              exact ⟨⟨k + 1, cnt + 1, some c, _, by omega, by omega, by go_num, rfl, Lib.hid ⟨CL.out.1, CL.out.2.1, by have := HCNT.out; rw [e10] at this; omega, HNICE.out.2, CL.out.2.2.1, CL.out.2.2.2⟩⟩, by simp [intOf]; omega⟩
          · have hdc : ¬ ((some d : Seen) = some c) := fun h => hpe (by injection h with h; rw [h])
            have hcp : (c.1.toList == d.1.toList) = false := by simpa using fun h => hpe (toListB_inj h)
            go_wp2_with (first | (at_builtin; refine wp_append_sl rfl _ _ 58 rfl w1.heap.size 176 i0 _ 5 56 Tryz.underlying58 hi hz0 hz1 hz2 rfl (by decide) _ cnt _ rfl (OA.out _) _ 1 _ rfl (Sl.block' (HN6.out (.cells #[.int .i64 ((k : Int) + 1), .float .f64 0, .string ⟨#[]⟩, .string c.1, .int .i64 c.2.size] 176)) rfl (by simp [Value.oneCell']) (by decide) (by decide)) (by omega) (by decide) (HS6.out _) ?_; intro v7 w7 hown7 hgr7 _ _; obtain ⟨r1, r2, r3, r4⟩ := of_close HOWN.out lh hw1 HFR.out HW.out Q5.out HSL.out _ hgr7 hown7; have R1 := Lib.hid r1; have R2 := Lib.hid r2; have CL := Lib.hid r4; clear hown7 hgr7 r1 r2 r4) | (go_at_call 88; refine (LK.out _ ((Below.refl _ _).alloc (Nat.le_refl _) _)).mono ?_; rintro e w5 ⟨v, rfl, hbv, hq⟩; obtain ⟨ss, rfl, hsl⟩ := hbv; obtain ⟨pb, kb, rfl, -, -⟩ := parts_cells hsl; have HSL := Lib.hid hsl; have hE := heap_old (Below.heap hq (Nat.le_refl _) (heap_new wr (.cells #[.int .i64 ((k : Int) + 1), .float .f64 0, .string ⟨#[]⟩] 52))) (.cells #[.int .i64 c.2.size, .slice pb c.2.parts.length kb] 100); have e0 := cellAt hE 0; have e1 := cellAt hE 1; have e2 := cellAt hE 2; simp only [List.getElem?_toArray, List.getElem?_cons_zero, List.getElem?_cons_succ] at e0 e1 e2; have Q5 := Lib.hid (((Below.refl wr.heap.size wr).alloc (Nat.le_refl _) (.cells #[.int .i64 ((k : Int) + 1), .float .f64 0, .string ⟨#[]⟩] 52)).trans (hq.mono (by simp))); have OA : Hid (∀ o, ((w5.alloc (.cells #[.int .i64 c.2.size, .slice pb c.2.parts.length kb] 100)).alloc o).ownsRow w1.heap.size 176 5 u5 cnt ys) := Lib.hid (fun o => own_belowN HOWN.out ((Q5.out.alloc Q5.out.size _).alloc (by have := Q5.out.size; simp; omega) o)); have HN6 : Hid (∀ o, ((w5.alloc (.cells #[.int .i64 c.2.size, .slice pb c.2.parts.length kb] 100)).alloc o).heap[w5.heap.size + 1]? = some o) := Lib.hid (fun o => by have := heap_new (w5.alloc (.cells #[.int .i64 c.2.size, .slice pb c.2.parts.length kb] 100)) o; simpa using this); have HS6 : Hid (∀ o, w1.heap.size ≤ ((w5.alloc (.cells #[.int .i64 c.2.size, .slice pb c.2.parts.length kb] 100)).alloc o).heap.size) := Lib.hid (fun o => by have := Q5.out.size; have := HFR.out.size; simp; omega); (have hL := heap_old (Below.heap Q5.out (Nat.le_refl _) lh) (.cells #[.int .i64 c.2.size, .slice pb c.2.parts.length kb] 100)); have l0 := cellAt hL 0; have l1 := cellAt hL 1; simp only [List.getElem?_toArray, List.getElem?_cons_zero, List.getElem?_cons_succ] at l0 l1; clear hq hsl hE hL))
            have z2 := heap_lt R2.out
            have f0 := frozenAt R1.out 0
            have f1 := frozenAt R1.out 1
            have y0 := cellAt R1.out 0
            have y1 := cellAt R1.out 1
            simp only [List.getElem?_toArray, List.getElem?_cons_zero, List.getElem?_cons_succ] at y0 y1
            have R3 : Hid (((w7.setCell ⟨w.heap.size, 0, none⟩ (.int .i64 c.2.size)).setCell ⟨w.heap.size, 1, none⟩ (.slice pb c.2.parts.length kb)).heap[w5.heap.size]? = some (.cells #[.int .i64 c.2.size, .slice pb c.2.parts.length kb] 100 (0, 0))) := Lib.hid ((heap_set_ne _ r3).trans ((heap_set_ne _ r3).trans R2.out))
            have HK : Hid (∀ W : World, W.heap[w5.heap.size]? = some (.cells #[.int .i64 c.2.size, .slice pb c.2.parts.length kb] 100 (0, 0)) → W.cell? ⟨w5.heap.size, 0, none⟩ = some (.int .i64 c.2.size) ∧ W.cell? ⟨w5.heap.size, 1, none⟩ = some (.slice pb c.2.parts.length kb)) := Lib.hid (fun W h => ⟨cellAt h 0, cellAt h 1⟩)
            go_region_held3 (fun W => W.cell? ⟨w5.heap.size, 0, none⟩ = some (.int .i64 c.2.size) ∧ W.cell? ⟨w5.heap.size, 1, none⟩ = some (.slice pb c.2.parts.length kb)) (first | exact HK.out _ R2.out | exact HK.out _ R3.out) (first | fail)
            go_wp2_with fail
            have e10 : versN (some d) (some c :: os.drop (k + 1)) = versN (some c) (os.drop (k + 1)) + 1 := by
              rw [versN_cons, if_neg hdc]
            exact ⟨⟨k + 1, cnt + 1, some c, _, by omega, by omega, by go_num, rfl, Lib.hid ⟨CL.out.1, CL.out.2.1, by have := HCNT.out; rw [e10] at this; omega, HNICE.out.2, CL.out.2.2.1, CL.out.2.2.2⟩⟩, by simp [intOf]; omega⟩
    · have hke : k = xs.length := by omega
      subst hke
      have dk : ¬ ((xs.length : Int) < xs.length) := by omega
      rw [List.drop_of_length_le (by omega)] at hcnt
      simp only [versN, Nat.add_zero] at hcnt
      obtain ⟨oa, ok, hsh⟩ := own_shapeW hown
      subst hsh
      go_wp2
      go_ret
      exact ⟨oa, ok, by rw [← hcnt]; rfl, hbw⟩
end Go.Proofs.YtaonlcgneemimaaGreatDoor
