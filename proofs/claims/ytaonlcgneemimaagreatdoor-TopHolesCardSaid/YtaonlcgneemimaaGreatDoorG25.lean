/- TopHoles: the contracts of Y23, H5; no condition. -/
import Derived.Test.YtaonlcgneemimaaGreatDoorG24
import Derived.Test.YtaonlcgneemimaaGreatDoorG14
namespace Go.Proofs.YtaonlcgneemimaaGreatDoor
open Go.RowKit
/-- Blocks made since a world are no matter of its own. -/
theorem Frame.fresh {M : List Nat} {w w1 w2 : World} (h : Frame M w1 w2) (hb : Below w.heap.size w w1) (hM : ∀ k ∈ M, w.heap.size ≤ k) : Below w.heap.size w w2 := h.belowIf hb hM hb.size
/-- A fresh disk and a fresh repository. -/
theorem begin_any (w : World) (hg : ∃ m, w.cell? ⟨1, 0, none⟩ = some (.int .i64 m)) (w1 : World) (d l cb : Nat) (HD : DiskAt w1 d l cb 776 0) (hb : Below w.heap.size w w1) (h1 : w.heap.size ≤ d) (h2 : w.heap.size ≤ l) (h3 : w.heap.size ≤ cb) :
    Calls Tryz.prog 8 #[.pointer (some ⟨d, 0, none⟩)] w1 fun e w' => ∃ r X, e = .returned (.tuple #[.pointer (some ⟨r, 0, none⟩), .int .i64 0]) ∧ RepAt w' r X ∧ X.xs = [] ∧ X.its = [] ∧ X.P = [] ∧ NewEng X ∧ (∀ k ∈ X.mu r, w.heap.size ≤ k) ∧ (∀ k ∈ X.m1 r, w.heap.size ≤ k) ∧ Below w.heap.size w w' := by
  obtain ⟨m, hm⟩ := hg
  have hlt : 1 < w.heap.size := World.block_lt_of_cell? w ⟨1, 0, none⟩ hm
  refine (repFormat_any w1 d l cb 0 HD (by decide) ⟨by omega, by omega, by omega⟩ ⟨m, (hb.cell (p := ⟨1, 0, none⟩) hlt).trans hm⟩).mono ?_
  rintro e w' ⟨r, X, rfl, N⟩
  have hs := hb.size
  refine ⟨r, X, rfl, N.rep, N.xs, N.its, N.P, ⟨N.dn, N.number, N.k, N.ssJ, N.ssC, N.nJ, N.nC⟩, fun k hk => ?_, fun k hk => Nat.le_trans hs (N.own1 k hk), N.fr.fresh hb (by simp only [List.mem_cons, List.not_mem_nil, or_false]; rintro k (rfl | rfl | rfl) <;> assumption)⟩
  rcases N.own k hk with rfl | rfl | rfl | h <;> omega
def pXY : List Int := [120, 121]
theorem pXY_byte : ByteL pXY := by unfold ByteL pXY; decide
theorem putXY : putBytes [] pXY 2 = [0, 0, 120, 121] := by decide
set_option maxRecDepth 100000 in
set_option maxHeartbeats 4000000 in
theorem awake_any (w : World) (hg : ∃ m, w.cell? ⟨1, 0, none⟩ = some (.int .i64 m)) :
    Calls Tryz.prog 6 #[] w fun e w' => e = .returned (.bool true) ∧ Below w.heap.size w w' := by
  have D := Lib.hid (newDisk_any w)
  have F : Hid (∀ (w1 : World) (d l cb : Nat), Hid (DiskAt w1 d l cb 776 0) → Hid (Below w.heap.size w w1) → w.heap.size ≤ d → w.heap.size ≤ l → w.heap.size ≤ cb → Calls Tryz.prog 8 #[.pointer (some ⟨d, 0, none⟩)] w1 fun e w' => ∃ r X, e = .returned (.tuple #[.pointer (some ⟨r, 0, none⟩), .int .i64 0]) ∧ Hid (RepAt w' r X ∧ X.xs = [] ∧ X.its = [] ∧ X.P = [] ∧ NewEng X) ∧ Hid ((∀ k ∈ X.mu r, w.heap.size ≤ k) ∧ (∀ k ∈ X.m1 r, w.heap.size ≤ k)) ∧ Hid (Below w.heap.size w w')) := Lib.hid (fun w1 d l cb hd hb h1 h2 h3 => by
    refine (begin_any w hg w1 d l cb hd.out hb.out h1 h2 h3).mono ?_
    rintro e w' ⟨r, X, a1, a2, a3, a4, a5, a6, a7, a8, a9⟩
    exact ⟨r, X, a1, Lib.hid ⟨a2, a3, a4, a5, a6⟩, Lib.hid ⟨a7, a8⟩, Lib.hid a9⟩)
  have CR : Hid (∀ (W : World) (r : Nat) (X : RepX), Hid (RepAt W r X ∧ X.xs = [] ∧ X.its = [] ∧ X.P = [] ∧ NewEng X) → Hid ((∀ k ∈ X.mu r, w.heap.size ≤ k) ∧ (∀ k ∈ X.m1 r, w.heap.size ≤ k)) → Hid (Below w.heap.size w W) → Calls Tryz.prog 9 #[.pointer (some ⟨r, 0, none⟩), .agg #[.int .i64 1, .string ⟨#[47, 97]⟩, .string ⟨#[]⟩, .int .i64 0, .int .i64 0, .slice none 0 0]] W fun e w' => e = .returned (.tuple #[.int .i64 1, .int .i64 0]) ∧ ∃ X1, Hid (RepAt w' r X1 ∧ Scr 0 pXY X1 [] ∧ NewEng X1) ∧ Hid ((∀ k ∈ X1.mu r, w.heap.size ≤ k) ∧ (∀ k ∈ X1.m1 r, w.heap.size ≤ k)) ∧ Hid (Below w.heap.size w w')) := Lib.hid (fun W r X hX hk hb => by
    obtain ⟨a1, a2, a3, a4, a5⟩ := hX.out
    refine (scr_create W r X a1 0 pXY a2 a3 a4).mono ?_
    rintro e w' ⟨rfl, X1, N, S⟩
    exact ⟨rfl, X1, Lib.hid ⟨N.rep, S, a5.of N⟩, Lib.hid (by rw [N.mu, N.m1]; exact hk.out), Lib.hid (N.fr.fresh hb.out hk.out.2)⟩)
  have WR : Hid (∀ (W : World) (r g : Nat) (X : RepX), Hid (RepAt W r X ∧ Scr 0 pXY X [] ∧ NewEng X) → Hid ((∀ k ∈ X.mu r, w.heap.size ≤ k) ∧ (∀ k ∈ X.m1 r, w.heap.size ≤ k)) → Hid (Below w.heap.size w W) → Hid (W.heap[g]? = some (.cells #[.int .u8 120, .int .u8 121] 5 (2, 3))) → Calls Tryz.prog 9 #[.pointer (some ⟨r, 0, none⟩), .agg #[.int .i64 3, .string ⟨#[47, 97]⟩, .string ⟨#[]⟩, .int .i64 2, .int .i64 0, .slice (some ⟨g, 0, none⟩) 2 2]] W fun e w' => e = .returned (.tuple #[.int .i64 2, .int .i64 0]) ∧ ∃ X1, Hid (RepAt w' r X1 ∧ Scr 0 pXY X1 [[0, 0, 120, 121]] ∧ NewEng X1) ∧ Hid ((∀ k ∈ X1.mu r, w.heap.size ≤ k) ∧ (∀ k ∈ X1.m1 r, w.heap.size ≤ k)) ∧ Hid (Below w.heap.size w w')) := Lib.hid (fun W r g X hX hk hb hgd => by
    obtain ⟨a1, a2, a3⟩ := hX.out
    refine (scr_writeC W r X a1 0 pXY [] a2 (by simp) (some ⟨g, 0, none⟩) 2 (SlC.two hgd.out rfl rfl) pXY_byte (by decide) (by decide) 2 (by decide)).mono ?_
    rintro e w' ⟨rfl, X1, N, S⟩
    exact ⟨rfl, X1, Lib.hid ⟨N.rep, putXY ▸ S, a3.of N⟩, Lib.hid (by rw [N.mu, N.m1]; exact hk.out), Lib.hid (N.fr.fresh hb.out hk.out.2)⟩)
  have CM : Hid (∀ (W : World) (r : Nat) (X : RepX), Hid (RepAt W r X ∧ Scr 0 pXY X [[0, 0, 120, 121]] ∧ NewEng X) → Hid ((∀ k ∈ X.mu r, w.heap.size ≤ k) ∧ (∀ k ∈ X.m1 r, w.heap.size ≤ k)) → Hid (Below w.heap.size w W) → Calls Tryz.prog 10 #[.pointer (some ⟨r, 0, none⟩)] W fun e w' => e = .returned (.int .i64 0) ∧ ∃ X1, Hid (RepAt w' r X1 ∧ ScrDone 0 pXY X1 [[0, 0, 120, 121]]) ∧ Hid (Below w.heap.size w w')) := Lib.hid (fun W r X hX hk hb => by
    obtain ⟨a1, a2, a3⟩ := hX.out
    refine (scr_commit W r X a1 0 pXY _ a2 a3 (by simp)).mono ?_
    rintro e w' ⟨rfl, X2, b1, b2, b3⟩
    exact ⟨rfl, X2, Lib.hid ⟨b1, b3⟩, Lib.hid (b2.fresh hb.out hk.out.1)⟩)
  have RD : Hid (∀ (W : World) (r : Nat) (X : RepX), Hid (RepAt W r X ∧ ScrDone 0 pXY X [[0, 0, 120, 121]]) → Hid (Below w.heap.size w W) → Calls Tryz.prog 11 #[.pointer (some ⟨r, 0, none⟩), .int .i64 2, .string ⟨#[47, 97]⟩, .int .i64 1, .int .i64 9] W fun e w' => ∃ v', e = .returned (.tuple #[v', .int .i64 0]) ∧ Sl w' 5 1 v' 3 (u8s [0, 120, 121]) ∧ Hid (RepAt w' r X) ∧ Hid (X.xs.length = 2) ∧ Hid (Below w.heap.size w w')) := Lib.hid (fun W r X hX hb => by
    obtain ⟨a1, a2⟩ := hX.out
    refine (scr_read W r X a1 0 pXY _ a2 1 [0, 0, 120, 121] rfl 1 9 (by decide) (by decide) (by decide) (by decide)).mono ?_
    rintro e w' ⟨v', rfl, hs, hq⟩
    exact ⟨v', rfl, hs, Lib.hid (a1.below hq), Lib.hid a2.len, Lib.hid (hb.out.trans (hq.mono hb.out.size))⟩)
  have PT : Hid (∀ (W : World) (r : Nat) (X : RepX), Hid (RepAt W r X) → Hid (X.xs.length = 2) → Hid (Below w.heap.size w W) → Calls Tryz.prog 14 #[.pointer (some ⟨r, 0, none⟩)] W fun e w' => ∃ a cap, e = .returned (.slice a 2 cap) ∧ Hid (Below w.heap.size w w')) := Lib.hid (fun W r X hX hl hb => by
    refine (repPoints_any W r X hX.out).mono ?_
    rintro e w' ⟨v, rfl, hv, hq⟩
    rw [hl.out] at hv
    obtain ⟨a, cap, rfl, -⟩ := pts_cells hv
    exact ⟨a, cap, rfl, Lib.hid (hb.out.trans (hq.mono hb.out.size))⟩)
  have hss : strOfNums [0, 120, 121] = ⟨#[0, 120, 121]⟩ := by decide
  have hcc : ∀ W : World, (convert 33 33 (.slice (some ⟨W.heap.size, 0, none⟩) 2 2)).run Tryz.prog (W.alloc (.cells #[.int .u8 120, .int .u8 121] 5)) = .ok (.slice (some ⟨W.heap.size, 0, none⟩) 2 2) (W.alloc (.cells #[.int .u8 120, .int .u8 121] 5 (2, 3))) := fun W => Go.Lib.run_convert_bytes_const (P := Tryz.prog) W 33 5 #[.int .u8 120, .int .u8 121] 2 2 Tryz.underlying33 Tryz.underlying5
  clear hg
  go_enter Tryz.func6, Tryz.ntmps6
  go_wp2_with (first | (go_at_call 7; with_reducible refine D.out.mono ?_; rintro e1 w1 ⟨d, l, cb, rfl, hd, hq, h1, h2, h3⟩; have D1 := Lib.hid hd; have B1 := Lib.hid hq; clear hd hq) | (go_at_call 8; with_reducible refine (F.out w1 d l cb D1 B1 h1 h2 h3).mono ?_; rintro e1 w2 ⟨r, X, rfl, X2, K2, B2⟩) | (go_at_call 9; with_reducible refine (CR.out w2 r X X2 K2 B2).mono ?_; rintro e1 w3 ⟨rfl, X1, X3, K3, B3⟩) | (go_at_call 9; with_reducible refine (WR.out _ r _ X1 (Lib.hid ⟨X3.out.1.below (crc_below _ _), X3.out.2⟩) K3 (Lib.hid (B3.out.alloc B3.out.size _)) (Lib.hid (heap_new _ _))).mono ?_; rintro e1 w4 ⟨rfl, Xb, X4, K4, B4⟩) | (go_at_call 10; with_reducible refine (CM.out w4 r Xb X4 K4 B4).mono ?_; rintro e1 w5 ⟨rfl, Xc, X5, B5⟩) | (go_at_call 11; with_reducible refine (RD.out w5 r Xc X5 B5).mono ?_; rintro e1 w6 ⟨v', rfl, hs, X6, L6, B6⟩; have hcv := conv_sl hs; rw [hss] at hcv; obtain ⟨va, vc, rfl, -, -, -⟩ := hs.shape; clear hs) | (go_at_call 14; with_reducible refine (PT.out w6 r Xc X6 L6 B6).mono ?_; rintro e1 w7 ⟨pa, pc, rfl, B7⟩))
  go_ret
  exact ⟨rfl, B7.out⟩
end Go.Proofs.YtaonlcgneemimaaGreatDoor
namespace Go.Proofs.YtaonlcgneemimaaGreatDoor
open Go.RowKit
/-- An argument: a row of numbers of two bytes. -/
def ArgRow (w : World) (a : Option Addr) (len : Nat) (zs : List Int) : Prop := ∀ i, i < len → ∃ x : Addr, a = some x ∧ x.block < w.heap.size ∧ w.cell? (x.add i) = some (.int .u16 (zs.getD i 0)) ∧ 0 ≤ zs.getD i 0 ∧ zs.getD i 0 ≤ 65535
theorem HolI.more {w W w' : World} {r : Nat} {p : List Int} {ms : List (List Int)} {mv : Value} {l : List Int} {av : Value} {al : List (List Int)} (h : HolI w W r p ms mv l av al) (hb : Below W.heap.size W w') : HolI w w' r p ms mv l av al := by
  obtain ⟨X, h1, h2, h3, h4, h5, h6⟩ := h.rep
  exact ⟨⟨X, h1.below hb, h2, h3, h4, h5, h6⟩, own_below h.m hb, own_below h.all hb, h.below.trans (hb.mono h.below.size), h.one, h.lens⟩
def sliceLen : Value → Nat
  | .slice _ n _ => n
  | _ => 0
/-- A nought behind the bytes. -/
theorem HolI.nought {w W w3 : World} {r : Nat} {p : List Int} {ms : List (List Int)} {mv v3 : Value} {l : List Int} {n : Nat} {av : Value} {al : List (List Int)} (h : HolI w W r p ms mv (padB l n) av al) (hl : l.length ≤ n) (o : Obj) (hg : (W.alloc o).grownBy w3 mv.ownBlock) (ho : w3.ownsRow w.heap.size 5 1 v3 (n + 1) (u8s (padB l n) ++ [.int .u8 0])) (hb : v3.ownBlock = mv.ownBlock ∨ v3.ownBlock = some (W.alloc o).heap.size) : HolI w w3 r p ms v3 (padB l (n + 1)) av al := by
  have e : u8s (padB l n) ++ [.int .u8 0] = u8s (padB l (n + 1)) := by rw [← padB_more l n hl]; simp [u8s]
  rw [e] at ho
  refine h.turn (((Frame.refl _ W).alloc o).grown hg (fun k hk => .inl (by simp [hk]))) ?_ ?_
  · rw [padB_len, show max l.length (n + 1) = n + 1 by omega]
    exact ho
  · rcases hb with hb | hb
    · exact .inl hb
    · exact .inr (.inr ⟨_, hb, by simp⟩)
theorem conv_own {w : World} {B n : Nat} {v : Value} {xs : List Int} (h : w.ownsRow B 5 1 v n (u8s xs)) : (convert 33 9 v).run Tryz.prog w = .ok (.string (strOfNums xs)) w := by
  have hl : xs.length = n := by have := h.1; simpa [u8s] using this
  rcases h.2 with ⟨rfl, rfl⟩ | ⟨g, cap, cur, rfl, -⟩
  · obtain rfl : xs = [] := List.eq_nil_of_length_eq_zero hl
    exact run_convert_bytes_nil (P := Tryz.prog) w 33 5 Tryz.underlying33 Tryz.underlying5 0 0 9 Tryz.underlying9
  · refine run_convert_bytes_arg (P := Tryz.prog) w 33 5 Tryz.underlying33 Tryz.underlying5 g 0 n cap xs hl (fun i hi => ?_) 9 Tryz.underlying9
    rw [Nat.zero_add, h.cellAt i (by omega)]
    simp [u8s, List.getD, List.getElem?_eq_getElem (show i < xs.length by omega)]
theorem info9 : (Tryz.prog.info? 9).map (fun i => (i.zero, i.size, i.bytes)) = some (some (.string ⟨#[]⟩), 1, 16) := by kernel_rfl
theorem fp5 : fp 5 = ⟨#[47, 102]⟩ := by decide
set_option maxRecDepth 100000 in
set_option maxHeartbeats 8000000 in
theorem holes_any (w : World) (hg : ∃ m, w.cell? ⟨1, 0, none⟩ = some (.int .i64 m)) (a0 a1 : Option Addr) (la ca lc cc : Nat) (za zc : List Int) (hA : ArgRow w a0 la za) (hC : ArgRow w a1 lc zc) (hla : la ≤ maxLen) (hlc : lc ≤ maxLen) (b : Int) (hb : 0 ≤ b ∧ b ≤ 255) :
    Calls Tryz.prog 3 #[.slice a0 la ca, .slice a1 lc cc, .int .u8 b] w fun e w' => e = .returned (.bool true) ∧ Below w.heap.size w w' := by
  have hml : maxLen = 9223372036854775807 := by decide
  have AW := Lib.hid (awake_any w hg)
  have HA := Lib.hid hA
  have HC := Lib.hid hC
  have h1lt : 1 < w.heap.size := by
    obtain ⟨m, hm⟩ := hg
    exact World.block_lt_of_cell? w ⟨1, 0, none⟩ hm
  have GB : Hid (∀ W : World, Below w.heap.size w W → ∃ m, W.cell? ⟨1, 0, none⟩ = some (.int .i64 m)) := Lib.hid (fun W hW => by
    obtain ⟨m, hm⟩ := hg
    exact ⟨m, (hW.cell (p := ⟨1, 0, none⟩) h1lt).trans hm⟩)
  clear hA hC hg
  by_cases h1 : 20 < la
  · go_enter Tryz.func3, Tryz.ntmps3
    go_wp2_with (go_at_call 6; with_reducible refine AW.out.mono ?_; rintro e1 w1 ⟨rfl, hq⟩; have B1 := Lib.hid hq; clear hq)
    go_ret
    exact ⟨rfl, B1.out⟩
  by_cases h2 : 20 < lc
  · go_enter Tryz.func3, Tryz.ntmps3
    go_wp2_with (go_at_call 6; with_reducible refine AW.out.mono ?_; rintro e1 w1 ⟨rfl, hq⟩; have B1 := Lib.hid hq; clear hq)
    go_ret
    exact ⟨rfl, B1.out⟩
  obtain ⟨p, hp⟩ : ∃ p, Hid (p = [b, (b + 1) % 256]) := ⟨_, Lib.hid rfl⟩
  have hbl : Hid (ByteL p) := Lib.hid (by rw [hp.out]; intro x hx; simp only [List.mem_cons, List.not_mem_nil, or_false] at hx; rcases hx with rfl | rfl <;> omega)
  have ND : Hid (∀ W, Below w.heap.size w W → Calls Tryz.prog 7 #[.int .i64 776] W fun e w' => ∃ d l cb, e = .returned (.tuple #[.pointer (some ⟨d, 0, none⟩), .int .i64 0]) ∧ Hid (DiskAt w' d l cb 776 0) ∧ Hid (Below w.heap.size w w') ∧ w.heap.size ≤ d ∧ w.heap.size ≤ l ∧ w.heap.size ≤ cb) := Lib.hid (fun W hW => by
    refine (newDisk_any W).mono ?_
    rintro e w' ⟨d, l, cb, rfl, h3, h4, h5, h6, h7⟩
    have := hW.size
    exact ⟨d, l, cb, rfl, Lib.hid h3, Lib.hid (hW.trans (h4.mono hW.size)), by omega, by omega, by omega⟩)
  have NF : Hid (∀ W d l cb, Hid (DiskAt W d l cb 776 0) → Hid (Below w.heap.size w W) → w.heap.size ≤ d → w.heap.size ≤ l → w.heap.size ≤ cb → Calls Tryz.prog 8 #[.pointer (some ⟨d, 0, none⟩)] W fun e w' => ∃ r X, e = .returned (.tuple #[.pointer (some ⟨r, 0, none⟩), .int .i64 0]) ∧ Hid (Below w.heap.size w w') ∧ Hid (RepAt w' r X ∧ X.xs = [] ∧ X.its = [] ∧ X.P = [] ∧ NewEng X ∧ (∀ k ∈ X.mu r, w.heap.size ≤ k) ∧ (∀ k ∈ X.m1 r, w.heap.size ≤ k))) := Lib.hid (fun W d l cb hd hW h3 h4 h5 => by
    refine (begin_any w (GB.out w (Below.refl _ _)) W d l cb hd.out hW.out h3 h4 h5).mono ?_
    rintro e w' ⟨r, X, rfl, a1, a2, a3, a4, a5, a6, a7, a8⟩
    exact ⟨r, X, rfl, Lib.hid a8, Lib.hid ⟨a1, a2, a3, a4, a5, a6, a7⟩⟩)
  have NC : Hid (∀ W r X, Hid (Below w.heap.size w W) → Hid (RepAt W r X ∧ X.xs = [] ∧ X.its = [] ∧ X.P = [] ∧ NewEng X ∧ (∀ k ∈ X.mu r, w.heap.size ≤ k) ∧ (∀ k ∈ X.m1 r, w.heap.size ≤ k)) → Calls Tryz.prog 9 #[.pointer (some ⟨r, 0, none⟩), .agg #[.int .i64 1, .string ⟨#[47, 102]⟩, .string ⟨#[]⟩, .int .i64 0, .int .i64 0, .slice none 0 0]] W fun e w' => e = .returned (.tuple #[.int .i64 1, .int .i64 0]) ∧ Hid (HolI w w' r p [] (.slice none 0 0) [] (.slice none 0 0) [])) := Lib.hid (fun W r X hW hX => by
    have := hol_create w W r p X hW.out h1lt hX.out
    rw [fp5] at this
    refine this.mono ?_
    rintro e w' ⟨rfl, h3⟩
    exact ⟨rfl, Lib.hid h3⟩)
  have WR : Hid (∀ W r ms mv av (k : Nat), Hid (HolI w W r p ms mv (lastM ms) av ms) → ms.length ≤ 45 → k ≤ 498 → Calls Tryz.prog 9 #[.pointer (some ⟨r, 0, none⟩), .agg #[.int .i64 3, .string ⟨#[47, 102]⟩, .string ⟨#[]⟩, .int .i64 k, .int .i64 0, .slice (some ⟨W.heap.size, 0, none⟩) 2 2]] (W.alloc (.cells #[.int .u8 b, .int .u8 ((b + 1) % 256)] 5)) fun e w' => e = .returned (.tuple #[.int .i64 ((ms.length : Int) + 2), .int .i64 0]) ∧ Hid (HolI w w' r p (ms ++ [putBytes (lastM ms) p k]) mv (lastM ms) av ms)) := Lib.hid (fun W r ms mv av k hW h3 h4 => by
    have := hol_write w _ r p ms mv (lastM ms) av ms (hW.out.more (crc_below W (.cells #[.int .u8 b, .int .u8 ((b + 1) % 256)] 5))) h3 b _ hp.out hbl.out W.heap.size (heap_new _ _) k h4
    rw [fp5] at this
    refine this.mono ?_
    rintro e w' ⟨rfl, h5⟩
    exact ⟨rfl, Lib.hid h5⟩)
  have TR : Hid (∀ W r ms mv av (k : Nat), Hid (HolI w W r p ms mv (lastM ms) av ms) → ms.length ≤ 45 → k ≤ 500 → Calls Tryz.prog 9 #[.pointer (some ⟨r, 0, none⟩), .agg #[.int .i64 4, .string ⟨#[47, 102]⟩, .string ⟨#[]⟩, .int .i64 0, .int .i64 k, .slice none 0 0]] W fun e w' => e = .returned (.tuple #[.int .i64 ((ms.length : Int) + 2), .int .i64 0]) ∧ Hid (HolI w w' r p (ms ++ [cutBytes (lastM ms) k]) mv (lastM ms) av ms)) := Lib.hid (fun W r ms mv av k hW h3 h4 => by
    have := hol_trunc w _ r p ms mv (lastM ms) av ms hW.out h3 k h4
    rw [fp5] at this
    refine this.mono ?_
    rintro e w' ⟨rfl, h5⟩
    exact ⟨rfl, Lib.hid h5⟩)
  have CM : Hid (∀ W r ms mv l av, Hid (HolI w W r p ms mv l av ms) → ms.length ≤ 46 → Calls Tryz.prog 10 #[.pointer (some ⟨r, 0, none⟩)] W fun e w' => e = .returned (.int .i64 0) ∧ Hid (HolD w w' r p ms av)) := Lib.hid (fun W r ms mv l av hW h3 => by
    refine (hol_commit w W r p ms mv l av hW.out h3).mono ?_
    rintro e w' ⟨rfl, h4⟩
    exact ⟨rfl, Lib.hid h4⟩)
  have RD : Hid (∀ W r ms av (j : Nat) m, Hid (HolD w W r p ms av) → ms[j]? = some m → Calls Tryz.prog 11 #[.pointer (some ⟨r, 0, none⟩), .int .i64 ((j : Int) + 2), .string ⟨#[47, 102]⟩, .int .i64 0, .int .i64 600] W fun e w' => ∃ v', e = .returned (.tuple #[v', .int .i64 0]) ∧ Sl w' 5 1 v' m.length (u8s m) ∧ Hid (HolD w w' r p ms av)) := Lib.hid (fun W r ms av j m hW h3 => by
    have := hol_read w W r p ms av hW.out j m h3
    rw [fp5] at this
    refine this.mono ?_
    rintro e w' ⟨v', rfl, h4, h5⟩
    exact ⟨v', rfl, h4, Lib.hid h5⟩)
  obtain ⟨i5, hi5, hz5, hy5, hx5⟩ := info_parts info5
  obtain ⟨i9, hi9, hz9, hy9, hx9⟩ := info_parts info9
  have esum : IntKind.i64.wrap ((la : Int) + lc) = (la : Int) + lc := IntWalk.i64_in _ (by omega)
  clear hla hlc hml
  go_enter Tryz.func3, Tryz.ntmps3
  go_wp2_with (first | (go_at_call 6; with_reducible refine AW.out.mono ?_; rintro e1 w1 ⟨rfl, hq⟩; have B1 := Lib.hid hq; clear hq) | (go_at_call 7; with_reducible refine (ND.out _ B1.out).mono ?_; rintro e1 w2 ⟨d, l, cb, rfl, D2, B2, k1, k2, k3⟩) | (go_at_call 8; with_reducible refine (NF.out _ d l cb D2 B2 k1 k2 k3).mono ?_; rintro e1 w3 ⟨r, X, rfl, B3, X3⟩) | (go_at_call 9; with_reducible refine (NC.out _ r X B3 X3).mono ?_; rintro e1 w4 ⟨rfl, H4⟩))
  go_loopw [11, 12, 13, 14, 15] (fun t11 t12 t13 _ _ wr => ∃ i : Nat, i ≤ la + lc ∧ t13 = .int .i64 i ∧ Hid (∃ ms, HolI w wr r p ms t11 (lastM ms) t12 ms ∧ ms.length ≤ i)) (fun _ _ t13 _ _ _ => la + lc - (intOf t13).toNat)
  case atStart => exact ⟨0, by omega, rfl, Lib.hid ⟨[], H4.out, by simp⟩⟩
  case round =>
  obtain ⟨i, hi, rfl, hI⟩ := hrel
  obtain ⟨ms, hI, hms⟩ := hI.out
  have HI := Lib.hid hI
  obtain ⟨pm, km, hmv⟩ := own_shape hI.m
  obtain ⟨pa, ka, hav⟩ := own_shape hI.all
  subst hmv
  subst hav
  clear hI
  by_cases hlt : i < la + lc
  · obtain ⟨n, hn⟩ : ∃ n, Hid (n = i / 2) := ⟨_, Lib.hid rfl⟩
    have e2 : (i : Int) / 2 = (n : Int) := by rw [hn.out]; omega
    have hlt2 : (i : Int) < (la : Int) + lc := by omega
    clear hI
    by_cases hw : bits BinOp.and IntKind.i64 (i : Int) 1 = 0 ∧ n < la
    · obtain ⟨hE, hnl⟩ := hw
      have dn : (n : Int) < la := by omega
      obtain ⟨x, rfl, hxb, hxc, hv0, hv1⟩ := HA.out n hnl
      obtain ⟨v, hv⟩ : ∃ v, Hid (v = za.getD n 0) := ⟨_, Lib.hid rfl⟩
      rw [← hv.out] at hxc hv0 hv1
      have hxw : wr.cell? (x.add n) = some (.int .u16 v) := by
        have hb := HI.out.below
        have : (x.add n).block = x.block := by unfold Addr.add; split <;> rfl
        rw [hb.cell (p := x.add n) (by rw [this]; exact hxb)]
        exact hxc
      obtain ⟨k, hk⟩ : ∃ k : Nat, v % 400 = (k : Int) := ⟨(v % 400).toNat, by omega⟩
      have hk4 : k < 400 := by omega
      clear hxc
      have hm45 : ms.length ≤ 45 := by omega
      have PM : Hid (padB (lastM ms) (lastM ms).length = lastM ms) := Lib.hid (padB_self _)
      obtain ⟨L, hL⟩ : ∃ L, Hid (L = (lastM ms).length) := ⟨_, Lib.hid rfl⟩
      rw [← hL.out] at HI ⊢
      go_wp2_with (go_at_call 9; with_reducible refine (WR.out wr r ms _ _ k HI hm45 (by omega)).mono ?_; rintro e1 w5 ⟨rfl, H5⟩)
      go_loopw [11] (fun t11 wr => ∃ n2 : Nat, L ≤ n2 ∧ n2 ≤ max L (k + 2) ∧ sliceLen t11 = n2 ∧ Hid (HolI w wr r p (ms ++ [putBytes (lastM ms) p k]) t11 (padB (lastM ms) n2) (.slice pa ms.length ka) ms)) (fun t11 _ => k + 2 - sliceLen t11)
      case atStart => exact ⟨L, by omega, by omega, rfl, Lib.hid (by rw [hL.out, PM.out]; rw [hL.out] at H5; exact H5.out)⟩
      case round =>
      obtain ⟨n2, hn1, hn2, hsl, hJ⟩ := hrel
      have hlen : (padB (lastM ms) n2).length = n2 := by rw [padB_len, ← hL.out]; omega
      obtain ⟨pq, kq, hsv⟩ := own_shape hJ.out.m
      rw [hlen] at hsv
      subst hsv
      clear hsl
      by_cases hlt3 : n2 < k + 2
      · have OM : Hid (∀ o, (wr.alloc o).ownsRow w.heap.size 5 1 (.slice pq n2 kq) n2 (u8s (padB (lastM ms) n2))) := Lib.hid (fun o => by
          have := own_below hJ.out.m (crc_below wr o)
          rw [hlen] at this
          exact this)
        have hbs := HI.out.below.size
        have hbs3 := hJ.out.below.size
        clear hlen
        go_wp2_with (at_builtin; refine wp_append_sl rfl _ _ 33 rfl w.heap.size 5 i5 _ 1 1 Tryz.underlying33 hi5 hz5 hy5 hx5 rfl (by decide) _ n2 _ rfl (OM.out _) _ 1 _ rfl (Sl.block' (heap_new _ _) rfl (by simp [Value.oneCell']) (by decide) (by decide)) (by omega) (by decide) (by simp; omega) ?_; intro v3 w6 hown hgr _ hblk; obtain ⟨q3, c3, rfl⟩ := own_shape hown; have H6 := Lib.hid (hJ.out.nought (by have := hL.out; omega) _ hgr hown hblk); clear hown hgr hblk)
        go_roundw
        case rel => exact ⟨n2 + 1, by omega, by omega, rfl, H6⟩
        case measure => simp [sliceLen]; omega
      · have hn3 : k + 2 ≤ n2 := by omega
        have hJm := hJ.out.m
        rw [hlen] at hJm
        obtain ⟨g, cap, cur, he, hgB, hgh, hncap, hcapm, -, -⟩ := own_pos hJm (by omega)
        simp only [Value.slice.injEq] at he
        obtain ⟨rfl, -, rfl⟩ := he
        have x0 := hJm.cellAt k (by omega)
        have x1 := hJm.cellAt (k + 1) (by omega)
        have f0 := hJm.frozenAt k
        have f1 := hJm.frozenAt (k + 1)
        have hul : (u8s (padB (lastM ms) n2)).length = n2 := by simp [u8s, hlen]
        obtain ⟨y0, hy0⟩ : ∃ y, (u8s (padB (lastM ms) n2))[k]? = some y := ⟨_, List.getElem?_eq_getElem (by omega)⟩
        obtain ⟨y1, hy1⟩ : ∃ y, (u8s (padB (lastM ms) n2))[k + 1]? = some y := ⟨_, List.getElem?_eq_getElem (by omega)⟩
        rw [hy0] at x0
        rw [hy1] at x1
        have H7 : Hid (HolI w ((wr.setCell ⟨g, k, none⟩ (.int .u8 b)).setCell ⟨g, k + 1, none⟩ (.int .u8 ((b + 1) % 256))) r p (ms ++ [putBytes (lastM ms) p k]) (.slice (some ⟨g, 0, none⟩) n2 kq) (putBytes (lastM ms) p k) (.slice pa ms.length ka) ms) := Lib.hid (by
          have hpl : (putBytes (lastM ms) p k).length = n2 := by rw [putBytes_len, hp.out, ← hL.out]; simp; omega
          refine hJ.out.turn ?_ ?_ (.inl rfl)
          · exact ((Frame.refl _ wr).setCell (p := ⟨g, k, none⟩) (.inl (by simp [Value.ownBlock])) _).setCell (p := ⟨g, k + 1, none⟩) (.inl (by simp [Value.ownBlock])) _
          · have := (((hJm.stored k (.int .u8 b)).1).stored (k + 1) (.int .u8 ((b + 1) % 256))).1
            have e : padB (lastM ms) n2 = padB (lastM ms) (k + 2) := by
              unfold padB
              rw [← hL.out]
              congr 2
              omega
            rw [← u8s_set, ← u8s_set, e, put_pad, ← hp.out] at this
            rw [hpl]
            exact this)
        obtain ⟨mNew, hmNew⟩ : ∃ m, Hid (m = putBytes (lastM ms) p k) := ⟨_, Lib.hid rfl⟩
        have hpl2 : mNew.length = n2 := by rw [hmNew.out, putBytes_len, hp.out, ← hL.out]; simp; omega
        rw [← hmNew.out] at H7
        have hcv := conv_sl (Sl.of_own H7.out.m (u8s_one' _) (.inr (by rw [hpl2]; omega)))
        have hcv2 : (convert 33 9 (.slice (some ⟨g, 0, none⟩) n2 kq)).run Tryz.prog ((wr.setCell ⟨g, k, none⟩ (.int .u8 b)).setCell ⟨g, k + 1, none⟩ (.int .u8 ((b + 1) % 256))) = .ok (.string (strOfNums mNew)) ((wr.setCell ⟨g, k, none⟩ (.int .u8 b)).setCell ⟨g, k + 1, none⟩ (.int .u8 ((b + 1) % 256))) := hcv
        have OA : Hid (∀ o, (((wr.setCell ⟨g, k, none⟩ (.int .u8 b)).setCell ⟨g, k + 1, none⟩ (.int .u8 ((b + 1) % 256))).alloc o).ownsRow w.heap.size 9 1 (.slice pa ms.length ka) ms.length (strsV ms)) := Lib.hid (fun o => own_below H7.out.all (crc_below _ o))
        have NOTE : Hid (∀ o v3 w6, v3.oneCell' = true → w6.ownsRow w.heap.size 9 1 v3 (ms.length + 1) (strsV ms ++ [.string (strOfNums mNew)]) → (((wr.setCell ⟨g, k, none⟩ (.int .u8 b)).setCell ⟨g, k + 1, none⟩ (.int .u8 ((b + 1) % 256))).alloc o).grownBy w6 (Value.slice pa ms.length ka).ownBlock → HolI w w6 r p (ms ++ [mNew]) (.slice (some ⟨g, 0, none⟩) n2 kq) (lastM (ms ++ [mNew])) v3 (ms ++ [mNew])) := Lib.hid (fun o v3 w6 _ ho hg => by
          have hl : lastM (ms ++ [mNew]) = mNew := by simp [lastM]
          rw [hl]
          have := H7.out
          refine this.note (((Frame.refl _ _).alloc o).grown hg (fun k hk => .inl (by simp [hk]))) ?_
          rw [show strsV (ms ++ [mNew]) = strsV ms ++ [.string (strOfNums mNew)] by simp [strsV], List.length_append]
          exact ho)
        have HBS : Hid (∀ o, w.heap.size ≤ (((wr.setCell ⟨g, k, none⟩ (.int .u8 b)).setCell ⟨g, k + 1, none⟩ (.int .u8 ((b + 1) % 256))).alloc o).heap.size) := Lib.hid (fun o => Nat.le_trans H7.out.below.size (crc_below _ o).size)
        have dk1 : (k : Int) < n2 := by omega
        have dk2 : (k : Int) + 1 < n2 := by omega
        clear hcv hJm hgh hul hy0 hy1 hlen hJ hn1 hn2 PM H5
        have HN : Hid (∀ o, (((wr.setCell ⟨g, k, none⟩ (.int .u8 b)).setCell ⟨g, k + 1, none⟩ (.int .u8 ((b + 1) % 256))).alloc o).heap[wr.heap.size]? = some o) := Lib.hid (fun o => by have := heap_new ((wr.setCell ⟨g, k, none⟩ (.int .u8 b)).setCell ⟨g, k + 1, none⟩ (.int .u8 ((b + 1) % 256))) o; simpa using this)
        go_wp2_with (at_builtin; refine wp_append_sl rfl _ _ 36 rfl w.heap.size 9 i9 _ 1 16 Tryz.underlying36 hi9 hz9 hy9 hx9 rfl (by decide) _ ms.length _ rfl (OA.out _) _ 1 _ rfl (Sl.block' (HN.out (.cells #[.string (strOfNums mNew)] 9)) rfl (by simp [Value.oneCell']) (by decide) (by decide)) (by omega) (by decide) (HBS.out _) ?_; intro v3 w6 hown hgr _ hblk; obtain ⟨q3, c3, rfl⟩ := own_shape hown; have H8 := Lib.hid (NOTE.out _ _ _ rfl hown hgr); clear hown hgr hblk)
        go_roundw
        case rel => exact ⟨i + 1, by omega, by go_num, Lib.hid ⟨ms ++ [mNew], H8.out, by simp; omega⟩⟩
        case measure => simp [intOf]; omega
    · by_cases hw2 : n < lc
      · have dn2 : (n : Int) < lc := by omega
        obtain ⟨x, rfl, hxb, hxc, hv0, hv1⟩ := HC.out n hw2
        obtain ⟨v, hv⟩ : ∃ v, Hid (v = zc.getD n 0) := ⟨_, Lib.hid rfl⟩
        rw [← hv.out] at hxc hv0 hv1
        have hxw : wr.cell? (x.add n) = some (.int .u16 v) := by
          have hb := HI.out.below
          have : (x.add n).block = x.block := by unfold Addr.add; split <;> rfl
          rw [hb.cell (p := x.add n) (by rw [this]; exact hxb)]
          exact hxc
        obtain ⟨k, hk⟩ : ∃ k : Nat, v % 500 = (k : Int) := ⟨(v % 500).toNat, by omega⟩
        have hk4 : k < 500 := by omega
        clear hxc
        have hm45 : ms.length ≤ 45 := by omega
        have PM : Hid (padB (lastM ms) (lastM ms).length = lastM ms) := Lib.hid (padB_self _)
        obtain ⟨L, hL⟩ : ∃ L, Hid (L = (lastM ms).length) := ⟨_, Lib.hid rfl⟩
        rw [← hL.out] at HI ⊢
        have hno : (bits BinOp.and IntKind.i64 (i : Int) 1 = 0 ∧ ¬ (n : Int) < la) ∨ ¬ bits BinOp.and IntKind.i64 (i : Int) 1 = 0 := by
          by_cases hE : bits BinOp.and IntKind.i64 (i : Int) 1 = 0
          · exact .inl ⟨hE, fun h => hw ⟨hE, by omega⟩⟩
          · exact .inr hE
        clear hw
        have FINAL : Hid (∀ (wr : World) (pq : Option Addr) (n2 kq : Nat), L ≤ n2 → k ≤ n2 → n2 = max L k → HolI w wr r p (ms ++ [cutBytes (lastM ms) k]) (.slice pq n2 kq) (padB (lastM ms) n2) (.slice pa ms.length ka) ms → HolI w wr r p (ms ++ [cutBytes (lastM ms) k]) (.slice pq k kq) (cutBytes (lastM ms) k) (.slice pa ms.length ka) ms) := Lib.hid (fun wr pq n2 kq h3 h4 h5 h6 => by
          have hlen : (padB (lastM ms) n2).length = n2 := by rw [padB_len, ← hL.out]; omega
          have hJm := h6.m
          rw [hlen] at hJm
          have e : (padB (lastM ms) n2).take k = cutBytes (lastM ms) k := by
            rw [← cut_pad]
            congr 1
            unfold padB
            rw [← hL.out]
            congr 2
            omega
          have hown : wr.ownsRow w.heap.size 5 1 (.slice pq k kq) k (u8s (cutBytes (lastM ms) k)) := by
            rcases hJm.2 with ⟨e1, e2⟩ | ⟨g, cap, cur, e1, -⟩
            · simp only [Value.slice.injEq] at e1
              obtain ⟨rfl, rfl, rfl⟩ := e1
              obtain rfl : k = 0 := by omega
              exact World.ownsRow_nil _ _ _ _
            · simp only [Value.slice.injEq] at e1
              obtain ⟨rfl, -, rfl⟩ := e1
              have := own_take hJm k h4
              rw [← e]
              simpa [u8s, List.map_take] using this
          refine h6.turn (Frame.refl _ _) ?_ ?_
          · rw [cutBytes_len]
            exact hown
          · cases pq with
            | none => exact .inr (.inl rfl)
            | some a => exact .inl rfl)
        have NOTE : Hid (∀ (wr : World) mv (o : Obj) v3 w6, HolI w wr r p (ms ++ [cutBytes (lastM ms) k]) mv (cutBytes (lastM ms) k) (.slice pa ms.length ka) ms → w6.ownsRow w.heap.size 9 1 v3 (ms.length + 1) (strsV ms ++ [.string (strOfNums (cutBytes (lastM ms) k))]) → (wr.alloc o).grownBy w6 (Value.slice pa ms.length ka).ownBlock → HolI w w6 r p (ms ++ [cutBytes (lastM ms) k]) mv (lastM (ms ++ [cutBytes (lastM ms) k])) v3 (ms ++ [cutBytes (lastM ms) k])) := Lib.hid (fun wr mv o v3 w6 h3 ho hg => by
          have hl : lastM (ms ++ [cutBytes (lastM ms) k]) = cutBytes (lastM ms) k := by simp [lastM]
          rw [hl]
          refine h3.note (((Frame.refl _ _).alloc o).grown hg (fun k hk => .inl (by simp [hk]))) ?_
          rw [show strsV (ms ++ [cutBytes (lastM ms) k]) = strsV ms ++ [.string (strOfNums (cutBytes (lastM ms) k))] by simp [strsV], List.length_append]
          exact ho)
        rcases hno with ⟨hE, hE2⟩ | hE
        all_goals
          go_wp2_with (go_at_call 9; with_reducible refine (TR.out wr r ms _ _ k HI hm45 (by omega)).mono ?_; rintro e1 w5 ⟨rfl, H5⟩)
          go_loopw [11] (fun t11 wr => ∃ n2 : Nat, L ≤ n2 ∧ n2 ≤ max L k ∧ sliceLen t11 = n2 ∧ Hid (HolI w wr r p (ms ++ [cutBytes (lastM ms) k]) t11 (padB (lastM ms) n2) (.slice pa ms.length ka) ms)) (fun t11 _ => k - sliceLen t11)
          case atStart => exact ⟨L, by omega, by omega, rfl, Lib.hid (by rw [hL.out, PM.out]; rw [hL.out] at H5; exact H5.out)⟩
          case round =>
          obtain ⟨n2, hn1, hn2, hsl, hJ⟩ := hrel
          have hlen : (padB (lastM ms) n2).length = n2 := by rw [padB_len, ← hL.out]; omega
          obtain ⟨pq, kq, hsv⟩ := own_shape hJ.out.m
          rw [hlen] at hsv
          subst hsv
          clear hsl
          by_cases hlt3 : n2 < k
          · have OM : Hid (∀ o, (wr.alloc o).ownsRow w.heap.size 5 1 (.slice pq n2 kq) n2 (u8s (padB (lastM ms) n2))) := Lib.hid (fun o => by
              have := own_below hJ.out.m (crc_below wr o)
              rw [hlen] at this
              exact this)
            have hbs3 := hJ.out.below.size
            clear hlen
            go_wp2_with (at_builtin; refine wp_append_sl rfl _ _ 33 rfl w.heap.size 5 i5 _ 1 1 Tryz.underlying33 hi5 hz5 hy5 hx5 rfl (by decide) _ n2 _ rfl (OM.out _) _ 1 _ rfl (Sl.block' (heap_new _ _) rfl (by simp [Value.oneCell']) (by decide) (by decide)) (by omega) (by decide) (by simp; omega) ?_; intro v3 w6 hown hgr _ hblk; obtain ⟨q3, c3, rfl⟩ := own_shape hown; have H6 := Lib.hid (hJ.out.nought (by have := hL.out; omega) _ hgr hown hblk); clear hown hgr hblk)
            go_roundw
            case rel => exact ⟨n2 + 1, by omega, by omega, rfl, H6⟩
            case measure => simp [sliceLen]; omega
          · have H7 := Lib.hid (FINAL.out wr pq n2 kq hn1 (by omega) (by omega) hJ.out)
            have hcap : n2 ≤ kq := by
              have h6 := hJ.out.m
              rw [hlen] at h6
              rcases h6.2 with ⟨e1, e2⟩ | ⟨g, cap, cur, e1, -, -, h8, -⟩
              · simp only [Value.slice.injEq] at e1
                omega
              · simp only [Value.slice.injEq] at e1
                omega
            have OA : Hid (∀ o, (wr.alloc o).ownsRow w.heap.size 9 1 (.slice pa ms.length ka) ms.length (strsV ms)) := Lib.hid (fun o => own_below H7.out.all (crc_below _ o))
            have HBS : Hid (∀ o, w.heap.size ≤ (wr.alloc o).heap.size) := Lib.hid (fun o => Nat.le_trans H7.out.below.size (crc_below _ o).size)
            obtain ⟨mNew, hmNew⟩ : ∃ m, Hid (m = cutBytes (lastM ms) k) := ⟨_, Lib.hid rfl⟩
            have hcv : (convert 33 9 (.slice pq k kq)).run Tryz.prog wr = .ok (.string (strOfNums mNew)) wr := by
              rw [hmNew.out]
              have h6 := H7.out.m
              rw [cutBytes_len] at h6
              exact conv_own h6
            have dk : (k : Int) ≤ kq := by omega
            rw [← hmNew.out] at NOTE H7
            have hpq : pq = none ∨ ∃ g, pq = some ⟨g, 0, none⟩ := by
              have h6 := hJ.out.m
              rcases h6.2 with ⟨e1, e2⟩ | ⟨g, cap, cur, e1, -⟩
              · simp only [Value.slice.injEq] at e1
                exact .inl e1.1
              · simp only [Value.slice.injEq] at e1
                exact .inr ⟨g, e1.1⟩
            have hk0 : pq = none → k = 0 := fun he => by
              have h6 := hJ.out.m
              rw [he] at h6
              rcases h6.2 with ⟨e1, e2⟩ | ⟨g, cap, cur, e1, -⟩
              · omega
              · simp at e1
            have NT := Lib.hid (fun o v3 w6 => NOTE.out wr (.slice pq k kq) o v3 w6 H7.out)
            have hml5 : ms.length + 1 ≤ 1000000 := by omega
            clear hJ hlen hn1 hn2 PM H5
            rcases hpq with rfl | ⟨g, rfl⟩
            · have hk00 := hk0 rfl
              subst hk00
              clear hk0
              go_wp2_with (at_builtin; refine wp_append_sl rfl _ _ 36 rfl w.heap.size 9 i9 _ 1 16 Tryz.underlying36 hi9 hz9 hy9 hx9 rfl (by decide) _ ms.length _ rfl (OA.out _) _ 1 _ rfl (Sl.block' (heap_new _ _) rfl (by simp [Value.oneCell']) (by decide) (by decide)) hml5 (by decide) (HBS.out _) ?_; intro v3 w6 hown hgr _ hblk; obtain ⟨q3, c3, rfl⟩ := own_shape hown; have H8 := Lib.hid (NT.out _ _ _ hown hgr); clear hown hgr hblk)
              go_roundw
              case rel => exact ⟨i + 1, by omega, by go_num, Lib.hid ⟨ms ++ [mNew], H8.out, by simp; omega⟩⟩
              case measure => simp [intOf]; omega
            · clear hk0
              go_wp2_with (at_builtin; refine wp_append_sl rfl _ _ 36 rfl w.heap.size 9 i9 _ 1 16 Tryz.underlying36 hi9 hz9 hy9 hx9 rfl (by decide) _ ms.length _ rfl (OA.out _) _ 1 _ rfl (Sl.block' (heap_new _ _) rfl (by simp [Value.oneCell']) (by decide) (by decide)) hml5 (by decide) (HBS.out _) ?_; intro v3 w6 hown hgr _ hblk; obtain ⟨q3, c3, rfl⟩ := own_shape hown; have H8 := Lib.hid (NT.out _ _ _ hown hgr); clear hown hgr hblk)
              go_roundw
              case rel => exact ⟨i + 1, by omega, by go_num, Lib.hid ⟨ms ++ [mNew], H8.out, by simp; omega⟩⟩
              case measure => simp [intOf]; omega
      · have dn3 : ¬ ((n : Int) < lc) := by omega
        have hno : (bits BinOp.and IntKind.i64 (i : Int) 1 = 0 ∧ ¬ (n : Int) < la) ∨ ¬ bits BinOp.and IntKind.i64 (i : Int) 1 = 0 := by
          by_cases hE : bits BinOp.and IntKind.i64 (i : Int) 1 = 0
          · exact .inl ⟨hE, fun h => hw ⟨hE, by omega⟩⟩
          · exact .inr hE
        clear hw
        rcases hno with ⟨hE, hE2⟩ | hE
        all_goals
          go_wp2_with fail
          go_roundw
          case rel => exact ⟨i + 1, by omega, by go_num, Lib.hid ⟨ms, HI.out, by omega⟩⟩
          case measure => simp [intOf]; omega
  · have dlt : ¬ ((i : Int) < (la : Int) + lc) := by omega
    have hm46 : ms.length ≤ 46 := by omega
    clear hI WR TR hms
    go_wp2_with (go_at_call 10; with_reducible refine (CM.out wr r ms _ _ _ HI hm46).mono ?_; rintro e1 w5 ⟨rfl, H5⟩)
    go_loopw [16, 17, 18] (fun t16 _ _ wr => ∃ j : Nat, j ≤ ms.length ∧ t16 = .int .i64 j ∧ Hid (HolD w wr r p ms (.slice pa ms.length ka))) (fun t16 _ _ _ => ms.length - (intOf t16).toNat)
    case atStart => exact ⟨0, by omega, rfl, H5⟩
    case round =>
    obtain ⟨j, hj, rfl, hJ⟩ := hrel
    by_cases hlt : j < ms.length
    · obtain ⟨m, hm⟩ : ∃ m, ms[j]? = some m := ⟨_, List.getElem?_eq_getElem hlt⟩
      have hall := hJ.out.all
      obtain ⟨g, cap, cur, he, -⟩ := own_pos hall (by omega)
      simp only [Value.slice.injEq] at he
      obtain ⟨rfl, -, rfl⟩ := he
      have HCELL : Hid (∀ W, HolD w W r p ms (.slice (some ⟨g, 0, none⟩) ms.length ka) → W.cell? ⟨g, j, none⟩ = some (.string (strOfNums m))) := Lib.hid (fun W hW => by
        rw [hW.all.cellAt j (by omega)]
        simp [strsV, hm])
      have RDJ := Lib.hid (RD.out wr r ms _ j m hJ hm)
      have dj : (j : Int) < ms.length := by omega
      clear hm hall
      go_wp2_with (go_at_call 11; with_reducible refine RDJ.out.mono ?_; rintro e1 w6 ⟨v', rfl, hs, H6⟩; have hcv := conv_sl hs; have hcell := HCELL.out _ H6.out; have HS6 := Lib.hid hs; obtain ⟨va, vc, rfl, -, -, -⟩ := hs.shape; clear hs)
      have hcvN : ∀ n, (convert 33 9 (.slice va m.length vc)).run Tryz.prog (w6.drewN n) = .ok (.string (strOfNums m)) (w6.drewN n) := fun n => conv_sl (HS6.out.below (below_drewN (Below.refl _ _) n))
      have hcellN : ∀ n, (w6.drewN n).cell? ⟨g, j, none⟩ = some (.string (strOfNums m)) := fun n => ((below_drewN (Below.refl w6.heap.size w6) n).cell (p := ⟨g, j, none⟩) (World.block_lt_of_cell? w6 _ hcell)).trans hcell
      go_quiet (fail)
      clear hcvN hcellN
      go_wp2_with fail
      go_roundw
      case rel => exact ⟨j + 1, by omega, by go_num, Lib.hid (H6.out.more (below_drewN (Below.refl _ _) _))⟩
      case measure => simp [intOf]; omega
    · have hjN : ms.length = j := by omega
      go_wp2_with fail
      go_ret
      exact ⟨rfl, hJ.out.below⟩
end Go.Proofs.YtaonlcgneemimaaGreatDoor
