/- TopBatches: the contracts of V2, V3, N1, N2, N3; no condition. -/
import Derived.Laws.CopyOwn
import Derived.Test.YtaonlcgneemimaaGreatDoorB16
namespace Go.Proofs.YtaonlcgneemimaaGreatDoor
open Go.RowKit
def pieceOf (P:List (List Int)) (id:Int):List Int:=P.getD (id - 1).toNat []
def covB (P:List (List Int)) (p:PartA) (i:Int):Option Int:=if p.off ≤ i ∧ i < p.off + p.len then some ((pieceOf P p.chunk).getD (p.pos + (i - p.off)).toNat 0) else none
def byteAt (P:List (List Int)) (l:List PartA) (i:Int):Int:=l.foldl (fun acc p => (covB P p i).getD acc) 0
def rowTo (P:List (List Int)) (l:List PartA) (off:Int) (L:Nat):List Int:=(List.range L).map fun (j:Nat) => byteAt P l (off + (j:Int))
noncomputable def readB (P:List (List Int)) (b:BodyA) (off n:Int):List Int:=rowTo P b.parts off (min b.size (off + n) - off).toNat
def visP (e off:Int) (p:PartA):Option PartA:=(aheadP e p).bind (behindP off)
theorem rowTo_length (P:List (List Int)) (l:List PartA) (off:Int) (L:Nat):(rowTo P l off L).length = L:=by simp [rowTo]
theorem byteAt_succ {P:List (List Int)} {l:List PartA} {k:Nat} {p:PartA} (hp:l[k]? = some p) (i:Int):byteAt P (l.take (k + 1)) i = (covB P p i).getD (byteAt P (l.take k) i):=by
 rw [List.take_add_one,hp]
 simp [byteAt]
theorem vis_none {P:List (List Int)} {p:PartA} {e off i:Int} (h:visP e off p = none) (h0:off ≤ i) (h1:i < e):covB P p i = none:=by
 unfold covB
 rw [if_neg]
 rintro ⟨a,b⟩
 unfold visP aheadP at h
 by_cases c:e ≤ p.off
 ·omega
 ·rw [if_neg c] at h
  simp only [Option.bind_some,behindP] at h
  by_cases d:p.off + min p.len (e - p.off) ≤ off
  ·omega
  ·rw [if_neg d] at h
   split at h <;> simp at h
theorem vis_some {P:List (List Int)} {p r:PartA} {e off:Int} (h:visP e off p = some r) (hl:0 < p.len):off ≤ r.off ∧ 0 < r.len ∧ r.off + r.len ≤ e ∧ r.chunk = p.chunk ∧ p.pos ≤ r.pos ∧ r.pos + r.len ≤ p.pos + p.len ∧ ∀ i,off ≤ i → i < e → covB P p i = covB P r i:=by
 unfold visP aheadP at h
 by_cases c:e ≤ p.off
 ·rw [if_pos c] at h;simp at h
 ·rw [if_neg c] at h
  simp only [Option.bind_some,behindP] at h
  by_cases d:p.off + min p.len (e - p.off) ≤ off
  ·rw [if_pos d] at h;simp at h
  ·rw [if_neg d] at h
   by_cases g:0 < off - p.off
   ·rw [if_pos g] at h
    simp only [Option.some.injEq] at h
    subst h
    refine ⟨by simp,by simp;omega,by simp;omega,rfl,by simp;omega,by simp;omega,fun i h0 h1 => ?_⟩
    unfold covB
    by_cases k:i < p.off + p.len
    ·rw [if_pos ⟨by omega,k⟩,if_pos ⟨by simpa using h0,by simp;omega⟩]
     simp
     congr 2
     omega
    ·rw [if_neg (by omega),if_neg (by simp;omega)]
   ·rw [if_neg g] at h
    simp only [Option.some.injEq] at h
    subst h
    refine ⟨by simp;omega,by simp;omega,by simp;omega,rfl,by simp,by simp;omega,fun i h0 h1 => ?_⟩
    unfold covB
    by_cases k:p.off ≤ i ∧ i < p.off + p.len
    ·rw [if_pos k,if_pos ⟨by simpa using k.1,by simp;omega⟩]
    ·rw [if_neg k,if_neg (by simp;omega)]
theorem row_none {P:List (List Int)} {l:List PartA} {k:Nat} {p:PartA} (hp:l[k]? = some p) {off:Int} {L:Nat} (h:visP (off + L) off p = none):rowTo P (l.take (k + 1)) off L = rowTo P (l.take k) off L:=by
 unfold rowTo
 refine List.map_congr_left fun j hj => ?_
 rw [List.mem_range] at hj
 rw [byteAt_succ hp,vis_none h (by omega) (by omega)]
 rfl
theorem row_some {P:List (List Int)} {l:List PartA} {k:Nat} {p r:PartA} (hp:l[k]? = some p) {off:Int} {L:Nat} (h:visP (off + L) off p = some r) (hl:0 < p.len) (hpos:0 ≤ p.pos) (hfit:p.pos + p.len ≤ (pieceOf P p.chunk).length) :
  rowTo P (l.take (k + 1)) off L = splice (rowTo P (l.take k) off L) (r.off - off).toNat (((pieceOf P r.chunk).drop r.pos.toNat).take r.len.toNat):=by
 obtain ⟨h1,h2,h3,h4,h5,h6,h7⟩:=vis_some (P:=P) h hl
 have hcl:(((pieceOf P r.chunk).drop r.pos.toNat).take r.len.toNat).length = r.len.toNat:=by
  rw [List.length_take,List.length_drop,h4];omega
 have hlen:(rowTo P (l.take k) off L).length = L:=rowTo_length _ _ _ _
 have hlt:∀ (l:List PartA) (j:Nat),j < L → (rowTo P l off L)[j]? = some (byteAt P l (off + (j:Int))):=fun l j hj => by
  unfold rowTo
  rw [List.getElem?_map,List.getElem?_range hj]
  rfl
 have hsl:(splice (rowTo P (l.take k) off L) (r.off - off).toNat (((pieceOf P r.chunk).drop r.pos.toNat).take r.len.toNat)).length = L:=by
  rw [length_splice _ _ _ (by rw [hcl,hlen];omega),hlen]
 apply List.ext_getElem?
 intro j
 by_cases hjL:j < L
 ·rw [hlt _ _ hjL,byteAt_succ hp,h7 _ (by omega) (by omega)]
  unfold splice
  by_cases a:j < (r.off - off).toNat
  ·rw [List.getElem?_append_left (by rw [List.length_take,hlen];omega),List.getElem?_take_of_lt a,hlt _ _ hjL]
   unfold covB
   rw [if_neg (by omega)]
   rfl
  ·rw [List.getElem?_append_right (by rw [List.length_take,hlen];omega),show (List.take (r.off - off).toNat (rowTo P (l.take k) off L)).length = (r.off - off).toNat by rw [List.length_take,hlen];omega]
   by_cases b:j < (r.off - off).toNat + r.len.toNat
   ·rw [List.getElem?_append_left (by rw [hcl];omega),List.getElem?_take_of_lt (by omega),List.getElem?_drop]
    unfold covB
    rw [if_pos (by omega)]
    simp only [Option.getD_some]
    rw [List.getD_eq_getElem?_getD,show r.pos.toNat + (j - (r.off - off).toNat) = (r.pos + (off + (j:Int) - r.off)).toNat by omega]
    rw [List.getElem?_eq_getElem (by rw [h4];omega)]
    rfl
   ·rw [List.getElem?_append_right (by rw [hcl];omega),List.getElem?_drop,hcl]
    rw [show (r.off - off).toNat + r.len.toNat + (j - (r.off - off).toNat - r.len.toNat) = j by omega,hlt _ _ hjL]
    unfold covB
    rw [if_neg (by omega)]
    rfl
 ·rw [List.getElem?_eq_none (by rw [rowTo_length];omega),List.getElem?_eq_none (by rw [hsl];omega)]
end Go.Proofs.YtaonlcgneemimaaGreatDoor
namespace Go.Proofs.YtaonlcgneemimaaGreatDoor
open Go.RowKit
theorem madeCells_one (v:Value) (n:Nat) (h:v.cells = #[v]):madeCells v.cells n = (List.replicate n v).toArray:=by
 apply Array.ext'
 rw [h]
 simp [madeCells]
 apply List.ext_getElem
 ·simp
 ·intro i h1 h2
  simp [Nat.mod_one]
theorem made_bytes (n:Nat):madeCells (Value.int .u8 0).cells n = (u8s (List.replicate n 0)).toArray:=by
 rw [madeCells_one _ _ rfl]
 simp [u8s]
theorem mul_one' (n i:Nat) (h:i = 1):n * i = n:=by subst h;omega
set_option maxHeartbeats 1000000 in
theorem mk_bytes (w:World) (n:Nat) (hn:n ≤ 1000000):(Instr.makeSlice 33 (.int .i64 n) (.int .i64 n)).run Tryz.prog w = .ok (.slice (some ⟨w.heap.size,0,none⟩) n n) (w.alloc (.cells (u8s (List.replicate n 0)).toArray 5)):=by
 obtain ⟨i0,hi,hz0,hz1,hz2⟩:=info_parts info5
 have h:=run_makeSlice (P:=Tryz.prog) w 33 5 i0 _ Tryz.underlying33 hi hz0 .i64 .i64 (n:Int) (n:Int) (by omega) (by omega) (by rw [mul_one' _ _ hz1];simp;omega) (by rw [hz2];omega) (by omega)
 rw [mul_one' _ _ hz1] at h
 simp only [Int.toNat_natCast] at h
 rw [made_bytes] at h
 exact h
theorem rowTo_zero (P:List (List Int)) (off:Int) (L:Nat):rowTo P [] off L = List.replicate L 0:=by
 unfold rowTo byteAt
 simp [List.map_const']
def wholeB (P:List (List Int)) (b:BodyA):Prop:=∀ p ∈ b.parts,1 ≤ p.chunk ∧ ∃ piece,P[(p.chunk - 1).toNat]? = some piece ∧ p.pos + p.len ≤ piece.length
theorem may_part {b:BodyA} (h:b.may) (p:PartA) (hp:p ∈ b.parts):p.fits ∧ 0 ≤ p.off ∧ p.off ≤ 1099511627776:=by
 obtain ⟨h1,h2,h3⟩:=mayParts_mem h.2.2 p hp
 have:=h.2.1
 have:=h1.1
 exact ⟨h1,h2,by omega⟩
theorem ahead_some {e:Int} {p q:PartA} (h:aheadP e p = some q) (hl:0 < p.len):q.off = p.off ∧ 0 < q.len ∧ q.len ≤ p.len ∧ q.chunk = p.chunk ∧ q.pos = p.pos:=by
 unfold aheadP at h
 by_cases c:e ≤ p.off
 ·rw [if_pos c] at h;simp at h
 ·rw [if_neg c] at h
  simp only [Option.some.injEq] at h
  subst h
  exact ⟨rfl,by simp;omega,by simp;omega,rfl,rfl⟩
theorem pieceOf_eq {P:List (List Int)} {id:Int} {piece:List Int} (h:P[(id - 1).toNat]? = some piece):pieceOf P id = piece:=by
 unfold pieceOf
 rw [List.getD_eq_getElem?_getD,h]
 rfl
theorem own_pos {w:World} {B e sz n:Nat} {v:Value} {xs:List Value} (h:w.ownsRow B e sz v n xs) (h0:0 < n):∃ (g cap:Nat) (cur:Array Value),v = .slice (some ⟨g,0,none⟩) n cap ∧ B ≤ g ∧ w.heap[g]? = some (.cells cur e (0,0)) ∧ n ≤ cap ∧ cap ≤ maxLen ∧ cur.size = cap * sz ∧ cur.toList.take (n * sz) = xs:=by
 rcases h.2 with ⟨_,h⟩ | h
 ·omega
 ·exact h
theorem splice_map {α β:Type} (f:α → β) (l:List α) (d:Nat) (cs:List α):(splice l d cs).map f = splice (l.map f) d (cs.map f):=by
 simp [splice,List.map_take,List.map_drop]
theorem copy_step {w7:World} {g g9 d L rpn rln cap9 sLen:Nat} {row piece:List Int} {cur9:Array Value} (hg:w7.heap[g]? = some (.cells (u8s row).toArray 5 (0,0))) (hg9:w7.heap[g9]? = some (.cells cur9 5 (0,0))) (ht9:cur9.toList.take (piece.length * 1) = u8s piece)
  (hrow:row.length = L) (h1:d + rln ≤ L) (h2:rpn + rln ≤ piece.length) (hsl:sLen = rln) :
  ∃ w8,(Builtin.copy_ #[33,33] 3 #[.slice (some ⟨g,d,none⟩) (L - d) (L - d),.slice (some ⟨g9,rpn,none⟩) sLen (cap9 - rpn)]).run Tryz.prog w7 = .ok (.int .i64 rln) w8 ∧ w8.heap[g]? = some (.cells (u8s (splice row d ((piece.drop rpn).take rln))).toArray 5 (0,0)) ∧ (∀ B w0,Below B w0 w7 → B ≤ g → Below B w0 w8) ∧ ∀ k,k ≠ g → w8.heap[k]? = w7.heap[k]?:=by
 subst hsl
 obtain ⟨i0,hi,hz0,hz1,hz2⟩:=info_parts info5
 have hcl:(u8s ((piece.drop rpn).take sLen)).length = sLen:=by simp [u8s];omega
 have hrun:=run_copy_row (P:=Tryz.prog) w7 33 33 3 5 g d (L - d) (L - d) ⟨g9,rpn,none⟩ sLen (cap9 - rpn) (u8s row).toArray 5 (u8s ((piece.drop rpn).take sLen)) Tryz.underlying33 (by rw [hi];simp [hz1]) hg (by rw [hcl];exact (Nat.min_eq_left (by omega)).symm)
  (fun j v hj => by
   rw [show (⟨g9,rpn,none⟩:Addr).add j = ⟨g9,rpn + j,none⟩ by unfold Addr.add;split <;> simp_all]
   rw [cellAt hg9]
   have hjl:j < sLen:=by have:=(List.getElem?_eq_some_iff.1 hj).1;omega
   have h3:(u8s piece)[rpn + j]? = some v:=by
    simp only [u8s,List.map_take,List.map_drop] at hj
    rw [List.getElem?_take_of_lt hjl,List.getElem?_drop] at hj
    exact hj
   rw [← ht9,List.getElem?_take_of_lt (by omega)] at h3
   simpa using h3)
  (by rw [hcl];simp [u8s];omega) (u8s_one _)
 rw [hcl] at hrun
 have hE:(u8s row).toArray.toList.take d ++ u8s ((piece.drop rpn).take sLen) ++ (u8s row).toArray.toList.drop (d + sLen) = u8s (splice row d ((piece.drop rpn).take sLen)):=by
  have h3:=splice_map (Value.int IntKind.u8) row d ((piece.drop rpn).take sLen)
  have h4:(List.map (Value.int IntKind.u8) (List.take sLen (List.drop rpn piece))).length = sLen:=hcl
  unfold u8s
  rw [h3]
  unfold splice
  rw [h4,List.append_assoc]
 rw [hE] at hrun
 exact ⟨_,hrun,setRow_heap w7 g _ _ 5 (0,0) hg,fun B w0 hb hB => below_setRow hb hB _,fun k hk => setRow_other _ _ k _ hk⟩
set_option maxRecDepth 100000 in
set_option maxHeartbeats 4000000 in
theorem bodyRead_any (w:World) (v:Value) (b:BodyA) (hv:BodyV w v b) (hm:b.may) (hn:b.parts.length ≤ 10000) (B c:Nat) (P:List (List Int)) (bl bb:Nat) (vs:List Value) (fb:Int → Option Value) (m:Nat) (sz:Int) (H:ChunksAt w B c P bl bb vs fb m sz) (hw:wholeB P b)
  (off n:Int) (h0:0 ≤ off) (h1:off ≤ 1099511627776) (h2:0 ≤ n) (h3:n ≤ 4096) :
  Calls Tryz.prog 38 #[v,.pointer (some ⟨c,0,none⟩),.int .i64 off,.int .i64 n] w fun e w' => ∃ v',e = .returned (.tuple #[v',.int .i64 0]) ∧ Sl w' 5 1 v' (readB P b off n).length (u8s (readB P b off n)) ∧ Below w.heap.size w w':=by
 have HV:=Lib.hid hv
 have HM:=Lib.hid hm
 have HH:=Lib.hid H
 have HW:=Lib.hid hw
 obtain ⟨s,rfl,hsl⟩:=hv
 obtain ⟨pa,pc,rfl,hcap,-,hcells⟩:=parts_cells hsl
 have HC:=Lib.hid hcells
 obtain ⟨e,he⟩:∃ e,Hid (min b.size (off + n) = e):=⟨_,rfl⟩
 have hbs:=hm.1
 have hbs2:=hm.2.1
 have e1:=IntWalk.wrap64_in (off + n) (by omega)
 have d1:decide (off < 0) = false:=by simp;omega
 have d2:decide (n < 0) = false:=by simp;omega
 have d3:decide (4096 < n) = false:=by simp;omega
 have HMAY:=Lib.hid (fun w' (hb:Below w.heap.size w w') => may_any b _ w' (HV.out.kept (fun k arr hk => Below.heap hb (Nat.le_refl _) hk)) HM.out (by omega))
 have HX0:=Lib.hid (heap_new w (.cells #[.int .i64 b.size,.slice pa b.parts.length pc] 100))
 clear hm H hw hsl hcells
 have hb0:∀ o,Below w.heap.size w (w.alloc o):=fun o => (Below.refl _ _).alloc (Nat.le_refl _) _
 go_enter Tryz.func38,Tryz.ntmps38
 by_cases hoe:min b.size (off + n) ≤ off
 ·have HR:=Lib.hid (show readB P b off n = [] by unfold readB;rw [show (min b.size (off + n) - off).toNat = 0 by omega];rfl)
  go_wp2_with (go_at_call 79;refine (HMAY.out _ (hb0 _)).mono ?_;rintro e w1 ⟨rfl,hq⟩;have HQ:=Lib.hid ((hb0 (.cells #[.int .i64 b.size,.slice pa b.parts.length pc] 100)).trans (hq.mono (hb0 _).size));have HX1:=Lib.hid (Below.heap hq (Nat.le_refl _) HX0.out);have hlt1:w.heap.size < w1.heap.size:=heap_lt HX1.out;have x0:=cellAt HX1.out 0;have x1:=cellAt HX1.out 1;simp only [List.getElem?_toArray,List.getElem?_cons_zero,List.getElem?_cons_succ] at x0 x1;clear hq)
  go_ret2
  refine ⟨_,rfl,?_,HQ.out⟩
  rw [HR.out]
  exact Sl.nil _ _ _
 ·obtain ⟨L,hL⟩:∃ L:Nat,min b.size (off + n) = off + (L:Int):=⟨(min b.size (off + n) - off).toNat,by omega⟩
  have HR:=Lib.hid (show readB P b off n = rowTo P b.parts off L by unfold readB;rw [hL];congr 1;omega)
  have hL4:L ≤ 4096:=by omega
  have hL0:0 < L:=by omega
  have hmk:∀ w,(Instr.makeSlice 33 (.int .i64 (off + (L:Int) - off)) (.int .i64 (off + (L:Int) - off))).run Tryz.prog w = .ok (.slice (some ⟨w.heap.size,0,none⟩) L L) (w.alloc (.cells (u8s (List.replicate L 0)).toArray 5)):=fun w => by
   rw [show off + (L:Int) - off = L by omega]
   exact mk_bytes w L (by omega)
  have hoe2:¬ (off + (L:Int) ≤ off):=by omega
  go_wp2_with (go_at_call 79;refine (HMAY.out _ (hb0 _)).mono ?_;rintro e w1 ⟨rfl,hq⟩;have HQ:=Lib.hid ((hb0 (.cells #[.int .i64 b.size,.slice pa b.parts.length pc] 100)).trans (hq.mono (hb0 _).size));have HX1:=Lib.hid (Below.heap hq (Nat.le_refl _) HX0.out);have hlt1:w.heap.size < w1.heap.size:=heap_lt HX1.out;have x0:=cellAt HX1.out 0;have x1:=cellAt HX1.out 1;simp only [List.getElem?_toArray,List.getElem?_cons_zero,List.getElem?_cons_succ] at x0 x1;clear hq)
  go_loopw [53] (fun ti wr => ∃ k:Nat,k ≤ b.parts.length ∧ ti = .int .i64 k ∧ Hid (wr.heap[w1.heap.size]? = some (.cells (u8s (rowTo P (b.parts.take k) off L)).toArray 5 (0,0))) ∧ Hid (Below w.heap.size w wr)) (fun i _ => b.parts.length - (intOf i).toNat)
  case atStart =>
   refine ⟨0,by omega,rfl,?_,HQ.out.alloc HQ.out.size _⟩
   rw [List.take_zero,rowTo_zero]
   exact heap_new w1 _
  case round =>
   obtain ⟨k,hk,rfl,hrow,hbel⟩:=hrel
   have hw1:=HQ.out.size
   by_cases hlt:k < b.parts.length
   ·obtain ⟨p,hp⟩:∃ p,b.parts[k]? = some p:=⟨_,List.getElem?_eq_getElem hlt⟩
    have hmem:=List.mem_of_getElem? hp
    obtain ⟨hfit,hpo,hps⟩:=may_part HM.out p hmem
    obtain ⟨hch,piece,hpc,hpl⟩:=HW.out p hmem
    obtain ⟨g0,o0,rfl,hg,c0,c1,c2,c3⟩:=HC.out k p hp
    have t:∀ o u,w.cell? ⟨g0,o,none⟩ = some u → wr.cell? ⟨g0,o,none⟩ = some u:=fun o u h => by
     rw [hbel.out.cell (p:=⟨g0,o,none⟩) hg]
     exact h
    have q0:=t _ _ c0
    have q1:=t _ _ c1
    have q2:=t _ _ c2
    have q3:=t _ _ c3
    have HP:=Lib.hid hp
    have f1:=hfit.1
    have f2:=hfit.2.1
    have f3:=hfit.2.2.2.2.1
    have f4:=hfit.2.2.2.2.2
    have HPC:=Lib.hid hpc
    have hcall:=fun w => ahead_any p (off + L) hpo (by omega) (by omega) (by omega) w
    clear c0 c1 c2 c3 t hfit hpc hmem hp
    cases hA:aheadP (off + L) p with
    | none =>
     rw [hA] at hcall
     have HCALL:=Lib.hid hcall
     have HV0:=Lib.hid (show visP (off + L) off p = none by unfold visP;rw [hA];rfl)
     clear hcall hA
     go_wp2_with (go_at_call 80;refine (HCALL.out _).mono ?_;rintro e w2 ⟨rfl,x1,x2,rfl⟩;simp only [optPart])
     go_roundw
     case rel =>
      refine ⟨k + 1,by omega,by go_num,?_,((((hbel.out.alloc (hbel.out.size) _).alloc (by have:=hbel.out.size;simp;omega) _).alloc (by have:=hbel.out.size;simp;omega) _).alloc (by have:=hbel.out.size;simp;omega) _)⟩
      rw [row_none HP.out HV0.out]
      exact heap_old (heap_old (heap_old (heap_old hrow.out _) _) _) _
     case measure => simp [intOf];omega
    | some q =>
     rw [hA] at hcall
     obtain ⟨qo,ql,qc,qp⟩:=q
     obtain ⟨rfl,u2,u3,rfl,rfl⟩:qo = p.off ∧ 0 < ql ∧ ql ≤ p.len ∧ qc = p.chunk ∧ qp = p.pos:=ahead_some hA (by omega)
     have hcall2:=fun w => behind_any ⟨p.off,ql,p.chunk,p.pos⟩ off hpo (by show p.off ≤ _;omega) (by show 0 ≤ ql;omega) (by show ql ≤ 64;omega) f3 (by show p.pos ≤ 64;omega) (by omega) (by omega) w
     cases hB:behindP off ⟨p.off,ql,p.chunk,p.pos⟩ with
     | none =>
      rw [hB] at hcall2
      have HCALL:=Lib.hid hcall
      have HCALL2:=Lib.hid hcall2
      have HV0:=Lib.hid (show visP (off + L) off p = none by unfold visP;rw [hA];exact hB)
      clear hcall hA hcall2 hB
      go_wp2_with (first | (go_at_call 80;refine (HCALL.out _).mono ?_;rintro e w2 ⟨rfl,x1,x2,rfl⟩;simp only [optPart,PartA.val]) | (go_at_call 81;refine (HCALL2.out _).mono ?_;rintro e w2 ⟨rfl,x3,x4,x5,rfl⟩;simp only [optPart,PartA.val]))
      go_roundw
      case rel =>
       have hs9:=hbel.out.size
       refine ⟨k + 1,by omega,by go_num,?_,?_⟩
       ·rw [row_none HP.out HV0.out]
        exact heap_old (heap_old (heap_old (heap_old (heap_old (heap_old (heap_old hrow.out _) _) _) _) _) _) _
       ·exact ((((((hbel.out.alloc hs9 _).alloc (by simp;omega) _).alloc (by simp;omega) _).alloc (by simp;omega) _).alloc (by simp;omega) _).alloc (by simp;omega) _).alloc (by simp;omega) _
      case measure => simp [intOf];omega
     | some r =>
      rw [hB] at hcall2
      have HCALL:=Lib.hid hcall
      have HCALL2:=Lib.hid hcall2
      have hvis:visP (off + L) off p = some r:=by unfold visP;rw [hA];exact hB
      have HV1:=Lib.hid hvis
      obtain ⟨ro,rl,rc,rp⟩:=r
      obtain ⟨r1,r2,r3,rfl,r5,r6,-⟩:off ≤ ro ∧ 0 < rl ∧ ro + rl ≤ off + L ∧ rc = p.chunk ∧ p.pos ≤ rp ∧ rp + rl ≤ p.pos + p.len ∧ True:=by
       obtain ⟨a1,a2,a3,a4,a5,a6,-⟩:=vis_some (P:=P) hvis (by omega)
       exact ⟨a1,a2,a3,a4,a5,a6,trivial⟩
      have hsm:=HH.out.small.1
      have hjl:=(List.getElem?_eq_some_iff.1 HPC.out).1
      have hj:(((p.chunk - 1).toNat:Nat):Int) + 1 = p.chunk:=by omega
      have HGET:=Lib.hid (fun w' (hb:Below w.heap.size w w') => get_any w' B c P bl bb vs fb m sz (HH.out.below hb) (p.chunk - 1).toNat piece HPC.out)
      rw [hj] at HGET
      have hs9:=hbel.out.size
      have hpl64:piece.length ≤ 64:=by
       obtain ⟨pv,hpv⟩:∃ pv,vs[(p.chunk - 1).toNat]? = some pv:=⟨_,List.getElem?_eq_getElem (by have:=HH.out.pieces.1;omega)⟩
       exact (HH.out.pieces.2 _ pv piece hpv HPC.out).2.2.2
      have e2:=IntWalk.wrap64_in (rp + rl) (by omega)
      have d4:decide ((piece.length:Int) < rp + rl) = false:=by simp;omega
      clear hcall hA hcall2 hB hvis hj hjl
      have HB6:Hid (∀ o1 o2 o3 o4 o5 o6 o7,Below w.heap.size w (((((((wr.alloc o1).alloc o2).alloc o3).alloc o4).alloc o5).alloc o6).alloc o7)):=Lib.hid (fun o1 o2 o3 o4 o5 o6 o7 => ((((((hbel.out.alloc hs9 _).alloc (by simp;omega) _).alloc (by simp;omega) _).alloc (by simp;omega) _).alloc (by simp;omega) _).alloc (by simp;omega) _).alloc (by simp;omega) _)
      have HX6:Hid (∀ o1 o2 o3 o4 o5 o6 o7,((((((((wr.alloc o1).alloc o2).alloc o3).alloc o4).alloc o5).alloc o6).alloc o7)).heap[wr.heap.size + 3]? = some o4):=Lib.hid (fun o1 o2 o3 o4 o5 o6 o7 => by
       have h:=heap_new (((wr.alloc o1).alloc o2).alloc o3) o4
       simp only [World.size_alloc] at h
       exact heap_old (heap_old (heap_old h _) _) _)
      have HR6:Hid (∀ o1 o2 o3 o4 o5 o6 o7,((((((((wr.alloc o1).alloc o2).alloc o3).alloc o4).alloc o5).alloc o6).alloc o7)).heap[w1.heap.size]? = some (.cells (u8s (rowTo P (b.parts.take k) off L)).toArray 5 (0,0))):=Lib.hid (fun o1 o2 o3 o4 o5 o6 o7 => heap_old (heap_old (heap_old (heap_old (heap_old (heap_old (heap_old hrow.out _) _) _) _) _) _) _)
      go_wp2_with (first | (go_at_call 80;refine (HCALL.out _).mono ?_;rintro e w2 ⟨rfl,x1,x2,rfl⟩;simp only [optPart,PartA.val]) | (go_at_call 81;refine (HCALL2.out _).mono ?_;rintro e w2 ⟨rfl,x3,x4,x5,rfl⟩;simp only [optPart,PartA.val]) | (go_at_call 68;refine (HGET.out _ (HB6.out _ _ _ _ _ _ _)).mono ?_;rintro e w7 ⟨dv,rfl,ho,hn,hq⟩;have HQ7:=Lib.hid ((HB6.out _ _ _ _ _ _ _).trans (hq.mono (HB6.out _ _ _ _ _ _ _).size));have hX7:=Below.heap hq (Nat.le_refl _) (HX6.out _ _ _ _ _ _ _);have HX7:=Lib.hid hX7;have HR7:=Lib.hid (Below.heap hq (Nat.le_refl _) (HR6.out _ _ _ _ _ _ _));have y0:=cellAt hX7 0;have y1:=cellAt hX7 1;have y3:=cellAt hX7 3;simp only [List.getElem?_toArray,List.getElem?_cons_zero,List.getElem?_cons_succ] at y0 y1 y3;obtain ⟨g9,cap9,cur9,rfl,hB9,hg9,hc9,hm9,hs9',ht9⟩:=own_pos ho (by omega);have HG9:=Lib.hid hg9;have HT9:=Lib.hid ht9;clear ho hn hq hX7 hg9 ht9))
      obtain ⟨d,rfl⟩:∃ d:Nat,ro = off + (d:Int):=⟨(ro - off).toNat,by omega⟩
      obtain ⟨rpn,rfl⟩:∃ d:Nat,rp = (d:Int):=⟨rp.toNat,by omega⟩
      obtain ⟨rln,rfl⟩:∃ d:Nat,rl = (d:Int):=⟨rl.toNat,by omega⟩
      clear e2 d4
      have e4:IntKind.i64.wrap (off + (d:Int) - off) = (d:Int):=by
       have:off + (d:Int) - off = d:=by omega
       rw [this]
       exact IntWalk.i64_in (d:Int) (by omega)
      have e5:IntKind.i64.wrap ((rpn:Int) + rln) = (rpn:Int) + rln:=IntWalk.i64_in _ (by omega)
      have z1:¬ (L = d):=by omega
      have z2:¬ (cap9 = rpn):=by omega
      have z5:(d:Int) ≤ L:=by omega
      have z6:(rpn:Int) + rln ≤ cap9:=by omega
      have z7:(rpn:Int) ≤ (rpn:Int) + rln:=by omega
      have z8:(0:Int) ≤ (rpn:Int) + rln:=by omega
      have hrl:(rowTo P (b.parts.take k) off L).length = L:=rowTo_length _ _ _ _
      obtain ⟨w8,hrun,hrow8,hb8,hk8⟩:=copy_step (w7:=w7.drew) (g:=w1.heap.size) (g9:=g9) (d:=d) (L:=L) (rpn:=rpn) (rln:=rln) (cap9:=cap9) (sLen:=((rpn:Int) + rln).toNat - rpn) (cur9:=cur9) HR7.out HG9.out HT9.out hrl (by omega) (by omega) (by omega)
      have HROW8:=Lib.hid hrow8
      have HB8:=Lib.hid hb8
      have hX8:=(hk8 (wr.heap.size + 3) (by have:=heap_lt hrow.out;omega)).trans HX7.out
      have v0:=cellAt hX8 0
      have v1:=cellAt hX8 1
      have v3:=cellAt hX8 3
      simp only [List.getElem?_toArray,List.getElem?_cons_zero,List.getElem?_cons_succ] at v0 v1 v3
      clear hrow8 hb8 hk8 hX8
      go_region_held3 (fun W => W.cell? ⟨wr.heap.size + 3,0,none⟩ = some (.int .i64 (off + (d:Int))) ∧ W.cell? ⟨wr.heap.size + 3,1,none⟩ = some (.int .i64 rln) ∧ W.cell? ⟨wr.heap.size + 3,3,none⟩ = some (.int .i64 rpn)) (first | exact ⟨y0,y1,y3⟩ | exact ⟨v0,v1,v3⟩) (first | (refine step_copy_runI rfl _ _ 33 33 rfl _ _ rfl rfl hrun ?_))
      go_wp2_with fail
      go_roundw
      case rel =>
       refine ⟨k + 1,by omega,by go_num,?_,HB8.out _ _ HQ7.out.drew (by omega)⟩
       rw [row_some HP.out HV1.out (by omega) f3 (by rw [pieceOf_eq HPC.out];exact hpl)]
       have hh:=HROW8.out
       rw [show ((off + (d:Int)) - off).toNat = d by omega]
       rw [pieceOf_eq HPC.out]
       show _ = _
       simpa using hh
      case measure => simp [intOf];omega
   ·have hkl:k = b.parts.length:=by omega
    subst hkl
    go_wp2
    go_ret2
    refine ⟨_,rfl,?_,hbel.out⟩
    rw [HR.out]
    have hh:=hrow.out
    rw [List.take_length] at hh
    refine ⟨by simp [u8s],u8s_one _,.inr ⟨w1.heap.size,0,L,_,?_,by rw [rowTo_length];exact hL0,by rw [rowTo_length];exact Nat.le_refl _,by unfold maxLen;omega,hh,fun j u hj => by simpa using hj⟩⟩
    rw [rowTo_length]
    rfl
end Go.Proofs.YtaonlcgneemimaaGreatDoor
namespace Go.Proofs.YtaonlcgneemimaaGreatDoor
open Go.RowKit
open Go.Maps (Keyed)
open Go.ChangeMaps Go.MapKept
structure DiskAt (w:World) (d l cb m k:Nat):Prop where
 cell:∃ ops,w.heap[d]? = some (.cells #[.slice (some ⟨l,0,none⟩) m m,.map (some cb),.int .i64 (-1),.bool false,.int .i64 ops] 64 (0,0))
 row:∃ arr,w.heap[l]? = some (.cells arr 33 (0,0)) ∧ arr.size = m
 map:∃ n f,MapX KI w cb n f ∧ n ≤ k ∧ ∀ x v,f x = some v → 0 ≤ x ∧ x < m ∧ ∃ a i c,v = .slice a i c
 few:m ≤ 776
theorem DiskAt.ne1 {w:World} {d l cb m k:Nat} (h:DiskAt w d l cb m k):l ≠ d:=by
 obtain ⟨ops,hc⟩:=h.cell
 obtain ⟨arr,hr,_⟩:=h.row
 rintro rfl
 rw [hc] at hr
 injection hr with hr
 injection hr with _ hr
 exact absurd hr (by decide)
theorem DiskAt.ne2 {w:World} {d l cb m k:Nat} (h:DiskAt w d l cb m k):cb ≠ d ∧ cb ≠ l:=by
 obtain ⟨ops,hc⟩:=h.cell
 obtain ⟨arr,hr,_⟩:=h.row
 obtain ⟨n,f,hm,_⟩:=h.map
 exact ⟨by rintro rfl;exact hm.cells hc,by rintro rfl;exact hm.cells hr⟩
theorem DiskAt.lt {w:World} {d l cb m k:Nat} (h:DiskAt w d l cb m k):d < w.heap.size ∧ l < w.heap.size ∧ cb < w.heap.size:=by
 obtain ⟨ops,hc⟩:=h.cell
 obtain ⟨arr,hr,_⟩:=h.row
 obtain ⟨n,f,hm,_⟩:=h.map
 exact ⟨heap_lt hc,heap_lt hr,hm.lt⟩
theorem DiskAt.same {w w':World} {d l cb m k:Nat} (h:DiskAt w d l cb m k) (h1:w'.heap[d]? = w.heap[d]?) (h2:w'.heap[l]? = w.heap[l]?) (h3:w'.heap[cb]? = w.heap[cb]?):DiskAt w' d l cb m k:=by
 obtain ⟨⟨ops,hc⟩,⟨arr,hr,hs⟩,⟨n,f,hm,hn⟩,hf⟩:=h
 exact ⟨⟨ops,h1.trans hc⟩,⟨arr,h2.trans hr,hs⟩,⟨n,f,hm.same h3,hn⟩,hf⟩
theorem DiskAt.below {w w':World} {d l cb m k:Nat} (h:DiskAt w d l cb m k) (hb:Below w.heap.size w w'):DiskAt w' d l cb m k :=
 h.same (hb.block _ h.lt.1) (hb.block _ h.lt.2.1) (hb.block _ h.lt.2.2)
theorem DiskAt.frame {M:List Nat} {w w':World} {d l cb m k:Nat} (h:DiskAt w d l cb m k) (hb:Frame M w w') (h1:d ∉ M) (h2:l ∉ M) (h3:cb ∉ M):DiskAt w' d l cb m k :=
 h.same (hb.block _ h.lt.1 h1) (hb.block _ h.lt.2.1 h2) (hb.block _ h.lt.2.2 h3)
theorem DiskAt.tick {w:World} {d l cb m k:Nat} (h:DiskAt w d l cb m k) (x:Int):DiskAt (w.setCell ⟨d,4,none⟩ (.int .i64 x)) d l cb m k:=by
 have h1:=h.ne1
 have h2:=h.ne2
 obtain ⟨⟨ops,hc⟩,⟨arr,hr,hs⟩,⟨n,f,hm,hn⟩,hf⟩:=h
 refine ⟨⟨x,?_⟩,⟨arr,(heap_set_ne _ h1).trans hr,hs⟩,⟨n,f,hm.same (heap_set_ne _ h2.1),hn⟩,hf⟩
 have:=setAt hc 4 (.int .i64 x)
 simpa using this
theorem DiskAt.facts {w:World} {d l cb m k:Nat} (h:DiskAt w d l cb m k):w.cell? ⟨d,0,none⟩ = some (.slice (some ⟨l,0,none⟩) m m) ∧ w.cell? ⟨d,1,none⟩ = some (.map (some cb)) ∧ w.cell? ⟨d,2,none⟩ = some (.int .i64 (-1)) ∧ w.cell? ⟨d,3,none⟩ = some (.bool false) ∧ (∃ ops,w.cell? ⟨d,4,none⟩ = some (.int .i64 ops)) ∧ w.frozen? ⟨d,4,none⟩ = false:=by
 obtain ⟨ops,hc⟩:=h.cell
 exact ⟨cellAt hc 0,cellAt hc 1,cellAt hc 2,cellAt hc 3,⟨ops,cellAt hc 4⟩,frozenAt hc 4⟩
theorem sectors_any (w:World) (d l cb m k:Nat) (H:DiskAt w d l cb m k) :
  Calls Tryz.prog 91 #[.pointer (some ⟨d,0,none⟩)] w fun e w' => e = .returned (.int .i64 m) ∧ w' = w:=by
 obtain ⟨c0,c1,c2,c3,-,-⟩:=H.facts
 clear H
 go_enter Tryz.func91,Tryz.ntmps91
 go_wp2
 go_ret
 exact ⟨rfl,rfl⟩
theorem alive_any (w:World) (d l cb m k:Nat) (H:DiskAt w d l cb m k) :
  Calls Tryz.prog 165 #[.pointer (some ⟨d,0,none⟩)] w fun e w' => e = .returned (.int .i64 0) ∧ w' = w:=by
 obtain ⟨c0,c1,c2,c3,-,-⟩:=H.facts
 clear H
 go_enter Tryz.func165,Tryz.ntmps165
 go_wp2
 go_ret
 exact ⟨rfl,rfl⟩
theorem there_any (w:World) (d l cb m k:Nat) (H:DiskAt w d l cb m k) (n:Nat) (hn:n < m) :
  Calls Tryz.prog 191 #[.pointer (some ⟨d,0,none⟩),.int .i64 n] w fun e w' => e = .returned (.bool true) ∧ w' = w:=by
 obtain ⟨c0,c1,c2,c3,-,-⟩:=H.facts
 clear H
 have d1:decide ((n:Int) < (m:Int)) = true:=by simpa using hn
 go_enter Tryz.func191,Tryz.ntmps191
 go_wp2
 go_ret
 exact ⟨rfl,rfl⟩
theorem burn_any (w:World) (d l cb m k:Nat) (H:DiskAt w d l cb m k) :
  Calls Tryz.prog 166 #[.pointer (some ⟨d,0,none⟩)] w fun e w' => e = .returned (.int .i64 0) ∧ ∃ x,w' = w.setCell ⟨d,4,none⟩ (.int .i64 x):=by
 obtain ⟨c0,c1,c2,c3,⟨ops,c4⟩,f4⟩:=H.facts
 clear H
 go_enter Tryz.func166,Tryz.ntmps166
 go_wp2
 go_ret
 exact ⟨rfl,_,rfl⟩
theorem KI_in {x:Int} {m:Nat} (h:0 ≤ x ∧ x < m) (hm:m ≤ 776):KI.good x:=KI_good (by omega)
theorem DiskAt.put {w:World} {d l cb m k:Nat} (h:DiskAt w d l cb m k) (hk:k ≤ 1000000) (n:Nat) (hn:n < m) (v:Value) (hv:∃ a i c,v = .slice a i c) :
  ∃ w',(Instr.mapUpdate 62 (.map (some cb)) (.int .i64 (n:Int)) v).run Tryz.prog w = .ok () w' ∧ DiskAt w' d l cb m (k + 1) ∧ Frame [cb] w w':=by
 have h1:=h.ne1
 have h2:=h.ne2
 obtain ⟨⟨ops,hc⟩,⟨arr,hr,hs⟩,⟨n0,f,hm,hn0,hx⟩,hf⟩:=h
 have hml:maxLen = 9223372036854775807:=by decide
 obtain ⟨w',hrun,hm',ht⟩:=hm.store Tryz.underlying62 (by omega) (x:=(n:Int)) (KI_in (m:=m) (by omega) hf) v
 refine ⟨w',hrun,⟨⟨ops,turned_keep ht hc h2.1.symm⟩,⟨arr,turned_keep ht hr h2.2.symm,hs⟩,⟨_,_,hm',by split <;> omega,fun x v' hv' => ?_⟩,hf⟩,((Frame.refl [cb] w).turned ht (.inl (by simp)))⟩
 simp only [fput] at hv'
 split at hv'
 ·cases hv'
  rename_i e
  subst e
  exact ⟨by omega,by omega,hv⟩
 ·exact hx x v' hv'
set_option maxHeartbeats 1000000 in
theorem diskWrite_any (w:World) (d l cb m k:Nat) (H:DiskAt w d l cb m k) (hk:k ≤ 1000000) (n:Nat) (hn:n < m) (v:Value) (xs:List Value) (hv:Sl w 5 1 v 64 xs) :
  Calls Tryz.prog 162 #[.pointer (some ⟨d,0,none⟩),.int .i64 n,v] w fun e w' => e = .returned (.int .i64 0) ∧ DiskAt w' d l cb m (k + 1) ∧ Frame [d,cb] w w':=by
 have HH:=Lib.hid H
 have HV:=Lib.hid hv
 obtain ⟨a,cap,rfl,hcap,-,-⟩:=hv.shape
 clear H hv
 go_enter Tryz.func162,Tryz.ntmps162
 go_wp2_with (first | (go_at_call 165;refine (alive_any _ _ _ _ _ _ HH.out).mono ?_;rintro e w1 ⟨rfl,hw⟩;have hw:=hw.symm;subst hw) | (go_at_call 191;refine (there_any _ _ _ _ _ _ HH.out n hn).mono ?_;rintro e w1 ⟨rfl,hw⟩;have hw:=hw.symm;subst hw) | (go_at_call 166;refine (burn_any _ _ _ _ _ _ HH.out).mono ?_;rintro e w1 ⟨rfl,hw⟩;have HD1:Hid (DiskAt w1 d l cb m k):=Lib.hid (by obtain ⟨x,rfl⟩:=hw;exact HH.out.tick x);have HF1:Hid (Frame [d,cb] w w1):=Lib.hid (by obtain ⟨x,rfl⟩:=hw;exact (Frame.refl _ _).setCell (.inl (by simp)) _);have HV1:Hid (Sl w1 5 1 (.slice a 64 cap) 64 xs):=Lib.hid (by obtain ⟨x,rfl⟩:=hw;refine HV.out.frame (M:=[d]) ((Frame.refl _ _).setCell (.inl (by simp)) _) ?_;intro g hg arr hga;simp at hg;subst hg;obtain ⟨ops,hc⟩:=HH.out.cell;rw [hc] at hga;injection hga with hga;injection hga with _ hga;exact absurd hga (by decide));have cQ0:=HD1.out.facts.2.1;clear hw))
 go_region_held3 (fun w' => w'.cell? ⟨d,1,none⟩ = some (.map (some cb))) (first | exact cQ0 | exact cQ2 | exact cQ3) (first | (go_at_call 119;refine (bytesClone_any _ _ _ _ (HV1.out.below ((Below.refl _ _).drew)) (by omega)).mono ?_;rintro e w2 ⟨v',rfl,ho,hn',hq⟩;have HQ2:Hid (Below w1.heap.size w1 w2):=Lib.hid (((Below.refl _ _).drew).trans hq);have HD2:Hid (DiskAt w2 d l cb m k):=Lib.hid (HD1.out.below HQ2.out);have cQ2:=HD2.out.facts.2.1;obtain ⟨w3,hrun,hd3,hf3⟩:=HD2.out.put hk n hn v' (by obtain ⟨a',c',e⟩:=own_shape ho;exact ⟨_,_,_,e⟩);have HD3:=Lib.hid hd3;have HF3:=Lib.hid hf3;have cQ3:=HD3.out.facts.2.1;clear ho hn' hq hd3 hf3))
 go_wp2_with fail
 go_ret
 exact ⟨rfl,HD3.out,(HF1.out.then_below HQ2.out).trans HF3.out (by simp)⟩
end Go.Proofs.YtaonlcgneemimaaGreatDoor
namespace Go.Proofs.YtaonlcgneemimaaGreatDoor
open Go.RowKit
open Go.Maps (Keyed)
open Go.ChangeMaps Go.MapKept
theorem DiskAt.store {w:World} {d l cb m k i:Nat} (h:DiskAt w d l cb m k) (u:Value):DiskAt (w.setCell ⟨l,i,none⟩ u) d l cb m k:=by
 have h1:=h.ne1
 have h2:=h.ne2
 obtain ⟨⟨ops,hc⟩,⟨arr,hr,hs⟩,⟨n,f,hm,hn⟩,hf⟩:=h
 exact ⟨⟨ops,(heap_set_ne _ h1.symm).trans hc⟩,⟨_,setAt hr i u,by simpa using hs⟩,⟨n,f,hm.same (heap_set_ne _ h2.2),hn⟩,hf⟩
theorem MapX.cleared {w:World} {cb n:Nat} {f:Int → Option Value} (h:MapX KI w cb n f) :
  ∃ w',(∀ ty,(Builtin.clear_ #[62] ty #[.map (some cb)]).run Tryz.prog w = .ok (.tuple #[]) w') ∧ MapX KI w' cb 0 (fun _ => none) ∧ Frame [cb] w w':=by
 obtain ⟨es,cl,hb⟩:=h.obj
 have hlt:=heap_lt hb
 refine ⟨{ w with heap:=w.heap.setIfInBounds cb (.map #[] cl) },fun ty => ?_,⟨.map [],⟨#[],cl,?_,⟨by simp,stamped_empty cl,by simp⟩,Nat.le_refl _,rfl⟩,rfl,fun x _ => ⟨fun v h => by simp at h,fun _ => ⟨rfl,fun z => rfl⟩⟩⟩,⟨rfl,rfl,rfl,by simp,fun k hk hne => ?_⟩⟩
 ·simp [Builtin.clear_,run_underlying Tryz.underlying62,MapKept.run_getObj_map hb,MapKept.run_setObj_map _ hb,Result.andThen]
 ·simp [hlt]
 ·simp only [List.mem_singleton] at hne
  simp [Ne.symm hne]
theorem DiskAt.clear {w:World} {d l cb m k:Nat} (h:DiskAt w d l cb m k):∃ w',(∀ ty,(Builtin.clear_ #[62] ty #[.map (some cb)]).run Tryz.prog w = .ok (.tuple #[]) w') ∧ DiskAt w' d l cb m 0 ∧ Frame [cb] w w':=by
 have h2:=h.ne2
 obtain ⟨⟨ops,hc⟩,⟨arr,hr,hs⟩,⟨n0,f,hm,hn0,hx⟩,hf⟩:=h
 obtain ⟨w',h1,hm',hfr⟩:=hm.cleared
 exact ⟨w',h1,⟨⟨ops,hfr.heap hc (by simpa using h2.1.symm)⟩,⟨arr,hfr.heap hr (by simpa using h2.2.symm),hs⟩,⟨0,_,hm',Nat.le_refl _,fun x v hv => by simp at hv⟩,hf⟩,hfr⟩
set_option maxRecDepth 100000 in
set_option maxHeartbeats 1000000 in
theorem flush_any (w:World) (d l cb m k:Nat) (H:DiskAt w d l cb m k) :
  Calls Tryz.prog 124 #[.pointer (some ⟨d,0,none⟩)] w fun e w' => e = .returned (.int .i64 0) ∧ DiskAt w' d l cb m 0 ∧ Frame [d,l,cb] w w':=by
 have HH:=Lib.hid H
 clear H
 go_enter Tryz.func124,Tryz.ntmps124
 go_wp2_with (first | (go_at_call 165;refine (alive_any _ _ _ _ _ _ HH.out).mono ?_;rintro e w1 ⟨rfl,hw⟩;have hw:=hw.symm;subst hw) | (go_at_call 166;refine (burn_any _ _ _ _ _ _ HH.out).mono ?_;rintro e w1 ⟨rfl,hw⟩;have HD1:Hid (DiskAt w1 d l cb m k):=Lib.hid (by obtain ⟨x,rfl⟩:=hw;exact HH.out.tick x);have HF1:Hid (Frame [d,l,cb] w w1):=Lib.hid (by obtain ⟨x,rfl⟩:=hw;exact (Frame.refl _ _).setCell (.inl (by simp)) _);have cQ0:=HD1.out.facts.2.1;have cQ1:=HD1.out.facts.1;clear hw;obtain ⟨n0,f,hm0,hn0,hx0⟩:=HD1.out.map;have HM0:=Lib.hid hm0;have HX0:=Lib.hid hx0;clear hm0 hx0) | (at_range;refine wpx_range _ rfl _ 62 rfl KI 33 Tryz.underlying62 cb n0 f rfl HM0.out ?_;intro w0 hrg0 hg0 hs0;have HR0:=Lib.hid hrg0;have HG0:=Lib.hid hg0;clear hrg0 hg0) | go_in)
 go_frame
 have hfew:=HH.out.few
 have hne1:=HH.out.ne1
 have hne2:=HH.out.ne2
 have hlt:=HH.out.lt
 have hs1:=HF1.out.size
 go_loopw [5,6] (fun t5 t6 wr => ∃ left cnt,RangeX KI wr cb w1.heap.size n0 f left cnt ∧ Hid (DiskAt wr d l cb m k) ∧ Hid (Frame [d,l,cb] w wr)) (fun _ _ wr => wr.rangeLeft cb w1.heap.size)
 case atStart =>
  refine ⟨_,_,HR0.out,HD1.out.same (HG0.out.block _ (by omega) (by simp)) (HG0.out.block _ (by omega) (by simp)) (HG0.out.block _ (by omega) (by simp)),HF1.out.grown HG0.out (by simp)⟩
 case round =>
  obtain ⟨left,cnt,hrg,hd,hfr⟩:=hrel
  have HRG:=Lib.hid hrg
  clear hrg
  go_wp2_with (first | (at_next;refine wpx_next _ rfl _ rfl KI KI_inv cb w1.heap.size n0 f left cnt rfl HRG.out ?_ ?_) | go_in)
  ·intro h0 hl0
   have hl0':=Lib.hid hl0
   clear hl0
   have q1:=hd.out.facts.2.1
   obtain ⟨w5,hcl,hd5,hf5⟩:=hd.out.clear
   have HD5:=Lib.hid hd5
   have HF5:=Lib.hid hf5
   clear hd5 hf5
   go_wp2
   go_ret
   exact ⟨rfl,HD5.out,hfr.out.trans HF5.out (by simp)⟩
  ·intro x v w2 cnt1 hx hlx hfx hrg1 hlt1 hg1 hs1' hen
   have HX:=Lib.hid hx
   have HRG1:=Lib.hid hrg1
   have HLT1:=Lib.hid hlt1
   have HG1:=Lib.hid hg1
   have hfs:=hfr.out.size
   have hkr:∀ k,k < w.heap.size → w2.heap[k]? = wr.heap[k]?:=fun k hk => hg1.block k (by omega) (by simp;omega)
   have HD2:Hid (DiskAt w2 d l cb m k):=Lib.hid (hd.out.same (hkr _ (by omega)) (hkr _ (by omega)) (hkr _ (by omega)))
   have HF2:Hid (Frame [d,l,cb] w w2):=Lib.hid (hfr.out.grown hg1 (by rintro k hk;cases hk;exact .inr (by omega)))
   obtain ⟨hx1,hx2,va,vi,vc,rfl⟩:=HX0.out x v hfx
   obtain ⟨i,rfl⟩:∃ i:Nat,x = i:=⟨x.toNat,by omega⟩
   have q1:=HD2.out.facts.1
   obtain ⟨arr,hr,hsz⟩:=HD2.out.row
   have HR:=Lib.hid hr
   have hi:i < m:=by omega
   have q2:∃ u,w2.cell? ⟨l,i,none⟩ = some u:=⟨_,(cellAt hr i).trans (Array.getElem?_eq_getElem (by omega))⟩
   have q3:=frozenAt hr i
   obtain ⟨u,q2⟩:=q2
   have hke:KI.enc (i:Int) = .int .i64 i:=rfl
   rw [hke] at hen ⊢
   clear hlx hfx hrg1 hlt1 hg1 hkr hr hx hke
   go_wp2
   go_roundw
   case rel =>
    refine ⟨_,cnt1,HRG1.out.kept (heap_set_ne _ hne2.2) (heap_set_ne _ (by omega)),HD2.out.store _,HF2.out.setCell (.inl (by simp)) _⟩
   case measure =>
    have h3:=(HRG1.out.kept (w':=w2.setCell ⟨l,i,none⟩ (.slice va vi vc)) (heap_set_ne _ hne2.2) (heap_set_ne _ (by omega))).left_eq
    rw [HRG.out.left_eq,h3]
    exact HLT1.out
end Go.Proofs.YtaonlcgneemimaaGreatDoor
namespace Go.Proofs.YtaonlcgneemimaaGreatDoor
open Go.RowKit
theorem info33:(Tryz.prog.info? 33).map (fun i => (i.zero,i.size,i.bytes)) = some (some (.slice none 0 0),1,24):=by kernel_rfl
theorem mk_rows (w:World) (n:Nat) (hn:n ≤ 1000000):(Instr.makeSlice 61 (.int .i64 n) (.int .i64 n)).run Tryz.prog w = .ok (.slice (some ⟨w.heap.size,0,none⟩) n n) (w.alloc (.cells (List.replicate n (.slice none 0 0)).toArray 33)):=by
 obtain ⟨i0,hi,hz0,hz1,hz2⟩:=info_parts info33
 have h:=run_makeSlice (P:=Tryz.prog) w 61 33 i0 _ Tryz.underlying61 hi hz0 .i64 .i64 (n:Int) (n:Int) (by omega) (by omega) (by rw [mul_one' _ _ hz1];simp;omega) (by rw [hz2];omega) (by omega)
 rw [mul_one' _ _ hz1] at h
 simp only [Int.toNat_natCast] at h
 rw [madeCells_one _ _ rfl] at h
 exact h
set_option maxRecDepth 100000 in
set_option maxHeartbeats 1000000 in
theorem newDisk_any (w:World) :
  Calls Tryz.prog 7 #[.int .i64 776] w fun e w' => ∃ d l cb,e = .returned (.tuple #[.pointer (some ⟨d,0,none⟩),.int .i64 0]) ∧ DiskAt w' d l cb 776 0 ∧ Below w.heap.size w w' ∧ w.heap.size ≤ d ∧ w.heap.size ≤ l ∧ w.heap.size ≤ cb:=by
 have hmk:=fun t w => run_makeMap (P:=Tryz.prog) t w
 have hms:∀ w:World,(Instr.makeSlice 61 (.int .i64 776) (.int .i64 776)).run Tryz.prog w = .ok (.slice (some ⟨w.heap.size,0,none⟩) 776 776) (w.alloc (.cells (List.replicate 776 (.slice none 0 0)).toArray 33)):=fun w => mk_rows w 776 (by decide)
 have hmb:∀ w:World,(Instr.makeSlice 33 (.int .i64 64) (.int .i64 64)).run Tryz.prog w = .ok (.slice (some ⟨w.heap.size,0,none⟩) 64 64) (w.alloc (.cells (u8s (List.replicate 64 0)).toArray 5)):=fun w => mk_bytes w 64 (by decide)
 have h0:Hid (∀ rr:Array Value,rr.size = 776 → DiskAt (((w.alloc (.cells rr 33)).alloc (.map #[] 0)).alloc (.cells #[.slice (some ⟨w.heap.size,0,none⟩) 776 776,.map (some (w.heap.size + 1)),.int .i64 (-1),.bool false,.int .i64 0] 64)) (w.heap.size + 2) w.heap.size (w.heap.size + 1) 776 0 ∧ Below w.heap.size w (((w.alloc (.cells rr 33)).alloc (.map #[] 0)).alloc (.cells #[.slice (some ⟨w.heap.size,0,none⟩) 776 776,.map (some (w.heap.size + 1)),.int .i64 (-1),.bool false,.int .i64 0] 64))):=Lib.hid (fun rr hrr => by
  have ha:=heap_new w (.cells rr 33)
  have hb:=MapX.made KI (w.alloc (.cells rr 33))
  have hc:=heap_new ((w.alloc (.cells rr 33)).alloc (.map #[] 0)) (.cells #[.slice (some ⟨w.heap.size,0,none⟩) 776 776,.map (some (w.heap.size + 1)),.int .i64 (-1),.bool false,.int .i64 0] 64)
  simp only [World.size_alloc] at hb hc
  have hb2:=keep_map hb ((Below.refl _ _).alloc (Nat.le_refl _) (.cells #[.slice (some ⟨w.heap.size,0,none⟩) 776 776,.map (some (w.heap.size + 1)),.int .i64 (-1),.bool false,.int .i64 0] 64))
  exact ⟨⟨⟨_,hc⟩,⟨_,heap_old (heap_old ha _) _,hrr⟩,⟨0,_,hb2,Nat.le_refl _,fun x v h => by simp at h⟩,Nat.le_refl _⟩,(((Below.refl _ _).alloc (Nat.le_refl _) _).alloc (by simp) _).alloc (by simp;omega) _⟩)
 obtain ⟨rr,hrr⟩:∃ rr,Hid (rr = (List.replicate 776 (Value.slice none 0 0)).toArray):=⟨(List.replicate 776 (Value.slice none 0 0)).toArray,Lib.hid rfl⟩
 have hrs:Hid (rr.size = 776):=Lib.hid (by rw [hrr.out];simp)
 rw [← hrr.out] at hms
 clear hrr
 go_enter Tryz.func7,Tryz.ntmps7
 go_wp2
 go_loopw [22,5] (fun ti t5 wr => ∃ k:Nat,k ≤ 776 ∧ ti = .int .i64 k ∧ Hid (DiskAt wr (w.heap.size + 2) w.heap.size (w.heap.size + 1) 776 0 ∧ Below w.heap.size w wr)) (fun i _ _ => 776 - (intOf i).toNat)
 case atStart => exact ⟨0,by omega,rfl,h0.out rr hrs.out⟩
 case round =>
  obtain ⟨k,hk,rfl,hd⟩:=hrel
  by_cases hlt:k < 776
  ·have q0:=hd.out.1.facts.1
   obtain ⟨arr,hr,hsz⟩:=hd.out.1.row
   obtain ⟨u,q1⟩:∃ u,wr.cell? ⟨w.heap.size,k,none⟩ = some u:=⟨_,(cellAt hr k).trans (Array.getElem?_eq_getElem (by omega))⟩
   have q2:=frozenAt hr k
   have q3:=World.block_lt_of_cell? wr _ q1
   have q4:=World.block_lt_of_cell? wr _ q0
   simp only at q3 q4
   clear hr hsz
   go_wp2
   go_region
   all_goals go_wp2
   all_goals go_roundw
   case rel =>
    refine ⟨k + 1,by omega,by go_num,Lib.hid ⟨?_,?_⟩⟩
    ·first | exact (hd.out.1.store _).below ((Below.refl _ _).alloc (Nat.le_refl _) _) | exact (hd.out.1.store _).below ((Below.refl _ _).alloc (Nat.le_refl _) _).drew
    ·have hB:Below w.heap.size w (wr.setCell ⟨w.heap.size,k,none⟩ (.slice (some ⟨wr.heap.size,0,none⟩) 64 64)):=hd.out.2.setCell (p:=⟨w.heap.size,k,none⟩) (Nat.le_refl _) _
     first | exact hB.alloc hB.size _ | exact (hB.alloc hB.size _).drew
   case measure => simp [intOf];omega
  ·go_wp2
   go_ret2
   exact ⟨_,_,_,rfl,hd.out.1,hd.out.2,by omega,by omega,by omega⟩
end Go.Proofs.YtaonlcgneemimaaGreatDoor
