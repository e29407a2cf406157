/- TopBatches: the contracts of U1, F3; no condition. -/
import Derived.Test.YtaonlcgneemimaaGreatDoorB15
import Derived.Test.YtaonlcgneemimaaGreatDoorB08
namespace Go.Proofs.YtaonlcgneemimaaGreatDoor
open Go.RowKit
def ptsC:Nat → List Value
 | 0 => []
 | n + 1 => ptsC n ++ [.int .i64 ((n:Int) + 1),.float .f64 0,.string ⟨#[]⟩]
end Go.Proofs.YtaonlcgneemimaaGreatDoor
namespace Go.Proofs.YtaonlcgneemimaaGreatDoor
open Go.RowKit
theorem leB_length:∀ (k n:Nat),(leB k n).length = k
 | 0,n => rfl
 | k + 1,n => by simp [leB,leB_length k]
theorem PenAt.mono {w:World} {B B' a:Nat} {l:List Int} (h:PenAt w B a l) (hB:B' ≤ B):PenAt w B' a l:=by
 obtain ⟨v,h1,h2,h3,h4⟩:=h
 exact ⟨v,h1,own_mono h2 hB,Nat.le_trans hB h3,h4⟩
structure PenRec (wE w:World) (a:Nat) (l:List Int) (bx:Nat) (cs:List Value):Prop where
 pen:PenAt w wE.heap.size a l
 below:Below wE.heap.size wE w
 box:w.heap[bx]? = some (.cells cs.toArray 137 (0,0))
theorem PenRec.step {wE w w':World} {a bx:Nat} {l l':List Int} {cs:List Value} (h:PenRec wE w a l bx cs) (hp:PenAt w' wE.heap.size a l') (hb:Below wE.heap.size w w') (hk:PenKeep a w w'):PenRec wE w' a l' bx cs:=by
 obtain ⟨v,ha,hr⟩:=h.pen
 refine ⟨hp,h.below.trans hb,hk bx _ h.box ?_ (fun arr e => by injection e with _ e;exact absurd e (by decide))⟩
 rintro rfl
 rw [h.box] at ha
 injection ha with ha
 injection ha with _ e
 exact absurd e (by decide)
theorem PenRec.alloc {wE w:World} {a bx:Nat} {l:List Int} {cs:List Value} (h:PenRec wE w a l bx cs) (o:Obj):PenRec wE (w.alloc o) a l bx cs:=by
 have hb:Below w.heap.size w (w.alloc o):=(Below.refl _ _).alloc (Nat.le_refl _) _
 exact ⟨h.pen.below hb,h.below.trans (hb.mono h.below.size),heap_old h.box _⟩
theorem PenRec.ne {wE w:World} {a bx:Nat} {l:List Int} {cs:List Value} (h:PenRec wE w a l bx cs):w.heap.size ≠ a:=by
 obtain ⟨v,ha,_⟩:=h.pen
 have:=heap_lt ha
 omega
theorem PenRec.facts {wE w:World} {a bx:Nat} {l:List Int} {v0 v1 v2 v3 v4 v5:Value} (h:PenRec wE w a l bx [v0,v1,v2,v3,v4,v5]):w.cell? ⟨bx,0,none⟩ = some v0 ∧ w.cell? ⟨bx,1,none⟩ = some v1 ∧ w.cell? ⟨bx,2,none⟩ = some v2 ∧ w.cell? ⟨bx,5,none⟩ = some v5 :=
 ⟨cellAt h.box 0,cellAt h.box 1,cellAt h.box 2,cellAt h.box 5⟩
theorem append_nothing {w:World} {B n:Nat} {v:Value} {xs:List Value} (h:w.ownsRow B 5 1 v n xs) (ty:TypeId):(Builtin.append_ #[33,33] ty #[v,.slice none 0 0]).run Tryz.prog w = .ok v w:=by
 obtain ⟨i0,hi,hz0,hz1,hz2⟩:=info_parts info5
 exact run_append_owned_none (P:=Tryz.prog) w B 33 ty 5 i0 1 Tryz.underlying33 hi v n xs h
end Go.Proofs.YtaonlcgneemimaaGreatDoor
