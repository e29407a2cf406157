/- TopBatches: the contracts of M1, M2; no condition. -/
import Derived.RowKit
import Derived.Maps.OwnSet
import Derived.Maps.Range
import Derived.Maps.OwnOps
namespace Go.Proofs.YtaonlcgneemimaaGreatDoor
open Go.RowKit
open Go.Maps (Keyed)
def rawR (v:Value):Option (DataW Value × List MemPlace):=some (.held v,[])
structure KeyKind (P:Program) (k:TypeId) (α:Type) where
 enc:α → Value
 lit:α → Lit
 good:α → Prop
 keyed:Keyed P k
 key:∀ x,good x → keyOf P k (enc x) = some (lit x)
 inj:∀ x y,lit x = lit y → x = y
 isKey:∀ x,WideAt.IsKeyLit (lit x)
variable {P:Program} {k e t:TypeId} {α:Type}
def fput [DecidableEq α] (f:α → Option Value) (x:α) (v:Option Value):α → Option Value:=fun y => if y = x then v else f y
def intKey {q:IntKind} (hk:P.underlying k = some (.int q)):KeyKind P k Int where
 enc x:=.int q x
 lit x:=.int q x
 good x:=(Lit.int q x).wf = true
 keyed:=Maps.int_keyed hk
 key x hx:=Maps.keyOf_int_mk hk hx
 inj x y h:=by injection h
 isKey x:=trivial
def strKey (hk:P.underlying k = some .string):KeyKind P k ByteArray where
 enc x:=.string x
 lit x:=.string x.data.toList
 good x:=x.size ≤ maxLen
 keyed:=Maps.string_keyed hk
 key x hx:=Go.WideMaps.keyOf_string_mk hk hx
 inj x y h:=by
  injection h with h
  have:x.data = y.data:=Array.toList_inj.1 h
  cases x;cases y;simp_all
 isKey x:=trivial
end Go.Proofs.YtaonlcgneemimaaGreatDoor
namespace Go.Proofs.YtaonlcgneemimaaGreatDoor
open Go.RowKit
open Go.Maps (Keyed)
open Go.ChangeMaps Go.MapKept
variable {P:Program} {k e t:TypeId} {α:Type}
def MapX (K:KeyKind P k α) (w:World) (b n:Nat) (f:α → Option Value):Prop :=
 ∃ D,w.ownsMap P k rawR b n D ∧ Maps.size D = n ∧ ∀ x,K.good x →
  (∀ v,f x = some v → Maps.has D (K.lit x) = true ∧ ∀ z,D.atKey (K.lit x) z = .held v) ∧ (f x = none → Maps.has D (K.lit x) = false ∧ ∀ z,D.atKey (K.lit x) z = z)
theorem owns_exact {R:Value → Option (DataW Value × List MemPlace)} {w:World} {b n:Nat} {D:DataW Value} (h:w.ownsMap P k R b n D):w.ownsMap P k R b (Maps.size D) D:=by
 obtain ⟨es,c,hb,F,hs,rfl⟩:=h
 exact ⟨es,c,hb,F,by simp [Maps.size,length_sorted],rfl⟩
theorem MapX.lt {K:KeyKind P k α} {w:World} {b n:Nat} {f:α → Option Value} (h:MapX K w b n f):b < w.heap.size:=by
 obtain ⟨D,h,_⟩:=h
 exact h.lt
theorem MapX.same {K:KeyKind P k α} {w w':World} {b n:Nat} {f:α → Option Value} (h:MapX K w b n f) (he:w'.heap[b]? = w.heap[b]?):MapX K w' b n f:=by
 obtain ⟨D,⟨es,c,hb,hr⟩,hf⟩:=h
 exact ⟨D,⟨es,c,he.trans hb,hr⟩,hf⟩
theorem MapX.cells {K:KeyKind P k α} {w:World} {b n:Nat} {f:α → Option Value} (h:MapX K w b n f) {arr:Array Value} {e:TypeId} {fr:Nat × Nat} (hc:w.heap[b]? = some (.cells arr e fr)):False:=by
 obtain ⟨D,⟨es,c,hb,_⟩,_⟩:=h
 rw [hb] at hc
 cases hc
theorem MapX.made (K:KeyKind P k α) (w:World):MapX K (w.alloc (.map #[] 0)) w.heap.size 0 (fun _ => none) :=
 ⟨.map [],World.ownsMap_made w P k rawR,rfl,fun x _ => ⟨fun v h => by simp at h,fun _ => ⟨rfl,fun z => rfl⟩⟩⟩
theorem MapX.len {K:KeyKind P k α} {w:World} {b n:Nat} {f:α → Option Value} (h:MapX K w b n f) (ht:P.underlying t = some (.map k e)) (ty:TypeId):(Builtin.len_ #[t] ty #[.map (some b)]).run P w = .ok (.int .i64 n) w:=by
 obtain ⟨D,h,hs,_⟩:=h
 rw [h.len ht ty,hs]
theorem MapX.look {K:KeyKind P k α} {w:World} {b n:Nat} {f:α → Option Value} (h:MapX K w b n f) (ht:P.underlying t = some (.map k e)) {z:Value} (hz:(zeroValue e).run P w = .ok z w) {x:α} (hx:K.good x) :
  (Instr.lookup t (.map (some b)) (K.enc x) true).run P w = .ok (.tuple #[(f x).getD z,.bool (f x).isSome]) w ∧ (Instr.lookup t (.map (some b)) (K.enc x) false).run P w = .ok ((f x).getD z) w:=by
 obtain ⟨D,h,_,hf⟩:=h
 obtain ⟨v1,ps1,hr1,hv1⟩:=h.look_ok K.keyed ht hz (zd:=.held z) (zp:=[]) rfl (K.key x hx)
 obtain ⟨v2,ps2,hr2,hv2⟩:=h.lookup K.keyed ht hz (zd:=.held z) (zp:=[]) rfl (K.key x hx)
 rw [hr1,hr2]
 cases hfx:f x with
 | none =>
  obtain ⟨hh,hat⟩:=(hf x hx).2 hfx
  rw [hat] at hv1 hv2
  simp only [rawR,Option.some.injEq,Prod.mk.injEq,DataW.held.injEq] at hv1 hv2
  rw [hh,hv1.1,hv2.1]
  exact ⟨rfl,rfl⟩
 | some v =>
  obtain ⟨hh,hat⟩:=(hf x hx).1 v hfx
  rw [hat] at hv1 hv2
  simp only [rawR,Option.some.injEq,Prod.mk.injEq,DataW.held.injEq] at hv1 hv2
  rw [hh,hv1.1,hv2.1]
  exact ⟨rfl,rfl⟩
theorem MapX.has_iff {K:KeyKind P k α} {D:DataW Value} {f:α → Option Value} {x:α}
  (hf:(∀ v,f x = some v → Maps.has D (K.lit x) = true ∧ ∀ z,D.atKey (K.lit x) z = .held v) ∧ (f x = none → Maps.has D (K.lit x) = false ∧ ∀ z,D.atKey (K.lit x) z = z)):Maps.has D (K.lit x) = (f x).isSome:=by
 cases h:f x with
 | none => exact (hf.2 h).1
 | some v => exact (hf.1 v h).1
theorem MapX.store [DecidableEq α] {K:KeyKind P k α} {w:World} {b n:Nat} {f:α → Option Value} (h:MapX K w b n f) (ht:P.underlying t = some (.map k e)) (hn:n < maxLen) {x:α} (hx:K.good x) (v:Value) :
  ∃ w',(Instr.mapUpdate t (.map (some b)) (K.enc x) v).run P w = .ok () w' ∧ MapX K w' b (if (f x).isSome then n else n + 1) (fput f x (some v)) ∧ w.mapTurned w' b:=by
 obtain ⟨D,h,hsz,hf⟩:=h
 obtain ⟨w',hrun,ho,ht'⟩:=h.store K.keyed ht hn (K.key x hx) (val:=v) (d:=.held v) (ps:=[]) rfl
 have hs2:Maps.size (D.put (K.lit x) (.held v)) = if (f x).isSome then n else n + 1:=by
  rw [Maps.size_put (h.tidy K.keyed),MapX.has_iff (hf x hx),hsz]
 have ho2:=owns_exact ho
 rw [hs2] at ho2
 refine ⟨w',hrun,⟨_,ho2,hs2,fun y hy => ?_⟩,ht'⟩
 by_cases e1:y = x
 ·subst e1
  refine ⟨fun u hu => ?_,fun hu => by simp [fput] at hu⟩
  simp only [fput,if_pos,Option.some.injEq] at hu
  subst hu
  exact ⟨Maps.has_put_same h.isMap (K.isKey y) _,fun z => Maps.atKey_put_same h.isMap (K.isKey y) _ z⟩
 ·have hl:K.lit y ≠ K.lit x:=fun h => e1 (K.inj _ _ h)
  simp only [fput,if_neg e1,Maps.has_put_other hl,Maps.atKey_put_other hl]
  exact hf y hy
theorem MapX.drop [DecidableEq α] {K:KeyKind P k α} {w:World} {b n:Nat} {f:α → Option Value} (h:MapX K w b n f) (ht:P.underlying t = some (.map k e)) {x:α} (hx:K.good x) (ty:TypeId) :
  ∃ w',(Builtin.delete_ #[t,k] ty #[.map (some b),K.enc x]).run P w = .ok (.tuple #[]) w' ∧ MapX K w' b (if (f x).isSome then n - 1 else n) (fput f x none) ∧ w.mapTurned w' b:=by
 obtain ⟨D,h,hsz,hf⟩:=h
 obtain ⟨w',hrun,ho,ht'⟩:=h.drop K.keyed ht (K.key x hx) ty
 have hs2:Maps.size (D.del (K.lit x)) = if (f x).isSome then n - 1 else n:=by
  have:=Maps.size_del (k:=K.lit x) (h.tidy K.keyed)
  rw [MapX.has_iff (hf x hx),hsz] at this
  split at this <;> simp_all <;> omega
 have ho2:=owns_exact ho
 rw [hs2] at ho2
 refine ⟨w',hrun,⟨_,ho2,hs2,fun y hy => ?_⟩,ht'⟩
 by_cases e1:y = x
 ·subst e1
  refine ⟨fun u hu => by simp [fput] at hu,fun _ => ⟨Maps.has_del_same,fun z => Maps.atKey_del_same z⟩⟩
 ·have hl:K.lit y ≠ K.lit x:=fun h => e1 (K.inj _ _ h)
  simp only [fput,if_neg e1,Maps.has_del_other hl,Maps.atKey_del_other hl]
  exact hf y hy
section
variable (w:World) {ops:Array Oper} {rest:List Oper} {o:Oper} {a:Act} {Q:Exit → Act → World → Prop}
theorem wpx_store [DecidableEq α] (hg:o.guard = none) (m x v:Operand) (t:TypeId) (hop:o.op = Op.mapUpdate t m x v) (K:KeyKind P k α) (e:TypeId) (ht:P.underlying t = some (.map k e)) (b n:Nat) (f:α → Option Value)
  (hm:a.eval m = .map (some b)) (hM:MapX K w b n f) (hn:n < maxLen) (y:α) (hy:K.good y) (val:Value) (hx:a.eval x = K.enc y) (hv:a.eval v = val)
  (hK:∀ w',MapX K w' b (if (f y).isSome then n else n + 1) (fput f y (some val)) → w.mapTurned w' b → wpList P ops Q rest (a.put o.dst undef) w'):wpList P ops Q (o :: rest) a w:=by
 refine wpList_plain hg fun K' hK' => ?_
 obtain ⟨w',hrun,r1,r2⟩:=hM.store ht hn hy val
 unfold Oper.wp
 simp [execOp,hop,hm,hx,hv,hrun,Result.andThen]
 exact hK' _ _ (hK w' r1 r2)
theorem wpx_drop [DecidableEq α] (hg:o.guard = none) (m x:Operand) (t k:TypeId) (hop:o.op = Op.call { callee:=Callee.builtin Builtin.delete,args:=#[m,x],argTypes:=#[t,k] }) (K:KeyKind P k α) (e:TypeId) (ht:P.underlying t = some (.map k e)) (b n:Nat) (f:α → Option Value)
  (hm:a.eval m = .map (some b)) (hM:MapX K w b n f) (y:α) (hy:K.good y) (hx:a.eval x = K.enc y)
  (hK:∀ w',MapX K w' b (if (f y).isSome then n - 1 else n) (fput f y none) → w.mapTurned w' b → wpList P ops Q rest (a.put o.dst (.tuple #[])) w'):wpList P ops Q (o :: rest) a w:=by
 refine wpList_plain hg fun K' hK' => ?_
 obtain ⟨w',hrun,r1,r2⟩:=hM.drop ht hy o.type
 unfold Oper.wp
 simp [execOp,hop,resolve,invoke,builtin,hm,hx,hrun,Result.andThen]
 exact hK' _ _ (hK w' r1 r2)
end
end Go.Proofs.YtaonlcgneemimaaGreatDoor
