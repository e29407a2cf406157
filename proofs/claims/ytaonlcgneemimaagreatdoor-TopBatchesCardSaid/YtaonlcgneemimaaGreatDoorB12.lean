/- TopBatches: the contracts of P1, P2, P3, P4, P5; no condition. -/
import Derived.Test.YtaonlcgneemimaaGreatDoorChecked
import Derived.RowKit
import Derived.WalkKit
import Derived.Deep.QuietTactic
import Derived.BigQuiet
import Derived.Lib.Hide
import Derived.Test.YtaonlcgneemimaaGreatDoorB11
import Derived.Lib.SplitLaws
namespace Go.Proofs.YtaonlcgneemimaaGreatDoor
open Go.RowKit
def chOk (c:UInt8):Bool:=!(decide (c.toNat < 33) || decide (126 < c.toNat) || decide (c.toNat = 47))
def nameOk (s:ByteArray):Bool:=!(decide (s.size < 1) || decide (16 < s.size) || (s.toList == [46]) || (s.toList == [46,46])) && s.toList.all chOk
theorem all_false {l:List UInt8} {i:Nat} {c:UInt8} (h:l[i]? = some c) (hb:chOk c = false):l.all chOk = false:=by
 rw [List.all_eq_false]
 exact ⟨c,List.mem_of_getElem? h,by simp [hb]⟩
theorem all_true {l:List UInt8} (h:∀ k,k < l.length → ∀ c,l[k]? = some c → chOk c = true):l.all chOk = true:=by
 rw [List.all_eq_true]
 intro c hc
 obtain ⟨k,hk,rfl⟩:=List.getElem_of_mem hc
 exact h k hk _ (by simp)
set_option maxHeartbeats 1000000 in
theorem name_short (s:ByteArray) (h:s.size < 1 ∨ 16 < s.size ∨ s.toList = [46] ∨ s.toList = [46,46]) (w:World):Calls Tryz.prog 54 #[.string s] w fun e w' => e = .returned (.bool (nameOk s)) ∧ ∃ q,w' = w.drewN q:=by
 have hn:nameOk s = false:=by rcases h with h | h | h | h <;> simp [nameOk,h]
 have HN:=Lib.hid hn
 clear hn
 by_cases c1:s.size < 1
 ·have d1:((s.size:Int)) < 1:=by omega
  clear h c1
  go_enter Tryz.func54,Tryz.ntmps54
  go_wp2
  go_ret
  refine ⟨?_,0,rfl⟩;rw [HN.out];rfl
 by_cases c2:16 < s.size
 ·have d1:¬ ((s.size:Int)) < 1:=by omega
  have d2:16 < ((s.size:Int)):=by omega
  clear h c1 c2
  go_enter Tryz.func54,Tryz.ntmps54
  go_wp2
  go_ret
  refine ⟨?_,0,rfl⟩;rw [HN.out];rfl
 have h':s.toList = [46] ∨ s.toList = [46,46]:=by rcases h with h | h | h | h;exact absurd h c1;exact absurd h c2;exact .inl h;exact .inr h
 have d1:¬ ((s.size:Int)) < 1:=by omega
 have d2:¬ 16 < ((s.size:Int)):=by omega
 clear h c1 c2
 rcases h' with h | h
 all_goals
  go_enter Tryz.func54,Tryz.ntmps54
  go_wp2
  go_ret
  refine ⟨?_,0,rfl⟩;rw [HN.out];rfl
set_option maxHeartbeats 1000000 in
theorem name_any (s:ByteArray) (hs:s.size ≤ 9223372036854775807) (w:World):Calls Tryz.prog 54 #[.string s] w fun e w' => e = .returned (.bool (nameOk s)) ∧ ∃ q,w' = w.drewN q:=by
 by_cases c:s.size < 1 ∨ 16 < s.size ∨ s.toList = [46] ∨ s.toList = [46,46]
 ·exact name_short s c w
 have hn:nameOk s = s.toList.all chOk:=by simp only [not_or] at c;simp [nameOk,c]
 have HN:=Lib.hid hn
 have d1:¬ ((s.size:Int)) < 1:=by omega
 have d2:¬ 16 < ((s.size:Int)):=by omega
 have d3:(s.toList == [46]) = false:=by simp at c ⊢;exact c.2.2.1
 have d4:(s.toList == [46,46]) = false:=by simp at c ⊢;exact c.2.2.2
 have hlen:Hid (s.toList.length = s.size):=by rw [ByteArray.toList_eq];rfl
 clear hn c
 go_enter Tryz.func54,Tryz.ntmps54
 go_wp2
 go_loopw [3,22] (fun _ t wr => ∃ i:Nat,i ≤ s.size ∧ t = .int .i64 i ∧ Hid (∀ k,k < i → ∀ c,s.toList[k]? = some c → chOk c = true) ∧ Hid (∃ q,wr = w.drewN q)) (fun _ t _ => s.size - (intOf t).toNat)
 case atStart => exact ⟨0,by omega,rfl,fun k h => by omega,0,rfl⟩
 case round =>
  obtain ⟨i,hi,rfl,hall,hq⟩:=hrel
  by_cases hlt:i < s.size
  ·have hc:=Lib.hid (show s.toList[i]? = some (s[i]'hlt) by rw [ByteArray.toList_eq];simp [ByteArray.getElem_eq_getElem_data])
   rcases (by omega:((s[i]'hlt).toNat:Int) < 33 ∨ (¬ ((s[i]'hlt).toNat:Int) < 33 ∧ 126 < ((s[i]'hlt).toNat:Int)) ∨ (¬ ((s[i]'hlt).toNat:Int) < 33 ∧ ¬ 126 < ((s[i]'hlt).toNat:Int) ∧ ((s[i]'hlt).toNat:Int) = 47) ∨ (¬ ((s[i]'hlt).toNat:Int) < 33 ∧ ¬ 126 < ((s[i]'hlt).toNat:Int) ∧ ¬ ((s[i]'hlt).toNat:Int) = 47)) with e | ⟨e1,e2⟩ | ⟨e1,e2,e3⟩ | ⟨e1,e2,e3⟩
   ·have f1:decide (((s[i]'hlt).toNat:Int) < 33) = true:=by simpa using e
    have hb:=Lib.hid (show chOk (s[i]'hlt) = false from by simp [chOk,(show (s[i]'hlt).toNat < 33 by omega)])
    clear e
    go_wp2
    go_quiet (fail)
    go_wp2
    go_ret
    refine ⟨?_,?_⟩
    ·rw [HN.out,all_false hc.out hb.out];rfl
    ·obtain ⟨q,rfl⟩:=hq.out;exact ⟨q + nq,by simp⟩
   ·have f1:decide (((s[i]'hlt).toNat:Int) < 33) = false:=by simp;omega
    have f2:decide (126 < ((s[i]'hlt).toNat:Int)) = true:=by simpa using e2
    have hb:=Lib.hid (show chOk (s[i]'hlt) = false from by simp [chOk,(show 126 < (s[i]'hlt).toNat by omega)])
    clear e1 e2
    go_wp2
    go_quiet (fail)
    go_wp2
    go_ret
    refine ⟨?_,?_⟩
    ·rw [HN.out,all_false hc.out hb.out];rfl
    ·obtain ⟨q,rfl⟩:=hq.out;exact ⟨q + nq,by simp⟩
   ·have f1:decide (((s[i]'hlt).toNat:Int) < 33) = false:=by simp;omega
    have f2:decide (126 < ((s[i]'hlt).toNat:Int)) = false:=by simp;omega
    have f3:(((s[i]'hlt).toNat:Int) == 47) = true:=by simpa using e3
    have f4:(((s[i]'hlt).toNat:Int) == (((ByteArray.mk #[47])[0]'(by decide)).toNat:Int)) = true:=f3
    have hb:=Lib.hid (show chOk (s[i]'hlt) = false from by simp [chOk,(show (s[i]'hlt).toNat = 47 by omega)])
    clear e1 e2 e3
    go_wp2
    go_quiet (fail)
    go_wp2
    go_ret
    refine ⟨?_,?_⟩
    ·rw [HN.out,all_false hc.out hb.out];rfl
    ·obtain ⟨q,rfl⟩:=hq.out;exact ⟨q + nq,by simp⟩
   ·have f1:decide (((s[i]'hlt).toNat:Int) < 33) = false:=by simp;omega
    have f2:decide (126 < ((s[i]'hlt).toNat:Int)) = false:=by simp;omega
    have f3:(((s[i]'hlt).toNat:Int) == 47) = false:=by simpa using e3
    have f4:(((s[i]'hlt).toNat:Int) == (((ByteArray.mk #[47])[0]'(by decide)).toNat:Int)) = false:=f3
    have hb:=Lib.hid (show chOk (s[i]'hlt) = true from by simp [chOk];omega)
    clear e1 e2 e3
    go_wp2
    go_quiet (fail)
    go_wp2
    go_roundw
    case rel =>
     refine ⟨i + 1,by omega,by go_num,fun k hk c hkc => ?_,?_⟩
     ·rcases (by omega:k < i ∨ k = i) with h | rfl
      ·exact hall.out k h c hkc
      ·rw [hc.out] at hkc;cases hkc;exact hb.out
     ·obtain ⟨q,rfl⟩:=hq.out;exact ⟨q + nq,by simp⟩
    case measure => simp [intOf];omega
  ·obtain rfl:i = s.size:=by omega
   go_wp2
   go_ret
   refine ⟨?_,hq.out⟩
   rw [HN.out,all_true (by rw [hlen.out];exact hall.out)];rfl
end Go.Proofs.YtaonlcgneemimaaGreatDoor
namespace Go.Proofs.YtaonlcgneemimaaGreatDoor
open Go.RowKit
theorem bad_any (s:ByteArray) (hs:s.size ≤ 9223372036854775807) (w:World):Calls Tryz.prog 144 #[.string s] w fun e w' => e = .returned (.bool (!nameOk s)) ∧ ∃ q,w' = w.drewN q:=by
 go_enter Tryz.func144,Tryz.ntmps144
 go_wp2_with (go_at_call 54;refine (name_any s hs _).mono ?_;rintro e w1 ⟨rfl,hq⟩;have HQ:=Lib.hid hq;clear hq)
 go_ret
 exact ⟨rfl,HQ.out⟩
def idxBad (xs:List ByteArray):Int:=if xs.all nameOk then -1 else (xs.findIdx (fun s => !nameOk s):Int)
theorem idxBad_hit {xs:List ByteArray} {i:Nat} {s:ByteArray} (h:xs[i]? = some s) (hb:nameOk s = false) (hall:∀ k,k < i → ∀ s,xs[k]? = some s → nameOk s = true):idxBad xs = i:=by
 obtain ⟨hi,rfl⟩:=List.getElem?_eq_some_iff.1 h
 have h1:xs.all nameOk = false:=by rw [List.all_eq_false];exact ⟨xs[i],by simp,by simp [hb]⟩
 have h2:xs.findIdx (fun s => !nameOk s) = i:=by
  rw [List.findIdx_eq hi]
  exact ⟨by simp [hb],fun j hj => by simp [hall j hj _ (List.getElem?_eq_getElem (by omega))]⟩
 simp [idxBad,h1,h2]
theorem idxBad_none {xs:List ByteArray} (hall:∀ k,k < xs.length → ∀ s,xs[k]? = some s → nameOk s = true):idxBad xs = -1:=by
 have h1:xs.all nameOk = true:=by
  rw [List.all_eq_true]
  intro s hs
  obtain ⟨k,hk,rfl⟩:=List.getElem_of_mem hs
  exact hall k hk _ (by simp)
 simp [idxBad,h1]
theorem idxBad_ge (xs:List ByteArray):decide ((0:Int) ≤ idxBad xs) = !xs.all nameOk:=by
 unfold idxBad
 cases xs.all nameOk <;> simp
set_option maxHeartbeats 1000000 in
theorem idx_any (b o c:Nat) (xs:List ByteArray) (hs:∀ x ∈ xs,x.size ≤ 9223372036854775807) (hn:xs.length ≤ 1000000) (w:World) (hc:∀ j x,xs[j]? = some x → w.cell? ⟨b,o + j,none⟩ = some (.string x)) :
  Calls Tryz.prog 178 #[.slice (some ⟨b,o,none⟩) xs.length c,.func (.func 144) #[] #[]] w fun e w' => e = .returned (.int .i64 (idxBad xs)) ∧ ∃ q,w' = w.drewN q:=by
 have HC:=Lib.hid hc
 have HS:=Lib.hid hs
 clear hc hs
 go_enter Tryz.func178,Tryz.ntmps178
 go_wp2
 go_loopw [5,8] (fun _ t wr => ∃ i:Nat,i ≤ xs.length ∧ t = .int .i64 i ∧ Hid (∀ k,k < i → ∀ s,xs[k]? = some s → nameOk s = true) ∧ Hid (∃ q,wr = w.drewN q)) (fun _ t _ => xs.length - (intOf t).toNat)
 case atStart => exact ⟨0,by omega,rfl,fun k h => by omega,0,rfl⟩
 case round =>
  obtain ⟨i,hi,rfl,hall,hq⟩:=hrel
  by_cases hlt:i < xs.length
  ·obtain ⟨s,hsi⟩:∃ s,Hid (xs[i]? = some s):=⟨xs[i],List.getElem?_eq_getElem hlt⟩
   have hcell:wr.cell? ⟨b,o + i,none⟩ = some (.string s):=by obtain ⟨q,rfl⟩:=hq.out;exact HC.out i s hsi.out
   have hss:=HS.out s (List.mem_of_getElem? hsi.out)
   by_cases hb:nameOk s = true
   ·have HB:=Lib.hid hb
    have q1:(!nameOk s) = false:=by simp [hb]
    clear hb
    go_wp2_with (go_at_call 144;refine (bad_any s hss _).mono ?_;rintro e w1 ⟨rfl,hq1⟩;have HQ:=Lib.hid hq1;clear hq1)
    go_roundw
    case rel =>
     refine ⟨i + 1,by omega,by go_num,fun k hk c hkc => ?_,?_⟩
     ·rcases (by omega:k < i ∨ k = i) with h | rfl
      ·exact hall.out k h c hkc
      ·rw [hsi.out] at hkc;cases hkc;exact HB.out
     ·obtain ⟨q,rfl⟩:=hq.out;obtain ⟨q',rfl⟩:=HQ.out;exact ⟨q + q',by simp⟩
    case measure => simp [intOf];omega
   ·have HB:=Lib.hid hb
    have q1:(!nameOk s) = true:=by simpa using hb
    clear hb
    go_wp2_with (go_at_call 144;refine (bad_any s hss _).mono ?_;rintro e w1 ⟨rfl,hq1⟩;have HQ:=Lib.hid hq1;clear hq1)
    go_ret
    refine ⟨?_,?_⟩
    ·rw [idxBad_hit hsi.out (by simpa using HB.out) hall.out];rfl
    ·obtain ⟨q,rfl⟩:=hq.out;obtain ⟨q',rfl⟩:=HQ.out;exact ⟨q + q',by simp⟩
  ·obtain rfl:i = xs.length:=by omega
   go_wp2
   go_ret
   exact ⟨by rw [idxBad_none hall.out];rfl,hq.out⟩
theorem has_any (b o c:Nat) (xs:List ByteArray) (hs:∀ x ∈ xs,x.size ≤ 9223372036854775807) (hn:xs.length ≤ 1000000) (w:World) (hc:∀ j x,xs[j]? = some x → w.cell? ⟨b,o + j,none⟩ = some (.string x)) :
  Calls Tryz.prog 143 #[.slice (some ⟨b,o,none⟩) xs.length c,.func (.func 144) #[] #[]] w fun e w' => e = .returned (.bool (!xs.all nameOk)) ∧ ∃ q,w' = w.drewN q:=by
 have HG:=Lib.hid (idxBad_ge xs)
 go_enter Tryz.func143,Tryz.ntmps143
 go_wp2_with (go_at_call 178;refine (idx_any b o c xs hs hn _ hc).mono ?_;rintro e w1 ⟨rfl,hq⟩;have HQ:=Lib.hid hq;clear hq)
 go_ret
 exact ⟨by rw [← HG.out];rfl,HQ.out⟩
end Go.Proofs.YtaonlcgneemimaaGreatDoor
namespace Go.Proofs.YtaonlcgneemimaaGreatDoor
open Go.RowKit
theorem splitB_sizes (sep:ByteArray) (m:Nat):∀ (k:Nat) (s:ByteArray),s.size ≤ m → ∀ x ∈ Lib.splitB sep 0 k s,x.size ≤ m
 | 0,s,h,x,hx => by rw [Lib.splitB_zero] at hx;simp at hx;subst hx;exact h
 | k + 1,s,h,x,hx => by
  unfold Lib.splitB at hx
  split at hx
  ·simp at hx;subst hx;exact h
  ·rcases List.mem_cons.1 hx with rfl | hx
   ·simp;omega
   ·exact splitB_sizes sep m k _ (by simp;omega) x hx
def slash:ByteArray:=⟨#[47]⟩
def cutAt (t:ByteArray):List ByteArray:=Lib.splitB slash 0 (Lib.countB t slash) t
def splitP (s:ByteArray):Option (List ByteArray) :=
 if s.toList = [47] then some []
 else if 64 < s.size ∨ Lib.hasPrefix s.data.toList slash.data.toList = false then none
 else if 8 < (cutAt (s.extract 1 s.size)).length ∨ (cutAt (s.extract 1 s.size)).all nameOk = false then none
 else some (cutAt (s.extract 1 s.size))
def StrRow (w:World) (B:Nat) (v:Value) (l:List ByteArray):Prop :=
 (l = [] ∧ v = .slice none 0 0) ∨ ∃ g,B ≤ g ∧ g < w.heap.size ∧ l ≠ [] ∧ v = .slice (some ⟨g,0,none⟩) l.length l.length ∧ w.heap[g]? = some (.cells (l.map Value.string).toArray 9 (0,0))
def splitPost (s:ByteArray) (w:World) (e:Ending) (w':World):Prop :=
 (match splitP s with
 | some l => ∃ v,e = .returned (.tuple #[v,.int .i64 0]) ∧ StrRow w' w.heap.size v l
 | none => e = .returned (.tuple #[.slice none 0 0,.int .i64 3])) ∧ Below w.heap.size w w'
theorem below_drewN {B:Nat} {w w':World} (h:Below B w w'):∀ q,Below B w (w'.drewN q)
 | 0 => h
 | q + 1 => (below_drewN h q).drew
theorem cutAt_length (t:ByteArray):(cutAt t).length = Lib.countB t slash + 1:=Lib.splitB_all slash (by decide) 0 _ _ rfl
theorem strsplit (t:ByteArray) (ht:t.size < 4294967281) (m:Int) (w:World) (hm:w.cell? ⟨1,0,none⟩ = some (.int .i64 m)) (L:List ByteArray) (hL:cutAt t = L) :
  Calls Tryz.prog 142 #[.string t,.string ⟨#[47]⟩] w fun e w' => e = .returned (.slice (some ⟨w.heap.size,0,none⟩) L.length L.length) ∧ w' = w.alloc (.cells (L.map Value.string).toArray 9):=by
 subst hL
 rw [cutAt_length]
 exact Tryz.strings_Split t slash m w ht hm (by decide)
set_option maxHeartbeats 1000000 in
theorem split_any (s:ByteArray) (hs:s.size ≤ 9223372036854775807) (m:Int) (w:World) (hm:w.cell? ⟨1,0,none⟩ = some (.int .i64 m)):Calls Tryz.prog 96 #[.string s] w (splitPost s w):=by
 by_cases c0:s.toList = [47]
 ·have HP:=Lib.hid (show splitP s = some [] by simp [splitP,c0])
  go_enter Tryz.func96,Tryz.ntmps96
  go_wp2
  go_ret2
  unfold splitPost
  rw [HP.out]
  exact ⟨⟨_,rfl,.inl ⟨rfl,rfl⟩⟩,Below.refl _ _⟩
 by_cases c1:64 < s.size
 ·have HP:=Lib.hid (show splitP s = none by simp [splitP,c0,c1])
  have d0:(s.toList == [47]) = false:=by simpa using c0
  have d1:decide (64 < (s.size:Int)) = true:=by simp;omega
  clear c0 c1
  go_enter Tryz.func96,Tryz.ntmps96
  go_wp2
  go_ret2
  unfold splitPost
  rw [HP.out]
  exact ⟨rfl,Below.refl _ _⟩
 by_cases c2:Lib.hasPrefix s.data.toList slash.data.toList = false
 ·have HP:=Lib.hid (show splitP s = none by simp [splitP,c0,c2])
  have d0:(s.toList == [47]) = false:=by simpa using c0
  have d1:decide (64 < (s.size:Int)) = false:=by simp;omega
  have c2':Lib.hasPrefix s.data.toList [47] = false:=c2
  clear c0 c1 c2
  go_enter Tryz.func96,Tryz.ntmps96
  go_wp2_with (go_at_call 141;refine (Tryz.strings_HasPrefix s _ _).mono ?_;rintro e w1 ⟨rfl,rfl⟩)
  go_ret2
  unfold splitPost
  rw [HP.out]
  exact ⟨rfl,Below.refl _ _⟩
 ·have d0:(s.toList == [47]) = false:=by simpa using c0
  have d1:decide (64 < (s.size:Int)) = false:=by simp;omega
  have c2':Lib.hasPrefix s.data.toList [47] = true:=by
   cases h:Lib.hasPrefix s.data.toList [47]
   ·exact absurd h c2
   ·rfl
  have c3:1 ≤ s.size:=by
   rcases Nat.eq_zero_or_pos s.size with h | h
   ·exfalso
    have h0:s.data.toList = []:=by
     have:s.data.toList.length = 0:=h
     exact List.eq_nil_of_length_eq_zero this
    rw [h0] at c2'
    exact absurd c2' (by decide)
   ·exact h
  have ht:(s.extract 1 s.size).size < 4294967281:=by simp;omega
  obtain ⟨L,hL⟩:∃ L,Hid (cutAt (s.extract 1 s.size) = L):=⟨_,rfl⟩
  have HS:Hid (∀ x ∈ L,x.size ≤ 9223372036854775807):=Lib.hid (fun x hx => by rw [← hL.out] at hx;exact Nat.le_trans (splitB_sizes _ 64 _ _ (by simp;omega) x hx) (by omega))
  have HT:=Lib.hid ht
  have HM:=Lib.hid hm
  have HF:=Lib.hid (show splitP s = if 8 < L.length ∨ L.all nameOk = false then none else some L by rw [← hL.out];simp only [splitP];rw [if_neg c0,if_neg (by intro h;rcases h with h | h;exact c1 h;exact c2 h)])
  clear ht hm c0 c1 c2
  by_cases c4:8 < L.length
  ·have d3:decide (8 < (L.length:Int)) = true:=by simp;omega
   have HP:=Lib.hid (show splitP s = none by rw [HF.out];simp [c4])
   clear c4
   go_enter Tryz.func96,Tryz.ntmps96
   go_wp2_with (first | (go_at_call 141;refine (Tryz.strings_HasPrefix s _ _).mono ?_;rintro e w1 ⟨rfl,rfl⟩) | (go_at_call 142;refine (strsplit _ HT.out m _ HM.out L hL.out).mono ?_;rintro e w1 ⟨rfl,rfl⟩))
   go_ret2
   unfold splitPost
   rw [HP.out]
   exact ⟨rfl,(Below.refl _ _).alloc (Nat.le_refl _) _⟩
  ·have d3:decide (8 < (L.length:Int)) = false:=by simp;omega
   have hl:L.length ≤ 1000000:=by omega
   have HN:=Lib.hid c4
   have HC:Hid (∀ w:World,∀ j x,L[j]? = some x → (w.alloc (.cells (L.map Value.string).toArray 9)).cell? ⟨w.heap.size,0 + j,none⟩ = some (.string x)):=Lib.hid (fun w j x hx => by unfold World.cell?;simp only [(MapKept.heap_alloc w _).1];simp [hx])
   clear c4
   by_cases c5:L.all nameOk = true
   ·have d4:(!L.all nameOk) = false:=by simp [c5]
    have HP:=Lib.hid (show splitP s = some L by rw [HF.out];simp [HN.out,c5])
    clear c5
    go_enter Tryz.func96,Tryz.ntmps96
    go_wp2_with (first | (go_at_call 141;refine (Tryz.strings_HasPrefix s _ _).mono ?_;rintro e w1 ⟨rfl,rfl⟩) | (go_at_call 142;refine (strsplit _ HT.out m _ HM.out L hL.out).mono ?_;rintro e w1 ⟨rfl,rfl⟩) | (go_at_call 143;refine (has_any _ 0 _ L HS.out hl _ (HC.out _)).mono ?_;rintro e w2 ⟨rfl,hq⟩;have HQ:=Lib.hid hq;clear hq))
    go_ret2
    unfold splitPost
    rw [HP.out]
    obtain ⟨q,rfl⟩:=HQ.out
    exact ⟨⟨_,rfl,.inr ⟨w1.heap.size,Nat.le_refl _,by simp,by rw [← hL.out];intro h;have:=cutAt_length (s.extract 1 s.size);rw [h] at this;simp at this,rfl,(MapKept.heap_alloc w1 _).1⟩⟩,by simpa using below_drewN ((Below.refl _ w1).alloc (Nat.le_refl _) _) q⟩
   ·have d4:(!L.all nameOk) = true:=by simpa using c5
    have HP:=Lib.hid (show splitP s = none by rw [HF.out];simp at c5;simp [c5])
    clear c5
    go_enter Tryz.func96,Tryz.ntmps96
    go_wp2_with (first | (go_at_call 141;refine (Tryz.strings_HasPrefix s _ _).mono ?_;rintro e w1 ⟨rfl,rfl⟩) | (go_at_call 142;refine (strsplit _ HT.out m _ HM.out L hL.out).mono ?_;rintro e w1 ⟨rfl,rfl⟩) | (go_at_call 143;refine (has_any _ 0 _ L HS.out hl _ (HC.out _)).mono ?_;rintro e w2 ⟨rfl,hq⟩;have HQ:=Lib.hid hq;clear hq))
    go_ret2
    unfold splitPost
    rw [HP.out]
    obtain ⟨q,rfl⟩:=HQ.out
    exact ⟨rfl,by simpa using below_drewN ((Below.refl _ w1).alloc (Nat.le_refl _) _) q⟩
end Go.Proofs.YtaonlcgneemimaaGreatDoor
namespace Go.Proofs.YtaonlcgneemimaaGreatDoor
open Go.RowKit
def joinT (xs:List ByteArray):ByteArray:=⟨(Lib.join (xs.map (·.data.toList)) [47]).toArray⟩
def joinP (xs:List ByteArray):ByteArray:=slash ++ joinT xs
set_option maxHeartbeats 1000000 in
theorem join_any (b o c:Nat) (xs:List ByteArray) (hn:xs.length ≤ 1000) (hcap:xs.length ≤ c) (hl:(joinT xs).size ≤ 100000) (w:World) (hb:b < w.heap.size) (hc:∀ j x,xs[j]? = some x → w.cell? ⟨b,o + j,none⟩ = some (.string x)) :
  Calls Tryz.prog 137 #[.slice (some ⟨b,o,none⟩) xs.length c] w fun e w' => e = .returned (.string (joinP xs)) ∧ Below w.heap.size w w':=by
 have e1:(joinT xs).size = (Lib.join (xs.map (·.data.toList)) [47]).length:=by simp [joinT,ByteArray.size]
 have e2:(Lib.join (xs.map (·.data.toList)) (ByteArray.mk #[47]).data.toList).length ≤ 140737488355328:=by show (Lib.join (xs.map (·.data.toList)) [47]).length ≤ _;omega
 have hj:=Tryz.strings_Join b o c xs ⟨#[47]⟩ w hc hb (by omega) hcap e2
 clear e1 e2
 obtain ⟨T,hT⟩:∃ T,Hid (joinT xs = T):=⟨_,rfl⟩
 have hs:T.size ≤ 100000:=by rw [← hT.out];exact hl
 have hj':Calls Tryz.prog 173 #[.slice (some ⟨b,o,none⟩) xs.length c,.string ⟨#[47]⟩] w fun e w' => e = .returned (.string T) ∧ Below w.heap.size w w':=by rw [← hT.out];exact hj
 have HJ:=Lib.hid hj'
 have HP:=Lib.hid (show joinP xs = slash ++ T by rw [← hT.out];rfl)
 clear hj hj' hl hc
 go_enter Tryz.func137,Tryz.ntmps137
 go_wp2_with (go_at_call 173;refine HJ.out.mono ?_;rintro e w1 ⟨rfl,hq⟩;have HQ:=Lib.hid hq;clear hq)
 go_ret
 exact ⟨by rw [HP.out];rfl,HQ.out⟩
end Go.Proofs.YtaonlcgneemimaaGreatDoor
namespace Go.Proofs.YtaonlcgneemimaaGreatDoor
open Go.RowKit
def Strs (w:World) (v:Value) (l:List ByteArray):Prop :=
 (l = [] ∧ v = .slice none 0 0) ∨ ∃ g,g < w.heap.size ∧ l ≠ [] ∧ v = .slice (some ⟨g,0,none⟩) l.length l.length ∧ ∀ j x,l[j]? = some x → w.cell? ⟨g,0 + j,none⟩ = some (.string x)
theorem splitP_len {s:ByteArray} {l:List ByteArray} (h:splitP s = some l):l.length ≤ 8:=by
 unfold splitP at h
 split at h
 ·cases h;simp
 ·split at h
  ·cases h
  ·split at h
   ·cases h
   ·cases h;rename_i h;simp at h;omega
theorem split_ok (s:ByteArray) (hs:s.size ≤ 9223372036854775807) (m:Int) (w:World) (hm:w.cell? ⟨1,0,none⟩ = some (.int .i64 m)) (l:List ByteArray) (hP:splitP s = some l) :
  Calls Tryz.prog 96 #[.string s] w fun e w' => ∃ v,e = .returned (.tuple #[v,.int .i64 0]) ∧ Strs w' v l ∧ Below w.heap.size w w':=by
 refine (split_any s hs m w hm).mono ?_
 rintro e w' ⟨h,hb⟩
 rw [hP] at h
 obtain ⟨v,rfl,hr⟩:=h
 refine ⟨v,rfl,?_,hb⟩
 rcases hr with h | ⟨g,h1,h2,h4,rfl,h3⟩
 ·exact .inl h
 ·refine .inr ⟨g,h2,h4,rfl,fun j x hx => ?_⟩
  unfold World.cell?
  simp only [h3]
  simp [hx]
theorem split_no (s:ByteArray) (hs:s.size ≤ 9223372036854775807) (m:Int) (w:World) (hm:w.cell? ⟨1,0,none⟩ = some (.int .i64 m)) (hP:splitP s = none) :
  Calls Tryz.prog 96 #[.string s] w fun e w' => e = .returned (.tuple #[.slice none 0 0,.int .i64 3]) ∧ Below w.heap.size w w':=by
 refine (split_any s hs m w hm).mono ?_
 rintro e w' ⟨h,hb⟩
 rw [hP] at h
 exact ⟨h,hb⟩
theorem split_nil (s:ByteArray) (hs:s.size ≤ 9223372036854775807) (m:Int) (w:World) (hm:w.cell? ⟨1,0,none⟩ = some (.int .i64 m)) (hP:splitP s = some []) :
  Calls Tryz.prog 96 #[.string s] w fun e w' => e = .returned (.tuple #[.slice none 0 0,.int .i64 0]) ∧ Below w.heap.size w w':=by
 refine (split_ok s hs m w hm [] hP).mono ?_
 rintro e w' ⟨v,rfl,h,hb⟩
 rcases h with ⟨_,rfl⟩ | ⟨g,_,h,_⟩
 ·exact ⟨rfl,hb⟩
 ·exact absurd rfl h
def Row (w:World) (g:Nat) (l:List ByteArray):Prop:=g < w.heap.size ∧ ∀ j x,l[j]? = some x → w.cell? ⟨g,0 + j,none⟩ = some (.string x)
theorem Row.below {B g:Nat} {w w':World} {l:List ByteArray} (h:Row w g l) (hb:Below B w w') (hB:w.heap.size ≤ B):Row w' g l :=
 ⟨by have:=hb.size;have:=h.1;omega,fun j x hx => (hb.cell (p:=⟨g,0 + j,none⟩) (by have:=h.1;show g < B;omega)).trans (h.2 j x hx)⟩
theorem split_row (s:ByteArray) (hs:s.size ≤ 9223372036854775807) (m:Int) (w:World) (hm:w.cell? ⟨1,0,none⟩ = some (.int .i64 m)) (l:List ByteArray) (hP:splitP s = some l) (hl:l ≠ []) :
  Calls Tryz.prog 96 #[.string s] w fun e w' => ∃ g,e = .returned (.tuple #[.slice (some ⟨g,0,none⟩) l.length l.length,.int .i64 0]) ∧ Row w' g l ∧ Below w.heap.size w w':=by
 refine (split_ok s hs m w hm l hP).mono ?_
 rintro e w' ⟨v,rfl,h,hb⟩
 rcases h with ⟨h,_⟩ | ⟨g,h1,_,rfl,h2⟩
 ·exact absurd h hl
 ·exact ⟨g,rfl,⟨h1,h2⟩,hb⟩
def underP (a b:ByteArray):Bool :=
 match splitP a,splitP b with
 | some x,some y => decide (y.length < x.length) && decide (x.take y.length = y)
 | _,_ => false
set_option maxHeartbeats 1000000 in
theorem under_any (a b:ByteArray) (ha:a.size ≤ 9223372036854775807) (hb:b.size ≤ 9223372036854775807) (m:Int) (w:World) (h1:1 < w.heap.size) (hm:w.cell? ⟨1,0,none⟩ = some (.int .i64 m)) :
  Calls Tryz.prog 97 #[.string a,.string b] w fun e w' => e = .returned (.bool (underP a b)) ∧ Below w.heap.size w w':=by
 have HM:=Lib.hid hm
 clear hm
 cases hpa:splitP a with
 | none =>
  have HA:=Lib.hid hpa
  have HR:=Lib.hid (show underP a b = false by simp [underP,hpa])
  clear hpa
  cases hpb:splitP b with
  | none =>
   have HB:=Lib.hid hpb
   clear hpb
   go_enter Tryz.func97,Tryz.ntmps97
   go_wp2_with (first | (go_at_call 96;first | ((with_reducible refine (split_no a ha m _ HM.out HA.out).mono ?_);rintro e w1 ⟨rfl,hq⟩;have HQ1:=Lib.hid hq;have HM1:=Lib.hid ((hq.cell (p:=⟨1,0,none⟩) h1).trans HM.out);clear hq) | ((with_reducible refine (split_no b hb m _ HM1.out HB.out).mono ?_);rintro e w2 ⟨rfl,hq⟩;have HQ2:=Lib.hid (HQ1.out.trans (hq.mono HQ1.out.size));clear hq)))
   go_ret
   exact ⟨by rw [HR.out];rfl,HQ2.out⟩
  | some y =>
   have HB:=Lib.hid hpb
   clear hpb
   by_cases hy:y = []
   ·subst hy
    go_enter Tryz.func97,Tryz.ntmps97
    go_wp2_with (first | (go_at_call 96;first | ((with_reducible refine (split_no a ha m _ HM.out HA.out).mono ?_);rintro e w1 ⟨rfl,hq⟩;have HQ1:=Lib.hid hq;have HM1:=Lib.hid ((hq.cell (p:=⟨1,0,none⟩) h1).trans HM.out);clear hq) | ((with_reducible refine (split_nil b hb m _ HM1.out HB.out).mono ?_);rintro e w2 ⟨rfl,hq⟩;have HQ2:=Lib.hid (HQ1.out.trans (hq.mono HQ1.out.size));clear hq)))
    go_ret
    exact ⟨by rw [HR.out];rfl,HQ2.out⟩
   ·have HYN:=Lib.hid hy
    clear hy
    go_enter Tryz.func97,Tryz.ntmps97
    go_wp2_with (first | (go_at_call 96;first | ((with_reducible refine (split_no a ha m _ HM.out HA.out).mono ?_);rintro e w1 ⟨rfl,hq⟩;have HQ1:=Lib.hid hq;have HM1:=Lib.hid ((hq.cell (p:=⟨1,0,none⟩) h1).trans HM.out);clear hq) | ((with_reducible refine (split_row b hb m _ HM1.out y HB.out HYN.out).mono ?_);rintro e w2 ⟨g2,rfl,hy,hq⟩;have HQ2:=Lib.hid (HQ1.out.trans (hq.mono HQ1.out.size));clear hq hy)))
    go_ret
    exact ⟨by rw [HR.out];rfl,HQ2.out⟩
 | some x =>
  have HA:=Lib.hid hpa
  by_cases hx:x = []
  ·subst hx
   have HR:=Lib.hid (show underP a b = false by unfold underP;rw [hpa];cases splitP b <;> simp)
   clear hpa
   cases hpb:splitP b with
   | none =>
    have HB:=Lib.hid hpb
    clear hpb
    go_enter Tryz.func97,Tryz.ntmps97
    go_wp2_with (first | (go_at_call 96;first | ((with_reducible refine (split_nil a ha m _ HM.out HA.out).mono ?_);rintro e w1 ⟨rfl,hq⟩;have HQ1:=Lib.hid hq;have HM1:=Lib.hid ((hq.cell (p:=⟨1,0,none⟩) h1).trans HM.out);clear hq) | ((with_reducible refine (split_no b hb m _ HM1.out HB.out).mono ?_);rintro e w2 ⟨rfl,hq⟩;have HQ2:=Lib.hid (HQ1.out.trans (hq.mono HQ1.out.size));clear hq)))
    go_ret
    exact ⟨by rw [HR.out];rfl,HQ2.out⟩
   | some y =>
    have HB:=Lib.hid hpb
    clear hpb
    by_cases hy:y = []
    ·subst hy
     go_enter Tryz.func97,Tryz.ntmps97
     go_wp2_with (first | (go_at_call 96;first | ((with_reducible refine (split_nil a ha m _ HM.out HA.out).mono ?_);rintro e w1 ⟨rfl,hq⟩;have HQ1:=Lib.hid hq;have HM1:=Lib.hid ((hq.cell (p:=⟨1,0,none⟩) h1).trans HM.out);clear hq) | ((with_reducible refine (split_nil b hb m _ HM1.out HB.out).mono ?_);rintro e w2 ⟨rfl,hq⟩;have HQ2:=Lib.hid (HQ1.out.trans (hq.mono HQ1.out.size));clear hq)))
     go_ret
     exact ⟨by rw [HR.out];rfl,HQ2.out⟩
    ·have HYN:=Lib.hid hy
     clear hy
     go_enter Tryz.func97,Tryz.ntmps97
     go_wp2_with (first | (go_at_call 96;first | ((with_reducible refine (split_nil a ha m _ HM.out HA.out).mono ?_);rintro e w1 ⟨rfl,hq⟩;have HQ1:=Lib.hid hq;have HM1:=Lib.hid ((hq.cell (p:=⟨1,0,none⟩) h1).trans HM.out);clear hq) | ((with_reducible refine (split_row b hb m _ HM1.out y HB.out HYN.out).mono ?_);rintro e w2 ⟨g2,rfl,hy,hq⟩;have HQ2:=Lib.hid (HQ1.out.trans (hq.mono HQ1.out.size));clear hq hy)))
     go_ret
     exact ⟨by rw [HR.out];rfl,HQ2.out⟩
  have HXN:=Lib.hid hx
  clear hx
  cases hpb:splitP b with
  | none =>
   have HB:=Lib.hid hpb
   have HR:=Lib.hid (show underP a b = false by simp [underP,hpa,hpb])
   clear hpa hpb
   go_enter Tryz.func97,Tryz.ntmps97
   go_wp2_with (first | (go_at_call 96;first | ((with_reducible refine (split_row a ha m _ HM.out x HA.out HXN.out).mono ?_);rintro e w1 ⟨g1,rfl,hx,hq⟩;have HX1:=Lib.hid hx;have HQ1:=Lib.hid hq;have HM1:=Lib.hid ((hq.cell (p:=⟨1,0,none⟩) h1).trans HM.out);clear hq hx) | ((with_reducible refine (split_no b hb m _ HM1.out HB.out).mono ?_);rintro e w2 ⟨rfl,hq⟩;have HQ2:=Lib.hid (HQ1.out.trans (hq.mono HQ1.out.size));clear hq)))
   go_ret
   exact ⟨by rw [HR.out];rfl,HQ2.out⟩
  | some y =>
   have HB:=Lib.hid hpb
   have hxl:=splitP_len hpa
   have hyl:=splitP_len hpb
   have hr:underP a b = (decide (y.length < x.length) && decide (x.take y.length = y)):=by simp [underP,hpa,hpb]
   clear hpa hpb
   by_cases hy:y = []
   ·subst hy
    have hx0:0 < x.length:=List.length_pos_iff.2 HXN.out
    have HR:=Lib.hid (show underP a b = true by rw [hr];simpa using hx0)
    clear hr
    go_enter Tryz.func97,Tryz.ntmps97
    go_wp2_with (first | (go_at_call 96;first | ((with_reducible refine (split_row a ha m _ HM.out x HA.out HXN.out).mono ?_);rintro e w1 ⟨g1,rfl,hx,hq⟩;have HX1:=Lib.hid hx;have HQ1:=Lib.hid hq;have HM1:=Lib.hid ((hq.cell (p:=⟨1,0,none⟩) h1).trans HM.out);clear hq hx) | ((with_reducible refine (split_nil b hb m _ HM1.out HB.out).mono ?_);rintro e w2 ⟨rfl,hq⟩;have HQ2:=Lib.hid (HQ1.out.trans (hq.mono HQ1.out.size));clear hq)) | (go_at_call 145;refine (Tryz.slices_Equal_string_empty _ _ _ _ _ _ (by omega)).mono ?_;rintro e w3 ⟨rfl,rfl⟩))
    go_ret
    exact ⟨by rw [HR.out];rfl,HQ2.out⟩
   ·have HYN:=Lib.hid hy
    clear hy
    by_cases c:y.length < x.length
    ·have HR:=Lib.hid (show underP a b = decide (x.take y.length = y) by rw [hr];simp [c])
     clear hr
     go_enter Tryz.func97,Tryz.ntmps97
     go_wp2_with (first | (go_at_call 96;first | ((with_reducible refine (split_row a ha m _ HM.out x HA.out HXN.out).mono ?_);rintro e w1 ⟨g1,rfl,hx,hq⟩;have HX1:=Lib.hid hx;have HQ1:=Lib.hid hq;have HM1:=Lib.hid ((hq.cell (p:=⟨1,0,none⟩) h1).trans HM.out);clear hq hx) | ((with_reducible refine (split_row b hb m _ HM1.out y HB.out HYN.out).mono ?_);rintro e w2 ⟨g2,rfl,hy,hq⟩;have HY2:=Lib.hid hy;have HX2:=Lib.hid (HX1.out.below hq (Nat.le_refl _));have HQ2:=Lib.hid (HQ1.out.trans (hq.mono HQ1.out.size));clear hq hy)) | (go_at_call 145;refine (Tryz.slices_Equal_string g1 0 y.length x.length g2 0 y.length y.length x y _ (by omega) (by omega) (by omega) (by omega) (fun j hj => by rw [HX2.out.2 j _ (List.getElem?_eq_getElem hj)];simp [List.getD,hj]) (fun j hj => by rw [HY2.out.2 j _ (List.getElem?_eq_getElem hj)];simp [List.getD,hj])).mono ?_;rintro e w3 ⟨rfl,hq⟩;have HQ3:=Lib.hid hq;clear hq))
     go_ret
     refine ⟨?_,?_⟩
     ·rw [HR.out];simp
     ·obtain ⟨q,rfl⟩:=HQ3.out
      exact below_drewN HQ2.out q
    ·have HR:=Lib.hid (show underP a b = false by rw [hr];simp [c])
     have d:decide ((y.length:Int) < x.length) = false:=by simp;omega
     clear hr
     go_enter Tryz.func97,Tryz.ntmps97
     go_wp2_with (first | (go_at_call 96;first | ((with_reducible refine (split_row a ha m _ HM.out x HA.out HXN.out).mono ?_);rintro e w1 ⟨g1,rfl,hx,hq⟩;have HX1:=Lib.hid hx;have HQ1:=Lib.hid hq;have HM1:=Lib.hid ((hq.cell (p:=⟨1,0,none⟩) h1).trans HM.out);clear hq hx) | ((with_reducible refine (split_row b hb m _ HM1.out y HB.out HYN.out).mono ?_);rintro e w2 ⟨g2,rfl,hy,hq⟩;have HQ2:=Lib.hid (HQ1.out.trans (hq.mono HQ1.out.size));clear hq hy)))
     go_ret
     exact ⟨by rw [HR.out];rfl,HQ2.out⟩
end Go.Proofs.YtaonlcgneemimaaGreatDoor
