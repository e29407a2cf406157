/- TopBatches: the contracts of S1; no condition. -/
import Derived.Test.YtaonlcgneemimaaGreatDoorB03
namespace Go.Proofs.YtaonlcgneemimaaGreatDoor
open Go.RowKit
def sp_idx:List Bool → Nat → Int
 | [],_ => -1
 | b :: r,i => if b = false then (i:Int) else sp_idx r (i + 1)
theorem sp_idx_drop (bs:List Bool) (k:Nat) (h:k < bs.length):sp_idx (bs.drop k) k = if bs.getD k false = false then (k:Int) else sp_idx (bs.drop (k + 1)) (k + 1):=by
 rw [List.drop_eq_getElem_cons h,sp_idx]
 simp [List.getD,h]
theorem sp_idx_range (bs:List Bool) (i:Nat):sp_idx bs i = -1 ∨ (i ≤ sp_idx bs i ∧ sp_idx bs i < i + bs.length):=by
 induction bs generalizing i with
 | nil => simp [sp_idx]
 | cons b r ih =>
  simp only [sp_idx,List.length_cons]
  split
  ·omega
  ·have:=ih (i + 1);omega
theorem sp_ret_int {k:IntKind} {a b:Int} (h:a = b):Ending.returned (.int k a) = .returned (.int k b):=by rw [h]
set_option maxHeartbeats 400000 in
theorem sp_index_any (g n c:Nat) (bs:List Bool) (w:World) (hn:bs.length = n) (hm:n ≤ maxLen) (hc:∀ j,j < n → w.cell? ⟨g,j,none⟩ = some (.bool (bs.getD j false))) :
  Calls Tryz.prog 189 #[.slice (some ⟨g,0,none⟩) n c,.bool false] w fun e w' => e = .returned (.int .i64 (sp_idx bs 0)) ∧ w = w':=by
 unfold maxLen at hm
 have HN:=Lib.hid hn
 have HC:=Lib.hid hc
 clear hn hc
 go_enter Tryz.func189,Tryz.ntmps189
 go_wp2
 go_loop [4,5,8] (fun r _ i => ∃ k:Nat,k ≤ n ∧ i = .int .i64 k ∧ r = .int .i64 0 ∧ Hid (sp_idx bs 0 = sp_idx (bs.drop k) k)) (fun _ _ i => n - (intOf i).toNat)
 case atStart => exact ⟨0,Nat.zero_le _,rfl,rfl,rfl⟩
 case round =>
  obtain ⟨k,hk,rfl,rfl,hi⟩:=hrel
  by_cases hlt:k < n
  ·have hcell:=HC.out k hlt
   have hstep:=Lib.hid (sp_idx_drop bs k (by have:=HN.out;omega))
   by_cases hb:bs.getD k false = false
   ·have hb':=Lib.hid hb
    rw [hb] at hcell
    clear hb
    go_wp2
    go_ret
    exact ⟨sp_ret_int (by rw [hi.out,hstep.out,if_pos hb'.out]),rfl⟩
   ·have hb':=Lib.hid hb
    rw [Bool.not_eq_false] at hb
    rw [hb] at hcell
    clear hb
    go_wp2
    go_round
    case rel => exact ⟨k + 1,by omega,by go_num,rfl,by show _ = _;rw [hi.out,hstep.out,if_neg hb'.out]⟩
    case measure => simp [intOf];omega
  ·go_wp2
   go_ret
   exact ⟨sp_ret_int (by rw [hi.out,List.drop_eq_nil_of_le (by have:=HN.out;omega),sp_idx]),rfl⟩
structure SpaceAt (w:World) (base b g:Nat) (bs:List Bool):Prop where
 hb:base ≤ b
 ne:b ≠ g
 st:∃ c,w.heap[b]? = some (.cells #[.slice (some ⟨g,0,none⟩) bs.length c] 212 (0,0)) ∧ w.ownsRow base 4 1 (.slice (some ⟨g,0,none⟩) bs.length c) bs.length (bs.map Value.bool)
theorem SpaceAt.facts {w:World} {base b g:Nat} {bs:List Bool} (h:SpaceAt w base b g bs):∃ c,w.cell? ⟨b,0,none⟩ = some (.slice (some ⟨g,0,none⟩) bs.length c) ∧
  (∀ j,j < bs.length → w.cell? ⟨g,j,none⟩ = some (.bool (bs.getD j false))) ∧ (∀ j,w.frozen? ⟨g,j,none⟩ = false) ∧ bs.length ≤ maxLen ∧
  (∀ j u,j < bs.length → SpaceAt (w.setCell ⟨g,j,none⟩ (.bool u)) base b g (bs.set j u) ∧ w.grownBy (w.setCell ⟨g,j,none⟩ (.bool u)) (some g)):=by
 obtain ⟨hb,ne,c,hh,own⟩:=h
 refine ⟨c,by simp [World.cell?,hh],fun j hj => ?_,own.frozenAt,?_,fun j u hj => ?_⟩
 ·rw [own.cellAt j (by omega)];simp [List.getD,hj]
 ·rcases own.2 with ⟨h',_⟩ | ⟨g',cap',cur,h',hb,hg,hnc,hcm,hcs,htake⟩
  ·simp at h'
  ·omega
 ·have hs:=own.stored j (.bool u)
  refine ⟨⟨hb,ne,c,?_,?_⟩,hs.2⟩
  ·rw [hs.2.block b (Array.getElem?_eq_some_iff.1 hh).1 (by simpa using ne),hh];simp
  ·have:=hs.1
   simpa using this
set_option maxHeartbeats 400000 in
theorem sp_take_any (base b g:Nat) (bs:List Bool) (w:World) (h:SpaceAt w base b g bs) :
  Calls Tryz.prog 160 #[.pointer (some ⟨b,0,none⟩)] w fun e w' =>
   (sp_idx bs 0 < 0 ∧ e = .returned (.tuple #[.int .i64 0,.bool false]) ∧ w = w') ∨
   (0 ≤ sp_idx bs 0 ∧ e = .returned (.tuple #[.int .i64 (sp_idx bs 0),.bool true]) ∧ SpaceAt w' base b g (bs.set (sp_idx bs 0).toNat true) ∧ w.grownBy w' (some g)):=by
 obtain ⟨c,h0,hc,hf,hm,hset⟩:=h.facts
 have hr:=sp_idx_range bs 0
 by_cases hi:sp_idx bs 0 < 0
 ·go_enter Tryz.func160,Tryz.ntmps160
  go_wp2_with (go_at_call 189;refine (sp_index_any _ _ _ _ _ rfl hm hc).mono ?_;rintro e w' ⟨rfl,rfl⟩)
  go_ret2
  exact .inl ⟨hi,rfl,rfl⟩
 ·have hcell:=hc (sp_idx bs 0).toNat (by omega)
  have hset':=hset (sp_idx bs 0).toNat true (by omega)
  have hf':=hf (sp_idx bs 0).toNat
  clear hset
  go_enter Tryz.func160,Tryz.ntmps160
  go_wp2_with (go_at_call 189;refine (sp_index_any _ _ _ _ _ rfl hm hc).mono ?_;rintro e w' ⟨rfl,rfl⟩)
  go_ret2
  exact .inr ⟨by omega,rfl,hset'.1,hset'.2⟩
def sp_frees (bs:List Bool):Nat:=bs.countP (fun b => !b)
theorem sp_frees_le (bs:List Bool):sp_frees bs ≤ bs.length:=List.countP_le_length
theorem sp_frees_snoc (bs:List Bool) (k:Nat) (h:k < bs.length):sp_frees (bs.take (k + 1)) = sp_frees (bs.take k) + if bs.getD k false then 0 else 1:=by
 unfold sp_frees
 rw [List.take_succ_eq_append_getElem h,List.countP_append]
 simp [List.getD,h]
 cases bs[k] <;> simp
set_option maxHeartbeats 400000 in
theorem sp_free_any (base b g:Nat) (bs:List Bool) (w:World) (h:SpaceAt w base b g bs) :
  Calls Tryz.prog 72 #[.pointer (some ⟨b,0,none⟩)] w fun e w' => e = .returned (.int .i64 (sp_frees bs)) ∧ w = w':=by
 obtain ⟨c,h0,hc,hf,hm,hset⟩:=h.facts
 unfold maxLen at hm
 have HC:=Lib.hid hc
 clear hc hf hset h
 obtain ⟨n,HN⟩:∃ n,Hid (n = bs.length):=⟨_,rfl⟩
 rw [← HN.out] at h0 hm
 go_enter Tryz.func72,Tryz.ntmps72
 go_wp2
 go_loop [3,5,13] (fun r _ i => ∃ k:Nat,k ≤ n ∧ i = .int .i64 k ∧ r = .int .i64 (sp_frees (bs.take k))) (fun _ _ i => n - (intOf i).toNat)
 case atStart => exact ⟨0,Nat.zero_le _,rfl,rfl⟩
 case round =>
  obtain ⟨k,hk,rfl,rfl⟩:=hrel
  by_cases hlt:k < n
  ·have hcell:=HC.out k (by have:=HN.out;omega)
   have HS:=Lib.hid (sp_frees_snoc bs k (by have:=HN.out;omega))
   have hle:=sp_frees_le (bs.take k)
   have hl2:(bs.take k).length ≤ k:=List.length_take_le _ _
   generalize hx:bs.getD k false = x at hcell
   have HX:=Lib.hid hx
   clear hx
   cases x
   ·go_wp2
    go_round
    case rel => exact ⟨k + 1,by omega,by go_num,by rw [HS.out,HX.out];go_num⟩
    case measure => simp [intOf];omega
   ·go_wp2
    go_round
    case rel => exact ⟨k + 1,by omega,by go_num,by rw [HS.out,HX.out];rfl⟩
    case measure => simp [intOf];omega
  ·go_wp2
   go_ret
   exact ⟨sp_ret_int (by rw [List.take_of_length_le (by have:=HN.out;omega)]),rfl⟩
def sp_segsN (n:Int):Int:=if n < 8 then 0 else if (n - 8) / 8 < 96 then (n - 8) / 8 else 96
theorem sp_segs_any (n:Int) (w:World) (h0:-9223372036854775808 ≤ n) (h1:n ≤ 9223372036854775807) :
  Calls Tryz.prog 90 #[.int .i64 n] w fun e w' => e = .returned (.int .i64 (sp_segsN n)) ∧ w = w':=by
 by_cases h:n < 8
 ·go_enter Tryz.func90,Tryz.ntmps90
  go_wp2
  go_ret
  exact ⟨sp_ret_int (by unfold sp_segsN;omega),rfl⟩
 ·by_cases h2:(n - 8) / 8 < 96
  ·go_enter Tryz.func90,Tryz.ntmps90
   go_wp2
   go_ret
   exact ⟨sp_ret_int (by unfold sp_segsN;omega),rfl⟩
  ·go_enter Tryz.func90,Tryz.ntmps90
   go_wp2
   all_goals (go_ret;exact ⟨sp_ret_int (by unfold sp_segsN;omega),rfl⟩)
def sp_firstN (n:Int):Int:=if n < 0 then -1 else if 96 ≤ n then -1 else 8 + n * 8
theorem sp_first_any (n:Int) (w:World) :
  Calls Tryz.prog 192 #[.int .i64 n] w fun e w' => e = .returned (.int .i64 (sp_firstN n)) ∧ w = w':=by
 by_cases h:n < 0
 ·go_enter Tryz.func192,Tryz.ntmps192
  go_wp2
  go_ret
  exact ⟨sp_ret_int (by unfold sp_firstN;omega),rfl⟩
 ·by_cases h2:96 ≤ n
  ·go_enter Tryz.func192,Tryz.ntmps192
   go_wp2
   go_ret
   exact ⟨sp_ret_int (by unfold sp_firstN;omega),rfl⟩
  ·go_enter Tryz.func192,Tryz.ntmps192
   go_wp2
   go_ret
   exact ⟨sp_ret_int (by unfold sp_firstN;omega),rfl⟩
theorem sp_info4:(Tryz.prog.info? 4).map (fun i => (i.zero,i.size,i.bytes)) = some (some (.bool false),1,1):=by kernel_rfl
theorem SpaceAt.made {w1:World} {B k:Nat} (h:w1.ownsRow B 4 1 (.slice (some ⟨B,0,none⟩) k k) k (madeCells (Value.cells (.bool false)) (k * 1)).toList) (hs:B < w1.heap.size) :
  SpaceAt (w1.alloc (.cells #[.slice (some ⟨B,0,none⟩) k k] 212)) B w1.heap.size B (List.replicate k false):=by
 refine ⟨by omega,by omega,k,?_,?_⟩
 ·rw [List.length_replicate];exact heap_alloc_new w1 _
 ·have:=h.alloc (.cells #[.slice (some ⟨B,0,none⟩) k k] 212)
  rw [show Value.cells (.bool false) = #[.bool false] from rfl,Nat.mul_one,toList_madeCells_one] at this
  simpa using this
def sp_NewPost (w:World) (bs:List Bool) (e:Ending) (w':World):Prop:=∃ b g,e = .returned (.pointer (some ⟨b,0,none⟩)) ∧ SpaceAt w' w.heap.size b g bs ∧ w.grownBy w' none
set_option maxHeartbeats 400000 in
theorem sp_new_any (w:World) :
  Calls Tryz.prog 92 #[.int .i64 96] w (sp_NewPost w (List.replicate 96 false)):=by
 obtain ⟨i0,hi,hz0,hz1,hz2⟩:=info_parts sp_info4
 obtain ⟨K,HK⟩:∃ K:Nat,Hid (K = 96):=⟨96,Lib.hid rfl⟩
 rw [← HK.out]
 have fin:∀ (w1:World),w1.ownsRow w.heap.size 4 1 (.slice (some ⟨w.heap.size,0,none⟩) K K) K (madeCells #[.bool false] K).toList → w.grownBy w1 none →
   SpaceAt (w1.alloc (.cells #[.slice (some ⟨w.heap.size,0,none⟩) K K] 212)) w.heap.size w1.heap.size w.heap.size (List.replicate K false) ∧ w.grownBy (w1.alloc (.cells #[.slice (some ⟨w.heap.size,0,none⟩) K K] 212)) none:=by
  intro w1 h1 h2
  have h3:w.heap.size < w1.heap.size:=(h1.lt _ rfl).2
  have h4:=h2.size
  refine ⟨SpaceAt.made (by rw [Nat.mul_one];exact h1) h3,?_⟩
  have:=World.grownBy_alloc w1 (.cells #[.slice (some ⟨w.heap.size,0,none⟩) K K] 212) none
  exact ⟨h2.os,h2.tape,h2.output,by simp;omega,fun k hk _ => by rw [this.block k (by omega) (by simp)];exact h2.block k hk (by simp)⟩
 have FIN:=Lib.hid fin
 clear fin
 obtain rfl:K = 96:=HK.out
 go_enter Tryz.func92,Tryz.ntmps92
 go_wp2_with (at_make;refine wpList_make_full _ rfl _ _ 210 rfl w.heap.size 4 i0 (.bool false) 1 Tryz.underlying210 hi hz0 hz1 _ _ _ _ 96 rfl rfl rfl rfl (by omega) (by decide) (Nat.le_refl _) ?_)
 intro w1 ho hg
 have F:=Lib.hid (FIN.out w1 (by simpa using ho) hg)
 go_wp2
 go_ret
 exact ⟨_,_,rfl,F.out.1,F.out.2⟩
theorem SpaceAt.lt {w:World} {base b g:Nat} {bs:List Bool} (h:SpaceAt w base b g bs):base ≤ b ∧ base ≤ g ∧ b < w.heap.size ∧ g < w.heap.size:=by
 obtain ⟨hb,ne,c,hh,own⟩:=h
 exact ⟨hb,(own.lt g rfl).1,(Array.getElem?_eq_some_iff.1 hh).1,(own.lt g rfl).2⟩
theorem SpaceAt.keep {w w':World} {base b g:Nat} {bs:List Bool} {r:Option Nat} (h:SpaceAt w base b g bs) (hg:w.grownBy w' r) (h1:r ≠ some b) (h2:r ≠ some g):SpaceAt w' base b g bs:=by
 have hl:=h.lt
 obtain ⟨hb,ne,c,hh,own⟩:=h
 exact ⟨hb,ne,c,by rw [hg.block b hl.2.2.1 (fun e => h1 e.symm)];exact hh,own.kept hg (.inr (fun e => h2 (by simpa [Value.ownBlock] using e.symm)))⟩
theorem sp_take_some (base b g:Nat) (bs:List Bool) (k:Nat) (w:World) (h:SpaceAt w base b g bs) (hk:sp_idx bs 0 = k) :
  Calls Tryz.prog 160 #[.pointer (some ⟨b,0,none⟩)] w fun e w' => e = .returned (.tuple #[.int .i64 k,.bool true]) ∧ SpaceAt w' base b g (bs.set k true) ∧ w.grownBy w' (some g):=by
 refine (sp_take_any _ _ _ _ _ h).mono ?_
 rintro e w' (⟨h1,_,_⟩ | ⟨_,rfl,hs,hg⟩)
 ·omega
 ·rw [hk] at hs ⊢
  exact ⟨rfl,hs,hg⟩
end Go.Proofs.YtaonlcgneemimaaGreatDoor
