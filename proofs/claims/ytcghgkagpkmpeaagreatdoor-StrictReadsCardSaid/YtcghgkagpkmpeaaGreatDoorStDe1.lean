/- Walks: digits without the noughts ahead, the program's and the document's. -/
import Derived.Test.YtcghgkagpkmpeaaGreatDoorDecP
import Derived.Test.YtcghgkagpkmpeaaGreatDoorJLocA
import Derived.Test.YtcghgkagpkmpeaaGreatDoorJPat1
set_option linter.unusedVariables false
set_option linter.unusedSimpArgs false
set_option maxHeartbeats 1000000
namespace Go.Proofs.YtcghgkagpkmpeaaGreatDoor.Loc
open Go.RowKit Utf All Small Strs Build EncC Pat Cls Dec Go.Proofs.YtcghgkagpkmpeaaGreatDoor.Sys
theorem ints1 (xs:List Int):∀ u ∈ xs.map (Value.int .i64),u.oneCell'=true:=by
 intro u hu
 obtain ⟨x,_,rfl⟩:=List.mem_map.1 hu
 rfl
def nzD (d:Int):Bool:=d != 0
theorem idx_zeros (xs:List Int):(idxF nzD xs=-1∧zerosF xs=xs.length)∨(zerosF xs < xs.length∧idxF nzD xs=(zerosF xs:Int)):=by
 by_cases h:zerosF xs < xs.length
 ·right
  refine ⟨h,idxF_at nzD xs (zerosF xs) h ?_ ?_⟩
  ·rw [List.any_eq_false]
   intro x hx
   obtain ⟨i,hi,rfl⟩:=List.mem_take_iff_getElem.1 hx
   have h1:=zerosF_lt xs i (by omega)
   rw [List.getD_eq_getElem?_getD,List.getElem?_eq_getElem (by omega)] at h1
   have h2:xs[i]=0:=h1
   simp [nzD,h2]
  ·have h1:=zerosF_at xs h
   rw [List.getD_eq_getElem?_getD,List.getElem?_eq_getElem h] at h1
   have h2:xs[zerosF xs] ≠ 0:=h1
   simpa [nzD] using h2
 ·left
  have hle:=zerosF_le xs
  refine ⟨idxF_none nzD xs ?_,by omega⟩
  rw [List.any_eq_false]
  intro x hx
  obtain ⟨i,hi,rfl⟩:=List.getElem_of_mem hx
  have h1:=zerosF_lt xs i (by omega)
  rw [List.getD_eq_getElem?_getD,List.getElem?_eq_getElem hi] at h1
  have h2:xs[i]=0:=h1
  simp [nzD,h2]
theorem zeros_1 (d:Int) (w:World):Calls Tryz.prog 215 #[.int .i64 d] w fun e w'=>e=.returned (.bool (nzD d))∧w=w':=by
 have HN:Hid (nzD d=(d != 0)):=Lib.hid rfl
 generalize nzD d=b at *
 cases hb:(d != 0)
 ·have HB:=Lib.hid (HN.out.trans hb)
  go_enter Tryz.func215,Tryz.ntmps215
  go_wp2
  go_ret
  exact ⟨ret_bool (by first | exact HB.out.symm | (rw [HB.out];simp_all)),rfl⟩
 ·have HB:=Lib.hid (HN.out.trans hb)
  go_enter Tryz.func215,Tryz.ntmps215
  go_wp2
  go_ret
  exact ⟨ret_bool (by first | exact HB.out.symm | (rw [HB.out];simp_all)),rfl⟩
theorem index_nz (A:Option Addr) (c:Nat) (xs:List Int) (w:World) (hr:Row w A (xs.map (Value.int .i64))) (hl:xs.length≤maxLen) :
  Calls Tryz.prog 214 #[.slice A xs.length c,.func (.func 215) #[] #[]] w fun e w'=>e=.returned (.int .i64 (idxF nzD xs))∧w=w':=by
 unfold maxLen at hl
 go_enter Tryz.func214,Tryz.ntmps214
 go_wp2
 go_loop [5,8] (fun _ i=>∃ k:Nat,k≤xs.length∧i=.int .i64 k∧Hid ((xs.take k).any nzD=false)) (fun _ i=>xs.length - (intOf i).toNat)
 case atStart=>exact ⟨0,Nat.zero_le _,rfl,Lib.hid (by simp)⟩
 case round =>
  obtain ⟨k,hk,rfl,HK⟩:=hrel
  by_cases hlt:k < xs.length
  ·obtain ⟨b,off,rfl,hc⟩:=row_int hr hlt
   have HA:=Lib.hid (idxF_at nzD xs k hlt HK.out)
   have HT:=Lib.hid (any_snoc nzD xs k hlt)
   generalize xs[k]=x at *
   cases hb:nzD x
   ·have HB:=Lib.hid hb
    clear hb
    go_wp2_with (refine (zeros_1 _ _).mono ?_;rintro e w' ⟨rfl,rfl⟩;rw [HB.out])
    go_round
    case rel=>exact ⟨k+1,by omega,by go_num,Lib.hid (by rw [HT.out,HK.out,HB.out];rfl)⟩
    case measure=>simp [intOf];omega
   ·have HB:=Lib.hid hb
    clear hb
    go_wp2_with (refine (zeros_1 _ _).mono ?_;rintro e w' ⟨rfl,rfl⟩;rw [HB.out])
    go_ret
    exact ⟨by rw [HA.out HB.out];rfl,rfl⟩
  ·have e:k=xs.length:=by omega
   subst e
   rw [List.take_length] at HK
   go_wp2
   go_ret
   exact ⟨by rw [idxF_none _ _ HK.out];rfl,rfl⟩
theorem digit_zeros (A:Option Addr) (c:Nat) (xs:List Int) (w:World) (hr:Row w A (xs.map (Value.int .i64))) (hl:xs.length≤maxLen) :
  Calls Tryz.prog 196 #[.slice A xs.length c] w fun e w'=>e=.returned (.int .i64 (zerosF xs:Int))∧w=w':=by
 have HI:=Lib.hid (index_nz A c xs w hr hl)
 rcases idx_zeros xs with ⟨h1,h2⟩ | ⟨h1,h2⟩
 ·rw [h1] at HI
  have H2:=Lib.hid h2
  clear h1 h2 hr
  go_enter Tryz.func196,Tryz.ntmps196
  go_wp2_with (go_at_call 214;with_reducible refine HI.out.mono ?_;rintro e w1 ⟨rfl,rfl⟩)
  go_ret
  exact ⟨by rw [H2.out];first | done | rfl,rfl⟩
 ·rw [h2] at HI
  have i1:¬ ((zerosF xs:Int) < 0):=by omega
  clear h1 h2 hr
  go_enter Tryz.func196,Tryz.ntmps196
  go_wp2_with (go_at_call 214;with_reducible refine HI.out.mono ?_;rintro e w1 ⟨rfl,rfl⟩)
  go_ret
  exact ⟨rfl,rfl⟩
theorem clone_i (A:Option Addr) (c:Nat) (l:List Int) (w:World) (hr:Row w A (l.map (Value.int .i64))) (hok:Okc A c) (hl:l.length≤1000000000) :
  Calls Tryz.prog 195 #[.slice A l.length c] w fun e w'=>∃ B d,e=.returned (.slice B l.length d)∧Acc 3 1 w w' B d l.length (l.map (Value.int .i64)):=by
 have q28:∀ (w:World) (a:Option Addr) (n c n' c':Nat),(binOp .eql 41 (.slice a n c) (.slice none n' c')).run Tryz.prog w=.ok (.bool a.isNone) w:=fun w a n c n' c'=>Lib.run_eql_slice_nil w _ _ a n c n' c' Tryz.underlying41
 cases A with
 | none =>
  have hn:l.length=0:=by
   rcases hr with h | ⟨b,off,h,_⟩
   ·have:=congrArg List.length h;rw [List.length_map] at this;simp only [List.length_nil] at this;omega
   ·cases h
  have hl0:=List.eq_nil_of_length_eq_zero hn
  subst hl0
  go_enter Tryz.func195,Tryz.ntmps195
  go_wp2
  go_ret
  exact ⟨none,0,rfl,Acc.start _ _ _⟩
 | some a =>
  have hacc:Acc 3 1 w (w.alloc (.cells #[] 3)) (some ⟨w.heap.size,0,none⟩) 0 0 []:=Acc.lit (Ext.refl w) [] 0 rfl (by decide)
  have hr2:Row (w.alloc (.cells #[] 3)) (some a) (l.map (Value.int .i64)):=hr.below (Ext.alloc_ (Ext.refl w) _) (Nat.le_refl _)
  go_enter Tryz.func195,Tryz.ntmps195
  go_wp2_with (at_builtin;refine wp_src ei_int rfl (.tmp 5) (.tmp 6) rfl w _ (some ⟨w.heap.size,0,none⟩) 0 0 [] rfl hacc (some a) l.length c (l.map (Value.int .i64)) rfl hr2 hok (by simp) (ints1 l) (by omega) (by unfold maxLen;omega) ?_;intro A1 c1 w3 hacc3 _;clear hacc)
  go_ret
  rw [List.nil_append,Nat.zero_add] at hacc3
  exact ⟨A1,c1,by simp,hacc3⟩
theorem row_tail {w:World} {b off:Nat} {xs:List Int} (h:Row w (some ⟨b,off,none⟩) (xs.map (Value.int .i64))) (k:Nat):Row w (some ⟨b,off+k,none⟩) ((xs.drop k).map (Value.int .i64)):=by
 have h1:=Row.drop (k:=k) h
 rw [List.map_drop]
 exact h1
theorem okc_tail {b off c k:Nat} (h:Okc (some ⟨b,off,none⟩) c):Okc (some ⟨b,off+k,none⟩) (c - k):=⟨Nat.le_trans (Nat.sub_le _ _) h.1,fun e=>by cases e⟩
theorem digit_trim (A:Option Addr) (c:Nat) (xs:List Int) (w:World) (hr:Row w A (xs.map (Value.int .i64))) (hok:Okc A c) (hc:xs.length≤c) (hl:xs.length≤1000000000) :
  Calls Tryz.prog 169 #[.slice A xs.length c] w fun e w'=>∃ B d,e=.returned (.slice B (leadF xs).length d)∧Acc 3 1 w w' B d (leadF xs).length ((leadF xs).map (Value.int .i64)):=by
 have HZ:=Lib.hid (digit_zeros A c xs w hr (by unfold maxLen;omega))
 have hz:=zerosF_le xs
 have hll:(leadF xs).length=xs.length - zerosF xs:=by unfold leadF;rw [List.length_drop]
 rcases A with _ | ⟨b,off,sp⟩
 ·have hn:xs=[]:=by
   rcases hr with h | ⟨b,off,h,_⟩
   ·exact List.map_eq_nil_iff.1 h
   ·cases h
  subst hn
  have HC:=Lib.hid (clone_i none c [] w (.inl rfl) hok (by simp))
  have hc0:=hok.2 rfl
  subst hc0
  simp only [List.length_nil] at HZ HC
  clear hr hok hc hz hll
  go_enter Tryz.func169,Tryz.ntmps169
  go_wp2_with (first
   | (go_at_call 196;with_reducible refine HZ.out.mono ?_;rintro e w1 ⟨rfl,rfl⟩)
   | (go_at_call 195;with_reducible refine HC.out.mono ?_;rintro e w2 ⟨B,d,rfl,hA⟩))
  go_ret
  exact ⟨B,d,rfl,hA⟩
 ·by_cases hx0:xs=[]
  ·subst hx0
   have HC:=Lib.hid (clone_i (some ⟨b,off,sp⟩) c [] w (.inl rfl) hok (by simp))
   simp only [List.length_nil] at HZ HC
   clear hr hok hc hz hll
   go_enter Tryz.func169,Tryz.ntmps169
   go_wp2_with (first
    | (go_at_call 196;with_reducible refine HZ.out.mono ?_;rintro e w1 ⟨rfl,rfl⟩)
    | (go_at_call 195;with_reducible refine HC.out.mono ?_;rintro e w2 ⟨B,d,rfl,hA⟩))
   go_ret
   exact ⟨B,d,rfl,hA⟩
  have hsp:sp=none:=by
   rcases hr with h | ⟨b',off',h,_⟩
   ·exact absurd (List.map_eq_nil_iff.1 h) hx0
   ·cases h;rfl
  subst hsp
  have HC:=Lib.hid (clone_i (some ⟨b,off+zerosF xs,none⟩) (c - zerosF xs) (leadF xs) w (row_tail hr (zerosF xs)) (okc_tail hok) (by omega))
  rw [hll] at HC ⊢
  clear hr hok hll
  generalize hzz:zerosF xs=z at *
  have i1:(z:Int)≤(xs.length:Int):=by omega
  have i2:(xs.length:Int)≤(c:Int):=by omega
  have i3:(0:Int)≤(z:Int):=by omega
  by_cases hcz:c≤z
  ·have hn:xs.length=z:=by omega
   have hcn:c=z:=by omega
   have h0:leadF xs=[]:=List.eq_nil_of_length_eq_zero (by unfold leadF;rw [List.length_drop];rw [hzz];omega)
   have HC0:=Lib.hid (clone_i (some ⟨b,off,none⟩) 0 [] w (.inl rfl) ⟨Nat.zero_le _,fun _=>rfl⟩ (by simp))
   simp only [List.length_nil] at HC0
   rw [hn] at HZ
   rw [hn,h0,Nat.sub_self]
   subst hcn
   clear hn h0 HC hz hc i1 i2 hcz hl
   clear hzz
   go_enter Tryz.func169,Tryz.ntmps169
   go_wp2_with (first
    | (go_at_call 196;with_reducible refine HZ.out.mono ?_;rintro e w1 ⟨rfl,rfl⟩)
    | (go_at_call 195;with_reducible refine HC0.out.mono ?_;rintro e w2 ⟨B,d,rfl,hA⟩))
   go_ret
   exact ⟨B,d,rfl,hA⟩
  have i4:¬ (c=z):=by omega
  have i5:(z:Int) < (c:Int):=by omega
  generalize xs.length=n at *
  go_enter Tryz.func169,Tryz.ntmps169
  go_wp2_with (first
   | (go_at_call 196;with_reducible refine HZ.out.mono ?_;rintro e w1 ⟨rfl,rfl⟩)
   | (go_at_call 195;with_reducible refine HC.out.mono ?_;rintro e w2 ⟨B,d,rfl,hA⟩))
  go_ret
  exact ⟨B,d,rfl,hA⟩
end Go.Proofs.YtcghgkagpkmpeaaGreatDoor.Loc
