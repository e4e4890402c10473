/- Joined by wip/join.py: StP5 StW1 StW2 StW3 LB17 StW8. -/
import Derived.Test.YtcghgkagpkmpeaaGreatDoorJStW
import Derived.Lib.Strings
import Derived.Test.YtcghgkagpkmpeaaGreatDoorJItW
import Derived.Test.YtcghgkagpkmpeaaGreatDoorWraps
import Derived.Test.YtcghgkagpkmpeaaGreatDoorShelf
set_option linter.unusedVariables false
set_option linter.unusedSimpArgs false
set_option maxHeartbeats 16000000
namespace Go.Proofs.YtcghgkagpkmpeaaGreatDoor.Loc
open Go.RowKit Utf All Small Strs Build EncC Pat Cls Dec Go.Proofs.YtcghgkagpkmpeaaGreatDoor.Sys
def midD (l:Loc) (s:List UInt8) (neg:Bool):Dr:=match midR l s with
 | none=>dr0
 | some t=>drOf neg t
def midB (l:Loc) (s:List UInt8):Bool:=(midR l s).isSome
def bare1 (l:Loc) (neg:Bool) (s:List UInt8):List UInt8:=Lib.trimPrefix s (preT l neg)
def bare2 (l:Loc) (neg:Bool) (s:List UInt8):List UInt8:=Lib.trimSuffix (bare1 l neg s) (sufT l neg)
def isOne (l:Loc) (neg:Bool) (s:List UInt8):Bool:=Lib.hasPrefix s (preT l neg)
def isTwo (l:Loc) (neg:Bool) (s:List UInt8):Bool:=Lib.hasSuffix (bare1 l neg s) (sufT l neg)
theorem bare1_len (l:Loc) (neg:Bool) (s:List UInt8):(bare1 l neg s).length≤s.length:=by
 unfold bare1 Lib.trimPrefix
 split
 ·rw [List.length_drop];omega
 ·exact Nat.le_refl _
theorem bare2_len (l:Loc) (neg:Bool) (s:List UInt8):(bare2 l neg s).length≤s.length:=by
 refine Nat.le_trans ?_ (bare1_len l neg s)
 unfold bare2 Lib.trimSuffix
 split
 ·rw [List.length_take];omega
 ·exact Nat.le_refl _
theorem try_no {l:Loc} {neg:Bool} {s:List UInt8} (h:(isOne l neg s && isTwo l neg s)=false):tryF l neg s=none:=by
 unfold tryF
 rw [if_neg]
 rintro ⟨h1,h2⟩
 have e1:isOne l neg s=true:=h1
 have e2:isTwo l neg s=true:=by
  unfold isTwo Lib.hasSuffix bare1 Lib.trimPrefix
  have hp:Lib.hasPrefix s (preT l neg)=true:=h1
  rw [if_pos hp];exact h2
 rw [e1,e2] at h
 exact absurd h (by decide)
theorem try_mid {l:Loc} {neg:Bool} {s:List UInt8} (h1:isOne l neg s=true) (h2:isTwo l neg s=true):tryF l neg s=(midR l (bare2 l neg s)).map (drOf neg):=by
 have hp:Lib.hasPrefix s (preT l neg)=true:=h1
 have e1:bare1 l neg s=s.drop (preT l neg).length:=by unfold bare1 Lib.trimPrefix;rw [if_pos hp]
 have hs:Lib.hasSuffix (bare1 l neg s) (sufT l neg)=true:=h2
 have e2:bare2 l neg s=(s.drop (preT l neg).length).take (s.length - (preT l neg).length - (sufT l neg).length):=by
  unfold bare2 Lib.trimSuffix
  rw [if_pos hs,e1,List.length_drop]
 have hs2:(sufT l neg).isSuffixOf (s.drop (preT l neg).length)=true:=by rw [← e1];exact hs
 unfold tryF
 rw [if_pos ⟨hp,hs2⟩,e2]
 cases midR l ((s.drop (preT l neg).length).take (s.length - (preT l neg).length - (sufT l neg).length)) <;> rfl
theorem try_none {l:Loc} {neg:Bool} {s:List UInt8} (h1:isOne l neg s=true) (h2:isTwo l neg s=true) (hm:midB l (bare2 l neg s)=false):tryF l neg s=none:=by
 rw [try_mid h1 h2]
 unfold midB at hm
 cases hr:midR l (bare2 l neg s) with
 | none=>rfl
 | some t=>rw [hr] at hm;cases hm
theorem try_some {l:Loc} {neg:Bool} {s:List UInt8} (h1:isOne l neg s=true) (h2:isTwo l neg s=true) (hm:midB l (bare2 l neg s)=true):tryF l neg s=some (midD l (bare2 l neg s) neg):=by
 rw [try_mid h1 h2]
 unfold midB at hm
 unfold midD
 cases hr:midR l (bare2 l neg s) with
 | none=>rw [hr] at hm;cases hm
 | some t=>rfl
section
variable {r:Rec} {p:Pt}
theorem rd_first (h:Both r p) {s:List UInt8} {d:Dr} (ht:tryF (locOf r p) false s=some d):rdD (locOf r p) s=d∧rdE (locOf r p) s=0:=by
 have hp:progF (locOf r p) s=some d:=by unfold progF;rw [ht]
 unfold rdD rdE
 rw [← prog_ref h,hp]
 exact ⟨rfl,rfl⟩
theorem rd_second (h:Both r p) {s:List UInt8} {d:Dr} (h0:tryF (locOf r p) false s=none) (ht:tryF (locOf r p) true s=some d):rdD (locOf r p) s=d∧rdE (locOf r p) s=0:=by
 have hp:progF (locOf r p) s=some d:=by unfold progF;rw [h0];exact ht
 unfold rdD rdE
 rw [← prog_ref h,hp]
 exact ⟨rfl,rfl⟩
theorem rd_neither (h:Both r p) {s:List UInt8} (h0:tryF (locOf r p) false s=none) (h1:tryF (locOf r p) true s=none):rdD (locOf r p) s=dr0∧rdE (locOf r p) s=2:=by
 have hp:progF (locOf r p) s=none:=by unfold progF;rw [h0];exact h1
 unfold rdD rdE
 rw [← prog_ref h,hp]
 exact ⟨rfl,rfl⟩
end
theorem mid_end {l:Loc} {s:List UInt8} {t:MS} (neg:Bool) (h:mRun MS.ini (sgs l s)=some t) (he:t.ends=wantF l t.int.length):midD l s neg=drOf neg t∧midB l s=true:=by
 have hm:midR l s=some t:=by unfold midR;rw [h];simp [he]
 unfold midD midB
 rw [hm]
 exact ⟨rfl,rfl⟩
theorem mid_ne {l:Loc} {s:List UInt8} {t:MS} (neg:Bool) (h:mRun MS.ini (sgs l s)=some t) (he:t.ends ≠ wantF l t.int.length):midD l s neg=dr0∧midB l s=false:=by
 have hm:midR l s=none:=by unfold midR;rw [h];simp [he]
 unfold midD midB
 rw [hm]
 exact ⟨rfl,rfl⟩
theorem mid_stop {l:Loc} {s:List UInt8} (neg:Bool) (h:mRun MS.ini (sgs l s)=none):midD l s neg=dr0∧midB l s=false:=by
 have hm:midR l s=none:=by unfold midR;rw [h]
 unfold midD midB
 rw [hm]
 exact ⟨rfl,rfl⟩
theorem sgnT_le (r:Rec) {ps:List Prt} (hm:r.minus.length≤1000) (h:∀ y ∈ ps,y.2.length≤1000000):∀ k,(sgnT r (ps.take k)).length≤1001000 * k
 | 0=>by simp [sgnT]
 | k+1=>by
  have ih:=sgnT_le r hm h k
  by_cases hk:k < ps.length
  ·have:=h _ (List.getElem_mem hk)
   rw [sgnT_snoc r hk,List.length_append,List.length_append]
   split <;> simp <;> omega
  ·rw [List.take_of_length_le (by omega)] at ih ⊢
   omega
set_option maxRecDepth 100000
theorem strict_text (g:Nat) (A B C D X:Option Addr) (c d a b n k0:Nat) (ps:List Prt) (l:Loc) (w:World) (h:LocR w g A B C D c d a b l) (hX:Row w X (prtV ps)) (hn:ps.length=n) (hl:n≤2000) (hm:l.r.minus.length≤1000) (ht:∀ y ∈ ps,y.2.length≤1000000) :
  Calls Tryz.prog 48 #[.pointer (some ⟨g,0,none⟩),.slice X n k0] w fun e w'=>e=.returned (.string ⟨(sgnT l.r ps).toArray⟩)∧Ext w w':=by
 have HXR:=Lib.hid hX
 have HN:=Lib.hid hn
 have HRC:Hid (∀ W,Ext w W→Calls Tryz.prog 92 #[.pointer (some ⟨g,0,none⟩)] W fun e w'=>e=.returned (.agg ([.string ⟨l.r.name.toArray⟩,.string ⟨l.r.pattern.toArray⟩,.string ⟨l.r.system.toArray⟩,.string ⟨l.r.decimal.toArray⟩,.string ⟨l.r.group.toArray⟩,.string ⟨l.r.minus.toArray⟩,.string ⟨l.r.percent.toArray⟩,.string ⟨l.r.currency.toArray⟩]:List Value).toArray)∧Ext W w'):=Lib.hid fun W hW=>record_l g A B C D c d a b l W (h.ext hW)
 have HALL:Hid (sgnT l.r (ps.take n)=sgnT l.r ps):=Lib.hid (by rw [List.take_of_length_le (by omega)])
 have HSN:Hid (∀ k (hk:k < ps.length),sgnT l.r (ps.take (k+1))=sgnT l.r (ps.take k)++((if ps[k].1 then l.r.minus else [])++ps[k].2)):=Lib.hid fun k hk=>sgnT_snoc l.r hk
 have HLE:=Lib.hid (sgnT_le l.r hm ht)
 have HTL:=Lib.hid ht
 clear h hX hn ht
 go_enter Tryz.func48,Tryz.ntmps48
 go_wp2
 go_loopw [5,10] (fun s i wr=>∃ (k:Nat),k≤n∧i=.int .i64 k∧s=.string ⟨(sgnT l.r (ps.take k)).toArray⟩∧Ext w wr) (fun _ i _=>n - (intOf i).toNat)
 case atStart=>exact ⟨0,Nat.zero_le _,rfl,rfl,Ext.refl _⟩
 case round =>
  obtain ⟨k,hk,rfl,rfl,hx⟩:=hrel
  by_cases hlt:k < n
  ·have hkq:k < ps.length:=by have:=HN.out;omega
   have HS:=Lib.hid (HSN.out k hkq)
   have hle:=HLE.out k
   have htl:=HTL.out _ (List.getElem_mem hkq)
   obtain ⟨bx,ox,rfl,hg⟩:=row_prt (HXR.out.below hx (Nat.le_refl _)) hkq
   have HRG:=Lib.hid hg
   have HX:=Lib.hid hx
   generalize sgnT l.r (ps.take k)=out at *
   generalize ps[k]=x at *
   obtain ⟨sg,t⟩:=x
   have hbx:=Box.new wr 157 [.bool sg,.string ⟨t.toArray⟩]
   have HX7:=Lib.hid (HX.out.trans (Ext.alloc_ (Ext.refl wr) (.cells ([.bool sg,.string ⟨t.toArray⟩]:List Value).toArray 157)))
   simp only at htl
   clear hx hg HX
   go_upto_region 5 with (first
    | (refine wpList_load_mid rfl 157 (.tmp 12) rfl bx (ox+k * 2) rfl [.bool sg,.string ⟨t.toArray⟩] _ HRG.out Tryz.underlying157 rfl infoPrt ?_)
    | (refine wpList_store_fresh rfl 157 (.tmp 7) (.tmp 13) rfl ([.bool sg,.string ⟨t.toArray⟩]:List Value).toArray 157 _ rfl rfl infoPrt rfl (by simp [Value.oneCell']) ?_))
   generalize wr.alloc (.cells ([.bool sg,.string ⟨t.toArray⟩]:List Value).toArray 157)=w7 at *
   have c0:=hbx.cell (j:=0) (v:=.bool sg) rfl
   have c1:=hbx.cell (j:=1) (v:=.string ⟨t.toArray⟩) rfl
   cases sg
   ·have HS2:Hid (sgnT l.r (ps.take (k+1))=out++t):=Lib.hid (by rw [HS.out];simp)
    have hap:=app_mk out t
    have q1:(9223372036854775807 < out.length+t.length)=False:=eq_false (by omega)
    go_wp2
    exact ⟨⟨k+1,by omega,by go_num,by rw [HS2.out];first | done | rfl | rw [hap],HX7.out⟩,by simp [intOf];omega⟩
   ·have HS2:Hid (sgnT l.r (ps.take (k+1))=(out++l.r.minus)++t):=Lib.hid (by rw [HS.out];simp)
    generalize l.r.minus=mi at *
    have hap:=app_mk out mi
    have hap2:=app_mk (out++mi) t
    have q1:(9223372036854775807 < out.length+mi.length)=False:=eq_false (by omega)
    have q2:(9223372036854775807 < (out++mi).length+t.length)=False:=eq_false (by rw [List.length_append];omega)
    have hxw:=HX7.out
    go_wp2_with (first
     | (go_at_call 92;with_reducible refine (HRC.out _ hxw).mono ?_;rintro e w8 ⟨rfl,hx8⟩;have c1:=Ext.cell_ hx8 c1)
     | (rw [run_field5];simp only [Result.andThen];rw [Oper.upon_value]))
    exact ⟨⟨k+1,by omega,by go_num,by rw [HS2.out];first | done | rfl | rw [hap,hap2] | rw [List.append_assoc],HX7.out.trans hx8⟩,by simp [intOf];omega⟩
  ·have e:k=n:=by omega
   subst e
   rw [HALL.out]
   go_wp2
   go_ret
   exact ⟨rfl,hx⟩
set_option maxRecDepth 512
theorem mstep_none {st:MS} {k:Int} (h1:¬ (0≤k∧k < 10)) (h2:¬ (k=10∧st.sep=false)) (h3:¬ (k=11∧st.sep=false)):mStep st k=none:=by
 unfold mStep;rw [if_neg h1,if_neg h2,if_neg h3]
theorem mways (st:MS) (k:Int) :
  (0≤k∧k < 10∧st.sep=true∧mStep st k=some ⟨st.int,st.frac++[k],st.sep,st.ends⟩)∨(0≤k∧k < 10∧st.sep=false∧mStep st k=some ⟨st.int++[k],st.frac,st.sep,st.ends⟩) ∨
  (k=10∧st.sep=false∧mStep st k=some ⟨st.int,st.frac,true,st.ends⟩)∨(k=11∧st.sep=false∧mStep st k=some ⟨st.int,st.frac,st.sep,st.ends++[(st.int.length:Int)]⟩) ∨
  (k < 0∧mStep st k=none)∨(k=10∧st.sep=true∧mStep st k=none)∨(k=11∧st.sep=true∧mStep st k=none)∨(12≤k∧mStep st k=none):=by
 obtain ⟨i,f,p,n⟩:=st
 by_cases h0:k < 0
 ·exact .inr (.inr (.inr (.inr (.inl ⟨h0,mstep_none (by omega) (by omega) (by omega)⟩))))
 by_cases h9:k < 10
 ·cases p
  ·exact .inr (.inl ⟨by omega,h9,rfl,step_int _ _ _ ⟨by omega,h9⟩⟩)
  ·exact .inl ⟨by omega,h9,rfl,step_frac _ _ _ ⟨by omega,h9⟩⟩
 by_cases h10:k=10
 ·subst h10
  cases p
  ·exact .inr (.inr (.inl ⟨rfl,rfl,step_pt _ _ _⟩))
  ·exact .inr (.inr (.inr (.inr (.inr (.inl ⟨rfl,rfl,mstep_none (by omega) (by simp) (by simp)⟩)))))
 by_cases h11:k=11
 ·subst h11
  cases p
  ·exact .inr (.inr (.inr (.inl ⟨rfl,rfl,step_gr _ _ _⟩)))
  ·exact .inr (.inr (.inr (.inr (.inr (.inr (.inl ⟨rfl,rfl,mstep_none (by omega) (by simp) (by simp)⟩))))))
 ·exact .inr (.inr (.inr (.inr (.inr (.inr (.inr ⟨by omega,mstep_none (by omega) (fun h=>h10 h.1) (fun h=>h11 h.1)⟩))))))
theorem must_ (at_ n prim sec:Int) (db pb sb:Nat) (E:Option Addr) (c m:Nat) (w:World) (he:w.cell? ⟨db,1,none⟩=some (.slice E m c)) (hp:w.cell? ⟨pb,0,none⟩=some (.int .i64 prim)) (hs:w.cell? ⟨sb,0,none⟩=some (.int .i64 sec))
  (hm:m≤5000) (ha:0≤at_) (ha2:at_≤m) (h1:0≤prim) (h2:prim≤100) (h3:0≤sec) (h4:sec≤100) :
  Calls Tryz.prog 95 #[.int .i64 at_,.pointer (some ⟨db,0,none⟩),.pointer (some ⟨pb,0,none⟩),.pointer (some ⟨sb,0,none⟩)] w fun e w'=>e=.returned (.bool (Ends.itemEnds ((m:Int) - at_) prim sec))∧w=w':=by
 go_enter Tryz.func95,Tryz.ntmps95
 go_wp2_with (go_at_call 96;refine (Ends.item_ends _ _ _ _ (by omega) (by omega) (by omega)).mono ?_;rintro e w10 ⟨rfl,rfl⟩)
 go_ret
 exact ⟨rfl,rfl⟩
set_option maxRecDepth 100000
theorem strict_middle (g:Nat) (A B C D:Option Addr) (c d a b:Nat) (s:List UInt8) (neg:Bool) (l:Loc) (w:World) (h:LocR w g A B C D c d a b l) (hb:LocB l) (hn:0≤l.p.num.prim∧l.p.num.prim≤100∧0≤l.p.num.sec∧l.p.num.sec≤100) (hl:s.length≤5000) :
  Calls Tryz.prog 50 #[.pointer (some ⟨g,0,none⟩),.string ⟨s.toArray⟩,.bool neg] w fun e w'=>∃ X Y cx cy,e=.returned (.tuple #[.agg (drV X cx Y cy (midD l s neg)).toArray,.bool (midB l s)])∧DrR w' X Y (midD l s neg)∧Okc X cx∧Okc Y cy∧Ext w w':=by
 have HL:=Lib.hid h
 have HSP:Hid (∀ W,Calls Tryz.prog 43 #[.string ⟨s.toArray⟩] W fun e w'=>∃ S cS,e=.returned (.slice S (splitS s).length cS)∧Acc 9 1 W w' S cS (splitS s).length (strsV (splitS s))):=Lib.hid fun W=>by
  have:=split_acc ⟨s.toArray⟩ W (by rw [sizeL];omega)
  have hd:(⟨s.toArray⟩:ByteArray).data.toList=s:=by simp
  rwa [hd] at this
 have HSG:Hid (∀ W t,Ext w W→Calls Tryz.prog 73 #[.pointer (some ⟨g,0,none⟩),.string t] W fun e w'=>e=.returned (.int .i64 (signZ l t))∧Ext W w'):=Lib.hid fun W t hW=>sign_l g A B C D c d a b t l W (h.ext hW) hb
 have HSZ:Hid (∀ W,Ext w W→Calls Tryz.prog 94 #[.pointer (some ⟨g,0,none⟩)] W fun e w'=>e=.returned (.tuple #[.int .i64 l.p.num.prim,.int .i64 l.p.num.sec])∧Ext W w'):=Lib.hid fun W hW=>sizes_l g A B C D c d a b l W (h.ext hW)
 have hNl:(splitS s).length≤5000:=Nat.le_trans (split_len_le s) hl
 have HAT:Hid (∀ k (u:List UInt8),(splitS s)[k]? = some u→(sgs l s)[k]? = some (signZ l ⟨u.toArray⟩)):=Lib.hid fun k u hu=>by
  unfold sgs;rw [List.getElem?_map,hu];rfl
 have HRN:Hid (∀ k st v u,(sgs l s)[k]? = some v→mRun MS.ini ((sgs l s).take k)=some st→mStep st v=some u→mRun MS.ini ((sgs l s).take (k+1))=some u):=Lib.hid fun k st v u hv hs hu=>by
  obtain ⟨hk,rfl⟩:=List.getElem?_eq_some_iff.1 hv
  rw [run_take hk hs];exact hu
 have HST:Hid (∀ k st v,(sgs l s)[k]? = some v→mRun MS.ini ((sgs l s).take k)=some st→mStep st v=none→midD l s neg=dr0∧midB l s=false):=Lib.hid fun k st v hv hs hu=>by
  obtain ⟨hk,rfl⟩:=List.getElem?_eq_some_iff.1 hv
  exact mid_stop neg (run_stop hk hs hu)
 have HSI:Hid (∀ k st,mRun MS.ini ((sgs l s).take k)=some st→st.int.length≤k∧st.frac.length≤k∧st.ends.length≤k):=Lib.hid fun k st hs=>(run_size hs).2
 have HALL:Hid ((sgs l s).take (splitS s).length=sgs l s):=Lib.hid (by rw [← sgs_len l s,List.take_length])
 have HME:Hid (∀ t,mRun MS.ini (sgs l s)=some t→t.ends=wantF l t.int.length→midD l s neg=drOf neg t∧midB l s=true):=Lib.hid fun t h1 h2=>mid_end neg h1 h2
 have HMN:Hid (∀ t,mRun MS.ini (sgs l s)=some t→t.ends ≠ wantF l t.int.length→midD l s neg=dr0∧midB l s=false):=Lib.hid fun t h1 h2=>mid_ne neg h1 h2
 have HW0:Hid (∀ n,wantTo l n 0=[]):=Lib.hid fun n=>rfl
 have HWS:Hid (∀ n k,wantTo l n (k+1)=wantTo l n k++(if 0 < k∧Ends.itemEnds ((n:Int) - k) l.p.num.prim l.p.num.sec=true then [(k:Int)] else [])):=Lib.hid fun n k=>wantTo_succ l n k
 have HWL:Hid (∀ n k,(wantTo l n k).length≤k):=Lib.hid fun n k=>wantTo_len l n k
 have HWA:Hid (∀ n,wantTo l n n=wantF l n):=Lib.hid fun n=>wantTo_all l n
 have b1:=Box.new w 55 zeroD
 have hx1:Ext w (w.alloc (.cells zeroD.toArray 55)):=Ext.alloc_ (Ext.refl w) _
 have hs1:(w.alloc (.cells zeroD.toArray 55)).heap.size=w.heap.size+1:=by simp
 have HB1:=Lib.hid b1
 have HX1:=Lib.hid hx1
 have HS1:=Lib.hid hs1
 obtain ⟨hp1,hp2,hq1,hq2⟩:=hn
 clear h hb b1 hx1 hs1 hl
 go_enter Tryz.func50,Tryz.ntmps50
 go_upto_region 1 with fail
 change Code.wp _ _ _ _ (w.alloc (.cells zeroD.toArray 55))
 generalize w.alloc (.cells zeroD.toArray 55)=w1 at *
 go_upto_region 2 with (refine wpList_store_fresh rfl 55 (.tmp 8) (.tmp 19) rfl ([.bool neg,.slice none 0 0,.bool false,.slice none 0 0]:List Value).toArray 55 _ rfl rfl infoD rfl (by simp [Value.oneCell']) ?_)
 have hb2:=Box.new w1 55 [.bool neg,.slice none 0 0,.bool false,.slice none 0 0]
 have hx2:Ext w1 (w1.alloc (.cells ([.bool neg,.slice none 0 0,.bool false,.slice none 0 0]:List Value).toArray 55)):=Ext.alloc_ (Ext.refl w1) _
 have hd2:Hd 55 w1 (w1.alloc (.cells ([.bool neg,.slice none 0 0,.bool false,.slice none 0 0]:List Value).toArray 55)) w1.heap.size neg MS.ini none 0 none 0 none 0:=Hd.start 55 (by decide) w1 _ hx2 w1.heap.size (Nat.le_refl _) neg hb2
 have HD2:=Lib.hid hd2
 have HX2:=Lib.hid hx2
 clear hb2 hx2 hd2
 generalize w1.alloc (.cells ([.bool neg,.slice none 0 0,.bool false,.slice none 0 0]:List Value).toArray 55)=w2 at *
 generalize hdb:w1.heap.size=db at *
 have HDB:=Lib.hid hdb
 clear hdb
 go_upto_region 3 with fail
 go_wp2_with (go_at_call 43;with_reducible refine (HSP.out _).mono ?_;rintro e w3 ⟨S,cS,rfl,hS⟩)
 have hm3:Hm 55 w1 w3 db neg MS.ini none 0 none 0 none 0 S cS (splitS s).length (strsV (splitS s)):=⟨HD2.out.step hS.ext,⟨hS.own.mono HX2.out.size,HX2.out.trans hS.ext⟩,(Apart.none _).comm,(Apart.none _).comm,(Apart.none _).comm,by decide⟩
 have HM3:=Lib.hid hm3
 clear hm3 hS HSP HD2
 generalize hN:(splitS s).length=N at *
 have HN:=Lib.hid hN
 clear hN
 go_loopw [9,23] (fun v i wr=>∃ (k:Nat) (st:MS) (E:Option Addr) (cE:Nat) (F:Option Addr) (cF:Nat) (G:Option Addr) (cG:Nat),k≤N∧i=.int .i64 k∧v=.slice G st.ends.length cG∧Hid (mRun MS.ini ((sgs l s).take k)=some st)∧Hm 55 w1 wr db neg st E cE F cF G cG S cS N (strsV (splitS s))) (fun _ i _=>N - (intOf i).toNat)
 case atStart=>exact ⟨0,MS.ini,none,0,none,0,none,0,Nat.zero_le _,rfl,rfl,Lib.hid rfl,HM3.out⟩
 case round =>
  obtain ⟨k,st,E,cE,F,cF,G,cG,hk,rfl,rfl,HRK,hmm⟩:=hrel
  by_cases hlt:k < N
  ·have hkl:k < (splitS s).length:=by have:=HN.out;omega
   obtain ⟨bx,ox,hS0,hc⟩:=str_at hmm.str.row hkl
   have HV:=Lib.hid (HAT.out k _ (List.getElem?_eq_getElem hkl))
   have HSX:=Lib.hid (HSI.out k st HRK.out)
   generalize (⟨((splitS s)[k]).toArray⟩:ByteArray)=one at *
   have HGN:=Lib.hid (fun W hW=>HSG.out W one hW)
   have HM:=Lib.hid hmm
   have hxw:=HX1.out.trans hmm.hd.ai.ext
   have i1:(k:Int) < (N:Int):=by omega
   have i2:(0:Int)≤(k:Int):=by omega
   subst hS0
   clear hmm
   generalize signZ l one=v at *
   go_upto_region 8 with (go_at_call 73;with_reducible refine (HGN.out _ hxw).mono ?_;rintro e w5 ⟨rfl,hx5⟩)
   have HM5:=Lib.hid (HM.out.step hx5)
   obtain ⟨q0,q1,q2,q3,g1,g2,g3⟩:=HM5.out.hd.cells
   have hsx:=HSX.out
   clear HM hx5 hc hxw HGN
   rcases mways st v with ⟨h0,h9,hsp,hst⟩ | ⟨h0,h9,hsp,hst⟩ | ⟨rfl,hsp,hst⟩ | ⟨rfl,hsp,hst⟩ | ⟨h0,hst⟩ | ⟨rfl,hsp,hst⟩ | ⟨rfl,hsp,hst⟩ | ⟨h0,hst⟩
   ·have HR2:=Lib.hid (HRN.out k st v _ HV.out HRK.out hst)
    have j1:decide (0≤v)=true:=decide_eq_true h0
    have j2:decide (v < 10)=true:=decide_eq_true h9
    have HSP2:=Lib.hid hsp
    rw [hsp] at q2
    clear hst hsp
    go_wp2_with (at_builtin;refine wp_app ei_int rfl (.tmp 43) (.tmp 45) rfl w1 w5 F cF st.frac.length _ rfl HM5.out.hd.af [.int .i64 v] 1 1 rfl rfl (by simp [Value.oneCell']) (by omega) (by unfold maxLen;omega) ?_;intro A6 c6 w6 hA6 ho6 hg6;obtain ⟨f0,f1,f2,f3,e1,e2,e3⟩:=HM5.out.hd.fr HM5.out.hd.af hg6)
    go_roundw
    case rel=>exact ⟨k+1,⟨st.int,st.frac++[v],st.sep,st.ends⟩,E,cE,A6,c6,G,cG,by omega,by go_num,rfl,HR2,HM5.out.pFrac hA6 ho6 hg6⟩
    case measure=>simp [intOf];omega
   ·have HR2:=Lib.hid (HRN.out k st v _ HV.out HRK.out hst)
    have j1:decide (0≤v)=true:=decide_eq_true h0
    have j2:decide (v < 10)=true:=decide_eq_true h9
    rw [hsp] at q2
    clear hst hsp
    go_wp2_with (at_builtin;refine wp_app ei_int rfl (.tmp 56) (.tmp 58) rfl w1 w5 E cE st.int.length _ rfl HM5.out.hd.ai [.int .i64 v] 1 1 rfl rfl (by simp [Value.oneCell']) (by omega) (by unfold maxLen;omega) ?_;intro A6 c6 w6 hA6 ho6 hg6;obtain ⟨f0,f1,f2,f3,e1,e2,e3⟩:=HM5.out.hd.fr HM5.out.hd.ai hg6)
    go_roundw
    case rel=>exact ⟨k+1,⟨st.int++[v],st.frac,st.sep,st.ends⟩,A6,c6,F,cF,G,cG,by omega,by go_num,rfl,HR2,HM5.out.pInt hA6 ho6 hg6⟩
    case measure=>simp [intOf];omega
   ·have HR2:=Lib.hid (HRN.out k st _ _ HV.out HRK.out hst)
    rw [hsp] at q2
    clear hst hsp
    go_wp2
    go_roundw
    case rel=>exact ⟨k+1,⟨st.int,st.frac,true,st.ends⟩,E,cE,F,cF,G,cG,by omega,by go_num,rfl,HR2,HM5.out.pSep⟩
    case measure=>simp [intOf];omega
   ·have HR2:=Lib.hid (HRN.out k st _ _ HV.out HRK.out hst)
    rw [hsp] at q2
    clear hst hsp
    go_wp2_with (at_builtin;refine wp_app ei_int rfl (.tmp 78) (.tmp 82) rfl w1 w5 G cG st.ends.length _ rfl HM5.out.hd.ae [.int .i64 st.int.length] 1 1 rfl rfl (by simp [Value.oneCell']) (by omega) (by unfold maxLen;omega) ?_;intro A6 c6 w6 hA6 ho6 hg6)
    have hl6:(st.ends++[(st.int.length:Int)]).length=st.ends.length+1:=by simp
    have HL6:=Lib.hid hl6
    clear hl6
    first
     | (
       go_roundw
       case rel=>exact ⟨k+1,⟨st.int,st.frac,st.sep,st.ends++[(st.int.length:Int)]⟩,E,cE,F,cF,A6,c6,by omega,by go_num,by rw [HL6.out],HR2,HM5.out.pEnds hA6 ho6 hg6⟩
       case measure=>simp [intOf];omega)
     | exact ⟨⟨k+1,⟨st.int,st.frac,st.sep,st.ends++[(st.int.length:Int)]⟩,E,cE,F,cF,A6,c6,by omega,by go_num,by rw [HL6.out],HR2,HM5.out.pEnds hA6 ho6 hg6⟩,by simp [intOf];omega⟩
   all_goals
    have HST2:=Lib.hid (HST.out k st _ HV.out HRK.out hst)
    first
     | (
       have j1:¬ (0≤v):=by omega
       have j3:(v == 10)=false:=by simp;omega
       have j4:(v == 11)=false:=by simp;omega)
     | (
       have j1:0≤v:=by omega
       have j2:¬ (v < 10):=by omega
       have j3:(v == 10)=false:=by simp;omega
       have j4:(v == 11)=false:=by simp;omega)
     | (rw [hsp] at q2;clear hsp)
    have HC5:=Lib.hid (HB1.out.ext HM5.out.hd.ai.ext)
    have HX5:=Lib.hid (HX1.out.trans HM5.out.hd.ai.ext)
    clear hst
    go_wp2_with (refine wpList_store_row rfl 55 (.tmp 6) (.tmp 30) rfl w.heap.size zeroD.toArray rfl rfl _ _ HC5.out infoD rfl (by simp [Value.oneCell',zeroD]) ?_)
    have hb9:=HC5.out.set zeroD.toArray
    refine bodyPost_ret (v:=.tuple #[.agg zeroD.toArray,.bool false]) (results_ct (p:=7) (q:=6) rfl _ _ w.heap.size _ rfl hb9 Tryz.underlying55 infoD) rfl ⟨none,none,0,0,by rw [HST2.out.1,HST2.out.2];rfl,?_,⟨Nat.zero_le _,fun _=>rfl⟩,⟨Nat.zero_le _,fun _=>rfl⟩,Ext.setRow HX5.out (Nat.le_refl _) _⟩
    rw [HST2.out.1]
    exact ⟨.inl rfl,.inl rfl⟩
  ·have e:k=N:=by omega
   subst e
   have HRE:Hid (mRun MS.ini (sgs l s)=some st):=Lib.hid (by have:=HRK.out;rwa [HALL.out] at this)
   have hsx:=HSI.out k st HRK.out
   have hxw:=HX1.out.trans hmm.hd.ai.ext
   have HM:=Lib.hid hmm
   have i1:¬ ((k:Int) < (k:Int)):=by omega
   clear hmm
   have hsz5:st.int.length≤5000:=by omega
   have hen5:st.ends.length≤5000:=by omega
   have HI5:=Lib.hid hsz5
   have HE5:=Lib.hid hen5
   clear hsz5 hen5 hsx
   go_upto_region 18 with (go_at_call 94;with_reducible refine (HSZ.out _ hxw).mono ?_;rintro e w5 ⟨rfl,hx5⟩)
   have hb6:=(Box.new w5 3 [.int .i64 l.p.num.prim]).alloc (.cells #[.int .i64 l.p.num.sec] 3)
   have hc6:=Box.new (w5.alloc (.cells #[.int .i64 l.p.num.prim] 3)) 3 [.int .i64 l.p.num.sec]
   have hs6:(w5.alloc (.cells #[.int .i64 l.p.num.prim] 3)).heap.size=w5.heap.size+1:=by simp
   rw [hs6] at hc6
   have hx6:Ext w5 ((w5.alloc (.cells #[.int .i64 l.p.num.prim] 3)).alloc (.cells #[.int .i64 l.p.num.sec] 3)):=Ext.alloc_ (Ext.alloc_ (Ext.refl _) _) _
   have HM6:=Lib.hid ((HM.out.step hx5).step hx6)
   have HKP:=Lib.hid (hb6.cell (j:=0) (v:=.int .i64 l.p.num.prim) rfl)
   have HKS:=Lib.hid (hc6.cell (j:=0) (v:=.int .i64 l.p.num.sec) rfl)
   clear hb6 hc6 hs6 hx5 hx6 HM HSZ HSG HM3 HRN HST HSI
   generalize (w5.alloc (.cells #[.int .i64 l.p.num.prim] 3)).alloc (.cells #[.int .i64 l.p.num.sec] 3)=w6 at *
   generalize w5.heap.size=pb at *
   obtain ⟨q0,q1,q2,q3,g1,g2,g3⟩:=HM6.out.hd.cells
   have HQ1:=Lib.hid q1
   have HX6:=Lib.hid (HX1.out.trans HM6.out.hd.ai.ext)
   have HLI5:=HI5.out
   generalize hni:st.int.length=ni at *
   have HNI:=Lib.hid hni
   clear hni q0 q2 q3 g1 g2 g3
   go_wp2
   go_loopw [16,94] (fun v i wr=>∃ (j m:Nat) (Y:Option Addr) (cy:Nat),j≤ni∧m≤j∧i=.int .i64 j∧v=.slice Y m cy∧Acc 3 1 w6 wr Y cy m ((wantTo l ni j).map (Value.int .i64))) (fun _ i _=>ni - (intOf i).toNat)
   case atStart=>exact ⟨0,0,none,0,Nat.zero_le _,Nat.le_refl _,rfl,rfl,Acc.start _ _ _⟩
   case round =>
    obtain ⟨j,m,Y,cy,hj,hmj,rfl,rfl,hacc⟩:=hrel
    by_cases hlj:j < ni
    ·have j1:(j:Int) < (ni:Int):=by omega
     have hw:=HWS.out ni j
     have HA:=Lib.hid hacc
     have hq:=Ext.cell_ hacc.ext HQ1.out
     have hkp:=Ext.cell_ hacc.ext HKP.out
     have hks:=Ext.cell_ hacc.ext HKS.out
     have HMU:=Lib.hid (must_ (j:Int) (ni:Int) l.p.num.prim l.p.num.sec db pb (pb+1) E cE ni wr hq hkp hks HLI5 (by omega) (by omega) hp1 hp2 hq1 hq2)
     clear hacc hq hkp hks
     by_cases h0:0 < j
     ·have j2:(0:Int) < (j:Int):=by omega
      cases hie:Ends.itemEnds ((ni:Int) - (j:Int)) l.p.num.prim l.p.num.sec
      ·rw [hie] at HMU
       have HW2:Hid ((wantTo l ni (j+1)).map (Value.int .i64)=(wantTo l ni j).map (Value.int .i64)):=Lib.hid (by rw [hw,if_neg (by rw [hie];simp),List.append_nil])
       clear hw hie h0
       go_wp2_with (go_at_call 95;with_reducible refine HMU.out.mono ?_;rintro e w7 ⟨rfl,rfl⟩)
       go_roundw
       case rel=>exact ⟨j+1,m,Y,cy,by omega,by omega,by go_num,rfl,by rw [HW2.out];exact HA.out⟩
       case measure=>simp [intOf];omega
      ·rw [hie] at HMU
       have HW2:Hid ((wantTo l ni (j+1)).map (Value.int .i64)=(wantTo l ni j).map (Value.int .i64)++[.int .i64 (j:Int)]):=Lib.hid (by rw [hw,if_pos ⟨h0,hie⟩,List.map_append];rfl)
       clear hw hie h0
       go_wp2_with (first
        | (go_at_call 95;with_reducible refine HMU.out.mono ?_;rintro e w7 ⟨rfl,rfl⟩)
        | (at_builtin;refine wp_app ei_int rfl (.tmp 104) (.tmp 106) rfl w6 _ Y cy m _ rfl HA.out [.int .i64 (j:Int)] 1 1 rfl rfl (by simp [Value.oneCell']) (by omega) (by unfold maxLen;omega) ?_;intro A7 c7 w7 hA7 _ _))
       first
        | (
          go_roundw
          case rel=>exact ⟨j+1,m+1,A7,c7,by omega,by omega,by go_num,rfl,by rw [HW2.out];exact hA7⟩
          case measure=>simp [intOf];omega)
        | exact ⟨⟨j+1,m+1,A7,c7,by omega,by omega,by go_num,rfl,by rw [HW2.out];exact hA7⟩,by simp [intOf];omega⟩
     ·have j2:¬ ((0:Int) < (j:Int)):=by omega
      have HW2:Hid ((wantTo l ni (j+1)).map (Value.int .i64)=(wantTo l ni j).map (Value.int .i64)):=Lib.hid (by rw [hw,if_neg (fun hh=>h0 hh.1),List.append_nil])
      clear hw h0
      go_wp2
      go_roundw
      case rel=>exact ⟨j+1,m,Y,cy,by omega,by omega,by go_num,rfl,by rw [HW2.out];exact HA.out⟩
      case measure=>simp [intOf];omega
    ·have e:j=ni:=by omega
     subst e
     have j1:¬ ((j:Int) < (j:Int)):=by omega
     have hml:(wantTo l j j).length=m:=by have:=hacc.len;rw [List.length_map] at this;omega
     have heq:=equal_i G Y cG cy st.ends (wantTo l j j) wr (HM6.out.hd.ae.row.below hacc.ext (Nat.le_refl _)) hacc.row (by have:=HE5.out;omega) (by omega)
     rw [hml] at heq
     have HEQ:=Lib.hid heq
     have HX9:=Lib.hid (HX6.out.trans hacc.ext)
     have HC9:=Lib.hid ((HB1.out.ext HM6.out.hd.ai.ext).ext hacc.ext)
     have HH9:=Lib.hid (HM6.out.hd.step hacc.ext)
     have HWA2:=Lib.hid (HWA.out j)
     clear heq hml hacc HM6 HWS HWL HW0 HWA
     by_cases hee:st.ends=wantTo l j j
     ·have hme:=HME.out st HRE.out (by rw [hee,HWA2.out,HNI.out])
      have HR1:=Lib.hid hme.1
      have HR2:=Lib.hid hme.2
      rw [decide_eq_true hee] at HEQ
      have HRG:Hid (∀ W,Ext wr W→W.rangeAt db 0 [.bool neg,.slice E st.int.length cE,.bool st.sep,.slice F st.frac.length cF]∧Box W w.heap.size 55 zeroD∧Ext w W∧DrR W E F (drOf neg st)∧Okc E cE∧Okc F cF):=Lib.hid fun W hW =>
       ⟨Ext.range_ hW HH9.out.box.range,HC9.out.ext hW,HX9.out.trans hW,HH9.out.dr.1.ext hW,HH9.out.dr.2.1,HH9.out.dr.2.2.1⟩
      clear hme hee HME HMN HWA2 HH9 HC9 HX9
      go_wp2_with (first
       | (go_at_call 97;with_reducible refine HEQ.out.mono ?_;rintro e w8 ⟨rfl,hx8⟩;have HR8:=Lib.hid (HRG.out _ hx8))
       | (refine wpList_load_mid rfl 55 (.tmp 8) rfl db 0 rfl [.bool neg,.slice E st.int.length cE,.bool st.sep,.slice F st.frac.length cF] _ HR8.out.1 Tryz.underlying55 rfl infoD ?_)
       | (refine wpList_store_row rfl 55 (.tmp 6) (.tmp 114) rfl w.heap.size ([.bool neg,.slice E st.int.length cE,.bool st.sep,.slice F st.frac.length cF]:List Value).toArray rfl rfl _ _ HR8.out.2.1 infoD rfl (by simp [Value.oneCell']) ?_))
      have hb9:=HR8.out.2.1.set ([.bool neg,.slice E st.int.length cE,.bool st.sep,.slice F st.frac.length cF]:List Value).toArray
      refine bodyPost_ret (v:=.tuple #[.agg ([.bool neg,.slice E st.int.length cE,.bool st.sep,.slice F st.frac.length cF]:List Value).toArray,.bool true]) (results_ct (p:=7) (q:=6) rfl _ _ w.heap.size _ rfl hb9 Tryz.underlying55 infoD) rfl ⟨E,F,cE,cF,by rw [HR1.out,HR2.out];rfl,?_,HR8.out.2.2.2.2.1,HR8.out.2.2.2.2.2,Ext.setRow HR8.out.2.2.1 (Nat.le_refl _) _⟩
      rw [HR1.out]
      exact ⟨ints_setRow HR8.out.2.1 HR8.out.2.2.2.1.int (by simp [isInt,zeroD]) _,ints_setRow HR8.out.2.1 HR8.out.2.2.2.1.frac (by simp [isInt,zeroD]) _⟩
     ·have hmn:=HMN.out st HRE.out (by rw [HNI.out,← HWA2.out];exact hee)
      have HR1:=Lib.hid hmn.1
      have HR2:=Lib.hid hmn.2
      rw [decide_eq_false hee] at HEQ
      clear hmn hee HME HMN HWA2 HH9
      go_wp2_with (first
       | (go_at_call 97;with_reducible refine HEQ.out.mono ?_;rintro e w8 ⟨rfl,hx8⟩;have HC8:=Lib.hid (HC9.out.ext hx8))
       | (refine wpList_store_row rfl 55 (.tmp 6) (.tmp 113) rfl w.heap.size zeroD.toArray rfl rfl _ _ HC8.out infoD rfl (by simp [Value.oneCell',zeroD]) ?_))
      have hb9:=HC8.out.set zeroD.toArray
      refine bodyPost_ret (v:=.tuple #[.agg zeroD.toArray,.bool false]) (results_ct (p:=7) (q:=6) rfl _ _ w.heap.size _ rfl hb9 Tryz.underlying55 infoD) rfl ⟨none,none,0,0,by rw [HR1.out,HR2.out];rfl,?_,⟨Nat.zero_le _,fun _=>rfl⟩,⟨Nat.zero_le _,fun _=>rfl⟩,Ext.setRow (HX9.out.trans hx8) (Nat.le_refl _) _⟩
      rw [HR1.out]
      exact ⟨.inl rfl,.inl rfl⟩
set_option maxRecDepth 512
theorem run_index0 (w:World):(Instr.index 106 (.agg #[.bool false,.bool true]) (.int .i64 0)).run Tryz.prog w=.ok (.bool false) w:=by
 have u:=Tryz.underlying106
 have a9:=Tryz.isAgg4
 have z9:=Tryz.sizeOf4
 have u9:=Tryz.underlying4
 unfold Instr.index
 simp [run_underlying u,part,a9,go_sem]
theorem run_index1 (w:World):(Instr.index 106 (.agg #[.bool false,.bool true]) (.int .i64 1)).run Tryz.prog w=.ok (.bool true) w:=by
 have u:=Tryz.underlying106
 have a9:=Tryz.isAgg4
 have z9:=Tryz.sizeOf4
 have u9:=Tryz.underlying4
 unfold Instr.index
 simp [run_underlying u,part,a9,go_sem]
theorem side_txt {r:Rec} {p:Pt} (h:Both r p) (neg:Bool):(∀ y ∈ ahead (locOf r p) neg,y.2.length≤1000000)∧(∀ y ∈ behind (locOf r p) neg,y.2.length≤1000000):=by
 have ht:=side_tot h neg
 exact ⟨fun y hy=>by have:=totP_mem hy;omega,fun y hy=>by have:=totP_mem hy;omega⟩
set_option maxRecDepth 100000
theorem strict_parse (g:Nat) (A B C D:Option Addr) (c d a b:Nat) (s:List UInt8) (r:Rec) (p:Pt) (w:World) (h:LocR w g A B C D c d a b (locOf r p)) (hK:Knd r p) (hl:s.length≤5000) :
  Calls Tryz.prog 20 #[.pointer (some ⟨g,0,none⟩),.string ⟨s.toArray⟩] w fun e w'=>∃ X Y cx cy,e=.returned (.tuple #[.agg (drV X cx Y cy (rdD (locOf r p) s)).toArray,.int .i64 (rdE (locOf r p) s)])∧DrR w' X Y (rdD (locOf r p) s)∧Okc X cx∧Okc Y cy∧Ext w w':=by
 have HL:=Lib.hid h
 have hb:=hK.both.may.b
 have hmi:(locOf r p).r.minus.length≤1000:=hb.min
 have HAR:Hid (∀ neg W,Ext w W→Calls Tryz.prog 46 #[.pointer (some ⟨g,0,none⟩),.bool neg] W fun e w'=>∃ E c1 F c2,e=.returned (.tuple #[.slice E (ahead (locOf r p) neg).length c1,.slice F (behind (locOf r p) neg).length c2])∧Row w' E (prtV (ahead (locOf r p) neg))∧Row w' F (prtV (behind (locOf r p) neg))∧Okc E c1∧Okc F c2∧Ext W w'):=Lib.hid fun neg W hW=>around_l g A B C D c d a b neg (locOf r p) W (HL.out.ext hW) hb
 have HTA:Hid (∀ neg W X k0,Ext w W→Row W X (prtV (ahead (locOf r p) neg))→Calls Tryz.prog 48 #[.pointer (some ⟨g,0,none⟩),.slice X (ahead (locOf r p) neg).length k0] W fun e w'=>e=.returned (.string ⟨(preT (locOf r p) neg).toArray⟩)∧Ext W w'):=Lib.hid fun neg W X k0 hW hX=>by
  have hh:=strict_text g A B C D X c d a b _ k0 (ahead (locOf r p) neg) (locOf r p) W (HL.out.ext hW) hX rfl (by have:=side_len hK.both neg;omega) hmi (side_txt hK.both neg).1
  rwa [sgnT_ahead] at hh
 have HTB:Hid (∀ neg W X k0,Ext w W→Row W X (prtV (behind (locOf r p) neg))→Calls Tryz.prog 48 #[.pointer (some ⟨g,0,none⟩),.slice X (behind (locOf r p) neg).length k0] W fun e w'=>e=.returned (.string ⟨(sufT (locOf r p) neg).toArray⟩)∧Ext W w'):=Lib.hid fun neg W X k0 hW hX=>by
  have hh:=strict_text g A B C D X c d a b _ k0 (behind (locOf r p) neg) (locOf r p) W (HL.out.ext hW) hX rfl (by have:=side_len hK.both neg;omega) hmi (side_txt hK.both neg).2
  rwa [sgnT_behind] at hh
 have HCP:Hid (∀ neg W,Calls Tryz.prog 47 #[.string ⟨s.toArray⟩,.string ⟨(preT (locOf r p) neg).toArray⟩] W fun e w'=>e=.returned (.tuple #[.string ⟨(bare1 (locOf r p) neg s).toArray⟩,.bool (isOne (locOf r p) neg s)])∧w'=W):=Lib.hid fun neg W=>by
  have hh:=Tryz.strings_CutPrefix ⟨s.toArray⟩ ⟨(preT (locOf r p) neg).toArray⟩ W
  have hd:∀ l:List UInt8,(⟨l.toArray⟩:ByteArray).data.toList=l:=fun l=>by simp
  rw [hd,hd] at hh
  exact hh
 have HCS:Hid (∀ neg W,Calls Tryz.prog 49 #[.string ⟨(bare1 (locOf r p) neg s).toArray⟩,.string ⟨(sufT (locOf r p) neg).toArray⟩] W fun e w'=>e=.returned (.tuple #[.string ⟨(bare2 (locOf r p) neg s).toArray⟩,.bool (isTwo (locOf r p) neg s)])∧w'=W):=Lib.hid fun neg W=>by
  have hl1:=bare1_len (locOf r p) neg s
  have hh:=Tryz.strings_CutSuffix ⟨(bare1 (locOf r p) neg s).toArray⟩ ⟨(sufT (locOf r p) neg).toArray⟩ W (by rw [sizeL];omega)
  have hd:∀ l:List UInt8,(⟨l.toArray⟩:ByteArray).data.toList=l:=fun l=>by simp
  rw [hd,hd] at hh
  exact hh
 have HMD:Hid (∀ neg W,Ext w W→Calls Tryz.prog 50 #[.pointer (some ⟨g,0,none⟩),.string ⟨(bare2 (locOf r p) neg s).toArray⟩,.bool neg] W fun e w'=>∃ X Y cx cy,e=.returned (.tuple #[.agg (drV X cx Y cy (midD (locOf r p) (bare2 (locOf r p) neg s) neg)).toArray,.bool (midB (locOf r p) (bare2 (locOf r p) neg s))])∧DrR w' X Y (midD (locOf r p) (bare2 (locOf r p) neg s) neg)∧Okc X cx∧Okc Y cy∧Ext W w'):=Lib.hid fun neg W hW =>
  strict_middle g A B C D c d a b (bare2 (locOf r p) neg s) neg (locOf r p) W (HL.out.ext hW) hb hK.num (Nat.le_trans (bare2_len _ _ _) hl)
 have HNO:Hid (∀ neg,(isOne (locOf r p) neg s && isTwo (locOf r p) neg s)=false→tryF (locOf r p) neg s=none):=Lib.hid fun neg hh=>try_no hh
 have HNN:Hid (∀ neg,isOne (locOf r p) neg s=true→isTwo (locOf r p) neg s=true→midB (locOf r p) (bare2 (locOf r p) neg s)=false→tryF (locOf r p) neg s=none):=Lib.hid fun neg h1 h2 h3=>try_none h1 h2 h3
 have HSO:Hid (∀ neg,isOne (locOf r p) neg s=true→isTwo (locOf r p) neg s=true→midB (locOf r p) (bare2 (locOf r p) neg s)=true→(neg=true→tryF (locOf r p) false s=none)→rdD (locOf r p) s=midD (locOf r p) (bare2 (locOf r p) neg s) neg∧rdE (locOf r p) s=0):=Lib.hid fun neg h1 h2 h3 h4=>by
  have ht:=try_some h1 h2 h3
  cases neg
  ·exact rd_first hK.both ht
  ·exact rd_second hK.both (h4 rfl) ht
 have HNE:Hid (tryF (locOf r p) false s=none→tryF (locOf r p) true s=none→rdD (locOf r p) s=dr0∧rdE (locOf r p) s=2):=Lib.hid fun h1 h2=>rd_neither hK.both h1 h2
 have b1:=Box.new w 55 zeroD
 have hx1:Ext w (w.alloc (.cells zeroD.toArray 55)):=Ext.alloc_ (Ext.refl w) _
 have HB1:=Lib.hid b1
 have HX1:=Lib.hid hx1
 clear h hK hb hmi b1 hx1 hl HL
 generalize locOf r p=l at *
 go_enter Tryz.func20,Tryz.ntmps20
 go_upto_region 1 with fail
 change Code.wp _ _ _ _ (w.alloc (.cells zeroD.toArray 55))
 generalize w.alloc (.cells zeroD.toArray 55)=w1 at *
 go_wp2
 go_loopw [16] (fun i wr=>∃ k:Nat,k≤2∧i=.int .i64 k∧Ext w1 wr∧Hid (0 < k→tryF l false s=none)∧Hid (1 < k→tryF l true s=none)) (fun i _=>2 - (intOf i).toNat)
 case atStart=>exact ⟨0,Nat.zero_le _,rfl,Ext.refl _,Lib.hid (fun h=>absurd h (by omega)),Lib.hid (fun h=>absurd h (by omega))⟩
 case round =>
  obtain ⟨k,hk,rfl,hx,HF,HT⟩:=hrel
  have hk3:k=0∨k=1∨k=2:=by omega
  rcases hk3 with rfl | rfl | rfl
  ·have hxw:=HX1.out.trans hx
   have HXR:=Lib.hid hx
   have HB0:Hid (false=true→tryF l false s=none):=Lib.hid (fun h=>by cases h)
   clear hx hk
   go_upto_region 5 with (first
    | (rw [run_index0];simp only [Result.andThen];rw [Oper.upon_value])
    | (go_at_call 46;with_reducible refine (HAR.out false _ hxw).mono ?_;rintro e w3 ⟨E1,c1,F1,c2,rfl,hE1,hF1,oE1,oF1,hx3⟩))
   have HX3:=Lib.hid (hxw.trans hx3)
   have HE1:=Lib.hid hE1
   have HF1:=Lib.hid hF1
   have HX3R:=Lib.hid (HXR.out.trans hx3)
   clear hE1 hF1 oE1 oF1 hx3 hxw HXR HAR
   go_upto_region 6 with (first
    | (go_at_call 48;with_reducible refine (HTA.out false _ _ _ HX3.out HE1.out).mono ?_;rintro e w4 ⟨rfl,hx4⟩)
    | (go_at_call 47;with_reducible refine (HCP.out false _).mono ?_;rintro e w5 ⟨rfl,rfl⟩))
   have HX4:=Lib.hid (HX3.out.trans hx4)
   have HX4R:=Lib.hid (HX3R.out.trans hx4)
   have HF4:=Lib.hid (HF1.out.below hx4 (Nat.le_refl _))
   clear hx4 HX3 HX3R HE1 HF1 HTA HCP
   go_upto_region 7 with (first
    | (go_at_call 48;with_reducible refine (HTB.out false _ _ _ HX4.out HF4.out).mono ?_;rintro e w6 ⟨rfl,hx6⟩)
    | (go_at_call 49;with_reducible refine (HCS.out false _).mono ?_;rintro e w7 ⟨rfl,rfl⟩))
   have HX6:=Lib.hid (HX4.out.trans hx6)
   have HX6R:=Lib.hid (HX4R.out.trans hx6)
   clear hx6 HX4 HX4R HF4 HTB HCS
   have hNO:=HNO.out false
   have HNX:=Lib.hid (HNN.out false)
   have HSX:=Lib.hid (HSO.out false)
   have HMX:=Lib.hid (HMD.out false)
   have HNOX:=Lib.hid hNO
   clear hNO HNO HNN HSO HMD
   generalize isOne l false s=o1 at *
   generalize isTwo l false s=o2 at *
   generalize bare2 l false s=ba at *
   generalize midB l ba=mb at *
   generalize midD l ba false=md at *
   cases o1
   ·have HN:=Lib.hid (HNOX.out (by simp))
    go_wp2
    go_roundw
    case rel=>exact ⟨1,by omega,by go_num,HX6R.out,Lib.hid (fun _=>HN.out),Lib.hid (fun h=>absurd h (by omega))⟩
    case measure=>simp [intOf]
   cases o2
   ·have HN:=Lib.hid (HNOX.out (by simp))
    go_wp2
    go_roundw
    case rel=>exact ⟨1,by omega,by go_num,HX6R.out,Lib.hid (fun _=>HN.out),Lib.hid (fun h=>absurd h (by omega))⟩
    case measure=>simp [intOf]
   go_upto_region 9 with (first
    | (go_at_call 50;with_reducible refine (HMX.out _ HX6.out).mono ?_;rintro e w8 ⟨X,Y,cx,cy,rfl,hdr,oX,oY,hx8⟩)
    | (refine wpList_store_fresh rfl 55 (.tmp 13) (.tmp 52) rfl (drV X cx Y cy md).toArray 55 _ rfl rfl infoD rfl (by simp [Value.oneCell',drV]) ?_))
   have hb9:=Box.new w8 55 (drV X cx Y cy md)
   have hx9:Ext w8 (w8.alloc (.cells (drV X cx Y cy md).toArray 55)):=Ext.alloc_ (Ext.refl _) _
   have HX9:=Lib.hid (HX6R.out.trans (hx8.trans hx9))
   have HDR:=Lib.hid (hdr.ext hx9)
   have HRG:=Lib.hid hb9.range
   have HC9:=Lib.hid (HB1.out.ext HX9.out)
   clear hdr hx8 hx9 hb9 HMX HX6 HX6R
   generalize w8.alloc (.cells (drV X cx Y cy md).toArray 55)=w9 at *
   generalize w8.heap.size=bb at *
   cases mb
   ·have HN:=Lib.hid (HNX.out (by simp) (by simp) (by simp))
    go_wp2
    go_roundw
    case rel=>exact ⟨1,by omega,by go_num,HX9.out,Lib.hid (fun _=>HN.out),Lib.hid (fun h=>absurd h (by omega))⟩
    case measure=>simp [intOf]
   ·have hrd:=HSX.out (by simp) (by simp) (by simp) HB0.out
    have HR1:=Lib.hid hrd.1
    have HR2:=Lib.hid hrd.2
    clear hrd HSX
    go_wp2_with (first
     | (refine wpList_load_mid rfl 55 (.tmp 13) rfl bb 0 rfl (drV X cx Y cy md) _ HRG.out Tryz.underlying55 rfl infoD ?_)
     | (refine wpList_store_row rfl 55 (.tmp 4) (.tmp 55) rfl w.heap.size (drV X cx Y cy md).toArray rfl rfl _ _ HC9.out infoD rfl (by simp [Value.oneCell',drV]) ?_))
    have hb10:=HC9.out.set (drV X cx Y cy md).toArray
    refine bodyPost_ret (v:=.tuple #[.agg (drV X cx Y cy md).toArray,.int .i64 0]) (results_ct (p:=5) (q:=4) rfl _ _ w.heap.size _ rfl hb10 Tryz.underlying55 infoD) rfl ⟨X,Y,cx,cy,by rw [HR1.out,HR2.out];first | done | rfl,?_,oX,oY,Ext.setRow (HX1.out.trans HX9.out) (Nat.le_refl _) _⟩
    rw [HR1.out]
    exact ⟨ints_setRow HC9.out HDR.out.int (by simp [isInt,zeroD]) _,ints_setRow HC9.out HDR.out.frac (by simp [isInt,zeroD]) _⟩
  ·have hxw:=HX1.out.trans hx
   have HXR:=Lib.hid hx
   have HB0:Hid (true=true→tryF l false s=none):=Lib.hid (fun _=>HF.out (by omega))
   clear hx hk
   go_upto_region 5 with (first
    | (rw [run_index1];simp only [Result.andThen];rw [Oper.upon_value])
    | (go_at_call 46;with_reducible refine (HAR.out true _ hxw).mono ?_;rintro e w3 ⟨E1,c1,F1,c2,rfl,hE1,hF1,oE1,oF1,hx3⟩))
   have HX3:=Lib.hid (hxw.trans hx3)
   have HE1:=Lib.hid hE1
   have HF1:=Lib.hid hF1
   have HX3R:=Lib.hid (HXR.out.trans hx3)
   clear hE1 hF1 oE1 oF1 hx3 hxw HXR HAR
   go_upto_region 6 with (first
    | (go_at_call 48;with_reducible refine (HTA.out true _ _ _ HX3.out HE1.out).mono ?_;rintro e w4 ⟨rfl,hx4⟩)
    | (go_at_call 47;with_reducible refine (HCP.out true _).mono ?_;rintro e w5 ⟨rfl,rfl⟩))
   have HX4:=Lib.hid (HX3.out.trans hx4)
   have HX4R:=Lib.hid (HX3R.out.trans hx4)
   have HF4:=Lib.hid (HF1.out.below hx4 (Nat.le_refl _))
   clear hx4 HX3 HX3R HE1 HF1 HTA HCP
   go_upto_region 7 with (first
    | (go_at_call 48;with_reducible refine (HTB.out true _ _ _ HX4.out HF4.out).mono ?_;rintro e w6 ⟨rfl,hx6⟩)
    | (go_at_call 49;with_reducible refine (HCS.out true _).mono ?_;rintro e w7 ⟨rfl,rfl⟩))
   have HX6:=Lib.hid (HX4.out.trans hx6)
   have HX6R:=Lib.hid (HX4R.out.trans hx6)
   clear hx6 HX4 HX4R HF4 HTB HCS
   have hNO:=HNO.out true
   have HNX:=Lib.hid (HNN.out true)
   have HSX:=Lib.hid (HSO.out true)
   have HMX:=Lib.hid (HMD.out true)
   have HNOX:=Lib.hid hNO
   clear hNO HNO HNN HSO HMD
   generalize isOne l true s=o1 at *
   generalize isTwo l true s=o2 at *
   generalize bare2 l true s=ba at *
   generalize midB l ba=mb at *
   generalize midD l ba true=md at *
   cases o1
   ·have HN:=Lib.hid (HNOX.out (by simp))
    go_wp2
    go_roundw
    case rel=>exact ⟨2,by omega,by go_num,HX6R.out,Lib.hid (fun _=>HF.out (by omega)),Lib.hid (fun _=>HN.out)⟩
    case measure=>simp [intOf]
   cases o2
   ·have HN:=Lib.hid (HNOX.out (by simp))
    go_wp2
    go_roundw
    case rel=>exact ⟨2,by omega,by go_num,HX6R.out,Lib.hid (fun _=>HF.out (by omega)),Lib.hid (fun _=>HN.out)⟩
    case measure=>simp [intOf]
   go_upto_region 9 with (first
    | (go_at_call 50;with_reducible refine (HMX.out _ HX6.out).mono ?_;rintro e w8 ⟨X,Y,cx,cy,rfl,hdr,oX,oY,hx8⟩)
    | (refine wpList_store_fresh rfl 55 (.tmp 13) (.tmp 52) rfl (drV X cx Y cy md).toArray 55 _ rfl rfl infoD rfl (by simp [Value.oneCell',drV]) ?_))
   have hb9:=Box.new w8 55 (drV X cx Y cy md)
   have hx9:Ext w8 (w8.alloc (.cells (drV X cx Y cy md).toArray 55)):=Ext.alloc_ (Ext.refl _) _
   have HX9:=Lib.hid (HX6R.out.trans (hx8.trans hx9))
   have HDR:=Lib.hid (hdr.ext hx9)
   have HRG:=Lib.hid hb9.range
   have HC9:=Lib.hid (HB1.out.ext HX9.out)
   clear hdr hx8 hx9 hb9 HMX HX6 HX6R
   generalize w8.alloc (.cells (drV X cx Y cy md).toArray 55)=w9 at *
   generalize w8.heap.size=bb at *
   cases mb
   ·have HN:=Lib.hid (HNX.out (by simp) (by simp) (by simp))
    go_wp2
    go_roundw
    case rel=>exact ⟨2,by omega,by go_num,HX9.out,Lib.hid (fun _=>HF.out (by omega)),Lib.hid (fun _=>HN.out)⟩
    case measure=>simp [intOf]
   ·have hrd:=HSX.out (by simp) (by simp) (by simp) HB0.out
    have HR1:=Lib.hid hrd.1
    have HR2:=Lib.hid hrd.2
    clear hrd HSX
    go_wp2_with (first
     | (refine wpList_load_mid rfl 55 (.tmp 13) rfl bb 0 rfl (drV X cx Y cy md) _ HRG.out Tryz.underlying55 rfl infoD ?_)
     | (refine wpList_store_row rfl 55 (.tmp 4) (.tmp 55) rfl w.heap.size (drV X cx Y cy md).toArray rfl rfl _ _ HC9.out infoD rfl (by simp [Value.oneCell',drV]) ?_))
    have hb10:=HC9.out.set (drV X cx Y cy md).toArray
    refine bodyPost_ret (v:=.tuple #[.agg (drV X cx Y cy md).toArray,.int .i64 0]) (results_ct (p:=5) (q:=4) rfl _ _ w.heap.size _ rfl hb10 Tryz.underlying55 infoD) rfl ⟨X,Y,cx,cy,by rw [HR1.out,HR2.out];first | done | rfl,?_,oX,oY,Ext.setRow (HX1.out.trans HX9.out) (Nat.le_refl _) _⟩
    rw [HR1.out]
    exact ⟨ints_setRow HC9.out HDR.out.int (by simp [isInt,zeroD]) _,ints_setRow HC9.out HDR.out.frac (by simp [isInt,zeroD]) _⟩
  ·obtain ⟨h1,h2⟩:=HNE.out (HF.out (by omega)) (HT.out (by omega))
   have HR1:=Lib.hid h1
   have HR2:=Lib.hid h2
   have HC9:=Lib.hid (HB1.out.ext hx)
   have HX9:=Lib.hid hx
   clear h1 h2 hx hk
   go_wp2_with (refine wpList_store_row rfl 55 (.tmp 4) (.tmp 57) rfl w.heap.size zeroD.toArray rfl rfl _ _ HC9.out infoD rfl (by simp [Value.oneCell',zeroD]) ?_)
   have hb10:=HC9.out.set zeroD.toArray
   refine bodyPost_ret (v:=.tuple #[.agg zeroD.toArray,.int .i64 2]) (results_ct (p:=5) (q:=4) rfl _ _ w.heap.size _ rfl hb10 Tryz.underlying55 infoD) rfl ⟨none,none,0,0,by rw [HR1.out,HR2.out];rfl,?_,⟨Nat.zero_le _,fun _=>rfl⟩,⟨Nat.zero_le _,fun _=>rfl⟩,Ext.setRow (HX1.out.trans HX9.out) (Nat.le_refl _) _⟩
   rw [HR1.out]
   exact ⟨.inl rfl,.inl rfl⟩
theorem strict_is (g:Nat) (A B C D:Option Addr) (c d a b:Nat) (s:List UInt8) (r:Rec) (p:Pt) (w:World) (h:LocR w g A B C D c d a b (locOf r p)) (hK:Knd r p) (hl:s.length≤5000) :
  Calls Tryz.prog 25 #[.pointer (some ⟨g,0,none⟩),.string ⟨s.toArray⟩] w fun e w'=>e=.returned (.bool (rdE (locOf r p) s == 0))∧Ext w w':=by
 have HP:=Lib.hid (strict_parse g A B C D c d a b s r p w h hK hl)
 clear h hK hl
 generalize rdD (locOf r p) s=dd at *
 generalize rdE (locOf r p) s=ee at *
 go_enter Tryz.func25,Tryz.ntmps25
 go_wp2_with (first
  | (go_at_call 20;with_reducible refine HP.out.mono ?_;rintro e w1 ⟨X,Y,cx,cy,rfl,hdr,oX,oY,hx1⟩)
  | (refine wpList_store_fresh rfl 55 (.tmp 5) (.tmp 11) rfl (drV X cx Y cy dd).toArray 55 _ rfl rfl infoD rfl (by simp [Value.oneCell',drV]) ?_))
 go_ret
 exact ⟨rfl,Ext.alloc_ hx1 _⟩
set_option maxRecDepth 512
def swT (l:Loc) (m:Loc) (s:List UInt8):List UInt8:=if rdE l s=0 then textI (itemsF m (rdD l s)) else []
def siL (l:Loc) (s:List UInt8):List It:=if rdE l s=0 then itemsF l (rdD l s) else []
theorem swT_of {r:Rec} {p:Pt} (h:Both r p) (m:Loc) {d:Dr} (hd:DrOk d):swT (locOf r p) m (textI (itemsF (locOf r p) d))=textI (itemsF m d):=by
 obtain ⟨h1,h2⟩:=rd_of h hd
 unfold swT
 rw [h1,h2,if_pos rfl]
theorem rd_small {r:Rec} {p:Pt} (h:Both r p) {s:List UInt8} (hl:s.length≤5000):(rdD (locOf r p) s).int.length≤5000∧(rdD (locOf r p) s).frac.length≤5000:=by
 have h1:=rd_len h s
 have h2:=split_len_le s
 omega
set_option maxRecDepth 100000
theorem strict_items (g:Nat) (A B C D:Option Addr) (c d a b:Nat) (s:List UInt8) (r:Rec) (p:Pt) (w:World) (h:LocR w g A B C D c d a b (locOf r p)) (hK:Knd r p) (hl:s.length≤5000) :
  Calls Tryz.prog 27 #[.pointer (some ⟨g,0,none⟩),.string ⟨s.toArray⟩] w fun e w'=>∃ E cE,e=.returned (.tuple #[.slice E (siL (locOf r p) s).length cE,.int .i64 (rdE (locOf r p) s)])∧Row w' E (itsV (siL (locOf r p) s))∧Ext w w':=by
 have HP:=Lib.hid (strict_parse g A B C D c d a b s r p w h hK hl)
 have HIT:Hid (∀ W X Y cx cy,Ext w W→DrR W X Y (rdD (locOf r p) s)→Calls Tryz.prog 53 #[.pointer (some ⟨g,0,none⟩),.agg (drV X cx Y cy (rdD (locOf r p) s)).toArray] W fun e w'=>∃ E cE,e=.returned (.slice E (itemsF (locOf r p) (rdD (locOf r p) s)).length cE)∧Row w' E (itsV (itemsF (locOf r p) (rdD (locOf r p) s)))∧Ext W w'):=Lib.hid fun W X Y cx cy hW hd =>
  (item_items5 g A B C D X Y c d a b cx cy _ (locOf r p) W (h.ext hW) hK.both.may.b hK.num hd (rd_small hK.both hl).1 (rd_small hK.both hl).2).mono fun e w' ⟨E,cE,h1,h2⟩=>⟨E,cE,h1,h2.row,h2.ext⟩
 have HL:Hid (siL (locOf r p) s=if rdE (locOf r p) s=0 then itemsF (locOf r p) (rdD (locOf r p) s) else []):=Lib.hid rfl
 clear h hK hl
 generalize siL (locOf r p) s=L at *
 generalize itemsF (locOf r p) (rdD (locOf r p) s)=L0 at *
 generalize rdD (locOf r p) s=dd at *
 generalize rdE (locOf r p) s=ee at *
 go_enter Tryz.func27,Tryz.ntmps27
 go_upto_region 2 with (first
  | (go_at_call 20;with_reducible refine HP.out.mono ?_;rintro e w1 ⟨X,Y,cx,cy,rfl,hdr,oX,oY,hx1⟩)
  | (refine wpList_store_fresh rfl 55 (.tmp 6) (.tmp 12) rfl (drV X cx Y cy dd).toArray 55 _ rfl rfl infoD rfl (by simp [Value.oneCell',drV]) ?_))
 have hb2:=Box.new w1 55 (drV X cx Y cy dd)
 have hx2:Ext w1 (w1.alloc (.cells (drV X cx Y cy dd).toArray 55)):=Ext.alloc_ (Ext.refl _) _
 have HX2:=Lib.hid (hx1.trans hx2)
 have HDR:=Lib.hid (hdr.ext hx2)
 have HRG:=Lib.hid hb2.range
 clear hb2 hx1 hx2 hdr
 generalize w1.alloc (.cells (drV X cx Y cy dd).toArray 55)=w2 at *
 generalize w1.heap.size=bb at *
 by_cases he:ee=0
 ·have HL2:Hid (L=L0):=Lib.hid (by rw [HL.out,if_pos he])
  have HE:=Lib.hid he
  have i1:(ee != 0)=false:=by simpa using he
  clear he
  go_wp2_with (first
   | (refine wpList_load_mid rfl 55 (.tmp 6) rfl bb 0 rfl (drV X cx Y cy dd) _ HRG.out Tryz.underlying55 rfl infoD ?_)
   | (go_at_call 53;with_reducible refine (HIT.out _ _ _ _ _ HX2.out HDR.out).mono ?_;rintro e w3 ⟨E,cE,rfl,hrE,hx3⟩))
  go_ret2
  exact ⟨E,cE,by rw [HL2.out,HE.out];first | done | rfl,by rw [HL2.out];exact hrE,HX2.out.trans hx3⟩
 ·have HL2:Hid (L=[]):=Lib.hid (by rw [HL.out,if_neg he])
  have i1:(ee != 0)=true:=by simpa using he
  clear he
  go_wp2
  go_ret2
  exact ⟨none,0,by rw [HL2.out];rfl,by rw [HL2.out];exact .inl rfl,HX2.out⟩
theorem begin17 (v0 v1 v2 v3 v4 v5 n:Int) (h0:i64 v0) (h1:i64 v1) (h2:i64 v2) (h3:i64 v3) (h4:i64 v4) (h5:i64 v5) (hn:i64 n):∃ r p,Kin r p∧∀ w,Tabs w→Calls Tryz.prog 19 #[.agg ([.int .i64 v0,.int .i64 v1,.int .i64 v2,.int .i64 v3,.int .i64 v4,.int .i64 v5]:List Value).toArray,.int .i64 n] w fun e w'=>∃ g A' B' C' D' c' d' a' b' A B C D c d a b,e=.returned (.tuple #[.pointer (some ⟨g,0,none⟩),.agg (refLV A B C D c d a b r p).toArray])∧LocR w' g A' B' C' D' c' d' a' b' (locOf r p)∧PtR w' A B C D p∧CapR p c d a b∧Ext w w':=by
 obtain ⟨r,p,hk,hL⟩:=locale_any v0 v1 v2 v3 v4 v5 n h0 h1 h2 h3 h4 h5 hn
 refine ⟨r,p,hk,fun w hT=>?_⟩
 unfold LocaleC at hL
 have HLC:=Lib.hid hL
 have HBO:=Lib.hid hk.both
 have HNW:Hid (∀ W,Ext w W→Calls Tryz.prog 31 #[.agg ([.string ⟨r.name.toArray⟩,.string ⟨r.pattern.toArray⟩,.string ⟨r.system.toArray⟩,.string ⟨r.decimal.toArray⟩,.string ⟨r.group.toArray⟩,.string ⟨r.minus.toArray⟩,.string ⟨r.percent.toArray⟩,.string ⟨r.currency.toArray⟩]:List Value).toArray] W fun e w'=>∃ g A B C D c d a b,e=.returned (.tuple #[.pointer (some ⟨g,0,none⟩),.nilIface])∧LocR w' g A B C D c d a b (locOf r p)∧Ext W w'):=Lib.hid fun W hW =>
  new_ r p W HBO.out.pat (by have:=HBO.out.plen;omega) HBO.out.nm HBO.out.may (hT.ext hW)
 have b1:=(Box.new w 23 [.int .i64 v0,.int .i64 v1,.int .i64 v2,.int .i64 v3,.int .i64 v4,.int .i64 v5]).alloc (.cells zero17.toArray 31)
 have c1:=Box.new (w.alloc (.cells ([.int .i64 v0,.int .i64 v1,.int .i64 v2,.int .i64 v3,.int .i64 v4,.int .i64 v5]:List Value).toArray 23)) 31 zero17
 have hs1:(w.alloc (.cells ([.int .i64 v0,.int .i64 v1,.int .i64 v2,.int .i64 v3,.int .i64 v4,.int .i64 v5]:List Value).toArray 23)).heap.size=w.heap.size+1:=by simp
 rw [hs1] at c1
 have hx1:Ext w ((w.alloc (.cells ([.int .i64 v0,.int .i64 v1,.int .i64 v2,.int .i64 v3,.int .i64 v4,.int .i64 v5]:List Value).toArray 23)).alloc (.cells zero17.toArray 31)):=Ext.alloc_ (Ext.alloc_ (Ext.refl w) _) _
 have HRG:=Lib.hid b1.range
 have HC1:=Lib.hid c1
 have HX1:=Lib.hid hx1
 clear hk hL b1 c1 hs1 hx1 hT h0 h1 h2 h3 h4 h5 hn
 go_enter Tryz.func19,Tryz.ntmps19
 go_upto_region 1 with fail
 change Code.wp _ _ _ _ ((w.alloc (.cells ([.int .i64 v0,.int .i64 v1,.int .i64 v2,.int .i64 v3,.int .i64 v4,.int .i64 v5]:List Value).toArray 23)).alloc (.cells zero17.toArray 31))
 generalize (w.alloc (.cells ([.int .i64 v0,.int .i64 v1,.int .i64 v2,.int .i64 v3,.int .i64 v4,.int .i64 v5]:List Value).toArray 23)).alloc (.cells zero17.toArray 31)=w1 at *
 go_upto_region 2 with (first
  | (refine wpList_load_mid rfl 23 (.tmp 2) rfl w.heap.size 0 rfl [.int .i64 v0,.int .i64 v1,.int .i64 v2,.int .i64 v3,.int .i64 v4,.int .i64 v5] _ HRG.out Tryz.underlying23 rfl infoG ?_)
  | (go_at_call 30;with_reducible refine (HLC.out _).mono ?_;rintro e w2 ⟨A,B,C,D,c,d,a,b,rfl,hpt,hcap,hx2⟩)
  | (refine wpList_store_fresh rfl 31 (.tmp 6) (.tmp 11) rfl (refLV A B C D c d a b r p).toArray 31 _ rfl rfl infoRL rfl (refL_one A B C D c d a b r p) ?_))
 have hb3:=Box.new w2 31 (refLV A B C D c d a b r p)
 have hx3:Ext w2 (w2.alloc (.cells (refLV A B C D c d a b r p).toArray 31)):=Ext.alloc_ (Ext.refl _) _
 have hpt3:=hpt.ext hx3
 generalize w2.alloc (.cells (refLV A B C D c d a b r p).toArray 31)=w3 at *
 have HLB:Hid (w2.heap.size ≠ w.heap.size+1):=Lib.hid (by have:=(HC1.out.ext hx2).lt;omega)
 generalize w2.heap.size=lb at *
 have HR8:Hid (w3.rangeAt lb 0 [.string ⟨r.name.toArray⟩,.string ⟨r.pattern.toArray⟩,.string ⟨r.system.toArray⟩,.string ⟨r.decimal.toArray⟩,.string ⟨r.group.toArray⟩,.string ⟨r.minus.toArray⟩,.string ⟨r.percent.toArray⟩,.string ⟨r.currency.toArray⟩]):=Lib.hid (refL_rec hb3.range)
 have HB3:=Lib.hid hb3
 have HX3:=Lib.hid (HX1.out.trans (hx2.trans hx3))
 have HC3:=Lib.hid (HC1.out.ext (hx2.trans hx3))
 have HPT:=Lib.hid hpt3
 clear hb3 hx2 hx3 hpt hpt3 HRG HLC HC1
 go_upto_region 3 with (first
  | (refine wpList_load_mid rfl 26 (.tmp 13) rfl lb 0 rfl [.string ⟨r.name.toArray⟩,.string ⟨r.pattern.toArray⟩,.string ⟨r.system.toArray⟩,.string ⟨r.decimal.toArray⟩,.string ⟨r.group.toArray⟩,.string ⟨r.minus.toArray⟩,.string ⟨r.percent.toArray⟩,.string ⟨r.currency.toArray⟩] _ HR8.out Tryz.underlying26 rfl infoR ?_)
  | (go_at_call 31;with_reducible refine (HNW.out _ HX3.out).mono ?_;rintro e w4 ⟨g,A',B',C',D',c',d',a',b',rfl,hLR,hx4⟩))
 have HR4:Hid (w4.rangeAt lb 0 [.string ⟨r.name.toArray⟩,.string ⟨r.pattern.toArray⟩,.string ⟨r.system.toArray⟩,.string ⟨r.decimal.toArray⟩,.string ⟨r.group.toArray⟩,.string ⟨r.minus.toArray⟩,.string ⟨r.percent.toArray⟩,.string ⟨r.currency.toArray⟩,.slice A p.pre.length c,.slice B p.suf.length d,.slice C p.npre.length a,.slice D p.nsuf.length b,.int .i64 p.num.prim,.int .i64 p.num.sec,.int .i64 p.num.minInt,.int .i64 p.num.minFrac,.int .i64 p.num.maxFrac]):=Lib.hid (HB3.out.ext hx4).range
 have HC4:=Lib.hid (HC3.out.ext hx4)
 have HP4:=Lib.hid (HPT.out.ext hx4)
 have HX4:=Lib.hid (HX3.out.trans hx4)
 have HLR:=Lib.hid hLR
 clear hLR hx4
 refine rg_ (S:=fun W=>W.rangeAt lb 0 [.string ⟨r.name.toArray⟩,.string ⟨r.pattern.toArray⟩,.string ⟨r.system.toArray⟩,.string ⟨r.decimal.toArray⟩,.string ⟨r.group.toArray⟩,.string ⟨r.minus.toArray⟩,.string ⟨r.percent.toArray⟩,.string ⟨r.currency.toArray⟩,.slice A p.pre.length c,.slice B p.suf.length d,.slice C p.npre.length a,.slice D p.nsuf.length b,.int .i64 p.num.prim,.int .i64 p.num.sec,.int .i64 p.num.minInt,.int .i64 p.num.minFrac,.int .i64 p.num.maxFrac]) (HR4.out) (fun hHeld=>?_)
 refine tk_ 0 hHeld ?_
 try simp only [Act.put,sA,sZ,sS]
 refine tr_ (cs:=[.string ⟨r.name.toArray⟩,.string ⟨r.pattern.toArray⟩,.string ⟨r.system.toArray⟩,.string ⟨r.decimal.toArray⟩,.string ⟨r.group.toArray⟩,.string ⟨r.minus.toArray⟩,.string ⟨r.percent.toArray⟩,.string ⟨r.currency.toArray⟩,.slice A p.pre.length c,.slice B p.suf.length d,.slice C p.npre.length a,.slice D p.nsuf.length b,.int .i64 p.num.prim,.int .i64 p.num.sec,.int .i64 p.num.minInt,.int .i64 p.num.minFrac,.int .i64 p.num.maxFrac]) 1 hHeld 31 ((.tmp 6)) lb (0) (fun _ h=>h) Tryz.underlying31 infoRL ?_
 try simp only [Act.put,sA,sZ,sS]
 refine tk_ 2 hHeld ?_
 try simp only [Act.put,sA,sZ,sS]
 refine on_ 3 (fun K1 hK1=>?_)
 refine step_row rfl 31 (.tmp 5) (.tmp 19) rfl (w.heap.size+1) ([.string ⟨r.name.toArray⟩,.string ⟨r.pattern.toArray⟩,.string ⟨r.system.toArray⟩,.string ⟨r.decimal.toArray⟩,.string ⟨r.group.toArray⟩,.string ⟨r.minus.toArray⟩,.string ⟨r.percent.toArray⟩,.string ⟨r.currency.toArray⟩,.slice A p.pre.length c,.slice B p.suf.length d,.slice C p.npre.length a,.slice D p.nsuf.length b,.int .i64 p.num.prim,.int .i64 p.num.sec,.int .i64 p.num.minInt,.int .i64 p.num.minFrac,.int .i64 p.num.maxFrac]:List Value).toArray (by rfl) (by rfl) _ _ HC4.out.drew infoRL rfl (refL_one A B C D c d a b r p) ?_
 have hb5:=HC4.out.drew.set (refLV A B C D c d a b r p).toArray
 refine hK1.out _ _ (range_setRow hHeld HLB.out _) (fun hHeld=>?_)
 clear hK1
 try simp only [Act.put,sA,sZ,sS]
 refine dn_ ?_
 have hle:w.heap.size≤w.heap.size+1:=Nat.le_succ _
 go_wp2
 refine bodyPost_ret (v:=.tuple #[.pointer (some ⟨g,0,none⟩),.agg (refLV A B C D c d a b r p).toArray]) (results_two (p:=4) (q:=5) rfl _ _ (w.heap.size+1) _ rfl hb5 Tryz.underlying31 infoRL) rfl ⟨g,A',B',C',D',c',d',a',b',A,B,C,D,c,d,a,b,rfl,⟨HLR.out.box.drew.other (box_ne HLR.out.box HC4.out (by decide)) _,pt_setRow HC4.out.drew (HLR.out.pt.ext (Ext.drew_ (Ext.refl _))) _⟩,pt_setRow HC4.out.drew (HP4.out.ext (Ext.drew_ (Ext.refl _))) _,hcap,Ext.setRow (Ext.drew_ HX4.out) hle _⟩
section
variable {W:World} {g lb:Nat} {r:Rec} {p:Pt} {A B C D:Option Addr} {c d a b:Nat}
set_option maxRecDepth 512
theorem Lw.parse (h:Lw W g lb r p A B C D c d a b) (hK:Knd r p) {s:List UInt8} (hl:s.length≤5000) :
  Calls Tryz.prog 20 #[.pointer (some ⟨g,0,none⟩),.string ⟨s.toArray⟩] W fun e w'=>∃ X Y cx cy,e=.returned (.tuple #[.agg ([.bool (rdD (locOf r p) s).neg,.slice X (rdD (locOf r p) s).int.length cx,.bool (rdD (locOf r p) s).sep,.slice Y (rdD (locOf r p) s).frac.length cy]:List Value).toArray,.int .i64 (rdE (locOf r p) s)])∧DrR w' X Y (rdD (locOf r p) s)∧Okc X cx∧Okc Y cy∧Ext W w':=by
 obtain ⟨A',B',C',D',c',d',a',b',h1⟩:=h.loc
 exact strict_parse g A' B' C' D' c' d' a' b' s r p W h1 hK hl
theorem Lw.is (h:Lw W g lb r p A B C D c d a b) (hK:Knd r p) {s:List UInt8} (hl:s.length≤5000) :
  Calls Tryz.prog 25 #[.pointer (some ⟨g,0,none⟩),.string ⟨s.toArray⟩] W fun e w'=>e=.returned (.bool (rdE (locOf r p) s == 0))∧Ext W w':=by
 obtain ⟨A',B',C',D',c',d',a',b',h1⟩:=h.loc
 exact strict_is g A' B' C' D' c' d' a' b' s r p W h1 hK hl
theorem Lw.its (h:Lw W g lb r p A B C D c d a b) (hK:Knd r p) {s:List UInt8} (hl:s.length≤5000) :
  Calls Tryz.prog 27 #[.pointer (some ⟨g,0,none⟩),.string ⟨s.toArray⟩] W fun e w'=>∃ E cE,e=.returned (.tuple #[.slice E (siL (locOf r p) s).length cE,.int .i64 (rdE (locOf r p) s)])∧Row w' E (itsV (siL (locOf r p) s))∧Ext W w':=by
 obtain ⟨A',B',C',D',c',d',a',b',h1⟩:=h.loc
 exact strict_items g A' B' C' D' c' d' a' b' s r p W h1 hK hl
theorem Lw.rparse (h:Lw W g lb r p A B C D c d a b) (hK:Knd r p) {s:List UInt8} (hl:s.length≤5000) :
  Calls Tryz.prog 28 #[.agg ([.string ⟨r.name.toArray⟩,.string ⟨r.pattern.toArray⟩,.string ⟨r.system.toArray⟩,.string ⟨r.decimal.toArray⟩,.string ⟨r.group.toArray⟩,.string ⟨r.minus.toArray⟩,.string ⟨r.percent.toArray⟩,.string ⟨r.currency.toArray⟩,.slice A p.pre.length c,.slice B p.suf.length d,.slice C p.npre.length a,.slice D p.nsuf.length b,.int .i64 p.num.prim,.int .i64 p.num.sec,.int .i64 p.num.minInt,.int .i64 p.num.minFrac,.int .i64 p.num.maxFrac]:List Value).toArray,.string ⟨s.toArray⟩] W fun e w'=>∃ X Y cx cy,e=.returned (.tuple #[.agg ([.bool (rdD (locOf r p) s).neg,.slice X (rdD (locOf r p) s).int.length cx,.bool (rdD (locOf r p) s).sep,.slice Y (rdD (locOf r p) s).frac.length cy]:List Value).toArray,.int .i64 (rdE (locOf r p) s)])∧DrR w' X Y (rdD (locOf r p) s)∧Okc X cx∧Okc Y cy∧Ext W w' :=
 ref17_parse A B C D c d a b s r p W hK h.pt h.cap hl
theorem Lw.rtext (h:Lw W g lb r p A B C D c d a b) (hK:Knd r p) {X Y:Option Addr} {cx cy:Nat} {e0:Dr} (hd:DrR W X Y e0) (ox:Okc X cx) (oy:Okc Y cy) (hok:DrOk e0) (hi:e0.int.length≤5000) (hf:e0.frac.length≤5000) :
  Calls Tryz.prog 14 #[.agg ([.string ⟨r.name.toArray⟩,.string ⟨r.pattern.toArray⟩,.string ⟨r.system.toArray⟩,.string ⟨r.decimal.toArray⟩,.string ⟨r.group.toArray⟩,.string ⟨r.minus.toArray⟩,.string ⟨r.percent.toArray⟩,.string ⟨r.currency.toArray⟩,.slice A p.pre.length c,.slice B p.suf.length d,.slice C p.npre.length a,.slice D p.nsuf.length b,.int .i64 p.num.prim,.int .i64 p.num.sec,.int .i64 p.num.minInt,.int .i64 p.num.minFrac,.int .i64 p.num.maxFrac]:List Value).toArray,.agg ([.bool e0.neg,.slice X e0.int.length cx,.bool e0.sep,.slice Y e0.frac.length cy]:List Value).toArray] W fun e w'=>e=.returned (.string ⟨(textI (itemsF (locOf r p) e0)).toArray⟩)∧Ext W w' :=
 ref17_text A B C D X Y c d a b cx cy e0 r p W hK h.pt h.cap hd ox oy hok hi hf
end
set_option maxRecDepth 512
theorem begin17_ (v0 v1 v2 v3 v4 v5 n:Int) (h0:i64 v0) (h1:i64 v1) (h2:i64 v2) (h3:i64 v3) (h4:i64 v4) (h5:i64 v5) (hn:i64 n):∃ r p,Kin r p∧∀ w,Tabs w→Calls Tryz.prog 19 #[.agg ([.int .i64 v0,.int .i64 v1,.int .i64 v2,.int .i64 v3,.int .i64 v4,.int .i64 v5]:List Value).toArray,.int .i64 n] w fun e w'=>∃ g A B C D c d a b,e=.returned (.tuple #[.pointer (some ⟨g,0,none⟩),.agg ([.string ⟨r.name.toArray⟩,.string ⟨r.pattern.toArray⟩,.string ⟨r.system.toArray⟩,.string ⟨r.decimal.toArray⟩,.string ⟨r.group.toArray⟩,.string ⟨r.minus.toArray⟩,.string ⟨r.percent.toArray⟩,.string ⟨r.currency.toArray⟩,.slice A p.pre.length c,.slice B p.suf.length d,.slice C p.npre.length a,.slice D p.nsuf.length b,.int .i64 p.num.prim,.int .i64 p.num.sec,.int .i64 p.num.minInt,.int .i64 p.num.minFrac,.int .i64 p.num.maxFrac]:List Value).toArray])∧Lw (w'.alloc (.cells ([.string ⟨r.name.toArray⟩,.string ⟨r.pattern.toArray⟩,.string ⟨r.system.toArray⟩,.string ⟨r.decimal.toArray⟩,.string ⟨r.group.toArray⟩,.string ⟨r.minus.toArray⟩,.string ⟨r.percent.toArray⟩,.string ⟨r.currency.toArray⟩,.slice A p.pre.length c,.slice B p.suf.length d,.slice C p.npre.length a,.slice D p.nsuf.length b,.int .i64 p.num.prim,.int .i64 p.num.sec,.int .i64 p.num.minInt,.int .i64 p.num.minFrac,.int .i64 p.num.maxFrac]:List Value).toArray 31)) g w'.heap.size r p A B C D c d a b∧Ext w w':=by
 obtain ⟨r,p,hK,h⟩:=begin17 v0 v1 v2 v3 v4 v5 n h0 h1 h2 h3 h4 h5 hn
 refine ⟨r,p,hK,fun w hT=>(h w hT).mono ?_⟩
 rintro e w' ⟨g,A',B',C',D',c',d',a',b',A,B,C,D,c,d,a,b,rfl,hl,hp,hc,hx⟩
 have hx1:Ext w' (w'.alloc (.cells ([.string ⟨r.name.toArray⟩,.string ⟨r.pattern.toArray⟩,.string ⟨r.system.toArray⟩,.string ⟨r.decimal.toArray⟩,.string ⟨r.group.toArray⟩,.string ⟨r.minus.toArray⟩,.string ⟨r.percent.toArray⟩,.string ⟨r.currency.toArray⟩,.slice A p.pre.length c,.slice B p.suf.length d,.slice C p.npre.length a,.slice D p.nsuf.length b,.int .i64 p.num.prim,.int .i64 p.num.sec,.int .i64 p.num.minInt,.int .i64 p.num.minFrac,.int .i64 p.num.maxFrac]:List Value).toArray 31)):=Ext.alloc_ (Ext.refl _) _
 exact ⟨g,A,B,C,D,c,d,a,b,rfl,⟨⟨A',B',C',D',c',d',a',b',hl.ext hx1⟩,hp.ext hx1,hc,Box.new w' 31 [.string ⟨r.name.toArray⟩,.string ⟨r.pattern.toArray⟩,.string ⟨r.system.toArray⟩,.string ⟨r.decimal.toArray⟩,.string ⟨r.group.toArray⟩,.string ⟨r.minus.toArray⟩,.string ⟨r.percent.toArray⟩,.string ⟨r.currency.toArray⟩,.slice A p.pre.length c,.slice B p.suf.length d,.slice C p.npre.length a,.slice D p.nsuf.length b,.int .i64 p.num.prim,.int .i64 p.num.sec,.int .i64 p.num.minInt,.int .i64 p.num.minFrac,.int .i64 p.num.maxFrac]⟩,hx⟩
set_option maxRecDepth 1000000
theorem lives17 (w:World) (hT:Tabs w):Calls Tryz.prog 26 #[] w fun e w'=>e=.returned (.bool true)∧Ext w w':=by
 have hK:Knd rL17 pL17:=⟨both_17,num_17⟩
 have HNW:Hid (∀ W,Ext w W→Calls Tryz.prog 31 #[.agg ([.string ⟨#[101,110]⟩,.string ⟨#[36,35,44,35,35,48,46,48,48]⟩,.string ⟨#[108,97,116,110]⟩,.string ⟨#[46]⟩,.string ⟨#[44]⟩,.string ⟨#[45]⟩,.string ⟨#[]⟩,.string ⟨#[]⟩]:List Value).toArray] W fun e w'=>∃ g A B C D c d a b,e=.returned (.tuple #[.pointer (some ⟨g,0,none⟩),.nilIface])∧LocR w' g A B C D c d a b (locOf rL17 pL17)∧Ext W w'):=Lib.hid fun W hW =>
  new_ rL17 pL17 W hK.both.pat (by have:=hK.both.plen;omega) hK.both.nm hK.both.may (hT.ext hW)
 have HPA:Hid (∀ W g A B C D c d a b,LocR W g A B C D c d a b (locOf rL17 pL17)→Calls Tryz.prog 20 #[.pointer (some ⟨g,0,none⟩),.string ⟨#[36,48,49,44,50,51,52,46,53,48]⟩] W fun e w'=>∃ X Y cx cy,e=.returned (.tuple #[.agg ([.bool false,.slice X 5 cx,.bool true,.slice Y 2 cy]:List Value).toArray,.int .i64 0])∧Row w' X ([0,1,2,3,4].map (Value.int .i64))∧Row w' Y ([5,0].map (Value.int .i64))∧Ext W w'):=Lib.hid fun W g A B C D c d a b h=>by
  have hh:=strict_parse g A B C D c d a b [36,48,49,44,50,51,52,46,53,48] rL17 pL17 W h hK (by decide)
  have e1:rdD (locOf rL17 pL17) [36,48,49,44,50,51,52,46,53,48]=⟨false,[0,1,2,3,4],true,[5,0]⟩:=by unfold rdD;rw [read17a];rfl
  have e2:rdE (locOf rL17 pL17) [36,48,49,44,50,51,52,46,53,48]=0:=by unfold rdE;rw [read17a];rfl
  rw [e1,e2] at hh
  exact hh.mono fun e w' ⟨X,Y,cx,cy,he,hd,_,_,hx⟩=>⟨X,Y,cx,cy,he,hd.int,hd.frac,hx⟩
 have HPB:Hid (∀ W g A B C D c d a b,LocR W g A B C D c d a b (locOf rL17 pL17)→Calls Tryz.prog 20 #[.pointer (some ⟨g,0,none⟩),.string ⟨#[36,49,50,51,52]⟩] W fun e w'=>∃ X Y cx cy,e=.returned (.tuple #[.agg ([.bool false,.slice X 0 cx,.bool false,.slice Y 0 cy]:List Value).toArray,.int .i64 2])∧Ext W w'):=Lib.hid fun W g A B C D c d a b h=>by
  have hh:=strict_parse g A B C D c d a b [36,49,50,51,52] rL17 pL17 W h hK (by decide)
  have e1:rdD (locOf rL17 pL17) [36,49,50,51,52]=dr0:=by unfold rdD;rw [read17b];rfl
  have e2:rdE (locOf rL17 pL17) [36,49,50,51,52]=2:=by unfold rdE;rw [read17b];rfl
  rw [e1,e2] at hh
  exact hh.mono fun e w' ⟨X,Y,cx,cy,he,_,_,_,hx⟩=>⟨X,Y,cx,cy,he,hx⟩
 clear hK hT
 go_enter Tryz.func26,Tryz.ntmps26
 go_upto_region 4 with (go_at_call 31;with_reducible refine (HNW.out _ (Ext.refl _)).mono ?_;rintro e w1 ⟨g,A,B,C,D,c,d,a,b,rfl,hl,hx1⟩)
 have HL:=Lib.hid hl
 have HX1:=Lib.hid hx1
 clear hl hx1 HNW
 go_upto_region 5 with (first
  | (go_at_call 20;with_reducible refine (HPA.out _ g A B C D c d a b HL.out).mono ?_;rintro e w2 ⟨X,Y,cx,cy,rfl,hX,hY,hx2⟩)
  | (refine wpList_store_fresh rfl 55 (.tmp 3) (.tmp 17) rfl ([.bool false,.slice X 5 cx,.bool true,.slice Y 2 cy]:List Value).toArray 55 _ rfl rfl infoD rfl (by simp [Value.oneCell']) ?_))
 have hb3:=Box.new w2 55 [.bool false,.slice X 5 cx,.bool true,.slice Y 2 cy]
 have hx3:Ext w2 (w2.alloc (.cells ([.bool false,.slice X 5 cx,.bool true,.slice Y 2 cy]:List Value).toArray 55)):=Ext.alloc_ (Ext.refl _) _
 have HB3:=Lib.hid hb3
 have HL3:=Lib.hid (HL.out.ext (hx2.trans hx3))
 have HX3:=Lib.hid (HX1.out.trans (hx2.trans hx3))
 have HRX:=Lib.hid (hX.below hx3 (Nat.le_refl _))
 have HRY:=Lib.hid (hY.below hx3 (Nat.le_refl _))
 clear hb3 hx2 hx3 hX hY HL HX1 HPA
 generalize w2.alloc (.cells ([.bool false,.slice X 5 cx,.bool true,.slice Y 2 cy]:List Value).toArray 55)=w3 at *
 generalize w2.heap.size=db at *
 go_upto_region 6 with (first
  | (go_at_call 20;with_reducible refine (HPB.out _ g A B C D c d a b HL3.out).mono ?_;rintro e w4 ⟨X',Y',cx',cy',rfl,hx4⟩)
  | (refine wpList_store_fresh rfl 55 (.tmp 5) (.tmp 22) rfl ([.bool false,.slice X' 0 cx',.bool false,.slice Y' 0 cy']:List Value).toArray 55 _ rfl rfl infoD rfl (by simp [Value.oneCell']) ?_))
 have hx5:Ext w4 (w4.alloc (.cells ([.bool false,.slice X' 0 cx',.bool false,.slice Y' 0 cy']:List Value).toArray 55)):=Ext.alloc_ (Ext.refl _) _
 have HX5:=Lib.hid (HX3.out.trans (hx4.trans hx5))
 have hb5:=HB3.out.ext (hx4.trans hx5)
 have k1:=hb5.cell (j:=1) (v:=.slice X 5 cx) rfl
 have HB5:=Lib.hid hb5
 have HRX5:=Lib.hid (HRX.out.below (hx4.trans hx5) (Nat.le_refl _))
 have HRY5:=Lib.hid (HRY.out.below (hx4.trans hx5) (Nat.le_refl _))
 clear hx4 hx5 hb5 HL3 HPB HX3
 generalize w4.alloc (.cells ([.bool false,.slice X' 0 cx',.bool false,.slice Y' 0 cy']:List Value).toArray 55)=w5 at *
 have hx6:Ext w5 (w5.alloc (.cells #[.int .i64 0,.int .i64 1,.int .i64 2,.int .i64 3,.int .i64 4] 3)):=Ext.alloc_ (Ext.refl _) _
 have HX6:=Lib.hid hx6
 have HS1:Hid (Calls Tryz.prog 17 #[.slice X 5 cx,.slice (some ⟨w5.heap.size,0,none⟩) 5 5] (w5.alloc (.cells #[.int .i64 0,.int .i64 1,.int .i64 2,.int .i64 3,.int .i64 4] 3)) fun e w'=>e=.returned (.bool true)∧Ext (w5.alloc (.cells #[.int .i64 0,.int .i64 1,.int .i64 2,.int .i64 3,.int .i64 4] 3)) w'):=Lib.hid (same X (some ⟨w5.heap.size,0,none⟩) cx 5 [0,1,2,3,4] [0,1,2,3,4] (w5.alloc (.cells #[.int .i64 0,.int .i64 1,.int .i64 2,.int .i64 3,.int .i64 4] 3)) (HRX5.out.below hx6 (Nat.le_refl _)) (row_new w5 [.int .i64 0,.int .i64 1,.int .i64 2,.int .i64 3,.int .i64 4] 3) (by decide) (by decide))
 clear hx6
 have HS2:Hid (∀ W,Ext w5 W→Calls Tryz.prog 17 #[.slice Y 2 cy,.slice (some ⟨W.heap.size,0,none⟩) 2 2] (W.alloc (.cells #[.int .i64 5,.int .i64 0] 3)) fun e w'=>e=.returned (.bool true)∧Ext (W.alloc (.cells #[.int .i64 5,.int .i64 0] 3)) w'):=Lib.hid fun W hW =>
  same Y (some ⟨W.heap.size,0,none⟩) cy 2 [5,0] [5,0] (W.alloc (.cells #[.int .i64 5,.int .i64 0] 3)) (HRY5.out.below (Ext.alloc_ hW _) (Nat.le_refl _)) (row_new W [.int .i64 5,.int .i64 0] 3) (by decide) (by decide)
 go_wp2_with (first
  | (go_at_call 17;with_reducible refine HS1.out.mono ?_;rintro e w7 ⟨rfl,hx7⟩;have k3:=(HB5.out.ext (HX6.out.trans hx7)).cell (j:=3) (v:=.slice Y 2 cy) rfl)
  | (go_at_call 17;with_reducible refine (HS2.out w7 (HX6.out.trans hx7)).mono ?_;rintro e w8 ⟨rfl,hx8⟩))
 go_ret
 exact ⟨rfl,HX5.out.trans ((HX6.out.trans hx7).trans ((Ext.alloc_ (Ext.refl w7) (.cells #[.int .i64 5,.int .i64 0] 3)).trans hx8))⟩
end Go.Proofs.YtcghgkagpkmpeaaGreatDoor.Loc
