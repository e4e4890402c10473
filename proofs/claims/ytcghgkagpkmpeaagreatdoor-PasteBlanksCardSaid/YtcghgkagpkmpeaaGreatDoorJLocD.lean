/- Joined by wip/join.py: LRef1 LGood LGoodW LGoodP LRefP LBoth. -/
import Derived.Test.YtcghgkagpkmpeaaGreatDoorJPRp
import Derived.Test.YtcghgkagpkmpeaaGreatDoorJLocA
import Derived.Test.YtcghgkagpkmpeaaGreatDoorJLocC
import Derived.Test.YtcghgkagpkmpeaaGreatDoorJLocB
set_option linter.unusedVariables false
set_option linter.unusedSimpArgs false
set_option maxHeartbeats 4000000
namespace Go.Proofs.YtcghgkagpkmpeaaGreatDoor.Loc
open Go.RowKit Utf All Small Strs Build EncC Pat
def halfOkB (l:List Pc) (n0 n1:Nat) (t:NSt):Bool:=decide (n0 < n1) && decide (n1≤l.length) &&
 (List.range l.length).all (fun k=>match l[k]? with | some x=>(if n0≤k∧k < n1 then x.1 == 4 else !(x.1 == 4)) | none=>true) &&
 decide (tot l≤10000) && l.all (fun p=>!p.2.isEmpty) && decide (Pat.runN st0 (textOf ((l.drop n0).take (n1 - n0)))=some t) && endN t && !longN t
theorem halfOk_of {l:List Pc} {n0 n1:Nat} {t:NSt} (h:halfOkB l n0 n1 t=true):HalfOk l n0 n1 t:=by
 unfold halfOkB at h
 simp only [Bool.and_eq_true,decide_eq_true_eq,List.all_eq_true,Bool.not_eq_true'] at h
 obtain ⟨⟨⟨⟨⟨⟨⟨h1,h2⟩,h3⟩,h4⟩,h5⟩,h6⟩,h7⟩,h8⟩:=h
 have hk:∀ k (hk:k < l.length),(if n0≤k∧k < n1 then l[k].1 == 4 else !(l[k].1 == 4))=true:=fun k hk=>by
  have:=h3 k (List.mem_range.2 hk)
  rw [List.getElem?_eq_getElem hk] at this
  exact this
 refine ⟨h1,h2,fun k h hlt=>?_,fun k h ha hb=>?_,fun k h ha=>?_,h4,fun p hp e=>?_,h6,h7,h8⟩
 ·have:=hk k h;rw [if_neg (by omega)] at this;simpa using this
 ·have:=hk k h;rw [if_pos ⟨ha,hb⟩] at this;exact this
 ·have:=hk k h;rw [if_neg (by omega)] at this;simpa using this
 ·have:=h5 p hp;rw [e] at this;cases this
def cut0 (l:List Pc):Nat:=(l.takeWhile fun x=>!(x.1 == 4)).length
def cut1 (l:List Pc):Nat:=cut0 l+((l.drop (cut0 l)).takeWhile fun x=>x.1 == 4).length
def stOf (l:List Pc):NSt:=(Pat.runN st0 (textOf ((l.drop (cut0 l)).take (cut1 l - cut0 l)))).getD st0
def halfC (l:List Pc):Bool:=halfOkB l (cut0 l) (cut1 l) (stOf l)
def refP (s:List UInt8):Option Pt:=match tokL s with
 | none=>none
 | some l =>
  let n:=(l.takeWhile fun x=>!(x.1 == 5)).length
  if decide (l.length≤10000) && decide (n≤l.length) && ((List.range l.length).all fun k=>match l[k]? with | some x=>(if k=n then x.1 == 5 else !(x.1 == 5)) | none=>true) && halfC (l.take n) && (decide (l.length≤n) || halfC (l.drop (n+1))) then
   some (if n < l.length then ⟨joinF ((l.take n).take (cut0 (l.take n))),joinF ((l.take n).drop (cut1 (l.take n))),joinF ((l.drop (n+1)).take (cut0 (l.drop (n+1)))),joinF ((l.drop (n+1)).drop (cut1 (l.drop (n+1)))),numsN (stOf (l.take n))⟩
    else ⟨joinF ((l.take n).take (cut0 (l.take n))),joinF ((l.take n).drop (cut1 (l.take n))),(3,[]) :: joinF ((l.take n).take (cut0 (l.take n))),joinF ((l.take n).drop (cut1 (l.take n))),numsN (stOf (l.take n))⟩)
  else none
theorem refP_ok {s:List UInt8} {p:Pt} (h:refP s=some p) (hs:s.length≤1000000) (w:World) :
  Calls Tryz.prog 106 #[.string ⟨s.toArray⟩] w fun e w'=>∃ A c B d C a D b,e=.returned (.tuple #[.agg (patC (.slice A p.pre.length c) (.slice B p.suf.length d) (.slice C p.npre.length a) (.slice D p.nsuf.length b) p.num).toArray,.int .i64 0])∧PtR w' A B C D p∧CapR p c d a b∧Ext w w':=by
 unfold refP at h
 cases ht:tokL s with
 | none=>rw [ht] at h;cases h
 | some l =>
  rw [ht] at h
  simp only at h
  generalize hn:(l.takeWhile fun x=>!(x.1 == 5)).length=n at h
  split at h
  ·rename_i hc
   simp only [Bool.and_eq_true,Bool.or_eq_true,decide_eq_true_eq,List.all_eq_true] at hc
   obtain ⟨⟨⟨⟨h1,h2⟩,h3⟩,h4⟩,h5⟩:=hc
   have hk:∀ k (hk:k < l.length),(if k=n then l[k].1 == 5 else !(l[k].1 == 5))=true:=fun k hk=>by
    have:=h3 k (List.mem_range.2 hk)
    rw [List.getElem?_eq_getElem hk] at this
    exact this
   exact parse_refC s l n _ _ _ _ _ _ w hs ht h1 h2 (fun k h hne=>by have:=hk k h;rw [if_neg hne] at this;simpa using this) (fun h=>by have:=hk n h;rw [if_pos rfl] at this;exact this)
    (halfOk_of h4) (fun hlt=>halfOk_of (h5.resolve_left (by omega))) p (Option.some.inj h).symm
  ·cases h
def pats:List (List UInt8):=[[35,44,35,35,48,46,48,48],[48,46,35,35],[35,44,35,35,44,35,35,48,46,35,35,35],[194,164,35,44,35,35,48,46,48,48],[35,44,35,35,48,46,48,48,120,194,164],[194,164,120,35,44,35,35,48,46,48,48,59,40,194,164,120,45,35,41],[35,44,35,35,48,37],[48,46,48,59,48,46,48,45],[35,44,35,35,35,48,46,48,48,121,59,121,35,44,35,35,48,46,48,48,45,121],[35,44,35,35,44,35,48,46,35,59,39,35,39,35,45,39,35,39]]
def patAt (j:Nat):Pt:=(refP (pats.getD j [])).getD lives1
theorem pats_all:∀ j:Fin 10,refP (pats.getD j.val [])=some (patAt j.val)∧parseF (pats.getD j.val [])=.ok (patAt j.val):=by
 intro j
 match j with
 | 0=>exact ⟨by kernel_rfl,by kernel_rfl⟩
 | 1=>exact ⟨by kernel_rfl,by kernel_rfl⟩
 | 2=>exact ⟨by kernel_rfl,by kernel_rfl⟩
 | 3=>exact ⟨by kernel_rfl,by kernel_rfl⟩
 | 4=>exact ⟨by kernel_rfl,by kernel_rfl⟩
 | 5=>exact ⟨by kernel_rfl,by kernel_rfl⟩
 | 6=>exact ⟨by kernel_rfl,by kernel_rfl⟩
 | 7=>exact ⟨by kernel_rfl,by kernel_rfl⟩
 | 8=>exact ⟨by kernel_rfl,by kernel_rfl⟩
 | 9=>exact ⟨by kernel_rfl,by kernel_rfl⟩
open Go.RowKit Utf All Small Strs Build EncC Pat Go.Proofs.YtcghgkagpkmpeaaGreatDoor.Sys
def pickL (ts:List (List UInt8)) (i:Int):List UInt8:=ts.getD (aroundF i ts.length).toNat []
theorem row_sV {w:World} {A:Option Addr} {ts:List (List UInt8)} (h:Row w A (ts.map sV)) {k:Nat} (hk:k < ts.length) :
  ∃ b off,A=some ⟨b,off,none⟩∧w.cell? ⟨b,off+k,none⟩=some (sV (ts.getD k [])):=by
 rcases h with h | ⟨b,o,rfl,hc⟩
 ·rw [List.map_eq_nil_iff] at h;subst h;exact absurd hk (Nat.not_lt_zero _)
 ·refine ⟨b,o,rfl,hc k _ ?_⟩
  rw [List.getElem?_map,List.getD_eq_getElem?_getD,List.getElem?_eq_getElem hk];rfl
theorem pick_ (A:Option Addr) (c m:Nat) (ts:List (List UInt8)) (i:Int) (w:World) (hm:ts.length=m) (h0:0 < m) (h1:m≤1000) (n1:-9223372036854775808≤i) (n2:i≤9223372036854775807) (hr:Row w A (ts.map sV)) :
  Calls Tryz.prog 108 #[.slice A m c,.int .i64 i] w fun e w'=>e=.returned (.string ⟨(pickL ts i).toArray⟩)∧w=w':=by
 have hb:=aroundF_bd i m (by omega)
 have HF:Hid (pickL ts i=ts.getD (aroundF i m).toNat []):=Lib.hid (by unfold pickL;rw [hm])
 have HM:=Lib.hid hm
 clear hm
 go_enter Tryz.func108,Tryz.ntmps108
 go_wp2_with fail
 refine (around _ _ _ n1 n2 (by omega) (by omega)).mono ?_;rintro e w2 ⟨rfl,rfl⟩
 generalize aroundF i m=k at *
 obtain ⟨k,rfl⟩:=Int.eq_ofNat_of_zero_le hb.1
 have hk:k < m:=by omega
 clear hb
 obtain ⟨b,off,rfl,hc⟩:=row_sV hr (show k < ts.length by rw [HM.out];exact hk)
 rw [Int.toNat_natCast] at HF
 unfold sV at hc
 generalize ts.getD k []=s at *
 go_wp2
 go_ret
 exact ⟨by rw [HF.out];rfl,rfl⟩
def decs:List (List UInt8):=[[46],[44],[217,171],[101,204,129]]
def mins:List (List UInt8):=[[45],[226,136,146],[226,128,144],[45,204,129]]
def pcts:List (List UInt8):=[[37],[217,170]]
def curs:List (List UInt8):=[[36],[226,130,172],[67,72,70],[107,204,129,114]]
def grps:List (List UInt8):=[[39],[194,160],[226,128,175],[95],[46],[44]]
theorem pick_pat (i:Int):∃ j:Fin 10,pickL pats i=pats.getD j.val []∧(aroundF i 10).toNat=j.val:=by
 have hb:=aroundF_bd i 10 (by omega)
 exact ⟨⟨(aroundF i 10).toNat,by omega⟩,rfl,rfl⟩
def goodGrp (v2 v3:Int) (p:Pt):List UInt8:=if p.num.prim > 0 then (if pickL grps v3=pickL decs v2 then [32] else pickL grps v3) else []
def goodR (v0 v1 v2 v3 v4 v5:Int):Rec:=⟨[120,120],pickL pats v1,(nameOf v0).data.toList,pickL decs v2,goodGrp v2 v3 (patAt (aroundF v1 10).toNat),pickL mins v4,pickL pcts v5,pickL curs v5⟩
theorem infoP:(Tryz.prog.info? 29).map (·.size)=some 9:=by kernel_rfl
theorem infoR:(Tryz.prog.info? 26).map (·.size)=some 8:=by kernel_rfl
set_option maxRecDepth 100000
theorem good_ (v0 v1 v2 v3 v4 v5:Int) (w:World) (h0:i64 v0) (h1:i64 v1) (h2:i64 v2) (h3:i64 v3) (h4:i64 v4) (h5:i64 v5) :
  Calls Tryz.prog 60 #[.agg #[.int .i64 v0,.int .i64 v1,.int .i64 v2,.int .i64 v3,.int .i64 v4,.int .i64 v5]] w fun e w'=>e=.returned (.agg (recV (goodR v0 v1 v2 v3 v4 v5)).toArray)∧Ext w w':=by
 have b1:=(Box.new w 23 [.int .i64 v0,.int .i64 v1,.int .i64 v2,.int .i64 v3,.int .i64 v4,.int .i64 v5]).alloc (.cells ([sV [],sV [],sV [],sV [],sV [],sV [],sV [],sV []]:List Value).toArray 26)
 have c1:=Box.new (w.alloc (.cells ([.int .i64 v0,.int .i64 v1,.int .i64 v2,.int .i64 v3,.int .i64 v4,.int .i64 v5]:List Value).toArray 23)) 26 [sV [],sV [],sV [],sV [],sV [],sV [],sV [],sV []]
 have hx1:Ext w ((w.alloc (.cells ([.int .i64 v0,.int .i64 v1,.int .i64 v2,.int .i64 v3,.int .i64 v4,.int .i64 v5]:List Value).toArray 23)).alloc (.cells ([sV [],sV [],sV [],sV [],sV [],sV [],sV [],sV []]:List Value).toArray 26)):=Ext.alloc_ (Ext.alloc_ (Ext.refl w) _) _
 have hs1:(w.alloc (.cells ([.int .i64 v0,.int .i64 v1,.int .i64 v2,.int .i64 v3,.int .i64 v4,.int .i64 v5]:List Value).toArray 23)).heap.size=w.heap.size+1:=by simp
 rw [hs1] at c1
 clear hs1
 have hge:w.heap.size≤w.heap.size+1:=by omega
 have HGE:=Lib.hid hge
 have HX1:=Lib.hid hx1
 clear hge hx1
 have e0:=b1.cell (j:=0) rfl
 have e1:=b1.cell (j:=1) rfl
 have HB1:=Lib.hid b1
 have HC1:=Lib.hid c1
 clear b1 c1
 have HN:=Lib.hid (fun W=>ref_name v0 W h0.1 h0.2)
 go_enter Tryz.func60,Tryz.ntmps60
 go_upto_region 1 with fail
 change Code.wp _ _ _ _ ((w.alloc (.cells ([.int .i64 v0,.int .i64 v1,.int .i64 v2,.int .i64 v3,.int .i64 v4,.int .i64 v5]:List Value).toArray 23)).alloc (.cells ([sV [],sV [],sV [],sV [],sV [],sV [],sV [],sV []]:List Value).toArray 26))
 generalize (w.alloc (.cells ([.int .i64 v0,.int .i64 v1,.int .i64 v2,.int .i64 v3,.int .i64 v4,.int .i64 v5]:List Value).toArray 23)).alloc (.cells ([sV [],sV [],sV [],sV [],sV [],sV [],sV [],sV []]:List Value).toArray 26)=w1 at *
 go_upto_region 2 with (first
  | (go_at_call 107;with_reducible refine (HN.out _).mono ?_;rintro e w3 ⟨rfl,hx3⟩)
  | (refine wpList_store_fresh rfl 26 (.tmp 3) (.tmp 9) rfl ([sV [120,120],sV [],.string (nameOf v0),sV [],sV [],sV [],sV [],sV []]:List Value).toArray 26 _ rfl rfl infoR rfl (by simp [Value.oneCell',sV]) ?_))
 have b2:=(HB1.out.ext hx3).alloc (.cells ([sV [120,120],sV [],.string (nameOf v0),sV [],sV [],sV [],sV [],sV []]:List Value).toArray 26)
 have c2:=(HC1.out.ext hx3).alloc (.cells ([sV [120,120],sV [],.string (nameOf v0),sV [],sV [],sV [],sV [],sV []]:List Value).toArray 26)
 have d2:=Box.new w3 26 [sV [120,120],sV [],.string (nameOf v0),sV [],sV [],sV [],sV [],sV []]
 have x2:=Ext.alloc_ (HX1.out.trans hx3) (.cells ([sV [120,120],sV [],.string (nameOf v0),sV [],sV [],sV [],sV [],sV []]:List Value).toArray 26)
 have hg:=(HX1.out.trans hx3).size
 have hn1:w3.heap.size ≠ w.heap.size:=by have:=(HB1.out.ext hx3).lt;omega
 have hn2:w3.heap.size ≠ w.heap.size+1:=by have:=(HC1.out.ext hx3).lt;omega
 have HD:=Lib.hid d2
 have HB:=Lib.hid b2
 have HC:=Lib.hid c2
 have HX:=Lib.hid x2
 have HG:=Lib.hid hg
 have HT:=Lib.hid (Nat.le_add_right w.heap.size 1)
 have HN1:=Lib.hid hn1
 have HN2:=Lib.hid hn2
 clear b2 c2 d2 x2 hx3 HB1 HC1 HX1 hg e0 e1 HGE hn1 hn2 HN
 generalize w3.alloc (.cells ([sV [120,120],sV [],.string (nameOf v0),sV [],sV [],sV [],sV [],sV []]:List Value).toArray 26)=w2 at *
 generalize w3.heap.size=rb at *
 generalize w.heap.size+1=tb at *
 generalize hgb:w.heap.size=gb at *
 have HGB:=Lib.hid hgb
 clear hgb
 have q1:=((HB.out.alloc (.cells ([.string ⟨#[35,44,35,35,48,46,48,48]⟩,.string ⟨#[48,46,35,35]⟩,.string ⟨#[35,44,35,35,44,35,35,48,46,35,35,35]⟩,.string ⟨#[194,164,35,44,35,35,48,46,48,48]⟩,.string ⟨#[35,44,35,35,48,46,48,48,120,194,164]⟩,.string ⟨#[194,164,120,35,44,35,35,48,46,48,48,59,40,194,164,120,45,35,41]⟩,.string ⟨#[35,44,35,35,48,37]⟩,.string ⟨#[48,46,48,59,48,46,48,45]⟩,.string ⟨#[35,44,35,35,35,48,46,48,48,121,59,121,35,44,35,35,48,46,48,48,45,121]⟩,.string ⟨#[35,44,35,35,44,35,48,46,35,59,39,35,39,35,45,39,35,39]⟩]:List Value).toArray 9)).cell (j:=1) rfl)
 have q2:=(HD.out.alloc (.cells ([.string ⟨#[35,44,35,35,48,46,48,48]⟩,.string ⟨#[48,46,35,35]⟩,.string ⟨#[35,44,35,35,44,35,35,48,46,35,35,35]⟩,.string ⟨#[194,164,35,44,35,35,48,46,48,48]⟩,.string ⟨#[35,44,35,35,48,46,48,48,120,194,164]⟩,.string ⟨#[194,164,120,35,44,35,35,48,46,48,48,59,40,194,164,120,45,35,41]⟩,.string ⟨#[35,44,35,35,48,37]⟩,.string ⟨#[48,46,48,59,48,46,48,45]⟩,.string ⟨#[35,44,35,35,35,48,46,48,48,121,59,121,35,44,35,35,48,46,48,48,45,121]⟩,.string ⟨#[35,44,35,35,44,35,48,46,35,59,39,35,39,35,45,39,35,39]⟩]:List Value).toArray 9)).cell (j:=1) rfl
 have q3:=(HD.out.alloc (.cells ([.string ⟨#[35,44,35,35,48,46,48,48]⟩,.string ⟨#[48,46,35,35]⟩,.string ⟨#[35,44,35,35,44,35,35,48,46,35,35,35]⟩,.string ⟨#[194,164,35,44,35,35,48,46,48,48]⟩,.string ⟨#[35,44,35,35,48,46,48,48,120,194,164]⟩,.string ⟨#[194,164,120,35,44,35,35,48,46,48,48,59,40,194,164,120,45,35,41]⟩,.string ⟨#[35,44,35,35,48,37]⟩,.string ⟨#[48,46,48,59,48,46,48,45]⟩,.string ⟨#[35,44,35,35,35,48,46,48,48,121,59,121,35,44,35,35,48,46,48,48,45,121]⟩,.string ⟨#[35,44,35,35,44,35,48,46,35,59,39,35,39,35,45,39,35,39]⟩]:List Value).toArray 9)).frozen 1
 have HP:Hid (Calls Tryz.prog 108 #[.slice (some ⟨w2.heap.size,0,none⟩) 10 10,.int .i64 v1] (w2.alloc (.cells ([.string ⟨#[35,44,35,35,48,46,48,48]⟩,.string ⟨#[48,46,35,35]⟩,.string ⟨#[35,44,35,35,44,35,35,48,46,35,35,35]⟩,.string ⟨#[194,164,35,44,35,35,48,46,48,48]⟩,.string ⟨#[35,44,35,35,48,46,48,48,120,194,164]⟩,.string ⟨#[194,164,120,35,44,35,35,48,46,48,48,59,40,194,164,120,45,35,41]⟩,.string ⟨#[35,44,35,35,48,37]⟩,.string ⟨#[48,46,48,59,48,46,48,45]⟩,.string ⟨#[35,44,35,35,35,48,46,48,48,121,59,121,35,44,35,35,48,46,48,48,45,121]⟩,.string ⟨#[35,44,35,35,44,35,48,46,35,59,39,35,39,35,45,39,35,39]⟩]:List Value).toArray 9)) fun e w'=>e=.returned (.string ⟨(pickL pats v1).toArray⟩)∧(w2.alloc (.cells ([.string ⟨#[35,44,35,35,48,46,48,48]⟩,.string ⟨#[48,46,35,35]⟩,.string ⟨#[35,44,35,35,44,35,35,48,46,35,35,35]⟩,.string ⟨#[194,164,35,44,35,35,48,46,48,48]⟩,.string ⟨#[35,44,35,35,48,46,48,48,120,194,164]⟩,.string ⟨#[194,164,120,35,44,35,35,48,46,48,48,59,40,194,164,120,45,35,41]⟩,.string ⟨#[35,44,35,35,48,37]⟩,.string ⟨#[48,46,48,59,48,46,48,45]⟩,.string ⟨#[35,44,35,35,35,48,46,48,48,121,59,121,35,44,35,35,48,46,48,48,45,121]⟩,.string ⟨#[35,44,35,35,44,35,48,46,35,59,39,35,39,35,45,39,35,39]⟩]:List Value).toArray 9))=w') :=
  Lib.hid (pick_ _ _ _ pats v1 _ rfl (by decide) (by decide) h1.1 h1.2 (Box.new w2 9 ([.string ⟨#[35,44,35,35,48,46,48,48]⟩,.string ⟨#[48,46,35,35]⟩,.string ⟨#[35,44,35,35,44,35,35,48,46,35,35,35]⟩,.string ⟨#[194,164,35,44,35,35,48,46,48,48]⟩,.string ⟨#[35,44,35,35,48,46,48,48,120,194,164]⟩,.string ⟨#[194,164,120,35,44,35,35,48,46,48,48,59,40,194,164,120,45,35,41]⟩,.string ⟨#[35,44,35,35,48,37]⟩,.string ⟨#[48,46,48,59,48,46,48,45]⟩,.string ⟨#[35,44,35,35,35,48,46,48,48,121,59,121,35,44,35,35,48,46,48,48,45,121]⟩,.string ⟨#[35,44,35,35,44,35,48,46,35,59,39,35,39,35,45,39,35,39]⟩]:List Value)).row)
 go_upto_region 3 with (first
  | (go_at_call 108;refine HP.out.mono ?_;rintro e w' ⟨rfl,rfl⟩))
 change Code.wp _ _ _ _ ((w2.alloc (.cells ([.string ⟨#[35,44,35,35,48,46,48,48]⟩,.string ⟨#[48,46,35,35]⟩,.string ⟨#[35,44,35,35,44,35,35,48,46,35,35,35]⟩,.string ⟨#[194,164,35,44,35,35,48,46,48,48]⟩,.string ⟨#[35,44,35,35,48,46,48,48,120,194,164]⟩,.string ⟨#[194,164,120,35,44,35,35,48,46,48,48,59,40,194,164,120,45,35,41]⟩,.string ⟨#[35,44,35,35,48,37]⟩,.string ⟨#[48,46,48,59,48,46,48,45]⟩,.string ⟨#[35,44,35,35,35,48,46,48,48,121,59,121,35,44,35,35,48,46,48,48,45,121]⟩,.string ⟨#[35,44,35,35,44,35,48,46,35,59,39,35,39,35,45,39,35,39]⟩]:List Value).toArray 9)).setCell ⟨rb,1,none⟩ (sV (pickL pats v1)))
 have b2:=(HB.out.alloc (.cells ([.string ⟨#[35,44,35,35,48,46,48,48]⟩,.string ⟨#[48,46,35,35]⟩,.string ⟨#[35,44,35,35,44,35,35,48,46,35,35,35]⟩,.string ⟨#[194,164,35,44,35,35,48,46,48,48]⟩,.string ⟨#[35,44,35,35,48,46,48,48,120,194,164]⟩,.string ⟨#[194,164,120,35,44,35,35,48,46,48,48,59,40,194,164,120,45,35,41]⟩,.string ⟨#[35,44,35,35,48,37]⟩,.string ⟨#[48,46,48,59,48,46,48,45]⟩,.string ⟨#[35,44,35,35,35,48,46,48,48,121,59,121,35,44,35,35,48,46,48,48,45,121]⟩,.string ⟨#[35,44,35,35,44,35,48,46,35,59,39,35,39,35,45,39,35,39]⟩]:List Value).toArray 9)).setCell1 rb (sV (pickL pats v1)) HN1.out 1
 have c2:=(HC.out.alloc (.cells ([.string ⟨#[35,44,35,35,48,46,48,48]⟩,.string ⟨#[48,46,35,35]⟩,.string ⟨#[35,44,35,35,44,35,35,48,46,35,35,35]⟩,.string ⟨#[194,164,35,44,35,35,48,46,48,48]⟩,.string ⟨#[35,44,35,35,48,46,48,48,120,194,164]⟩,.string ⟨#[194,164,120,35,44,35,35,48,46,48,48,59,40,194,164,120,45,35,41]⟩,.string ⟨#[35,44,35,35,48,37]⟩,.string ⟨#[48,46,48,59,48,46,48,45]⟩,.string ⟨#[35,44,35,35,35,48,46,48,48,121,59,121,35,44,35,35,48,46,48,48,45,121]⟩,.string ⟨#[35,44,35,35,44,35,48,46,35,59,39,35,39,35,45,39,35,39]⟩]:List Value).toArray 9)).setCell1 rb (sV (pickL pats v1)) HN2.out 1
 have d2:Box ((w2.alloc (.cells ([.string ⟨#[35,44,35,35,48,46,48,48]⟩,.string ⟨#[48,46,35,35]⟩,.string ⟨#[35,44,35,35,44,35,35,48,46,35,35,35]⟩,.string ⟨#[194,164,35,44,35,35,48,46,48,48]⟩,.string ⟨#[35,44,35,35,48,46,48,48,120,194,164]⟩,.string ⟨#[194,164,120,35,44,35,35,48,46,48,48,59,40,194,164,120,45,35,41]⟩,.string ⟨#[35,44,35,35,48,37]⟩,.string ⟨#[48,46,48,59,48,46,48,45]⟩,.string ⟨#[35,44,35,35,35,48,46,48,48,121,59,121,35,44,35,35,48,46,48,48,45,121]⟩,.string ⟨#[35,44,35,35,44,35,48,46,35,59,39,35,39,35,45,39,35,39]⟩]:List Value).toArray 9)).setCell ⟨rb,1,none⟩ (sV (pickL pats v1))) rb 26 [sV [120,120],sV (pickL pats v1),.string (nameOf v0),sV [],sV [],sV [],sV [],sV []]:=(HD.out.alloc (.cells ([.string ⟨#[35,44,35,35,48,46,48,48]⟩,.string ⟨#[48,46,35,35]⟩,.string ⟨#[35,44,35,35,44,35,35,48,46,35,35,35]⟩,.string ⟨#[194,164,35,44,35,35,48,46,48,48]⟩,.string ⟨#[35,44,35,35,48,46,48,48,120,194,164]⟩,.string ⟨#[194,164,120,35,44,35,35,48,46,48,48,59,40,194,164,120,45,35,41]⟩,.string ⟨#[35,44,35,35,48,37]⟩,.string ⟨#[48,46,48,59,48,46,48,45]⟩,.string ⟨#[35,44,35,35,35,48,46,48,48,121,59,121,35,44,35,35,48,46,48,48,45,121]⟩,.string ⟨#[35,44,35,35,44,35,48,46,35,59,39,35,39,35,45,39,35,39]⟩]:List Value).toArray 9)).setCell 1 (sV (pickL pats v1))
 have x2:=Ext.setCell_ (Ext.alloc_ HX.out (.cells ([.string ⟨#[35,44,35,35,48,46,48,48]⟩,.string ⟨#[48,46,35,35]⟩,.string ⟨#[35,44,35,35,44,35,35,48,46,35,35,35]⟩,.string ⟨#[194,164,35,44,35,35,48,46,48,48]⟩,.string ⟨#[35,44,35,35,48,46,48,48,120,194,164]⟩,.string ⟨#[194,164,120,35,44,35,35,48,46,48,48,59,40,194,164,120,45,35,41]⟩,.string ⟨#[35,44,35,35,48,37]⟩,.string ⟨#[48,46,48,59,48,46,48,45]⟩,.string ⟨#[35,44,35,35,35,48,46,48,48,121,59,121,35,44,35,35,48,46,48,48,45,121]⟩,.string ⟨#[35,44,35,35,44,35,48,46,35,59,39,35,39,35,45,39,35,39]⟩]:List Value).toArray 9)) (by rw [HGB.out];exact HG.out) 1 (sV (pickL pats v1))
 clear q1 q2 q3 HP HB HC HD HX
 have HB:=Lib.hid b2
 have HC:=Lib.hid c2
 have HD:=Lib.hid d2
 have HX:=Lib.hid x2
 clear b2 c2 d2 x2
 generalize (w2.alloc (.cells ([.string ⟨#[35,44,35,35,48,46,48,48]⟩,.string ⟨#[48,46,35,35]⟩,.string ⟨#[35,44,35,35,44,35,35,48,46,35,35,35]⟩,.string ⟨#[194,164,35,44,35,35,48,46,48,48]⟩,.string ⟨#[35,44,35,35,48,46,48,48,120,194,164]⟩,.string ⟨#[194,164,120,35,44,35,35,48,46,48,48,59,40,194,164,120,45,35,41]⟩,.string ⟨#[35,44,35,35,48,37]⟩,.string ⟨#[48,46,48,59,48,46,48,45]⟩,.string ⟨#[35,44,35,35,35,48,46,48,48,121,59,121,35,44,35,35,48,46,48,48,45,121]⟩,.string ⟨#[35,44,35,35,44,35,48,46,35,59,39,35,39,35,45,39,35,39]⟩]:List Value).toArray 9)).setCell ⟨rb,1,none⟩ (sV (pickL pats v1))=w4 at *
 have q1:=((HB.out.alloc (.cells ([.string ⟨#[46]⟩,.string ⟨#[44]⟩,.string ⟨#[217,171]⟩,.string ⟨#[101,204,129]⟩]:List Value).toArray 9)).cell (j:=2) rfl)
 have q2:=(HD.out.alloc (.cells ([.string ⟨#[46]⟩,.string ⟨#[44]⟩,.string ⟨#[217,171]⟩,.string ⟨#[101,204,129]⟩]:List Value).toArray 9)).cell (j:=3) rfl
 have q3:=(HD.out.alloc (.cells ([.string ⟨#[46]⟩,.string ⟨#[44]⟩,.string ⟨#[217,171]⟩,.string ⟨#[101,204,129]⟩]:List Value).toArray 9)).frozen 3
 have HP:Hid (Calls Tryz.prog 108 #[.slice (some ⟨w4.heap.size,0,none⟩) 4 4,.int .i64 v2] (w4.alloc (.cells ([.string ⟨#[46]⟩,.string ⟨#[44]⟩,.string ⟨#[217,171]⟩,.string ⟨#[101,204,129]⟩]:List Value).toArray 9)) fun e w'=>e=.returned (.string ⟨(pickL decs v2).toArray⟩)∧(w4.alloc (.cells ([.string ⟨#[46]⟩,.string ⟨#[44]⟩,.string ⟨#[217,171]⟩,.string ⟨#[101,204,129]⟩]:List Value).toArray 9))=w') :=
  Lib.hid (pick_ _ _ _ decs v2 _ rfl (by decide) (by decide) h2.1 h2.2 (Box.new w4 9 ([.string ⟨#[46]⟩,.string ⟨#[44]⟩,.string ⟨#[217,171]⟩,.string ⟨#[101,204,129]⟩]:List Value)).row)
 go_upto_region 4 with (first
  | (go_at_call 108;refine HP.out.mono ?_;rintro e w' ⟨rfl,rfl⟩))
 change Code.wp _ _ _ _ ((w4.alloc (.cells ([.string ⟨#[46]⟩,.string ⟨#[44]⟩,.string ⟨#[217,171]⟩,.string ⟨#[101,204,129]⟩]:List Value).toArray 9)).setCell ⟨rb,3,none⟩ (sV (pickL decs v2)))
 have b2:=(HB.out.alloc (.cells ([.string ⟨#[46]⟩,.string ⟨#[44]⟩,.string ⟨#[217,171]⟩,.string ⟨#[101,204,129]⟩]:List Value).toArray 9)).setCell1 rb (sV (pickL decs v2)) HN1.out 3
 have c2:=(HC.out.alloc (.cells ([.string ⟨#[46]⟩,.string ⟨#[44]⟩,.string ⟨#[217,171]⟩,.string ⟨#[101,204,129]⟩]:List Value).toArray 9)).setCell1 rb (sV (pickL decs v2)) HN2.out 3
 have d2:Box ((w4.alloc (.cells ([.string ⟨#[46]⟩,.string ⟨#[44]⟩,.string ⟨#[217,171]⟩,.string ⟨#[101,204,129]⟩]:List Value).toArray 9)).setCell ⟨rb,3,none⟩ (sV (pickL decs v2))) rb 26 [sV [120,120],sV (pickL pats v1),.string (nameOf v0),sV (pickL decs v2),sV [],sV [],sV [],sV []]:=(HD.out.alloc (.cells ([.string ⟨#[46]⟩,.string ⟨#[44]⟩,.string ⟨#[217,171]⟩,.string ⟨#[101,204,129]⟩]:List Value).toArray 9)).setCell 3 (sV (pickL decs v2))
 have x2:=Ext.setCell_ (Ext.alloc_ HX.out (.cells ([.string ⟨#[46]⟩,.string ⟨#[44]⟩,.string ⟨#[217,171]⟩,.string ⟨#[101,204,129]⟩]:List Value).toArray 9)) (by rw [HGB.out];exact HG.out) 3 (sV (pickL decs v2))
 clear q1 q2 q3 HP HB HC HD HX
 have HB:=Lib.hid b2
 have HC:=Lib.hid c2
 have HD:=Lib.hid d2
 have HX:=Lib.hid x2
 clear b2 c2 d2 x2
 generalize (w4.alloc (.cells ([.string ⟨#[46]⟩,.string ⟨#[44]⟩,.string ⟨#[217,171]⟩,.string ⟨#[101,204,129]⟩]:List Value).toArray 9)).setCell ⟨rb,3,none⟩ (sV (pickL decs v2))=w5 at *
 have q1:=((HB.out.alloc (.cells ([.string ⟨#[45]⟩,.string ⟨#[226,136,146]⟩,.string ⟨#[226,128,144]⟩,.string ⟨#[45,204,129]⟩]:List Value).toArray 9)).cell (j:=4) rfl)
 have q2:=(HD.out.alloc (.cells ([.string ⟨#[45]⟩,.string ⟨#[226,136,146]⟩,.string ⟨#[226,128,144]⟩,.string ⟨#[45,204,129]⟩]:List Value).toArray 9)).cell (j:=5) rfl
 have q3:=(HD.out.alloc (.cells ([.string ⟨#[45]⟩,.string ⟨#[226,136,146]⟩,.string ⟨#[226,128,144]⟩,.string ⟨#[45,204,129]⟩]:List Value).toArray 9)).frozen 5
 have HP:Hid (Calls Tryz.prog 108 #[.slice (some ⟨w5.heap.size,0,none⟩) 4 4,.int .i64 v4] (w5.alloc (.cells ([.string ⟨#[45]⟩,.string ⟨#[226,136,146]⟩,.string ⟨#[226,128,144]⟩,.string ⟨#[45,204,129]⟩]:List Value).toArray 9)) fun e w'=>e=.returned (.string ⟨(pickL mins v4).toArray⟩)∧(w5.alloc (.cells ([.string ⟨#[45]⟩,.string ⟨#[226,136,146]⟩,.string ⟨#[226,128,144]⟩,.string ⟨#[45,204,129]⟩]:List Value).toArray 9))=w') :=
  Lib.hid (pick_ _ _ _ mins v4 _ rfl (by decide) (by decide) h4.1 h4.2 (Box.new w5 9 ([.string ⟨#[45]⟩,.string ⟨#[226,136,146]⟩,.string ⟨#[226,128,144]⟩,.string ⟨#[45,204,129]⟩]:List Value)).row)
 go_upto_region 5 with (first
  | (go_at_call 108;refine HP.out.mono ?_;rintro e w' ⟨rfl,rfl⟩))
 change Code.wp _ _ _ _ ((w5.alloc (.cells ([.string ⟨#[45]⟩,.string ⟨#[226,136,146]⟩,.string ⟨#[226,128,144]⟩,.string ⟨#[45,204,129]⟩]:List Value).toArray 9)).setCell ⟨rb,5,none⟩ (sV (pickL mins v4)))
 have b2:=(HB.out.alloc (.cells ([.string ⟨#[45]⟩,.string ⟨#[226,136,146]⟩,.string ⟨#[226,128,144]⟩,.string ⟨#[45,204,129]⟩]:List Value).toArray 9)).setCell1 rb (sV (pickL mins v4)) HN1.out 5
 have c2:=(HC.out.alloc (.cells ([.string ⟨#[45]⟩,.string ⟨#[226,136,146]⟩,.string ⟨#[226,128,144]⟩,.string ⟨#[45,204,129]⟩]:List Value).toArray 9)).setCell1 rb (sV (pickL mins v4)) HN2.out 5
 have d2:Box ((w5.alloc (.cells ([.string ⟨#[45]⟩,.string ⟨#[226,136,146]⟩,.string ⟨#[226,128,144]⟩,.string ⟨#[45,204,129]⟩]:List Value).toArray 9)).setCell ⟨rb,5,none⟩ (sV (pickL mins v4))) rb 26 [sV [120,120],sV (pickL pats v1),.string (nameOf v0),sV (pickL decs v2),sV [],sV (pickL mins v4),sV [],sV []]:=(HD.out.alloc (.cells ([.string ⟨#[45]⟩,.string ⟨#[226,136,146]⟩,.string ⟨#[226,128,144]⟩,.string ⟨#[45,204,129]⟩]:List Value).toArray 9)).setCell 5 (sV (pickL mins v4))
 have x2:=Ext.setCell_ (Ext.alloc_ HX.out (.cells ([.string ⟨#[45]⟩,.string ⟨#[226,136,146]⟩,.string ⟨#[226,128,144]⟩,.string ⟨#[45,204,129]⟩]:List Value).toArray 9)) (by rw [HGB.out];exact HG.out) 5 (sV (pickL mins v4))
 clear q1 q2 q3 HP HB HC HD HX
 have HB:=Lib.hid b2
 have HC:=Lib.hid c2
 have HD:=Lib.hid d2
 have HX:=Lib.hid x2
 clear b2 c2 d2 x2
 generalize (w5.alloc (.cells ([.string ⟨#[45]⟩,.string ⟨#[226,136,146]⟩,.string ⟨#[226,128,144]⟩,.string ⟨#[45,204,129]⟩]:List Value).toArray 9)).setCell ⟨rb,5,none⟩ (sV (pickL mins v4))=w6 at *
 have q1:=((HB.out.alloc (.cells ([.string ⟨#[37]⟩,.string ⟨#[217,170]⟩]:List Value).toArray 9)).cell (j:=5) rfl)
 have q2:=(HD.out.alloc (.cells ([.string ⟨#[37]⟩,.string ⟨#[217,170]⟩]:List Value).toArray 9)).cell (j:=6) rfl
 have q3:=(HD.out.alloc (.cells ([.string ⟨#[37]⟩,.string ⟨#[217,170]⟩]:List Value).toArray 9)).frozen 6
 have HP:Hid (Calls Tryz.prog 108 #[.slice (some ⟨w6.heap.size,0,none⟩) 2 2,.int .i64 v5] (w6.alloc (.cells ([.string ⟨#[37]⟩,.string ⟨#[217,170]⟩]:List Value).toArray 9)) fun e w'=>e=.returned (.string ⟨(pickL pcts v5).toArray⟩)∧(w6.alloc (.cells ([.string ⟨#[37]⟩,.string ⟨#[217,170]⟩]:List Value).toArray 9))=w') :=
  Lib.hid (pick_ _ _ _ pcts v5 _ rfl (by decide) (by decide) h5.1 h5.2 (Box.new w6 9 ([.string ⟨#[37]⟩,.string ⟨#[217,170]⟩]:List Value)).row)
 go_upto_region 6 with (first
  | (go_at_call 108;refine HP.out.mono ?_;rintro e w' ⟨rfl,rfl⟩))
 change Code.wp _ _ _ _ ((w6.alloc (.cells ([.string ⟨#[37]⟩,.string ⟨#[217,170]⟩]:List Value).toArray 9)).setCell ⟨rb,6,none⟩ (sV (pickL pcts v5)))
 have b2:=(HB.out.alloc (.cells ([.string ⟨#[37]⟩,.string ⟨#[217,170]⟩]:List Value).toArray 9)).setCell1 rb (sV (pickL pcts v5)) HN1.out 6
 have c2:=(HC.out.alloc (.cells ([.string ⟨#[37]⟩,.string ⟨#[217,170]⟩]:List Value).toArray 9)).setCell1 rb (sV (pickL pcts v5)) HN2.out 6
 have d2:Box ((w6.alloc (.cells ([.string ⟨#[37]⟩,.string ⟨#[217,170]⟩]:List Value).toArray 9)).setCell ⟨rb,6,none⟩ (sV (pickL pcts v5))) rb 26 [sV [120,120],sV (pickL pats v1),.string (nameOf v0),sV (pickL decs v2),sV [],sV (pickL mins v4),sV (pickL pcts v5),sV []]:=(HD.out.alloc (.cells ([.string ⟨#[37]⟩,.string ⟨#[217,170]⟩]:List Value).toArray 9)).setCell 6 (sV (pickL pcts v5))
 have x2:=Ext.setCell_ (Ext.alloc_ HX.out (.cells ([.string ⟨#[37]⟩,.string ⟨#[217,170]⟩]:List Value).toArray 9)) (by rw [HGB.out];exact HG.out) 6 (sV (pickL pcts v5))
 clear q1 q2 q3 HP HB HC HD HX
 have HB:=Lib.hid b2
 have HC:=Lib.hid c2
 have HD:=Lib.hid d2
 have HX:=Lib.hid x2
 clear b2 c2 d2 x2
 generalize (w6.alloc (.cells ([.string ⟨#[37]⟩,.string ⟨#[217,170]⟩]:List Value).toArray 9)).setCell ⟨rb,6,none⟩ (sV (pickL pcts v5))=w7 at *
 have q1:=((HB.out.alloc (.cells ([.string ⟨#[36]⟩,.string ⟨#[226,130,172]⟩,.string ⟨#[67,72,70]⟩,.string ⟨#[107,204,129,114]⟩]:List Value).toArray 9)).cell (j:=5) rfl)
 have q2:=(HD.out.alloc (.cells ([.string ⟨#[36]⟩,.string ⟨#[226,130,172]⟩,.string ⟨#[67,72,70]⟩,.string ⟨#[107,204,129,114]⟩]:List Value).toArray 9)).cell (j:=7) rfl
 have q3:=(HD.out.alloc (.cells ([.string ⟨#[36]⟩,.string ⟨#[226,130,172]⟩,.string ⟨#[67,72,70]⟩,.string ⟨#[107,204,129,114]⟩]:List Value).toArray 9)).frozen 7
 have HP:Hid (Calls Tryz.prog 108 #[.slice (some ⟨w7.heap.size,0,none⟩) 4 4,.int .i64 v5] (w7.alloc (.cells ([.string ⟨#[36]⟩,.string ⟨#[226,130,172]⟩,.string ⟨#[67,72,70]⟩,.string ⟨#[107,204,129,114]⟩]:List Value).toArray 9)) fun e w'=>e=.returned (.string ⟨(pickL curs v5).toArray⟩)∧(w7.alloc (.cells ([.string ⟨#[36]⟩,.string ⟨#[226,130,172]⟩,.string ⟨#[67,72,70]⟩,.string ⟨#[107,204,129,114]⟩]:List Value).toArray 9))=w') :=
  Lib.hid (pick_ _ _ _ curs v5 _ rfl (by decide) (by decide) h5.1 h5.2 (Box.new w7 9 ([.string ⟨#[36]⟩,.string ⟨#[226,130,172]⟩,.string ⟨#[67,72,70]⟩,.string ⟨#[107,204,129,114]⟩]:List Value)).row)
 go_upto_region 7 with (first
  | (go_at_call 108;refine HP.out.mono ?_;rintro e w' ⟨rfl,rfl⟩))
 change Code.wp _ _ _ _ ((w7.alloc (.cells ([.string ⟨#[36]⟩,.string ⟨#[226,130,172]⟩,.string ⟨#[67,72,70]⟩,.string ⟨#[107,204,129,114]⟩]:List Value).toArray 9)).setCell ⟨rb,7,none⟩ (sV (pickL curs v5)))
 have b2:=(HB.out.alloc (.cells ([.string ⟨#[36]⟩,.string ⟨#[226,130,172]⟩,.string ⟨#[67,72,70]⟩,.string ⟨#[107,204,129,114]⟩]:List Value).toArray 9)).setCell1 rb (sV (pickL curs v5)) HN1.out 7
 have c2:=(HC.out.alloc (.cells ([.string ⟨#[36]⟩,.string ⟨#[226,130,172]⟩,.string ⟨#[67,72,70]⟩,.string ⟨#[107,204,129,114]⟩]:List Value).toArray 9)).setCell1 rb (sV (pickL curs v5)) HN2.out 7
 have d2:Box ((w7.alloc (.cells ([.string ⟨#[36]⟩,.string ⟨#[226,130,172]⟩,.string ⟨#[67,72,70]⟩,.string ⟨#[107,204,129,114]⟩]:List Value).toArray 9)).setCell ⟨rb,7,none⟩ (sV (pickL curs v5))) rb 26 [sV [120,120],sV (pickL pats v1),.string (nameOf v0),sV (pickL decs v2),sV [],sV (pickL mins v4),sV (pickL pcts v5),sV (pickL curs v5)]:=(HD.out.alloc (.cells ([.string ⟨#[36]⟩,.string ⟨#[226,130,172]⟩,.string ⟨#[67,72,70]⟩,.string ⟨#[107,204,129,114]⟩]:List Value).toArray 9)).setCell 7 (sV (pickL curs v5))
 have x2:=Ext.setCell_ (Ext.alloc_ HX.out (.cells ([.string ⟨#[36]⟩,.string ⟨#[226,130,172]⟩,.string ⟨#[67,72,70]⟩,.string ⟨#[107,204,129,114]⟩]:List Value).toArray 9)) (by rw [HGB.out];exact HG.out) 7 (sV (pickL curs v5))
 clear q1 q2 q3 HP HB HC HD HX
 have HB:=Lib.hid b2
 have HC:=Lib.hid c2
 have HD:=Lib.hid d2
 have HX:=Lib.hid x2
 clear b2 c2 d2 x2
 generalize (w7.alloc (.cells ([.string ⟨#[36]⟩,.string ⟨#[226,130,172]⟩,.string ⟨#[67,72,70]⟩,.string ⟨#[107,204,129,114]⟩]:List Value).toArray 9)).setCell ⟨rb,7,none⟩ (sV (pickL curs v5))=w8 at *
 have hP:refP (pickL pats v1)=some (patAt (aroundF v1 10).toNat):=by
  obtain ⟨j,hj,hk⟩:=pick_pat v1
  rw [hj,hk]
  exact (pats_all j).1
 have hl:(pickL pats v1).length≤1000000:=by
  obtain ⟨j,hj,hk⟩:=pick_pat v1
  rw [hj]
  exact (show ∀ j:Fin 10,(pats.getD j.val []).length≤1000000 by decide) j
 have HP:=Lib.hid (refP_ok hP hl w8)
 have q1:=HD.out.cell (j:=1) rfl
 clear hP hl
 go_upto_region 7 with fail
 generalize hpp:patAt (aroundF v1 10).toNat=p at *
 have HPP:=Lib.hid hpp
 clear hpp
 go_upto_region 8 with (first
  | (go_at_call 106;refine HP.out.mono ?_;rintro e w' ⟨A,c,B,d,C,a,D,b,rfl,hpt,_,hx⟩)
  | (refine wpList_store_fresh rfl 29 (.tmp 4) (.tmp 39) rfl (patC (.slice A p.pre.length c) (.slice B p.suf.length d) (.slice C p.npre.length a) (.slice D p.nsuf.length b) p.num).toArray 29 _ rfl rfl infoP rfl (by simp [patC,Value.oneCell']) ?_))
 have b9:=(HB.out.ext hx).alloc (.cells ((patC (.slice A p.pre.length c) (.slice B p.suf.length d) (.slice C p.npre.length a) (.slice D p.nsuf.length b) p.num):List Value).toArray 29)
 have c9:=(HC.out.ext hx).alloc (.cells ((patC (.slice A p.pre.length c) (.slice B p.suf.length d) (.slice C p.npre.length a) (.slice D p.nsuf.length b) p.num):List Value).toArray 29)
 have d9:=(HD.out.ext hx).alloc (.cells ((patC (.slice A p.pre.length c) (.slice B p.suf.length d) (.slice C p.npre.length a) (.slice D p.nsuf.length b) p.num):List Value).toArray 29)
 have p9:=(Box.new w' 29 (patC (.slice A p.pre.length c) (.slice B p.suf.length d) (.slice C p.npre.length a) (.slice D p.nsuf.length b) p.num)).cell (j:=4) (v:=.int .i64 p.num.prim) rfl
 have x9:=Ext.alloc_ (HX.out.trans hx) (.cells ((patC (.slice A p.pre.length c) (.slice B p.suf.length d) (.slice C p.npre.length a) (.slice D p.nsuf.length b) p.num):List Value).toArray 29)
 have hne:w'.heap.size ≠ rb:=by have:=(HD.out.ext hx).lt;omega
 clear HB HC HD HX HP q1 hpt hx
 have HB:=Lib.hid b9
 have HC:=Lib.hid c9
 have HD:=Lib.hid d9
 have HX:=Lib.hid x9
 have HNE:=Lib.hid hne
 clear b9 c9 d9 x9 hne
 generalize w'.alloc (.cells ((patC (.slice A p.pre.length c) (.slice B p.suf.length d) (.slice C p.npre.length a) (.slice D p.nsuf.length b) p.num):List Value).toArray 29)=w9 at *
 generalize w'.heap.size=pb at *
 by_cases hg:p.num.prim > 0
 ·have hgi:(0:Int) < p.num.prim:=hg
  have q1:=((HB.out.alloc (.cells ([.string ⟨#[39]⟩,.string ⟨#[194,160]⟩,.string ⟨#[226,128,175]⟩,.string ⟨#[95]⟩,.string ⟨#[46]⟩,.string ⟨#[44]⟩]:List Value).toArray 9)).cell (j:=3) rfl)
  have q2:=(HD.out.alloc (.cells ([.string ⟨#[39]⟩,.string ⟨#[194,160]⟩,.string ⟨#[226,128,175]⟩,.string ⟨#[95]⟩,.string ⟨#[46]⟩,.string ⟨#[44]⟩]:List Value).toArray 9)).cell (j:=4) rfl
  have q3:=(HD.out.alloc (.cells ([.string ⟨#[39]⟩,.string ⟨#[194,160]⟩,.string ⟨#[226,128,175]⟩,.string ⟨#[95]⟩,.string ⟨#[46]⟩,.string ⟨#[44]⟩]:List Value).toArray 9)).frozen 4
  have HP:Hid (Calls Tryz.prog 108 #[.slice (some ⟨w9.heap.size,0,none⟩) 6 6,.int .i64 v3] (w9.alloc (.cells ([.string ⟨#[39]⟩,.string ⟨#[194,160]⟩,.string ⟨#[226,128,175]⟩,.string ⟨#[95]⟩,.string ⟨#[46]⟩,.string ⟨#[44]⟩]:List Value).toArray 9)) fun e w'=>e=.returned (.string ⟨(pickL grps v3).toArray⟩)∧(w9.alloc (.cells ([.string ⟨#[39]⟩,.string ⟨#[194,160]⟩,.string ⟨#[226,128,175]⟩,.string ⟨#[95]⟩,.string ⟨#[46]⟩,.string ⟨#[44]⟩]:List Value).toArray 9))=w') :=
   Lib.hid (pick_ _ _ _ grps v3 _ rfl (by decide) (by decide) h3.1 h3.2 (Box.new w9 9 ([.string ⟨#[39]⟩,.string ⟨#[194,160]⟩,.string ⟨#[226,128,175]⟩,.string ⟨#[95]⟩,.string ⟨#[46]⟩,.string ⟨#[44]⟩]:List Value)).row)
  go_upto_region 10 with (first
   | (go_at_call 108;refine HP.out.mono ?_;rintro e w' ⟨rfl,rfl⟩))
  change Code.wp _ _ _ _ ((w9.alloc (.cells ([.string ⟨#[39]⟩,.string ⟨#[194,160]⟩,.string ⟨#[226,128,175]⟩,.string ⟨#[95]⟩,.string ⟨#[46]⟩,.string ⟨#[44]⟩]:List Value).toArray 9)).setCell ⟨rb,4,none⟩ (sV (pickL grps v3)))
  have b2:=(HB.out.alloc (.cells ([.string ⟨#[39]⟩,.string ⟨#[194,160]⟩,.string ⟨#[226,128,175]⟩,.string ⟨#[95]⟩,.string ⟨#[46]⟩,.string ⟨#[44]⟩]:List Value).toArray 9)).setCell1 rb (sV (pickL grps v3)) HN1.out 4
  have c2:=(HC.out.alloc (.cells ([.string ⟨#[39]⟩,.string ⟨#[194,160]⟩,.string ⟨#[226,128,175]⟩,.string ⟨#[95]⟩,.string ⟨#[46]⟩,.string ⟨#[44]⟩]:List Value).toArray 9)).setCell1 rb (sV (pickL grps v3)) HN2.out 4
  have d2:Box ((w9.alloc (.cells ([.string ⟨#[39]⟩,.string ⟨#[194,160]⟩,.string ⟨#[226,128,175]⟩,.string ⟨#[95]⟩,.string ⟨#[46]⟩,.string ⟨#[44]⟩]:List Value).toArray 9)).setCell ⟨rb,4,none⟩ (sV (pickL grps v3))) rb 26 [sV [120,120],sV (pickL pats v1),.string (nameOf v0),sV (pickL decs v2),sV (pickL grps v3),sV (pickL mins v4),sV (pickL pcts v5),sV (pickL curs v5)]:=(HD.out.alloc (.cells ([.string ⟨#[39]⟩,.string ⟨#[194,160]⟩,.string ⟨#[226,128,175]⟩,.string ⟨#[95]⟩,.string ⟨#[46]⟩,.string ⟨#[44]⟩]:List Value).toArray 9)).setCell 4 (sV (pickL grps v3))
  have x2:=Ext.setCell_ (Ext.alloc_ HX.out (.cells ([.string ⟨#[39]⟩,.string ⟨#[194,160]⟩,.string ⟨#[226,128,175]⟩,.string ⟨#[95]⟩,.string ⟨#[46]⟩,.string ⟨#[44]⟩]:List Value).toArray 9)) (by rw [HGB.out];exact HG.out) 4 (sV (pickL grps v3))
  clear q1 q2 q3 HP HB HC HD HX p9
  have HB:=Lib.hid b2
  have HC:=Lib.hid c2
  have HD:=Lib.hid d2
  have HX:=Lib.hid x2
  clear b2 c2 d2 x2
  generalize (w9.alloc (.cells ([.string ⟨#[39]⟩,.string ⟨#[194,160]⟩,.string ⟨#[226,128,175]⟩,.string ⟨#[95]⟩,.string ⟨#[46]⟩,.string ⟨#[44]⟩]:List Value).toArray 9)).setCell ⟨rb,4,none⟩ (sV (pickL grps v3))=w10 at *
  have q4:=HD.out.cell (j:=4) (v:=.string ⟨(pickL grps v3).toArray⟩) rfl
  have q5:=HD.out.cell (j:=3) (v:=.string ⟨(pickL decs v2).toArray⟩) rfl
  have q6:=HD.out.frozen 4
  by_cases he:pickL grps v3=pickL decs v2
  ·have hd:(pickL grps v3 == pickL decs v2)=true:=by rw [he];simp
   have c3:=HC.out.setCell1 rb (.string ⟨#[32]⟩) HN2.out 4
   have d3:Box (w10.setCell ⟨rb,4,none⟩ (.string ⟨#[32]⟩)) rb 26 [sV [120,120],sV (pickL pats v1),.string (nameOf v0),sV (pickL decs v2),.string ⟨#[32]⟩,sV (pickL mins v4),sV (pickL pcts v5),sV (pickL curs v5)]:=HD.out.setCell 4 (.string ⟨#[32]⟩)
   have x3:=Ext.setCell_ HX.out (by rw [HGB.out];exact HG.out) 4 (.string ⟨#[32]⟩)
   have HC3:=Lib.hid c3
   have HD3:=Lib.hid d3
   have HX3:=Lib.hid x3
   clear c3 d3 x3
   go_upto_region 12 with fail
   change Code.wp _ _ _ _ (w10.setCell ⟨rb,4,none⟩ (.string ⟨#[32]⟩))
   generalize w10.setCell ⟨rb,4,none⟩ (.string ⟨#[32]⟩)=w11 at *
   go_wp2_with (first
    | (refine wpList_load_mid rfl 26 (.tmp 3) rfl rb 0 rfl [sV [120,120],sV (pickL pats v1),.string (nameOf v0),sV (pickL decs v2),.string ⟨#[32]⟩,sV (pickL mins v4),sV (pickL pcts v5),sV (pickL curs v5)] _ HD3.out.range Tryz.underlying26 rfl infoR ?_)
    | (refine wpList_store_row rfl 26 (.tmp 2) (.tmp 55) rfl tb ([sV [120,120],sV (pickL pats v1),.string (nameOf v0),sV (pickL decs v2),.string ⟨#[32]⟩,sV (pickL mins v4),sV (pickL pcts v5),sV (pickL curs v5)]:List Value).toArray rfl rfl _ _ HC3.out infoR rfl (by simp [Value.oneCell',sV]) ?_))
   have hb2:=HC3.out.set ([sV [120,120],sV (pickL pats v1),.string (nameOf v0),sV (pickL decs v2),.string ⟨#[32]⟩,sV (pickL mins v4),sV (pickL pcts v5),sV (pickL curs v5)]:List Value).toArray
   refine bodyPost_ret (v:=.agg ([sV [120,120],sV (pickL pats v1),.string (nameOf v0),sV (pickL decs v2),.string ⟨#[32]⟩,sV (pickL mins v4),sV (pickL pcts v5),sV (pickL curs v5)]:List Value).toArray) (results_cell_row rfl _ _ tb _ _ _ _ rfl hb2 Tryz.underlying26 rfl infoR) rfl ⟨?_,Ext.setRow HX3.out (by rw [HGB.out];exact HT.out) _⟩
   have hgr:goodGrp v2 v3 (patAt (aroundF v1 10).toNat)=[32]:=by unfold goodGrp;rw [HPP.out,if_pos hg,if_pos he]
   simp [goodR,recV,hgr,sV]
  ·have hd:(pickL grps v3 == pickL decs v2)=false:=by simpa using he
   go_wp2_with (first
    | (refine wpList_load_mid rfl 26 (.tmp 3) rfl rb 0 rfl [sV [120,120],sV (pickL pats v1),.string (nameOf v0),sV (pickL decs v2),sV (pickL grps v3),sV (pickL mins v4),sV (pickL pcts v5),sV (pickL curs v5)] _ HD.out.range Tryz.underlying26 rfl infoR ?_)
    | (refine wpList_store_row rfl 26 (.tmp 2) (.tmp 55) rfl tb ([sV [120,120],sV (pickL pats v1),.string (nameOf v0),sV (pickL decs v2),sV (pickL grps v3),sV (pickL mins v4),sV (pickL pcts v5),sV (pickL curs v5)]:List Value).toArray rfl rfl _ _ HC.out infoR rfl (by simp [Value.oneCell',sV]) ?_))
   have hb2:=HC.out.set ([sV [120,120],sV (pickL pats v1),.string (nameOf v0),sV (pickL decs v2),sV (pickL grps v3),sV (pickL mins v4),sV (pickL pcts v5),sV (pickL curs v5)]:List Value).toArray
   refine bodyPost_ret (v:=.agg ([sV [120,120],sV (pickL pats v1),.string (nameOf v0),sV (pickL decs v2),sV (pickL grps v3),sV (pickL mins v4),sV (pickL pcts v5),sV (pickL curs v5)]:List Value).toArray) (results_cell_row rfl _ _ tb _ _ _ _ rfl hb2 Tryz.underlying26 rfl infoR) rfl ⟨?_,Ext.setRow HX.out (by rw [HGB.out];exact HT.out) _⟩
   have hgr:goodGrp v2 v3 (patAt (aroundF v1 10).toNat)=pickL grps v3:=by unfold goodGrp;rw [HPP.out,if_pos hg,if_neg he]
   simp [goodR,recV,hgr,sV]
 ·have hgi:¬ (0:Int) < p.num.prim:=hg
  go_wp2_with (first
   | (refine wpList_load_mid rfl 26 (.tmp 3) rfl rb 0 rfl [sV [120,120],sV (pickL pats v1),.string (nameOf v0),sV (pickL decs v2),sV [],sV (pickL mins v4),sV (pickL pcts v5),sV (pickL curs v5)] _ HD.out.range Tryz.underlying26 rfl infoR ?_)
   | (refine wpList_store_row rfl 26 (.tmp 2) (.tmp 55) rfl tb ([sV [120,120],sV (pickL pats v1),.string (nameOf v0),sV (pickL decs v2),sV [],sV (pickL mins v4),sV (pickL pcts v5),sV (pickL curs v5)]:List Value).toArray rfl rfl _ _ HC.out infoR rfl (by simp [Value.oneCell',sV]) ?_))
  have hb2:=HC.out.set ([sV [120,120],sV (pickL pats v1),.string (nameOf v0),sV (pickL decs v2),sV [],sV (pickL mins v4),sV (pickL pcts v5),sV (pickL curs v5)]:List Value).toArray
  refine bodyPost_ret (v:=.agg ([sV [120,120],sV (pickL pats v1),.string (nameOf v0),sV (pickL decs v2),sV [],sV (pickL mins v4),sV (pickL pcts v5),sV (pickL curs v5)]:List Value).toArray) (results_cell_row rfl _ _ tb _ _ _ _ rfl hb2 Tryz.underlying26 rfl infoR) rfl ⟨?_,Ext.setRow HX.out (by rw [HGB.out];exact HT.out) _⟩
  have hgr:goodGrp v2 v3 (patAt (aroundF v1 10).toNat)=[]:=by unfold goodGrp;rw [HPP.out,if_neg (by omega)]
  simp [goodR,recV,hgr,sV]
open Go.RowKit Utf All Small Strs Build EncC Pat Cls Dec Go.Proofs.YtcghgkagpkmpeaaGreatDoor.Sys
set_option maxRecDepth 512
theorem ba_inj {t u:List UInt8} (h:(⟨t.toArray⟩:ByteArray)=⟨u.toArray⟩):t=u:=by
 injection h with h
 simpa using congrArg Array.toList h
theorem mem_dB {l:Loc} {t:List UInt8}:(⟨t.toArray⟩:ByteArray) ∈ dB l ↔ t ∈ l.d:=by
 unfold dB
 rw [List.mem_map]
 constructor
 ·rintro ⟨u,hu,he⟩;rw [← ba_inj he];exact hu
 ·intro h;exact ⟨t,h,rfl⟩
theorem idx_out {l:Loc} {t:List UInt8} (h:t ∉ l.d):¬ 0≤Lib.idxOfS (dB l) ⟨t.toArray⟩:=by
 rw [Lib.idxOfS_nonneg_iff,mem_dB];exact h
theorem sign_dec {l:Loc} (h:l.r.decimal ∉ l.d):signZ l ⟨l.r.decimal.toArray⟩=10:=by
 unfold signZ;rw [if_neg (idx_out h),if_pos rfl]
theorem sign_grp {l:Loc} (h:l.r.group ∉ l.d) (hd:l.r.group ≠ l.r.decimal) (hg:grpZ l=true):signZ l ⟨l.r.group.toArray⟩=11:=by
 unfold signZ;rw [if_neg (idx_out h),if_neg (fun e=>hd (ba_inj e)),if_pos ⟨hg,rfl⟩]
theorem sign_min {l:Loc} (h:l.r.minus ∉ l.d) (hd:l.r.minus ≠ l.r.decimal) (hg:grpZ l=true→l.r.minus ≠ l.r.group):signZ l ⟨l.r.minus.toArray⟩=12:=by
 unfold signZ;rw [if_neg (idx_out h),if_neg (fun e=>hd (ba_inj e)),if_neg (fun e=>hg e.1 (ba_inj e.2)),if_pos rfl]
theorem sign_no {l:Loc} {t:List UInt8} (h:t ∉ l.d) (hd:t ≠ l.r.decimal) (hg:grpZ l=true→t ≠ l.r.group) (hm:t ≠ l.r.minus):signZ l ⟨t.toArray⟩=-1:=by
 unfold signZ;rw [if_neg (idx_out h),if_neg (fun e=>hd (ba_inj e)),if_neg (fun e=>hg e.1 (ba_inj e.2)),if_neg (fun e=>hm (ba_inj e))]
def sysAt (i:Nat):List UInt8:=(nameAt i).data.toList
def digsAt (i:Nat):List (List UInt8):=(List.range 10).map fun (d:Nat)=>digB (nameAt i) (d:Int)
theorem sys_ba (s:ByteArray):(⟨s.data.toList.toArray⟩:ByteArray)=s:=bytes_ext (by simp)
def mkR (s j i m a b:Nat) (g:List UInt8):Rec:=⟨[120,120],pats.getD j [],sysAt s,decs.getD i [],g,mins.getD m [],pcts.getD a [],curs.getD b []⟩
def mkL (s j i m a b:Nat) (g:List UInt8):Loc:=⟨mkR s j i m a b g,patAt j,digs (mkR s j i m a b g)⟩
theorem mk_d (s j i m a b:Nat) (g:List UInt8):(mkL s j i m a b g).d=digsAt s:=by
 show digs (mkR s j i m a b g)=digsAt s
 unfold digs digsAt
 show (List.range 10).map (fun (d:Nat)=>digB ⟨(nameAt s).data.toList.toArray⟩ (d:Int))=_
 rw [sys_ba]
def allGrps:List (List UInt8):=grps++[[32]]
def allDigs:List (List UInt8):=(List.range 20).flatMap digsAt
theorem digs_sub {s:Nat} (h:s < 20) {t:List UInt8} (ht:t ∈ digsAt s):t ∈ allDigs:=List.mem_flatMap.2 ⟨s,List.mem_range.2 h,ht⟩
theorem dec_out:∀ i:Fin 4,decs.getD i.val [] ∉ allDigs:=by decide +kernel
theorem min_out:∀ i:Fin 4,mins.getD i.val [] ∉ allDigs∧mins.getD i.val [] ∉ allGrps∧mins.getD i.val [] ∉ decs:=by decide +kernel
theorem grp_out:∀ t ∈ allGrps,t ∉ allDigs∧symL t=true∧t.length≤1000:=by decide +kernel
theorem dec_sym:∀ i:Fin 4,symL (decs.getD i.val [])=true∧(decs.getD i.val []).length≤1000:=by decide +kernel
theorem min_sym:∀ i:Fin 4,symL (mins.getD i.val [])=true∧(mins.getD i.val []).length≤1000:=by decide +kernel
theorem pct_word:∀ i:Fin 2,wordL (pcts.getD i.val [])=true∧(pcts.getD i.val []).length≤1000:=by decide +kernel
theorem cur_word:∀ i:Fin 4,wordL (curs.getD i.val [])=true∧(curs.getD i.val []).length≤1000:=by decide +kernel
def affsP (p:Pt):List (List Pc):=[p.pre,p.suf,p.npre,p.nsuf]
def txtC (cur per:List UInt8) (q:List Pc):List UInt8:=resF cur per [] q
def toks:List (List UInt8):=[[36],[226,130,172],[67],[72],[70],[107,204,129],[114],[120],[40],[41],[37],[217,170],[121],[35]]
theorem toks_out:∀ t ∈ toks,t ∉ allDigs∧t ∉ allGrps∧t ∉ decs∧t ∉ mins:=by decide +kernel
def patOk (p:Pt):Bool:=decide (0≤p.num.prim) && decide (cntK 3 p.pre=0) && decide (cntK 3 p.suf=0) && decide (cntK 3 p.pre+cntK 3 p.suf+cntK 3 p.npre+cntK 3 p.nsuf=1) &&
 (affsP p).all (fun q=>decide (q.length≤1000) && q.all fun x=>decide (0≤x.1) && decide (x.1 < 4) && decide (x.2.length≤6) && (!decide (x.1=0) || plainL (charsL x.2)))
theorem pats_ok:∀ j:Fin 10,patOk (patAt j.val)=true:=by decide +kernel
def txtOk (p:Pt):Bool:=(List.range 2).all fun a=>(List.range 4).all fun b=>(affsP p).all fun q =>
 decide ((txtC (curs.getD b []) (pcts.getD a []) q).length≤64) && (splitS (txtC (curs.getD b []) (pcts.getD a []) q)).all fun t=>toks.contains t
theorem txts_ok:∀ j:Fin 10,txtOk (patAt j.val)=true:=by decide +kernel
theorem mem_getD {ts:List (List UInt8)} {k:Nat} (h:k < ts.length):ts.getD k [] ∈ ts:=by
 rw [List.getD_eq_getElem?_getD,List.getElem?_eq_getElem h];exact List.getElem_mem h
theorem may_mk (s j i m a b:Nat) (g:List UInt8) (hs:s < 20) (hj:j < 10) (hi:i < 4) (hm:m < 4) (ha:a < 2) (hb:b < 4)
  (hg:if (patAt j).num.prim > 0 then g ∈ allGrps∧g ≠ decs.getD i [] else g=[]):MayL (mkL s j i m a b g):=by
 have hp:=pats_ok ⟨j,hj⟩
 have ht:=txts_ok ⟨j,hj⟩
 unfold patOk at hp
 unfold txtOk at ht
 simp only [Bool.and_eq_true,Bool.or_eq_true,decide_eq_true_eq,List.all_eq_true,Bool.not_eq_true',decide_eq_false_iff_not] at hp ht
 obtain ⟨⟨⟨⟨_,p0⟩,p1⟩,p2⟩,p3⟩:=hp
 have hT:=ht a (List.mem_range.2 ha) b (List.mem_range.2 hb)
 have hd:=mk_d s j i m a b g
 have dout:∀ {t:List UInt8},t ∉ allDigs→t ∉ (mkL s j i m a b g).d:=fun {t} h h'=>by rw [hd] at h';exact h (digs_sub hs h')
 have hgz:grpZ (mkL s j i m a b g)=true ↔ (patAt j).num.prim > 0:=by
  unfold grpZ
  rw [decide_eq_true_eq];exact Iff.rfl
 have hdec:=dec_out ⟨i,hi⟩
 have hds:=dec_sym ⟨i,hi⟩
 have hmo:=min_out ⟨m,hm⟩
 have hms:=min_sym ⟨m,hm⟩
 have hpw:=pct_word ⟨a,ha⟩
 have hcw:=cur_word ⟨b,hb⟩
 have hdm:decs.getD i [] ∈ decs:=mem_getD hi
 have hmm:mins.getD m [] ∈ mins:=mem_getD hm
 have hgl:g.length≤1000:=by
  split at hg
  ·exact (grp_out g hg.1).2.2
  ·subst hg;simp
 have sD:signZ (mkL s j i m a b g) ⟨(mkL s j i m a b g).r.decimal.toArray⟩=10:=sign_dec (dout hdec)
 have sM:signZ (mkL s j i m a b g) ⟨(mkL s j i m a b g).r.minus.toArray⟩=12:=sign_min (dout hmo.1) (fun (e:mins.getD m []=decs.getD i [])=>hmo.2.2 (show mins.getD m [] ∈ decs by rw [e];exact hdm))
  (fun hz e=>hmo.2.1 (by
   rw [if_pos (hgz.1 hz)] at hg
   have e':mins.getD m []=g:=e
   rw [e'];exact hg.1))
 refine ⟨⟨?_,fun q hq=>(p3 q hq).1,fun q hq x hx=>by have:=((p3 q hq).2 x hx).1.2;omega,hds.2,hgl,hms.2,hpw.2,hcw.2⟩,p0,p1,p2,?_,hds.1,?_,hms.1,.inl hpw.1,.inl hcw.1,fun q hq x hx h0=>?_,fun q hq=>(hT q hq).1,?_,fun hz=>?_,?_,fun q hq t htt=>?_⟩
 ·rw [hd];simp [digsAt]
 ·show (⟨(nameAt s).data.toList.toArray⟩:ByteArray) ∈ names
  rw [sys_ba];unfold nameAt
  rw [List.getD_eq_getElem?_getD,List.getElem?_eq_getElem (show s < names.length from hs)]
  exact List.getElem_mem _
 ·cases hz:grpZ (mkL s j i m a b g)
  ·have hn:¬ (patAt j).num.prim > 0:=fun h=>by rw [hgz.2 h] at hz;cases hz
   rw [if_neg hn] at hg
   show (if false=true then _ else g=[])
   rw [if_neg (by simp)];exact hg
  ·rw [if_pos (hgz.1 hz)] at hg
   show (if true=true then symL g=true else _)
   rw [if_pos rfl];exact (grp_out g hg.1).2.1
 ·exact (((p3 q hq).2 x hx).2).resolve_left (fun h=>h h0)
 ·rw [sD];omega
 ·rw [if_pos (hgz.1 hz)] at hg
  have:signZ (mkL s j i m a b g) ⟨(mkL s j i m a b g).r.group.toArray⟩=11:=sign_grp (dout (grp_out g hg.1).1) hg.2 hz
  rw [this];omega
 ·rw [sM];omega
 ·have hk:t ∈ toks:=by simpa using (hT q hq).2 t htt
  obtain ⟨t1,t2,t3,t4⟩:=toks_out t hk
  refine sign_no (dout t1) (fun e=>t3 ?_) (fun hz e=>t2 ?_) (fun e=>t4 ?_)
  ·have e':t=decs.getD i []:=e
   rw [e'];exact hdm
  ·rw [if_pos (hgz.1 hz)] at hg
   have e':t=g:=e
   rw [e'];exact hg.1
  ·have e':t=mins.getD m []:=e
   rw [e'];exact hmm
theorem good_mk (v0 v1 v2 v3 v4 v5:Int):∃ s j i m a b g,s < 20∧j < 10∧i < 4∧m < 4∧a < 2∧b < 4∧(if (patAt j).num.prim > 0 then g ∈ allGrps∧g ≠ decs.getD i [] else g=[]) ∧
  goodR v0 v1 v2 v3 v4 v5=mkR s j i m a b g∧(aroundF v1 10).toNat=j:=by
 have h0:=aroundF_bd v0 20 (by omega)
 have h1:=aroundF_bd v1 10 (by omega)
 have h2:=aroundF_bd v2 4 (by omega)
 have h3:=aroundF_bd v3 6 (by omega)
 have h4:=aroundF_bd v4 4 (by omega)
 have h5:=aroundF_bd v5 2 (by omega)
 have h6:=aroundF_bd v5 4 (by omega)
 refine ⟨(aroundF v0 20).toNat,(aroundF v1 10).toNat,(aroundF v2 4).toNat,(aroundF v4 4).toNat,(aroundF v5 2).toNat,(aroundF v5 4).toNat,goodGrp v2 v3 (patAt (aroundF v1 10).toNat),by omega,by omega,by omega,by omega,by omega,by omega,?_,rfl,rfl⟩
 unfold goodGrp
 split
 ·have hm:pickL grps v3 ∈ grps:=mem_getD (show (aroundF v3 6).toNat < grps.length by simp [grps];omega)
  have hdi:pickL decs v2 ∈ decs:=mem_getD (show (aroundF v2 4).toNat < decs.length by simp [decs];omega)
  have hsp:∀ t ∈ decs,([32]:List UInt8) ≠ t:=by decide
  refine ⟨?_,?_⟩
  ·split
   ·simp [allGrps]
   ·simp [allGrps,hm]
  ·show _ ≠ pickL decs v2
   split
   ·exact hsp _ hdi
   ·assumption
 ·rfl
end Go.Proofs.YtcghgkagpkmpeaaGreatDoor.Loc
namespace Go.Proofs.YtcghgkagpkmpeaaGreatDoor.Loc
open Go.RowKit Utf All Small Strs Build EncC Pat Cls
def stepR (l:Loc) (st:List Prt × List UInt8) (x:Pc):List Prt × List UInt8 :=
 if x.1=3 then ((if st.2=[] then st.1 else st.1++[(false,st.2)])++[(true,[])],[]) else (st.1,st.2++txtL l [x])
def finR (st:List Prt × List UInt8):List Prt:=if st.2=[] then st.1 else st.1++[(false,st.2)]
def stR (l:Loc) (q:List Pc):List Prt × List UInt8:=q.foldl (stepR l) ([],[])
def InvR (st:List Prt × List UInt8):Prop:=st.1=[]∨∃ r,st.1=r++[(true,[])]
theorem txt_three (l:Loc) (x:Pc) (h:x.1=3):txtL l [x]=[]:=by
 unfold txtL resF;simp [h]
theorem stepR_inv {l:Loc} {st:List Prt × List UInt8} {x:Pc} (h:InvR st):InvR (stepR l st x):=by
 unfold stepR
 split
 ·exact .inr ⟨_,rfl⟩
 ·exact h
theorem step_eq {l:Loc} {st:List Prt × List UInt8} {x:Pc} (h:InvR st):stepP (finR st) (oneP l x)=finR (stepR l st x):=by
 obtain ⟨out,s⟩:=st
 unfold stepR oneP
 by_cases h3:x.1=3
 ·rw [if_pos h3,txt_three l x h3,decide_eq_true h3]
  unfold stepP finR
  simp only
  rw [if_neg (by simp)]
  split <;> rename_i hg
  ·simp
  ·simp
 ·rw [if_neg h3,decide_eq_false h3]
  generalize txtL l [x]=tx
  by_cases ht:tx=[]
  ·subst ht
   unfold stepP finR
   simp
  ·unfold stepP
   rw [if_neg (by simp [ht])]
   unfold finR
   simp only
   have hst:¬ s++tx=[]:=by simp [ht]
   rw [if_neg hst]
   by_cases hs:s=[]
   ·subst hs
    rw [if_pos rfl]
    rcases h with h | ⟨r,h⟩
    ·simp only at h;subst h;simp
    ·simp only at h;subst h;simp
   ·rw [if_neg hs];simp
theorem parts_fold {l:Loc}:∀ (q:List Pc) (st:List Prt × List UInt8),InvR st→q.foldl (fun out x=>stepP out (oneP l x)) (finR st)=finR (q.foldl (stepR l) st)
 | [],_,_=>rfl
 | x :: q,st,h=>by
  rw [List.foldl_cons,List.foldl_cons,step_eq h]
  exact parts_fold q _ (stepR_inv h)
theorem parts_fin (l:Loc) (q:List Pc):partsF l q=finR (stR l q):=parts_fold q ([],[]) (.inl rfl)
theorem stR_snoc (l:Loc) {q:List Pc} {k:Nat} (h:k < q.length):stR l (q.take (k+1))=stepR l (stR l (q.take k)) q[k]:=by
 unfold stR
 rw [List.take_succ_eq_append_getElem h,List.foldl_append];rfl
def GoodP (p:Prt):Prop:=(p.1=true∧p.2=[])∨(p.1=false∧p.2 ≠ [])
def nSign (ps:List Prt):Nat:=ps.countP (·.1)
theorem stR_good {l:Loc}:∀ (q:List Pc) (st:List Prt × List UInt8),(∀ p ∈ st.1,GoodP p)→∀ p ∈ (q.foldl (stepR l) st).1,GoodP p
 | [],_,h=>h
 | x :: q,st,h=>by
  rw [List.foldl_cons]
  refine stR_good q _ fun p hp=>?_
  unfold stepR at hp
  split at hp
  ·rcases List.mem_append.1 hp with hp | hp
   ·split at hp
    ·exact h p hp
    ·rcases List.mem_append.1 hp with hp | hp
     ·exact h p hp
     ·rw [List.mem_singleton] at hp;subst hp;exact .inr ⟨rfl,by assumption⟩
   ·rw [List.mem_singleton] at hp;subst hp;exact .inl ⟨rfl,rfl⟩
  ·exact h p hp
theorem parts_good (l:Loc) (q:List Pc):∀ p ∈ partsF l q,GoodP p:=by
 rw [parts_fin]
 intro p hp
 unfold finR at hp
 have hg:=stR_good (l:=l) q ([],[]) (by simp)
 split at hp
 ·exact hg p hp
 ·rcases List.mem_append.1 hp with hp | hp
  ·exact hg p hp
  ·rw [List.mem_singleton] at hp;subst hp;exact .inr ⟨rfl,by assumption⟩
theorem stR_sign {l:Loc}:∀ (q:List Pc) (st:List Prt × List UInt8),nSign (q.foldl (stepR l) st).1=nSign st.1+cntK 3 q
 | [],_=>by simp [cntK]
 | x :: q,st=>by
  rw [List.foldl_cons,stR_sign q]
  have e:cntK 3 (x :: q)=(if x.1=3 then 1 else 0)+cntK 3 q:=by
   show List.countP (isK 3) (x :: q)=_+List.countP (isK 3) q
   rw [List.countP_cons]
   by_cases h3:x.1=3
   ·have hk:isK 3 x=true:=by unfold isK;simp [h3]
    rw [hk,if_pos h3];simp;omega
   ·have hk:isK 3 x=false:=by unfold isK;simp [h3]
    rw [hk,if_neg h3];simp
  rw [e]
  by_cases h3:x.1=3
  ·have hs:(stepR l st x).1=(if st.2=[] then st.1 else st.1++[(false,st.2)])++[(true,[])]:=by unfold stepR;rw [if_pos h3]
   rw [hs,if_pos h3]
   unfold nSign
   split <;> simp [List.countP_append,List.countP_cons] <;> omega
  ·have hs:(stepR l st x).1=st.1:=by unfold stepR;rw [if_neg h3]
   rw [hs,if_neg h3];omega
theorem parts_sign (l:Loc) (q:List Pc):nSign (partsF l q)=cntK 3 q:=by
 rw [parts_fin]
 have h:=stR_sign (l:=l) q ([],[])
 have h':nSign (stR l q).1=cntK 3 q:=by unfold stR;rw [h];simp [nSign]
 unfold finR
 split
 ·exact h'
 ·unfold nSign at *
  rw [List.countP_append,h'];simp
open Go.RowKit Utf All Small Strs Build EncC Pat Cls Dec Go.Proofs.YtcghgkagpkmpeaaGreatDoor.Sys
structure Both (r:Rec) (p:Pt):Prop where
 pat:parseF r.pattern=.ok p
 ref:refP r.pattern=some p
 plen:r.pattern.length≤1000
 nm:nameZ r.name=true
 may:MayL ⟨r,p,digs r⟩
 prim:0≤p.num.prim
 pcs:∀ q ∈ affsP p,∀ x ∈ q,0≤x.1∧x.1 < 4∧x.2.length≤6
 val:∀ q ∈ affsP p,∀ x ∈ q,validL x.2=true
def locOf (r:Rec) (p:Pt):Loc:=⟨r,p,digs r⟩
theorem pats_len:∀ j:Fin 10,(pats.getD j.val []).length≤1000:=by decide
def valOk (p:Pt):Bool:=(affsP p).all fun q=>q.all fun x=>validL x.2
theorem valOk_of {p:Pt} (h:valOk p=true):∀ q ∈ affsP p,∀ x ∈ q,validL x.2=true:=by
 unfold valOk at h
 simp only [List.all_eq_true] at h
 exact h
theorem vals_ok:∀ j:Fin 10,valOk (patAt j.val)=true:=by decide +kernel
theorem both_mk (s j i m a b:Nat) (g:List UInt8) (hs:s < 20) (hj:j < 10) (hi:i < 4) (hm:m < 4) (ha:a < 2) (hb:b < 4)
  (hg:if (patAt j).num.prim > 0 then g ∈ allGrps∧g ≠ decs.getD i [] else g=[]):Both (mkR s j i m a b g) (patAt j):=by
 have hp:=pats_ok ⟨j,hj⟩
 unfold patOk at hp
 simp only [Bool.and_eq_true,Bool.or_eq_true,decide_eq_true_eq,List.all_eq_true,Bool.not_eq_true',decide_eq_false_iff_not] at hp
 exact ⟨(pats_all ⟨j,hj⟩).2,(pats_all ⟨j,hj⟩).1,pats_len ⟨j,hj⟩,by kernel_rfl,may_mk s j i m a b g hs hj hi hm ha hb hg,hp.1.1.1.1,fun q hq x hx =>
  ⟨((hp.2 q hq).2 x hx).1.1.1,((hp.2 q hq).2 x hx).1.1.2,((hp.2 q hq).2 x hx).1.2⟩,valOk_of (vals_ok ⟨j,hj⟩)⟩
theorem both_good (v0 v1 v2 v3 v4 v5:Int):Both (goodR v0 v1 v2 v3 v4 v5) (patAt (aroundF v1 10).toNat):=by
 obtain ⟨s,j,i,m,a,b,g,hs,hj,hi,hm,ha,hb,hg,he,hk⟩:=good_mk v0 v1 v2 v3 v4 v5
 rw [he,hk]
 exact both_mk s j i m a b g hs hj hi hm ha hb hg
section
variable {r:Rec} {p:Pt}
theorem Both.count (h:Both r p) (neg:Bool):nSign (ahead (locOf r p) neg)+nSign (behind (locOf r p) neg)=(if neg then 1 else 0):=by
 unfold ahead behind
 rw [parts_sign,parts_sign]
 have h0:=h.may.s0
 have h1:=h.may.s1
 have h2:=h.may.s2
 unfold cntA at h2
 cases neg
 ·show cntK 3 p.pre+cntK 3 p.suf=0
  exact (by rw [show cntK 3 p.pre=0 from h0,show cntK 3 p.suf=0 from h1])
 ·show cntK 3 p.npre+cntK 3 p.nsuf=1
  have e0:cntK 3 p.pre=0:=h0
  have e1:cntK 3 p.suf=0:=h1
  have e2:cntK 3 p.pre+cntK 3 p.suf+cntK 3 p.npre+cntK 3 p.nsuf=1:=h2
  omega
end
end Go.Proofs.YtcghgkagpkmpeaaGreatDoor.Loc
