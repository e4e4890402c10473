/- Joined by wip/join.py: LRegZ StEq StP4 StHd StW6 StW7 StLw StLv. -/
import Derived.Test.YtcghgkagpkmpeaaGreatDoorJBase
import Derived.Deep.RegionHeld
import Derived.Test.YtcghgkagpkmpeaaGreatDoorJUtf
import Derived.Test.YtcghgkagpkmpeaaGreatDoorJSt
import Derived.Test.YtcghgkagpkmpeaaGreatDoorJLocD
import Derived.Test.YtcghgkagpkmpeaaGreatDoorJItW
import Derived.Test.YtcghgkagpkmpeaaGreatDoorJLocE
import Derived.Test.YtcghgkagpkmpeaaGreatDoorJLForty
set_option linter.unusedVariables false
set_option linter.unusedSimpArgs false
set_option maxHeartbeats 16000000
namespace Go.Proofs.YtcghgkagpkmpeaaGreatDoor.Loc
open Go.RowKit
section
variable {P:Program} {md:Region.Mode} {ops:Array Oper} {Q:Exit→Act→World→Prop} {S:World→Prop} {z:Nat}
def wpAnyZ (P:Program) (md:Region.Mode) (ops:Array Oper) (Q:Exit→Act→World→Prop) (S:World→Prop) (z:Nat):Nat→Array Bool→Act→World→Prop
 | 0,listed,a,w=>Region.ready md ops listed=[]∧Q .normal a w
 | fuel+1,listed,a,w =>
  (Region.ready md ops listed=[]→Q .normal a w) ∧
  ∀ i ∈ Region.ready md ops listed,wpOp P ops Q i (fun a' w'=>(i ≠ z→S w')∧wpAnyZ P md ops Q S z fuel (listed.setIfInBounds i true) a' w') a w
theorem wpAny_of_Z:∀ (fuel:Nat) (listed:Array Bool) (a:Act) (w:World),wpAnyZ P md ops Q S z fuel listed a w→wpAny P md ops Q fuel listed a w
 | 0,_,_,_,h=>h
 | fuel+1,_,_,_,h=>⟨h.1,fun i hi=>wpOp_mono (fun a' w' h'=>wpAny_of_Z fuel _ a' w' h'.2) (h.2 i hi)⟩
def Down (md:Region.Mode) (ops:Array Oper) (listed:Array Bool):Prop:=∀ j oj,ops[j]? = some oj→listed.getD j true=true→∀ e ∈ oj.after,Region.binds md e=true→listed.getD e.on false=true
theorem getD_up {listed:Array Bool} {j:Nat} (h:listed.getD j false=true):listed.getD j true=true:=by
 rcases Nat.lt_or_ge j listed.size with h' | h'
 ·simp [h'] at h ⊢;exact h
 ·simp [Array.getElem?_eq_none h'] at h
theorem down_set {listed:Array Bool} {j:Nat} (hd:Down md ops listed) (hj:j ∈ Region.ready md ops listed):Down md ops (listed.setIfInBounds j true):=by
 intro k ok hk hl e he hb
 by_cases hjk:j=k
 ·subst hjk
  obtain ⟨_,oj,hoj,hall⟩:=mem_ready.1 hj
  rw [hk] at hoj
  cases hoj
  exact getD_set_true (hall e he hb)
 ·rw [getD_set_ne true hjk] at hl
  exact getD_set_true (hd k ok hk hl e he hb)
def reachB (md:Region.Mode) (ops:Array Oper):Nat→Nat→Nat→Bool
 | 0,p,i=>p == i
 | f+1,p,i=>p == i || (match ops[p]? with
  | none=>false
  | some o=>o.after.any fun e=>Region.binds md e && reachB md ops f e.on i)
theorem reach_spec {listed:Array Bool} (hd:Down md ops listed) {i:Nat}:∀ (f p:Nat),reachB md ops f p i=true→listed.getD p false=true→listed.getD i false=true
 | 0,p,h,hp=>by
  unfold reachB at h
  rw [beq_iff_eq] at h
  subst h;exact hp
 | f+1,p,h,hp=>by
  unfold reachB at h
  rw [Bool.or_eq_true] at h
  rcases h with h | h
  ·rw [beq_iff_eq] at h
   subst h;exact hp
  ·cases ho:ops[p]? with
   | none=>rw [ho] at h;cases h
   | some o =>
    rw [ho] at h
    simp only [Array.any_eq_true'] at h
    obtain ⟨e,he,h2⟩:=h
    rw [Bool.and_eq_true] at h2
    exact reach_spec hd f e.on h2.2 (hd p o ho (getD_up hp) e he h2.1)
def waitsB (md:Region.Mode) (ops:Array Oper) (z i:Nat):Bool:=match ops[z]? with
 | none=>false
 | some o=>o.after.any fun e=>Region.binds md e && reachB md ops ops.size e.on i
theorem waits_spec {i:Nat} (h:waitsB md ops z i=true) {listed:Array Bool} (hd:Down md ops listed) (hi:listed.getD i true=false):z ∉ Region.ready md ops listed:=by
 intro hz
 obtain ⟨_,o,ho,hall⟩:=mem_ready.1 hz
 unfold waitsB at h
 rw [ho] at h
 simp only [Array.any_eq_true'] at h
 obtain ⟨e,he,h2⟩:=h
 rw [Bool.and_eq_true] at h2
 have h3:=getD_up (reach_spec hd _ _ h2.2 (hall e he h2.1))
 rw [hi] at h3;cases h3
def downB (md:Region.Mode) (ops:Array Oper) (listed:Array Bool):Bool:=(List.range ops.size).all fun j=>match ops[j]? with
 | none=>true
 | some o=>!listed.getD j true || o.after.all fun e=>!Region.binds md e || listed.getD e.on false
theorem down_spec {listed:Array Bool} (h:downB md ops listed=true):Down md ops listed:=by
 intro j oj hj hl e he hb
 unfold downB at h
 rw [List.all_eq_true] at h
 have hlt:j < ops.size:=(Array.getElem?_eq_some_iff.1 hj).1
 have h2:=h j (List.mem_range.2 hlt)
 rw [hj] at h2
 simp only [hl,Bool.not_true,Bool.false_or] at h2
 rw [Array.all_eq_true'] at h2
 have h3:=h2 e he
 rw [hb] at h3
 simpa using h3
theorem wpAnyZ_first {i:Nat} {oi:Oper} {v:Value} (hi:ops[i]? = some oi) (hsel:∀ (j:Nat) (o:Oper) cs b,ops[j]? = some o→o.op ≠ .select cs b)
  (hQ:∀ c a w,Q (.panic c) (a.put oi.dst v) w→Q (.panic c) a w) (hw:waitsB md ops z i=true) (hiz:i ≠ z) :
  ∀ (fuel:Nat) (listed:Array Bool) (a:Act) (w:World),Down md ops listed →
   (∀ j oj,ops[j]? = some oj→j ≠ i→listed.getD j true=false→(∀ e ∈ oj.after,Region.binds md e=true→e.on ≠ i)→oi.apart ops oj=true) →
   i ∈ Region.ready md ops listed→YieldsIf P ops S oi v a→S w →
   wpAnyZ P md ops Q S z fuel (listed.setIfInBounds i true) (a.put oi.dst v) w→wpAnyZ P md ops Q S z (fuel+1) listed a w:=by
 intro fuel
 induction fuel with
 | zero =>
  intro listed a w _ _ hr hy hS H
  refine ⟨fun h=>(by rw [h] at hr;cases hr),fun j hj=>?_⟩
  by_cases hji:j=i
  ·subst hji;exact hy.wpOp hi hS ⟨fun _=>hS,H⟩
  ·have:=ready_mono hj hji
   rw [H.1] at this
   cases this
 | succ fuel ih =>
  intro listed a w hd hfree hr hy hS H
  refine ⟨fun h=>(by rw [h] at hr;cases hr),fun j hj=>?_⟩
  by_cases hji:j=i
  ·subst hji;exact hy.wpOp hi hS ⟨fun _=>hS,H⟩
  ·have hjz:j ≠ z:=fun e=>waits_spec hw hd (mem_ready.1 hr).1 (e ▸ hj)
   have h1:=H.2 j (ready_mono hj hji)
   obtain ⟨hjun,oj,hoj,hall⟩:=mem_ready.1 hj
   have hnot:∀ e ∈ oj.after,Region.binds md e=true→e.on ≠ i:=fun e he hb heq=>by
    have h1:=hall e he hb
    have h0:=(mem_ready.1 hr).1
    rw [heq] at h1
    have h2:=getD_up h1
    rw [h0] at h2;cases h2
   have h2:=wpOp_putIf hoj (hfree j oj hoj hji hjun hnot) (fun cs b=>hsel i oi cs b hi) (fun cs b=>hsel j oj cs b hoj) hQ hy h1
   have hfree':∀ k ok,ops[k]? = some ok→k ≠ i→(listed.setIfInBounds j true).getD k true=false →
     (∀ e ∈ ok.after,Region.binds md e=true→e.on ≠ i)→oi.apart ops ok=true:=fun k ok hk hki hun hno=>by
    refine hfree k ok hk hki ?_ hno
    by_cases hjk:j=k
    ·subst hjk;exact hjun
    ·rw [getD_set_ne true hjk] at hun;exact hun
   refine wpOp_mono (fun a' w' h3=>⟨h3.2.1,ih (listed.setIfInBounds j true) a' w' (down_set hd hj) hfree' (ready_mono hr (Ne.symm hji)) h3.1 (h3.2.1 hjz) ?_⟩) h2
   rw [Array.setIfInBounds_comm _ _ hji]
   exact h3.2.2
theorem wpAnyZ_done {listed:Array Bool} {a:Act} {w:World} (hr:Region.ready md ops listed=[]) (h:Q .normal a w):∀ fuel,wpAnyZ P md ops Q S z fuel listed a w
 | 0=>⟨hr,h⟩
 | _+1=>⟨fun _=>h,by rw [hr];simp⟩
theorem wp_region_Z {id:Nat} {a:Act} {w:World} (z:Nat) (hm:P.follows .mixedOrders=true) (hS:S w.drew)
  (h:S w.drew→wpAnyZ P .any ops Q S z ops.size (Array.replicate ops.size false) a w.drew):(Code.region id ops true).wp P Q a w :=
 wp_region_any hm (wpAny_of_Z _ _ _ _ (h hS))
end
theorem takeZ_ {P:Program} {l:List Oper} {Q:Exit→Act→World→Prop} {md:Region.Mode} {S:World→Prop} {z:Nat} {oi:Oper} {v:Value} {fuel:Nat} {listed:Array Bool} {a:Act} {w:World}
  (i:Nat) (hi:l[i]? = some oi) (hs:Region.noSelect l.toArray=true) (hf:Region.free md l.toArray listed i=true) (hr:(Region.ready md l.toArray listed).contains i=true)
  (hd:downB md l.toArray listed=true) (hz:waitsB md l.toArray z i=true) (hiz:i ≠ z)
  (hQ:∀ c a w,Q (.panic c) (a.put oi.dst v) w→Q (.panic c) a w) (hS:S w) (hw:Region.wanted oi (yielded l.toArray a.tmps)=true) (hy:∀ w,S w→(execOp a.eval oi).run P w=.ok (.value v) w)
  (h:wpAnyZ P md l.toArray Q S z fuel (listed.setIfInBounds i true) (a.put oi.dst v) w):wpAnyZ P md l.toArray Q S z (fuel+1) listed a w :=
 wpAnyZ_first (i:=i) (by rw [List.getElem?_toArray];exact hi) (Region.noSelect_spec hs) hQ hz hiz fuel listed a w (down_spec hd) (Region.free_spec (by rw [List.getElem?_toArray];exact hi) hf) (by simpa using hr) (Or.inl ⟨hw,hy⟩) hS h
theorem onlyZ_ {P:Program} {l:List Oper} {Q:Exit→Act→World→Prop} {md:Region.Mode} {S:World→Prop} {z:Nat} {o:Oper} {fuel:Nat} {listed:Array Bool} {a:Act} {w:World}
  (i:Nat) (hi:l[i]? = some o) (hr:Region.ready md l.toArray listed=[i])
  (h:∀ K:Act→World→Prop,Shut (∀ a w,(i ≠ z→S w)→((i ≠ z→S w)→wpAnyZ P md l.toArray Q S z fuel (listed.setIfInBounds i true) a w)→K a w)→if Region.wanted o (yielded l.toArray a.tmps)=true then Oper.wp P o a w K Q else K (a.put o.dst undef) w) :
  wpAnyZ P md l.toArray Q S z (fuel+1) listed a w:=by
 refine ⟨fun h0=>(by rw [hr] at h0;cases h0),fun j hj=>?_⟩
 rw [hr,List.mem_singleton] at hj
 subst hj
 exact wpOp_step (by rw [List.getElem?_toArray];exact hi) (fun K' hK=>h K' (fun a w hS hW=>hK a w ⟨hS,hW hS⟩))
open Go.RowKit Utf All Small Strs
set_option maxRecDepth 100000
theorem equal_len (A B:Option Addr) (c d n:Nat) (xs ys:List Int) (w:World) (hx:Row w A (xs.map (Value.int .i64))) (hy:Row w B (ys.map (Value.int .i64))) (HX:Hid (xs.length=n)) (HY:Hid (ys.length=n)) (hl:n≤10000000000) :
  Calls Tryz.prog 97 #[.slice A n c,.slice B n d] w fun e w'=>e=.returned (.bool (decide (xs=ys)))∧Ext w w':=by
 go_enter Tryz.func97,Tryz.ntmps97
 go_wp2
 go_loopw [13] (fun i wr=>∃ k:Nat,k≤n∧i=.int .i64 k∧Hid (xs.take k=ys.take k)∧∃ q,wr=w.drewN q) (fun i _=>n - (intOf i).toNat)
 case atStart=>exact ⟨0,Nat.zero_le _,rfl,Lib.hid (by simp),0,rfl⟩
 case round =>
  obtain ⟨k,hk,rfl,HK,q,rfl⟩:=hrel
  by_cases hlt:k < n
  ·have kx:k < xs.length:=by rw [HX.out];exact hlt
   have ky:k < ys.length:=by rw [HY.out];exact hlt
   obtain ⟨b,off,rfl,hc⟩:=row_int hx kx
   obtain ⟨b',off',rfl,hc'⟩:=row_int hy ky
   have HT:=Lib.hid (take_ne kx ky)
   have HS:Hid (xs[k]=ys[k]→xs.take (k+1)=ys.take (k+1)):=Lib.hid (fun h=>by rw [List.take_succ_eq_append_getElem kx,List.take_succ_eq_append_getElem ky,HK.out,h])
   have i1:((k:Int) < (n:Int)):=by omega
   generalize xs[k]=x at *
   generalize ys[k]=y at *
   clear kx ky
   cases hxy:(x != y)
   ·have e:x=y:=by simpa using hxy
    have E:=Lib.hid e
    clear e
    go_wp2
    go_quiet (fail)
    go_wp2
    go_roundw
    case rel=>exact ⟨k+1,by omega,by go_num,Lib.hid (HS.out E.out),_,rfl⟩
    case measure=>simp [intOf];omega
   ·have e:x ≠ y:=by simpa using hxy
    have E:=Lib.hid e
    clear e
    go_wp2
    go_quiet (fail)
    go_wp2
    go_ret
    exact ⟨ret_bool (by simp [HT.out E.out]),⟨rfl,rfl,rfl,Nat.le_refl _,fun _ _=>rfl⟩⟩
  ·have e:k=n:=by omega
   subst e
   have HF:Hid (xs=ys):=by have h:=HK.out;rw [List.take_of_length_le (by rw [HX.out];omega),List.take_of_length_le (by rw [HY.out];omega)] at h;exact Lib.hid h
   go_wp2
   go_ret
   exact ⟨ret_bool (by simp [HF.out]),⟨rfl,rfl,rfl,Nat.le_refl _,fun _ _=>rfl⟩⟩
set_option maxRecDepth 512
theorem equal_i (A B:Option Addr) (c d:Nat) (xs ys:List Int) (w:World) (hx:Row w A (xs.map (Value.int .i64))) (hy:Row w B (ys.map (Value.int .i64))) (hl:xs.length≤10000000000) (hl':ys.length≤10000000000) :
  Calls Tryz.prog 97 #[.slice A xs.length c,.slice B ys.length d] w fun e w'=>e=.returned (.bool (decide (xs=ys)))∧Ext w w':=by
 by_cases he:xs.length=ys.length
 ·rw [← he]
  exact equal_len A B c d _ xs ys w hx hy (Lib.hid rfl) (Lib.hid he.symm) hl
 ·have hne:((xs.length:Int) == (ys.length:Int))=false:=by simp;omega
  have hxy:xs ≠ ys:=by rintro rfl;exact he rfl
  have HN:=Lib.hid hxy
  clear he hxy
  go_enter Tryz.func97,Tryz.ntmps97
  go_wp2
  go_ret
  exact ⟨ret_bool (by simp [HN.out]),Below.refl _ _⟩
open Go.RowKit Utf All Small Strs Build EncC Pat Cls Dec Go.Proofs.YtcghgkagpkmpeaaGreatDoor.Sys
def sgnT (r:Rec) (ps:List Prt):List UInt8:=ps.flatMap fun y=>(if y.1 then r.minus else [])++y.2
theorem sgnT_snoc (r:Rec) {ps:List Prt} {k:Nat} (h:k < ps.length):sgnT r (ps.take (k+1))=sgnT r (ps.take k)++((if ps[k].1 then r.minus else [])++ps[k].2):=by
 unfold sgnT
 rw [List.take_succ_eq_append_getElem h,List.flatMap_append];simp
theorem sgnT_good (r:Rec):∀ ps:List Prt,(∀ y ∈ ps,GoodP y)→sgnT r ps=textI (ps.map (prtI r))
 | [],_=>rfl
 | y :: ps,h=>by
  have ih:=sgnT_good r ps fun z hz=>h z (List.mem_cons_of_mem _ hz)
  have e:textI ((y :: ps).map (prtI r))=(prtI r y).2.1++textI (ps.map (prtI r)):=rfl
  rw [e,← ih]
  unfold sgnT
  rw [List.flatMap_cons]
  congr 1
  unfold prtI
  rcases h y List.mem_cons_self with ⟨h1,h2⟩ | ⟨h1,h2⟩
  ·rw [h1,h2];simp
  ·rw [h1];simp
theorem sgnT_ahead (l:Loc) (neg:Bool):sgnT l.r (ahead l neg)=preT l neg:=sgnT_good _ _ (parts_good l _)
theorem sgnT_behind (l:Loc) (neg:Bool):sgnT l.r (behind l neg)=sufT l neg:=sgnT_good _ _ (parts_good l _)
theorem run_take {ks:List Int} {k:Nat} (h:k < ks.length) {st:MS} (hs:mRun MS.ini (ks.take k)=some st):mRun MS.ini (ks.take (k+1))=mStep st ks[k]:=by
 rw [List.take_succ_eq_append_getElem h,mRun_app,hs]
 show (mStep st ks[k]).bind (fun t=>mRun t [])=_
 cases mStep st ks[k] <;> rfl
theorem run_stop {ks:List Int} {k:Nat} (h:k < ks.length) {st:MS} (hs:mRun MS.ini (ks.take k)=some st) (hn:mStep st ks[k]=none):mRun MS.ini ks=none:=by
 have h1:=run_take h hs
 rw [hn] at h1
 rw [← List.take_append_drop (k+1) ks,mRun_app,h1];rfl
theorem run_size {ks:List Int} {k:Nat} {st:MS} (hs:mRun MS.ini (ks.take k)=some st):MOk st∧st.int.length≤k∧st.frac.length≤k∧st.ends.length≤k:=by
 obtain ⟨h1,h2⟩:=mRun_ok _ ini_ok hs
 have h3:mSize MS.ini=0:=rfl
 rw [h3,List.length_take] at h2
 unfold mSize at h2
 exact ⟨h1,by omega,by omega,by omega⟩
def wantTo (l:Loc) (n k:Nat):List Int:=(List.range k).flatMap fun (i:Nat)=>if 0 < i∧Ends.itemEnds ((n:Int) - i) l.p.num.prim l.p.num.sec=true then [(i:Int)] else []
theorem wantTo_all (l:Loc) (n:Nat):wantTo l n n=wantF l n:=rfl
theorem wantTo_succ (l:Loc) (n k:Nat):wantTo l n (k+1)=wantTo l n k++(if 0 < k∧Ends.itemEnds ((n:Int) - k) l.p.num.prim l.p.num.sec=true then [(k:Int)] else []):=by
 unfold wantTo
 rw [List.range_succ,List.flatMap_append];simp
theorem wantTo_len (l:Loc) (n:Nat):∀ k,(wantTo l n k).length≤k
 | 0=>by simp [wantTo]
 | k+1=>by
  have ih:=wantTo_len l n k
  rw [wantTo_succ,List.length_append]
  split <;> simp <;> omega
theorem sgs_len (l:Loc) (s:List UInt8):(sgs l s).length=(splitS s).length:=by unfold sgs;rw [List.length_map]
theorem atOf_snoc (ks:List Int) {k:Nat} (h:k < ks.length):atOf (ks.take (k+1))=atOf (ks.take k)++(if 0≤ks[k]∧ks[k]≤10 then [ks[k]] else []):=by
 rw [List.take_succ_eq_append_getElem h,atOf_app]
 congr 1
 unfold atOf
 rw [List.filter_cons]
 by_cases hq:0≤ks[k]∧ks[k]≤10
 ·rw [if_pos hq,if_pos (by simp;exact hq)];rfl
 ·rw [if_neg hq,if_neg (by simp;omega)];rfl
theorem ngOf_snoc (ks:List Int) {k:Nat} (h:k < ks.length):ngOf (ks.take (k+1))=(ngOf (ks.take k) || decide (ks[k]=12)):=by
 rw [List.take_succ_eq_append_getElem h,ngOf_app]
 congr 1
 unfold ngOf;simp
theorem atOf_len (ks:List Int):(atOf ks).length≤ks.length:=List.length_filter_le _ _
theorem sym16 {t:List UInt8} (h:symL t=true):t.length≤16:=by
 unfold symL wordL at h
 simp only [Bool.and_eq_true,decide_eq_true_eq] at h
 exact h.1.1.1
theorem grp16 {r:Rec} {p:Pt} (h:Both r p):r.group.length≤16:=by
 have hg:=h.may.grp
 split at hg
 ·exact sym16 hg
 ·have e:r.group=[]:=hg
  rw [e];exact Nat.zero_le _
theorem textI_16:∀ (L:List It),(∀ x ∈ L,x.2.1.length≤16)→(textI L).length≤16 * L.length
 | [],_=>by simp [textI]
 | x :: L,h=>by
  have ih:=textI_16 L fun y hy=>h y (List.mem_cons_of_mem _ hy)
  have hx:=h x List.mem_cons_self
  have e:textI (x :: L)=x.2.1++textI L:=rfl
  rw [e,List.length_append,List.length_cons];omega
section
variable {r:Rec} {p:Pt}
theorem mid_le16 (h:Both r p) {d:Dr} {x:It} (hx:x ∈ midF (locOf r p) d):x.2.1.length≤16:=by
 rcases mid_mem hx with ⟨v,a,rfl⟩ | rfl | rfl
 ·have:=dig_le h v
  show (digZ (locOf r p) v).length≤16
  omega
 ·exact grp16 h
 ·exact sym16 h.may.dec
theorem prtT_16 (h:Both r p):∀ (ps:List Prt),(textI (ps.map (prtI r))).length≤totP ps+nSign ps * 16
 | []=>by simp [textI]
 | y :: ps=>by
  have ih:=prtT_16 h ps
  have hm:r.minus.length≤16:=sym16 h.may.min
  have e:textI ((y :: ps).map (prtI r))=(prtI r y).2.1++textI (ps.map (prtI r)):=rfl
  have ht:totP (y :: ps)=y.2.length+totP ps:=by unfold totP;simp
  unfold nSign at ih ⊢
  rw [e,List.length_append,List.countP_cons,ht]
  cases hy:y.1
  ·have e2:(prtI r y).2.1=y.2:=by unfold prtI;rw [hy];rfl
   rw [e2]
   simp only [Bool.false_eq_true,if_false];omega
  ·have e2:(prtI r y).2.1=r.minus:=by unfold prtI;rw [hy];rfl
   rw [e2]
   simp only [if_true];omega
theorem text_small (h:Both r p) (d:Dr):(textI (itemsF (locOf r p) d)).length≤144+16 * (2 * d.int.length+d.frac.length+1):=by
 have ht:=side_tot h d.neg
 have hm:=mid_len (l:=locOf r p) (d:=d)
 have hc:=h.count d.neg
 have hmt:=textI_16 (midF (locOf r p) d) fun x hx=>mid_le16 h hx
 have ha:=prtT_16 h (ahead (locOf r p) d.neg)
 have hb:=prtT_16 h (behind (locOf r p) d.neg)
 have hn:nSign (ahead (locOf r p) d.neg)+nSign (behind (locOf r p) d.neg)≤1:=by rw [hc];split <;> omega
 unfold itemsF
 rw [textI_app,textI_app,List.length_append,List.length_append]
 have e1:(textI ((ahead (locOf r p) d.neg).map (prtI (locOf r p).r))).length=(textI ((ahead (locOf r p) d.neg).map (prtI r))).length:=rfl
 have e2:(textI ((behind (locOf r p) d.neg).map (prtI (locOf r p).r))).length=(textI ((behind (locOf r p) d.neg).map (prtI r))).length:=rfl
 omega
def dr0:Dr:=⟨false,[],false,[]⟩
def rdD (l:Loc) (s:List UInt8):Dr:=(refF l s).getD dr0
def rdE (l:Loc) (s:List UInt8):Int:=if (refF l s).isSome then 0 else 2
theorem ok0:DrOk dr0:=⟨by decide,by decide,fun _=>rfl⟩
theorem rd_ok (h:Both r p) (s:List UInt8):DrOk (rdD (locOf r p) s):=by
 unfold rdD
 cases hr:refF (locOf r p) s with
 | none=>exact ok0
 | some d=>exact ((ref_iff h s d).1 hr).1
theorem rd_text (h:Both r p) {s:List UInt8} (he:rdE (locOf r p) s=0):textI (itemsF (locOf r p) (rdD (locOf r p) s))=s:=by
 unfold rdE at he
 unfold rdD
 cases hr:refF (locOf r p) s with
 | none=>rw [hr] at he;exact absurd he (by decide)
 | some d=>exact ((ref_iff h s d).1 hr).2
theorem rd_of (h:Both r p) {d:Dr} (hd:DrOk d):rdD (locOf r p) (textI (itemsF (locOf r p) d))=d∧rdE (locOf r p) (textI (itemsF (locOf r p) d))=0:=by
 have hr:=(ref_iff h _ d).2 ⟨hd,rfl⟩
 unfold rdD rdE
 rw [hr]
 exact ⟨rfl,rfl⟩
theorem atomsF_ge (d:Dr):d.int.length+d.frac.length≤(atomsF d).length:=by
 unfold atomsF
 rw [List.length_append,List.length_append];omega
theorem rd_len (h:Both r p) (s:List UInt8):(rdD (locOf r p) s).int.length+(rdD (locOf r p) s).frac.length≤(splitS s).length:=by
 unfold rdD
 cases hr:refF (locOf r p) s with
 | none=>exact Nat.zero_le _
 | some d =>
  obtain ⟨h1,h2⟩:=(ref_iff h s d).1 hr
  have ha:=(items_sgs h h1).1
  rw [h2] at ha
  have hl:=atOf_len (sgs (locOf r p) s)
  rw [ha,sgs_len] at hl
  have:=atomsF_ge d
  show d.int.length+d.frac.length≤_
  omega
end
end Go.Proofs.YtcghgkagpkmpeaaGreatDoor.Loc
namespace Go.Proofs.YtcghgkagpkmpeaaGreatDoor
open Go.RowKit
theorem Apart.comm {A B:Option Addr} (h:Apart A B):Apart B A:=fun a b ha hb=>(h b a hb ha).symm
theorem Apart.none (A:Option Addr):Apart A none:=fun a b _ hb=>by cases hb
end Go.Proofs.YtcghgkagpkmpeaaGreatDoor
namespace Go.Proofs.YtcghgkagpkmpeaaGreatDoor.Loc
open Go.RowKit Utf All Small Strs Build EncC Pat Cls Dec Go.Proofs.YtcghgkagpkmpeaaGreatDoor.Sys
def oth (w0 wr w':World) (A A':Option Addr):Prop:=∀ e2 sz2,∀ B:Option Addr,∀ cB nB csB,Acc e2 sz2 w0 wr B cB nB csB→Apart A B→Acc e2 sz2 w0 w' B cB nB csB∧Apart A' B
theorem intV_snoc (xs:List Int) (k:Int):intV (xs++[k])=intV xs++[.int .i64 k]:=by unfold intV;rw [List.map_append];rfl
structure Hd (T:TypeId) (w0 w:World) (db:Nat) (neg:Bool) (st:MS) (E:Option Addr) (cE:Nat) (F:Option Addr) (cF:Nat) (G:Option Addr) (cG:Nat):Prop where
 box:Box w db T [.bool neg,.slice E st.int.length cE,.bool st.sep,.slice F st.frac.length cF]
 ai:Acc 3 1 w0 w E cE st.int.length (intV st.int)
 af:Acc 3 1 w0 w F cF st.frac.length (intV st.frac)
 ae:Acc 3 1 w0 w G cG st.ends.length (intV st.ends)
 le:w0.heap.size≤db
 ne:T ≠ 3
 ef:Apart E F
 eg:Apart E G
 fg:Apart F G
section
variable {T:TypeId} {w0 w w' wr:World} {db:Nat} {neg:Bool} {st:MS} {E F G A':Option Addr} {cE cF cG c':Nat} {k:Int}
theorem Hd.step (h:Hd T w0 w db neg st E cE F cF G cG) (hx:Ext w w'):Hd T w0 w' db neg st E cE F cF G cG:=⟨h.box.ext hx,h.ai.step hx,h.af.step hx,h.ae.step hx,h.le,h.ne,h.ef,h.eg,h.fg⟩
theorem Hd.start (T:TypeId) (hT:T ≠ 3) (w w':World) (hx:Ext w w') (db:Nat) (hle:w.heap.size≤db) (neg:Bool) (hb:Box w' db T [.bool neg,.slice none 0 0,.bool false,.slice none 0 0]):Hd T w w' db neg MS.ini none 0 none 0 none 0 :=
 ⟨hb,Acc.start_of _ _ hx,Acc.start_of _ _ hx,Acc.start_of _ _ hx,hle,hT,Apart.none _,Apart.none _,Apart.none _⟩
theorem Hd.cells (h:Hd T w0 w db neg st E cE F cF G cG):w.cell? ⟨db,0,none⟩=some (.bool neg)∧w.cell? ⟨db,1,none⟩=some (.slice E st.int.length cE)∧w.cell? ⟨db,2,none⟩=some (.bool st.sep)∧w.cell? ⟨db,3,none⟩=some (.slice F st.frac.length cF)∧w.frozen? ⟨db,1,none⟩=false∧w.frozen? ⟨db,2,none⟩=false∧w.frozen? ⟨db,3,none⟩=false :=
 ⟨h.box.cell (j:=0) rfl,h.box.cell (j:=1) rfl,h.box.cell (j:=2) rfl,h.box.cell (j:=3) rfl,h.box.frozen 1,h.box.frozen 2,h.box.frozen 3⟩
theorem Hd.bgrown {n:Nat} {X:Option Addr} {cX:Nat} {cs:List Value} (h:Hd T w0 w db neg st E cE F cF G cG) (hX:Acc 3 1 w0 w X cX n cs) (hg:w.grownBy w' (Value.ownBlock (.slice X n cX))):Box w' db T [.bool neg,.slice E st.int.length cE,.bool st.sep,.slice F st.frac.length cF]:=grown_obj hg h.box (acc_box_ne hX h.box h.ne)
theorem Hd.fr {n:Nat} {X:Option Addr} {cX:Nat} {cs:List Value} (h:Hd T w0 w db neg st E cE F cF G cG) (hX:Acc 3 1 w0 w X cX n cs) (hg:w.grownBy w' (Value.ownBlock (.slice X n cX))) :
  w'.cell? ⟨db,0,none⟩=some (.bool neg)∧w'.cell? ⟨db,1,none⟩=some (.slice E st.int.length cE)∧w'.cell? ⟨db,2,none⟩=some (.bool st.sep)∧w'.cell? ⟨db,3,none⟩=some (.slice F st.frac.length cF)∧w'.frozen? ⟨db,1,none⟩=false∧w'.frozen? ⟨db,2,none⟩=false∧w'.frozen? ⟨db,3,none⟩=false :=
 have hb:=h.bgrown hX hg
 ⟨hb.cell (j:=0) rfl,hb.cell (j:=1) rfl,hb.cell (j:=2) rfl,hb.cell (j:=3) rfl,hb.frozen 1,hb.frozen 2,hb.frozen 3⟩
theorem Hd.pInt (h:Hd T w0 wr db neg st E cE F cF G cG) (hA:Acc 3 1 w0 w' A' c' (st.int.length+1) (intV st.int++[.int .i64 k])) (ho:oth w0 wr w' E A') (hg:wr.grownBy w' (Value.ownBlock (.slice E st.int.length cE))) :
  Hd T w0 (w'.setCell ⟨db,1,none⟩ (.slice A' (st.int.length+1) c')) db neg ⟨st.int++[k],st.frac,st.sep,st.ends⟩ A' c' F cF G cG:=by
 have hb:=h.bgrown h.ai hg
 obtain ⟨hF,aF⟩:=ho _ _ _ _ _ _ h.af h.ef
 obtain ⟨hG,aG⟩:=ho _ _ _ _ _ _ h.ae h.eg
 have hl:(st.int++[k]).length=st.int.length+1:=by simp
 have hsg:=setCell_grown w' db 1 (.slice A' (st.int.length+1) c')
 refine ⟨?_,?_,Acc.turn hF hsg (acc_box_ne hF hb h.ne) h.le,Acc.turn hG hsg (acc_box_ne hG hb h.ne) h.le,h.le,h.ne,aF,aG,h.fg⟩
 ·show Box _ db T [.bool neg,.slice A' (st.int++[k]).length c',.bool st.sep,.slice F st.frac.length cF]
  rw [hl];exact hb.setCell 1 _
 ·show Acc 3 1 w0 _ A' c' (st.int++[k]).length (intV (st.int++[k]))
  rw [hl,intV_snoc]
  exact Acc.turn hA hsg (acc_box_ne hA hb h.ne) h.le
theorem Hd.pFrac (h:Hd T w0 wr db neg st E cE F cF G cG) (hA:Acc 3 1 w0 w' A' c' (st.frac.length+1) (intV st.frac++[.int .i64 k])) (ho:oth w0 wr w' F A') (hg:wr.grownBy w' (Value.ownBlock (.slice F st.frac.length cF))) :
  Hd T w0 (w'.setCell ⟨db,3,none⟩ (.slice A' (st.frac.length+1) c')) db neg ⟨st.int,st.frac++[k],st.sep,st.ends⟩ E cE A' c' G cG:=by
 have hb:=h.bgrown h.af hg
 obtain ⟨hE,aE⟩:=ho _ _ _ _ _ _ h.ai h.ef.comm
 obtain ⟨hG,aG⟩:=ho _ _ _ _ _ _ h.ae h.fg
 have hl:(st.frac++[k]).length=st.frac.length+1:=by simp
 have hsg:=setCell_grown w' db 3 (.slice A' (st.frac.length+1) c')
 refine ⟨?_,Acc.turn hE hsg (acc_box_ne hE hb h.ne) h.le,?_,Acc.turn hG hsg (acc_box_ne hG hb h.ne) h.le,h.le,h.ne,aE.comm,h.eg,aG⟩
 ·show Box _ db T [.bool neg,.slice E st.int.length cE,.bool st.sep,.slice A' (st.frac++[k]).length c']
  rw [hl];exact hb.setCell 3 _
 ·show Acc 3 1 w0 _ A' c' (st.frac++[k]).length (intV (st.frac++[k]))
  rw [hl,intV_snoc]
  exact Acc.turn hA hsg (acc_box_ne hA hb h.ne) h.le
theorem Hd.pSep (h:Hd T w0 w db neg st E cE F cF G cG):Hd T w0 (w.setCell ⟨db,2,none⟩ (.bool true)) db neg ⟨st.int,st.frac,true,st.ends⟩ E cE F cF G cG:=by
 have hsg:=setCell_grown w db 2 (.bool true)
 exact ⟨h.box.setCell 2 _,Acc.turn h.ai hsg (acc_box_ne h.ai h.box h.ne) h.le,Acc.turn h.af hsg (acc_box_ne h.af h.box h.ne) h.le,Acc.turn h.ae hsg (acc_box_ne h.ae h.box h.ne) h.le,h.le,h.ne,h.ef,h.eg,h.fg⟩
theorem Hd.pEnds (h:Hd T w0 wr db neg st E cE F cF G cG) (hA:Acc 3 1 w0 w' A' c' (st.ends.length+1) (intV st.ends++[.int .i64 k])) (ho:oth w0 wr w' G A') (hg:wr.grownBy w' (Value.ownBlock (.slice G st.ends.length cG))) :
  Hd T w0 w' db neg ⟨st.int,st.frac,st.sep,st.ends++[k]⟩ E cE F cF A' c':=by
 have hb:=h.bgrown h.ae hg
 obtain ⟨hE,aE⟩:=ho _ _ _ _ _ _ h.ai h.eg.comm
 obtain ⟨hF,aF⟩:=ho _ _ _ _ _ _ h.af h.fg.comm
 refine ⟨hb,hE,hF,?_,h.le,h.ne,h.ef,aE.comm,aF.comm⟩
 show Acc 3 1 w0 _ A' c' (st.ends++[k]).length (intV (st.ends++[k]))
 rw [List.length_append,List.length_singleton,intV_snoc]
 exact hA
theorem Hd.dr (h:Hd T w0 w db neg st E cE F cF G cG):DrR w E F (drOf neg st)∧Okc E cE∧Okc F cF∧Ext w0 w:=⟨⟨h.ai.row,h.af.row⟩,Acc.okc h.ai,Acc.okc h.af,h.ai.ext⟩
end
structure Hm (T:TypeId) (w0 w:World) (db:Nat) (neg:Bool) (st:MS) (E:Option Addr) (cE:Nat) (F:Option Addr) (cF:Nat) (G:Option Addr) (cG:Nat) (S:Option Addr) (cS n:Nat) (ss:List Value):Prop where
 hd:Hd T w0 w db neg st E cE F cF G cG
 str:Acc 9 1 w0 w S cS n ss
 es:Apart E S
 fs:Apart F S
 gs:Apart G S
 ns:T ≠ 9
section
variable {T:TypeId} {w0 w w' wr:World} {db:Nat} {neg:Bool} {st:MS} {E F G A' S:Option Addr} {cE cF cG c' cS n:Nat} {ss:List Value} {k:Int}
theorem Hm.step (h:Hm T w0 w db neg st E cE F cF G cG S cS n ss) (hx:Ext w w'):Hm T w0 w' db neg st E cE F cF G cG S cS n ss:=⟨h.hd.step hx,h.str.step hx,h.es,h.fs,h.gs,h.ns⟩
theorem Hm.pInt (h:Hm T w0 wr db neg st E cE F cF G cG S cS n ss) (hA:Acc 3 1 w0 w' A' c' (st.int.length+1) (intV st.int++[.int .i64 k])) (ho:oth w0 wr w' E A') (hg:wr.grownBy w' (Value.ownBlock (.slice E st.int.length cE))) :
  Hm T w0 (w'.setCell ⟨db,1,none⟩ (.slice A' (st.int.length+1) c')) db neg ⟨st.int++[k],st.frac,st.sep,st.ends⟩ A' c' F cF G cG S cS n ss:=by
 obtain ⟨hS,aS⟩:=ho _ _ _ _ _ _ h.str h.es
 exact ⟨h.hd.pInt hA ho hg,Acc.turn hS (setCell_grown w' db 1 _) (acc_box_ne hS (h.hd.bgrown h.hd.ai hg) h.ns) h.hd.le,aS,h.fs,h.gs,h.ns⟩
theorem Hm.pFrac (h:Hm T w0 wr db neg st E cE F cF G cG S cS n ss) (hA:Acc 3 1 w0 w' A' c' (st.frac.length+1) (intV st.frac++[.int .i64 k])) (ho:oth w0 wr w' F A') (hg:wr.grownBy w' (Value.ownBlock (.slice F st.frac.length cF))) :
  Hm T w0 (w'.setCell ⟨db,3,none⟩ (.slice A' (st.frac.length+1) c')) db neg ⟨st.int,st.frac++[k],st.sep,st.ends⟩ E cE A' c' G cG S cS n ss:=by
 obtain ⟨hS,aS⟩:=ho _ _ _ _ _ _ h.str h.fs
 exact ⟨h.hd.pFrac hA ho hg,Acc.turn hS (setCell_grown w' db 3 _) (acc_box_ne hS (h.hd.bgrown h.hd.af hg) h.ns) h.hd.le,h.es,aS,h.gs,h.ns⟩
theorem Hm.pSep (h:Hm T w0 w db neg st E cE F cF G cG S cS n ss):Hm T w0 (w.setCell ⟨db,2,none⟩ (.bool true)) db neg ⟨st.int,st.frac,true,st.ends⟩ E cE F cF G cG S cS n ss :=
 ⟨h.hd.pSep,Acc.turn h.str (setCell_grown w db 2 _) (acc_box_ne h.str h.hd.box h.ns) h.hd.le,h.es,h.fs,h.gs,h.ns⟩
theorem Hm.pEnds (h:Hm T w0 wr db neg st E cE F cF G cG S cS n ss) (hA:Acc 3 1 w0 w' A' c' (st.ends.length+1) (intV st.ends++[.int .i64 k])) (ho:oth w0 wr w' G A') (hg:wr.grownBy w' (Value.ownBlock (.slice G st.ends.length cG))) :
  Hm T w0 w' db neg ⟨st.int,st.frac,st.sep,st.ends++[k]⟩ E cE F cF A' c' S cS n ss:=by
 obtain ⟨hS,aS⟩:=ho _ _ _ _ _ _ h.str h.gs
 exact ⟨h.hd.pEnds hA ho hg,hS,h.es,h.fs,aS,h.ns⟩
end
theorem results_ct {fn:Func} {p q:Tmp} {ty:TypeId} (h:fn.results=#[.cell q ty,.tmp p]) (tmps:Array Value) (w:World) (g:Nat) (cs:List Value) {fs:Array _} {T:TypeId}
  (h2:tmps.getD q undef=.pointer (some ⟨g,0,none⟩)) (hb:Box w g T cs) (hu:Tryz.prog.underlying ty=some (.struct fs)) (hi:(Tryz.prog.info? ty).map (·.size)=some cs.length) :
  (results fn tmps).run Tryz.prog w=.ok (.tuple #[.agg cs.toArray,tmps.getD p undef]) w:=by
 have h2':tmps[q]?.getD undef=.pointer (some ⟨g,0,none⟩):=by simpa using h2
 have e1:=run_loadVar_row (P:=Tryz.prog) w g T ty cs.toArray (0,0) _ hb hu rfl (by rw [hi];simp)
 simp [results,h,h2',asAddr,e1]
theorem wpList_load_mid_g {ops:Array Oper} {rest:List Oper} {op:Oper} {a:Act} {w:World} {Q:Exit→Act→World→Prop} (hw:Region.wanted op (yielded ops a.tmps)=true) (ty:TypeId) (x:Operand) (ho:op.op=.load ty x)
  (b o:Nat) (hx:a.eval x=.pointer (some ⟨b,o,none⟩)) (cs:List Value) (d:TypeDesc) (hc:w.rangeAt b o cs)
  (hu:Tryz.prog.underlying ty=some d) (hd:d.isRow=true) (hi:(Tryz.prog.info? ty).map (·.size)=some cs.length)
  (h:wpList Tryz.prog ops Q rest (a.put op.dst (.agg cs.toArray)) w):wpList Tryz.prog ops Q (op :: rest) a w :=
 wpList_step fun K hK=>by rw [if_pos hw];exact wp_load_mid ty x ho b o hx cs d hc hu hd hi (hK _ _ h)
def ofSt (ts:List Int):MS:=⟨ts.takeWhile (fun a=>a != 10),(ts.dropWhile (fun a=>a != 10)).filter (fun a=>a != 10),decide (10 ∈ ts),[]⟩
theorem ofF_eq (neg:Bool) (ts:List Int):ofF neg ts=if 1 < ts.count 10 then none else some (drOf neg (ofSt ts)):=rfl
theorem takeW_snoc (a:Int):∀ {ts:List Int},10 ∈ ts→(ts++[a]).takeWhile (fun a=>a != 10)=ts.takeWhile (fun a=>a != 10)∧(ts++[a]).dropWhile (fun a=>a != 10)=ts.dropWhile (fun a=>a != 10)++[a]
 | [],hm=>by cases hm
 | x :: ts,hm=>by
  rw [List.cons_append,List.takeWhile_cons,List.dropWhile_cons,List.takeWhile_cons,List.dropWhile_cons]
  by_cases hx:x=10
  ·subst hx;exact ⟨rfl,rfl⟩
  ·have hx2:(x != 10)=true:=by simpa using hx
   rw [hx2]
   simp only [if_true]
   obtain ⟨i1,i2⟩:=takeW_snoc a (ts:=ts) (by rcases List.mem_cons.1 hm with h | h;exact absurd h.symm hx;exact h)
   exact ⟨by rw [i1],i2⟩
theorem ofSt_snoc (ts:List Int) (a:Int):ofSt (ts++[a])=if a=10 then ⟨(ofSt ts).int,(ofSt ts).frac,true,[]⟩ else if (ofSt ts).sep then ⟨(ofSt ts).int,(ofSt ts).frac++[a],true,[]⟩ else ⟨(ofSt ts).int++[a],(ofSt ts).frac,false,[]⟩:=by
 by_cases hm:10 ∈ ts
 ·have h1:=takeW_snoc a hm
  have hs:(ofSt ts).sep=true:=by simp [ofSt,hm]
  rw [hs]
  unfold ofSt
  rw [h1.1,h1.2,List.filter_append]
  by_cases ha:a=10
  ·subst ha;simp
  ·rw [if_neg ha,if_pos rfl]
   have ha2:(a != 10)=true:=by simpa using ha
   simp [hm,ha2]
 ·have hne:∀ x ∈ ts,(x != 10)=true:=fun x hx=>by
   simp only [bne_iff_ne,ne_eq]
   rintro rfl;exact hm hx
  have hs:(ofSt ts).sep=false:=by simp [ofSt,hm]
  rw [hs]
  unfold ofSt
  rw [(takeW_all hne).1,(takeW_all hne).2]
  by_cases ha:a=10
  ·subst ha
   rw [if_pos rfl,(takeW_app hne).1,(takeW_app hne).2]
   simp
  ·have ha2:∀ x ∈ ts++[a],(x != 10)=true:=fun x hx=>by
    rcases List.mem_append.1 hx with hx | hx
    ·exact hne x hx
    ·rw [List.mem_singleton] at hx;subst hx;simpa using ha
   have hm2:10 ∉ ts++[a]:=not10 ha2
   rw [if_neg ha,(takeW_all ha2).1,(takeW_all ha2).2]
   simp [hm2]
theorem ofSt_len (ts:List Int):(ofSt ts).int.length≤ts.length∧(ofSt ts).frac.length≤ts.length:=by
 unfold ofSt
 refine ⟨(List.takeWhile_sublist _).length_le,?_⟩
 exact Nat.le_trans (List.length_filter_le _ _) ((List.dropWhile_sublist _).length_le)
def ofD (neg:Bool) (ts:List Int):Dr:=if 1 < ts.count 10 then dr0 else drOf neg (ofSt ts)
def ofE (ts:List Int):Int:=if 1 < ts.count 10 then 6 else 0
theorem ofSt_next (ts:List Int) {k:Nat} (hk:k < ts.length) :
  (ts[k]=10→ofSt (ts.take (k+1))=⟨(ofSt (ts.take k)).int,(ofSt (ts.take k)).frac,true,(ofSt (ts.take k)).ends⟩) ∧
  (ts[k] ≠ 10→(ofSt (ts.take k)).sep=true→ofSt (ts.take (k+1))=⟨(ofSt (ts.take k)).int,(ofSt (ts.take k)).frac++[ts[k]],(ofSt (ts.take k)).sep,(ofSt (ts.take k)).ends⟩) ∧
  (ts[k] ≠ 10→(ofSt (ts.take k)).sep=false→ofSt (ts.take (k+1))=⟨(ofSt (ts.take k)).int++[ts[k]],(ofSt (ts.take k)).frac,(ofSt (ts.take k)).sep,(ofSt (ts.take k)).ends⟩):=by
 have e:ts.take (k+1)=ts.take k++[ts[k]]:=List.take_succ_eq_append_getElem hk
 have h:=ofSt_snoc (ts.take k) ts[k]
 rw [e]
 refine ⟨fun h1=>?_,fun h1 h2=>?_,fun h1 h2=>?_⟩
 ·rw [h,if_pos h1];rfl
 ·rw [h,if_neg h1,if_pos h2,h2];rfl
 ·rw [h,if_neg h1,h2]
  simp only [Bool.false_eq_true,if_false]
  rfl
theorem count_next (ts:List Int) {k:Nat} (hk:k < ts.length):(ts.take (k+1)).count 10=(ts.take k).count 10+(if ts[k]=10 then 1 else 0):=by
 rw [List.take_succ_eq_append_getElem hk,List.count_append,List.count_singleton]
 by_cases h:ts[k]=10 <;> simp [h]
set_option maxRecDepth 100000
theorem ref14_of (neg:Bool) (A:Option Addr) (n c:Nat) (ts:List Int) (w:World) (hr:Row w A (ts.map (Value.int .i64))) (hn:ts.length=n) (hl:n≤5000) (hb:∀ a ∈ ts,0≤a∧a≤10) :
  Calls Tryz.prog 54 #[.bool neg,.slice A n c] w fun e w'=>∃ X Y cx cy,e=.returned (.tuple #[.agg (drV X cx Y cy (ofD neg ts)).toArray,.int .i64 (ofE ts)])∧DrR w' X Y (ofD neg ts)∧Okc X cx∧Okc Y cy∧Ext w w':=by
 have HR:=Lib.hid hr
 have HN:=Lib.hid hn
 have HBD:=Lib.hid hb
 have HNX:Hid (∀ k (hk:k < ts.length),_):=Lib.hid fun k hk=>ofSt_next ts hk
 have HCT:Hid (∀ k (hk:k < ts.length),(ts.take (k+1)).count 10=(ts.take k).count 10+(if ts[k]=10 then 1 else 0)):=Lib.hid fun k hk=>count_next ts hk
 have HOS:Hid (∀ k,(ofSt (ts.take k)).int.length≤k∧(ofSt (ts.take k)).frac.length≤k):=Lib.hid fun k=>by
  have h1:=ofSt_len (ts.take k)
  rw [List.length_take] at h1
  omega
 have HOD:Hid (ofD neg ts=if 1 < ts.count 10 then dr0 else drOf neg (ofSt ts)):=Lib.hid rfl
 have HOE:Hid (ofE ts=if 1 < ts.count 10 then 6 else 0):=Lib.hid rfl
 have HTK:Hid (ts.take n=ts):=Lib.hid (by rw [← hn,List.take_length])
 have b1:=Box.new w 43 zeroD
 have hx1:Ext w (w.alloc (.cells zeroD.toArray 43)):=Ext.alloc_ (Ext.refl w) _
 have HB1:=Lib.hid b1
 have HX1:=Lib.hid hx1
 clear hr hn hb b1 hx1
 generalize ofD neg ts=od at *
 generalize ofE ts=oe at *
 go_enter Tryz.func54,Tryz.ntmps54
 go_upto_region 1 with fail
 change Code.wp _ _ _ _ (w.alloc (.cells zeroD.toArray 43))
 generalize w.alloc (.cells zeroD.toArray 43)=w1 at *
 go_upto_region 2 with (refine wpList_store_fresh rfl 43 (.tmp 6) (.tmp 10) rfl ([.bool neg,.slice none 0 0,.bool false,.slice none 0 0]:List Value).toArray 43 _ rfl rfl infoD14 rfl (by simp [Value.oneCell']) ?_)
 have hb2:=Box.new w1 43 [.bool neg,.slice none 0 0,.bool false,.slice none 0 0]
 have hx2:Ext w1 (w1.alloc (.cells ([.bool neg,.slice none 0 0,.bool false,.slice none 0 0]:List Value).toArray 43)):=Ext.alloc_ (Ext.refl w1) _
 have hd2:Hd 43 w1 (w1.alloc (.cells ([.bool neg,.slice none 0 0,.bool false,.slice none 0 0]:List Value).toArray 43)) w1.heap.size neg MS.ini none 0 none 0 none 0:=Hd.start 43 (by decide) w1 _ hx2 w1.heap.size (Nat.le_refl _) neg hb2
 have HD2:=Lib.hid hd2
 clear hb2 hx2 hd2
 generalize w1.alloc (.cells ([.bool neg,.slice none 0 0,.bool false,.slice none 0 0]:List Value).toArray 43)=w2 at *
 generalize hdb:w1.heap.size=db at *
 have HDB:=Lib.hid hdb
 clear hdb
 go_wp2
 go_loopw [7,8] (fun pt i wr=>∃ (k m:Nat) (st:MS) (E:Option Addr) (cE:Nat) (F:Option Addr) (cF:Nat),k≤n∧m≤k∧i=.int .i64 k∧pt=.int .i64 m∧Hid ((ts.take k).count 10=m)∧Hid (ofSt (ts.take k)=st)∧Hd 43 w1 wr db neg st E cE F cF none 0) (fun _ i _=>n - (intOf i).toNat)
 case atStart=>exact ⟨0,0,MS.ini,none,0,none,0,Nat.zero_le _,Nat.le_refl _,rfl,rfl,Lib.hid rfl,Lib.hid rfl,HD2.out⟩
 case round =>
  obtain ⟨k,m,st,E,cE,F,cF,hk,hmk,rfl,rfl,HM,HST,hhd⟩:=hrel
  by_cases hlt:k < n
  ·have hkl:k < ts.length:=by have:=HN.out;omega
   obtain ⟨bx,ox,hA0,hc⟩:=row_int HR.out hkl
   have hbd:=HBD.out _ (List.getElem_mem hkl)
   have hnx:=HNX.out k hkl
   have hct:=HCT.out k hkl
   have hos:=HOS.out k
   rw [HST.out] at hnx hos
   rw [HM.out] at hct
   have HHD:=Lib.hid hhd
   have hcr:=Ext.cell_ (HX1.out.trans hhd.ai.ext) hc
   obtain ⟨q0,q1,q2,q3,g1,g2,g3⟩:=hhd.cells
   have HC:=Lib.hid hc
   subst hA0
   clear hhd hc
   generalize ts[k]=x at *
   have HNXX:=Lib.hid hnx
   have HCTT:=Lib.hid hct
   have i1:(k:Int) < (n:Int):=by omega
   have i2:(0:Int)≤(k:Int):=by omega
   obtain ⟨hx0,hx10⟩:=hbd
   have j1:¬ (x < 0):=by omega
   have j2:¬ (10 < x):=by omega
   clear hnx hct
   by_cases h10:x=10
   ·have HS2:=Lib.hid (HNXX.out.1 h10)
    have HC2:Hid ((ts.take (k+1)).count 10=m+1):=Lib.hid (by rw [HCTT.out,if_pos h10])
    subst h10
    clear HNXX HCTT
    go_wp2
    go_roundw
    case rel=>exact ⟨k+1,m+1,_,E,cE,F,cF,by omega,by omega,by go_num,by go_num,HC2,HS2,HHD.out.pSep⟩
    case measure=>simp [intOf];omega
   ·have b10:(x == 10)=false:=by simpa using h10
    have HC2:Hid ((ts.take (k+1)).count 10=m):=Lib.hid (by rw [HCTT.out,if_neg h10];rfl)
    have hHD:=HHD.out.step (Ext.drew_ (Ext.refl wr))
    have HHW:=Lib.hid hHD
    clear hHD HCTT
    cases hsp:st.sep
    ·have HS2:=Lib.hid (HNXX.out.2.2 h10 hsp)
     rw [hsp] at q2
     clear HNXX hsp h10
     go_upto_region 13 with fail
     refine wp_region_noPanic ?_
     refine wp_region_Z (S:=fun W=>Ext w1 W∧W.cell? ⟨db,1,none⟩=some (.slice E st.int.length cE)∧W.frozen? ⟨db,1,none⟩=false∧W.cell? ⟨bx,ox+k,none⟩=some (.int .i64 x)) 9 (by kernel_rfl) ?_ (fun hHeld=>?_)
     ·exact ⟨HHW.out.ai.ext,q1,g1,hcr⟩
     refine takeZ_ 0 (v:=?_) rfl (by kernel_rfl) (by kernel_rfl) (by kernel_rfl) (by kernel_rfl) (by kernel_rfl) (by decide) (fun _ _ _ h=>h) hHeld (by rfl) ?_ ?_
     rotate_left 1
     ·(intro w hSw;(try dsimp only at hSw);go_simp;all_goals with_reducible rfl)
     try simp only [Act.put,sA,sZ,sS]
     refine takeZ_ 1 (v:=?_) rfl (by kernel_rfl) (by kernel_rfl) (by kernel_rfl) (by kernel_rfl) (by kernel_rfl) (by decide) (fun _ _ _ h=>h) hHeld (by rfl) ?_ ?_
     rotate_left 1
     ·(intro w hSw;(try dsimp only at hSw);go_simp;all_goals with_reducible rfl)
     try simp only [Act.put,sA,sZ,sS]
     refine takeZ_ 2 (v:=?_) rfl (by kernel_rfl) (by kernel_rfl) (by kernel_rfl) (by kernel_rfl) (by kernel_rfl) (by decide) (fun _ _ _ h=>h) hHeld (by rfl) ?_ ?_
     rotate_left 1
     ·(intro w hSw;(try dsimp only at hSw);go_simp;all_goals with_reducible rfl)
     try simp only [Act.put,sA,sZ,sS]
     refine takeZ_ 3 (v:=?_) rfl (by kernel_rfl) (by kernel_rfl) (by kernel_rfl) (by kernel_rfl) (by kernel_rfl) (by decide) (fun _ _ _ h=>h) hHeld (by rfl) ?_ ?_
     rotate_left 1
     ·(intro w hSw;(try dsimp only at hSw);go_simp;all_goals with_reducible rfl)
     try simp only [Act.put,sA,sZ,sS]
     refine takeZ_ 4 (v:=?_) rfl (by kernel_rfl) (by kernel_rfl) (by kernel_rfl) (by kernel_rfl) (by kernel_rfl) (by decide) (fun _ _ _ h=>h) hHeld (by rfl) ?_ ?_
     rotate_left 1
     ·(intro w hSw;(try dsimp only at hSw);go_simp;all_goals with_reducible rfl)
     try simp only [Act.put,sA,sZ,sS]
     refine takeZ_ 5 (v:=?_) rfl (by kernel_rfl) (by kernel_rfl) (by kernel_rfl) (by kernel_rfl) (by kernel_rfl) (by decide) (fun _ _ _ h=>h) hHeld (by rfl) ?_ ?_
     rotate_left 1
     ·(intro w hSw;(try dsimp only at hSw);go_simp;all_goals with_reducible rfl)
     try simp only [Act.put,sA,sZ,sS]
     refine onlyZ_ 6 rfl (by kernel_rfl) (fun K1 hK1=>?_)
     go_simp
     have hx8:Ext wr.drew (wr.drew.alloc (.cells ([.int .i64 x]:List Value).toArray 3)):=Ext.alloc_ (Ext.refl _) _
     refine hK1.out _ _ (fun _=>⟨hHeld.1.trans hx8,(HHW.out.step hx8).cells.2.1,(HHW.out.step hx8).cells.2.2.2.2.1,Ext.cell_ hx8 hHeld.2.2.2⟩) (fun hHeld=>?_)
     replace hHeld:=hHeld (by decide)
     clear hK1
     try simp only [Act.put,sA,sZ,sS]
     refine onlyZ_ 7 rfl (by kernel_rfl) (fun K1 hK1=>?_)
     refine step_app ei_int rfl (.tmp 50) (.tmp 55) rfl w1 wr.drew E cE st.int.length _ (by simp [Act.eval,Act.put]) HHW.out.ai [.int .i64 x] 1 1 (by simp [Act.eval,Act.put]) rfl (by simp [Value.oneCell']) (by omega) (by unfold maxLen;omega) ?_
     intro A9 c9 w9 hA9 hB9 hg9
     refine hK1.out _ _ (fun _=>⟨hA9.ext,(HHW.out.fr HHW.out.ai hg9).2.1,(HHW.out.fr HHW.out.ai hg9).2.2.2.2.1,Ext.cell_ (HX1.out.trans hA9.ext) HC.out⟩) (fun hHeld=>?_)
     replace hHeld:=hHeld (by decide)
     clear hK1
     try simp only [Act.put,sA,sZ,sS]
     refine takeZ_ 8 (v:=?_) rfl (by kernel_rfl) (by kernel_rfl) (by kernel_rfl) (by kernel_rfl) (by kernel_rfl) (by decide) (fun _ _ _ h=>h) hHeld (by rfl) ?_ ?_
     rotate_left 1
     ·(intro w hSw;(try dsimp only at hSw);go_simp;all_goals with_reducible rfl)
     try simp only [Act.put,sA,sZ,sS]
     refine onlyZ_ 9 rfl (by kernel_rfl) (fun K1 hK1=>?_)
     go_simp
     refine hK1.out _ _ (fun h=>absurd rfl h) (fun hHeld=>?_)
     clear hK1
     try simp only [Act.put,sA,sZ,sS]
     refine wpAnyZ_done (by kernel_rfl) ?_ _
     refine NoPanic.normal ?_
     go_wp2
     go_roundw
     case rel=>exact ⟨k+1,m,_,A9,c9,F,cF,by omega,by omega,by go_num,rfl,HC2,HS2,HHW.out.pInt hA9 hB9 hg9⟩
     case measure=>simp [intOf];omega
    ·have HS2:=Lib.hid (HNXX.out.2.1 h10 hsp)
     rw [hsp] at q2
     clear HNXX hsp h10
     go_upto_region 12 with fail
     refine wp_region_noPanic ?_
     refine wp_region_Z (S:=fun W=>Ext w1 W∧W.cell? ⟨db,3,none⟩=some (.slice F st.frac.length cF)∧W.frozen? ⟨db,3,none⟩=false∧W.cell? ⟨bx,ox+k,none⟩=some (.int .i64 x)) 9 (by kernel_rfl) ?_ (fun hHeld=>?_)
     ·exact ⟨HHW.out.ai.ext,q3,g3,hcr⟩
     refine takeZ_ 0 (v:=?_) rfl (by kernel_rfl) (by kernel_rfl) (by kernel_rfl) (by kernel_rfl) (by kernel_rfl) (by decide) (fun _ _ _ h=>h) hHeld (by rfl) ?_ ?_
     rotate_left 1
     ·(intro w hSw;(try dsimp only at hSw);go_simp;all_goals with_reducible rfl)
     try simp only [Act.put,sA,sZ,sS]
     refine takeZ_ 1 (v:=?_) rfl (by kernel_rfl) (by kernel_rfl) (by kernel_rfl) (by kernel_rfl) (by kernel_rfl) (by decide) (fun _ _ _ h=>h) hHeld (by rfl) ?_ ?_
     rotate_left 1
     ·(intro w hSw;(try dsimp only at hSw);go_simp;all_goals with_reducible rfl)
     try simp only [Act.put,sA,sZ,sS]
     refine takeZ_ 2 (v:=?_) rfl (by kernel_rfl) (by kernel_rfl) (by kernel_rfl) (by kernel_rfl) (by kernel_rfl) (by decide) (fun _ _ _ h=>h) hHeld (by rfl) ?_ ?_
     rotate_left 1
     ·(intro w hSw;(try dsimp only at hSw);go_simp;all_goals with_reducible rfl)
     try simp only [Act.put,sA,sZ,sS]
     refine takeZ_ 3 (v:=?_) rfl (by kernel_rfl) (by kernel_rfl) (by kernel_rfl) (by kernel_rfl) (by kernel_rfl) (by decide) (fun _ _ _ h=>h) hHeld (by rfl) ?_ ?_
     rotate_left 1
     ·(intro w hSw;(try dsimp only at hSw);go_simp;all_goals with_reducible rfl)
     try simp only [Act.put,sA,sZ,sS]
     refine takeZ_ 4 (v:=?_) rfl (by kernel_rfl) (by kernel_rfl) (by kernel_rfl) (by kernel_rfl) (by kernel_rfl) (by decide) (fun _ _ _ h=>h) hHeld (by rfl) ?_ ?_
     rotate_left 1
     ·(intro w hSw;(try dsimp only at hSw);go_simp;all_goals with_reducible rfl)
     try simp only [Act.put,sA,sZ,sS]
     refine takeZ_ 5 (v:=?_) rfl (by kernel_rfl) (by kernel_rfl) (by kernel_rfl) (by kernel_rfl) (by kernel_rfl) (by decide) (fun _ _ _ h=>h) hHeld (by rfl) ?_ ?_
     rotate_left 1
     ·(intro w hSw;(try dsimp only at hSw);go_simp;all_goals with_reducible rfl)
     try simp only [Act.put,sA,sZ,sS]
     refine onlyZ_ 6 rfl (by kernel_rfl) (fun K1 hK1=>?_)
     go_simp
     have hx8:Ext wr.drew (wr.drew.alloc (.cells ([.int .i64 x]:List Value).toArray 3)):=Ext.alloc_ (Ext.refl _) _
     refine hK1.out _ _ (fun _=>⟨hHeld.1.trans hx8,(HHW.out.step hx8).cells.2.2.2.1,(HHW.out.step hx8).cells.2.2.2.2.2.2,Ext.cell_ hx8 hHeld.2.2.2⟩) (fun hHeld=>?_)
     replace hHeld:=hHeld (by decide)
     clear hK1
     try simp only [Act.put,sA,sZ,sS]
     refine onlyZ_ 7 rfl (by kernel_rfl) (fun K1 hK1=>?_)
     refine step_app ei_int rfl (.tmp 41) (.tmp 46) rfl w1 wr.drew F cF st.frac.length _ (by simp [Act.eval,Act.put]) HHW.out.af [.int .i64 x] 1 1 (by simp [Act.eval,Act.put]) rfl (by simp [Value.oneCell']) (by omega) (by unfold maxLen;omega) ?_
     intro A9 c9 w9 hA9 hB9 hg9
     refine hK1.out _ _ (fun _=>⟨hA9.ext,(HHW.out.fr HHW.out.af hg9).2.2.2.1,(HHW.out.fr HHW.out.af hg9).2.2.2.2.2.2,Ext.cell_ (HX1.out.trans hA9.ext) HC.out⟩) (fun hHeld=>?_)
     replace hHeld:=hHeld (by decide)
     clear hK1
     try simp only [Act.put,sA,sZ,sS]
     refine takeZ_ 8 (v:=?_) rfl (by kernel_rfl) (by kernel_rfl) (by kernel_rfl) (by kernel_rfl) (by kernel_rfl) (by decide) (fun _ _ _ h=>h) hHeld (by rfl) ?_ ?_
     rotate_left 1
     ·(intro w hSw;(try dsimp only at hSw);go_simp;all_goals with_reducible rfl)
     try simp only [Act.put,sA,sZ,sS]
     refine onlyZ_ 9 rfl (by kernel_rfl) (fun K1 hK1=>?_)
     go_simp
     refine hK1.out _ _ (fun h=>absurd rfl h) (fun hHeld=>?_)
     clear hK1
     try simp only [Act.put,sA,sZ,sS]
     refine wpAnyZ_done (by kernel_rfl) ?_ _
     refine NoPanic.normal ?_
     go_wp2
     go_roundw
     case rel=>exact ⟨k+1,m,_,E,cE,A9,c9,by omega,by omega,by go_num,rfl,HC2,HS2,HHW.out.pFrac hA9 hB9 hg9⟩
     case measure=>simp [intOf];omega
  ·have e:k=n:=by omega
   subst e
   have i1:¬ ((k:Int) < (k:Int)):=by omega
   have HM2:Hid (ts.count 10=m):=Lib.hid (by have:=HM.out;rwa [HTK.out] at this)
   have HST2:Hid (ofSt ts=st):=Lib.hid (by have:=HST.out;rwa [HTK.out] at this)
   have hc9:=HB1.out.ext hhd.ai.ext
   have HC9:=Lib.hid hc9
   have HHD:=Lib.hid hhd
   have HX9:=Lib.hid (HX1.out.trans hhd.ai.ext)
   have HBX:=Lib.hid hhd.box.range
   clear hhd hc9
   by_cases hm:1 < m
   ·have HD:Hid (od=dr0):=Lib.hid (by rw [HOD.out,HM2.out,if_pos hm])
    have HE:Hid (oe=6):=Lib.hid (by rw [HOE.out,HM2.out,if_pos hm])
    have j3:(1:Int) < (m:Int):=by omega
    clear hm
    go_wp2_with (refine wpList_store_row rfl 43 (.tmp 4) (.tmp 60) rfl w.heap.size zeroD.toArray rfl rfl _ _ HC9.out infoD14 rfl (by simp [Value.oneCell',zeroD]) ?_)
    have hb10:=HC9.out.set zeroD.toArray
    refine bodyPost_ret (v:=.tuple #[.agg zeroD.toArray,.int .i64 6]) (results_ct (p:=5) (q:=4) rfl _ _ w.heap.size _ rfl hb10 Tryz.underlying43 infoD14) rfl ⟨none,none,0,0,by rw [HD.out,HE.out];rfl,?_,⟨Nat.zero_le _,fun _=>rfl⟩,⟨Nat.zero_le _,fun _=>rfl⟩,Ext.setRow HX9.out (Nat.le_refl _) _⟩
    rw [HD.out]
    exact ⟨.inl rfl,.inl rfl⟩
   ·have HD:Hid (od=drOf neg st):=Lib.hid (by rw [HOD.out,HM2.out,HST2.out,if_neg hm])
    have HE:Hid (oe=0):=Lib.hid (by rw [HOE.out,HM2.out,if_neg hm])
    have j3:¬ ((1:Int) < (m:Int)):=by omega
    clear hm
    go_wp2_with (first
     | (refine wpList_load_mid rfl 43 (.tmp 6) rfl db 0 rfl [.bool neg,.slice E st.int.length cE,.bool st.sep,.slice F st.frac.length cF] _ HBX.out Tryz.underlying43 rfl infoD14 ?_)
     | (refine wpList_store_row rfl 43 (.tmp 4) (.tmp 61) rfl w.heap.size ([.bool neg,.slice E st.int.length cE,.bool st.sep,.slice F st.frac.length cF]:List Value).toArray rfl rfl _ _ HC9.out infoD14 rfl (by simp [Value.oneCell']) ?_))
    have hb10:=HC9.out.set ([.bool neg,.slice E st.int.length cE,.bool st.sep,.slice F st.frac.length cF]:List Value).toArray
    refine bodyPost_ret (v:=.tuple #[.agg ([.bool neg,.slice E st.int.length cE,.bool st.sep,.slice F st.frac.length cF]:List Value).toArray,.int .i64 0]) (results_ct (p:=5) (q:=4) rfl _ _ w.heap.size _ rfl hb10 Tryz.underlying43 infoD14) rfl ⟨E,F,cE,cF,by rw [HD.out,HE.out];rfl,?_,HHD.out.dr.2.1,HHD.out.dr.2.2.1,Ext.setRow HX9.out (Nat.le_refl _) _⟩
    rw [HD.out]
    exact ⟨ints_setRow HC9.out HHD.out.dr.1.int (by simp [isInt,zeroD]) _,ints_setRow HC9.out HHD.out.dr.1.frac (by simp [isInt,zeroD]) _⟩
set_option maxRecDepth 512
instance decDr:DecidableEq Dr:=fun a b=>decidable_of_iff (a.neg=b.neg∧a.int=b.int∧a.sep=b.sep∧a.frac=b.frac) (by
 obtain ⟨a1,a2,a3,a4⟩:=a
 obtain ⟨b1,b2,b3,b4⟩:=b
 simp only [Dr.mk.injEq])
theorem dr_eq (d e:Dr):(decide (d.int=e.int) && decide (d.frac=e.frac) && (d.neg == e.neg) && (d.sep == e.sep))=decide (d=e):=by
 obtain ⟨a,b,c,f⟩:=d
 obtain ⟨a',b',c',f'⟩:=e
 rw [Bool.eq_iff_iff]
 simp only [Bool.and_eq_true,decide_eq_true_eq,beq_iff_eq,Dr.mk.injEq]
 constructor
 ·rintro ⟨⟨⟨h1,h2⟩,h3⟩,h4⟩;exact ⟨h3,h1,h4,h2⟩
 ·rintro ⟨h3,h1,h4,h2⟩;exact ⟨⟨⟨h1,h2⟩,h3⟩,h4⟩
set_option maxRecDepth 100000
theorem ref14_same (X Y X' Y':Option Addr) (cx cy cx' cy':Nat) (d e0:Dr) (w:World) (hd:DrR w X Y d) (he:DrR w X' Y' e0) (h1:d.int.length≤maxLen) (h2:d.frac.length≤maxLen) (h3:e0.int.length≤maxLen) (h4:e0.frac.length≤maxLen) :
  Calls Tryz.prog 22 #[.agg (drV X cx Y cy d).toArray,.agg (drV X' cx' Y' cy' e0).toArray] w fun e w'=>e=.returned (.bool (decide (d=e0)))∧Ext w w':=by
 have HE:=Lib.hid (dr_eq d e0)
 generalize decide (d=e0)=res at *
 have b1:=(Box.new w 43 (drV X cx Y cy d)).alloc (.cells (drV X' cx' Y' cy' e0).toArray 43)
 have c1:=Box.new (w.alloc (.cells (drV X cx Y cy d).toArray 43)) 43 (drV X' cx' Y' cy' e0)
 have hx1:Ext w ((w.alloc (.cells (drV X cx Y cy d).toArray 43)).alloc (.cells (drV X' cx' Y' cy' e0).toArray 43)):=Ext.alloc_ (Ext.alloc_ (Ext.refl w) _) _
 have hs1:(w.alloc (.cells (drV X cx Y cy d).toArray 43)).heap.size=w.heap.size+1:=by simp
 rw [hs1] at c1
 clear hs1
 obtain ⟨na,xs,sa,ys⟩:=d
 obtain ⟨nb,us,sb,vs⟩:=e0
 simp only at HE h1 h2 h3 h4
 have HB:=Lib.hid b1
 have HC:=Lib.hid c1
 have HX:=Lib.hid hx1
 have HD1:=Lib.hid (hd.ext hx1)
 have HD2:=Lib.hid (he.ext hx1)
 have p1:=b1.cell (j:=1) (v:=.slice X xs.length cx) rfl
 have q1:=c1.cell (j:=1) (v:=.slice X' us.length cx') rfl
 clear b1 c1 hx1 hd he
 go_enter Tryz.func22,Tryz.ntmps22
 go_upto_region 1 with fail
 change Code.wp _ _ _ _ ((w.alloc (.cells (drV X cx Y cy ⟨na,xs,sa,ys⟩).toArray 43)).alloc (.cells (drV X' cx' Y' cy' ⟨nb,us,sb,vs⟩).toArray 43))
 generalize (w.alloc (.cells (drV X cx Y cy ⟨na,xs,sa,ys⟩).toArray 43)).alloc (.cells (drV X' cx' Y' cy' ⟨nb,us,sb,vs⟩).toArray 43)=w1 at *
 go_upto_region 2 with (go_at_call 17;with_reducible refine (same X X' cx cx' xs us w1 HD1.out.int HD2.out.int h1 h3).mono ?_;rintro e w2 ⟨rfl,hx2⟩)
 have HX2:=Lib.hid hx2
 have p3:=(HB.out.ext hx2).cell (j:=3) (v:=.slice Y ys.length cy) rfl
 have q3:=(HC.out.ext hx2).cell (j:=3) (v:=.slice Y' vs.length cy') rfl
 clear hx2 p1 q1
 go_upto_region 3 with (go_at_call 17;with_reducible refine (same Y Y' cy cy' ys vs w2 (HD1.out.frac.below HX2.out (Nat.le_refl _)) (HD2.out.frac.below HX2.out (Nat.le_refl _)) h2 h4).mono ?_;rintro e w3 ⟨rfl,hx3⟩)
 have HX3:=Lib.hid (HX2.out.trans hx3)
 have p0:=(HB.out.ext HX3.out).cell (j:=0) (v:=.bool na) rfl
 have q0:=(HC.out.ext HX3.out).cell (j:=0) (v:=.bool nb) rfl
 have p2:=(HB.out.ext HX3.out).cell (j:=2) (v:=.bool sa) rfl
 have q2:=(HC.out.ext HX3.out).cell (j:=2) (v:=.bool sb) rfl
 clear hx3 p3 q3
 generalize decide (xs=us)=t1 at *
 generalize decide (ys=vs)=t2 at *
 cases t1
 ·go_wp2
  go_ret
  exact ⟨ret_bool (by rw [← HE.out];rfl),HX.out.trans HX3.out⟩
 cases t2
 ·go_wp2
  go_ret
  exact ⟨ret_bool (by rw [← HE.out];rfl),HX.out.trans HX3.out⟩
 cases hnn:(na == nb)
 ·rw [hnn] at HE
  go_wp2
  go_ret
  exact ⟨ret_bool (by rw [← HE.out];rfl),HX.out.trans HX3.out⟩
 ·rw [hnn] at HE
  go_wp2
  go_ret
  exact ⟨ret_bool (by rw [← HE.out];rfl),HX.out.trans HX3.out⟩
theorem ref17_text (A B C D X Y:Option Addr) (c d a b cx cy:Nat) (dr:Dr) (r:Rec) (p:Pt) (w:World) (hK:Knd r p) (hpt:PtR w A B C D p) (hcap:CapR p c d a b) (hd:DrR w X Y dr) (ox:Okc X cx) (oy:Okc Y cy) (hok:DrOk dr) (hi:dr.int.length≤5000) (hf:dr.frac.length≤5000) :
  Calls Tryz.prog 14 #[.agg (refLV A B C D c d a b r p).toArray,.agg (drV X cx Y cy dr).toArray] w fun e w'=>e=.returned (.string ⟨(textI (itemsF (locOf r p) dr)).toArray⟩)∧Ext w w':=by
 have HLE:=Lib.hid (items_le5 hK.both hi hf)
 have b1:=(Box.new w 31 (refLV A B C D c d a b r p)).alloc (.cells (drV X cx Y cy dr).toArray 43)
 have c1:=Box.new (w.alloc (.cells (refLV A B C D c d a b r p).toArray 31)) 43 (drV X cx Y cy dr)
 have hs1:(w.alloc (.cells (refLV A B C D c d a b r p).toArray 31)).heap.size=w.heap.size+1:=by simp
 rw [hs1] at c1
 have hx1:Ext w ((w.alloc (.cells (refLV A B C D c d a b r p).toArray 31)).alloc (.cells (drV X cx Y cy dr).toArray 43)):=Ext.alloc_ (Ext.alloc_ (Ext.refl w) _) _
 have HRL:Hid (((w.alloc (.cells (refLV A B C D c d a b r p).toArray 31)).alloc (.cells (drV X cx Y cy dr).toArray 43)).rangeAt w.heap.size 0 [.string ⟨r.name.toArray⟩,.string ⟨r.pattern.toArray⟩,.string ⟨r.system.toArray⟩,.string ⟨r.decimal.toArray⟩,.string ⟨r.group.toArray⟩,.string ⟨r.minus.toArray⟩,.string ⟨r.percent.toArray⟩,.string ⟨r.currency.toArray⟩,.slice A p.pre.length c,.slice B p.suf.length d,.slice C p.npre.length a,.slice D p.nsuf.length b,.int .i64 p.num.prim,.int .i64 p.num.sec,.int .i64 p.num.minInt,.int .i64 p.num.minFrac,.int .i64 p.num.maxFrac]):=Lib.hid b1.range
 have HRD:Hid (((w.alloc (.cells (refLV A B C D c d a b r p).toArray 31)).alloc (.cells (drV X cx Y cy dr).toArray 43)).rangeAt (w.heap.size+1) 0 [.bool dr.neg,.slice X dr.int.length cx,.bool dr.sep,.slice Y dr.frac.length cy]):=Lib.hid c1.range
 have HX1:=Lib.hid hx1
 have HIT:Hid (∀ W,Ext w W→Calls Tryz.prog 29 #[.agg ([.string ⟨r.name.toArray⟩,.string ⟨r.pattern.toArray⟩,.string ⟨r.system.toArray⟩,.string ⟨r.decimal.toArray⟩,.string ⟨r.group.toArray⟩,.string ⟨r.minus.toArray⟩,.string ⟨r.percent.toArray⟩,.string ⟨r.currency.toArray⟩,.slice A p.pre.length c,.slice B p.suf.length d,.slice C p.npre.length a,.slice D p.nsuf.length b,.int .i64 p.num.prim,.int .i64 p.num.sec,.int .i64 p.num.minInt,.int .i64 p.num.minFrac,.int .i64 p.num.maxFrac]:List Value).toArray,.agg ([.bool dr.neg,.slice X dr.int.length cx,.bool dr.sep,.slice Y dr.frac.length cy]:List Value).toArray] W fun e w'=>∃ E c',e=.returned (.slice E (itemsF (locOf r p) dr).length c')∧Row w' E (itsV (itemsF (locOf r p) dr))∧Ext W w'):=Lib.hid fun W hW =>
  (ref15_items5 A B C D X Y c d a b cx cy dr r p W hK.both hK.num (hpt.ext hW) hcap (hd.ext hW) ox oy hok hi hf).mono fun e w' ⟨E,c',h1,h2⟩=>⟨E,c',h1,h2.row,h2.ext⟩
 clear b1 c1 hs1 hx1 hK hpt hcap hd ox oy hok hi hf
 generalize itemsF (locOf r p) dr=L at *
 go_enter Tryz.func14,Tryz.ntmps14
 go_upto_region 1 with fail
 change Code.wp _ _ _ _ ((w.alloc (.cells (refLV A B C D c d a b r p).toArray 31)).alloc (.cells (drV X cx Y cy dr).toArray 43))
 generalize (w.alloc (.cells (refLV A B C D c d a b r p).toArray 31)).alloc (.cells (drV X cx Y cy dr).toArray 43)=w1 at *
 go_wp2_with (first
  | (refine wpList_load_mid rfl 31 (.tmp 2) rfl w.heap.size 0 rfl [.string ⟨r.name.toArray⟩,.string ⟨r.pattern.toArray⟩,.string ⟨r.system.toArray⟩,.string ⟨r.decimal.toArray⟩,.string ⟨r.group.toArray⟩,.string ⟨r.minus.toArray⟩,.string ⟨r.percent.toArray⟩,.string ⟨r.currency.toArray⟩,.slice A p.pre.length c,.slice B p.suf.length d,.slice C p.npre.length a,.slice D p.nsuf.length b,.int .i64 p.num.prim,.int .i64 p.num.sec,.int .i64 p.num.minInt,.int .i64 p.num.minFrac,.int .i64 p.num.maxFrac] _ HRL.out Tryz.underlying31 rfl infoRL ?_)
  | (refine wpList_load_mid rfl 43 (.tmp 3) rfl (w.heap.size+1) 0 rfl [.bool dr.neg,.slice X dr.int.length cx,.bool dr.sep,.slice Y dr.frac.length cy] _ HRD.out Tryz.underlying43 rfl infoD14 ?_)
  | (go_at_call 29;with_reducible refine (HIT.out _ HX1.out).mono ?_;rintro e w2 ⟨E,c',rfl,hrE,hx2⟩;have HT:=Lib.hid (ref15_text5 E L.length c' L w2 hrE rfl (Nat.le_trans HLE.out.1 (by decide)) HLE.out.2.1))
  | (go_at_call 42;with_reducible refine HT.out.mono ?_;rintro e w3 ⟨rfl,hx3⟩))
 go_ret
 exact ⟨rfl,HX1.out.trans (hx2.trans hx3)⟩
set_option maxRecDepth 512
theorem rd_out {l:Loc} {s:List UInt8} (h:ofE (atOf (sgs l s)) ≠ 0):rdD l s=dr0∧rdE l s=2:=by
 have hc:1 < (atOf (sgs l s)).count 10:=by
  unfold ofE at h
  split at h
  ·assumption
  ·exact absurd rfl h
 have hr:refF l s=none:=by unfold refF;rw [ofF_eq,if_pos hc]
 unfold rdD rdE
 rw [hr]
 exact ⟨rfl,rfl⟩
theorem rd_in {l:Loc} {s:List UInt8} (h:ofE (atOf (sgs l s))=0):ofF (ngOf (sgs l s)) (atOf (sgs l s))=some (ofD (ngOf (sgs l s)) (atOf (sgs l s)))∧ofD (ngOf (sgs l s)) (atOf (sgs l s))=drOf (ngOf (sgs l s)) (ofSt (atOf (sgs l s))):=by
 have hc:¬ (1 < (atOf (sgs l s)).count 10):=by
  intro hc
  unfold ofE at h
  rw [if_pos hc] at h
  exact absurd h (by decide)
 unfold ofD
 rw [ofF_eq,if_neg hc,if_neg hc]
 exact ⟨rfl,rfl⟩
theorem rd_same {l:Loc} {s:List UInt8} (h:ofE (atOf (sgs l s))=0) (ht:textI (itemsF l (ofD (ngOf (sgs l s)) (atOf (sgs l s))))=s):rdD l s=ofD (ngOf (sgs l s)) (atOf (sgs l s))∧rdE l s=0:=by
 have hr:refF l s=some (ofD (ngOf (sgs l s)) (atOf (sgs l s))):=by unfold refF;rw [(rd_in h).1];simp only;rw [if_pos ht]
 unfold rdD rdE
 rw [hr]
 exact ⟨rfl,rfl⟩
theorem rd_other {l:Loc} {s:List UInt8} (h:ofE (atOf (sgs l s))=0) (ht:textI (itemsF l (ofD (ngOf (sgs l s)) (atOf (sgs l s)))) ≠ s):rdD l s=dr0∧rdE l s=2:=by
 have hr:refF l s=none:=by unfold refF;rw [(rd_in h).1];simp only;rw [if_neg ht]
 unfold rdD rdE
 rw [hr]
 exact ⟨rfl,rfl⟩
theorem ofD_ok {ng:Bool} {ts:List Int} (hb:∀ a ∈ ts,0≤a∧a≤10):DrOk (ofD ng ts)∧(ofD ng ts).int.length≤ts.length∧(ofD ng ts).frac.length≤ts.length:=by
 unfold ofD
 split
 ·exact ⟨ok0,Nat.zero_le _,Nat.zero_le _⟩
 ·rename_i hc
  exact ⟨of_ok hb (by rw [ofF_eq,if_neg hc]),(ofSt_len ts).1,(ofSt_len ts).2⟩
set_option maxRecDepth 100000
theorem ref17_parse (A B C D:Option Addr) (c d a b:Nat) (s:List UInt8) (r:Rec) (p:Pt) (w:World) (hK:Knd r p) (hpt:PtR w A B C D p) (hcap:CapR p c d a b) (hl:s.length≤5000) :
  Calls Tryz.prog 28 #[.agg (refLV A B C D c d a b r p).toArray,.string ⟨s.toArray⟩] w fun e w'=>∃ X Y cx cy,e=.returned (.tuple #[.agg (drV X cx Y cy (rdD (locOf r p) s)).toArray,.int .i64 (rdE (locOf r p) s)])∧DrR w' X Y (rdD (locOf r p) s)∧Okc X cx∧Okc Y cy∧Ext w w':=by
 have HSP:Hid (∀ W,Calls Tryz.prog 9 #[.string ⟨s.toArray⟩] W fun e w'=>∃ S cS,e=.returned (.slice S (splitS s).length cS)∧Row w' S (strsV (splitS s))∧Ext W w'):=Lib.hid fun W=>by
  have:=split_ref ⟨s.toArray⟩ W (by rw [sizeL];omega)
  have hd:(⟨s.toArray⟩:ByteArray).data.toList=s:=by simp
  rwa [hd] at this
 have HSG:Hid (∀ t W,Calls Tryz.prog 36 #[.agg ([.string ⟨r.name.toArray⟩,.string ⟨r.pattern.toArray⟩,.string ⟨r.system.toArray⟩,.string ⟨r.decimal.toArray⟩,.string ⟨r.group.toArray⟩,.string ⟨r.minus.toArray⟩,.string ⟨r.percent.toArray⟩,.string ⟨r.currency.toArray⟩,.slice A p.pre.length c,.slice B p.suf.length d,.slice C p.npre.length a,.slice D p.nsuf.length b,.int .i64 p.num.prim,.int .i64 p.num.sec,.int .i64 p.num.minInt,.int .i64 p.num.minFrac,.int .i64 p.num.maxFrac]:List Value).toArray,.string t] W fun e w'=>e=.returned (.int .i64 (signZ (locOf r p) t))∧Ext W w'):=Lib.hid fun t W=>ref_sign A B C D c d a b r p t W hK.both
 have hNl:(splitS s).length≤5000:=Nat.le_trans (split_len_le s) hl
 have HAT:Hid (∀ k (u:List UInt8),(splitS s)[k]? = some u→(sgs (locOf r p) s)[k]? = some (signZ (locOf r p) ⟨u.toArray⟩)):=Lib.hid fun k u hu=>by
  unfold sgs;rw [List.getElem?_map,hu];rfl
 have HSN:Hid (∀ k v,(sgs (locOf r p) s)[k]? = some v→atOf ((sgs (locOf r p) s).take (k+1))=atOf ((sgs (locOf r p) s).take k)++(if 0≤v∧v≤10 then [v] else [])∧ngOf ((sgs (locOf r p) s).take (k+1))=(ngOf ((sgs (locOf r p) s).take k) || decide (v=12))):=Lib.hid fun k v hv=>by
  obtain ⟨hk,rfl⟩:=List.getElem?_eq_some_iff.1 hv
  exact ⟨atOf_snoc _ hk,ngOf_snoc _ hk⟩
 have HAL:Hid (∀ k,(atOf ((sgs (locOf r p) s).take k)).length≤k):=Lib.hid fun k=>Nat.le_trans (atOf_len _) (by rw [List.length_take];omega)
 have HAA:Hid ((sgs (locOf r p) s).take (splitS s).length=sgs (locOf r p) s):=Lib.hid (by rw [← sgs_len (locOf r p) s,List.take_length])
 have HBD:Hid (∀ a ∈ atOf (sgs (locOf r p) s),0≤a∧a≤10):=Lib.hid (at_bd _)
 have HTX:Hid (∀ W X Y cx cy (dr:Dr),Ext w W→DrR W X Y dr→Okc X cx→Okc Y cy→DrOk dr→dr.int.length≤5000→dr.frac.length≤5000→Calls Tryz.prog 14 #[.agg ([.string ⟨r.name.toArray⟩,.string ⟨r.pattern.toArray⟩,.string ⟨r.system.toArray⟩,.string ⟨r.decimal.toArray⟩,.string ⟨r.group.toArray⟩,.string ⟨r.minus.toArray⟩,.string ⟨r.percent.toArray⟩,.string ⟨r.currency.toArray⟩,.slice A p.pre.length c,.slice B p.suf.length d,.slice C p.npre.length a,.slice D p.nsuf.length b,.int .i64 p.num.prim,.int .i64 p.num.sec,.int .i64 p.num.minInt,.int .i64 p.num.minFrac,.int .i64 p.num.maxFrac]:List Value).toArray,.agg ([.bool dr.neg,.slice X dr.int.length cx,.bool dr.sep,.slice Y dr.frac.length cy]:List Value).toArray] W fun e w'=>e=.returned (.string ⟨(textI (itemsF (locOf r p) dr)).toArray⟩)∧Ext W w'):=Lib.hid fun W X Y cx cy dr hW hd ox oy hok hi hf=>ref17_text A B C D X Y c d a b cx cy dr r p W hK (hpt.ext hW) hcap hd ox oy hok hi hf
 have HO1:Hid (ofE (atOf (sgs (locOf r p) s)) ≠ 0→rdD (locOf r p) s=dr0∧rdE (locOf r p) s=2):=Lib.hid fun h=>rd_out h
 have HO2:Hid (ofE (atOf (sgs (locOf r p) s))=0→textI (itemsF (locOf r p) (ofD (ngOf (sgs (locOf r p) s)) (atOf (sgs (locOf r p) s))))=s→rdD (locOf r p) s=ofD (ngOf (sgs (locOf r p) s)) (atOf (sgs (locOf r p) s))∧rdE (locOf r p) s=0):=Lib.hid fun h ht=>rd_same h ht
 have HO3:Hid (ofE (atOf (sgs (locOf r p) s))=0→textI (itemsF (locOf r p) (ofD (ngOf (sgs (locOf r p) s)) (atOf (sgs (locOf r p) s)))) ≠ s→rdD (locOf r p) s=dr0∧rdE (locOf r p) s=2):=Lib.hid fun h ht=>rd_other h ht
 have b1:=(Box.new w 31 (refLV A B C D c d a b r p)).alloc (.cells zeroD.toArray 43)
 have c1:=Box.new (w.alloc (.cells (refLV A B C D c d a b r p).toArray 31)) 43 zeroD
 have hs1:(w.alloc (.cells (refLV A B C D c d a b r p).toArray 31)).heap.size=w.heap.size+1:=by simp
 rw [hs1] at c1
 have hx1:Ext w ((w.alloc (.cells (refLV A B C D c d a b r p).toArray 31)).alloc (.cells zeroD.toArray 43)):=Ext.alloc_ (Ext.alloc_ (Ext.refl w) _) _
 have HRL:Hid (((w.alloc (.cells (refLV A B C D c d a b r p).toArray 31)).alloc (.cells zeroD.toArray 43)).rangeAt w.heap.size 0 [.string ⟨r.name.toArray⟩,.string ⟨r.pattern.toArray⟩,.string ⟨r.system.toArray⟩,.string ⟨r.decimal.toArray⟩,.string ⟨r.group.toArray⟩,.string ⟨r.minus.toArray⟩,.string ⟨r.percent.toArray⟩,.string ⟨r.currency.toArray⟩,.slice A p.pre.length c,.slice B p.suf.length d,.slice C p.npre.length a,.slice D p.nsuf.length b,.int .i64 p.num.prim,.int .i64 p.num.sec,.int .i64 p.num.minInt,.int .i64 p.num.minFrac,.int .i64 p.num.maxFrac]):=Lib.hid b1.range
 have HC1:=Lib.hid c1
 have HX1:=Lib.hid hx1
 clear b1 c1 hs1 hx1 hK hpt hcap hl
 generalize rdD (locOf r p) s=rd at *
 generalize rdE (locOf r p) s=re at *
 generalize sgs (locOf r p) s=ks at *
 go_enter Tryz.func28,Tryz.ntmps28
 go_upto_region 1 with fail
 change Code.wp _ _ _ _ ((w.alloc (.cells (refLV A B C D c d a b r p).toArray 31)).alloc (.cells zeroD.toArray 43))
 generalize (w.alloc (.cells (refLV A B C D c d a b r p).toArray 31)).alloc (.cells zeroD.toArray 43)=w1 at *
 generalize hrb:w.heap.size+1=rb at *
 generalize hlb:w.heap.size=lb at *
 have HRB:Hid (w.heap.size≤rb):=Lib.hid (by omega)
 clear hrb hlb
 go_wp2_with (go_at_call 9;with_reducible refine (HSP.out _).mono ?_;rintro e w3 ⟨S,cS,rfl,hS,hx3⟩)
 have HSR:=Lib.hid hS
 have HX3:=Lib.hid (HX1.out.trans hx3)
 have HC3:=Lib.hid (HC1.out.ext hx3)
 have HL3:=Lib.hid (Ext.range_ hx3 HRL.out)
 clear hS hx3 HSP HRL HC1
 generalize hN:(splitS s).length=N at *
 have HN:=Lib.hid hN
 clear hN
 go_loopw [7,8,9] (fun v ng i wr=>∃ (k m:Nat) (E:Option Addr) (cE:Nat) (nb:Bool),k≤N∧m≤k∧i=.int .i64 k∧v=.slice E m cE∧ng=.bool nb∧Hid (ngOf (ks.take k)=nb)∧Acc 3 1 w3 wr E cE m ((atOf (ks.take k)).map (Value.int .i64))) (fun _ _ i _=>N - (intOf i).toNat)
 case atStart=>exact ⟨0,0,none,0,false,Nat.zero_le _,Nat.le_refl _,rfl,rfl,rfl,Lib.hid rfl,Acc.start _ _ _⟩
 case round =>
  obtain ⟨k,m,E,cE,nb,hk,hmk,rfl,rfl,rfl,HNG,hacc⟩:=hrel
  by_cases hlt:k < N
  ·have hkl:k < (splitS s).length:=by have:=HN.out;omega
   obtain ⟨ob,oo,hS0,hc⟩:=str_at (HSR.out.below hacc.ext (Nat.le_refl _)) hkl
   have HV:=Lib.hid (HAT.out k _ (List.getElem?_eq_getElem hkl))
   generalize (⟨((splitS s)[k]).toArray⟩:ByteArray)=one at *
   have HSX:=Lib.hid (HSG.out one)
   generalize signZ (locOf r p) one=v at *
   obtain ⟨hs1,hs2⟩:=HSN.out k v HV.out
   rw [HNG.out] at hs2
   have HS1:=Lib.hid hs1
   have HS2:=Lib.hid hs2
   have hrl:=Ext.range_ hacc.ext HL3.out
   have HA:=Lib.hid hacc
   subst hS0
   have i1:(k:Int) < (N:Int):=by omega
   have i2:(0:Int)≤(k:Int):=by omega
   clear hs1 hs2 hacc
   generalize hout:(atOf (ks.take k)).map (Value.int .i64)=out at *
   have HOUT:=Lib.hid hout
   clear hout
   go_upto_region 7 with fail
   refine rg_ (S:=fun W=>Ext wr W∧W.rangeAt lb 0 [.string ⟨r.name.toArray⟩,.string ⟨r.pattern.toArray⟩,.string ⟨r.system.toArray⟩,.string ⟨r.decimal.toArray⟩,.string ⟨r.group.toArray⟩,.string ⟨r.minus.toArray⟩,.string ⟨r.percent.toArray⟩,.string ⟨r.currency.toArray⟩,.slice A p.pre.length c,.slice B p.suf.length d,.slice C p.npre.length a,.slice D p.nsuf.length b,.int .i64 p.num.prim,.int .i64 p.num.sec,.int .i64 p.num.minInt,.int .i64 p.num.minFrac,.int .i64 p.num.maxFrac]∧W.cell? ⟨ob,oo+k,none⟩=some (.string one)) (⟨Ext.drew_ (Ext.refl _),hrl,hc⟩) (fun hHeld=>?_)
   refine tr_ (cs:=[.string ⟨r.name.toArray⟩,.string ⟨r.pattern.toArray⟩,.string ⟨r.system.toArray⟩,.string ⟨r.decimal.toArray⟩,.string ⟨r.group.toArray⟩,.string ⟨r.minus.toArray⟩,.string ⟨r.percent.toArray⟩,.string ⟨r.currency.toArray⟩,.slice A p.pre.length c,.slice B p.suf.length d,.slice C p.npre.length a,.slice D p.nsuf.length b,.int .i64 p.num.prim,.int .i64 p.num.sec,.int .i64 p.num.minInt,.int .i64 p.num.minFrac,.int .i64 p.num.maxFrac]) 0 hHeld 31 ((.tmp 2)) lb (0) (fun _ h=>h.2.1) Tryz.underlying31 infoRL ?_
   try simp only [Act.put,sA,sZ,sS]
   refine tk_ 1 hHeld ?_
   try simp only [Act.put,sA,sZ,sS]
   refine tk_ 2 hHeld ?_
   try simp only [Act.put,sA,sZ,sS]
   refine tk_ 3 hHeld ?_
   try simp only [Act.put,sA,sZ,sS]
   refine tk_ 4 hHeld ?_
   try simp only [Act.put,sA,sZ,sS]
   refine on_ 5 (fun K1 hK1=>?_)
   go_simp
   go_at_call 36
   refine (HSX.out _).mono ?_
   rintro e w5 ⟨rfl,hx5⟩
   refine hK1.out _ _ (⟨hHeld.1.trans hx5,Ext.range_ hx5 hHeld.2.1,Ext.cell_ hx5 hHeld.2.2⟩) (fun hHeld=>?_)
   clear hK1
   try simp only [Act.put,sA,sZ,sS]
   refine tk_ 6 hHeld ?_
   try simp only [Act.put,sA,sZ,sS]
   refine dn_ ?_
   have HA5:=Lib.hid (HA.out.step hHeld.1)
   clear hHeld hx5 hrl hc HSX HA
   by_cases hq:0≤v∧v≤10
   ·have HT1:Hid ((atOf (ks.take (k+1))).map (Value.int .i64)=out++[.int .i64 v]):=Lib.hid (by rw [HS1.out,if_pos hq,List.map_append,HOUT.out];rfl)
    have HT2:Hid (ngOf (ks.take (k+1))=nb):=Lib.hid (by rw [HS2.out,decide_eq_false (by omega),Bool.or_false])
    obtain ⟨j0,j10⟩:=hq
    have j1:decide (0≤v)=true:=decide_eq_true j0
    have j2:decide (v≤10)=true:=decide_eq_true j10
    have j3:(v == 12)=false:=by simp;omega
    go_wp2_with (at_builtin;refine wp_app ei_int rfl (.tmp 33) (.tmp 35) rfl w3 _ E cE m _ rfl HA5.out [.int .i64 v] 1 1 rfl rfl (by simp [Value.oneCell']) (by omega) (by unfold maxLen;omega) ?_;intro A6 c6 w6 hA6 _ _)
    go_roundw
    case rel=>exact ⟨k+1,m+1,A6,c6,nb,by omega,by omega,by go_num,rfl,rfl,HT2,by rw [HT1.out];exact hA6⟩
    case measure=>simp [intOf];omega
   ·have HT1:Hid ((atOf (ks.take (k+1))).map (Value.int .i64)=out):=Lib.hid (by rw [HS1.out,if_neg hq,List.append_nil,HOUT.out])
    by_cases h12:v=12
    ·have HT2:Hid (ngOf (ks.take (k+1))=true):=Lib.hid (by rw [HS2.out,decide_eq_true h12,Bool.or_true])
     subst h12
     clear hq
     go_wp2
     go_roundw
     case rel=>exact ⟨k+1,m,E,cE,true,by omega,by omega,by go_num,rfl,rfl,HT2,by rw [HT1.out];exact HA5.out⟩
     case measure=>simp [intOf];omega
    ·have HT2:Hid (ngOf (ks.take (k+1))=nb):=Lib.hid (by rw [HS2.out,decide_eq_false h12,Bool.or_false])
     have j3:(v == 12)=false:=by simpa using h12
     by_cases h0:v < 0
     ·have j1:¬ (0≤v):=by omega
      clear hq h12
      go_wp2
      go_roundw
      case rel=>exact ⟨k+1,m,E,cE,nb,by omega,by omega,by go_num,rfl,rfl,HT2,by rw [HT1.out];exact HA5.out⟩
      case measure=>simp [intOf];omega
     ·have j1:0≤v:=by omega
      have j2:¬ (v≤10):=by omega
      have j4:decide (0≤v)=true:=decide_eq_true j1
      clear hq h12 h0
      go_wp2
      go_roundw
      case rel=>exact ⟨k+1,m,E,cE,nb,by omega,by omega,by go_num,rfl,rfl,HT2,by rw [HT1.out];exact HA5.out⟩
      case measure=>simp [intOf];omega
  ·have e:k=N:=by omega
   subst e
   have i1:¬ ((k:Int) < (k:Int)):=by omega
   have HNG2:Hid (ngOf ks=nb):=Lib.hid (by have:=HNG.out;rwa [HAA.out] at this)
   rw [HAA.out] at hacc
   have hml:(atOf ks).length=m:=by have:=hacc.len;rw [List.length_map] at this;omega
   have HML:=Lib.hid hml
   rw [HNG2.out] at HO2 HO3
   have HOF:=Lib.hid (ref14_of nb E m cE (atOf ks) wr hacc.row hml (by omega) HBD.out)
   have hok:=ofD_ok (ng:=nb) HBD.out
   rw [hml] at hok
   have HOK:=Lib.hid hok
   have HXW:=Lib.hid (HX3.out.trans hacc.ext)
   have HCW:=Lib.hid (HC3.out.ext hacc.ext)
   have HLW:=Lib.hid (Ext.range_ hacc.ext HL3.out)
   clear hok hml hacc HSR HNG HBD HAT HSN HAL HN HSG HC3 HL3
   generalize ofE (atOf ks)=oe at *
   generalize ofD nb (atOf ks)=od at *
   go_upto_region 13 with (first
    | (go_at_call 54;with_reducible refine HOF.out.mono ?_;rintro e w5 ⟨X,Y,cx,cy,rfl,hdr,oX,oY,hx5⟩)
    | (refine wpList_store_fresh rfl 43 (.tmp 11) (.tmp 43) rfl (drV X cx Y cy od).toArray 43 _ rfl rfl infoD14 rfl (by simp [Value.oneCell',drV]) ?_))
   have hb6:=Box.new w5 43 (drV X cx Y cy od)
   have hx6:Ext w5 (w5.alloc (.cells (drV X cx Y cy od).toArray 43)):=Ext.alloc_ (Ext.refl _) _
   have HX6:=Lib.hid (HXW.out.trans (hx5.trans hx6))
   have HC6:=Lib.hid (HCW.out.ext (hx5.trans hx6))
   have HL6:=Lib.hid (Ext.range_ (hx5.trans hx6) HLW.out)
   have HD6:=Lib.hid (hdr.ext hx6)
   have HRD:Hid ((w5.alloc (.cells (drV X cx Y cy od).toArray 43)).rangeAt w5.heap.size 0 [.bool od.neg,.slice X od.int.length cx,.bool od.sep,.slice Y od.frac.length cy]):=Lib.hid hb6.range
   clear hb6 hx5 hx6 hdr HXW HCW HLW
   generalize w5.alloc (.cells (drV X cx Y cy od).toArray 43)=w6 at *
   generalize w5.heap.size=db at *
   have HTT:=Lib.hid (HTX.out w6 X Y cx cy od HX6.out HD6.out oX oY HOK.out.1 (by have:=HOK.out;omega) (by have:=HOK.out;omega))
   clear HTX
   generalize textI (itemsF (locOf r p) od)=tt at *
   by_cases h0:oe=0
   ·have j1:(oe != 0)=false:=by simpa using h0
    by_cases ht:tt=s
    ·obtain ⟨h1,h2⟩:=HO2.out h0 ht
     have HR1:=Lib.hid h1
     have HR2:=Lib.hid h2
     have j2:(tt == s)=true:=by simpa using ht
     clear h1 h2 h0 ht HO1 HO2 HO3
     go_wp2_with (first
      | (refine wpList_load_mid_g (by rfl) 31 (.tmp 2) rfl lb 0 rfl [.string ⟨r.name.toArray⟩,.string ⟨r.pattern.toArray⟩,.string ⟨r.system.toArray⟩,.string ⟨r.decimal.toArray⟩,.string ⟨r.group.toArray⟩,.string ⟨r.minus.toArray⟩,.string ⟨r.percent.toArray⟩,.string ⟨r.currency.toArray⟩,.slice A p.pre.length c,.slice B p.suf.length d,.slice C p.npre.length a,.slice D p.nsuf.length b,.int .i64 p.num.prim,.int .i64 p.num.sec,.int .i64 p.num.minInt,.int .i64 p.num.minFrac,.int .i64 p.num.maxFrac] _ HL6.out Tryz.underlying31 rfl infoRL ?_)
      | (refine wpList_load_mid_g (by rfl) 43 (.tmp 11) rfl db 0 rfl [.bool od.neg,.slice X od.int.length cx,.bool od.sep,.slice Y od.frac.length cy] _ HRD.out Tryz.underlying43 rfl infoD14 ?_)
      | (go_at_call 14;with_reducible refine HTT.out.mono ?_;rintro e w7 ⟨rfl,hx7⟩;have HC7:=Lib.hid (HC6.out.ext hx7);have HD7:=Lib.hid (HD6.out.ext hx7);have HX7:=Lib.hid (HX6.out.trans hx7);have HR7:=Lib.hid (Ext.range_ hx7 HRD.out))
      | (refine wpList_load_mid rfl 43 (.tmp 11) rfl db 0 rfl [.bool od.neg,.slice X od.int.length cx,.bool od.sep,.slice Y od.frac.length cy] _ HR7.out Tryz.underlying43 rfl infoD14 ?_)
      | (refine wpList_store_row rfl 43 (.tmp 4) (.tmp 55) rfl rb ([.bool od.neg,.slice X od.int.length cx,.bool od.sep,.slice Y od.frac.length cy]:List Value).toArray rfl rfl _ _ HC7.out infoD14 rfl (by simp [Value.oneCell']) ?_))
     have hb9:=HC7.out.set ([.bool od.neg,.slice X od.int.length cx,.bool od.sep,.slice Y od.frac.length cy]:List Value).toArray
     refine bodyPost_ret (v:=.tuple #[.agg ([.bool od.neg,.slice X od.int.length cx,.bool od.sep,.slice Y od.frac.length cy]:List Value).toArray,.int .i64 0]) (results_ct (p:=5) (q:=4) rfl _ _ rb _ rfl hb9 Tryz.underlying43 infoD14) rfl ⟨X,Y,cx,cy,by rw [HR1.out,HR2.out];rfl,?_,oX,oY,Ext.setRow HX7.out HRB.out _⟩
     rw [HR1.out]
     exact ⟨ints_setRow HC7.out HD7.out.int (by simp [isInt,zeroD]) _,ints_setRow HC7.out HD7.out.frac (by simp [isInt,zeroD]) _⟩
    ·obtain ⟨h1,h2⟩:=HO3.out h0 ht
     have HR1:=Lib.hid h1
     have HR2:=Lib.hid h2
     have j2:(tt == s)=false:=by simpa using ht
     clear h1 h2 h0 ht HO1 HO2 HO3
     go_wp2_with (first
      | (refine wpList_load_mid_g (by rfl) 31 (.tmp 2) rfl lb 0 rfl [.string ⟨r.name.toArray⟩,.string ⟨r.pattern.toArray⟩,.string ⟨r.system.toArray⟩,.string ⟨r.decimal.toArray⟩,.string ⟨r.group.toArray⟩,.string ⟨r.minus.toArray⟩,.string ⟨r.percent.toArray⟩,.string ⟨r.currency.toArray⟩,.slice A p.pre.length c,.slice B p.suf.length d,.slice C p.npre.length a,.slice D p.nsuf.length b,.int .i64 p.num.prim,.int .i64 p.num.sec,.int .i64 p.num.minInt,.int .i64 p.num.minFrac,.int .i64 p.num.maxFrac] _ HL6.out Tryz.underlying31 rfl infoRL ?_)
      | (refine wpList_load_mid_g (by rfl) 43 (.tmp 11) rfl db 0 rfl [.bool od.neg,.slice X od.int.length cx,.bool od.sep,.slice Y od.frac.length cy] _ HRD.out Tryz.underlying43 rfl infoD14 ?_)
      | (go_at_call 14;with_reducible refine HTT.out.mono ?_;rintro e w7 ⟨rfl,hx7⟩;have HC7:=Lib.hid (HC6.out.ext hx7);have HX7:=Lib.hid (HX6.out.trans hx7))
      | (refine wpList_store_row rfl 43 (.tmp 4) (.tmp 54) rfl rb zeroD.toArray rfl rfl _ _ HC7.out infoD14 rfl (by simp [Value.oneCell',zeroD]) ?_))
     have hb9:=HC7.out.set zeroD.toArray
     refine bodyPost_ret (v:=.tuple #[.agg zeroD.toArray,.int .i64 2]) (results_ct (p:=5) (q:=4) rfl _ _ rb _ rfl hb9 Tryz.underlying43 infoD14) rfl ⟨none,none,0,0,by rw [HR1.out,HR2.out];rfl,?_,⟨Nat.zero_le _,fun _=>rfl⟩,⟨Nat.zero_le _,fun _=>rfl⟩,Ext.setRow HX7.out HRB.out _⟩
     rw [HR1.out]
     exact ⟨.inl rfl,.inl rfl⟩
   ·obtain ⟨h1,h2⟩:=HO1.out h0
    have HR1:=Lib.hid h1
    have HR2:=Lib.hid h2
    have j1:(oe != 0)=true:=by simpa using h0
    clear h1 h2 h0 HO1 HO2 HO3
    go_wp2_with (refine wpList_store_row rfl 43 (.tmp 4) (.tmp 54) rfl rb zeroD.toArray rfl rfl _ _ HC6.out infoD14 rfl (by simp [Value.oneCell',zeroD]) ?_)
    have hb9:=HC6.out.set zeroD.toArray
    refine bodyPost_ret (v:=.tuple #[.agg zeroD.toArray,.int .i64 2]) (results_ct (p:=5) (q:=4) rfl _ _ rb _ rfl hb9 Tryz.underlying43 infoD14) rfl ⟨none,none,0,0,by rw [HR1.out,HR2.out];rfl,?_,⟨Nat.zero_le _,fun _=>rfl⟩,⟨Nat.zero_le _,fun _=>rfl⟩,Ext.setRow HX6.out HRB.out _⟩
    rw [HR1.out]
    exact ⟨.inl rfl,.inl rfl⟩
set_option maxRecDepth 512
def LocX (W:World) (g:Nat) (l:Loc):Prop:=∃ A B C D c d a b,LocR W g A B C D c d a b l
theorem LocX.ext {W W':World} {g:Nat} {l:Loc} (h:LocX W g l) (hx:Ext W W'):LocX W' g l:=by
 obtain ⟨A,B,C,D,c,d,a,b,h⟩:=h
 exact ⟨A,B,C,D,c,d,a,b,h.ext hx⟩
structure Lw (W:World) (g lb:Nat) (r:Rec) (p:Pt) (A B C D:Option Addr) (c d a b:Nat):Prop where
 loc:LocX W g (locOf r p)
 pt:PtR W A B C D p
 cap:CapR p c d a b
 box:Box W lb 31 [.string ⟨r.name.toArray⟩,.string ⟨r.pattern.toArray⟩,.string ⟨r.system.toArray⟩,.string ⟨r.decimal.toArray⟩,.string ⟨r.group.toArray⟩,.string ⟨r.minus.toArray⟩,.string ⟨r.percent.toArray⟩,.string ⟨r.currency.toArray⟩,.slice A p.pre.length c,.slice B p.suf.length d,.slice C p.npre.length a,.slice D p.nsuf.length b,.int .i64 p.num.prim,.int .i64 p.num.sec,.int .i64 p.num.minInt,.int .i64 p.num.minFrac,.int .i64 p.num.maxFrac]
theorem Lw.ext {W W':World} {g lb:Nat} {r:Rec} {p:Pt} {A B C D:Option Addr} {c d a b:Nat} (h:Lw W g lb r p A B C D c d a b) (hx:Ext W W'):Lw W' g lb r p A B C D c d a b :=
 ⟨h.loc.ext hx,h.pt.ext hx,h.cap,h.box.ext hx⟩
structure Dw (W:World) (db:Nat) (T:TypeId) (X:Option Addr) (cx:Nat) (Y:Option Addr) (cy:Nat) (e:Dr):Prop where
 dr:DrR W X Y e
 ox:Okc X cx
 oy:Okc Y cy
 box:Box W db T [.bool e.neg,.slice X e.int.length cx,.bool e.sep,.slice Y e.frac.length cy]
theorem Dw.ext {W W':World} {db:Nat} {T:TypeId} {X Y:Option Addr} {cx cy:Nat} {e:Dr} (h:Dw W db T X cx Y cy e) (hx:Ext W W'):Dw W' db T X cx Y cy e :=
 ⟨h.dr.ext hx,h.ox,h.oy,h.box.ext hx⟩
theorem Dw.new {W:World} {T:TypeId} {X Y:Option Addr} {cx cy:Nat} {e:Dr} (h:DrR W X Y e) (ox:Okc X cx) (oy:Okc Y cy):Dw (W.alloc (.cells (drV X cx Y cy e).toArray T)) W.heap.size T X cx Y cy e :=
 ⟨h.ext (Ext.alloc_ (Ext.refl _) _),ox,oy,Box.new W T (drV X cx Y cy e)⟩
theorem boxes2 (w:World) (T U:TypeId) (xs ys:List Value):Box ((w.alloc (.cells xs.toArray T)).alloc (.cells ys.toArray U)) w.heap.size T xs∧Box ((w.alloc (.cells xs.toArray T)).alloc (.cells ys.toArray U)) (w.heap.size+1) U ys∧Ext w ((w.alloc (.cells xs.toArray T)).alloc (.cells ys.toArray U)):=by
 have b1:=(Box.new w T xs).alloc (.cells ys.toArray U)
 have c1:=Box.new (w.alloc (.cells xs.toArray T)) U ys
 have hs1:(w.alloc (.cells xs.toArray T)).heap.size=w.heap.size+1:=by simp
 rw [hs1] at c1
 exact ⟨b1,c1,Ext.alloc_ (Ext.alloc_ (Ext.refl w) _) _⟩
theorem boxes3 (w:World) (T U V:TypeId) (xs ys zs:List Value):Box (((w.alloc (.cells xs.toArray T)).alloc (.cells ys.toArray U)).alloc (.cells zs.toArray V)) w.heap.size T xs∧Box (((w.alloc (.cells xs.toArray T)).alloc (.cells ys.toArray U)).alloc (.cells zs.toArray V)) (w.heap.size+1) U ys∧Box (((w.alloc (.cells xs.toArray T)).alloc (.cells ys.toArray U)).alloc (.cells zs.toArray V)) (w.heap.size+1+1) V zs∧Ext w (((w.alloc (.cells xs.toArray T)).alloc (.cells ys.toArray U)).alloc (.cells zs.toArray V)):=by
 obtain ⟨h1,h2,h3⟩:=boxes2 w T U xs ys
 have c1:=Box.new ((w.alloc (.cells xs.toArray T)).alloc (.cells ys.toArray U)) V zs
 have hs1:((w.alloc (.cells xs.toArray T)).alloc (.cells ys.toArray U)).heap.size=w.heap.size+1+1:=by simp
 rw [hs1] at c1
 exact ⟨h1.alloc _,h2.alloc _,c1,Ext.alloc_ h3 _⟩
section
variable {W:World} {g lb:Nat} {r:Rec} {p:Pt} {A B C D:Option Addr} {c d a b:Nat}
theorem Lw.range (h:Lw W g lb r p A B C D c d a b):W.rangeAt lb 0 [.string ⟨r.name.toArray⟩,.string ⟨r.pattern.toArray⟩,.string ⟨r.system.toArray⟩,.string ⟨r.decimal.toArray⟩,.string ⟨r.group.toArray⟩,.string ⟨r.minus.toArray⟩,.string ⟨r.percent.toArray⟩,.string ⟨r.currency.toArray⟩,.slice A p.pre.length c,.slice B p.suf.length d,.slice C p.npre.length a,.slice D p.nsuf.length b,.int .i64 p.num.prim,.int .i64 p.num.sec,.int .i64 p.num.minInt,.int .i64 p.num.minFrac,.int .i64 p.num.maxFrac]:=h.box.range
theorem Lw.itm (h:Lw W g lb r p A B C D c d a b) (hK:Knd r p) {X Y:Option Addr} {cx cy:Nat} {e0:Dr} (hd:DrR W X Y e0) (hi:e0.int.length≤5000) (hf:e0.frac.length≤5000) :
  Calls Tryz.prog 53 #[.pointer (some ⟨g,0,none⟩),.agg ([.bool e0.neg,.slice X e0.int.length cx,.bool e0.sep,.slice Y e0.frac.length cy]:List Value).toArray] W fun e w'=>∃ E cE,e=.returned (.slice E (itemsF (locOf r p) e0).length cE)∧Row w' E (itsV (itemsF (locOf r p) e0))∧Ext W w':=by
 obtain ⟨A',B',C',D',c',d',a',b',hl⟩:=h.loc
 exact (item_items5 g A' B' C' D' X Y c' d' a' b' cx cy e0 (locOf r p) W hl hK.both.may.b hK.num hd hi hf).mono fun e w' ⟨E,cE,h1,h2⟩=>⟨E,cE,h1,h2.row,h2.ext⟩
end
def rL17:Rec:=⟨[101,110],[36,35,44,35,35,48,46,48,48],[108,97,116,110],[46],[44],[45],[],[]⟩
def pL17:Pt:=(refP rL17.pattern).getD lives1
def rL18:Rec:=⟨[100,101],[35,44,35,35,48,46,48,48,32,194,164],[108,97,116,110],[44],[46],[45],[],[226,130,172]⟩
def pL18:Pt:=(refP rL18.pattern).getD lives1
theorem l17_b:((refP rL17.pattern).isSome && okB (parseF rL17.pattern) pL17)=true:=by decide +kernel
theorem l17_small:(decide (rL17.pattern.length≤1000) && nameZ rL17.name && pcsB pL17)=true:=by decide +kernel
theorem l17_may:mayB (locOf rL17 pL17)=true:=by decide +kernel
theorem l17_val:valOk pL17=true:=by decide +kernel
theorem l17_num:numB pL17=true:=by decide +kernel
theorem l18_b:((refP rL18.pattern).isSome && okB (parseF rL18.pattern) pL18)=true:=by decide +kernel
theorem l18_small:(decide (rL18.pattern.length≤1000) && nameZ rL18.name && pcsB pL18)=true:=by decide +kernel
theorem l18_may:mayB (locOf rL18 pL18)=true:=by decide +kernel
theorem l18_val:valOk pL18=true:=by decide +kernel
theorem both_of {r:Rec} (h:((refP r.pattern).isSome && okB (parseF r.pattern) ((refP r.pattern).getD lives1))=true) (hs:(decide (r.pattern.length≤1000) && nameZ r.name && pcsB ((refP r.pattern).getD lives1))=true)
  (hm:mayB (locOf r ((refP r.pattern).getD lives1))=true) (hv:valOk ((refP r.pattern).getD lives1)=true):Both r ((refP r.pattern).getD lives1):=by
 rw [Bool.and_eq_true] at h
 unfold pcsB at hs
 simp only [Bool.and_eq_true,decide_eq_true_eq,List.all_eq_true] at hs
 refine ⟨okB_eq h.2,?_,hs.1.1,hs.1.2,may_of hm,hs.2.1,fun q hq x hx=>⟨((hs.2.2 q hq) x hx).1.1,((hs.2.2 q hq) x hx).1.2,((hs.2.2 q hq) x hx).2⟩,valOk_of hv⟩
 cases hr:refP r.pattern with
 | none=>rw [hr] at h;cases h.1
 | some p=>rfl
theorem both_17:Both rL17 pL17:=both_of l17_b l17_small l17_may l17_val
theorem both_18:Both rL18 pL18:=both_of l18_b l18_small l18_may l18_val
theorem num_17:0≤pL17.num.prim∧pL17.num.prim≤100∧0≤pL17.num.sec∧pL17.num.sec≤100:=by
 have hb:=l17_num
 unfold numB at hb
 simp only [Bool.and_eq_true,decide_eq_true_eq] at hb
 exact ⟨hb.1.1.1,hb.1.1.2,hb.1.2,hb.2⟩
def okDr (x:Option Dr) (n:Bool) (i:List Int) (s:Bool) (f:List Int):Bool:=match x with
 | some d=>decide (d.neg=n) && decide (d.int=i) && decide (d.sep=s) && decide (d.frac=f)
 | none=>false
theorem okDr_eq {x:Option Dr} {n:Bool} {i:List Int} {s:Bool} {f:List Int} (h:okDr x n i s f=true):x=some ⟨n,i,s,f⟩:=by
 cases x with
 | none=>cases h
 | some d =>
  obtain ⟨a,b,c,e⟩:=d
  unfold okDr at h
  simp only [Bool.and_eq_true,decide_eq_true_eq] at h
  obtain ⟨⟨⟨rfl,rfl⟩,rfl⟩,rfl⟩:=h
  rfl
theorem read17a_:okDr (refF (locOf rL17 pL17) [36,48,49,44,50,51,52,46,53,48]) false [0,1,2,3,4] true [5,0]=true:=by decide +kernel
theorem read17a:refF (locOf rL17 pL17) [36,48,49,44,50,51,52,46,53,48]=some ⟨false,[0,1,2,3,4],true,[5,0]⟩:=okDr_eq read17a_
theorem read17b_:(refF (locOf rL17 pL17) [36,49,50,51,52]).isNone=true:=by decide +kernel
theorem read17b:refF (locOf rL17 pL17) [36,49,50,51,52]=none:=Option.isNone_iff_eq_none.1 read17b_
end Go.Proofs.YtcghgkagpkmpeaaGreatDoor.Loc
