/- Joined by wip/join.py: PRj PRh. -/
import Derived.Test.YtcghgkagpkmpeaaGreatDoorJPat4
import Derived.Test.YtcghgkagpkmpeaaGreatDoorJPRa
set_option linter.unusedVariables false
set_option linter.unusedSimpArgs false
set_option maxHeartbeats 4000000
namespace Go.Proofs.YtcghgkagpkmpeaaGreatDoor.Pat
open Go.RowKit Utf All Small Strs Build EncC
def litsJ (t:List UInt8):List Pc:=if t=[] then [] else [(0,t)]
def endsP (acc:List Pc):Prop:=∀ q,acc.getLast? = some q→q.1 ≠ 0
theorem endsP_snoc (acc:List Pc) (p:Pc) (h:p.1 ≠ 0):endsP (acc++[p]):=by
 intro q hq;simp at hq;subst hq;exact h
theorem lit_step {acc:List Pc} {t u:List UInt8} (h:endsP acc) (hu:u ≠ []):joinStep (acc++litsJ t) (0,u)=acc++litsJ (t++u):=by
 have hne:t++u ≠ []:=by intro e;simp at e;exact hu e.2
 unfold litsJ
 rw [if_neg hne]
 by_cases ht:t=[]
 ·subst ht
  rw [if_pos rfl,List.append_nil,List.nil_append]
  cases hl:acc.getLast? with
  | none =>
   have:acc=[]:=List.getLast?_eq_none_iff.1 hl
   subst this
   rw [joinStep_nil rfl];rfl
  | some q=>rw [joinStep_new rfl hl (h q hl)]
 ·rw [if_neg ht,joinStep_more (q:=(0,t)) rfl (by simp) rfl]
  simp
theorem place_step {acc:List Pc} {t:List UInt8} {k:Int} {u:List UInt8} (hk:k ≠ 0):joinStep (acc++litsJ t) (k,u)=acc++litsJ t++[(k,[])]:=joinStep_place hk
theorem litsJ_some {t:List UInt8} (h:t ≠ []):litsJ t=[(0,t)]:=if_neg h
theorem litsJ_nil:litsJ []=[]:=rfl
set_option maxRecDepth 100000
theorem joined_ref (A:Option Addr) (c:Nat) (l:List Pc) (w:World) (hr:Row w A (pcsV l)) (hl:l.length≤1000000) (ht:tot l≤1000000) (hne:∀ p ∈ l,p.2 ≠ []) :
  Calls Tryz.prog 199 #[.slice A l.length c] w fun e w'=>∃ B d,e=.returned (.slice B (joinF l).length d)∧Row w' B (pcsV (joinF l))∧(joinF l).length≤d∧Okc B d∧Fresh w B∧Ext w w':=by
 have HNE:=Lib.hid hne
 clear hne
 go_enter Tryz.func199,Tryz.ntmps199
 go_wp2
 go_loopw [3,4,5] (fun out tx i wr=>∃ (k:Nat) (acc:List Pc) (t:List UInt8) (B:Option Addr) (d:Nat),k≤l.length∧i=.int .i64 k∧tx=.string ⟨t.toArray⟩∧out=.slice B acc.length d∧Acc 221 2 w wr B d acc.length (pcsV acc)∧acc.length≤2 * k∧t.length≤tot (l.take k)∧endsP acc∧Hid (joinF (l.take k)=acc++litsJ t)) (fun _ _ i _=>l.length - (intOf i).toNat)
 case atStart=>exact ⟨0,[],[],none,0,Nat.zero_le _,rfl,rfl,rfl,Acc.start _ _ _,by simp,by simp,(fun q h=>by simp at h),Lib.hid rfl⟩
 case round =>
  obtain ⟨k,acc,t,B,d,hk,rfl,rfl,rfl,hacc,hak,htl,hend,HK⟩:=hrel
  have HEND:=Lib.hid hend
  clear hend
  by_cases hlt:k < l.length
  ·obtain ⟨b,off,rfl,hw1,hw2⟩:=row_pc hr hlt
   have hc1:=Ext.cell_ hacc.ext hw1
   have hc2:=Ext.cell_ hacc.ext hw2
   have HJ:Hid (joinF (l.take (k+1))=joinStep (acc++litsJ t) l[k]):=Lib.hid (by rw [joinF_take l k hlt,HK.out])
   have HTT:Hid (tot (l.take (k+1))=tot (l.take k)+l[k].2.length):=Lib.hid (by rw [List.take_succ_eq_append_getElem hlt,tot_app,tot_one])
   have htk:=tot_take l k
   have htk1:=tot_take l (k+1)
   have hx0:=HNE.out _ (List.getElem_mem hlt)
   have hbig:=hacc.cap
   generalize l[k]=x at *
   obtain ⟨xk,xt⟩:=x
   dsimp only at hc1 hc2 hw1 hw2 hx0 HTT
   have hxt:xt.length≤1000000:=by have:=HTT.out;omega
   clear HK
   by_cases hk0:xk=0
   ·subst hk0
    have HJ2:Hid (joinF (l.take (k+1))=acc++litsJ (t++xt)):=Lib.hid (by rw [HJ.out,lit_step HEND.out hx0])
    clear HJ
    go_wp2
    refine ⟨?_,by simp [intOf] <;> omega⟩
    exact ⟨k+1,acc,t++xt,B,d,by omega,by go_num,by rw [app_mk],rfl,hacc,by omega,by rw [List.length_append,HTT.out];omega,HEND.out,HJ2⟩
   ·have hkb:(xk == 0)=false:=by simpa using hk0
    have HJ2:Hid (joinF (l.take (k+1))=acc++litsJ t++[(xk,[])]):=Lib.hid (by rw [HJ.out,place_step hk0])
    have HE2:Hid (endsP (acc++litsJ t++[(xk,[])])):=Lib.hid (endsP_snoc _ _ hk0)
    clear HJ hk0
    by_cases ht0:t=[]
    ·subst ht0
     go_wp2_with (at_builtin;refine wp_app ei_b rfl (.tmp 32) (.tmp 39) rfl w _ B d acc.length _ rfl hacc [.int .i64 xk,.string ⟨#[]⟩] 1 1 (by rfl) rfl (by simp [Value.oneCell']) (by omega) (by unfold maxLen;omega) ?_;intro A1 c1 w3 hacc3 _ _;clear hacc)
     refine ⟨?_,by simp [intOf] <;> omega⟩
     exact ⟨k+1,acc++[(xk,[])],[],A1,c1,by omega,by go_num,rfl,by simp,by rw [pcsV_app,pcsV_one];simpa using hacc3,by simp;omega,by simp,by have:=HE2.out;simpa [litsJ_nil] using this,Lib.hid (by rw [HJ2.out];simp [litsJ_nil])⟩
    ·obtain ⟨y,ys,rfl⟩:∃ y ys,t=y :: ys:=by
      cases t with
      | nil=>exact absurd rfl ht0
      | cons y ys=>exact ⟨y,ys,rfl⟩
     clear ht0
     have hlt3:acc.length+1≤2 * k+1:=by omega
     go_wp2_with (first
      | (at_builtin;refine wp_app ei_b rfl (.tmp 27) (.tmp 30) rfl w _ B d acc.length _ rfl hacc [.int .i64 0,.string ⟨(y :: ys).toArray⟩] 1 1 (by rfl) rfl (by simp [Value.oneCell']) (by omega) (by unfold maxLen;omega) ?_;intro A1 c1 w3 hacc3 _ _;have q1:=Ext.cell_ hacc3.ext hw1;have q2:=Ext.cell_ hacc3.ext hw2;clear hacc hc1 hc2)
      | (at_builtin;refine wp_app ei_b rfl (.tmp 32) (.tmp 39) rfl w _ A1 c1 (acc.length+1) _ rfl hacc3 [.int .i64 xk,.string ⟨#[]⟩] 1 1 (by rfl) rfl (by simp [Value.oneCell']) (by omega) (by unfold maxLen;omega) ?_;intro A2 c2 w4 hacc4 _ _;clear hacc3))
     refine ⟨?_,by simp [intOf] <;> omega⟩
     exact ⟨k+1,acc++[(0,y :: ys)]++[(xk,[])],[],A2,c2,by omega,by go_num,rfl,by simp,by rw [pcsV_app,pcsV_app,pcsV_one,pcsV_one];simpa using hacc4,by simp;omega,by simp,by have:=HE2.out;rwa [litsJ_some (by simp)] at this,Lib.hid (by rw [HJ2.out,litsJ_some (by simp)];simp [litsJ_nil])⟩
  ·have e:k=l.length:=by omega
   subst e
   rw [List.take_length] at HK htl
   have hbig:=hacc.cap
   by_cases ht0:t=[]
   ·subst ht0
    have HF:Hid (joinF l=acc):=Lib.hid (by rw [HK.out];simp [litsJ_nil])
    go_wp2
    go_ret
    exact ⟨B,d,by rw [HF.out];rfl,by rw [HF.out];exact hacc.row,by rw [HF.out];exact hacc.cap.1,Acc.okc hacc,Acc.fresh hacc,hacc.ext⟩
   ·obtain ⟨y,ys,rfl⟩:∃ y ys,t=y :: ys:=by
     cases t with
     | nil=>exact absurd rfl ht0
     | cons y ys=>exact ⟨y,ys,rfl⟩
    have HF:Hid (joinF l=acc++[(0,y :: ys)]):=Lib.hid (by rw [HK.out,litsJ_some (by simp)])
    clear ht0
    go_wp2_with (at_builtin;refine wp_app ei_b rfl (.tmp 43) (.tmp 46) rfl w _ B d acc.length _ rfl hacc [.int .i64 0,.string ⟨(y :: ys).toArray⟩] 1 1 (by rfl) rfl (by simp [Value.oneCell']) (by omega) (by unfold maxLen;omega) ?_;intro A1 c1 w3 hacc3 _ _;clear hacc)
    go_ret
    exact ⟨A1,c1,by rw [HF.out];simp,by rw [HF.out,pcsV_app,pcsV_one];exact hacc3.row,by rw [HF.out];simpa using hacc3.cap.1,Acc.okc hacc3,Acc.fresh hacc3,hacc3.ext⟩
set_option maxRecDepth 512
def OkL (n:Nat) (B:Option Addr) (d:Nat):Prop:=Okc B d∧n≤d
theorem joined_refn (A:Option Addr) (c n:Nat) (l:List Pc) (w:World) (hn:l.length=n) (hr:Row w A (pcsV l)) (hl:l.length≤1000000) (ht:tot l≤1000000) (hne:∀ p ∈ l,p.2 ≠ []) :
  Calls Tryz.prog 199 #[.slice A n c] w fun e w'=>∃ B d,e=.returned (.slice B (joinF l).length d)∧Row w' B (pcsV (joinF l))∧(joinF l).length≤d∧Okc B d∧Fresh w B∧Ext w w':=by
 subst hn;exact joined_ref A c l w hr hl ht hne
set_option maxRecDepth 100000
theorem none_ref (A:Option Addr) (c:Nat) (p:List Pc) (S2 S3 S4:Value) (x:Nums) (w:World) (hA:Row w A (pcsV p)) (hcA:Okc A c) (hp:p.length≤1000000) :
  Calls Tryz.prog 175 #[.agg (patC (.slice A p.length c) S2 S3 S4 x).toArray] w fun e w'=>∃ B d,e=.returned (.slice B (p.length+1) d)∧Row w' B (pcsV ((3,[]) :: p))∧OkL (p.length+1) B d∧Fresh w B∧Ext w w':=by
 have hb1:=Box.new w 29 (patC (.slice A p.length c) S2 S3 S4 x)
 have hx1:Ext w (w.alloc (.cells (patC (.slice A p.length c) S2 S3 S4 x).toArray 29)):=Ext.alloc_ (Ext.refl w) _
 have HL:=Lib.hid (pcsV_len p)
 go_enter Tryz.func175,Tryz.ntmps175
 go_upto_region 1 with fail
 change Code.wp _ _ _ _ (w.alloc (.cells (patC (.slice A p.length c) S2 S3 S4 x).toArray 29))
 generalize w.alloc (.cells (patC (.slice A p.length c) S2 S3 S4 x).toArray 29)=w1 at *
 have k0:=hb1.cell (j:=0) (v:=.slice A p.length c) rfl
 have hacc:=Acc.start 221 2 w1
 have HX:=Lib.hid hx1
 clear hx1 hb1
 go_wp2_with (first
  | (at_builtin;refine wp_app ei_b rfl (.tmp 4) (.tmp 6) rfl w1 _ none 0 0 _ rfl hacc [.int .i64 3,.string ⟨#[]⟩] 1 1 (by rfl) rfl (by simp [Value.oneCell']) (by omega) (by unfold maxLen;omega) ?_;intro A1 c1 w3 hacc3 _ _;have q0:=Ext.cell_ hacc3.ext k0;clear hacc)
  | (at_builtin;refine wp_src ei_b rfl (.tmp 8) (.tmp 10) rfl w1 _ A1 c1 1 _ rfl hacc3 A p.length c (pcsV p) rfl (hA.below (HX.out.trans hacc3.ext) (Nat.le_refl _)) hcA (by rw [HL.out];omega) (pcs_oneCell p) (by omega) (by unfold maxLen;omega) ?_;intro A2 c2 w4 hacc4 _;clear hacc3))
 go_ret
 have hlen:0+1+p.length=p.length+1:=by omega
 exact ⟨A2,c2,by rw [Nat.add_comm];rfl,hacc4.row,⟨Acc.okc hacc4,by have:=hacc4.cap.1;omega⟩,fresh_weak (Acc.fresh hacc4) HX.out.size,HX.out.trans hacc4.ext⟩
set_option maxRecDepth 512
theorem text_at {l:List Pc} {n j:Nat} (h:n+j < l.length):textOf ((l.drop n).take (j+1))=textOf ((l.drop n).take j)++l[n+j].2:=by
 have hj:j < (l.drop n).length:=by simp;omega
 rw [List.take_succ_eq_append_getElem hj]
 have e:∀ a b:List Pc,textOf (a++b)=textOf a++textOf b:=fun a b=>List.flatMap_append
 rw [e]
 simp [textOf]
theorem number_l (l:List UInt8) (t:NSt) (w:World) (hs:l.length≤10000) (hrun:runN st0 l=some t) (hend:endN t=true) (hlong:longN t=false) :
  Calls Tryz.prog 198 #[.string ⟨l.toArray⟩] w fun e w'=>e=.returned (.tuple #[.agg (patC nilS nilS nilS nilS (numsN t)).toArray,.bool true,.bool false])∧Ext w w' :=
 number_ref ⟨l.toArray⟩ t w hs hrun hend hlong
set_option maxRecDepth 1000000
theorem half_ref (A:Option Addr) (c n0 n1:Nat) (l:List Pc) (t:NSt) (w:World) (hr:Row w A (pcsV l)) (hl:l.length≤10000) (hlc:l.length≤c) (hcm:c≤maxLen) (h01:n0 < n1) (h12:n1≤l.length)
  (k1:∀ k (h:k < l.length),k < n0→(l[k].1 == 4)=false) (k2:∀ k (h:k < l.length),n0≤k→k < n1→(l[k].1 == 4)=true) (k3:∀ k (h:k < l.length),n1≤k→(l[k].1 == 4)=false)
  (htot:tot l≤10000) (hne:∀ p ∈ l,p.2 ≠ []) (hrun:runN st0 (textOf ((l.drop n0).take (n1 - n0)))=some t) (hend:endN t=true) (hlong:longN t=false) :
  Calls Tryz.prog 174 #[.slice A l.length c] w fun e w'=>∃ B1 d1 B2 d2,e=.returned (.tuple #[.agg (patC (.slice B1 (joinF (l.take n0)).length d1) (.slice B2 (joinF (l.drop n1)).length d2) nilS nilS (numsN t)).toArray,.bool true,.bool false]) ∧
   Row w' B1 (pcsV (joinF (l.take n0)))∧Row w' B2 (pcsV (joinF (l.drop n1)))∧OkL (joinF (l.take n0)).length B1 d1∧OkL (joinF (l.drop n1)).length B2 d2∧Fresh w B1∧Fresh w B2∧Ext w w':=by
 have hb1:=Box.new w 29 (pN 0 0)
 have hx1:Ext w (w.alloc (.cells (pN 0 0).toArray 29)):=Ext.alloc_ (Ext.refl w) _
 have hr1:=hr.below hx1 (Nat.le_refl _)
 have hw1:(w.alloc (.cells (pN 0 0).toArray 29)).heap.size=w.heap.size+1:=by simp
 have HW1:=Lib.hid hw1
 clear hw1
 have K1:=Lib.hid k1
 have K2:=Lib.hid k2
 have K3:=Lib.hid k3
 have HRUN:=Lib.hid hrun
 clear k1 k2 k3 hrun
 go_enter Tryz.func174,Tryz.ntmps174
 go_wp2
 change Code.wp _ _ _ _ (w.alloc (.cells (pN 0 0).toArray 29))
 generalize w.alloc (.cells (pN 0 0).toArray 29)=w1 at *
 go_loop [5] (fun i=>∃ k:Nat,k≤n0∧i=.int .i64 k) (fun i=>n0 - (intOf i).toNat)
 case atStart=>exact ⟨0,Nat.zero_le _,rfl⟩
 case round =>
  obtain ⟨k,hk,rfl⟩:=hrel
  have hkl:k < l.length:=by omega
  obtain ⟨b,off,rfl,hc1,hc2⟩:=row_pc hr1 hkl
  by_cases hlt:k < n0
  ·have hb4:=K1.out k hkl hlt
   generalize l[k]=x at *
   have g1:(k:Int) < (l.length:Int):=by omega
   go_wp2
   go_round
   case rel=>exact ⟨k+1,by omega,by go_num⟩
   case measure=>simp [intOf];omega
  ·have e:k=n0:=by omega
   subst e
   have hb4:=K2.out k hkl (Nat.le_refl _) h01
   generalize hxx:l[k]=x at hb4 hc1 hc2
   clear hxx
   have g1:(k:Int) < (l.length:Int):=by omega
   go_wp2
   go_loop [6,7] (fun i s=>∃ m:Nat,k≤m∧m≤n1∧i=.int .i64 m∧s=.string ⟨(textOf ((l.drop k).take (m - k))).toArray⟩∧(textOf ((l.drop k).take (m - k))).length≤tot l) (fun i _=>n1 - (intOf i).toNat)
   case atStart=>exact ⟨k,Nat.le_refl _,by omega,rfl,by simp [textOf],by simp [textOf]⟩
   case round =>
    obtain ⟨m,hm0,hm1,rfl,rfl,hle⟩:=hrel
    by_cases hmn:m < n1
    ·have hml:m < l.length:=by omega
     obtain ⟨_,_,e1,hd1,hd2⟩:=row_pc hr1 hml
     injection e1 with e1
     injection e1 with e1 e2
     subst e1;subst e2
     have hb5:=K2.out m hml hm0 hmn
     have HTX:Hid (textOf ((l.drop k).take (m+1 - k))=textOf ((l.drop k).take (m - k))++l[m].2):=Lib.hid (by
      have h:=text_at (l:=l) (n:=k) (j:=m - k) (by omega)
      have e1:k+(m - k)=m:=by omega
      have e2:m+1 - k=m - k+1:=by omega
      rw [e2,h]
      simp only [e1])
     have htl:(textOf ((l.drop k).take (m+1 - k))).length≤tot l:=by
      rw [textOf_len]
      exact Nat.le_trans (tot_take _ _) (tot_drop _ _)
     have htl2:l[m].2.length≤tot l:=tot_mem (List.getElem_mem hml)
     generalize l[m]=y at *
     have g2:(m:Int) < (l.length:Int):=by omega
     go_wp2
     go_round
     case rel=>exact ⟨m+1,by omega,by omega,by go_num,by rw [HTX.out,app_mk],htl⟩
     case measure=>simp [intOf];omega
    ·have em:m=n1:=by omega
     subst em
     by_cases hml:m < l.length
     ·obtain ⟨_,_,e1,hd1,hd2⟩:=row_pc hr1 hml
      injection e1 with e1
      injection e1 with e1 e2
      subst e1;subst e2
      have hb5:=K3.out m hml (Nat.le_refl _)
      generalize hyy:l[m]=y at hb5 hd1 hd2
      clear hyy
      have g2:(m:Int) < (l.length:Int):=by omega
      have hct:¬ c=m:=by omega
      go_wp2
      go_loop [8] (fun i=>∃ u:Nat,m≤u∧u≤l.length∧i=.int .i64 u) (fun i=>l.length - (intOf i).toNat)
      case atStart=>exact ⟨m,Nat.le_refl _,h12,rfl⟩
      case round =>
       obtain ⟨i,hi1,hi2,rfl⟩:=hrel
       by_cases hil:i < l.length
       ·obtain ⟨_,_,e1,hd1,hd2⟩:=row_pc hr1 hil
        injection e1 with e1
        injection e1 with e1 e2
        subst e1;subst e2
        have hb6:=K3.out i hil hi1
        generalize l[i]=y at *
        have g3:(i:Int) < (l.length:Int):=by omega
        go_wp2
        go_round
        case rel=>exact ⟨i+1,by omega,by omega,by go_num⟩
        case measure=>simp [intOf];omega
       ·have ei:i=l.length:=by omega
        subst ei
        go_wp2_with fail
        refine (number_l _ t w1 (by omega) HRUN.out hend hlong).mono ?_;rintro e w2 ⟨rfl,hx2⟩
        have hn5:=Box.new w2 29 (patC nilS nilS nilS nilS (numsN t))
        have hxa:Ext w1 (w2.alloc (.cells (patC nilS nilS nilS nilS (numsN t)).toArray 29)):=Ext.alloc_ hx2 _
        have hz3:(w2.alloc (.cells (patC nilS nilS nilS nilS (numsN t)).toArray 29)).heap.size=w2.heap.size+1:=by simp
        have HZ3:=Lib.hid hz3
        have HN5:=Lib.hid hn5
        have HXA:=Lib.hid hxa
        have HX2:=Lib.hid hx2
        have i1:(0:Int)≤(k:Int):=by omega
        have i2:(k:Int)≤(c:Int):=by omega
        have i3:k≤c:=by omega
        have i4:(0:Int)≤(m:Int):=by omega
        have i5:(m:Int)≤(l.length:Int):=by omega
        have i6:(m:Int)≤(c:Int):=by omega
        have i7:m≤c:=by omega
        clear hz3 hn5 hxa hx2
        go_wp2_with (refine wpList_store_fresh rfl 29 (.tmp 9) (.tmp 65) rfl (patC nilS nilS nilS nilS (numsN t)).toArray 29 _ rfl rfl infoP rfl pat_one ?_)
        refine (joined_refn (some ⟨b,off,none⟩) c k (l.take k) _ (by simp;omega) (row_take (hr1.below HXA.out (Nat.le_refl _)) k) (by simp;omega) (Nat.le_trans (tot_take l k) (by omega)) (fun p hp=>hne p (List.mem_of_mem_take hp))).mono ?_
        rintro e w4 ⟨B1,d1,rfl,hB1,hB2,hB3,hB4,hx4⟩
        have q4:=HN5.out.ext hx4
        have q0:=q4.cell (j:=0) (v:=nilS) rfl
        have fr0:=q4.frozen 0
        have q5:=q4.setCell 0 (.slice B1 (joinF (l.take k)).length d1)
        have hx4':Ext w1 (w4.setCell ⟨w2.heap.size,0,none⟩ (.slice B1 (joinF (l.take k)).length d1)):=Ext.setCell_ (HXA.out.trans hx4) HX2.out.size _ _
        have hB1':Row (w4.setCell ⟨w2.heap.size,0,none⟩ (.slice B1 (joinF (l.take k)).length d1)) B1 (pcsV (joinF (l.take k))):=Row.only hB1 ((OnlyB.of_ext (Ext.refl w4)).setCell 0 _) (fun b' off' e _=>by have h1:=hB4 _ e;have h2:=HZ3.out;simp at h1;omega)
        have HQ5:=Lib.hid q5
        have HX4:=Lib.hid hx4'
        have HB1:=Lib.hid hB1'
        have hsz4:w2.heap.size+1≤w4.heap.size:=by have h1:=hx4.size;have h2:=HZ3.out;omega
        clear q4 q5 hx4' hB1' hB1 hx4
        unfold nilS at q0
        go_wp2_with fail
        refine (joined_refn _ _ (l.length - m) (l.drop m) _ (by simp) (by first | exact row_drop (hr1.below HX4.out (Nat.le_refl _)) m | (rw [List.drop_of_length_le (by omega)];exact Row.nil)) (by simp;omega) (Nat.le_trans (tot_drop l m) (by omega)) (fun p hp=>hne p (List.mem_of_mem_drop hp))).mono ?_
        rintro e w5 ⟨B2,d2,rfl,hC1,hC2,hC3,hC4,hx5⟩
        have hsw:w1.heap.size=w.heap.size+1:=HW1.out
        have hsw2:=HX2.out.size
        have p5:=HQ5.out.ext hx5
        have p1:=p5.cell (j:=1) (v:=nilS) rfl
        have fr1:=p5.frozen 1
        have p6:Box (w5.setCell ⟨w2.heap.size,1,none⟩ (.slice B2 (joinF (l.drop m)).length d2)) w2.heap.size 29 (patC (.slice B1 (joinF (l.take k)).length d1) (.slice B2 (joinF (l.drop m)).length d2) nilS nilS (numsN t)):=p5.setCell 1 (.slice B2 (joinF (l.drop m)).length d2)
        have hres:Box (w5.setCell ⟨w2.heap.size,1,none⟩ (.slice B2 (joinF (l.drop m)).length d2)) w.heap.size 29 (pN 0 0):=(hb1.ext (HX4.out.trans hx5)).setCell1 w2.heap.size _ (by omega) 1
        have hxw:Ext w (w5.setCell ⟨w2.heap.size,1,none⟩ (.slice B2 (joinF (l.drop m)).length d2)):=Ext.setCell_ (hx1.trans (HX4.out.trans hx5)) (by omega) _ _
        have hs5:w4.heap.size≤(w4.setCell ⟨w2.heap.size,0,none⟩ (.slice B1 (joinF (l.take k)).length d1)).heap.size:=by simp
        have nB1:∀ b' off',B1=some ⟨b',off',none⟩→w2.heap.size+1≤b':=fun b' off' e=>by have h1:=hB4 _ e;have h2:=HZ3.out;simp at h1;omega
        have nB2:∀ b' off',B2=some ⟨b',off',none⟩→w2.heap.size+1≤b':=fun b' off' e=>by have h1:=hC4 _ e;have h2:w4.heap.size≤b':=Nat.le_trans hs5 h1;omega
        have rB1:Row (w5.setCell ⟨w2.heap.size,1,none⟩ (.slice B2 (joinF (l.drop m)).length d2)) B1 (pcsV (joinF (l.take k))):=Row.only (HB1.out.below hx5 (Nat.le_refl _)) ((OnlyB.of_ext (Ext.refl w5)).setCell 1 _) (fun b' off' e _=>by have:=nB1 b' off' e;omega)
        have rB2:Row (w5.setCell ⟨w2.heap.size,1,none⟩ (.slice B2 (joinF (l.drop m)).length d2)) B2 (pcsV (joinF (l.drop m))):=Row.only hC1 ((OnlyB.of_ext (Ext.refl w5)).setCell 1 _) (fun b' off' e _=>by have:=nB2 b' off' e;omega)
        have HRR:=Lib.hid p6.range
        have HRES:=Lib.hid hres
        have HXW:=Lib.hid hxw
        have RB1:=Lib.hid rB1
        have RB2:=Lib.hid rB2
        have NB1:=Lib.hid nB1
        have NB2:=Lib.hid nB2
        clear p5 p6 hres hxw rB1 rB2 nB1 nB2 hs5 hsw
        unfold nilS at p1
        go_wp2_with (first
         | (refine wpList_load_mid rfl 29 (.tmp 9) rfl w2.heap.size 0 rfl (patC (.slice B1 (joinF (l.take k)).length d1) (.slice B2 (joinF (l.drop m)).length d2) nilS nilS (numsN t)) _ HRR.out Tryz.underlying29 rfl infoP ?_)
         | (refine wpList_store_row rfl 29 (.tmp 2) (.tmp 78) rfl w.heap.size (patC (.slice B1 (joinF (l.take k)).length d1) (.slice B2 (joinF (l.drop m)).length d2) nilS nilS (numsN t)).toArray rfl rfl _ _ HRES.out infoP rfl pat_one ?_))
        have hb8:=HRES.out.set (patC (.slice B1 (joinF (l.take k)).length d1) (.slice B2 (joinF (l.drop m)).length d2) nilS nilS (numsN t)).toArray
        refine bodyPost_ret (results_num rfl _ _ w.heap.size _ rfl hb8 rfl) rfl ?_
        have hsw:=HW1.out
        exact ⟨B1,d1,B2,d2,rfl,Row.setRow RB1.out (fun b' off' e=>by have:=NB1.out b' off' e;omega),Row.setRow RB2.out (fun b' off' e=>by have:=NB2.out b' off' e;omega),⟨hB3,hB2⟩,⟨hC3,hC2⟩,(fun a' e'=>by have h1:=hB4 a' e';have h2:=HZ3.out;have h3:=HX2.out.size;simp at h1;omega),(fun a' e'=>by have h1:=hC4 a' e';simp at h1;omega),Ext.setRow HXW.out (Nat.le_refl _) _⟩
     ·have g2:¬ ((m:Int) < (l.length:Int)):=by omega
      by_cases hct:c=m
      ·subst hct
       go_wp2
       go_loop [8] (fun i=>∃ u:Nat,c≤u∧u≤l.length∧i=.int .i64 u) (fun i=>l.length - (intOf i).toNat)
       case atStart=>exact ⟨c,Nat.le_refl _,h12,rfl⟩
       case round =>
        obtain ⟨i,hi1,hi2,rfl⟩:=hrel
        by_cases hil:i < l.length
        ·exfalso;omega
        ·have ei:i=l.length:=by omega
         subst ei
         go_wp2_with fail
         refine (number_l _ t w1 (by omega) HRUN.out hend hlong).mono ?_;rintro e w2 ⟨rfl,hx2⟩
         have hn5:=Box.new w2 29 (patC nilS nilS nilS nilS (numsN t))
         have hxa:Ext w1 (w2.alloc (.cells (patC nilS nilS nilS nilS (numsN t)).toArray 29)):=Ext.alloc_ hx2 _
         have hz3:(w2.alloc (.cells (patC nilS nilS nilS nilS (numsN t)).toArray 29)).heap.size=w2.heap.size+1:=by simp
         have HZ3:=Lib.hid hz3
         have HN5:=Lib.hid hn5
         have HXA:=Lib.hid hxa
         have HX2:=Lib.hid hx2
         have i1:(0:Int)≤(k:Int):=by omega
         have i2:(k:Int)≤(c:Int):=by omega
         have i3:k≤c:=by omega
         have i4:(0:Int)≤(c:Int):=by omega
         have i5:(c:Int)≤(l.length:Int):=by omega
         have i6:(c:Int)≤(c:Int):=by omega
         have i7:c≤c:=by omega
         clear hz3 hn5 hxa hx2
         go_wp2_with (refine wpList_store_fresh rfl 29 (.tmp 9) (.tmp 65) rfl (patC nilS nilS nilS nilS (numsN t)).toArray 29 _ rfl rfl infoP rfl pat_one ?_)
         refine (joined_refn (some ⟨b,off,none⟩) c k (l.take k) _ (by simp;omega) (row_take (hr1.below HXA.out (Nat.le_refl _)) k) (by simp;omega) (Nat.le_trans (tot_take l k) (by omega)) (fun p hp=>hne p (List.mem_of_mem_take hp))).mono ?_
         rintro e w4 ⟨B1,d1,rfl,hB1,hB2,hB3,hB4,hx4⟩
         have q4:=HN5.out.ext hx4
         have q0:=q4.cell (j:=0) (v:=nilS) rfl
         have fr0:=q4.frozen 0
         have q5:=q4.setCell 0 (.slice B1 (joinF (l.take k)).length d1)
         have hx4':Ext w1 (w4.setCell ⟨w2.heap.size,0,none⟩ (.slice B1 (joinF (l.take k)).length d1)):=Ext.setCell_ (HXA.out.trans hx4) HX2.out.size _ _
         have hB1':Row (w4.setCell ⟨w2.heap.size,0,none⟩ (.slice B1 (joinF (l.take k)).length d1)) B1 (pcsV (joinF (l.take k))):=Row.only hB1 ((OnlyB.of_ext (Ext.refl w4)).setCell 0 _) (fun b' off' e _=>by have h1:=hB4 _ e;have h2:=HZ3.out;simp at h1;omega)
         have HQ5:=Lib.hid q5
         have HX4:=Lib.hid hx4'
         have HB1:=Lib.hid hB1'
         have hsz4:w2.heap.size+1≤w4.heap.size:=by have h1:=hx4.size;have h2:=HZ3.out;omega
         clear q4 q5 hx4' hB1' hB1 hx4
         unfold nilS at q0
         go_wp2_with fail
         refine (joined_refn _ _ 0 (l.drop c) _ (by simp;omega) (by first | exact row_drop (hr1.below HX4.out (Nat.le_refl _)) c | (rw [List.drop_of_length_le (by omega)];exact Row.nil)) (by simp;omega) (Nat.le_trans (tot_drop l c) (by omega)) (fun p hp=>hne p (List.mem_of_mem_drop hp))).mono ?_
         rintro e w5 ⟨B2,d2,rfl,hC1,hC2,hC3,hC4,hx5⟩
         have hsw:w1.heap.size=w.heap.size+1:=HW1.out
         have hsw2:=HX2.out.size
         have p5:=HQ5.out.ext hx5
         have p1:=p5.cell (j:=1) (v:=nilS) rfl
         have fr1:=p5.frozen 1
         have p6:Box (w5.setCell ⟨w2.heap.size,1,none⟩ (.slice B2 (joinF (l.drop c)).length d2)) w2.heap.size 29 (patC (.slice B1 (joinF (l.take k)).length d1) (.slice B2 (joinF (l.drop c)).length d2) nilS nilS (numsN t)):=p5.setCell 1 (.slice B2 (joinF (l.drop c)).length d2)
         have hres:Box (w5.setCell ⟨w2.heap.size,1,none⟩ (.slice B2 (joinF (l.drop c)).length d2)) w.heap.size 29 (pN 0 0):=(hb1.ext (HX4.out.trans hx5)).setCell1 w2.heap.size _ (by omega) 1
         have hxw:Ext w (w5.setCell ⟨w2.heap.size,1,none⟩ (.slice B2 (joinF (l.drop c)).length d2)):=Ext.setCell_ (hx1.trans (HX4.out.trans hx5)) (by omega) _ _
         have hs5:w4.heap.size≤(w4.setCell ⟨w2.heap.size,0,none⟩ (.slice B1 (joinF (l.take k)).length d1)).heap.size:=by simp
         have nB1:∀ b' off',B1=some ⟨b',off',none⟩→w2.heap.size+1≤b':=fun b' off' e=>by have h1:=hB4 _ e;have h2:=HZ3.out;simp at h1;omega
         have nB2:∀ b' off',B2=some ⟨b',off',none⟩→w2.heap.size+1≤b':=fun b' off' e=>by have h1:=hC4 _ e;have h2:w4.heap.size≤b':=Nat.le_trans hs5 h1;omega
         have rB1:Row (w5.setCell ⟨w2.heap.size,1,none⟩ (.slice B2 (joinF (l.drop c)).length d2)) B1 (pcsV (joinF (l.take k))):=Row.only (HB1.out.below hx5 (Nat.le_refl _)) ((OnlyB.of_ext (Ext.refl w5)).setCell 1 _) (fun b' off' e _=>by have:=nB1 b' off' e;omega)
         have rB2:Row (w5.setCell ⟨w2.heap.size,1,none⟩ (.slice B2 (joinF (l.drop c)).length d2)) B2 (pcsV (joinF (l.drop c))):=Row.only hC1 ((OnlyB.of_ext (Ext.refl w5)).setCell 1 _) (fun b' off' e _=>by have:=nB2 b' off' e;omega)
         have HRR:=Lib.hid p6.range
         have HRES:=Lib.hid hres
         have HXW:=Lib.hid hxw
         have RB1:=Lib.hid rB1
         have RB2:=Lib.hid rB2
         have NB1:=Lib.hid nB1
         have NB2:=Lib.hid nB2
         clear p5 p6 hres hxw rB1 rB2 nB1 nB2 hs5 hsw
         unfold nilS at p1
         go_wp2_with (first
          | (refine wpList_load_mid rfl 29 (.tmp 9) rfl w2.heap.size 0 rfl (patC (.slice B1 (joinF (l.take k)).length d1) (.slice B2 (joinF (l.drop c)).length d2) nilS nilS (numsN t)) _ HRR.out Tryz.underlying29 rfl infoP ?_)
          | (refine wpList_store_row rfl 29 (.tmp 2) (.tmp 78) rfl w.heap.size (patC (.slice B1 (joinF (l.take k)).length d1) (.slice B2 (joinF (l.drop c)).length d2) nilS nilS (numsN t)).toArray rfl rfl _ _ HRES.out infoP rfl pat_one ?_))
         have hb8:=HRES.out.set (patC (.slice B1 (joinF (l.take k)).length d1) (.slice B2 (joinF (l.drop c)).length d2) nilS nilS (numsN t)).toArray
         refine bodyPost_ret (results_num rfl _ _ w.heap.size _ rfl hb8 rfl) rfl ?_
         have hsw:=HW1.out
         exact ⟨B1,d1,B2,d2,rfl,Row.setRow RB1.out (fun b' off' e=>by have:=NB1.out b' off' e;omega),Row.setRow RB2.out (fun b' off' e=>by have:=NB2.out b' off' e;omega),⟨hB3,hB2⟩,⟨hC3,hC2⟩,(fun a' e'=>by have h1:=hB4 a' e';have h2:=HZ3.out;have h3:=HX2.out.size;simp at h1;omega),(fun a' e'=>by have h1:=hC4 a' e';simp at h1;omega),Ext.setRow HXW.out (Nat.le_refl _) _⟩
      ·go_wp2
       go_loop [8] (fun i=>∃ u:Nat,m≤u∧u≤l.length∧i=.int .i64 u) (fun i=>l.length - (intOf i).toNat)
       case atStart=>exact ⟨m,Nat.le_refl _,h12,rfl⟩
       case round =>
        obtain ⟨i,hi1,hi2,rfl⟩:=hrel
        by_cases hil:i < l.length
        ·exfalso;omega
        ·have ei:i=l.length:=by omega
         subst ei
         go_wp2_with fail
         refine (number_l _ t w1 (by omega) HRUN.out hend hlong).mono ?_;rintro e w2 ⟨rfl,hx2⟩
         have hn5:=Box.new w2 29 (patC nilS nilS nilS nilS (numsN t))
         have hxa:Ext w1 (w2.alloc (.cells (patC nilS nilS nilS nilS (numsN t)).toArray 29)):=Ext.alloc_ hx2 _
         have hz3:(w2.alloc (.cells (patC nilS nilS nilS nilS (numsN t)).toArray 29)).heap.size=w2.heap.size+1:=by simp
         have HZ3:=Lib.hid hz3
         have HN5:=Lib.hid hn5
         have HXA:=Lib.hid hxa
         have HX2:=Lib.hid hx2
         have i1:(0:Int)≤(k:Int):=by omega
         have i2:(k:Int)≤(c:Int):=by omega
         have i3:k≤c:=by omega
         have i4:(0:Int)≤(m:Int):=by omega
         have i5:(m:Int)≤(l.length:Int):=by omega
         have i6:(m:Int)≤(c:Int):=by omega
         have i7:m≤c:=by omega
         clear hz3 hn5 hxa hx2
         go_wp2_with (refine wpList_store_fresh rfl 29 (.tmp 9) (.tmp 65) rfl (patC nilS nilS nilS nilS (numsN t)).toArray 29 _ rfl rfl infoP rfl pat_one ?_)
         refine (joined_refn (some ⟨b,off,none⟩) c k (l.take k) _ (by simp;omega) (row_take (hr1.below HXA.out (Nat.le_refl _)) k) (by simp;omega) (Nat.le_trans (tot_take l k) (by omega)) (fun p hp=>hne p (List.mem_of_mem_take hp))).mono ?_
         rintro e w4 ⟨B1,d1,rfl,hB1,hB2,hB3,hB4,hx4⟩
         have q4:=HN5.out.ext hx4
         have q0:=q4.cell (j:=0) (v:=nilS) rfl
         have fr0:=q4.frozen 0
         have q5:=q4.setCell 0 (.slice B1 (joinF (l.take k)).length d1)
         have hx4':Ext w1 (w4.setCell ⟨w2.heap.size,0,none⟩ (.slice B1 (joinF (l.take k)).length d1)):=Ext.setCell_ (HXA.out.trans hx4) HX2.out.size _ _
         have hB1':Row (w4.setCell ⟨w2.heap.size,0,none⟩ (.slice B1 (joinF (l.take k)).length d1)) B1 (pcsV (joinF (l.take k))):=Row.only hB1 ((OnlyB.of_ext (Ext.refl w4)).setCell 0 _) (fun b' off' e _=>by have h1:=hB4 _ e;have h2:=HZ3.out;simp at h1;omega)
         have HQ5:=Lib.hid q5
         have HX4:=Lib.hid hx4'
         have HB1:=Lib.hid hB1'
         have hsz4:w2.heap.size+1≤w4.heap.size:=by have h1:=hx4.size;have h2:=HZ3.out;omega
         clear q4 q5 hx4' hB1' hB1 hx4
         unfold nilS at q0
         go_wp2_with fail
         refine (joined_refn _ _ (l.length - m) (l.drop m) _ (by simp) (by first | exact row_drop (hr1.below HX4.out (Nat.le_refl _)) m | (rw [List.drop_of_length_le (by omega)];exact Row.nil)) (by simp;omega) (Nat.le_trans (tot_drop l m) (by omega)) (fun p hp=>hne p (List.mem_of_mem_drop hp))).mono ?_
         rintro e w5 ⟨B2,d2,rfl,hC1,hC2,hC3,hC4,hx5⟩
         have hsw:w1.heap.size=w.heap.size+1:=HW1.out
         have hsw2:=HX2.out.size
         have p5:=HQ5.out.ext hx5
         have p1:=p5.cell (j:=1) (v:=nilS) rfl
         have fr1:=p5.frozen 1
         have p6:Box (w5.setCell ⟨w2.heap.size,1,none⟩ (.slice B2 (joinF (l.drop m)).length d2)) w2.heap.size 29 (patC (.slice B1 (joinF (l.take k)).length d1) (.slice B2 (joinF (l.drop m)).length d2) nilS nilS (numsN t)):=p5.setCell 1 (.slice B2 (joinF (l.drop m)).length d2)
         have hres:Box (w5.setCell ⟨w2.heap.size,1,none⟩ (.slice B2 (joinF (l.drop m)).length d2)) w.heap.size 29 (pN 0 0):=(hb1.ext (HX4.out.trans hx5)).setCell1 w2.heap.size _ (by omega) 1
         have hxw:Ext w (w5.setCell ⟨w2.heap.size,1,none⟩ (.slice B2 (joinF (l.drop m)).length d2)):=Ext.setCell_ (hx1.trans (HX4.out.trans hx5)) (by omega) _ _
         have hs5:w4.heap.size≤(w4.setCell ⟨w2.heap.size,0,none⟩ (.slice B1 (joinF (l.take k)).length d1)).heap.size:=by simp
         have nB1:∀ b' off',B1=some ⟨b',off',none⟩→w2.heap.size+1≤b':=fun b' off' e=>by have h1:=hB4 _ e;have h2:=HZ3.out;simp at h1;omega
         have nB2:∀ b' off',B2=some ⟨b',off',none⟩→w2.heap.size+1≤b':=fun b' off' e=>by have h1:=hC4 _ e;have h2:w4.heap.size≤b':=Nat.le_trans hs5 h1;omega
         have rB1:Row (w5.setCell ⟨w2.heap.size,1,none⟩ (.slice B2 (joinF (l.drop m)).length d2)) B1 (pcsV (joinF (l.take k))):=Row.only (HB1.out.below hx5 (Nat.le_refl _)) ((OnlyB.of_ext (Ext.refl w5)).setCell 1 _) (fun b' off' e _=>by have:=nB1 b' off' e;omega)
         have rB2:Row (w5.setCell ⟨w2.heap.size,1,none⟩ (.slice B2 (joinF (l.drop m)).length d2)) B2 (pcsV (joinF (l.drop m))):=Row.only hC1 ((OnlyB.of_ext (Ext.refl w5)).setCell 1 _) (fun b' off' e _=>by have:=nB2 b' off' e;omega)
         have HRR:=Lib.hid p6.range
         have HRES:=Lib.hid hres
         have HXW:=Lib.hid hxw
         have RB1:=Lib.hid rB1
         have RB2:=Lib.hid rB2
         have NB1:=Lib.hid nB1
         have NB2:=Lib.hid nB2
         clear p5 p6 hres hxw rB1 rB2 nB1 nB2 hs5 hsw
         unfold nilS at p1
         go_wp2_with (first
          | (refine wpList_load_mid rfl 29 (.tmp 9) rfl w2.heap.size 0 rfl (patC (.slice B1 (joinF (l.take k)).length d1) (.slice B2 (joinF (l.drop m)).length d2) nilS nilS (numsN t)) _ HRR.out Tryz.underlying29 rfl infoP ?_)
          | (refine wpList_store_row rfl 29 (.tmp 2) (.tmp 78) rfl w.heap.size (patC (.slice B1 (joinF (l.take k)).length d1) (.slice B2 (joinF (l.drop m)).length d2) nilS nilS (numsN t)).toArray rfl rfl _ _ HRES.out infoP rfl pat_one ?_))
         have hb8:=HRES.out.set (patC (.slice B1 (joinF (l.take k)).length d1) (.slice B2 (joinF (l.drop m)).length d2) nilS nilS (numsN t)).toArray
         refine bodyPost_ret (results_num rfl _ _ w.heap.size _ rfl hb8 rfl) rfl ?_
         have hsw:=HW1.out
         exact ⟨B1,d1,B2,d2,rfl,Row.setRow RB1.out (fun b' off' e=>by have:=NB1.out b' off' e;omega),Row.setRow RB2.out (fun b' off' e=>by have:=NB2.out b' off' e;omega),⟨hB3,hB2⟩,⟨hC3,hC2⟩,(fun a' e'=>by have h1:=hB4 a' e';have h2:=HZ3.out;have h3:=HX2.out.size;simp at h1;omega),(fun a' e'=>by have h1:=hC4 a' e';simp at h1;omega),Ext.setRow HXW.out (Nat.le_refl _) _⟩
end Go.Proofs.YtcghgkagpkmpeaaGreatDoor.Pat
