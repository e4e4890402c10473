/- Joined by wip/join.py: PaP PaP2 PaP3 PaP4 PaP5. -/
import Derived.Test.YtcghgkagpkmpeaaGreatDoorJSt
import Derived.Test.YtcghgkagpkmpeaaGreatDoorJLocE
import Derived.Test.YtcghgkagpkmpeaaGreatDoorJLForty
set_option linter.unusedVariables false
set_option linter.unusedSimpArgs false
namespace Go.Proofs.YtcghgkagpkmpeaaGreatDoor.Loc
open Go.RowKit Utf All Small Strs Build EncC Pat Cls Dec Go.Proofs.YtcghgkagpkmpeaaGreatDoor.Sys
def blankZ (c:Int):Bool:=decide (9≤c∧c≤13) || (c == 32 || (c == 160 || (c == 8201 || c == 8239)))
def headC (u:List UInt8):Int:=(dec u).1
def kindF (l:Loc) (u:List UInt8):Int :=
 if (splitS u).length ≠ 1 then -1
 else if 0≤signZ l ⟨u.toArray⟩ then signZ l ⟨u.toArray⟩
 else if u=encB (headC u)∧0≤(ofZ (headC u)).2 then (ofZ (headC u)).2
 else if u=[45]∨u=[226,136,146] then 12
 else if u=[46] then 10
 else if blankZ (headC u)=true∨affB l ⟨u.toArray⟩=true then 11 else -1
def kindR (l:Loc) (u:List UInt8):Int :=
 if (splitS u).length ≠ 1 then -1
 else if 0≤signZ l ⟨u.toArray⟩ then signZ l ⟨u.toArray⟩
 else if (charsL u).length=1∧0≤(ofZ (headC u)).2 then (ofZ (headC u)).2
 else if (charsL u).length=1∧(headC u=45∨headC u=8722) then 12
 else if (charsL u).length=1∧headC u=46 then 10
 else if blankZ (headC u)=true∨affB l ⟨u.toArray⟩=true then 11 else -1
theorem one_ne {u:List UInt8} (h:(splitS u).length=1):u ≠ []:=by
 rintro rfl;revert h;decide
theorem chars_one {u:List UInt8} (h0:u ≠ []) (h:u=encB (headC u)):(charsL u).length=1:=by
 have hm:mayC (headC u)=true:=charsL_may u _ (by rw [chars_cons h0];exact List.mem_cons_self)
 have hd:=(dec_enc hm []).1
 rw [List.append_nil,← h] at hd
 have h2:(dec u).2=u.length:=by rw [hd]
 rw [chars_cons h0,h2,List.drop_length];rfl
theorem one_chars {u:List UInt8} (h0:u ≠ []) (h:(charsL u).length=1):u=encB (headC u)∨headC u=65533:=by
 cases hk:okL u
 ·right
  unfold okL at hk
  simp only [decide_eq_false_iff_not,Classical.not_not] at hk
  unfold headC;rw [hk]
 ·left
  have he:=ok_enc h0 hk
  rw [chars_cons h0,List.length_cons] at h
  have hz:charsL (u.drop (dec u).2)=[]:=List.eq_nil_of_length_eq_zero (by omega)
  have hd:u.drop (dec u).2=[]:=by
   by_cases hn:u.drop (dec u).2=[]
   ·exact hn
   ·rw [chars_cons hn] at hz;cases hz
  unfold headC
  rw [he]
  have hl:u.length≤(dec u).2:=by rw [List.drop_eq_nil_iff] at hd;exact hd
  rw [List.take_of_length_le hl]
theorem of_bad:(ofZ 65533).2=-1:=by decide +kernel
theorem head_45:headC [45]=45∧headC [46]=46∧headC [226,136,146]=8722∧encB 45=[45]∧encB 46=[46]∧encB 8722=[226,136,146]:=by decide +kernel
theorem kind_eq (l:Loc) (u:List UInt8):kindF l u=kindR l u:=by
 unfold kindF kindR
 by_cases h1:(splitS u).length ≠ 1
 ·rw [if_pos h1,if_pos h1]
 rw [if_neg h1,if_neg h1]
 by_cases h2:0≤signZ l ⟨u.toArray⟩
 ·rw [if_pos h2,if_pos h2]
 rw [if_neg h2,if_neg h2]
 have h0:=one_ne (Classical.not_not.1 h1)
 obtain ⟨e1,e2,e3,e4,e5,e6⟩:=head_45
 by_cases hu:u=encB (headC u)
 ·have hc:=chars_one h0 hu
  have g1:(u=encB (headC u)∧0≤(ofZ (headC u)).2) ↔ ((charsL u).length=1∧0≤(ofZ (headC u)).2):=⟨fun h=>⟨hc,h.2⟩,fun h=>⟨hu,h.2⟩⟩
  have g2:(u=[45]∨u=[226,136,146]) ↔ ((charsL u).length=1∧(headC u=45∨headC u=8722)):=by
   constructor
   ·rintro (h | h)
    ·exact ⟨hc,.inl (by rw [h];exact e1)⟩
    ·exact ⟨hc,.inr (by rw [h];exact e3)⟩
   ·rintro ⟨_,h | h⟩
    ·left;rw [hu,h];exact e4
    ·right;rw [hu,h];exact e6
  have g3:u=[46] ↔ ((charsL u).length=1∧headC u=46):=by
   constructor
   ·intro h;exact ⟨hc,by rw [h];exact e2⟩
   ·rintro ⟨_,h⟩;rw [hu,h];exact e5
  simp only [g1,g2,g3]
 ·have n1:u ≠ [45]:=fun h=>hu (by rw [h,e1,e4])
  have n2:u ≠ [226,136,146]:=fun h=>hu (by rw [h,e3,e6])
  have n3:u ≠ [46]:=fun h=>hu (by rw [h,e2,e5])
  rw [if_neg (fun h=>hu h.1),if_neg (fun h=>h.elim n1 n2),if_neg n3]
  by_cases hc:(charsL u).length=1
  ·have h5:=(one_chars h0 hc).resolve_left hu
   rw [h5,of_bad]
   simp only [hc]
   rfl
  ·simp only [hc,false_and,if_false]
theorem sign_lo (l:Loc) (s:ByteArray):-1≤signZ l s:=by
 unfold signZ
 split
 ·omega
 ·split
  ·omega
  ·split
   ·omega
   ·split <;> omega
theorem kind_lo (l:Loc) (u:List UInt8):-1≤kindF l u:=by
 unfold kindF
 split
 ·omega
 ·split
  ·omega
  ·split
   ·rename_i h;exact Int.le_trans (by omega) h.2
   ·split
    ·omega
    ·split
     ·omega
     ·split <;> omega
structure RS where
 neg:Bool
 ats:List Int
 late:Bool
def RS.ini:RS:=⟨false,[],false⟩
def takeF (s:RS) (k:Int):Except Int RS :=
 if k=-1 then .error 2 else if k=11 then .ok s else if s.late=true∨(k=12∧s.neg=true) then .error 5
 else if k=12 then .ok ⟨true,s.ats,decide (0 < s.ats.length)⟩ else if k=10∧10 ∈ s.ats then .error 6 else .ok ⟨s.neg,s.ats++[k],s.late⟩
def runF:RS→List Int→Except Int RS
 | s,[]=>.ok s
 | s,k :: r=>match takeF s k with
  | .error e=>.error e
  | .ok t=>runF t r
structure RR where
 neg:Bool
 ats:List Int
 pts:Nat
 closed:Bool
def takeR (s:RR) (k:Int):Except Int RR :=
 if k < 0 then .error 2 else if k=11 then .ok s
 else if k=12 then (if s.neg=true then .error 5 else .ok ⟨true,s.ats,s.pts,decide (0 < s.ats.length)⟩)
 else if s.closed=true then .error 5
 else if k=10 then (if 1 < s.pts+1 then .error 6 else .ok ⟨s.neg,s.ats++[k],s.pts+1,s.closed⟩)
 else .ok ⟨s.neg,s.ats++[k],s.pts,s.closed⟩
def runR:RR→List Int→Except Int RR
 | s,[]=>.ok s
 | s,k :: r=>match takeR s k with
  | .error e=>.error e
  | .ok t=>runR t r
structure Rel (s:RS) (t:RR):Prop where
 neg:s.neg=t.neg
 ats:s.ats=t.ats
 late:s.late=t.closed
 pts:t.pts=s.ats.count 10
 ln:s.late=true→s.neg=true
theorem take_rel {s:RS} {t:RR} (h:Rel s t) {k:Int} (hk:-1≤k):(∃ e,takeF s k=.error e∧takeR t k=.error e)∨∃ s' t',takeF s k=.ok s'∧takeR t k=.ok t'∧Rel s' t':=by
 obtain ⟨n,a,lt⟩:=s
 obtain ⟨n',a',p,c⟩:=t
 obtain ⟨h1,h2,h3,h4,h5⟩:=h
 simp only at h1 h2 h3 h4 h5
 subst h1;subst h2;subst h3;subst h4
 unfold takeF takeR
 by_cases k1:k=-1
 ·subst k1;exact .inl ⟨2,by simp,by simp⟩
 have k0:¬ k < 0:=by omega
 simp only [if_neg k1,if_neg k0]
 by_cases k2:k=11
 ·subst k2;exact .inr ⟨_,_,by rw [if_pos rfl],by rw [if_pos rfl],⟨rfl,rfl,rfl,rfl,h5⟩⟩
 simp only [if_neg k2]
 by_cases k3:k=12
 ·subst k3
  cases n
  ·have hl:lt=false:=by
                 cases lt;· rfl
                 ·exact absurd (h5 rfl) (by simp)
   subst hl
   exact .inr ⟨_,_,by simp;rfl,by simp;rfl,⟨rfl,rfl,rfl,rfl,fun _=>rfl⟩⟩
  ·exact .inl ⟨5,by simp,by simp⟩
 simp only [k3,if_neg,false_and,or_false]
 cases lt
 ·simp only [Bool.false_eq_true,if_false]
  by_cases k4:k=10
  ·subst k4
   by_cases hm:(10:Int) ∈ a
   ·have hc:0 < a.count 10:=List.count_pos_iff.2 hm
    exact .inl ⟨6,by simp [hm],by simp [hc]⟩
   ·have hc:a.count 10=0:=List.count_eq_zero.2 hm
    exact .inr ⟨⟨n,a++[10],false⟩,⟨n,a++[10],a.count 10+1,false⟩,by simp [hm],by simp [hc],⟨rfl,rfl,rfl,by simp,h5⟩⟩
  ·exact .inr ⟨⟨n,a++[k],false⟩,⟨n,a++[k],a.count 10,false⟩,by simp [k4],by simp [k4],⟨rfl,rfl,rfl,by rw [List.count_append];simp [List.count_cons,k4],h5⟩⟩
 ·exact .inl ⟨5,by simp,by simp⟩
theorem run_rel:∀ (ks:List Int) {s:RS} {t:RR},Rel s t→(∀ k ∈ ks,-1≤k)→(∃ e,runF s ks=.error e∧runR t ks=.error e)∨∃ s' t',runF s ks=.ok s'∧runR t ks=.ok t'∧Rel s' t'
 | [],s,t,h,_=>.inr ⟨s,t,rfl,rfl,h⟩
 | k :: r,s,t,h,hk=>by
  unfold runF runR
  rcases take_rel h (hk k List.mem_cons_self) with ⟨e,h1,h2⟩ | ⟨s',t',h1,h2,h3⟩
  ·exact .inl ⟨e,by rw [h1],by rw [h2]⟩
  ·rw [h1,h2]
   exact run_rel r h3 fun x hx=>hk x (List.mem_cons_of_mem _ hx)
def Unt (t:List UInt8):Prop:=∃ c es,t=enc (c :: es)∧PlC c∧clsZ c=0∧∀ e ∈ es,PlC e∧clsZ e=4
theorem goC_ext:∀ (es:List Int) (u:List UInt8),(∀ e ∈ es,clsZ e=4)→goC u es=[u++enc es]
 | [],u,_=>by show [u]=[u++[]];rw [List.append_nil]
 | e :: es,u,h=>by
  rw [goC_cons,if_pos (h e List.mem_cons_self),goC_ext es _ fun x hx=>h x (List.mem_cons_of_mem _ hx),enc_cons,List.append_assoc]
theorem Unt.pln {t:List UInt8} (h:Unt t):Pln t∧splitS t=[t]:=by
 obtain ⟨c,es,rfl,hc,h0,he⟩:=h
 have hp:PlT (enc (c :: es)) (c :: es):=⟨rfl,fun x hx=>by
  rcases List.mem_cons.1 hx with rfl | hx
  ·exact hc
  ·exact (he x hx).1,fun x r e=>by injection e with e1 e2;subst e1;exact h0⟩
 refine ⟨⟨_,hp⟩,?_⟩
 rw [split_go hp]
 show goC (encB c) es=[enc (c :: es)]
 rw [goC_ext es _ fun e h=>(he e h).2,enc_cons]
theorem go_unt:∀ (r:List Int) (u:List UInt8),Unt u→(∀ c ∈ r,PlC c)→∀ t ∈ goC u r,Unt t
 | [],u,hu,_,t,ht=>by
  have ht':t ∈ [u]:=ht
  rw [List.mem_singleton] at ht';rw [ht'];exact hu
 | c :: r,u,hu,hr,t,ht=>by
  have hc:=hr c List.mem_cons_self
  have hr':∀ d ∈ r,PlC d:=fun d hd=>hr d (List.mem_cons_of_mem _ hd)
  rw [goC_cons] at ht
  split at ht
  ·rename_i h4
   refine go_unt r _ ?_ hr' t ht
   obtain ⟨a,es,rfl,ha,h0,he⟩:=hu
   refine ⟨a,es++[c],?_,ha,h0,fun e h=>?_⟩
   ·rw [enc_cons,enc_cons,enc_app,enc_cons];simp [enc]
   ·rcases List.mem_append.1 h with h | h
    ·exact he e h
    ·rw [List.mem_singleton] at h;subst h;exact ⟨hc,h4⟩
  ·rename_i h4
   rcases List.mem_cons.1 ht with rfl | ht
   ·exact hu
   ·exact go_unt r _ ⟨c,[],by rw [enc_cons];simp [enc],hc,hc.2.resolve_right h4,by simp⟩ hr' t ht
theorem pln_unt {s t:List UInt8} (h:Pln s) (ht:t ∈ splitS s):Unt t:=by
 obtain ⟨cs,hp⟩:=h
 rw [split_go hp] at ht
 cases cs with
 | nil=>cases ht
 | cons c r =>
  have ht':t ∈ goC (encB c) r:=ht
  exact go_unt r _ ⟨c,[],by rw [enc_cons];simp [enc],hp.pl c List.mem_cons_self,hp.hd c r rfl,by simp⟩ (fun d hd=>hp.pl d (List.mem_cons_of_mem _ hd)) t ht'
def outK (t:List UInt8):Bool:=(!decide (t=encB (headC t)) || decide ((ofZ (headC t)).2 < 0)) && (!decide (t=[45]) && (!decide (t=[226,136,146]) && !decide (t=[46])))
def Outs (r:Rec) (p:Pt):Prop:=∀ q ∈ affsP p,∀ t ∈ splitS (txtL (locOf r p) q),outK t=true
theorem toks_outK:∀ t ∈ toks,outK t=true:=by decide +kernel
theorem outs_good (v0 v1 v2 v3 v4 v5:Int):Outs (goodR v0 v1 v2 v3 v4 v5) (patAt (aroundF v1 10).toNat):=by
 obtain ⟨s,j,i,m,a,b,g,hs,hj,hi,hm,ha,hb,hg,he,hk⟩:=good_mk v0 v1 v2 v3 v4 v5
 rw [he,hk]
 have ht:=txts_ok ⟨j,hj⟩
 unfold txtOk at ht
 simp only [Bool.and_eq_true,decide_eq_true_eq,List.all_eq_true] at ht
 have hT:=ht a (List.mem_range.2 ha) b (List.mem_range.2 hb)
 intro q hq t htt
 exact toks_outK t (by simpa using (hT q hq).2 t htt)
def outs40 (k:Nat):Bool:=(affsP (pat40 k)).all fun q=>(splitS (txtL (locOf (rec40 k) (pat40 k)) q)).all outK
theorem outs_40b:∀ k:Fin 40,outs40 k.val=true:=by decide +kernel
theorem outs_40 {k:Nat} (hk:k < 40):Outs (rec40 k) (pat40 k):=by
 have h:=outs_40b ⟨k,hk⟩
 unfold outs40 at h
 simp only [List.all_eq_true] at h
 exact h
def kinds (l:Loc) (t:List UInt8):List Int:=(splitS t).map (kindF l)
theorem kinds_app (l:Loc) {t u:List UInt8} (ht:Pln t) (hu:Pln u):kinds l (t++u)=kinds l t++kinds l u:=by
 unfold kinds;rw [ht.split hu,List.map_append]
def nz (ks:List Int):List Int:=ks.filter fun k=>k != 11
theorem nz_app (a b:List Int):nz (a++b)=nz a++nz b:=List.filter_append _ _
theorem run_ok {s t:RS} {k:Int} (h:takeF s k=.ok t) (r:List Int):runF s (k :: r)=runF t r:=by
 have e:runF s (k :: r)=(match takeF s k with
  | Except.error e=>Except.error e
  | Except.ok t=>runF t r):=rfl
 rw [e,h]
theorem run_err {s:RS} {k e:Int} (h:takeF s k=.error e) (r:List Int):runF s (k :: r)=.error e:=by
 have e:runF s (k :: r)=(match takeF s k with
  | Except.error e=>Except.error e
  | Except.ok t=>runF t r):=rfl
 rw [e,h]
theorem take_out (s:RS):takeF s 11=.ok s:=by unfold takeF;simp
theorem run_nz:∀ (ks:List Int) (s:RS),runF s ks=runF s (nz ks)
 | [],s=>rfl
 | k :: r,s=>by
  unfold nz
  rw [List.filter_cons]
  by_cases h:k=11
  ·subst h
   rw [run_ok (take_out s),if_neg (by simp)]
   exact run_nz r s
  ·rw [if_pos (by simp [h])]
   cases h':takeF s k with
   | error e=>rw [run_err h',run_err h']
   | ok t=>rw [run_ok h',run_ok h'];exact run_nz r t
section
variable {r:Rec} {p:Pt}
theorem kind_sym (h:Both r p) {n:Nat} (hn:n≤12) (hg:n=11→grpZ (locOf r p)=true):kindF (locOf r p) (symX r n)=n:=by
 unfold kindF
 rw [if_neg (by rw [(one_sym h hn hg).1];simp),sign_sym h hn hg,if_pos (by omega)]
theorem kinds_syms (h:Both r p) {ns:List Nat} (hs:SgOk (locOf r p) ns):kinds (locOf r p) (symsT r ns)=natI ns:=by
 unfold kinds natI
 rw [(syms_split h hs).2,List.map_map]
 refine List.map_congr_left fun n hn=>?_
 exact kind_sym h (hs n hn).1 (hs n hn).2
theorem kind_aff (h:Both r p) (ho:Outs r p) {q:List Pc} (hq:q ∈ affsP p) {t:List UInt8} (ht:t ∈ splitS (txtL (locOf r p) q)):kindF (locOf r p) t=11:=by
 have hp:Pln (txtL (locOf r p) q):=by
  rw [txt_flat]
  exact (Pln.flat (ts:=q.map fun x=>txtL (locOf r p) [x]) fun u hu=>by
   obtain ⟨y,hy,rfl⟩:=List.mem_map.1 hu
   exact pln_piece h hq hy).1
 have h1:=(pln_unt hp ht).pln.2
 have h2:signZ (locOf r p) ⟨t.toArray⟩=-1:=h.may.affT q hq t ht
 have h3:=ho q hq t ht
 unfold outK at h3
 simp only [Bool.and_eq_true,Bool.or_eq_true,Bool.not_eq_true',decide_eq_false_iff_not,decide_eq_true_eq] at h3
 obtain ⟨h4,h5,h6,h7⟩:=h3
 have h8:affB (locOf r p) ⟨t.toArray⟩=true:=by
  unfold affB
  rw [List.any_eq_true]
  refine ⟨q,hq,?_⟩
  unfold affQ
  rw [List.any_eq_true]
  exact ⟨t,ht,by simp⟩
 unfold kindF
 rw [if_neg (by rw [h1];simp),if_neg (by omega),if_neg (fun e=>h4.elim (fun f=>f e.1) (by omega)),if_neg (fun e=>e.elim h5 h6),if_neg h7,if_pos (.inr h8)]
end
section
variable {r:Rec} {p:Pt}
theorem piece_mem (h:Both r p) {q:List Pc} (hq:q ∈ affsP p) {x:Pc} (hx:x ∈ q):∀ t ∈ splitS (txtL (locOf r p) [x]),t ∈ splitS (txtL (locOf r p) q):=by
 intro t ht
 have hf:=(Pln.flat (ts:=q.map fun x=>txtL (locOf r p) [x]) fun u hu=>by
  obtain ⟨y,hy,rfl⟩:=List.mem_map.1 hu
  exact pln_piece h hq hy).2
 rw [txt_flat,hf]
 exact List.mem_flatMap.2 ⟨_,List.mem_map.2 ⟨x,hx,rfl⟩,ht⟩
theorem st_mems (h:Both r p) {q:List Pc} (hq:q ∈ affsP p):∀ (l:List Pc) (st:List Prt × List UInt8),(∀ x ∈ l,x ∈ q)→(∀ y ∈ st.1,Pln y.2)→Pln st.2 →
  (∀ y ∈ st.1,∀ t ∈ splitS y.2,t ∈ splitS (txtL (locOf r p) q))→(∀ t ∈ splitS st.2,t ∈ splitS (txtL (locOf r p) q)) →
  (∀ y ∈ (l.foldl (stepR (locOf r p)) st).1,∀ t ∈ splitS y.2,t ∈ splitS (txtL (locOf r p) q))∧∀ t ∈ splitS (l.foldl (stepR (locOf r p)) st).2,t ∈ splitS (txtL (locOf r p) q)
 | [],st,_,_,_,h1,h2=>⟨h1,h2⟩
 | x :: l,st,hs,hp1,hp2,h1,h2=>by
  rw [List.foldl_cons]
  have hx:=hs x List.mem_cons_self
  have hpp:=pln_st h hq [x] st (fun y hy=>by rw [List.mem_singleton] at hy;subst hy;exact hx) hp1 hp2
  refine st_mems h hq l _ (fun y hy=>hs y (List.mem_cons_of_mem _ hy)) hpp.1 hpp.2 ?_ ?_
  ·unfold stepR
   split
   ·intro y hy
    rcases List.mem_append.1 hy with hy | hy
    ·split at hy
     ·exact h1 y hy
     ·rcases List.mem_append.1 hy with hy | hy
      ·exact h1 y hy
      ·rw [List.mem_singleton] at hy;subst hy;exact h2
    ·rw [List.mem_singleton] at hy;subst hy
     intro t ht;cases ht
   ·exact h1
  ·unfold stepR
   split
   ·intro t ht;cases ht
   ·intro t ht
    have ht':t ∈ splitS (st.2++txtL (locOf r p) [x]):=ht
    rw [hp2.split (pln_piece h hq hx)] at ht'
    rcases List.mem_append.1 ht' with ht' | ht'
    ·exact h2 t ht'
    ·exact piece_mem h hq hx t ht'
theorem part_mem (h:Both r p) {q:List Pc} (hq:q ∈ affsP p):∀ y ∈ partsF (locOf r p) q,∀ t ∈ splitS y.2,t ∈ splitS (txtL (locOf r p) q):=by
 obtain ⟨h1,h2⟩:=st_mems h hq q ([],[]) (fun _ hx=>hx) (by simp) Pln.nil (by simp) (fun t ht=>by cases ht)
 rw [parts_fin]
 unfold finR stR
 split
 ·exact h1
 ·intro y hy
  rcases List.mem_append.1 hy with hy | hy
  ·exact h1 y hy
  ·rw [List.mem_singleton] at hy;subst hy;exact h2
theorem parts_kinds (h:Both r p) (ho:Outs r p) {q:List Pc} (hq:q ∈ affsP p):nz (kinds (locOf r p) (textI ((partsF (locOf r p) q).map (prtI r))))=List.replicate (nSign (partsF (locOf r p) q)) 12∧Pln (textI ((partsF (locOf r p) q).map (prtI r))):=by
 have hg:=part_mem h hq
 have hp:=pln_parts h hq
 generalize partsF (locOf r p) q=ps at *
 induction ps with
 | nil=>exact ⟨rfl,Pln.nil⟩
 | cons y ps ih =>
  obtain ⟨i1,i3⟩:=ih (fun z hz=>hg z (List.mem_cons_of_mem _ hz)) (fun z hz=>hp z (List.mem_cons_of_mem _ hz))
  have hy:Pln (prtI r y).2.1:=by
   unfold prtI
   split
   ·exact pln_sym h.may.min
   ·exact hp y List.mem_cons_self
  have e:textI ((y :: ps).map (prtI r))=(prtI r y).2.1++textI (ps.map (prtI r)):=rfl
  rw [e,kinds_app _ hy i3,nz_app,i1]
  refine ⟨?_,hy.app i3⟩
  unfold nSign
  rw [List.countP_cons]
  unfold prtI
  cases hy1:y.1
  ·have hn:nz (kinds (locOf r p) y.2)=[]:=by
    unfold nz kinds
    rw [List.filter_eq_nil_iff]
    intro k hk
    obtain ⟨t,ht,rfl⟩:=List.mem_map.1 hk
    rw [kind_aff h ho hq (hg y List.mem_cons_self t ht)];decide
   simp [hn]
  ·have hs:=kinds_syms h (ns:=[12]) (by intro n hn;rw [List.mem_singleton] at hn;omega)
   have hm:symsT r [12]=r.minus:=by unfold symsT symX;simp
   rw [hm] at hs
   have hn:nz (kinds (locOf r p) r.minus)=[12]:=by rw [hs];rfl
   simp only [if_true]
   rw [hn,List.replicate_succ];rfl
theorem mid_kinds (h:Both r p) {d:Dr} (hd:DrOk d):nz (kinds (locOf r p) (textI (midF (locOf r p) d)))=atomsF d:=by
 have hs:=mid_sgok h hd
 have ha:=(mid_at h hd).1
 rw [mid_text h hd,syms_sgs h hs] at ha
 rw [mid_text h hd,kinds_syms h hs,← ha]
 unfold nz atOf natI
 refine List.filter_congr fun k hk=>?_
 obtain ⟨n,hn,rfl⟩:=List.mem_map.1 hk
 have h12:n≤11:=by
  unfold midS at hn
  rcases List.mem_append.1 hn with hn | hn
  ·obtain ⟨i,hi,hn⟩:=List.mem_flatMap.1 hn
   have hb:=getD_bd hd.int (List.mem_range.1 hi)
   unfold intS at hn
   rcases List.mem_cons.1 hn with rfl | hn
   ·omega
   ·split at hn
    ·rw [List.mem_singleton] at hn;omega
    ·cases hn
  ·rcases List.mem_append.1 hn with hn | hn
   ·split at hn
    ·rw [List.mem_singleton] at hn;omega
    ·cases hn
   ·obtain ⟨x,hx,rfl⟩:=List.mem_map.1 hn
    have:=hd.frac x hx
    omega
 by_cases h11:n=11
 ·subst h11;decide
 ·have e1:((n:Int) != 11)=true:=by simp;omega
  rw [e1,decide_eq_true (show (0:Int)≤n by omega),decide_eq_true (show (n:Int)≤10 by omega)];rfl
theorem shown_kinds (h:Both r p) (ho:Outs r p) {d:Dr} (hd:DrOk d):∃ x y,x+y=(if d.neg then 1 else 0)∧nz (kinds (locOf r p) (textI (itemsF (locOf r p) d)))=List.replicate x 12++(atomsF d++List.replicate y 12)∧Pln (textI (itemsF (locOf r p) d)):=by
 have hq1:(if d.neg then p.npre else p.pre) ∈ affsP p:=by cases d.neg <;> simp [affsP]
 have hq2:(if d.neg then p.nsuf else p.suf) ∈ affsP p:=by cases d.neg <;> simp [affsP]
 obtain ⟨a1,a3⟩:=parts_kinds h ho hq1
 obtain ⟨b1,b3⟩:=parts_kinds h ho hq2
 have m1:=mid_kinds h hd
 have m3:=(mid_at h hd).2.2
 have hc:=h.count d.neg
 unfold ahead behind at hc
 have e:textI (itemsF (locOf r p) d)=textI ((partsF (locOf r p) (if d.neg then p.npre else p.pre)).map (prtI r))++(textI (midF (locOf r p) d)++textI ((partsF (locOf r p) (if d.neg then p.nsuf else p.suf)).map (prtI r))):=by
  unfold itemsF
  rw [textI_app,textI_app];rfl
 refine ⟨_,_,hc,?_,?_⟩
 ·rw [e,kinds_app _ a3 (m3.app b3),kinds_app _ m3 b3,nz_app,nz_app]
  refine congr (congrArg _ a1) (congr (congrArg _ m1) b1)
 ·rw [e];exact a3.app (m3.app b3)
end
theorem run_atoms:∀ (ks:List Int) (s:RS),s.late=false→(∀ a ∈ ks,0≤a∧a≤10)→(s.ats++ks).count 10≤1→runF s ks=.ok ⟨s.neg,s.ats++ks,false⟩
 | [],s,hl,_,_=>by
  obtain ⟨n,a,l⟩:=s
  simp only at hl
  subst hl
  rw [List.append_nil];rfl
 | k :: r,s,hl,ha,hc=>by
  have hk:=ha k List.mem_cons_self
  obtain ⟨n,a,l⟩:=s
  simp only at hl hc
  subst hl
  have ht:takeF ⟨n,a,false⟩ k=.ok ⟨n,a++[k],false⟩:=by
   unfold takeF
   rw [if_neg (by omega),if_neg (by omega),if_neg (by simp;omega),if_neg (by omega),if_neg]
   rintro ⟨rfl,hm⟩
   have h1:0 < a.count 10:=List.count_pos_iff.2 hm
   rw [List.count_append,List.count_cons] at hc
   simp at hc;omega
  rw [run_ok ht,run_atoms r ⟨n,a++[k],false⟩ rfl (fun x hx=>ha x (List.mem_cons_of_mem _ hx)) (by
   show ((a++[k])++r).count 10≤1
   rw [List.append_assoc];exact hc)]
  simp
theorem run_app:∀ (a b:List Int) (s t:RS),runF s a=.ok t→runF s (a++b)=runF t b
 | [],b,s,t,h=>by
  have e:s=t:=by injection h
  subst e;rfl
 | k :: a,b,s,t,h=>by
  cases hk:takeF s k with
  | error e=>rw [run_err hk] at h;cases h
  | ok u =>
   rw [run_ok hk] at h
   rw [List.cons_append,run_ok hk]
   exact run_app a b u t h
theorem atoms_cnt {d:Dr} (hd:DrOk d):(∀ a ∈ atomsF d,0≤a∧a≤10)∧(atomsF d).count 10≤1:=by
 refine ⟨fun a ha=>?_,?_⟩
 ·unfold atomsF at ha
  rcases List.mem_append.1 ha with ha | ha
  ·have:=hd.int a ha;omega
  ·rcases List.mem_append.1 ha with ha | ha
   ·split at ha
    ·rw [List.mem_singleton] at ha;omega
    ·cases ha
   ·have:=hd.frac a ha;omega
 ·unfold atomsF
  rw [List.count_append,List.count_append,count10 (ne10 hd.int),count10 (ne10 hd.frac)]
  split <;> simp
theorem run_shown {d:Dr} (hd:DrOk d) {x y:Nat} (hc:x+y=if d.neg then 1 else 0):∃ lt,runF RS.ini (List.replicate x 12++(atomsF d++List.replicate y 12))=.ok ⟨d.neg,atomsF d,lt⟩:=by
 obtain ⟨ha,hn⟩:=atoms_cnt hd
 have h0:=run_atoms (atomsF d) RS.ini rfl ha (by show ([]++atomsF d).count 10≤1;rw [List.nil_append];exact hn)
 have h1:=run_atoms (atomsF d) ⟨true,[],false⟩ rfl ha (by show ([]++atomsF d).count 10≤1;rw [List.nil_append];exact hn)
 cases hg:d.neg
 ·rw [hg] at hc
  have hx:x=0:=by simp at hc;omega
  have hy:y=0:=by simp at hc;omega
  subst hx;subst hy
  refine ⟨false,?_⟩
  rw [List.replicate_zero,List.nil_append,List.append_nil,h0];rfl
 ·rw [hg] at hc
  simp at hc
  rcases (by omega:(x=1∧y=0)∨(x=0∧y=1)) with ⟨rfl,rfl⟩ | ⟨rfl,rfl⟩
  ·refine ⟨false,?_⟩
   have ht:takeF RS.ini 12=.ok ⟨true,[],false⟩:=by unfold takeF RS.ini;simp
   rw [List.replicate_zero,List.append_nil]
   show runF RS.ini (12 :: atomsF d)=_
   rw [run_ok ht,h1];rfl
  ·refine ⟨decide (0 < (atomsF d).length),?_⟩
   rw [List.replicate_zero,List.nil_append,run_app _ _ _ _ h0]
   have ht:takeF ⟨RS.ini.neg,RS.ini.ats++atomsF d,false⟩ 12=.ok ⟨true,atomsF d,decide (0 < (atomsF d).length)⟩:=by unfold takeF RS.ini;simp
   show runF _ [12]=_
   rw [run_ok ht];rfl
theorem shown_clip {r:Rec} {p:Pt} (h:Both r p) (ho:Outs r p) {d:Dr} (hd:DrOk d):∃ lt,runF RS.ini (kinds (locOf r p) (textI (itemsF (locOf r p) d)))=.ok ⟨d.neg,atomsF d,lt⟩:=by
 obtain ⟨x,y,hc,hk,_⟩:=shown_kinds h ho hd
 rw [run_nz,hk]
 exact run_shown hd hc
def cleanL (s:List UInt8):List UInt8:=enc (charsL s)
theorem clean_pln {t:List UInt8} (h:Pln t):cleanL t=t:=by
 obtain ⟨cs,hp⟩:=h
 unfold cleanL
 rw [hp.eq,chars_encf cs fun c hc=>(hp.pl c hc).1]
def Blk (b:List Int):Prop:=(∀ x ∈ b,mayC x=true)∧∃ c es,b=c :: es∧((clsZ c=0∧∀ e ∈ es,clsZ e=4)∨(clsZ c=3∧es=[]))
def HdOk (rk:List Int):Prop:=rk=[]∨∃ l q,rk=l :: q∧(l=0∨l=3∨l=4)
theorem join_new {rk:List Int} (h:HdOk rk) {k:Int} (hk:k=0∨k=3):joinS rk k=false:=by
 rcases h with rfl | ⟨l,q,rfl,hl⟩
 ·rfl
 ·rcases hl with rfl | rfl | rfl <;> rcases hk with rfl | rfl <;> rfl
theorem stG_ext:∀ (es:List Int) (l:Int) (q F:List Int) (n:Int),(l=0∨l=4)→(∀ e ∈ es,clsZ e=4) →
  ∃ l' q',(l'=0∨l'=4)∧stG (l :: q) (es++F) (posL n (es++F))=stG (l' :: q') F (posL (n+(enc es).length) F)
 | [],l,q,F,n,hl,_=>⟨l,q,hl,by
  rw [List.nil_append]
  show _=stG (l :: q) F (posL (n+((0:Nat):Int)) F)
  rw [show n+((0:Nat):Int)=n by omega]⟩
 | e :: es,l,q,F,n,hl,he=>by
  have h4:=he e List.mem_cons_self
  obtain ⟨l',q',hl',ih⟩:=stG_ext es 4 (l :: q) F (n+(encB e).length) (.inr rfl) fun x hx=>he x (List.mem_cons_of_mem _ hx)
  refine ⟨l',q',hl',?_⟩
  have e1:stG (l :: q) (e :: es++F) (posL n (e :: es++F))=stG (4 :: l :: q) (es++F) (posL (n+(encB e).length) (es++F)):=by
   show stG (l :: q) (e :: (es++F)) (n :: posL (n+(encB e).length) (es++F))=_
   have hj:joinS (l :: q) 4=true:=by rcases hl with rfl | rfl <;> rfl
   rw [← h4] at hj
   have e2:stG (l :: q) (e :: (es++F)) (n :: posL (n+(encB e).length) (es++F))=if joinS (l :: q) (clsZ e)=true then stG (clsZ e :: l :: q) (es++F) (posL (n+(encB e).length) (es++F)) else n :: stG (clsZ e :: l :: q) (es++F) (posL (n+(encB e).length) (es++F)):=rfl
   rw [e2,if_pos hj,h4]
  rw [e1,ih,enc_cons,List.length_append]
  congr 2
  omega
theorem blk_cuts:∀ (B:List (List Int)) (rk:List Int) (x s:List UInt8),HdOk rk→(∀ b ∈ B,Blk b)→s=x++enc B.flatten →
  ∃ M,stG rk B.flatten (posL (x.length:Int) B.flatten)++[(s.length:Int)]=(x.length:Int) :: M∧cutsL s ((x.length:Int) :: M)=B.map enc
 | [],rk,x,s,_,_,hs=>by
  have hs':s=x:=by rw [hs];simp [enc]
  subst hs'
  exact ⟨[],rfl,rfl⟩
 | b :: B,rk,x,s,hr,hB,hs=>by
  obtain ⟨hm,c,es,rfl,hc⟩:=hB b List.mem_cons_self
  have hB':∀ b ∈ B,Blk b:=fun b hb=>hB b (List.mem_cons_of_mem _ hb)
  have hk:clsZ c=0∨clsZ c=3:=hc.elim (fun h=>.inl h.1) (fun h=>.inr h.1)
  have hj:=join_new hr hk
  have he:((c :: es) :: B).flatten=c :: (es++B.flatten):=rfl
  have e1:stG rk (c :: (es++B.flatten)) (posL (x.length:Int) (c :: (es++B.flatten)))=(x.length:Int) :: stG (clsZ c :: rk) (es++B.flatten) (posL ((x.length:Int)+(encB c).length) (es++B.flatten)):=by
   have e2:stG rk (c :: (es++B.flatten)) (posL (x.length:Int) (c :: (es++B.flatten)))=if joinS rk (clsZ c)=true then stG (clsZ c :: rk) (es++B.flatten) (posL ((x.length:Int)+(encB c).length) (es++B.flatten)) else (x.length:Int) :: stG (clsZ c :: rk) (es++B.flatten) (posL ((x.length:Int)+(encB c).length) (es++B.flatten)):=rfl
   rw [e2,hj,if_neg (by simp)]
  obtain ⟨rk',hr',e3⟩:∃ rk',HdOk rk'∧stG (clsZ c :: rk) (es++B.flatten) (posL ((x.length:Int)+(encB c).length) (es++B.flatten))=stG rk' B.flatten (posL (((x++enc (c :: es)).length:Nat):Int) B.flatten):=by
   have hl:(((x++enc (c :: es)).length:Nat):Int)=(x.length:Int)+(encB c).length+((enc es).length:Int):=by
    rw [enc_cons,List.length_append,List.length_append];omega
   rw [hl]
   rcases hc with ⟨h0,h4⟩ | ⟨h3,rfl⟩
   ·obtain ⟨l',q',hl',ih⟩:=stG_ext es (clsZ c) rk B.flatten ((x.length:Int)+(encB c).length) (.inl h0) h4
    exact ⟨l' :: q',.inr ⟨l',q',rfl,hl'.elim .inl fun h=>.inr (.inr h)⟩,ih⟩
   ·refine ⟨clsZ c :: rk,.inr ⟨_,_,rfl,.inr (.inl h3)⟩,?_⟩
    rw [List.nil_append]
    show _=stG (clsZ c :: rk) B.flatten (posL ((x.length:Int)+(encB c).length+((0:Nat):Int)) B.flatten)
    rw [show (x.length:Int)+(encB c).length+((0:Nat):Int)=(x.length:Int)+(encB c).length by omega]
  have hs2:s=(x++enc (c :: es))++enc B.flatten:=by
   rw [hs,he,← List.cons_append,enc_app,List.append_assoc]
  obtain ⟨M,h1,h2⟩:=blk_cuts B rk' (x++enc (c :: es)) s hr' hB' hs2
  refine ⟨(((x++enc (c :: es)).length:Nat):Int) :: M,?_,?_⟩
  ·rw [he,e1,e3,List.cons_append,h1]
  ·show (s.drop (x.length:Int).toNat).take ((((x++enc (c :: es)).length:Nat):Int).toNat - (x.length:Int).toNat) :: cutsL s ((((x++enc (c :: es)).length:Nat):Int) :: M)=enc (c :: es) :: B.map enc
   rw [h2,Int.toNat_natCast,Int.toNat_natCast,List.length_append,Nat.add_sub_cancel_left,hs2,List.append_assoc,List.drop_left,List.take_left]
theorem blk_split {B:List (List Int)} (h:∀ b ∈ B,Blk b):splitS (enc B.flatten)=B.map enc∧cleanL (enc B.flatten)=enc B.flatten:=by
 have hm:∀ c ∈ B.flatten,mayC c=true:=fun c hc=>by
  obtain ⟨b,hb,hcb⟩:=List.mem_flatten.1 hc
  exact (h b hb).1 c hcb
 refine ⟨?_,by unfold cleanL;rw [chars_encf _ hm]⟩
 obtain ⟨M,h1,h2⟩:=blk_cuts B [] [] (enc B.flatten) (.inl rfl) h rfl
 unfold splitS cstL startsL
 rw [chars_encf _ hm,starts_enc _ 0 hm]
 exact (congrArg _ h1).trans h2
def Pcs (t:List UInt8):Prop:=∃ b,Blk b∧t=enc b
theorem Unt.pcs {t:List UInt8} (h:Unt t):Pcs t:=by
 obtain ⟨c,es,rfl,hc,h0,he⟩:=h
 refine ⟨c :: es,⟨fun x hx=>?_,c,es,rfl,.inl ⟨h0,fun e h=>(he e h).2⟩⟩,rfl⟩
 rcases List.mem_cons.1 hx with rfl | hx
 ·exact hc.1
 ·exact (he x hx).1.1
theorem pcs_ctl {c:Int} (hm:mayC c=true) (h3:clsZ c=3):Pcs (encB c) :=
 ⟨[c],⟨fun x hx=>by rw [List.mem_singleton] at hx;subst hx;exact hm,c,[],rfl,.inr ⟨h3,rfl⟩⟩,by simp [enc]⟩
theorem pcs_split:∀ {ts:List (List UInt8)},(∀ t ∈ ts,Pcs t)→splitS ts.flatten=ts∧cleanL ts.flatten=ts.flatten:=by
 intro ts h
 have:∃ B:List (List Int),(∀ b ∈ B,Blk b)∧ts=B.map enc:=by
  induction ts with
  | nil=>exact ⟨[],by simp,rfl⟩
  | cons t ts ih =>
   obtain ⟨B,hB,rfl⟩:=ih fun x hx=>h x (List.mem_cons_of_mem _ hx)
   obtain ⟨b,hb,rfl⟩:=h t List.mem_cons_self
   exact ⟨b :: B,fun x hx=>(List.mem_cons.1 hx).elim (fun e=>by rw [e];exact hb) (hB x),rfl⟩
 obtain ⟨B,hB,rfl⟩:=this
 have e:(B.map enc).flatten=enc B.flatten:=by
  clear h hB
  induction B with
  | nil=>rfl
  | cons b B ih=>rw [List.map_cons,List.flatten_cons,ih,List.flatten_cons,enc_app]
 rw [e]
 exact blk_split hB
theorem cls_ctl:clsZ 9=3∧clsZ 1=3∧encB 9=[9]∧encB 1=[1]∧mayC 9=true∧mayC 1=true∧charsL [9]=[9]∧charsL [1]=[1]∧headC [9]=9∧headC [1]=1∧(ofZ 9).2=-1∧(ofZ 1).2=-1:=by decide +kernel
theorem ctl_pln:¬ Pln [9]∧¬ Pln [1]:=by
 obtain ⟨h9,h1,_,_,_,_,c9,c1,_⟩:=cls_ctl
 refine ⟨?_,?_⟩
 ·rintro ⟨cs,hp⟩
  have hm:∀ c ∈ cs,mayC c=true:=fun c hc=>(hp.pl c hc).1
  have e:=chars_encf cs hm
  rw [← hp.eq,c9] at e
  have:=hp.hd 9 [] e.symm
  omega
 ·rintro ⟨cs,hp⟩
  have hm:∀ c ∈ cs,mayC c=true:=fun c hc=>(hp.pl c hc).1
  have e:=chars_encf cs hm
  rw [← hp.eq,c1] at e
  have:=hp.hd 1 [] e.symm
  omega
section
variable {r:Rec} {p:Pt}
theorem sign_npl (h:Both r p) {t:List UInt8} (ht:¬ Pln t):signZ (locOf r p) ⟨t.toArray⟩=-1:=by
 refine sign_no (t:=t) (fun hm=>?_) (fun e=>?_) (fun hz e=>?_) (fun e=>?_)
 ·obtain ⟨k,hk,rfl⟩:=d_mem h hm
  exact ht (sym_pln h (n:=k) (by omega) (by omega))
 ·subst e;exact ht (pln_sym h.may.dec)
 ·subst e;exact ht (pln_sym (grp_sym h hz))
 ·subst e;exact ht (pln_sym h.may.min)
theorem kind_tab (h:Both r p):kindF (locOf r p) [9]=11:=by
 obtain ⟨_,_,_,_,_,_,_,_,h9,_,o9,_⟩:=cls_ctl
 have h1:(splitS [9]).length=1:=by decide +kernel
 unfold kindF
 rw [if_neg (by rw [h1];simp),sign_npl h ctl_pln.1,if_neg (by omega),h9,o9,if_neg (by omega),if_neg (by decide),if_neg (by decide),if_pos (.inl (by decide))]
theorem nz_map (h:Both r p) (ts:List (List UInt8)):nz (ts.map (kindF (locOf r p)))=nz ((ts.filter fun t=>decide (t ≠ [9])).map (kindF (locOf r p))):=by
 induction ts with
 | nil=>rfl
 | cons t ts ih =>
  rw [List.filter_cons,List.map_cons]
  by_cases ht:t=[9]
  ·subst ht
   rw [if_neg (by simp),← ih,kind_tab h];rfl
  ·rw [if_pos (by simp [ht]),List.map_cons]
   unfold nz at ih ⊢
   rw [List.filter_cons,List.filter_cons,ih]
theorem blanks_clip (h:Both r p) (ho:Outs r p) {d:Dr} (hd:DrOk d) {ts:List (List UInt8)} (ht:(ts.filter fun t=>decide (t ≠ [9]))=splitS (textI (itemsF (locOf r p) d))) :
  ∃ lt,runF RS.ini (kinds (locOf r p) (cleanL ts.flatten))=.ok ⟨d.neg,atomsF d,lt⟩:=by
 obtain ⟨x,y,hc,hk,hp⟩:=shown_kinds h ho hd
 obtain ⟨_,_,e9,_,m9,_⟩:=cls_ctl
 have hts:∀ t ∈ ts,Pcs t:=fun t htt=>by
  by_cases h9:t=[9]
  ·subst h9
   rw [← e9]
   exact pcs_ctl m9 cls_ctl.1
  ·have:t ∈ ts.filter fun t=>decide (t ≠ [9]):=List.mem_filter.2 ⟨htt,by simp [h9]⟩
   rw [ht] at this
   exact (pln_unt hp this).pcs
 obtain ⟨h1,h2⟩:=pcs_split hts
 rw [h2,run_nz]
 have e:nz (kinds (locOf r p) ts.flatten)=nz (kinds (locOf r p) (textI (itemsF (locOf r p) d))):=by
  unfold kinds
  rw [h1,nz_map h,ht]
 rw [e,hk]
 exact run_shown hd hc
end
def No7 (r:Rec):Prop:=r.decimal ≠ [55]∧r.group ≠ [55]∧r.minus ≠ [55]
theorem no7_lists:(∀ i:Fin 4,decs.getD i.val [] ≠ [55]∧mins.getD i.val [] ≠ [55])∧[55] ∉ allGrps:=by decide +kernel
theorem no7_good (v0 v1 v2 v3 v4 v5:Int):No7 (goodR v0 v1 v2 v3 v4 v5):=by
 obtain ⟨s,j,i,m,a,b,g,hs,hj,hi,hm,ha,hb,hg,he,hk⟩:=good_mk v0 v1 v2 v3 v4 v5
 rw [he]
 obtain ⟨h1,h2⟩:=no7_lists
 refine ⟨(h1 ⟨i,hi⟩).1,?_,(h1 ⟨m,hm⟩).2⟩
 show g ≠ [55]
 rintro rfl
 split at hg
 ·exact h2 hg.1
 ·cases hg
theorem no7_40b:∀ k:Fin 40,(decide ((rec40 k.val).decimal ≠ [55]) && (decide ((rec40 k.val).group ≠ [55]) && decide ((rec40 k.val).minus ≠ [55])))=true:=by decide +kernel
theorem no7_40 {k:Nat} (hk:k < 40):No7 (rec40 k):=by
 have h:=no7_40b ⟨k,hk⟩
 simp only [Bool.and_eq_true,decide_eq_true_eq] at h
 exact ⟨h.1,h.2.1,h.2.2⟩
theorem sev_dig:∀ s ∈ names,∀ k:Fin 10,encB (zeroZ s+(k.val:Int))=[55]→k.val=7:=by decide +kernel
theorem sev_facts:(splitS [55]).length=1∧headC [55]=55∧encB 55=[55]∧(ofZ 55).2=7∧clsZ 55=0∧mayC 55=true∧(splitS [1]).length=1∧blankZ 1=false:=by decide +kernel
theorem sev_unt:Unt [55]:=by
 obtain ⟨_,_,he,_,h0,hm,_⟩:=sev_facts
 refine ⟨55,[],?_,⟨hm,.inl h0⟩,h0,by simp⟩
 rw [enc_cons,he];simp [enc]
section
variable {r:Rec} {p:Pt}
theorem kind_sev (h:Both r p) (h7:No7 r):kindF (locOf r p) [55]=7:=by
 obtain ⟨h1,hh,he,ho,_⟩:=sev_facts
 have hs:signZ (locOf r p) ⟨[55].toArray⟩=7∨signZ (locOf r p) ⟨[55].toArray⟩=-1:=by
  by_cases hm:[55] ∈ (locOf r p).d
  ·left
   obtain ⟨k,hk,e⟩:=d_mem h hm
   have e':=e
   unfold symX at e'
   rw [if_pos (by omega)] at e'
   have:=sev_dig _ h.may.sys ⟨k,hk⟩ e'.symm
   have hk7:k=7:=this
   subst hk7
   rw [e]
   exact sign_digit_ h (by omega)
  ·right
   exact sign_no hm (fun e=>h7.1 e.symm) (fun _ e=>h7.2.1 e.symm) (fun e=>h7.2.2 e.symm)
 unfold kindF
 rw [if_neg (by rw [h1];simp)]
 rcases hs with hs | hs
 ·rw [hs];rfl
 ·rw [hs,if_neg (by omega),hh,he,ho,if_pos ⟨rfl,by omega⟩]
theorem aff_npl (h:Both r p) {t:List UInt8} (ht:¬ Pln t):affB (locOf r p) ⟨t.toArray⟩=false:=by
 unfold affB
 rw [List.any_eq_false]
 intro q hq ha
 unfold affQ at ha
 rw [List.any_eq_true] at ha
 obtain ⟨u,hu,he⟩:=ha
 have hq':q ∈ affsP p:=hq
 have hp:Pln (txtL (locOf r p) q):=by
  rw [txt_flat]
  exact (Pln.flat (ts:=q.map fun x=>txtL (locOf r p) [x]) fun u hu=>by
   obtain ⟨y,hy,rfl⟩:=List.mem_map.1 hu
   exact pln_piece h hq' hy).1
 have hun:=(pln_unt hp hu).pln.1
 rw [decide_eq_true_eq] at he
 rw [ba_inj he] at hun
 exact ht hun
theorem kind_ctl (h:Both r p):kindF (locOf r p) [1]=-1:=by
 obtain ⟨_,_,_,_,_,_,_,_,_,h1,_,o1⟩:=cls_ctl
 obtain ⟨_,_,_,_,_,_,l1,b1⟩:=sev_facts
 unfold kindF
 rw [if_neg (by rw [l1];simp),sign_npl h ctl_pln.2,if_neg (by omega),h1,o1,if_neg (by omega),if_neg (by decide),if_neg (by decide),if_neg]
 rw [b1,aff_npl h ctl_pln.2];simp
theorem sevs_flat:∀ n:Nat,(List.replicate n ([55]:List UInt8)).flatten=List.replicate n 55
 | 0=>rfl
 | n+1=>by rw [List.replicate_succ,List.flatten_cons,sevs_flat n,List.replicate_succ];rfl
theorem sevs_pcs (n:Nat):∀ t ∈ List.replicate n ([55]:List UInt8),Pcs t:=fun t ht=>by
 rw [(List.mem_replicate.1 ht).2];exact sev_unt.pcs
theorem sevs_clip (h:Both r p) (h7:No7 r) (n:Nat):runF RS.ini (kinds (locOf r p) (cleanL (List.replicate n 55)))=.ok ⟨false,List.replicate n 7,false⟩:=by
 obtain ⟨h1,h2⟩:=pcs_split (sevs_pcs n)
 rw [sevs_flat] at h1 h2
 rw [h2]
 unfold kinds
 rw [h1,List.map_replicate,kind_sev h h7]
 have ha:∀ a ∈ List.replicate n (7:Int),0≤a∧a≤10:=fun a ha=>by rw [(List.mem_replicate.1 ha).2];omega
 have hc:(RS.ini.ats++List.replicate n (7:Int)).count 10≤1:=by
  show ([]++List.replicate n (7:Int)).count 10≤1
  rw [List.nil_append,List.count_replicate];simp
 rw [run_atoms _ RS.ini rfl ha hc];rfl
theorem ctl_clip (h:Both r p) (n:Nat):runF RS.ini (kinds (locOf r p) (cleanL (1 :: List.replicate n 55)))=.error 2:=by
 obtain ⟨_,k1,_,e1,_,m1,_⟩:=cls_ctl
 have hp:∀ t ∈ ([1]:List UInt8) :: List.replicate n [55],Pcs t:=fun t ht=>by
  rcases List.mem_cons.1 ht with rfl | ht
  ·rw [← e1];exact pcs_ctl m1 k1
  ·exact sevs_pcs n t ht
 obtain ⟨h1,h2⟩:=pcs_split hp
 rw [List.flatten_cons,sevs_flat] at h1 h2
 have e:(1:UInt8) :: List.replicate n 55=[1]++List.replicate n 55:=rfl
 rw [e,h2]
 unfold kinds
 rw [h1,List.map_cons,kind_ctl h]
 exact run_err (by unfold takeF;simp) _
def fitR (n:Nat) (x:Except Int (Bool × List Int)):Except Int (Bool × List Int):=if 4096 < n then .error 3 else match x with
 | .error e=>.error e
 | .ok t=>if t.1=false∧t.2.length=0 then .error 7 else .ok t
def progR (l:Loc) (s:List UInt8):Except Int (Bool × List Int):=match runF RS.ini ((splitS (cleanL s)).map (kindF l)) with
 | .error e=>.error e
 | .ok t=>.ok (t.neg,t.ats)
def docR (l:Loc) (s:List UInt8):Except Int (Bool × List Int):=match runR ⟨false,[],0,false⟩ ((splitS (cleanL s)).map (kindR l)) with
 | .error e=>.error e
 | .ok t=>.ok (t.neg,t.ats)
theorem read_eq (l:Loc) (s:List UInt8):progR l s=docR l s:=by
 unfold progR docR
 have hk:(splitS (cleanL s)).map (kindR l)=(splitS (cleanL s)).map (kindF l):=List.map_congr_left fun u _=>(kind_eq l u).symm
 rw [hk]
 have hr:=run_rel ((splitS (cleanL s)).map (kindF l)) (s:=RS.ini) (t:=⟨false,[],0,false⟩) ⟨rfl,rfl,rfl,rfl,by intro e;cases e⟩ fun k hk=>by
  obtain ⟨u,_,rfl⟩:=List.mem_map.1 hk
  exact kind_lo l u
 rcases hr with ⟨e,h1,h2⟩ | ⟨s',t',h1,h2,h3⟩
 ·rw [h1,h2]
 ·rw [h1,h2]
  simp only [h3.neg,h3.ats]
end
end Go.Proofs.YtcghgkagpkmpeaaGreatDoor.Loc
