/- Joined by wip/join.py: EndsP ItP ItP2 SplP ItP3 VwP VwP2. -/
import Derived.Test.YtcghgkagpkmpeaaGreatDoorRows
import Derived.Test.YtcghgkagpkmpeaaGreatDoorJLocE
import Derived.Test.YtcghgkagpkmpeaaGreatDoorJLocD
import Derived.Test.YtcghgkagpkmpeaaGreatDoorJCls
import Derived.Test.YtcghgkagpkmpeaaGreatDoorJPat1
set_option linter.unusedVariables false
set_option linter.unusedSimpArgs false
namespace Go.Proofs.YtcghgkagpkmpeaaGreatDoor.Ends
def itemEnds (l p s:Int):Bool :=
 if l < 1∨p < 1∨l < p then false else if l=p then true else if 0 < s then decide ((l - p) % s=0) else false
end Go.Proofs.YtcghgkagpkmpeaaGreatDoor.Ends
namespace Go.Proofs.YtcghgkagpkmpeaaGreatDoor.Loc
open Go.RowKit Utf All Small Strs Build EncC Pat Cls Dec Go.Proofs.YtcghgkagpkmpeaaGreatDoor.Sys
abbrev It:=Int × List UInt8 × Int
def itV (x:It):List Value:=[.int .i64 x.1,.string ⟨x.2.1.toArray⟩,.int .i64 x.2.2]
def itsV (l:List It):List Value:=l.flatMap itV
theorem its_len (l:List It):(itsV l).length=l.length * 3:=flat_len itV 3 (fun _=>rfl) l
theorem its_app (l m:List It):itsV (l++m)=itsV l++itsV m:=by unfold itsV;rw [List.flatMap_append]
structure Dr where
 neg:Bool
 int:List Int
 sep:Bool
 frac:List Int
structure DrOk (d:Dr):Prop where
 int:∀ x ∈ d.int,0≤x∧x≤9
 frac:∀ x ∈ d.frac,0≤x∧x≤9
 sep:d.sep=false→d.frac=[]
def prtI (r:Rec) (p:Prt):It:=if p.1 then (1,r.minus,-1) else (0,p.2,-1)
def grpAt (l:Loc) (left:Int):List It:=if Ends.itemEnds left l.p.num.prim l.p.num.sec then [(3,l.r.group,-1)] else []
def digI (l:Loc) (x a:Int):It:=(2,digZ l x,a)
def intF (l:Loc) (xs:List Int) (i:Nat):List It:=digI l (xs.getD i 0) i :: grpAt l ((xs.length:Int) - 1 - i)
def intsTo (l:Loc) (xs:List Int) (k:Nat):List It:=(List.range k).flatMap (intF l xs)
def fracTo (l:Loc) (n:Nat) (ys:List Int) (k:Nat):List It:=(List.range k).map fun (i:Nat)=>digI l (ys.getD i 0) ((n:Int)+1+i)
def decI (l:Loc) (d:Dr):List It:=if d.sep then [(4,l.r.decimal,(d.int.length:Int))] else []
def midF (l:Loc) (d:Dr):List It:=intsTo l d.int d.int.length++(decI l d++fracTo l d.int.length d.frac d.frac.length)
def itemsF (l:Loc) (d:Dr):List It:=(ahead l d.neg).map (prtI l.r)++(midF l d++(behind l d.neg).map (prtI l.r))
theorem intsTo_succ (l:Loc) (xs:List Int) (k:Nat):intsTo l xs (k+1)=intsTo l xs k++intF l xs k:=by
 unfold intsTo;rw [List.range_succ,List.flatMap_append];simp
theorem fracTo_succ (l:Loc) (n:Nat) (ys:List Int) (k:Nat):fracTo l n ys (k+1)=fracTo l n ys k++[digI l (ys.getD k 0) ((n:Int)+1+k)]:=by
 unfold fracTo;rw [List.range_succ,List.map_append];rfl
theorem fracTo_len (l:Loc) (n:Nat) (ys:List Int) (k:Nat):(fracTo l n ys k).length=k:=by unfold fracTo;simp
def atomsF (d:Dr):List Int:=d.int++((if d.sep then [10] else [])++d.frac)
def atomAt (d:Dr) (i:Nat):Int:=(atomsF d).getD i 0
def refAt (l:Loc) (d:Dr) (i:Nat):List It:=if atomAt d i=10 then [(4,l.r.decimal,(i:Int))] else digI l (atomAt d i) i :: grpAt l ((d.int.length:Int) - 1 - i)
def refTo (l:Loc) (d:Dr) (k:Nat):List It:=(List.range k).flatMap (refAt l d)
theorem refTo_succ (l:Loc) (d:Dr) (k:Nat):refTo l d (k+1)=refTo l d k++refAt l d k:=by
 unfold refTo;rw [List.range_succ,List.flatMap_append];simp
theorem atoms_len (d:Dr):(atomsF d).length=d.int.length+((if d.sep then 1 else 0)+d.frac.length):=by
 unfold atomsF;rw [List.length_append,List.length_append];split <;> rfl
theorem atom_int {d:Dr} {i:Nat} (h:i < d.int.length):atomAt d i=d.int.getD i 0:=by
 unfold atomAt atomsF
 rw [List.getD_eq_getElem?_getD,List.getD_eq_getElem?_getD,List.getElem?_append_left h]
theorem atom_dec {d:Dr} (h:d.sep=true):atomAt d d.int.length=10:=by
 unfold atomAt atomsF
 rw [List.getD_eq_getElem?_getD,List.getElem?_append_right (Nat.le_refl _),h];simp
theorem atom_frac {d:Dr} (h:d.sep=true) (i:Nat):atomAt d (d.int.length+1+i)=d.frac.getD i 0:=by
 unfold atomAt atomsF
 rw [List.getD_eq_getElem?_getD,List.getD_eq_getElem?_getD,List.getElem?_append_right (by omega),h,show d.int.length+1+i - d.int.length=i+1 by omega]
 rfl
theorem getD_bd {xs:List Int} (h:∀ x ∈ xs,0≤x∧x≤9) {i:Nat} (hi:i < xs.length):0≤xs.getD i 0∧xs.getD i 0≤9:=by
 rw [List.getD_eq_getElem?_getD,List.getElem?_eq_getElem hi];exact h _ (List.getElem_mem hi)
theorem grp_neg (l:Loc) {left:Int} (h:left < 1):grpAt l left=[]:=by
 have e:Ends.itemEnds left l.p.num.prim l.p.num.sec=false:=by
  unfold Ends.itemEnds;exact if_pos (Or.inl h)
 unfold grpAt;rw [e];rfl
theorem flatMap_eq {α β:Type} {f g:α→List β}:∀ {l:List α},(∀ a ∈ l,f a=g a)→l.flatMap f=l.flatMap g
 | [],_=>rfl
 | a :: l,h=>by
  rw [List.flatMap_cons,List.flatMap_cons,h a List.mem_cons_self,flatMap_eq fun b hb=>h b (List.mem_cons_of_mem _ hb)]
theorem ref_int {l:Loc} {d:Dr} (h:DrOk d):refTo l d d.int.length=intsTo l d.int d.int.length:=by
 unfold refTo intsTo
 refine flatMap_eq fun i hi=>?_
 have hi':i < d.int.length:=List.mem_range.1 hi
 have hb:=getD_bd h.int hi'
 unfold refAt intF
 rw [atom_int hi',if_neg (by omega)]
theorem ref_mid {l:Loc} {d:Dr} (h:DrOk d):refTo l d (atomsF d).length=midF l d:=by
 unfold midF
 rw [atoms_len]
 cases hs:d.sep
 ·have hf:=h.sep hs
  rw [hf]
  simp only [Bool.false_eq_true,if_false,List.length_nil,Nat.add_zero]
  rw [ref_int h]
  unfold decI fracTo;rw [hs];simp
 ·simp only [if_true]
  have key:∀ k,k≤d.frac.length→refTo l d (d.int.length+(1+k))=intsTo l d.int d.int.length++([(4,l.r.decimal,(d.int.length:Int))]++fracTo l d.int.length d.frac k):=by
   intro k
   induction k with
   | zero =>
    intro _
    show refTo l d (d.int.length+1)=_
    rw [refTo_succ,ref_int h]
    unfold refAt
    rw [atom_dec hs,if_pos rfl]
    simp [fracTo]
   | succ k ih =>
    intro hk
    rw [show d.int.length+(1+(k+1))=d.int.length+(1+k)+1 by omega,refTo_succ,ih (by omega),fracTo_succ]
    have hb:=getD_bd h.frac (show k < d.frac.length by omega)
    have ha:=atom_frac hs k
    rw [show d.int.length+1+k=d.int.length+(1+k) by omega] at ha
    unfold refAt
    rw [ha,if_neg (by omega),grp_neg l (by omega)]
    have e:((d.int.length+(1+k):Nat):Int)=(d.int.length:Int)+1+k:=by omega
    rw [e]
    simp [List.append_assoc]
  rw [key d.frac.length (Nat.le_refl _)]
  unfold decI;rw [hs];rfl
theorem grp_mem {l:Loc} {z:Int} {x:It} (h:x ∈ grpAt l z):x=(3,l.r.group,-1):=by
 unfold grpAt at h
 split at h
 ·simpa using h
 ·cases h
theorem ints_mem {l:Loc} {xs:List Int} {k:Nat} {x:It} (h:x ∈ intsTo l xs k):(∃ i,i < k∧x=digI l (xs.getD i 0) i)∨x=(3,l.r.group,-1):=by
 unfold intsTo at h
 obtain ⟨i,hi,hx⟩:=List.mem_flatMap.1 h
 unfold intF at hx
 rcases List.mem_cons.1 hx with rfl | hx
 ·exact .inl ⟨i,List.mem_range.1 hi,rfl⟩
 ·exact .inr (grp_mem hx)
theorem frac_mem {l:Loc} {n:Nat} {ys:List Int} {k:Nat} {x:It} (h:x ∈ fracTo l n ys k):∃ i,i < k∧x=digI l (ys.getD i 0) ((n:Int)+1+i):=by
 unfold fracTo at h
 obtain ⟨i,hi,rfl⟩:=List.mem_map.1 h
 exact ⟨i,List.mem_range.1 hi,rfl⟩
theorem mid_mem {l:Loc} {d:Dr} {x:It} (h:x ∈ midF l d):(∃ v a,x=digI l v a)∨x=(3,l.r.group,-1)∨x=(4,l.r.decimal,(d.int.length:Int)):=by
 unfold midF at h
 rcases List.mem_append.1 h with h | h
 ·rcases ints_mem h with ⟨i,_,rfl⟩ | rfl
  ·exact .inl ⟨_,_,rfl⟩
  ·exact .inr (.inl rfl)
 ·rcases List.mem_append.1 h with h | h
  ·unfold decI at h
   split at h
   ·exact .inr (.inr (by simpa using h))
   ·cases h
  ·obtain ⟨i,_,rfl⟩:=frac_mem h
   exact .inl ⟨_,_,rfl⟩
def Between (L:List It):Prop:=∀ (i:Nat) (x:It),L[i]? = some x→x.1=3→0 < i∧(∃ y:It,L[i - 1]? = some y∧y.1=2)∧∃ z:It,L[i+1]? = some z∧z.1=2
theorem Between.none {L:List It} (h:∀ x ∈ L,x.1 ≠ 3):Between L:=fun i x hx h3=>absurd h3 (h x (List.mem_of_getElem? hx))
theorem Between.app {A B:List It} (ha:Between A) (hb:Between B):Between (A++B):=by
 intro i x hx h3
 by_cases hi:i < A.length
 ·rw [List.getElem?_append_left hi] at hx
  obtain ⟨h0,⟨y,hy,hy2⟩,z,hz,hz2⟩:=ha i x hx h3
  have hz':=(List.getElem?_eq_some_iff.1 hz).1
  exact ⟨h0,⟨y,by rw [List.getElem?_append_left (by omega)];exact hy,hy2⟩,z,by rw [List.getElem?_append_left hz'];exact hz,hz2⟩
 ·rw [List.getElem?_append_right (by omega)] at hx
  obtain ⟨h0,⟨y,hy,hy2⟩,z,hz,hz2⟩:=hb _ x hx h3
  refine ⟨by omega,⟨y,?_,hy2⟩,z,?_,hz2⟩
  ·rw [List.getElem?_append_right (by omega),show i - 1 - A.length=i - A.length - 1 by omega];exact hy
  ·rw [List.getElem?_append_right (by omega),show i+1 - A.length=i - A.length+1 by omega];exact hz
theorem Between.grp {A:List It} {u g v:It} (ha:Between (A++[u])) (hu:u.1=2) (hv:v.1=2):Between (A++[u]++[g,v]):=by
 intro i x hx h3
 by_cases hi:i < (A++[u]).length
 ·rw [List.getElem?_append_left hi] at hx
  obtain ⟨h0,⟨y,hy,hy2⟩,z,hz,hz2⟩:=ha i x hx h3
  have hz':=(List.getElem?_eq_some_iff.1 hz).1
  exact ⟨h0,⟨y,by rw [List.getElem?_append_left (by omega)];exact hy,hy2⟩,z,by rw [List.getElem?_append_left hz'];exact hz,hz2⟩
 ·rw [List.getElem?_append_right (by omega)] at hx
  have hlen:(A++[u]).length=A.length+1:=by simp
  have hb:=(List.getElem?_eq_some_iff.1 hx).1
  simp at hb
  rcases (by omega:i - (A++[u]).length=0∨i - (A++[u]).length=1) with h | h
  ·refine ⟨by omega,⟨u,?_,hu⟩,v,?_,hv⟩
   ·rw [List.getElem?_append_left (by omega),List.getElem?_append_right (by omega),show i - 1 - A.length=0 by omega];rfl
   ·rw [List.getElem?_append_right (by omega),show i+1 - (A++[u]).length=1 by omega];rfl
  ·rw [h] at hx
   simp at hx
   subst hx
   omega
end Go.Proofs.YtcghgkagpkmpeaaGreatDoor.Loc
namespace Go.Proofs.YtcghgkagpkmpeaaGreatDoor.Cls
open All Utf Dec EncC
theorem ok_enc {l:List UInt8} (h0:l ≠ []) (h:okL l=true):encB (dec l).1=l.take (dec l).2:=by
 by_cases hn:∃ n,1≤n∧n≤4∧n≤l.length∧isEnc l n=true
 ·obtain ⟨n,h1,h4,hl,he⟩:=hn
  rw [(dec_of_enc l n h1 h4 hl he).1]
  unfold isEnc at he
  exact of_decide_eq_true he
 ·have:=(dec_of_none l h0 fun n h1 h4 hl=>by
   cases he:isEnc l n
   ·rfl
   ·exact absurd ⟨n,h1,h4,hl,he⟩ hn).2
  rw [this] at h;cases h
theorem valid_flat:∀ (n:Nat) (l:List UInt8),l.length≤n→validL l=true→l=(charsL l).flatMap encB
 | 0,l,h,_=>by
  have:l=[]:=List.eq_nil_of_length_eq_zero (by omega)
  subst this;rfl
 | n+1,l,h,hv=>by
  by_cases h0:l=[]
  ·subst h0;rfl
  ·have hw:=dec_width h0
   rw [valid_cons h0,Bool.and_eq_true] at hv
   have ih:=valid_flat n (l.drop (dec l).2) (by rw [List.length_drop];omega) hv.2
   rw [chars_cons h0,List.flatMap_cons,ok_enc h0 hv.1,← ih,List.take_append_drop]
def enc (cs:List Int):List UInt8:=cs.flatMap encB
theorem enc_app (a b:List Int):enc (a++b)=enc a++enc b:=List.flatMap_append
theorem enc_cons (c:Int) (r:List Int):enc (c :: r)=encB c++enc r:=rfl
def posL:Int→List Int→List Int
 | _,[]=>[]
 | p,c :: r=>p :: posL (p+(encB c).length) r
theorem starts_enc:∀ (cs:List Int) (p:Int),(∀ c ∈ cs,mayC c=true)→startsP p (pieces (enc cs))=posL p cs
 | [],_,_=>rfl
 | c :: r,p,h=>by
  have hc:=h c List.mem_cons_self
  have hl:=encB_len hc
  have hne:enc (c :: r) ≠ []:=by
   rw [enc_cons];intro e
   have:=congrArg List.length e
   rw [List.length_append] at this
   simp only [List.length_nil] at this
   omega
  have hd:=(dec_enc hc (enc r)).1
  rw [starts_cons hne,enc_cons,hd]
  show p :: startsP (p+(encB c).length) (pieces ((encB c++enc r).drop (encB c).length))=_
  rw [List.drop_left,starts_enc r _ fun x hx=>h x (List.mem_cons_of_mem _ hx)];rfl
theorem chars_encf (cs:List Int) (h:∀ c ∈ cs,mayC c=true):charsL (enc cs)=cs:=by
 have:=chars_encs cs [] h
 rw [List.append_nil] at this
 unfold enc;rw [this]
 show cs++charsL []=cs
 have e:charsL []=[]:=rfl
 rw [e,List.append_nil]
def PlC (c:Int):Prop:=mayC c=true∧(clsZ c=0∨clsZ c=4)
def goC (u:List UInt8):List Int→List (List UInt8)
 | []=>[u]
 | c :: r=>if clsZ c=4 then goC (u++encB c) r else u :: goC (encB c) r
theorem join_plain {l:Int} {rk:List Int} {k:Int} (hl:l=0∨l=4) (hk:k=0∨k=4):joinS (l :: rk) k=decide (k=4):=by
 rcases hl with rfl | rfl <;> rcases hk with rfl | rfl <;> rfl
theorem cuts_go:∀ (cs:List Int) (x u:List UInt8) (rk:List Int) (l:Int) (s:List UInt8),(l=0∨l=4)→(∀ c ∈ cs,PlC c)→s=x++(u++enc cs) →
  cutsL s ((x.length:Int) :: (stG (l :: rk) cs (posL ((x.length:Int)+u.length) cs)++[(s.length:Int)]))=goC u cs
 | [],x,u,rk,l,s,hl,_,hs=>by
  have hs':s=x++u:=by rw [hs];simp [enc]
  subst hs'
  show [((x++u).drop (x.length:Int).toNat).take (((x++u).length:Int).toNat - (x.length:Int).toNat)]=[u]
  rw [Int.toNat_natCast,Int.toNat_natCast,List.drop_left,List.length_append,Nat.add_sub_cancel_left,List.take_length]
 | c :: r,x,u,rk,l,s,hl,hc,hs=>by
  have hcc:=hc c List.mem_cons_self
  have hr:∀ d ∈ r,PlC d:=fun d hd=>hc d (List.mem_cons_of_mem _ hd)
  unfold stG posL goC
  rw [join_plain hl hcc.2]
  by_cases h4:clsZ c=4
  ·rw [if_pos (decide_eq_true h4),if_pos h4]
   have ih:=cuts_go r x (u++encB c) (l :: rk) (clsZ c) s (.inr h4) hr (by rw [hs,enc_cons];simp)
   rw [List.length_append] at ih
   have e:(x.length:Int)+((u.length+(encB c).length:Nat):Int)=(x.length:Int)+u.length+(encB c).length:=by omega
   rw [e] at ih
   exact ih
  ·have h0:clsZ c=0:=hcc.2.resolve_right h4
   rw [if_neg (by simp [h4]),if_neg h4]
   have ih:=cuts_go r (x++u) (encB c) (l :: rk) (clsZ c) s (.inl h0) hr (by rw [hs,enc_cons];simp)
   rw [List.length_append] at ih
   have e:((x.length+u.length:Nat):Int)=(x.length:Int)+u.length:=by omega
   rw [e] at ih
   show ((s.drop (x.length:Int).toNat).take (((x.length:Int)+u.length).toNat - (x.length:Int).toNat)) :: _=_
   refine congr (congrArg List.cons ?_) ih
   rw [Int.toNat_natCast,show ((x.length:Int)+u.length).toNat - x.length=u.length by omega,hs,List.drop_left,List.take_left]
structure PlT (t:List UInt8) (cs:List Int):Prop where
 eq:t=enc cs
 pl:∀ c ∈ cs,PlC c
 hd:∀ c r,cs=c :: r→clsZ c=0
def goS:List Int→List (List UInt8)
 | []=>[]
 | c :: r=>goC (encB c) r
theorem split_go {t:List UInt8} {cs:List Int} (h:PlT t cs):splitS t=goS cs:=by
 have hm:∀ c ∈ cs,mayC c=true:=fun c hc=>(h.pl c hc).1
 rw [h.eq]
 unfold splitS cstL startsL
 rw [chars_encf cs hm,starts_enc cs 0 hm]
 cases cs with
 | nil=>rfl
 | cons c r =>
  have h0:=h.hd c r rfl
  have hg:=cuts_go r [] (encB c) [] (clsZ c) (enc (c :: r)) (.inl h0) (fun d hd=>h.pl d (List.mem_cons_of_mem _ hd)) rfl
  unfold stG posL goS
  have hj:joinS [] (clsZ c)=false:=rfl
  rw [hj]
  simp only [List.length_nil] at hg
  have e:((0:Nat):Int)+((encB c).length:Int)=0+((encB c).length:Int):=rfl
  exact hg
theorem goC_cons (u:List UInt8) (c:Int) (r:List Int):goC u (c :: r)=if clsZ c=4 then goC (u++encB c) r else u :: goC (encB c) r:=rfl
theorem goC_app:∀ (r:List Int) (u:List UInt8) (c:Int) (q:List Int),clsZ c=0→goC u (r++c :: q)=goC u r++goC (encB c) q
 | [],u,c,q,h=>by
  rw [List.nil_append,goC_cons,if_neg (by omega)];rfl
 | d :: r,u,c,q,h=>by
  rw [List.cons_append,goC_cons,goC_cons u d r]
  split
  ·exact goC_app r _ c q h
  ·rw [goC_app r _ c q h];rfl
theorem goS_app {a b:List Int} (hb:∀ c r,b=c :: r→clsZ c=0):goS (a++b)=goS a++goS b:=by
 cases a with
 | nil=>rfl
 | cons c r =>
  cases b with
  | nil=>simp [goS]
  | cons d q=>exact goC_app r (encB c) d q (hb d q rfl)
theorem PlT.nil:PlT [] []:=⟨rfl,by simp,by intro c r h;cases h⟩
theorem PlT.app {t u:List UInt8} {a b:List Int} (ha:PlT t a) (hb:PlT u b):PlT (t++u) (a++b):=by
 refine ⟨by rw [ha.eq,hb.eq,enc_app],fun c hc=>(List.mem_append.1 hc).elim (ha.pl c) (hb.pl c),fun c r h=>?_⟩
 cases a with
 | nil=>exact hb.hd c r h
 | cons x y=>injection h with h1 h2;subst h1;exact ha.hd x y rfl
theorem split_app {t u:List UInt8} {a b:List Int} (ha:PlT t a) (hb:PlT u b):splitS (t++u)=splitS t++splitS u:=by
 rw [split_go (ha.app hb),split_go ha,split_go hb,goS_app hb.hd]
def Pln (t:List UInt8):Prop:=∃ cs,PlT t cs
theorem Pln.nil:Pln []:=⟨[],PlT.nil⟩
theorem Pln.app {t u:List UInt8} (ha:Pln t) (hb:Pln u):Pln (t++u):=by
 obtain ⟨a,ha⟩:=ha;obtain ⟨b,hb⟩:=hb;exact ⟨_,ha.app hb⟩
theorem Pln.split {t u:List UInt8} (ha:Pln t) (hb:Pln u):splitS (t++u)=splitS t++splitS u:=by
 obtain ⟨a,ha⟩:=ha;obtain ⟨b,hb⟩:=hb;exact split_app ha hb
theorem Pln.flat {ts:List (List UInt8)} (h:∀ t ∈ ts,Pln t):Pln ts.flatten∧splitS ts.flatten=ts.flatMap splitS:=by
 induction ts with
 | nil=>exact ⟨Pln.nil,rfl⟩
 | cons t r ih =>
  obtain ⟨h1,h2⟩:=ih fun x hx=>h x (List.mem_cons_of_mem _ hx)
  have ht:=h t List.mem_cons_self
  exact ⟨ht.app h1,by rw [List.flatten_cons,ht.split h1,h2,List.flatMap_cons]⟩
theorem plainR_mem:∀ {cs:List Int},plainR cs=true→∀ c ∈ cs,clsZ c=0∨clsZ c=4
 | [],_,c,h=>by cases h
 | d :: r,hp,c,h=>by
  unfold plainR at hp
  simp only [Bool.and_eq_true,Bool.or_eq_true,beq_iff_eq] at hp
  rcases List.mem_cons.1 h with rfl | h
  ·exact hp.1
  ·exact plainR_mem hp.2 c h
theorem pln_of {t:List UInt8} (hv:validL t=true) (hp:plainL (charsL t)=true):Pln t:=by
 refine ⟨charsL t,valid_flat _ t (Nat.le_refl _) hv,fun c hc=>⟨charsL_may t c hc,?_⟩,fun c r h=>?_⟩
 ·cases hcs:charsL t with
  | nil=>rw [hcs] at hc;cases hc
  | cons d r =>
   rw [hcs] at hc hp
   unfold plainL at hp
   simp only [Bool.and_eq_true,beq_iff_eq] at hp
   rcases List.mem_cons.1 hc with rfl | hc
   ·exact .inl hp.1
   ·exact plainR_mem hp.2 c hc
 ·rw [h] at hp
  unfold plainL at hp
  simp only [Bool.and_eq_true,beq_iff_eq] at hp
  exact hp.1
end Go.Proofs.YtcghgkagpkmpeaaGreatDoor.Cls
namespace Go.Proofs.YtcghgkagpkmpeaaGreatDoor.Loc
open Go.RowKit Utf All Small Strs Build EncC Pat Cls Dec Go.Proofs.YtcghgkagpkmpeaaGreatDoor.Sys
theorem pln_word {t:List UInt8} (h:wordL t=true):Pln t:=by
 unfold wordL at h
 simp only [Bool.and_eq_true,decide_eq_true_eq] at h
 exact pln_of h.1.2 h.2
theorem pln_sym {t:List UInt8} (h:symL t=true):Pln t:=by
 unfold symL at h
 rw [Bool.and_eq_true] at h
 exact pln_word h.1
theorem digs_cls:∀ s ∈ names,∀ k:Fin 10,clsZ (zeroZ s+(k.val:Int))=0∧mayC (zeroZ s+(k.val:Int))=true:=by decide +kernel
theorem pln_dig {r:Rec} {p:Pt} (h:Both r p) {x:Int} (h0:0≤x) (h9:x≤9):Pln (digZ (locOf r p) x):=by
 obtain ⟨k,rfl⟩:=Int.eq_ofNat_of_zero_le h0
 have hk:k < 10:=by omega
 rw [dig_k h hk]
 obtain ⟨h1,h2⟩:=digs_cls _ h.may.sys ⟨k,hk⟩
 refine ⟨[zeroZ ⟨r.system.toArray⟩+(k:Int)],by simp [enc],fun c hc=>?_,fun c q e=>?_⟩
 ·rw [List.mem_singleton] at hc;subst hc;exact ⟨h2,.inl h1⟩
 ·injection e with e1 e2;subst e1;exact h1
theorem pln_piece {r:Rec} {p:Pt} (h:Both r p) {q:List Pc} (hq:q ∈ affsP p) {x:Pc} (hx:x ∈ q):Pln (txtL (locOf r p) [x]):=by
 have hk:=h.pcs q hq x hx
 have hc:∀ n:Int,x.1=n→cntA n (locOf r p) ≠ 0:=fun n hn e=>by
  have h1:0 < cntK n q:=by
   unfold cntK
   exact List.countP_pos_iff.2 ⟨x,hx,by unfold isK;simp [hn]⟩
  unfold cntA at e
  have e':cntK n p.pre+cntK n p.suf+cntK n p.npre+cntK n p.nsuf=0:=e
  unfold affsP at hq
  simp only [List.mem_cons,List.not_mem_nil,or_false] at hq
  rcases hq with rfl | rfl | rfl | rfl <;> omega
 have ht:txtL (locOf r p) [x]=if x.1=1 then r.currency else if x.1=2 then r.percent else if x.1=3 then [] else x.2:=by
  unfold txtL resF;simp [locOf]
 rw [ht]
 split
 ·rename_i h1
  rcases h.may.cur with hw | ⟨_,he⟩
  ·exact pln_word hw
  ·exact absurd he (hc 1 h1)
 ·split
  ·rename_i _ h2
   rcases h.may.per with hw | ⟨_,he⟩
   ·exact pln_word hw
   ·exact absurd he (hc 2 h2)
  ·split
   ·exact Pln.nil
   ·exact pln_of (h.val q hq x hx) (h.may.lit q hq x hx (by omega))
theorem pln_st {r:Rec} {p:Pt} (h:Both r p) {q:List Pc} (hq:q ∈ affsP p):∀ (l:List Pc) (st:List Prt × List UInt8),(∀ x ∈ l,x ∈ q)→(∀ y ∈ st.1,Pln y.2)→Pln st.2→(∀ y ∈ (l.foldl (stepR (locOf r p)) st).1,Pln y.2)∧Pln (l.foldl (stepR (locOf r p)) st).2
 | [],st,_,h1,h2=>⟨h1,h2⟩
 | x :: l,st,hs,h1,h2=>by
  rw [List.foldl_cons]
  refine pln_st h hq l _ (fun y hy=>hs y (List.mem_cons_of_mem _ hy)) ?_ ?_
  ·unfold stepR
   split
   ·intro y hy
    rcases List.mem_append.1 hy with hy | hy
    ·split at hy
     ·exact h1 y hy
     ·rcases List.mem_append.1 hy with hy | hy
      ·exact h1 y hy
      ·rw [List.mem_singleton] at hy;subst hy;exact h2
    ·rw [List.mem_singleton] at hy;subst hy;exact Pln.nil
   ·exact h1
  ·unfold stepR
   split
   ·exact Pln.nil
   ·exact h2.app (pln_piece h hq (hs x List.mem_cons_self))
theorem pln_parts {r:Rec} {p:Pt} (h:Both r p) {q:List Pc} (hq:q ∈ affsP p):∀ y ∈ partsF (locOf r p) q,Pln y.2:=by
 obtain ⟨h1,h2⟩:=pln_st h hq q ([],[]) (fun _ hx=>hx) (by simp) Pln.nil
 rw [parts_fin]
 unfold finR stR
 split
 ·exact h1
 ·intro y hy
  rcases List.mem_append.1 hy with hy | hy
  ·exact h1 y hy
  ·rw [List.mem_singleton] at hy;subst hy;exact h2
theorem grp_sym {r:Rec} {p:Pt} (h:Both r p) (hz:grpZ (locOf r p)=true):symL r.group=true:=by
 have hg:if grpZ (locOf r p)=true then symL r.group=true else r.group=[]:=h.may.grp
 rw [if_pos hz] at hg;exact hg
theorem ends_grp {l:Loc} {z:Int} (h:Ends.itemEnds z l.p.num.prim l.p.num.sec=true):grpZ l=true:=by
 unfold grpZ
 rw [decide_eq_true_eq]
 unfold Ends.itemEnds at h
 split at h
 ·cases h
 ·omega
def textI (l:List It):List UInt8:=(l.map (·.2.1)).flatten
theorem textI_app (a b:List It):textI (a++b)=textI a++textI b:=by unfold textI;rw [List.map_append,List.flatten_append]
end Go.Proofs.YtcghgkagpkmpeaaGreatDoor.Loc
