/- Joined by wip/join.py: StP StP2 StP3 VwP3. -/
import Derived.Test.YtcghgkagpkmpeaaGreatDoorJIt
import Derived.Test.YtcghgkagpkmpeaaGreatDoorVwP3a
set_option linter.unusedVariables false
set_option linter.unusedSimpArgs false
namespace Go.Proofs.YtcghgkagpkmpeaaGreatDoor.Loc
open Go.RowKit Utf All Small Strs Build EncC Pat Cls Dec Go.Proofs.YtcghgkagpkmpeaaGreatDoor.Sys
theorem cuts_flat (s:List UInt8):∀ (L:List Int) (a:Int),(a :: L).Pairwise (·≤·)→0≤a→(cutsL s (a :: L)).flatten=(s.drop a.toNat).take (((a :: L).getLast (by simp)).toNat - a.toNat)
 | [],a,_,_=>by simp [cutsL]
 | b :: L,a,h,h0=>by
  have hp:=List.pairwise_cons.1 h
  have hab:=hp.1 b List.mem_cons_self
  have ih:=cuts_flat s L b hp.2 (by omega)
  have hlast:b≤(b :: L).getLast (by simp):=by
   cases L with
   | nil=>simp
   | cons c L=>exact (List.pairwise_cons.1 hp.2).1 _ (by rw [List.getLast_cons (by simp)];exact List.getLast_mem _)
  have hg:(a :: b :: L).getLast (by simp)=(b :: L).getLast (by simp):=List.getLast_cons (by simp)
  rw [hg]
  generalize (b :: L).getLast (by simp)=z at *
  show (s.drop a.toNat).take (b.toNat - a.toNat)++(cutsL s (b :: L)).flatten=_
  rw [ih]
  have e1:z.toNat - a.toNat=(b.toNat - a.toNat)+(z.toNat - b.toNat):=by omega
  have e2:s.drop b.toNat=(s.drop a.toNat).drop (b.toNat - a.toNat):=by rw [List.drop_drop];congr 1;omega
  rw [e1,e2,← List.take_add]
theorem split_join (s:List UInt8):(splitS s).flatten=s:=by
 by_cases h0:s=[]
 ·subst h0;rfl
 ·have hs:=cst_sorted s
  have hc:∃ L,cstL s=0 :: L:=by
   unfold cstL
   rw [chars_cons h0]
   unfold startsL
   rw [starts_cons h0]
   unfold stG
   have hj:joinS [] (clsZ (dec s).1)=false:=rfl
   rw [hj]
   exact ⟨_,rfl⟩
  obtain ⟨L,hL⟩:=hc
  have hl:(cstL s).getLast? = some (s.length:Int):=by unfold cstL;simp
  unfold splitS
  rw [hL] at hs hl ⊢
  rw [cuts_flat s L 0 hs (by omega)]
  have hz:(0 :: L).getLast (by simp)=(s.length:Int):=by
   rw [List.getLast?_eq_some_getLast (by simp)] at hl
   exact Option.some.inj hl
  rw [hz]
  simp
theorem split_one {t:List UInt8} (h:(splitS t).length=1):splitS t=[t]:=by
 have hj:=split_join t
 match hs:splitS t,h with
 | [u],_ =>
  rw [hs] at hj
  simp at hj
  rw [hj]
section
variable {r:Rec} {p:Pt}
theorem sym_split (h:Both r p) {n:Nat} (hn:n≤12) (hg:n=11→grpZ (locOf r p)=true):splitS (symX r n)=[symX r n]:=split_one (one_sym h hn hg).1
theorem sym_pln (h:Both r p) {n:Nat} (hn:n≤12) (hg:n=11→grpZ (locOf r p)=true):Pln (symX r n):=by
 by_cases h9:n≤9
 ·have hd:=pln_dig h (x:=(n:Int)) (by omega) (by omega)
  rw [dig_k h (by omega)] at hd
  unfold symX
  rw [if_pos h9];exact hd
 ·unfold symX
  rw [if_neg h9]
  rcases (by omega:n=10∨n=11∨n=12) with rfl | rfl | rfl
  ·exact pln_sym h.may.dec
  ·exact pln_sym (grp_sym h (hg rfl))
  ·exact pln_sym h.may.min
def intS (l:Loc) (xs:List Int) (i:Nat):List Nat:=(xs.getD i 0).toNat :: (if Ends.itemEnds ((xs.length:Int) - 1 - i) l.p.num.prim l.p.num.sec then [11] else [])
def midS (l:Loc) (d:Dr):List Nat:=(List.range d.int.length).flatMap (intS l d.int)++((if d.sep then [10] else [])++d.frac.map Int.toNat)
def symsT (r:Rec) (ns:List Nat):List UInt8:=(ns.map (symX r)).flatten
theorem symsT_app (r:Rec) (a b:List Nat):symsT r (a++b)=symsT r a++symsT r b:=by unfold symsT;rw [List.map_append,List.flatten_append]
theorem dig_sym (h:Both r p) {x:Int} (h0:0≤x) (h9:x≤9):digZ (locOf r p) x=symX r x.toNat:=by
 obtain ⟨k,rfl⟩:=Int.eq_ofNat_of_zero_le h0
 rw [dig_k h (by omega),Int.toNat_natCast]
 unfold symX
 rw [if_pos (by omega)]
theorem int_text (h:Both r p) {xs:List Int} (hx:∀ x ∈ xs,0≤x∧x≤9):∀ k,k≤xs.length→textI (intsTo (locOf r p) xs k)=symsT r ((List.range k).flatMap (intS (locOf r p) xs))
 | 0,_=>rfl
 | k+1,hk=>by
  have hb:=getD_bd hx (show k < xs.length by omega)
  rw [intsTo_succ,textI_app,int_text h hx k (by omega),List.range_succ,List.flatMap_append,symsT_app]
  congr 1
  unfold intF intS grpAt digI
  rw [List.flatMap_cons,List.flatMap_nil,List.append_nil,dig_sym h hb.1 hb.2]
  split
  ·simp [textI,symsT]
   rfl
  ·simp [textI,symsT]
theorem mid_text (h:Both r p) {d:Dr} (hd:DrOk d):textI (midF (locOf r p) d)=symsT r (midS (locOf r p) d):=by
 unfold midF midS
 rw [textI_app,textI_app,symsT_app,symsT_app,int_text h hd.int _ (Nat.le_refl _)]
 congr 1
 congr 1
 ·unfold decI
  split
  ·simp [textI,symsT];rfl
  ·rfl
 ·have key:∀ k,k≤d.frac.length→textI (fracTo (locOf r p) d.int.length d.frac k)=symsT r ((d.frac.take k).map Int.toNat):=by
   intro k
   induction k with
   | zero=>intro _;rfl
   | succ k ih =>
    intro hk
    have hb:=getD_bd hd.frac (show k < d.frac.length by omega)
    rw [fracTo_succ,textI_app,ih (by omega),List.take_succ_eq_append_getElem (by omega),List.map_append,symsT_app]
    congr 1
    unfold digI
    rw [dig_sym h hb.1 hb.2,List.getD_eq_getElem?_getD,List.getElem?_eq_getElem (by omega)]
    simp [textI,symsT]
  rw [key _ (Nat.le_refl _),List.take_length]
def SgOk (l:Loc) (ns:List Nat):Prop:=∀ n ∈ ns,n≤12∧(n=11→grpZ l=true)
theorem mid_sgok (h:Both r p) {d:Dr} (hd:DrOk d):SgOk (locOf r p) (midS (locOf r p) d):=by
 intro n hn
 unfold midS at hn
 rcases List.mem_append.1 hn with hn | hn
 ·obtain ⟨i,hi,hn⟩:=List.mem_flatMap.1 hn
  have hb:=getD_bd hd.int (List.mem_range.1 hi)
  unfold intS at hn
  rcases List.mem_cons.1 hn with rfl | hn
  ·omega
  ·split at hn
   ·rename_i he
    rw [List.mem_singleton] at hn
    exact ⟨by omega,fun _=>ends_grp he⟩
   ·cases hn
 ·rcases List.mem_append.1 hn with hn | hn
  ·split at hn
   ·rw [List.mem_singleton] at hn;omega
   ·cases hn
  ·obtain ⟨x,hx,rfl⟩:=List.mem_map.1 hn
   have:=hd.frac x hx
   omega
theorem syms_split (h:Both r p) {ns:List Nat} (hs:SgOk (locOf r p) ns):Pln (symsT r ns)∧splitS (symsT r ns)=ns.map (symX r):=by
 have hf:=Pln.flat (ts:=ns.map (symX r)) fun t ht=>by
  obtain ⟨n,hn,rfl⟩:=List.mem_map.1 ht
  exact sym_pln h (hs n hn).1 (hs n hn).2
 refine ⟨hf.1,?_⟩
 unfold symsT
 rw [hf.2,List.flatMap_map]
 have:∀ L:List Nat,SgOk (locOf r p) L→L.flatMap (fun n=>splitS (symX r n))=L.map (symX r):=by
  intro L
  induction L with
  | nil=>intro _;rfl
  | cons n L ih =>
   intro hL
   rw [List.flatMap_cons,ih (fun m hm=>hL m (List.mem_cons_of_mem _ hm)),sym_split h (hL n List.mem_cons_self).1 (hL n List.mem_cons_self).2];rfl
 exact this ns hs
def sgs (l:Loc) (t:List UInt8):List Int:=(splitS t).map fun u=>signZ l ⟨u.toArray⟩
theorem sgs_app (l:Loc) {t u:List UInt8} (ht:Pln t) (hu:Pln u):sgs l (t++u)=sgs l t++sgs l u:=by
 unfold sgs;rw [ht.split hu,List.map_append]
theorem syms_sgs (h:Both r p) {ns:List Nat} (hs:SgOk (locOf r p) ns):sgs (locOf r p) (symsT r ns)=ns.map fun (n:Nat)=>(n:Int):=by
 unfold sgs
 rw [(syms_split h hs).2,List.map_map]
 refine List.map_congr_left fun n hn=>?_
 exact sign_sym h (hs n hn).1 (hs n hn).2
theorem txt_flat (l:Loc) (q:List Pc):txtL l q=(q.map fun x=>txtL l [x]).flatten:=by
 unfold txtL resF
 induction q with
 | nil=>rfl
 | cons x q ih=>rw [List.flatMap_cons,List.map_cons,List.flatten_cons,ih];simp
theorem piece_sgs (h:Both r p) {q:List Pc} (hq:q ∈ affsP p) {x:Pc} (hx:x ∈ q):∀ t ∈ splitS (txtL (locOf r p) [x]),signZ (locOf r p) ⟨t.toArray⟩=-1:=by
 intro t ht
 refine h.may.affT q hq t ?_
 have hf:=(Pln.flat (ts:=q.map fun x=>txtL (locOf r p) [x]) fun u hu=>by
  obtain ⟨y,hy,rfl⟩:=List.mem_map.1 hu
  exact pln_piece h hq hy).2
 show t ∈ splitS (txtL (locOf r p) q)
 rw [txt_flat,hf]
 exact List.mem_flatMap.2 ⟨_,List.mem_map.2 ⟨x,hx,rfl⟩,ht⟩
theorem st_sgs (h:Both r p) {q:List Pc} (hq:q ∈ affsP p):∀ (l:List Pc) (st:List Prt × List UInt8),(∀ x ∈ l,x ∈ q)→(∀ y ∈ st.1,Pln y.2)→Pln st.2 →
  (∀ y ∈ st.1,∀ t ∈ splitS y.2,signZ (locOf r p) ⟨t.toArray⟩=-1)→(∀ t ∈ splitS st.2,signZ (locOf r p) ⟨t.toArray⟩=-1) →
  (∀ y ∈ (l.foldl (stepR (locOf r p)) st).1,∀ t ∈ splitS y.2,signZ (locOf r p) ⟨t.toArray⟩=-1)∧∀ t ∈ splitS (l.foldl (stepR (locOf r p)) st).2,signZ (locOf r p) ⟨t.toArray⟩=-1
 | [],st,_,_,_,h1,h2=>⟨h1,h2⟩
 | x :: l,st,hs,hp1,hp2,h1,h2=>by
  rw [List.foldl_cons]
  have hx:=hs x List.mem_cons_self
  have hpp:=pln_st h hq [x] st (fun y hy=>by rw [List.mem_singleton] at hy;subst hy;exact hx) hp1 hp2
  refine st_sgs h hq l _ (fun y hy=>hs y (List.mem_cons_of_mem _ hy)) hpp.1 hpp.2 ?_ ?_
  ·unfold stepR
   split
   ·intro y hy
    rcases List.mem_append.1 hy with hy | hy
    ·split at hy
     ·exact h1 y hy
     ·rcases List.mem_append.1 hy with hy | hy
      ·exact h1 y hy
      ·rw [List.mem_singleton] at hy;subst hy;exact h2
    ·rw [List.mem_singleton] at hy;subst hy
     intro t ht;cases ht
   ·exact h1
  ·unfold stepR
   split
   ·intro t ht;cases ht
   ·intro t ht
    have ht':t ∈ splitS (st.2++txtL (locOf r p) [x]):=ht
    rw [hp2.split (pln_piece h hq hx)] at ht'
    rcases List.mem_append.1 ht' with ht' | ht'
    ·exact h2 t ht'
    ·exact piece_sgs h hq hx t ht'
theorem part_sgs (h:Both r p) {q:List Pc} (hq:q ∈ affsP p):∀ y ∈ partsF (locOf r p) q,∀ t ∈ splitS y.2,signZ (locOf r p) ⟨t.toArray⟩=-1:=by
 obtain ⟨h1,h2⟩:=st_sgs h hq q ([],[]) (fun _ hx=>hx) (by simp) Pln.nil (by simp) (fun t ht=>by cases ht)
 rw [parts_fin]
 unfold finR stR
 split
 ·exact h1
 ·intro y hy
  rcases List.mem_append.1 hy with hy | hy
  ·exact h1 y hy
  ·rw [List.mem_singleton] at hy;subst hy;exact h2
def atOf (ks:List Int):List Int:=ks.filter fun k=>decide (0≤k) && decide (k≤10)
def ngOf (ks:List Int):Bool:=ks.any fun k=>decide (k=12)
theorem atOf_app (a b:List Int):atOf (a++b)=atOf a++atOf b:=List.filter_append _ _
theorem ngOf_app (a b:List Int):ngOf (a++b)=(ngOf a || ngOf b):=List.any_append
theorem parts_sgs (h:Both r p) {q:List Pc} (hq:q ∈ affsP p):atOf (sgs (locOf r p) (textI ((partsF (locOf r p) q).map (prtI r))))=[]∧ngOf (sgs (locOf r p) (textI ((partsF (locOf r p) q).map (prtI r))))=decide (0 < nSign (partsF (locOf r p) q))∧Pln (textI ((partsF (locOf r p) q).map (prtI r))):=by
 have hg:=part_sgs h hq
 have hp:=pln_parts h hq
 generalize partsF (locOf r p) q=ps at *
 induction ps with
 | nil=>exact ⟨rfl,rfl,Pln.nil⟩
 | cons y ps ih =>
  obtain ⟨i1,i2,i3⟩:=ih (fun z hz=>hg z (List.mem_cons_of_mem _ hz)) (fun z hz=>hp z (List.mem_cons_of_mem _ hz))
  have hy:Pln (prtI r y).2.1:=by
   unfold prtI
   split
   ·exact pln_sym h.may.min
   ·exact hp y List.mem_cons_self
  have e:textI ((y :: ps).map (prtI r))=(prtI r y).2.1++textI (ps.map (prtI r)):=rfl
  rw [e,sgs_app _ hy i3,atOf_app,ngOf_app,i1,i2]
  refine ⟨?_,?_,hy.app i3⟩
  ·rw [List.append_nil]
   unfold prtI
   split
   ·have hs:=syms_sgs h (ns:=[12]) (by intro n hn;rw [List.mem_singleton] at hn;omega)
    have hm:symsT r [12]=r.minus:=by unfold symsT symX;simp
    rw [hm] at hs
    show atOf (sgs (locOf r p) r.minus)=[]
    rw [hs];rfl
   ·unfold atOf sgs
    rw [List.filter_eq_nil_iff]
    intro k hk
    obtain ⟨t,ht,rfl⟩:=List.mem_map.1 hk
    rw [hg y List.mem_cons_self t ht];decide
  ·unfold nSign
   rw [List.countP_cons]
   unfold prtI
   cases hy1:y.1
   ·have hn:ngOf (sgs (locOf r p) y.2)=false:=by
     unfold ngOf sgs
     rw [List.any_eq_false]
     intro k hk
     obtain ⟨t,ht,rfl⟩:=List.mem_map.1 hk
     rw [hg y List.mem_cons_self t ht];decide
    simp [hn]
   ·have hs:=syms_sgs h (ns:=[12]) (by intro n hn;rw [List.mem_singleton] at hn;omega)
    have hm:symsT r [12]=r.minus:=by unfold symsT symX;simp
    rw [hm] at hs
    have hn:ngOf (sgs (locOf r p) r.minus)=true:=by rw [hs];rfl
    simp [hn]
theorem mid_at (h:Both r p) {d:Dr} (hd:DrOk d):atOf (sgs (locOf r p) (textI (midF (locOf r p) d)))=atomsF d∧ngOf (sgs (locOf r p) (textI (midF (locOf r p) d)))=false∧Pln (textI (midF (locOf r p) d)):=by
 have hs:=mid_sgok h hd
 rw [mid_text h hd,syms_sgs h hs]
 refine ⟨?_,?_,(syms_split h hs).1⟩
 ·unfold midS atomsF
  rw [List.map_append,List.map_append,atOf_app,atOf_app]
  have hnat:∀ L:List Int,(∀ x ∈ L,0≤x∧x≤9)→atOf ((L.map Int.toNat).map fun (n:Nat)=>(n:Int))=L:=by
   intro L
   induction L with
   | nil=>intro _;rfl
   | cons x L ih =>
    intro hL
    have hx:=hL x List.mem_cons_self
    rw [List.map_cons,List.map_cons]
    unfold atOf at ih ⊢
    have e:((x.toNat:Nat):Int)=x:=Int.toNat_of_nonneg hx.1
    rw [e,List.filter_cons,if_pos (by simp;omega),ih fun y hy=>hL y (List.mem_cons_of_mem _ hy)]
  rw [hnat _ hd.frac]
  congr 1
  ·have key:∀ k,k≤d.int.length→atOf (((List.range k).flatMap (intS (locOf r p) d.int)).map fun (n:Nat)=>(n:Int))=d.int.take k:=by
    intro k
    induction k with
    | zero=>intro _;rfl
    | succ k ih =>
     intro hk
     have hb:=getD_bd hd.int (show k < d.int.length by omega)
     rw [List.range_succ,List.flatMap_append,List.map_append,atOf_app,ih (by omega),List.take_succ_eq_append_getElem (by omega)]
     congr 1
     rw [List.flatMap_cons,List.flatMap_nil,List.append_nil]
     unfold intS
     have e:(((d.int.getD k 0).toNat:Nat):Int)=d.int.getD k 0:=Int.toNat_of_nonneg hb.1
     have e2:d.int.getD k 0=d.int[k]:=by rw [List.getD_eq_getElem?_getD,List.getElem?_eq_getElem (by omega)];rfl
     rw [List.map_cons,e]
     unfold atOf
     have hq:(decide (0≤d.int.getD k 0) && decide (d.int.getD k 0≤10))=true:=by
      rw [decide_eq_true hb.1,decide_eq_true (show d.int.getD k 0≤10 by omega)];rfl
     rw [List.filter_cons,if_pos hq,e2]
     congr 1
     split <;> rfl
   rw [key _ (Nat.le_refl _),List.take_length]
  ·congr 1
   split <;> rfl
 ·unfold ngOf
  rw [List.any_eq_false]
  intro k hk
  obtain ⟨n,hn,rfl⟩:=List.mem_map.1 hk
  have hn12:n ≠ 12:=by
   unfold midS at hn
   rcases List.mem_append.1 hn with hn | hn
   ·obtain ⟨i,hi,hn⟩:=List.mem_flatMap.1 hn
    have hb:=getD_bd hd.int (List.mem_range.1 hi)
    unfold intS at hn
    rcases List.mem_cons.1 hn with rfl | hn
    ·omega
    ·split at hn
     ·rw [List.mem_singleton] at hn;omega
     ·cases hn
   ·rcases List.mem_append.1 hn with hn | hn
    ·split at hn
     ·rw [List.mem_singleton] at hn;omega
     ·cases hn
    ·obtain ⟨x,hx,rfl⟩:=List.mem_map.1 hn
     have:=hd.frac x hx
     omega
  simp;omega
theorem items_sgs (h:Both r p) {d:Dr} (hd:DrOk d):atOf (sgs (locOf r p) (textI (itemsF (locOf r p) d)))=atomsF d∧ngOf (sgs (locOf r p) (textI (itemsF (locOf r p) d)))=d.neg:=by
 have hq1:(if d.neg then p.npre else p.pre) ∈ affsP p:=by cases d.neg <;> simp [affsP]
 have hq2:(if d.neg then p.nsuf else p.suf) ∈ affsP p:=by cases d.neg <;> simp [affsP]
 obtain ⟨a1,a2,a3⟩:=parts_sgs h hq1
 obtain ⟨b1,b2,b3⟩:=parts_sgs h hq2
 obtain ⟨m1,m2,m3⟩:=mid_at h hd
 have hc:=h.count d.neg
 unfold ahead behind at hc
 have e:textI (itemsF (locOf r p) d)=textI ((partsF (locOf r p) (if d.neg then p.npre else p.pre)).map (prtI r))++(textI (midF (locOf r p) d)++textI ((partsF (locOf r p) (if d.neg then p.nsuf else p.suf)).map (prtI r))):=by
  unfold itemsF
  rw [textI_app,textI_app];rfl
 rw [e,sgs_app _ a3 (m3.app b3),sgs_app _ m3 b3]
 simp only [atOf_app,ngOf_app,a1,a2,b1,b2,m1,m2]
 refine ⟨by simp,?_⟩
 have hc':nSign (partsF (locOf r p) (if d.neg then p.npre else p.pre))+nSign (partsF (locOf r p) (if d.neg then p.nsuf else p.suf))=if d.neg then 1 else 0:=hc
 generalize nSign (partsF (locOf r p) (if d.neg then p.npre else p.pre))=x at *
 generalize nSign (partsF (locOf r p) (if d.neg then p.nsuf else p.suf))=y at *
 cases hn:d.neg
 ·rw [hn] at hc'
  have h1:x=0:=by simp at hc';omega
  have h2:y=0:=by simp at hc';omega
  subst h1;subst h2;rfl
 ·rw [hn] at hc'
  simp at hc'
  rcases (by omega:(x=1∧y=0)∨(x=0∧y=1)) with ⟨rfl,rfl⟩ | ⟨rfl,rfl⟩ <;> rfl
end
structure MS where
 int:List Int
 frac:List Int
 sep:Bool
 ends:List Int
def MS.ini:MS:=⟨[],[],false,[]⟩
def mStep (s:MS) (k:Int):Option MS :=
 if 0≤k∧k < 10 then (if s.sep then some { s with frac:=s.frac++[k] } else some { s with int:=s.int++[k] })
 else if k=10∧s.sep=false then some { s with sep:=true }
 else if k=11∧s.sep=false then some { s with ends:=s.ends++[(s.int.length:Int)] }
 else none
def mRun:MS→List Int→Option MS
 | s,[]=>some s
 | s,k :: r=>(mStep s k).bind fun t=>mRun t r
theorem mRun_cons (s:MS) (k:Int) (r:List Int):mRun s (k :: r)=(mStep s k).bind fun t=>mRun t r:=rfl
theorem mRun_app:∀ (s:MS) (a b:List Int),mRun s (a++b)=(mRun s a).bind fun t=>mRun t b
 | s,[],b=>rfl
 | s,k :: a,b=>by
  show (mStep s k).bind (fun t=>mRun t (a++b))=((mStep s k).bind fun t=>mRun t a).bind fun t=>mRun t b
  cases mStep s k with
  | none=>rfl
  | some t=>exact mRun_app t a b
theorem step_int (i f n:List Int) {k:Int} (h:0≤k∧k < 10):mStep ⟨i,f,false,n⟩ k=some ⟨i++[k],f,false,n⟩:=by
 unfold mStep;rw [if_pos h];rfl
theorem step_frac (i f n:List Int) {k:Int} (h:0≤k∧k < 10):mStep ⟨i,f,true,n⟩ k=some ⟨i,f++[k],true,n⟩:=by
 unfold mStep;rw [if_pos h];rfl
theorem step_pt (i f n:List Int):mStep ⟨i,f,false,n⟩ 10=some ⟨i,f,true,n⟩:=by
 unfold mStep;rw [if_neg (by omega),if_pos ⟨rfl,rfl⟩]
theorem step_gr (i f n:List Int):mStep ⟨i,f,false,n⟩ 11=some ⟨i,f,false,n++[(i.length:Int)]⟩:=by
 unfold mStep;rw [if_neg (by omega),if_neg (by omega),if_pos ⟨rfl,rfl⟩]
structure MOk (s:MS):Prop where
 frac:s.sep=false→s.frac=[]
 ends:∀ e ∈ s.ends,e≤s.int.length
 int:∀ x ∈ s.int,0≤x∧x≤9
 fr:∀ x ∈ s.frac,0≤x∧x≤9
def mSize (s:MS):Nat:=s.int.length+s.frac.length+s.ends.length+(if s.sep then 1 else 0)
theorem mStep_cases {s t:MS} {k:Int} (h:mStep s k=some t) :
  (0≤k∧k < 10∧s.sep=false∧t=⟨s.int++[k],s.frac,false,s.ends⟩)∨(0≤k∧k < 10∧s.sep=true∧t=⟨s.int,s.frac++[k],true,s.ends⟩) ∨
  (k=10∧s.sep=false∧t=⟨s.int,s.frac,true,s.ends⟩)∨(k=11∧s.sep=false∧t=⟨s.int,s.frac,false,s.ends++[(s.int.length:Int)]⟩):=by
 obtain ⟨i,f,p,n⟩:=s
 unfold mStep at h
 simp only at h
 split at h
 ·rename_i hk
  cases p
  ·simp only [Bool.false_eq_true,if_false] at h
   exact .inl ⟨hk.1,hk.2,rfl,(Option.some.inj h).symm⟩
  ·simp only [if_true] at h
   exact .inr (.inl ⟨hk.1,hk.2,rfl,(Option.some.inj h).symm⟩)
 ·split at h
  ·rename_i hk
   obtain ⟨h1,h2⟩:=hk
   exact .inr (.inr (.inl ⟨h1,h2,(Option.some.inj h).symm⟩))
  ·split at h
   ·rename_i hk
    obtain ⟨h1,h2⟩:=hk
    subst h2
    exact .inr (.inr (.inr ⟨h1,rfl,(Option.some.inj h).symm⟩))
   ·cases h
theorem mStep_ok {s t:MS} {k:Int} (h:MOk s) (hs:mStep s k=some t):MOk t∧mSize t=mSize s+1:=by
 rcases mStep_cases hs with ⟨h0,h9,hp,ht⟩ | ⟨h0,h9,hp,ht⟩ | ⟨hk,hp,ht⟩ | ⟨hk,hp,ht⟩ <;> rw [ht]
 ·refine ⟨⟨fun _=>h.frac hp,fun e he=>?_,fun x hx=>?_,h.fr⟩,by unfold mSize;rw [hp];simp;omega⟩
  ·have:=h.ends e he
   show e≤((s.int++[k]).length:Int)
   rw [List.length_append,List.length_singleton];omega
  ·rcases List.mem_append.1 hx with hx | hx
   ·exact h.int x hx
   ·rw [List.mem_singleton] at hx;omega
 ·refine ⟨⟨fun e=>(by cases e),h.ends,h.int,fun x hx=>?_⟩,by unfold mSize;rw [hp];simp;omega⟩
  rcases List.mem_append.1 hx with hx | hx
  ·exact h.fr x hx
  ·rw [List.mem_singleton] at hx;omega
 ·exact ⟨⟨fun e=>(by cases e),h.ends,h.int,h.fr⟩,by unfold mSize;rw [hp];simp⟩
 ·refine ⟨⟨fun _=>h.frac hp,fun e he=>?_,h.int,h.fr⟩,by unfold mSize;rw [hp];simp;omega⟩
  rcases List.mem_append.1 he with he | he
  ·exact h.ends e he
  ·rw [List.mem_singleton] at he;rw [he];exact Int.le_refl _
theorem mRun_ok:∀ (ks:List Int) {s t:MS},MOk s→mRun s ks=some t→MOk t∧mSize t=mSize s+ks.length
 | [],s,t,h,hs=>by cases hs;exact ⟨h,rfl⟩
 | k :: r,s,t,h,hs=>by
  rw [mRun_cons] at hs
  cases hm:mStep s k with
  | none=>rw [hm] at hs;cases hs
  | some u =>
   rw [hm] at hs
   have hs':mRun u r=some t:=hs
   obtain ⟨h1,h2⟩:=mStep_ok h hm
   obtain ⟨h3,h4⟩:=mRun_ok r h1 hs'
   exact ⟨h3,by rw [h4,h2,List.length_cons];omega⟩
theorem snoc_inj {α:Type} {a b:List α} {x y:α} (h:a++[x]=b++[y]):a=b∧x=y:=by
 have:=List.append_inj' h rfl
 exact ⟨this.1,by simpa using this.2⟩
theorem mStep_inj {s1 s2 t:MS} {k1 k2:Int} (h1:MOk s1) (h2:MOk s2) (e1:mStep s1 k1=some t) (e2:mStep s2 k2=some t):s1=s2∧k1=k2:=by
 have g1:=h1.frac
 have g2:=h2.frac
 have o1:=h1.ends
 have o2:=h2.ends
 obtain ⟨i1,f1,p1,n1⟩:=s1
 obtain ⟨i2,f2,p2,n2⟩:=s2
 simp only at g1 g2 o1 o2
 rcases mStep_cases e1 with ⟨_,_,hp,ht⟩ | ⟨_,_,hp,ht⟩ | ⟨hk,hp,ht⟩ | ⟨hk,hp,ht⟩ <;>
  rcases mStep_cases e2 with ⟨_,_,hq,hu⟩ | ⟨_,_,hq,hu⟩ | ⟨hl,hq,hu⟩ | ⟨hl,hq,hu⟩
 all_goals
  simp only at hp hq ht hu
  subst hp;subst hq
  rw [ht] at hu
  simp only [MS.mk.injEq,Bool.false_eq_true,Bool.true_eq_false,false_and,and_false,true_and,and_true] at hu
 ·obtain ⟨ha,hb,hc⟩:=hu
  obtain ⟨hi,hkk⟩:=snoc_inj ha
  subst hi;subst hb;subst hc;exact ⟨rfl,hkk⟩
 ·obtain ⟨ha,hb,hc⟩:=hu
  subst ha;subst hc
  have:=o1 ((i1++[k1]).length:Int) (by simp)
  simp at this;omega
 ·obtain ⟨ha,hb,hc⟩:=hu
  obtain ⟨hi,hkk⟩:=snoc_inj hb
  subst ha;subst hi;subst hc;exact ⟨rfl,hkk⟩
 ·obtain ⟨ha,hb,hc⟩:=hu
  have:=g2 rfl
  rw [this] at hb;simp at hb
 ·obtain ⟨ha,hb,hc⟩:=hu
  have:=g1 rfl
  rw [this] at hb;simp at hb
 ·obtain ⟨ha,hb,hc⟩:=hu
  subst ha;subst hb;subst hc;exact ⟨rfl,by rw [hk,hl]⟩
 ·obtain ⟨ha,hb,hc⟩:=hu
  subst ha;subst hc
  have:=o2 ((i2++[k2]).length:Int) (by simp)
  simp at this;omega
 ·obtain ⟨ha,hb,hc⟩:=hu
  obtain ⟨hn,_⟩:=snoc_inj hc
  subst ha;subst hb;subst hn;exact ⟨rfl,by rw [hk,hl]⟩
theorem ini_ok:MOk MS.ini:=⟨fun _=>rfl,by simp [MS.ini],by simp [MS.ini],by simp [MS.ini]⟩
theorem mRun_snoc {s u:MS} {ks:List Int} {k:Int} (h:mRun s (ks++[k])=some u):∃ t,mRun s ks=some t∧mStep t k=some u:=by
 rw [mRun_app] at h
 cases hm:mRun s ks with
 | none=>rw [hm] at h;cases h
 | some t =>
  rw [hm] at h
  have h':(mStep t k).bind (fun t=>mRun t [])=some u:=h
  refine ⟨t,rfl,?_⟩
  cases hs:mStep t k with
  | none=>rw [hs] at h';cases h'
  | some v=>rw [hs] at h';exact h'
theorem mRun_inj:∀ (n:Nat) (a b:List Int) (t:MS),a.length=n→mRun MS.ini a=some t→mRun MS.ini b=some t→a=b
 | 0,a,b,t,hl,ha,hb=>by
  have ha0:=List.eq_nil_of_length_eq_zero hl
  have h1:=(mRun_ok a ini_ok ha).2
  have h2:=(mRun_ok b ini_ok hb).2
  have:b.length=0:=by rw [hl] at h1;omega
  rw [ha0,List.eq_nil_of_length_eq_zero this]
 | n+1,a,b,t,hl,ha,hb=>by
  have h1:=(mRun_ok a ini_ok ha).2
  have h2:=(mRun_ok b ini_ok hb).2
  have hane:a ≠ []:=by intro e;rw [e] at hl;cases hl
  have hbne:b ≠ []:=by intro e;rw [e] at h2;simp at h2;omega
  rw [← List.dropLast_concat_getLast hane] at ha ⊢
  rw [← List.dropLast_concat_getLast hbne] at hb ⊢
  obtain ⟨s1,hs1,e1⟩:=mRun_snoc ha
  obtain ⟨s2,hs2,e2⟩:=mRun_snoc hb
  obtain ⟨hss,hkk⟩:=mStep_inj (mRun_ok _ ini_ok hs1).1 (mRun_ok _ ini_ok hs2).1 e1 e2
  subst hss
  have ih:=mRun_inj n a.dropLast b.dropLast s1 (by rw [List.length_dropLast];omega) hs1 hs2
  rw [ih,hkk]
def wantF (l:Loc) (n:Nat):List Int:=(List.range n).flatMap fun (i:Nat)=>if 0 < i∧Ends.itemEnds ((n:Int) - i) l.p.num.prim l.p.num.sec=true then [(i:Int)] else []
def endsTo (l:Loc) (n k:Nat):List Int:=(List.range k).flatMap fun (j:Nat)=>if Ends.itemEnds ((n:Int) - 1 - j) l.p.num.prim l.p.num.sec=true then [(j:Int)+1] else []
theorem ends_want (l:Loc) (n:Nat):endsTo l n n=wantF l n:=by
 cases n with
 | zero=>rfl
 | succ m =>
  have h1:endsTo l (m+1) (m+1)=endsTo l (m+1) m:=by
   unfold endsTo
   rw [List.range_succ,List.flatMap_append,List.flatMap_cons,List.flatMap_nil]
   have hz:Ends.itemEnds (((m+1:Nat):Int) - 1 - (m:Nat)) l.p.num.prim l.p.num.sec=false:=by
    unfold Ends.itemEnds;rw [if_pos (.inl (by omega))]
   rw [hz];simp
  rw [h1]
  unfold wantF endsTo
  rw [List.range_succ_eq_map,List.flatMap_cons,List.flatMap_map,if_neg (by omega),List.nil_append]
  refine flatMap_eq fun j _=>?_
  have e:(((m+1:Nat):Int) - ((j+1:Nat):Int))=((m+1:Nat):Int) - 1 - j:=by omega
  show _=if 0 < j+1∧Ends.itemEnds (((m+1:Nat):Int) - ((j+1:Nat):Int)) l.p.num.prim l.p.num.sec=true then [((j+1:Nat):Int)] else []
  rw [e]
  by_cases hc:Ends.itemEnds (((m+1:Nat):Int) - 1 - j) l.p.num.prim l.p.num.sec=true
  ·rw [if_pos hc,if_pos ⟨by omega,hc⟩];rfl
  ·rw [if_neg hc,if_neg (fun h=>hc h.2)]
def natI (ns:List Nat):List Int:=ns.map fun (n:Nat)=>(n:Int)
theorem natI_app (a b:List Nat):natI (a++b)=natI a++natI b:=List.map_append
theorem int_run {l:Loc} {xs:List Int} (hx:∀ x ∈ xs,0≤x∧x≤9):∀ k,k≤xs.length→mRun MS.ini (natI ((List.range k).flatMap (intS l xs)))=some ⟨xs.take k,[],false,endsTo l xs.length k⟩
 | 0,_=>rfl
 | k+1,hk=>by
  have hb:=getD_bd hx (show k < xs.length by omega)
  have hg:xs.getD k 0=xs[k]:=by rw [List.getD_eq_getElem?_getD,List.getElem?_eq_getElem (by omega)];rfl
  have e:(((xs.getD k 0).toNat:Nat):Int)=xs.getD k 0:=Int.toNat_of_nonneg hb.1
  have he:endsTo l xs.length (k+1)=endsTo l xs.length k++if Ends.itemEnds ((xs.length:Int) - 1 - k) l.p.num.prim l.p.num.sec=true then [(k:Int)+1] else []:=by
   unfold endsTo;rw [List.range_succ,List.flatMap_append];simp
  have e2:natI ([k].flatMap (intS l xs))=xs[k] :: (if Ends.itemEnds ((xs.length:Int) - 1 - k) l.p.num.prim l.p.num.sec=true then [11] else []):=by
   rw [List.flatMap_cons,List.flatMap_nil,List.append_nil]
   unfold intS natI
   rw [List.map_cons,e,hg]
   split <;> rfl
  rw [List.range_succ,List.flatMap_append,natI_app,mRun_app,int_run hx k (by omega),he,List.take_succ_eq_append_getElem (by omega),e2]
  show mRun ⟨xs.take k,[],false,endsTo l xs.length k⟩ (xs[k] :: _)=_
  rw [mRun_cons,step_int _ _ _ (by rw [← hg];omega)]
  show mRun ⟨xs.take k++[xs[k]],[],false,endsTo l xs.length k⟩ _=_
  split
  ·have hl:((xs.take k++[xs[k]]).length:Int)=(k:Int)+1:=by
    rw [List.length_append,List.length_singleton,List.length_take];omega
   rw [mRun_cons,step_gr,hl];rfl
  ·rw [List.append_nil];rfl
theorem frac_run (i n:List Int):∀ (f ys:List Int),(∀ x ∈ ys,0≤x∧x≤9)→mRun ⟨i,f,true,n⟩ ys=some ⟨i,f++ys,true,n⟩
 | f,[],_=>by rw [List.append_nil];rfl
 | f,y :: ys,hy=>by
  have hy0:=hy y List.mem_cons_self
  rw [mRun_cons,step_frac _ _ _ (by omega)]
  show mRun ⟨i,f++[y],true,n⟩ ys=_
  rw [frac_run i n (f++[y]) ys fun x hx=>hy x (List.mem_cons_of_mem _ hx)]
  simp
theorem natI_toNat {ys:List Int} (h:∀ x ∈ ys,0≤x∧x≤9):natI (ys.map Int.toNat)=ys:=by
 unfold natI
 rw [List.map_map]
 conv=>rhs;rw [← List.map_id ys]
 refine List.map_congr_left fun x hx=>?_
 exact Int.toNat_of_nonneg (h x hx).1
theorem mid_run {l:Loc} {d:Dr} (hd:DrOk d):mRun MS.ini (natI (midS l d))=some ⟨d.int,d.frac,d.sep,wantF l d.int.length⟩:=by
 unfold midS
 rw [natI_app,mRun_app,int_run hd.int _ (Nat.le_refl _),List.take_length,ends_want]
 show mRun ⟨d.int,[],false,wantF l d.int.length⟩ _=_
 cases hs:d.sep
 ·rw [hd.sep hs];rfl
 ·rw [natI_app,natI_toNat hd.frac]
  show mRun ⟨d.int,[],false,wantF l d.int.length⟩ (10 :: d.frac)=_
  rw [mRun_cons,step_pt]
  show mRun ⟨d.int,[],true,wantF l d.int.length⟩ d.frac=_
  rw [frac_run _ _ _ _ hd.frac];rfl
def ofF (neg:Bool) (ts:List Int):Option Dr :=
 if 1 < ts.count 10 then none else some ⟨neg,ts.takeWhile (fun a=>a != 10),decide (10 ∈ ts),(ts.dropWhile (fun a=>a != 10)).filter (fun a=>a != 10)⟩
theorem ne10 {L:List Int} (h:∀ x ∈ L,0≤x∧x≤9):∀ x ∈ L,(x != 10)=true:=fun x hx=>by
 have:=h x hx
 simp;omega
theorem takeW_app {L M:List Int} (h:∀ x ∈ L,(x != 10)=true):(L++10 :: M).takeWhile (fun a=>a != 10)=L∧(L++10 :: M).dropWhile (fun a=>a != 10)=10 :: M:=by
 induction L with
 | nil=>exact ⟨rfl,rfl⟩
 | cons x L ih =>
  have hx:=h x List.mem_cons_self
  obtain ⟨i1,i2⟩:=ih fun y hy=>h y (List.mem_cons_of_mem _ hy)
  rw [List.cons_append,List.takeWhile_cons,List.dropWhile_cons,hx]
  simp only [if_true]
  exact ⟨by rw [i1],i2⟩
theorem takeW_all {L:List Int} (h:∀ x ∈ L,(x != 10)=true):L.takeWhile (fun a=>a != 10)=L∧L.dropWhile (fun a=>a != 10)=[]:=by
 induction L with
 | nil=>exact ⟨rfl,rfl⟩
 | cons x L ih =>
  have hx:=h x List.mem_cons_self
  obtain ⟨i1,i2⟩:=ih fun y hy=>h y (List.mem_cons_of_mem _ hy)
  rw [List.takeWhile_cons,List.dropWhile_cons,hx]
  simp only [if_true]
  exact ⟨by rw [i1],i2⟩
theorem count10 {L:List Int} (h:∀ x ∈ L,(x != 10)=true):L.count 10=0:=by
 rw [List.count_eq_zero]
 intro hm
 have:=h 10 hm
 simp at this
theorem not10 {L:List Int} (h:∀ x ∈ L,(x != 10)=true):10 ∉ L:=fun hm=>by
 have:=h 10 hm
 simp at this
theorem filter10 {L:List Int} (h:∀ x ∈ L,(x != 10)=true):L.filter (fun a=>a != 10)=L:=by
 rw [List.filter_eq_self];exact h
theorem of_atoms {d:Dr} (h:DrOk d):ofF d.neg (atomsF d)=some d:=by
 obtain ⟨neg,int,sep,frac⟩:=d
 have hi:=ne10 h.int
 have hf:=ne10 h.frac
 simp only at hi hf
 cases sep
 ·have hz:frac=[]:=h.sep rfl
  subst hz
  have e:atomsF ⟨neg,int,false,[]⟩=int:=by unfold atomsF;simp
  unfold ofF
  rw [e,count10 hi,if_neg (by omega),(takeW_all hi).1,(takeW_all hi).2,decide_eq_false (not10 hi)]
  rfl
 ·have e:atomsF ⟨neg,int,true,frac⟩=int++10 :: frac:=rfl
  unfold ofF
  rw [e,List.count_append,List.count_cons,count10 hi,count10 hf,if_neg (by simp),(takeW_app hi).1,(takeW_app hi).2,decide_eq_true (by simp)]
  show some (Dr.mk neg int true ((10 :: frac).filter fun a=>a != 10))=_
  rw [List.filter_cons,if_neg (by simp),filter10 hf]
theorem takeW_mem {q:Int→Bool} {x:Int}:∀ {L:List Int},x ∈ L.takeWhile q→q x=true
 | [],h=>by cases h
 | y :: L,h=>by
  rw [List.takeWhile_cons] at h
  split at h
  ·rename_i hy
   rcases List.mem_cons.1 h with rfl | h
   ·exact hy
   ·exact takeW_mem h
  ·cases h
theorem of_ok {neg:Bool} {ts:List Int} {d:Dr} (ha:∀ a ∈ ts,0≤a∧a≤10) (h:ofF neg ts=some d):DrOk d:=by
 unfold ofF at h
 split at h
 ·cases h
 ·cases h
  refine ⟨fun x hx=>?_,fun x hx=>?_,fun hs=>?_⟩
  ·have h1:=ha x (List.takeWhile_subset _ hx)
   have h2:(x != 10)=true:=takeW_mem (q:=fun a=>a != 10) hx
   simp at h2;omega
  ·obtain ⟨h1,h2⟩:=List.mem_filter.1 hx
   have h3:=ha x (List.dropWhile_subset _ h1)
   simp at h2;omega
  ·have hn:10 ∉ ts:=by simpa using hs
   have h10:∀ x ∈ ts,(x != 10)=true:=fun x hx=>by
    simp only [bne_iff_ne,ne_eq]
    rintro rfl;exact hn hx
   show ((ts.dropWhile fun a=>a != 10).filter fun a=>a != 10)=[]
   rw [(takeW_all h10).2];rfl
section
variable {r:Rec} {p:Pt}
theorem text_inj (h:Both r p) {d e:Dr} (hd:DrOk d) (he:DrOk e) (ht:textI (itemsF (locOf r p) d)=textI (itemsF (locOf r p) e)):d=e:=by
 obtain ⟨a1,a2⟩:=items_sgs h hd
 obtain ⟨b1,b2⟩:=items_sgs h he
 rw [ht] at a1 a2
 have h1:=of_atoms hd
 have h2:=of_atoms he
 rw [← a1,← a2,b1,b2,h2] at h1
 exact (Option.some.inj h1).symm
def refF (l:Loc) (s:List UInt8):Option Dr :=
 match ofF (ngOf (sgs l s)) (atOf (sgs l s)) with
 | none=>none
 | some d=>if textI (itemsF l d)=s then some d else none
theorem at_bd (ks:List Int):∀ a ∈ atOf ks,0≤a∧a≤10:=fun a ha=>by
 unfold atOf at ha
 have:=(List.mem_filter.1 ha).2
 simpa using this
theorem ref_iff (h:Both r p) (s:List UInt8) (d:Dr):refF (locOf r p) s=some d ↔ DrOk d∧textI (itemsF (locOf r p) d)=s:=by
 constructor
 ·intro hr
  unfold refF at hr
  split at hr
  ·cases hr
  ·rename_i d' hd'
   split at hr
   ·rename_i ht
    cases hr
    exact ⟨of_ok (at_bd _) hd',ht⟩
   ·cases hr
 ·rintro ⟨hd,rfl⟩
  obtain ⟨a1,a2⟩:=items_sgs h hd
  unfold refF
  rw [a1,a2,of_atoms hd]
  simp
theorem sign_inv (h:Both r p) {t:List UInt8} (h0:0≤signZ (locOf r p) ⟨t.toArray⟩):signZ (locOf r p) ⟨t.toArray⟩≤12∧t=symX r (signZ (locOf r p) ⟨t.toArray⟩).toNat:=by
 by_cases hm:t ∈ (locOf r p).d
 ·obtain ⟨k,hk,rfl⟩:=d_mem h hm
  rw [sign_digit_ h hk]
  exact ⟨by omega,by rw [Int.toNat_natCast]⟩
 ·unfold signZ at h0 ⊢
  rw [if_neg (idx_out hm)] at h0 ⊢
  split
  ·rename_i e
   exact ⟨by omega,ba_inj e⟩
  ·rename_i e
   rw [if_neg e] at h0
   split
   ·rename_i e2
    exact ⟨by omega,ba_inj e2.2⟩
   ·rename_i e2
    rw [if_neg e2] at h0
    split
    ·rename_i e3
     exact ⟨by omega,ba_inj e3⟩
    ·rename_i e3
     rw [if_neg e3] at h0;omega
theorem mRun_nn:∀ (ks:List Int) {s t:MS},mRun s ks=some t→∀ k ∈ ks,0≤k
 | [],_,_,_,k,hk=>by cases hk
 | a :: ks,s,t,h,k,hk=>by
  rw [mRun_cons] at h
  cases hm:mStep s a with
  | none=>rw [hm] at h;cases h
  | some u =>
   rw [hm] at h
   have h:mRun u ks=some t:=h
   rcases List.mem_cons.1 hk with rfl | hk
   ·rcases mStep_cases hm with ⟨h1,_⟩ | ⟨h1,_⟩ | ⟨h1,_⟩ | ⟨h1,_⟩ <;> omega
   ·exact mRun_nn ks h k hk
def midR (l:Loc) (s:List UInt8):Option MS :=
 match mRun MS.ini (sgs l s) with
 | none=>none
 | some t=>if t.ends=wantF l t.int.length then some t else none
theorem midR_some {l:Loc} {s:List UInt8} {t:MS} (h:midR l s=some t):mRun MS.ini (sgs l s)=some t∧t.ends=wantF l t.int.length:=by
 unfold midR at h
 split at h
 ·cases h
 ·rename_i u hu
  split at h
  ·rename_i he
   cases h
   exact ⟨hu,he⟩
  ·cases h
def drOf (neg:Bool) (t:MS):Dr:=⟨neg,t.int,t.sep,t.frac⟩
theorem drOf_ok {neg:Bool} {t:MS} (h:MOk t):DrOk (drOf neg t):=⟨h.int,h.fr,h.frac⟩
theorem syms_of (h:Both r p):∀ (ts:List (List UInt8)),(∀ k ∈ ts.map (fun u=>signZ (locOf r p) ⟨u.toArray⟩),0≤k)→ts.flatten=symsT r ((ts.map fun u=>signZ (locOf r p) ⟨u.toArray⟩).map Int.toNat)
 | [],_=>rfl
 | t :: ts,hk=>by
  have h1:=(sign_inv h (hk _ (List.mem_cons_self))).2
  have ih:=syms_of h ts fun k hk'=>hk k (List.mem_cons_of_mem _ hk')
  rw [List.flatten_cons,ih,List.map_cons,List.map_cons]
  unfold symsT
  rw [List.map_cons,List.flatten_cons,← h1]
theorem natI_nat:∀ (ns:List Nat),(natI ns).map Int.toNat=ns
 | []=>rfl
 | n :: ns=>by
  show (n:Int).toNat :: (natI ns).map Int.toNat=n :: ns
  rw [natI_nat ns,Int.toNat_natCast]
theorem mid_text_of (h:Both r p) {s:List UInt8} {t:MS} (neg:Bool) (hm:midR (locOf r p) s=some t):DrOk (drOf neg t)∧s=textI (midF (locOf r p) (drOf neg t)):=by
 obtain ⟨h1,h2⟩:=midR_some hm
 have hok:=(mRun_ok _ ini_ok h1).1
 have hd:DrOk (drOf neg t):=drOf_ok hok
 refine ⟨hd,?_⟩
 have hr:=mid_run (l:=locOf r p) hd
 have e:(⟨(drOf neg t).int,(drOf neg t).frac,(drOf neg t).sep,wantF (locOf r p) (drOf neg t).int.length⟩:MS)=t:=by
  obtain ⟨a,b,c,e⟩:=t
  simp only at h2
  subst h2;rfl
 rw [e] at hr
 have hk:=mRun_inj _ _ _ t rfl h1 hr
 have hnn:=mRun_nn _ h1
 rw [mid_text h hd,← split_join s,syms_of h (splitS s) hnn]
 show symsT r ((sgs (locOf r p) s).map Int.toNat)=_
 rw [hk,natI_nat]
theorem mid_of_text (h:Both r p) {d:Dr} (hd:DrOk d):midR (locOf r p) (textI (midF (locOf r p) d))=some ⟨d.int,d.frac,d.sep,wantF (locOf r p) d.int.length⟩:=by
 unfold midR
 rw [mid_text h hd,syms_sgs h (mid_sgok h hd)]
 have hr:=mid_run (l:=locOf r p) hd
 unfold natI at hr
 rw [hr]
 simp
def preT (l:Loc) (neg:Bool):List UInt8:=textI ((ahead l neg).map (prtI l.r))
def sufT (l:Loc) (neg:Bool):List UInt8:=textI ((behind l neg).map (prtI l.r))
def tryF (l:Loc) (neg:Bool) (s:List UInt8):Option Dr :=
 if (preT l neg).isPrefixOf s=true∧(sufT l neg).isSuffixOf (s.drop (preT l neg).length)=true then
  match midR l ((s.drop (preT l neg).length).take (s.length - (preT l neg).length - (sufT l neg).length)) with
  | none=>none
  | some t=>some (drOf neg t)
 else none
theorem items_text (l:Loc) (d:Dr):textI (itemsF l d)=preT l d.neg++(textI (midF l d)++sufT l d.neg):=by
 unfold itemsF preT sufT
 rw [textI_app,textI_app]
theorem try_text (h:Both r p) {neg:Bool} {s:List UInt8} {d:Dr} (ht:tryF (locOf r p) neg s=some d):DrOk d∧textI (itemsF (locOf r p) d)=s:=by
 unfold tryF at ht
 split at ht
 ·rename_i hc
  split at ht
  ·cases ht
  ·rename_i t hm
   cases ht
   obtain ⟨h1,h2⟩:=mid_text_of h neg hm
   refine ⟨h1,?_⟩
   rw [items_text,← h2]
   obtain ⟨u,hu⟩:=List.isPrefixOf_iff_prefix.1 hc.1
   obtain ⟨v,hv⟩:=List.isSuffixOf_iff_suffix.1 hc.2
   show preT (locOf r p) neg++(_++sufT (locOf r p) neg)=s
   generalize preT (locOf r p) neg=A at *
   generalize sufT (locOf r p) neg=B at *
   subst hu
   rw [List.drop_left] at hv ⊢
   subst hv
   rw [List.length_append,List.length_append,show A.length+(v.length+B.length) - A.length - B.length=v.length by omega,List.take_left]
 ·cases ht
theorem try_of (h:Both r p) {d:Dr} (hd:DrOk d):tryF (locOf r p) d.neg (textI (itemsF (locOf r p) d))=some d:=by
 rw [items_text]
 unfold tryF
 have hm:=mid_of_text h hd
 generalize textI (midF (locOf r p) d)=m at *
 generalize preT (locOf r p) d.neg=A at *
 generalize sufT (locOf r p) d.neg=B at *
 rw [List.drop_left,List.length_append,List.length_append,show A.length+(m.length+B.length) - A.length - B.length=m.length by omega,List.take_left,hm]
 rw [if_pos ⟨List.isPrefixOf_iff_prefix.2 ⟨_,rfl⟩,List.isSuffixOf_iff_suffix.2 ⟨_,rfl⟩⟩]
 rfl
def progF (l:Loc) (s:List UInt8):Option Dr:=match tryF l false s with
 | some d=>some d
 | none=>tryF l true s
theorem prog_iff (h:Both r p) (s:List UInt8) (d:Dr):progF (locOf r p) s=some d ↔ DrOk d∧textI (itemsF (locOf r p) d)=s:=by
 constructor
 ·intro hp
  unfold progF at hp
  split at hp
  ·rename_i e he
   cases hp
   exact try_text h he
  ·exact try_text h hp
 ·rintro ⟨hd,rfl⟩
  have ht:=try_of h hd
  unfold progF
  cases hn:d.neg
  ·rw [hn] at ht;rw [ht]
  ·rw [hn] at ht
   cases hf:tryF (locOf r p) false (textI (itemsF (locOf r p) d)) with
   | none=>exact ht
   | some e =>
    obtain ⟨he,hte⟩:=try_text h hf
    rw [text_inj h he hd hte]
theorem prog_ref (h:Both r p) (s:List UInt8):progF (locOf r p) s=refF (locOf r p) s:=by
 refine Option.ext fun d=>?_
 exact (prog_iff h s d).trans (ref_iff h s d).symm
end
end Go.Proofs.YtcghgkagpkmpeaaGreatDoor.Loc
