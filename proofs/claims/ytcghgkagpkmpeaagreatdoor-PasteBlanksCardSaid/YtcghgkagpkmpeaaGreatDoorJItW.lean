/- Joined by wip/join.py: ItP4 LKin Fld DrW ItP5 ItW1 VwW0 Ends ItW2 DrW2 ItW3 ItW4 LBegin. -/
import Derived.Test.YtcghgkagpkmpeaaGreatDoorJIt
import Derived.Test.YtcghgkagpkmpeaaGreatDoorJLForty
import Derived.Test.YtcghgkagpkmpeaaGreatDoorJLocE
import Derived.Test.YtcghgkagpkmpeaaGreatDoorJBase
import Derived.Test.YtcghgkagpkmpeaaGreatDoorJPat4
import Derived.Test.YtcghgkagpkmpeaaGreatDoorJBuild
import Derived.Deep.Onto
import Derived.Test.YtcghgkagpkmpeaaGreatDoorRows
import Derived.WalkKit
import Derived.Handy
import Derived.BigQuiet
import Derived.Deep.QuietTactic
import Derived.Lib.Hide
import Derived.WalkLawsBesides
import Derived.Deep.RegionHeld3
import Derived.Test.YtcghgkagpkmpeaaGreatDoorJForty
set_option linter.unusedVariables false
set_option linter.unusedSimpArgs false
set_option maxHeartbeats 16000000
namespace Go.Proofs.YtcghgkagpkmpeaaGreatDoor.Loc
open Go.RowKit Utf All Small Strs Build EncC Pat Cls Dec Go.Proofs.YtcghgkagpkmpeaaGreatDoor.Sys
def hasA (k:Int) (x:It):Bool:=x.2.2 == k
def findZ (L:List It) (k:Int):Int:=idxF (hasA k) L
theorem atom_bd {d:Dr} (h:DrOk d) {k:Nat} (hk:k < (atomsF d).length):atomAt d k=10∨(0≤atomAt d k∧atomAt d k≤9):=by
 have hm:atomAt d k ∈ atomsF d:=by
  unfold atomAt
  rw [List.getD_eq_getElem?_getD,List.getElem?_eq_getElem hk]
  exact List.getElem_mem hk
 generalize atomAt d k=a at *
 unfold atomsF at hm
 rcases List.mem_append.1 hm with hm | hm
 ·exact .inr (h.int _ hm)
 ·rcases List.mem_append.1 hm with hm | hm
  ·split at hm
   ·exact .inl (by simpa using hm)
   ·cases hm
  ·exact .inr (h.frac _ hm)
def Kin (r:Rec) (p:Pt):Prop:=(∃ v0 v1 v2 v3 v4 v5:Int,r=goodR v0 v1 v2 v3 v4 v5∧p=patAt (aroundF v1 10).toNat)∨∃ k,k < 40∧r=rec40 k∧p=pat40 k
theorem Kin.both {r:Rec} {p:Pt} (h:Kin r p):Both r p:=by
 rcases h with ⟨v0,v1,v2,v3,v4,v5,rfl,rfl⟩ | ⟨k,hk,rfl,rfl⟩
 ·exact both_good v0 v1 v2 v3 v4 v5
 ·exact both_40 hk
def numB (p:Pt):Bool:=decide (0≤p.num.prim) && decide (p.num.prim≤100) && decide (0≤p.num.sec) && decide (p.num.sec≤100)
theorem num_pats:∀ j:Fin 10,numB (patAt j.val)=true:=by decide +kernel
theorem num_40:∀ k:Fin 40,numB (pat40 k.val)=true:=by decide +kernel
theorem Kin.num {r:Rec} {p:Pt} (h:Kin r p):0≤p.num.prim∧p.num.prim≤100∧0≤p.num.sec∧p.num.sec≤100:=by
 have hb:numB p=true:=by
  rcases h with ⟨v0,v1,v2,v3,v4,v5,rfl,rfl⟩ | ⟨k,hk,rfl,rfl⟩
  ·have hb:=aroundF_bd v1 10 (by omega)
   exact num_pats ⟨(aroundF v1 10).toNat,by omega⟩
  ·exact num_40 ⟨k,hk⟩
 unfold numB at hb
 simp only [Bool.and_eq_true,decide_eq_true_eq] at hb
 exact ⟨hb.1.1.1,hb.1.1.2,hb.1.2,hb.2⟩
end Go.Proofs.YtcghgkagpkmpeaaGreatDoor.Loc
namespace Go.Proofs.YtcghgkagpkmpeaaGreatDoor.Loc
open Go.RowKit
theorem run_field3 (c0 c1 c2 c3 c4 c5 c6 c7:Value) (w:World):(Instr.field 84 (.agg #[c0,c1,c2,c3,c4,c5,c6,c7]) 3).run Tryz.prog w=.ok c3 w:=by
 have u:=Tryz.underlying84
 have a9:=Tryz.isAgg9
 unfold Instr.field
 simp [run_underlying u,part,a9,asAgg]
theorem run_field4 (c0 c1 c2 c3 c4 c5 c6 c7:Value) (w:World):(Instr.field 84 (.agg #[c0,c1,c2,c3,c4,c5,c6,c7]) 4).run Tryz.prog w=.ok c4 w:=by
 have u:=Tryz.underlying84
 have a9:=Tryz.isAgg9
 unfold Instr.field
 simp [run_underlying u,part,a9,asAgg]
theorem run_field5 (c0 c1 c2 c3 c4 c5 c6 c7:Value) (w:World):(Instr.field 84 (.agg #[c0,c1,c2,c3,c4,c5,c6,c7]) 5).run Tryz.prog w=.ok c5 w:=by
 have u:=Tryz.underlying84
 have a9:=Tryz.isAgg9
 unfold Instr.field
 simp [run_underlying u,part,a9,asAgg]
open Go.RowKit Utf All Small Strs Build EncC Pat Cls Dec Go.Proofs.YtcghgkagpkmpeaaGreatDoor.Sys Go.ChangeShapes Go.WideShapes
def intV (xs:List Int):List Value:=xs.map (Value.int .i64)
def drV (A:Option Addr) (c:Nat) (B:Option Addr) (e:Nat) (d:Dr):List Value:=[.bool d.neg,.slice A d.int.length c,.bool d.sep,.slice B d.frac.length e]
structure DrR (W:World) (A B:Option Addr) (d:Dr):Prop where
 int:Row W A (d.int.map (Value.int .i64))
 frac:Row W B (d.frac.map (Value.int .i64))
theorem DrR.ext {W W':World} {A B:Option Addr} {d:Dr} (h:DrR W A B d) (hx:Ext W W'):DrR W' A B d:=⟨h.int.below hx (Nat.le_refl _),h.frac.below hx (Nat.le_refl _)⟩
structure DrI (d:Dr):Prop where
 int:∀ x ∈ d.int,i64 x
 frac:∀ x ∈ d.frac,i64 x
def goodL (xs:List Int) (m:Nat):List Int:=(xs.take m).map fun x=>aroundF x 10
def goodD (d:Dr) (m n:Nat):Dr:=⟨d.neg,goodL d.int m,d.sep,if d.sep then goodL d.frac n else []⟩
theorem goodL_bd (xs:List Int) (m:Nat):∀ x ∈ goodL xs m,0≤x∧x≤9:=by
 intro x hx
 obtain ⟨y,_,rfl⟩:=List.mem_map.1 hx
 have:=aroundF_bd y 10 (by omega)
 omega
theorem goodL_len (xs:List Int) (m:Nat):(goodL xs m).length≤m:=by unfold goodL;rw [List.length_map,List.length_take];omega
theorem good_ok (d:Dr) (m n:Nat):DrOk (goodD d m n):=by
 refine ⟨goodL_bd _ _,fun x hx=>?_,fun h=>?_⟩
 ·unfold goodD at hx
  simp only at hx
  split at hx
  ·exact goodL_bd _ _ x hx
  ·cases hx
 ·unfold goodD at h ⊢
  simp only at h ⊢
  rw [h];rfl
theorem good_intl (d:Dr) (m n:Nat):(goodD d m n).int.length≤m:=goodL_len _ _
theorem good_fracl (d:Dr) (m n:Nat):(goodD d m n).frac.length≤n:=by
 unfold goodD
 simp only
 split
 ·exact goodL_len _ _
 ·exact Nat.zero_le _
theorem goodL_snoc (xs:List Int) {k:Nat} (h:k < xs.length):(xs.take (k+1)).map (fun x=>aroundF x 10)=(xs.take k).map (fun x=>aroundF x 10)++[aroundF xs[k] 10]:=by
 rw [List.take_succ_eq_append_getElem h,List.map_append];rfl
set_option maxRecDepth 100000
theorem open_d {H:Type} {enc:TypeId × Value→H} {W:World} {r:Reach} {base:Nat} {v:Value} {d:DataW H} {ps:List MemPlace} (hv:Value.okWide Tryz.prog W r base 43 v) (h:DataW.Trod enc Tryz.prog W 0 (fun _=>true) true 43 v d ps) :
  ∃ (A B:Option Addr) (c e:Nat) (g:Dr),v=.agg (drV A c B e g).toArray∧DrR W A B g∧DrI g:=by
 obtain ⟨cs,rfl,hsz⟩:=okWide_struct Tryz.underlying43 hv
 have h4:Tryz.prog.cellsOf 43=4:=by kernel_rfl
 have c2:Tryz.prog.cellsOf 41=1:=by kernel_rfl
 have c3:Tryz.prog.cellsOf 4=1:=by kernel_rfl
 rw [h4] at hsz
 obtain ⟨fuel,hf⟩:=h
 obtain ⟨xs,n,_,_,_,hxl,hfld⟩:=DataW.trod_struct Tryz.underlying43 hf
 have hcs:(Value.agg cs).cells.toList=cs.toList:=rfl
 rw [hcs] at hfld
 obtain ⟨l⟩:=cs
 have hl:l.length=4:=hsz
 match l,hl with
 | [v0,v1,v2,v3],_ =>
  obtain ⟨y0,e0⟩:=some_at hxl (i:=0) (by decide)
  obtain ⟨y1,e1⟩:=some_at hxl (i:=1) (by decide)
  obtain ⟨y2,e2⟩:=some_at hxl (i:=2) (by decide)
  obtain ⟨y3,e3⟩:=some_at hxl (i:=3) (by decide)
  have f0:=(hfld 0 _ rfl).trans e0
  have f1:=(hfld 1 _ rfl).trans e1
  have f2:=(hfld 2 _ rfl).trans e2
  have f3:=(hfld 3 _ rfl).trans e3
  simp only [c2,c3,List.drop_succ_cons,List.drop_zero,List.take_succ_cons,List.take_zero] at f0 f1 f2 f3
  obtain ⟨neg,rfl⟩:=open_bool_cell f0
  obtain ⟨A,ca,xa,rfl,ra,ba⟩:=open_slice_ints f1
  obtain ⟨sep,rfl⟩:=open_bool_cell f2
  obtain ⟨B,cb,xb,rfl,rb,bb⟩:=open_slice_ints f3
  exact ⟨A,B,ca,cb,⟨neg,xa,sep,xb⟩,rfl,⟨ra,rb⟩,⟨ba,bb⟩⟩
end Go.Proofs.YtcghgkagpkmpeaaGreatDoor.Loc
namespace Go.Proofs.YtcghgkagpkmpeaaGreatDoor.Loc
open Go.RowKit Utf All Small Strs Build EncC Pat Cls Dec Go.Proofs.YtcghgkagpkmpeaaGreatDoor.Sys
theorem tot_txt (l:Loc) (q:List Pc):totP (partsF l q)≤(txtL l q).length:=by
 have key:∀ (q:List Pc) (out:List Prt),totP (q.foldl (fun out x=>stepP out (oneP l x)) out)≤totP out+(txtL l q).length:=by
  intro q
  induction q with
  | nil=>intro out;simp
  | cons x r ih =>
   intro out
   have h1:=ih (stepP out (oneP l x))
   have h2:=step_tot out (oneP l x)
   have h3:(txtL l (x :: r)).length=(oneP l x).2.length+(txtL l r).length:=by
    have e:txtL l (x :: r)=txtL l [x]++txtL l r:=by
     unfold txtL resF
     rw [List.flatMap_cons,List.flatMap_cons,List.flatMap_nil,List.append_nil]
    rw [e,List.length_append];rfl
   simp only [List.foldl_cons];omega
 have:=key q []
 simpa [partsF,totP] using this
section
variable {r:Rec} {p:Pt}
theorem tot_le (h:Both r p) {q:List Pc} (hq:q ∈ affsP p):totP (partsF (locOf r p) q)≤64:=Nat.le_trans (tot_txt _ q) (h.may.aff q hq)
theorem prtT_le (h:Both r p):∀ (ps:List Prt),(textI (ps.map (prtI r))).length≤totP ps+nSign ps * 1000
 | []=>by simp [textI]
 | y :: ps=>by
  have ih:=prtT_le h ps
  have hm:=h.may.b.min
  have e:textI ((y :: ps).map (prtI r))=(prtI r y).2.1++textI (ps.map (prtI r)):=rfl
  have ht:totP (y :: ps)=y.2.length+totP ps:=by unfold totP;simp
  have hm':r.minus.length≤1000:=hm
  unfold nSign at ih ⊢
  rw [e,List.length_append,List.countP_cons,ht]
  cases hy:y.1
  ·have e2:(prtI r y).2.1=y.2:=by unfold prtI;rw [hy];rfl
   rw [e2]
   simp only [Bool.false_eq_true,if_false];omega
  ·have e2:(prtI r y).2.1=r.minus:=by unfold prtI;rw [hy];rfl
   rw [e2]
   simp only [if_true];omega
theorem side_tot (h:Both r p) (neg:Bool):totP (ahead (locOf r p) neg)≤64∧totP (behind (locOf r p) neg)≤64:=by
 unfold ahead behind
 cases neg
 ·exact ⟨tot_le h (q:=p.pre) (by simp [affsP]),tot_le h (q:=p.suf) (by simp [affsP])⟩
 ·exact ⟨tot_le h (q:=p.npre) (by simp [affsP]),tot_le h (q:=p.nsuf) (by simp [affsP])⟩
theorem side_len (h:Both r p) (neg:Bool):(ahead (locOf r p) neg).length≤1000∧(behind (locOf r p) neg).length≤1000:=by
 unfold ahead behind
 have hb:∀ q ∈ affsP p,q.length≤1000:=h.may.b.len
 cases neg
 ·exact ⟨Nat.le_trans (parts_len _ _) (hb p.pre (by simp [affsP])),Nat.le_trans (parts_len _ _) (hb p.suf (by simp [affsP]))⟩
 ·exact ⟨Nat.le_trans (parts_len _ _) (hb p.npre (by simp [affsP])),Nat.le_trans (parts_len _ _) (hb p.nsuf (by simp [affsP]))⟩
theorem dig_le (h:Both r p) (v:Int):(digZ (locOf r p) v).length≤4:=by
 by_cases hv:0≤v∧v < 10
 ·obtain ⟨k,rfl⟩:=Int.eq_ofNat_of_zero_le hv.1
  rw [dig_k h (show k < 10 by omega)]
  exact Sys.encB_le _
 ·unfold digZ
  rw [if_neg hv];simp
theorem mid_le (h:Both r p) {d:Dr} {x:It} (hx:x ∈ midF (locOf r p) d):x.2.1.length≤1000:=by
 rcases mid_mem hx with ⟨v,a,rfl⟩ | rfl | rfl
 ·have:=dig_le h v
  show (digZ (locOf r p) v).length≤1000
  omega
 ·exact h.may.b.grp
 ·exact h.may.b.dec
theorem mid_len {l:Loc} {d:Dr}:(midF l d).length≤2 * d.int.length+d.frac.length+1:=by
 have h1:∀ k,(intsTo l d.int k).length≤2 * k:=by
  intro k
  induction k with
  | zero=>simp [intsTo]
  | succ k ih =>
   rw [intsTo_succ,List.length_append]
   have hg:(grpAt l ((d.int.length:Int) - 1 - k)).length≤1:=by unfold grpAt;split <;> simp
   unfold intF
   simp only [List.length_cons];omega
 have h2:=h1 d.int.length
 unfold midF
 rw [List.length_append,List.length_append,fracTo_len]
 have h3:(decI l d).length≤1:=by unfold decI;split <;> simp
 omega
theorem textI_all:∀ (L:List It),(∀ x ∈ L,x.2.1.length≤1000)→(textI L).length≤1000 * L.length
 | [],_=>by simp [textI]
 | x :: L,h=>by
  have ih:=textI_all L fun y hy=>h y (List.mem_cons_of_mem _ hy)
  have hx:=h x List.mem_cons_self
  have e:textI (x :: L)=x.2.1++textI L:=rfl
  rw [e,List.length_append,List.length_cons];omega
theorem prtI_le (h:Both r p) {ps:List Prt} (hp:totP ps≤64) {x:It} (hx:x ∈ ps.map (prtI r)):x.2.1.length≤1000:=by
 obtain ⟨y,hy,rfl⟩:=List.mem_map.1 hx
 have:=totP_mem hy
 unfold prtI
 split
 ·exact h.may.b.min
 ·show y.2.length≤1000
  omega
theorem items_le (h:Both r p) {d:Dr} (hi:d.int.length≤100) (hf:d.frac.length≤100):(itemsF (locOf r p) d).length≤2400∧(∀ x ∈ itemsF (locOf r p) d,x.2.1.length≤1000)∧(textI (itemsF (locOf r p) d)).length≤400000:=by
 have hs:=side_len h d.neg
 have ht:=side_tot h d.neg
 have hm:=mid_len (l:=locOf r p) (d:=d)
 have hc:=h.count d.neg
 have hmt:=textI_all (midF (locOf r p) d) fun x hx=>mid_le h hx
 have ha:=prtT_le h (ahead (locOf r p) d.neg)
 have hb:=prtT_le h (behind (locOf r p) d.neg)
 have hn:nSign (ahead (locOf r p) d.neg)+nSign (behind (locOf r p) d.neg)≤1:=by rw [hc];split <;> omega
 refine ⟨?_,fun x hx=>?_,?_⟩
 ·unfold itemsF
  rw [List.length_append,List.length_append,List.length_map,List.length_map];omega
 ·unfold itemsF at hx
  rcases List.mem_append.1 hx with hx | hx
  ·exact prtI_le h ht.1 hx
  ·rcases List.mem_append.1 hx with hx | hx
   ·exact mid_le h hx
   ·exact prtI_le h ht.2 hx
 ·unfold itemsF
  rw [textI_app,textI_app,List.length_append,List.length_append]
  have e1:(textI ((ahead (locOf r p) d.neg).map (prtI (locOf r p).r))).length=(textI ((ahead (locOf r p) d.neg).map (prtI r))).length:=rfl
  have e2:(textI ((behind (locOf r p) d.neg).map (prtI (locOf r p).r))).length=(textI ((behind (locOf r p) d.neg).map (prtI r))).length:=rfl
  omega
theorem items_le5 (h:Both r p) {d:Dr} (hi:d.int.length≤5000) (hf:d.frac.length≤5000):(itemsF (locOf r p) d).length≤18000∧(∀ x ∈ itemsF (locOf r p) d,x.2.1.length≤1000)∧(textI (itemsF (locOf r p) d)).length≤16000000:=by
 have hs:=side_len h d.neg
 have ht:=side_tot h d.neg
 have hm:=mid_len (l:=locOf r p) (d:=d)
 have hc:=h.count d.neg
 have hmt:=textI_all (midF (locOf r p) d) fun x hx=>mid_le h hx
 have ha:=prtT_le h (ahead (locOf r p) d.neg)
 have hb:=prtT_le h (behind (locOf r p) d.neg)
 have hn:nSign (ahead (locOf r p) d.neg)+nSign (behind (locOf r p) d.neg)≤1:=by rw [hc];split <;> omega
 refine ⟨?_,fun x hx=>?_,?_⟩
 ·unfold itemsF
  rw [List.length_append,List.length_append,List.length_map,List.length_map];omega
 ·unfold itemsF at hx
  rcases List.mem_append.1 hx with hx | hx
  ·exact prtI_le h ht.1 hx
  ·rcases List.mem_append.1 hx with hx | hx
   ·exact mid_le h hx
   ·exact prtI_le h ht.2 hx
 ·unfold itemsF
  rw [textI_app,textI_app,List.length_append,List.length_append]
  have e1:(textI ((ahead (locOf r p) d.neg).map (prtI (locOf r p).r))).length=(textI ((ahead (locOf r p) d.neg).map (prtI r))).length:=rfl
  have e2:(textI ((behind (locOf r p) d.neg).map (prtI (locOf r p).r))).length=(textI ((behind (locOf r p) d.neg).map (prtI r))).length:=rfl
  omega
end
end Go.Proofs.YtcghgkagpkmpeaaGreatDoor.Loc
namespace Go.Proofs.YtcghgkagpkmpeaaGreatDoor
open Go.RowKit
theorem Acc.base {e sz:Nat} {w0 w1 w:World} {A:Option Addr} {c n:Nat} {cs:List Value} (h:Acc e sz w1 w A c n cs) (hx:Ext w0 w1):Acc e sz w0 w A c n cs :=
 ⟨h.own.mono hx.size,hx.trans h.ext⟩
end Go.Proofs.YtcghgkagpkmpeaaGreatDoor
namespace Go.Proofs.YtcghgkagpkmpeaaGreatDoor.Loc
open Go.RowKit Utf All Small Strs Build EncC Pat Cls Dec Go.Proofs.YtcghgkagpkmpeaaGreatDoor.Sys
theorem ei_it:EI 68 77 3 32:=ei_of (z:=.agg #[.int .i64 0,.string ⟨#[]⟩,.int .i64 0]) Tryz.underlying68 (by kernel_rfl) rfl (by decide)
theorem ei_ri:EI 73 76 3 32:=ei_of (z:=.agg #[.int .i64 0,.string ⟨#[]⟩,.int .i64 0]) Tryz.underlying73 (by kernel_rfl) rfl (by decide)
theorem infoIt:(Tryz.prog.info? 77).map (·.size)=some 3:=by kernel_rfl
theorem row_prt {w:World} {X:Option Addr} {l:List Prt} {k:Nat} (h:Row w X (prtV l)) (hk:k < l.length) :
  ∃ b off,X=some ⟨b,off,none⟩∧w.rangeAt b (off+k * 2) [.bool l[k].1,.string ⟨l[k].2.toArray⟩]:=by
 obtain ⟨b,off,rfl,hc⟩:=h.at_ (k:=k * 2) (by rw [prt_len];omega)
 refine ⟨b,off,rfl,fun j v hv=>?_⟩
 have hj:j < 2:=(List.getElem?_eq_some_iff.1 hv).1
 rw [Nat.add_assoc]
 refine hc _ _ ?_
 have h1:=flat_at prV 2 (fun _=>rfl) l k hk j hj
 unfold prtV
 rw [h1];exact hv
theorem row_it {w:World} {X:Option Addr} {l:List It} {k:Nat} (h:Row w X (itsV l)) (hk:k < l.length) :
  ∃ b off,X=some ⟨b,off,none⟩∧w.rangeAt b (off+k * 3) [.int .i64 l[k].1,.string ⟨l[k].2.1.toArray⟩,.int .i64 l[k].2.2]:=by
 obtain ⟨b,off,rfl,hc⟩:=h.at_ (k:=k * 3) (by rw [its_len];omega)
 refine ⟨b,off,rfl,fun j v hv=>?_⟩
 have hj:j < 3:=(List.getElem?_eq_some_iff.1 hv).1
 rw [Nat.add_assoc]
 refine hc _ _ ?_
 have h1:=flat_at itV 3 (fun _=>rfl) l k hk j hj
 unfold itsV
 rw [h1];exact hv
theorem row_ints {w:World} {X:Option Addr} {xs:List Int} {k:Nat} (h:Row w X (xs.map (Value.int .i64))) (hk:k < xs.length):∃ b off,X=some ⟨b,off,none⟩∧w.cell? ⟨b,off+k,none⟩=some (.int .i64 (xs.getD k 0)):=by
 obtain ⟨b,off,rfl,hc⟩:=h.at_ (k:=k) (by simpa using hk)
 refine ⟨b,off,rfl,hc k _ ?_⟩
 rw [List.getElem?_map,List.getElem?_eq_getElem hk,List.getD_eq_getElem?_getD,List.getElem?_eq_getElem hk];rfl
theorem row_cell {w:World} {b off:Nat} {xs:List Int} {k:Nat} (h:Row w (some ⟨b,off,none⟩) (xs.map (Value.int .i64))) (hk:k < xs.length):w.cell? ⟨b,off+k,none⟩=some (.int .i64 (xs.getD k 0)) :=
 h.cell0 (by rw [List.getElem?_map,List.getElem?_eq_getElem hk,List.getD_eq_getElem?_getD,List.getElem?_eq_getElem hk];rfl)
theorem its_oneCell (l:List It):∀ u ∈ itsV l,u.oneCell'=true:=by
 intro u hu
 unfold itsV at hu
 obtain ⟨p,_,hp⟩:=List.mem_flatMap.1 hu
 simp [itV] at hp
 rcases hp with rfl | rfl | rfl <;> rfl
theorem prts_snoc (r:Rec) {l:List Prt} {k:Nat} (h:k < l.length):itsV ((l.take (k+1)).map (prtI r))=itsV ((l.take k).map (prtI r))++itV (prtI r l[k]):=by
 rw [List.take_succ_eq_append_getElem h,List.map_append,its_app];simp [itsV]
set_option maxRecDepth 100000
theorem item_parts (g:Nat) (A B C D X:Option Addr) (c d a b n k0:Nat) (ps:List Prt) (l:Loc) (w:World) (h:LocR w g A B C D c d a b l) (hX:Row w X (prtV ps)) (hn:ps.length=n) (hl:n≤2000) :
  Calls Tryz.prog 101 #[.pointer (some ⟨g,0,none⟩),.slice X n k0] w fun e w'=>∃ E c',e=.returned (.slice E n c')∧Acc 77 3 w w' E c' n (itsV (ps.map (prtI l.r))):=by
 have HXR:=Lib.hid hX
 have HN:=Lib.hid hn
 have HRC:Hid (∀ W,Ext w W→Calls Tryz.prog 92 #[.pointer (some ⟨g,0,none⟩)] W fun e w'=>e=.returned (.agg ([.string ⟨l.r.name.toArray⟩,.string ⟨l.r.pattern.toArray⟩,.string ⟨l.r.system.toArray⟩,.string ⟨l.r.decimal.toArray⟩,.string ⟨l.r.group.toArray⟩,.string ⟨l.r.minus.toArray⟩,.string ⟨l.r.percent.toArray⟩,.string ⟨l.r.currency.toArray⟩]:List Value).toArray)∧Ext W w'):=Lib.hid fun W hW=>record_l g A B C D c d a b l W (h.ext hW)
 have HALL:Hid (itsV ((ps.take n).map (prtI l.r))=itsV (ps.map (prtI l.r))):=Lib.hid (by rw [List.take_of_length_le (by omega)])
 have HSN:Hid (∀ k (hk:k < ps.length),itsV ((ps.take (k+1)).map (prtI l.r))=itsV ((ps.take k).map (prtI l.r))++itV (prtI l.r ps[k])):=Lib.hid fun k hk=>prts_snoc l.r hk
 have HMN:Hid (∀ t,itV (prtI l.r (true,t))=[.int .i64 1,.string ⟨l.r.minus.toArray⟩,.int .i64 (-1)]):=Lib.hid fun t=>rfl
 have HTX:Hid (∀ t,itV (prtI l.r (false,t))=[.int .i64 0,.string ⟨t.toArray⟩,.int .i64 (-1)]):=Lib.hid fun t=>rfl
 clear h hX hn
 go_enter Tryz.func101,Tryz.ntmps101
 go_wp2
 go_loopw [5,10] (fun v i wr=>∃ (k:Nat) (E:Option Addr) (c':Nat),k≤n∧i=.int .i64 k∧v=.slice E k c'∧Acc 77 3 w wr E c' k (itsV ((ps.take k).map (prtI l.r)))) (fun _ i _=>n - (intOf i).toNat)
 case atStart=>exact ⟨0,none,0,Nat.zero_le _,rfl,rfl,Acc.start _ _ _⟩
 case round =>
  obtain ⟨k,E,c',hk,rfl,rfl,hacc⟩:=hrel
  by_cases hlt:k < n
  ·have hkq:k < ps.length:=by have:=HN.out;omega
   have HS:=Lib.hid (HSN.out k hkq)
   obtain ⟨bx,ox,rfl,hg⟩:=row_prt (HXR.out.below hacc.ext (Nat.le_refl _)) hkq
   have HRG:=Lib.hid hg
   have HA:=Lib.hid hacc
   generalize itsV ((ps.take k).map (prtI l.r))=out at *
   generalize ps[k]=x at *
   obtain ⟨sg,t⟩:=x
   have hbx:=Box.new wr 157 [.bool sg,.string ⟨t.toArray⟩]
   have HA7:=Lib.hid (HA.out.alloc (.cells ([.bool sg,.string ⟨t.toArray⟩]:List Value).toArray 157))
   clear hacc hg HA
   go_upto_region 5 with (first
    | (refine wpList_load_mid rfl 157 (.tmp 12) rfl bx (ox+k * 2) rfl [.bool sg,.string ⟨t.toArray⟩] _ HRG.out Tryz.underlying157 rfl infoPrt ?_)
    | (refine wpList_store_fresh rfl 157 (.tmp 7) (.tmp 13) rfl ([.bool sg,.string ⟨t.toArray⟩]:List Value).toArray 157 _ rfl rfl infoPrt rfl (by simp [Value.oneCell']) ?_))
   generalize wr.alloc (.cells ([.bool sg,.string ⟨t.toArray⟩]:List Value).toArray 157)=w7 at *
   have c0:=hbx.cell (j:=0) (v:=.bool sg) rfl
   have c1:=hbx.cell (j:=1) (v:=.string ⟨t.toArray⟩) rfl
   cases sg
   ·have HS2:Hid (itsV ((ps.take (k+1)).map (prtI l.r))=out++[.int .i64 0,.string ⟨t.toArray⟩,.int .i64 (-1)]):=Lib.hid (by rw [HS.out,HTX.out])
    go_wp2_with (at_builtin;refine wp_app ei_it rfl (.tmp 23) (.tmp 27) rfl w _ E c' k _ rfl HA7.out [.int .i64 0,.string ⟨t.toArray⟩,.int .i64 (-1)] 1 1 rfl rfl (by simp [Value.oneCell']) (by omega) (by unfold maxLen;omega) ?_;intro A1 c1 w5 hA5 _ _)
    exact ⟨⟨k+1,A1,c1,by omega,by go_num,rfl,by rw [HS2.out];exact hA5⟩,by simp [intOf];omega⟩
   ·have HS2:Hid (itsV ((ps.take (k+1)).map (prtI l.r))=out++[.int .i64 1,.string ⟨l.r.minus.toArray⟩,.int .i64 (-1)]):=Lib.hid (by rw [HS.out,HMN.out])
    have hxw:=HA7.out.ext
    go_wp2_with (first
     | (go_at_call 92;with_reducible refine (HRC.out _ hxw).mono ?_;rintro e w8 ⟨rfl,hx8⟩;have HA8:=Lib.hid (HA7.out.step hx8))
     | (rw [run_field5];simp only [Result.andThen];rw [Oper.upon_value])
     | (at_builtin;refine wp_app ei_it rfl (.tmp 16) (.tmp 21) rfl w _ E c' k _ rfl HA8.out [.int .i64 1,.string ⟨l.r.minus.toArray⟩,.int .i64 (-1)] 1 1 rfl rfl (by simp [Value.oneCell']) (by omega) (by unfold maxLen;omega) ?_;intro A1 c1 w5 hA5 _ _))
    exact ⟨⟨k+1,A1,c1,by omega,by go_num,rfl,by rw [HS2.out];exact hA5⟩,by simp [intOf];omega⟩
  ·have e:k=n:=by omega
   subst e
   rw [HALL.out] at hacc
   go_wp2
   go_ret
   exact ⟨E,c',rfl,hacc⟩
theorem ref15_parts (A B C D X:Option Addr) (c d a b n k0:Nat) (ps:List Prt) (r:Rec) (p:Pt) (w:World) (hX:Row w X (prtV ps)) (hn:ps.length=n) (hl:n≤2000) :
  Calls Tryz.prog 56 #[.agg (refLV A B C D c d a b r p).toArray,.slice X n k0] w fun e w'=>∃ E c',e=.returned (.slice E n c')∧Acc 76 3 w w' E c' n (itsV (ps.map (prtI r))):=by
 have HXR:=Lib.hid hX
 have HN:=Lib.hid hn
 have HALL:Hid (itsV ((ps.take n).map (prtI r))=itsV (ps.map (prtI r))):=Lib.hid (by rw [List.take_of_length_le (by omega)])
 have HSN:Hid (∀ k (hk:k < ps.length),itsV ((ps.take (k+1)).map (prtI r))=itsV ((ps.take k).map (prtI r))++itV (prtI r ps[k])):=Lib.hid fun k hk=>prts_snoc r hk
 have HMN:Hid (∀ t,itV (prtI r (true,t))=[.int .i64 1,.string ⟨r.minus.toArray⟩,.int .i64 (-1)]):=Lib.hid fun t=>rfl
 have HTX:Hid (∀ t,itV (prtI r (false,t))=[.int .i64 0,.string ⟨t.toArray⟩,.int .i64 (-1)]):=Lib.hid fun t=>rfl
 have b1:=Box.new w 31 (refLV A B C D c d a b r p)
 have hx1:Ext w (w.alloc (.cells (refLV A B C D c d a b r p).toArray 31)):=Ext.alloc_ (Ext.refl w) _
 have K5:=Lib.hid (b1.cell (j:=5) (v:=.string ⟨r.minus.toArray⟩) rfl)
 have HX1:=Lib.hid hx1
 clear hX hn b1 hx1
 go_enter Tryz.func56,Tryz.ntmps56
 go_upto_region 1 with fail
 change Code.wp _ _ _ _ (w.alloc (.cells (refLV A B C D c d a b r p).toArray 31))
 generalize w.alloc (.cells (refLV A B C D c d a b r p).toArray 31)=w1 at *
 generalize hlb:w.heap.size=lb at *
 have HLB:=Lib.hid hlb
 clear hlb
 go_wp2
 go_loopw [5,6] (fun v i wr=>∃ (k:Nat) (E:Option Addr) (c':Nat),k≤n∧i=.int .i64 k∧v=.slice E k c'∧Acc 76 3 w1 wr E c' k (itsV ((ps.take k).map (prtI r)))) (fun _ i _=>n - (intOf i).toNat)
 case atStart=>exact ⟨0,none,0,Nat.zero_le _,rfl,rfl,Acc.start _ _ _⟩
 case round =>
  obtain ⟨k,E,c',hk,rfl,rfl,hacc⟩:=hrel
  by_cases hlt:k < n
  ·have hkq:k < ps.length:=by have:=HN.out;omega
   have HS:=Lib.hid (HSN.out k hkq)
   obtain ⟨bx,ox,rfl,hg⟩:=row_prt (HXR.out.below (HX1.out.trans hacc.ext) (Nat.le_refl _)) hkq
   have HA:=Lib.hid hacc
   have k5:=Ext.cell_ hacc.ext K5.out
   generalize itsV ((ps.take k).map (prtI r))=out at *
   generalize ps[k]=x at *
   obtain ⟨sg,t⟩:=x
   have c0:wr.cell? ⟨bx,ox+k * 2,none⟩=some (.bool sg):=hg 0 _ rfl
   have c1:wr.cell? ⟨bx,ox+k * 2+1,none⟩=some (.string ⟨t.toArray⟩):=hg 1 _ rfl
   have i1:(k:Int) < (n:Int):=by omega
   clear hacc hg
   cases sg
   ·have HS2:Hid (itsV ((ps.take (k+1)).map (prtI r))=out++[.int .i64 0,.string ⟨t.toArray⟩,.int .i64 (-1)]):=Lib.hid (by rw [HS.out,HTX.out])
    go_wp2_with (at_builtin;refine wp_app ei_ri rfl (.tmp 25) (.tmp 32) rfl w1 _ E c' k _ rfl HA.out [.int .i64 0,.string ⟨t.toArray⟩,.int .i64 (-1)] 1 1 rfl rfl (by simp [Value.oneCell']) (by omega) (by unfold maxLen;omega) ?_;intro A1 c1 w5 hA5 _ _)
    exact ⟨⟨k+1,A1,c1,by omega,by go_num,rfl,by rw [HS2.out];exact hA5⟩,by simp [intOf];omega⟩
   ·have HS2:Hid (itsV ((ps.take (k+1)).map (prtI r))=out++[.int .i64 1,.string ⟨r.minus.toArray⟩,.int .i64 (-1)]):=Lib.hid (by rw [HS.out,HMN.out])
    go_wp2_with (at_builtin;refine wp_app ei_ri rfl (.tmp 18) (.tmp 23) rfl w1 _ E c' k _ rfl HA.out [.int .i64 1,.string ⟨r.minus.toArray⟩,.int .i64 (-1)] 1 1 rfl rfl (by simp [Value.oneCell']) (by omega) (by unfold maxLen;omega) ?_;intro A1 c1 w5 hA5 _ _)
    exact ⟨⟨k+1,A1,c1,by omega,by go_num,rfl,by rw [HS2.out];exact hA5⟩,by simp [intOf];omega⟩
  ·have e:k=n:=by omega
   subst e
   rw [HALL.out] at hacc
   have i1:¬ ((k:Int) < (k:Int)):=by omega
   go_wp2
   go_ret
   exact ⟨E,c',rfl,hacc.base HX1.out⟩
set_option maxRecDepth 512
structure Knd (r:Rec) (p:Pt):Prop where
 both:Both r p
 num:0≤p.num.prim∧p.num.prim≤100∧0≤p.num.sec∧p.num.sec≤100
theorem Kin.knd {r:Rec} {p:Pt} (h:Kin r p):Knd r p:=⟨h.both,h.num⟩
theorem acc_box_ne {e sz:Nat} {w0 w:World} {A:Option Addr} {c n:Nat} {cs:List Value} (h:Acc e sz w0 w A c n cs) {b:Nat} {T:TypeId} {ds:List Value} (hb:Box w b T ds) (hT:T ≠ e):some b ≠ Value.ownBlock (.slice A n c):=by
 rcases h.own.2 with ⟨hv,_⟩ | ⟨g,cap,cur,hv,_,hg,_⟩
 ·rw [hv];simp [Value.ownBlock]
 ·rw [hv]
  intro e1
  simp only [Value.ownBlock,Option.some.injEq] at e1
  subst e1
  unfold Box at hb
  rw [hg] at hb
  injection hb with hb
  injection hb with _ h2 _
  exact hT h2.symm
theorem setCell_grown (w:World) (b j:Nat) (v:Value):w.grownBy (w.setCell ⟨b,j,none⟩ v) (some b):=⟨rfl,rfl,rfl,by simp [World.setCell],fun k _ hk=>Below.heap_setCell _ _ _ _ (fun e=>hk (by simp [e]))⟩
end Go.Proofs.YtcghgkagpkmpeaaGreatDoor.Loc
namespace Go.Proofs.YtcghgkagpkmpeaaGreatDoor.Ends
open Go.RowKit
theorem ret_int {k:IntKind} {a b:Int} (h:a=b):Ending.returned (.int k a)=.returned (.int k b):=by rw [h]
theorem ret_bool {a b:Bool} (h:a=b):Ending.returned (.bool a)=.returned (.bool b):=by rw [h]
def aroundF (n m:Int):Int:=(if n < 0 then -(n+1) else n) % m
theorem around (n m:Int) (w:World) (h1:-9223372036854775808≤n) (h2:n≤9223372036854775807) (hm:1≤m) (hm2:m≤9223372036854775807) :
  Calls Tryz.prog 15 #[.int .i64 n,.int .i64 m] w fun e w'=>e=.returned (.int .i64 (aroundF n m))∧w=w':=by
 by_cases hn:n < 0
 ·go_enter Tryz.func15,Tryz.ntmps15
  go_wp2
  go_ret
  refine ⟨ret_int ?_,rfl⟩
  rw [aroundF,if_pos hn,← Int.neg_tmod]
  exact Int.tmod_eq_emod_of_nonneg (by omega)
 ·have hn':0≤n:=by omega
  go_enter Tryz.func15,Tryz.ntmps15
  go_wp2
  go_ret
  refine ⟨ret_int ?_,rfl⟩
  rw [aroundF,if_neg (by omega)]
theorem aroundF_bd (n m:Int) (hm:1≤m):0≤aroundF n m∧aroundF n m < m:=⟨Int.emod_nonneg _ (by omega),Int.emod_lt_of_pos _ (by omega)⟩
theorem item_ends (l p s:Int) (w:World) (h2:l≤9223372036854775807) (hp2:p≤9223372036854775807) (hs2:s≤9223372036854775807) :
  Calls Tryz.prog 96 #[.int .i64 l,.int .i64 p,.int .i64 s] w fun e w'=>e=.returned (.bool (itemEnds l p s))∧w=w':=by
 go_enter Tryz.func96,Tryz.ntmps96
 go_wp2
 all_goals
  go_ret
  refine ⟨ret_bool ?_,rfl⟩
  unfold itemEnds
 ·rw [if_pos (by omega)]
 ·rename_i h;rw [if_neg (by omega),if_pos (by simpa using h)]
 ·rename_i h _;rw [if_neg (by omega),if_neg (by simpa using h),if_pos (by omega)];rfl
 ·rename_i h _;rw [if_neg (by omega),if_neg (by simpa using h),if_neg (by omega)]
 ·rw [if_pos (by omega)]
 ·rw [if_pos (by omega)]
theorem ends_step (l n s:Int) (h:n < l) (hs:0 < s) (hn:1≤n):itemEnds l (n+s) s=itemEnds l n s:=by
 unfold itemEnds
 rw [if_neg (by omega:¬ (l < 1∨n < 1∨l < n)),if_neg (by omega:¬ l=n),if_pos hs,if_pos hs]
 by_cases h1:l < n+s
 ·rw [if_pos (by omega)]
  symm
  rw [decide_eq_false_iff_not,Int.emod_eq_of_lt (by omega) (by omega)]
  omega
 ·rw [if_neg (by omega)]
  have e:l - (n+s)=l - n - s:=by omega
  by_cases h2:l=n+s
  ·rw [if_pos h2]
   symm
   rw [decide_eq_true_iff,show l - n=s by omega,Int.emod_self]
  ·rw [if_neg h2,e,Int.sub_emod_right]
theorem ref_ends (l p s:Int) (w:World) (h2:l≤1000000000) (hp2:p≤1000000000) (hs2:s≤1000000000) :
  Calls Tryz.prog 58 #[.int .i64 l,.int .i64 p,.int .i64 s] w fun e w'=>e=.returned (.bool (itemEnds l p s))∧w=w':=by
 by_cases hl:l < 1
 ·go_enter Tryz.func58,Tryz.ntmps58
  go_wp2
  go_ret
  exact ⟨ret_bool (by unfold itemEnds;rw [if_pos (by omega)]),rfl⟩
 by_cases hp:p < 1
 ·go_enter Tryz.func58,Tryz.ntmps58
  go_wp2
  go_ret
  exact ⟨ret_bool (by unfold itemEnds;rw [if_pos (by omega)]),rfl⟩
 have hl':1≤l:=by omega
 have hp':1≤p:=by omega
 clear hl hp
 go_enter Tryz.func58,Tryz.ntmps58
 go_wp2
 go_loop [7] (fun t=>∃ n:Int,1≤n∧n≤2000000000∧itemEnds l n s=itemEnds l p s∧t=.int .i64 n) (fun t=>(l - intOf t).toNat)
 case atStart=>exact ⟨p,hp',by omega,rfl,rfl⟩
 case round =>
  obtain ⟨n,hn1,hn2,he,rfl⟩:=hrel
  have HE:=Lib.hid he
  clear he
  by_cases hc:n < l
  ·by_cases hs:0 < s
   ·go_wp2
    go_round
    case rel=>exact ⟨n+s,by omega,by omega,by rw [ends_step l n s hc hs hn1,HE.out],rfl⟩
    case measure=>simp [intOf];omega
   ·go_wp2
    go_ret
    refine ⟨ret_bool ?_,rfl⟩
    rw [← HE.out]
    unfold itemEnds
    rw [if_neg (by omega),if_neg (by omega),if_neg (by omega)]
    simp;omega
  ·go_wp2
   go_ret
   refine ⟨ret_bool ?_,rfl⟩
   rw [← HE.out]
   unfold itemEnds
   by_cases h:l < n
   ·rw [if_pos (by omega)];simp;omega
   ·rw [if_neg (by omega),if_pos (by omega)];simp;omega
end Go.Proofs.YtcghgkagpkmpeaaGreatDoor.Ends
namespace Go.Proofs.YtcghgkagpkmpeaaGreatDoor.Loc
open Go.RowKit Utf All Small Strs Build EncC Pat Cls Dec Go.Proofs.YtcghgkagpkmpeaaGreatDoor.Sys
theorem infoD:(Tryz.prog.info? 55).map (·.size)=some 4:=by kernel_rfl
theorem ints_len2 (l:Loc) (xs:List Int):∀ k,(intsTo l xs k).length≤2 * k
 | 0=>by simp [intsTo]
 | k+1=>by
  have:=ints_len2 l xs k
  rw [intsTo_succ,List.length_append]
  have hg:(grpAt l ((xs.length:Int) - 1 - k)).length≤1:=by unfold grpAt;split <;> simp
  unfold intF
  simp only [List.length_cons];omega
set_option maxRecDepth 100000
theorem item_items5 (g:Nat) (A B C D X Y:Option Addr) (c d a b cx cy:Nat) (dr:Dr) (l:Loc) (w:World) (h:LocR w g A B C D c d a b l) (hb:LocB l) (hn:0≤l.p.num.prim∧l.p.num.prim≤100∧0≤l.p.num.sec∧l.p.num.sec≤100)
  (hd:DrR w X Y dr) (hi:dr.int.length≤5000) (hf:dr.frac.length≤5000) :
  Calls Tryz.prog 53 #[.pointer (some ⟨g,0,none⟩),.agg (drV X cx Y cy dr).toArray] w fun e w'=>∃ E c',e=.returned (.slice E (itemsF l dr).length c')∧Acc 77 3 w w' E c' (itemsF l dr).length (itsV (itemsF l dr)):=by
 have HL:=Lib.hid h
 have HD:=Lib.hid hd
 have hpb:∀ q ∈ affs l,q.length≤1000:=hb.len
 have hla:(ahead l dr.neg).length≤1000:=Nat.le_trans (parts_len _ _) (by cases dr.neg;exact hpb _ (by simp [affs]);exact hpb _ (by simp [affs]))
 have hlb:(behind l dr.neg).length≤1000:=Nat.le_trans (parts_len _ _) (by cases dr.neg;exact hpb _ (by simp [affs]);exact hpb _ (by simp [affs]))
 have HAR:Hid (∀ W,Ext w W→Calls Tryz.prog 46 #[.pointer (some ⟨g,0,none⟩),.bool dr.neg] W fun e w'=>∃ E c1 F c2,e=.returned (.tuple #[.slice E (ahead l dr.neg).length c1,.slice F (behind l dr.neg).length c2])∧Row w' E (prtV (ahead l dr.neg))∧Row w' F (prtV (behind l dr.neg))∧Okc E c1∧Okc F c2∧Ext W w'):=Lib.hid fun W hW=>around_l g A B C D c d a b dr.neg l W (HL.out.ext hW) hb
 have HSZ:Hid (∀ W,Ext w W→Calls Tryz.prog 94 #[.pointer (some ⟨g,0,none⟩)] W fun e w'=>e=.returned (.tuple #[.int .i64 l.p.num.prim,.int .i64 l.p.num.sec])∧Ext W w'):=Lib.hid fun W hW=>sizes_l g A B C D c d a b l W (HL.out.ext hW)
 have HPA:Hid (∀ W X n k0 ps,Ext w W→Row W X (prtV ps)→ps.length=n→n≤2000→Calls Tryz.prog 101 #[.pointer (some ⟨g,0,none⟩),.slice X n k0] W fun e w'=>∃ E c',e=.returned (.slice E n c')∧Acc 77 3 W w' E c' n (itsV (ps.map (prtI l.r)))):=Lib.hid fun W X n k0 ps hW hX hps hle=>item_parts g A B C D X c d a b n k0 ps l W (HL.out.ext hW) hX hps hle
 have HDG:Hid (∀ W x,Ext w W→Calls Tryz.prog 102 #[.pointer (some ⟨g,0,none⟩),.int .i64 x] W fun e w'=>e=.returned (.string ⟨(digZ l x).toArray⟩)∧Ext W w'):=Lib.hid fun W x hW=>digit_l g A B C D c d a b x l W (HL.out.ext hW) hb.ten
 have HRC:Hid (∀ W,Ext w W→Calls Tryz.prog 92 #[.pointer (some ⟨g,0,none⟩)] W fun e w'=>e=.returned (.agg ([.string ⟨l.r.name.toArray⟩,.string ⟨l.r.pattern.toArray⟩,.string ⟨l.r.system.toArray⟩,.string ⟨l.r.decimal.toArray⟩,.string ⟨l.r.group.toArray⟩,.string ⟨l.r.minus.toArray⟩,.string ⟨l.r.percent.toArray⟩,.string ⟨l.r.currency.toArray⟩]:List Value).toArray)∧Ext W w'):=Lib.hid fun W hW=>record_l g A B C D c d a b l W (HL.out.ext hW)
 have HI:Hid (∀ k,intsTo l dr.int (k+1)=intsTo l dr.int k++(digI l (dr.int.getD k 0) k :: grpAt l ((dr.int.length:Int) - 1 - k))):=Lib.hid fun k=>intsTo_succ l dr.int k
 have HI0:Hid (intsTo l dr.int 0=[]):=Lib.hid rfl
 have HF:Hid (∀ k,fracTo l dr.int.length dr.frac (k+1)=fracTo l dr.int.length dr.frac k++[digI l (dr.frac.getD k 0) ((dr.int.length:Int)+1+k)]):=Lib.hid fun k=>fracTo_succ l dr.int.length dr.frac k
 have HF0:Hid (fracTo l dr.int.length dr.frac 0=[]):=Lib.hid rfl
 have HLI:Hid (∀ k,(intsTo l dr.int k).length≤2 * k):=Lib.hid fun k=>ints_len2 l dr.int k
 have HLF:Hid (∀ k,(fracTo l dr.int.length dr.frac k).length=k):=Lib.hid fun k=>fracTo_len l dr.int.length dr.frac k
 have HGR:Hid (∀ z,grpAt l z=if Ends.itemEnds z l.p.num.prim l.p.num.sec then [(3,l.r.group,-1)] else []):=Lib.hid fun z=>rfl
 have HDE:Hid (decI l dr=if dr.sep then [(4,l.r.decimal,(dr.int.length:Int))] else []):=Lib.hid rfl
 have HIT:Hid (itemsF l dr=(((ahead l dr.neg).map (prtI l.r)++intsTo l dr.int dr.int.length)++decI l dr++fracTo l dr.int.length dr.frac dr.frac.length)++(behind l dr.neg).map (prtI l.r)):=Lib.hid (by unfold itemsF midF;simp only [List.append_assoc])
 have b1:=Box.new w 55 (drV X cx Y cy dr)
 have hx1:Ext w (w.alloc (.cells (drV X cx Y cy dr).toArray 55)):=Ext.alloc_ (Ext.refl w) _
 have k0:=b1.cell (j:=0) (v:=.bool dr.neg) rfl
 have HX1:=Lib.hid hx1
 have HB1:=Lib.hid b1
 clear h hd hb hpb b1 hx1
 go_enter Tryz.func53,Tryz.ntmps53
 go_upto_region 1 with fail
 change Code.wp _ _ _ _ (w.alloc (.cells (drV X cx Y cy dr).toArray 55))
 generalize w.alloc (.cells (drV X cx Y cy dr).toArray 55)=w1 at *
 generalize w.heap.size=db at *
 generalize ahead l dr.neg=PA at *
 generalize behind l dr.neg=PB at *
 generalize decI l dr=DE at *
 generalize HT:itemsF l dr=IT at *
 have HTT:=Lib.hid HT
 clear HT
 obtain ⟨neg,xs,sep,ys⟩:=dr
 simp only at *
 go_upto_region 4 with (first
  | (go_at_call 46;with_reducible refine (HAR.out _ HX1.out).mono ?_;rintro e w2 ⟨E1,c1,F1,c2,rfl,hE1,hF1,oE1,oF1,hx2⟩)
  | (go_at_call 94;with_reducible refine (HSZ.out _ (HX1.out.trans hx2)).mono ?_;rintro e w3 ⟨rfl,hx3⟩)
  | (go_at_call 101;with_reducible refine (HPA.out _ _ _ _ PA (HX1.out.trans (hx2.trans hx3)) (hE1.below hx3 (Nat.le_refl _)) rfl (by omega)).mono ?_;rintro e w4 ⟨E4,c4,rfl,hA4⟩))
 have HX3:=Lib.hid (hx2.trans hx3)
 have HF3:=Lib.hid (hF1.below hx3 (Nat.le_refl _))
 have k1:=(HB1.out.ext (HX3.out.trans hA4.ext)).cell (j:=1) (v:=.slice X xs.length cx) rfl
 have HA4:=Lib.hid hA4
 have HW3:=Lib.hid (HX1.out.trans HX3.out)
 clear hE1 hF1 oE1 oF1 hx2 hx3 hA4 HAR HSZ k0
 generalize hna:PA.length=na at *
 have HNA:=Lib.hid hna
 clear hna
 generalize hPV:PA.map (prtI l.r)=PV at *
 have HPV:=Lib.hid hPV
 clear hPV
 go_upto_region 6 with fail
 go_wp2
 go_loopw [9,11,32] (fun v _ i wr=>∃ (k:Nat) (E:Option Addr) (c' m:Nat),k≤xs.length∧i=.int .i64 k∧v=.slice E m c'∧m=na+(intsTo l xs k).length∧Acc 77 3 w3 wr E c' m (itsV (PV++intsTo l xs k))) (fun _ _ i _=>xs.length - (intOf i).toNat)
 case atStart=>exact ⟨0,E4,c4,na,Nat.zero_le _,rfl,rfl,by rw [HI0.out];rfl,by rw [HI0.out,List.append_nil];exact HA4.out⟩
 case round =>
  obtain ⟨k,E,c',m,hk,rfl,rfl,hm,hacc⟩:=hrel
  have hml:=HLI.out k
  by_cases hlt:k < xs.length
  ·have k1r:=(HB1.out.ext (HX3.out.trans hacc.ext)).cell (j:=1) (v:=.slice X xs.length cx) rfl
   obtain ⟨bx,ox,rfl,hc⟩:=row_ints (HD.out.int.below (HW3.out.trans hacc.ext) (Nat.le_refl _)) hlt
   have HA:=Lib.hid hacc
   have hxw:=HW3.out.trans hacc.ext
   have HS:=Lib.hid (HI.out k)
   have HM:=Lib.hid hm
   generalize xs.getD k 0=x at *
   have i1:(k:Int) < (xs.length:Int):=by omega
   have i2:(0:Int)≤(k:Int):=by omega
   clear hacc hm
   have hm2:m≤20000:=by have:=HM.out;omega
   cases he:Ends.itemEnds ((xs.length:Int) - 1 - k) l.p.num.prim l.p.num.sec
   ·have HE:=Lib.hid he
    clear he
    have HS2:Hid (itsV (PV++intsTo l xs (k+1))=itsV (PV++intsTo l xs k)++[.int .i64 2,.string ⟨(digZ l x).toArray⟩,.int .i64 k]∧m+1=na+(intsTo l xs (k+1)).length):=Lib.hid (by
     rw [HS.out,HGR.out,HE.out,← List.append_assoc,its_app,List.length_append]
     exact ⟨rfl,by have:=HM.out;simp;omega⟩)
    generalize itsV (PV++intsTo l xs k)=T1 at *
    go_wp2_with (first
     | (go_at_call 102;with_reducible refine (HDG.out _ x hxw).mono ?_;rintro e w8 ⟨rfl,hx8⟩;have HA8:=Lib.hid (HA.out.step hx8))
     | (at_builtin;refine wp_app ei_it rfl (.tmp 35) (.tmp 45) rfl w3 _ E c' m _ rfl HA8.out [.int .i64 2,.string ⟨(digZ l x).toArray⟩,.int .i64 k] 1 1 rfl rfl (by simp [Value.oneCell']) (by omega) (by unfold maxLen;omega) ?_;intro A1 c1 w9 hA9 _ _;have HA9:=Lib.hid hA9)
     | (go_at_call 96;refine (Ends.item_ends _ _ _ _ (by omega) (by omega) (by omega)).mono ?_;rintro e w10 ⟨rfl,rfl⟩;rw [HE.out]))
    exact ⟨⟨k+1,A1,c1,m+1,by omega,by go_num,rfl,HS2.out.2,by rw [HS2.out.1];exact HA9.out⟩,by simp [intOf];omega⟩
   ·have HE:=Lib.hid he
    clear he
    have HS2:Hid (itsV (PV++intsTo l xs (k+1))=itsV (PV++intsTo l xs k)++[.int .i64 2,.string ⟨(digZ l x).toArray⟩,.int .i64 k]++[.int .i64 3,.string ⟨l.r.group.toArray⟩,.int .i64 (-1)]∧m+1+1=na+(intsTo l xs (k+1)).length):=Lib.hid (by
     rw [HS.out,HGR.out,HE.out,← List.append_assoc,its_app,List.length_append]
     refine ⟨?_,by have:=HM.out;simp;omega⟩
     rw [List.append_assoc];rfl)
    generalize itsV (PV++intsTo l xs k)=T1 at *
    go_wp2_with (first
     | (go_at_call 102;with_reducible refine (HDG.out _ x hxw).mono ?_;rintro e w8 ⟨rfl,hx8⟩;have HA8:=Lib.hid (HA.out.step hx8))
     | (at_builtin;refine wp_app ei_it rfl (.tmp 35) (.tmp 45) rfl w3 _ E c' m _ rfl HA8.out [.int .i64 2,.string ⟨(digZ l x).toArray⟩,.int .i64 k] 1 1 rfl rfl (by simp [Value.oneCell']) (by omega) (by unfold maxLen;omega) ?_;intro A1 c1 w9 hA9 _ _;have HA9:=Lib.hid hA9)
     | (go_at_call 96;refine (Ends.item_ends _ _ _ _ (by omega) (by omega) (by omega)).mono ?_;rintro e w10 ⟨rfl,rfl⟩;rw [HE.out])
     | (go_at_call 92;with_reducible refine (HRC.out _ (HW3.out.trans HA9.out.ext)).mono ?_;rintro e w11 ⟨rfl,hx11⟩;have HA11:=Lib.hid (HA9.out.step hx11))
     | (rw [run_field4];simp only [Result.andThen];rw [Oper.upon_value])
     | (at_builtin;refine wp_app ei_it rfl (.tmp 54) (.tmp 59) rfl w3 _ A1 c1 (m+1) _ rfl HA11.out [.int .i64 3,.string ⟨l.r.group.toArray⟩,.int .i64 (-1)] 1 1 rfl rfl (by simp [Value.oneCell']) (by omega) (by unfold maxLen;omega) ?_;intro A2 c2 w12 hA12 _ _;have HA12:=Lib.hid hA12))
    exact ⟨⟨k+1,A2,c2,m+1+1,by omega,by go_num,rfl,HS2.out.2,by rw [HS2.out.1];exact HA12.out⟩,by simp [intOf];omega⟩
  ·have e:k=xs.length:=by omega
   subst e
   have i1:¬ ((xs.length:Int) < (xs.length:Int)):=by omega
   have HA:=Lib.hid hacc
   have HM:=Lib.hid hm
   have hm2:m≤20000:=by omega
   have k2:=(HB1.out.ext (HX3.out.trans hacc.ext)).cell (j:=2) (v:=.bool sep) rfl
   have hxw:=HW3.out.trans hacc.ext
   clear hacc hm
   generalize PV++intsTo l xs xs.length=T1 at *
   go_upto_if 63 with fail
   go_cut [9] (fun v wx=>∃ (E:Option Addr) (c' m':Nat),v=.slice E m' c'∧m'=m+DE.length∧m'≤20001∧Acc 77 3 w3 wx E c' m' (itsV (T1++DE)))
   case first =>
    cases sep
    ·have HDX:Hid (DE=[]):=Lib.hid (by rw [HDE.out];rfl)
     go_wp2_with fail
     go_meet
     exact ⟨E,c',m,rfl,by rw [HDX.out];rfl,by omega,by rw [HDX.out,List.append_nil];exact HA.out⟩
    ·have HDX:Hid (DE=[(4,l.r.decimal,(xs.length:Int))]):=Lib.hid (by rw [HDE.out];rfl)
     go_wp2_with (first
      | (go_at_call 92;with_reducible refine (HRC.out _ hxw).mono ?_;rintro e w11 ⟨rfl,hx11⟩;have HA11:=Lib.hid (HA.out.step hx11))
      | (rw [run_field3];simp only [Result.andThen];rw [Oper.upon_value])
      | (at_builtin;refine wp_app ei_it rfl (.tmp 64) (.tmp 70) rfl w3 _ E c' m _ rfl HA11.out [.int .i64 4,.string ⟨l.r.decimal.toArray⟩,.int .i64 xs.length] 1 1 rfl rfl (by simp [Value.oneCell']) (by omega) (by unfold maxLen;omega) ?_;intro A2 c2 w12 hA12 _ _;have HA12:=Lib.hid hA12))
     go_meet
     exact ⟨A2,c2,m+1,rfl,by rw [HDX.out];rfl,by omega,by rw [HDX.out,its_app];exact HA12.out⟩
   case rest =>
    obtain ⟨E2,c2,m2,rfl,hm2',hm22,hA2⟩:=hcut
    have HM2:=Lib.hid hm2'
    have k3:=(HB1.out.ext (HX3.out.trans hA2.ext)).cell (j:=3) (v:=.slice Y ys.length cy) rfl
    have HA2:=Lib.hid hA2
    clear hA2 hm2' k2 HA
    generalize T1++DE=T2 at *
    go_upto_region 15 with fail
    go_wp2
    go_loopw [9,12,75] (fun v _ i wr=>∃ (k:Nat) (E:Option Addr) (c':Nat),k≤ys.length∧i=.int .i64 k∧v=.slice E (m2+k) c'∧Acc 77 3 w3 wr E c' (m2+k) (itsV (T2++fracTo l xs.length ys k))) (fun _ _ i _=>ys.length - (intOf i).toNat)
    case atStart=>exact ⟨0,E2,c2,Nat.zero_le _,rfl,rfl,by rw [HF0.out,List.append_nil];exact HA2.out⟩
    case round =>
     obtain ⟨k,E,c',hk,rfl,rfl,hacc⟩:=hrel
     by_cases hlt:k < ys.length
     ·have k3r:=(HB1.out.ext (HX3.out.trans hacc.ext)).cell (j:=3) (v:=.slice Y ys.length cy) rfl
      obtain ⟨bx,ox,rfl,hc⟩:=row_ints (HD.out.frac.below (HW3.out.trans hacc.ext) (Nat.le_refl _)) hlt
      have HA:=Lib.hid hacc
      have hxw:=HW3.out.trans hacc.ext
      have HS:=Lib.hid (HF.out k)
      generalize ys.getD k 0=x at *
      have i1:(k:Int) < (ys.length:Int):=by omega
      have i2:(0:Int)≤(k:Int):=by omega
      clear hacc k3
      have HS2:Hid (itsV (T2++fracTo l xs.length ys (k+1))=itsV (T2++fracTo l xs.length ys k)++[.int .i64 2,.string ⟨(digZ l x).toArray⟩,.int .i64 ((xs.length:Int)+1+k)]):=Lib.hid (by
       rw [HS.out,← List.append_assoc,its_app];rfl)
      generalize itsV (T2++fracTo l xs.length ys k)=T3 at *
      go_wp2_with (first
       | (go_at_call 102;with_reducible refine (HDG.out _ x hxw).mono ?_;rintro e w8 ⟨rfl,hx8⟩;have HA8:=Lib.hid (HA.out.step hx8))
       | (at_builtin;refine wp_app ei_it rfl (.tmp 78) (.tmp 91) rfl w3 _ E c' (m2+k) _ rfl HA8.out [.int .i64 2,.string ⟨(digZ l x).toArray⟩,.int .i64 ((xs.length:Int)+1+k)] 1 1 rfl rfl (by simp [Value.oneCell']) (by omega) (by unfold maxLen;omega) ?_;intro A1 c1 w9 hA9 _ _;have HA9:=Lib.hid hA9))
      exact ⟨⟨k+1,A1,c1,by omega,by go_num,rfl,by rw [HS2.out];exact HA9.out⟩,by simp [intOf];omega⟩
     ·have e:k=ys.length:=by omega
      subst e
      have i1:¬ ((ys.length:Int) < (ys.length:Int)):=by omega
      have HA:=Lib.hid hacc
      have hxw:=HW3.out.trans hacc.ext
      have hrF:=HF3.out.below hacc.ext (Nat.le_refl _)
      have HIT2:Hid (IT=(T2++fracTo l xs.length ys ys.length)++PB.map (prtI l.r)):=Lib.hid (HIT.out)
      have HLT:Hid (IT.length=m2+ys.length+PB.length):=Lib.hid (by
       have h1:=HA.out.len
       rw [its_len] at h1
       rw [HIT2.out,List.length_append,List.length_map];omega)
      clear hacc
      generalize T2++fracTo l xs.length ys ys.length=T3 at *
      go_wp2_with (first
       | (go_at_call 101;with_reducible refine (HPA.out _ _ _ _ PB hxw hrF rfl (by omega)).mono ?_;rintro e w6 ⟨F6,c6,rfl,hA6⟩;have HA6:=Lib.hid hA6;have HB6:=Lib.hid (HA.out.step hA6.ext))
       | (at_builtin;refine wp_src ei_it rfl (.tmp 94) (.tmp 97) rfl w3 _ E c' (m2+ys.length) _ rfl HB6.out F6 PB.length c6 (itsV (PB.map (prtI l.r))) rfl HA6.out.row (Acc.okc HA6.out) HA6.out.len (its_oneCell _) (by omega) (by unfold maxLen;omega) ?_;intro A9 c9 w9 hA9 _))
      go_ret
      exact ⟨A9,c9,by rw [HTT.out,HLT.out];first | done | rfl,by rw [HTT.out,HLT.out,HIT2.out,its_app];exact hA9.base HW3.out⟩
set_option maxRecDepth 512
theorem infoD14:(Tryz.prog.info? 43).map (·.size)=some 4:=by kernel_rfl
theorem ints_one (xs:List Int):∀ u ∈ xs.map (Value.int .i64),u.oneCell'=true:=by
 intro u hu
 obtain ⟨x,_,rfl⟩:=List.mem_map.1 hu
 rfl
theorem ints_apart {w:World} {b:Nat} {T:TypeId} {cs:List Value} {A:Option Addr} {xs:List Int} (hb:Box w b T cs) (hr:Row w A (xs.map (Value.int .i64))) (hno:∀ v ∈ cs,isInt v=false) {w':World}
  (hw:∀ k off,k ≠ b→w'.cell? ⟨k,off,none⟩=w.cell? ⟨k,off,none⟩):Row w' A (xs.map (Value.int .i64)):=by
 rcases hr with h | ⟨b',off,rfl,hc⟩
 ·exact .inl h
 ·cases xs with
  | nil=>exact .inl rfl
  | cons x r =>
   have hne:b' ≠ b:=by
    intro e
    subst e
    have h0:=hc 0 (.int .i64 x) rfl
    rw [cell_of_row w b' _ _ T (0,0) hb,List.getElem?_toArray] at h0
    have:=hno _ (List.mem_of_getElem? h0)
    simp [isInt] at this
   exact .inr ⟨b',off,rfl,fun j v hv=>(hw _ _ hne).trans (hc j v hv)⟩
theorem ints_setRow {w:World} {b:Nat} {T:TypeId} {cs:List Value} {A:Option Addr} {xs:List Int} (hb:Box w b T cs) (hr:Row w A (xs.map (Value.int .i64))) (hno:∀ v ∈ cs,isInt v=false) (ds:Array Value):Row (w.setRow b ds) A (xs.map (Value.int .i64)) :=
 ints_apart hb hr hno fun k _ hk=>World.cell?_of_block (setRow_other w b k ds hk)
theorem ints_setCell {w:World} {b:Nat} {T:TypeId} {cs:List Value} {A:Option Addr} {xs:List Int} (hb:Box w b T cs) (hr:Row w A (xs.map (Value.int .i64))) (hno:∀ v ∈ cs,isInt v=false) (j:Nat) (v:Value):Row (w.setCell ⟨b,j,none⟩ v) A (xs.map (Value.int .i64)) :=
 ints_apart hb hr hno fun k _ hk=>World.cell?_of_block (heap_setCell_other w _ k v hk)
set_option maxRecDepth 100000
theorem ref05_good (A:Option Addr) (n c:Nat) (xs:List Int) (m:Nat) (w:World) (hr:Row w A (xs.map (Value.int .i64))) (hn:xs.length=n) (hm:m≤100) (hx:∀ x ∈ xs,i64 x) :
  Calls Tryz.prog 41 #[.slice A n c,.int .i64 (m:Int)] w fun e w'=>∃ E c',e=.returned (.slice E (goodL xs m).length c')∧Acc 3 1 w w' E c' (goodL xs m).length ((goodL xs m).map (Value.int .i64)):=by
 have HR:=Lib.hid hr
 have HN:=Lib.hid hn
 have HX:=Lib.hid hx
 have HSN:Hid (∀ k (hk:k < xs.length),((xs.take (k+1)).map (fun x=>aroundF x 10)).map (Value.int .i64)=((xs.take k).map (fun x=>aroundF x 10)).map (Value.int .i64)++[.int .i64 (aroundF xs[k] 10)]):=Lib.hid fun k hk=>by
  rw [goodL_snoc xs hk,List.map_append];rfl
 have HEND:Hid (∀ k,k≤xs.length→k≤m→(k=xs.length∨k=m)→goodL xs m=(xs.take k).map (fun x=>aroundF x 10)∧(goodL xs m).length=k):=Lib.hid fun k h1 h2 h3=>by
  have e:goodL xs m=(xs.take k).map (fun x=>aroundF x 10):=by
   unfold goodL
   rcases h3 with h3 | h3
   ·rw [List.take_of_length_le (by omega),List.take_of_length_le (by omega)]
   ·rw [h3]
  exact ⟨e,by rw [e,List.length_map,List.length_take];omega⟩
 clear hr hn hx
 go_enter Tryz.func41,Tryz.ntmps41
 go_wp2
 go_loopw [5,6] (fun v i wr=>∃ (k:Nat) (E:Option Addr) (c':Nat),k≤n∧k≤m∧i=.int .i64 k∧v=.slice E k c'∧Acc 3 1 w wr E c' k (((xs.take k).map (fun x=>aroundF x 10)).map (Value.int .i64))) (fun _ i _=>n - (intOf i).toNat)
 case atStart=>exact ⟨0,none,0,Nat.zero_le _,Nat.zero_le _,rfl,rfl,Acc.start _ _ _⟩
 case round =>
  obtain ⟨k,E,c',hk,hkm,rfl,rfl,hacc⟩:=hrel
  have HA:=Lib.hid hacc
  by_cases hlt:k < n
  ·have i1:(k:Int) < (n:Int):=by omega
   by_cases hlt2:k < m
   ·have i2:(k:Int) < (m:Int):=by omega
    have hkq:k < xs.length:=by have:=HN.out;omega
    have HS:=Lib.hid (HSN.out k hkq)
    obtain ⟨bx,ox,rfl,hc⟩:=row_ints (HR.out.below hacc.ext (Nat.le_refl _)) hkq
    have hxx:=HX.out _ (List.getElem_mem hkq)
    have hgd:xs.getD k 0=xs[k]:=by rw [List.getD_eq_getElem?_getD,List.getElem?_eq_getElem hkq];rfl
    rw [hgd] at hc
    generalize ((xs.take k).map (fun x=>aroundF x 10)).map (Value.int .i64)=out at *
    clear hgd
    generalize xs[k]=x at *
    obtain ⟨hx1,hx2⟩:=hxx
    have i3:(0:Int)≤(k:Int):=by omega
    clear hacc
    go_wp2_with (first
     | (go_at_call 15;refine (around _ _ _ hx1 hx2 (by omega) (by omega)).mono ?_;rintro e w5 ⟨rfl,rfl⟩)
     | (at_builtin;refine wp_app ei_int rfl (.tmp 18) (.tmp 24) rfl w _ E c' k _ rfl HA.out [.int .i64 (aroundF x 10)] 1 1 rfl rfl (by simp [Value.oneCell']) (by omega) (by unfold maxLen;omega) ?_;intro A1 c1 w6 hA6 _ _))
    exact ⟨⟨k+1,A1,c1,by omega,by omega,by go_num,rfl,by rw [HS.out];exact hA6⟩,by simp [intOf];omega⟩
   ·have i2:¬ ((k:Int) < (m:Int)):=by omega
    obtain ⟨h1,h2⟩:=HEND.out k (by have:=HN.out;omega) hkm (.inr (by omega))
    have HE1:=Lib.hid h1
    have HE2:=Lib.hid h2
    clear h1 h2 hacc
    go_wp2
    go_ret
    exact ⟨E,c',by rw [HE2.out];first | done | rfl,by rw [HE2.out,HE1.out];exact HA.out⟩
  ·have i1:¬ ((k:Int) < (n:Int)):=by omega
   obtain ⟨h1,h2⟩:=HEND.out k (by have:=HN.out;omega) hkm (.inl (by have:=HN.out;omega))
   have HE1:=Lib.hid h1
   have HE2:=Lib.hid h2
   clear h1 h2 hacc
   go_wp2
   go_ret
   exact ⟨E,c',by rw [HE2.out];first | done | rfl,by rw [HE2.out,HE1.out];exact HA.out⟩
set_option maxRecDepth 512
theorem ints_set4 {w:World} {b:Nat} {T:TypeId} {A:Option Addr} {xs:List Int} {v0 v1 v2 v3:Value} (hb:Box w b T [.bool false,.slice none 0 0,.bool false,.slice none 0 0]) (hr:Row w A (xs.map (Value.int .i64))):Row ((((w.setCell ⟨b,0,none⟩ v0).setCell ⟨b,1,none⟩ v1).setCell ⟨b,2,none⟩ v2).setCell ⟨b,3,none⟩ v3) A (xs.map (Value.int .i64)) :=
 ints_apart hb hr (by simp [isInt]) fun k _ hk=>World.cell?_of_block ((heap_setCell_other _ _ k v3 hk).trans ((heap_setCell_other _ _ k v2 hk).trans ((heap_setCell_other _ _ k v1 hk).trans (heap_setCell_other w _ k v0 hk))))
def zeroD:List Value:=[.bool false,.slice none 0 0,.bool false,.slice none 0 0]
theorem box4 {w:World} {b:Nat} {T:TypeId} {v0 v1 v2 v3:Value} (h:Box w b T [v0,v1,v2,v3]):w.cell? ⟨b,0,none⟩=some v0∧w.cell? ⟨b,1,none⟩=some v1∧w.cell? ⟨b,2,none⟩=some v2∧w.cell? ⟨b,3,none⟩=some v3∧w.frozen? ⟨b,0,none⟩=false∧w.frozen? ⟨b,1,none⟩=false∧w.frozen? ⟨b,2,none⟩=false∧w.frozen? ⟨b,3,none⟩=false :=
 ⟨h.cell (j:=0) rfl,h.cell (j:=1) rfl,h.cell (j:=2) rfl,h.cell (j:=3) rfl,h.frozen 0,h.frozen 1,h.frozen 2,h.frozen 3⟩
set_option maxRecDepth 100000
theorem ref14_good (A B:Option Addr) (c e0:Nat) (d:Dr) (m n:Nat) (w:World) (hd:DrR w A B d) (hi:DrI d) (hm:m≤100) (hn:n≤100) :
  Calls Tryz.prog 13 #[.agg (drV A c B e0 d).toArray,.int .i64 (m:Int),.int .i64 (n:Int)] w fun e w'=>∃ A' B' c' e',e=.returned (.agg (drV A' c' B' e' (goodD d m n)).toArray)∧DrR w' A' B' (goodD d m n)∧Okc A' c'∧Okc B' e'∧Ext w w':=by
 have b1:=(Box.new w 43 (drV A c B e0 d)).alloc (.cells zeroD.toArray 43)
 have c1:=Box.new (w.alloc (.cells (drV A c B e0 d).toArray 43)) 43 zeroD
 have hx1:Ext w ((w.alloc (.cells (drV A c B e0 d).toArray 43)).alloc (.cells zeroD.toArray 43)):=Ext.alloc_ (Ext.alloc_ (Ext.refl w) _) _
 have hs1:(w.alloc (.cells (drV A c B e0 d).toArray 43)).heap.size=w.heap.size+1:=by simp
 rw [hs1] at c1
 clear hs1
 obtain ⟨neg,xs,sep,ys⟩:=d
 have HG:Hid (goodD ⟨neg,xs,sep,ys⟩ m n=⟨neg,goodL xs m,sep,if sep then goodL ys n else []⟩):=Lib.hid rfl
 have HG1:Hid (∀ W,Ext w W→Calls Tryz.prog 41 #[.slice A xs.length c,.int .i64 (m:Int)] W fun e w'=>∃ E c',e=.returned (.slice E (goodL xs m).length c')∧Row w' E ((goodL xs m).map (Value.int .i64))∧Okc E c'∧Ext W w'):=Lib.hid fun W hW =>
  (ref05_good A xs.length c xs m W (hd.int.below hW (Nat.le_refl _)) rfl hm hi.int).mono fun e w' ⟨E,c',h1,h2⟩=>⟨E,c',h1,h2.row,Acc.okc h2,h2.ext⟩
 have HG2:Hid (∀ W,Ext w W→Calls Tryz.prog 41 #[.slice B ys.length e0,.int .i64 (n:Int)] W fun e w'=>∃ E c',e=.returned (.slice E (goodL ys n).length c')∧Row w' E ((goodL ys n).map (Value.int .i64))∧Okc E c'∧Ext W w'):=Lib.hid fun W hW =>
  (ref05_good B ys.length e0 ys n W (hd.frac.below hW (Nat.le_refl _)) rfl hn hi.frac).mono fun e w' ⟨E,c',h1,h2⟩=>⟨E,c',h1,h2.row,Acc.okc h2,h2.ext⟩
 have HB1:=Lib.hid b1
 have HC1:=Lib.hid c1
 have HX1:=Lib.hid hx1
 have k0:=b1.cell (j:=0) (v:=.bool neg) rfl
 have k1:=b1.cell (j:=1) (v:=.slice A xs.length c) rfl
 have k2:=b1.cell (j:=2) (v:=.bool sep) rfl
 clear b1 c1 hx1 hd hi
 go_enter Tryz.func13,Tryz.ntmps13
 go_upto_region 1 with fail
 change Code.wp _ _ _ _ ((w.alloc (.cells (drV A c B e0 ⟨neg,xs,sep,ys⟩).toArray 43)).alloc (.cells zeroD.toArray 43))
 generalize (w.alloc (.cells (drV A c B e0 ⟨neg,xs,sep,ys⟩).toArray 43)).alloc (.cells zeroD.toArray 43)=w1 at *
 generalize goodL xs m=X at *
 generalize goodL ys n=Y at *
 go_cut [7] (fun v wx=>∃ p8 E c',v=.pointer (some ⟨p8,0,none⟩)∧Box wx p8 43 [.bool neg,.slice E X.length c',.bool sep,.slice none 0 0]∧Row wx E (X.map (Value.int .i64))∧Okc E c'∧Ext w1 wx∧w1.heap.size≤p8)
 case first =>
  go_region_held3 (fun W=>Ext w1 W∧W.cell? ⟨w.heap.size,0,none⟩=some (.bool neg)∧W.cell? ⟨w.heap.size,1,none⟩=some (.slice A xs.length c)∧W.cell? ⟨w.heap.size,2,none⟩=some (.bool sep))
   ((refine (fun h=>⟨h,Ext.cell_ h k0,Ext.cell_ h k1,Ext.cell_ h k2⟩) ?_;first
    | with_reducible assumption
    | with_reducible exact Ext.drew_ (Ext.refl _)
    | with_reducible exact Ext.drew_ (Ext.alloc_ (Ext.refl _) _)
    | with_reducible exact Ext.alloc_ (by assumption) _
    | exact Ext.setCell_ (Ext.setCell_ (Ext.setCell_ (Ext.setCell_ hE4 hsz _ _) hsz _ _) hsz _ _) hsz _ _))
   (first
    | (go_at_call 41;with_reducible refine (HG1.out w1.drew (Ext.drew_ HX1.out)).mono ?_;rintro e w4 ⟨E,c',rfl,hrE,hoE,hx4⟩;have hE4:=(Ext.drew_ (Ext.refl w1)).trans hx4)
    | (go_at_call 41;with_reducible refine (HG1.out (w1.alloc (Obj.cells #[.bool false,.slice none 0 0,.bool false,.slice none 0 0] 43)).drew (Ext.drew_ (Ext.alloc_ HX1.out _))).mono ?_;rintro e w4 ⟨E,c',rfl,hrE,hoE,hx4⟩;have hE4:=(Ext.drew_ (Ext.alloc_ (Ext.refl w1) (Obj.cells #[.bool false,.slice none 0 0,.bool false,.slice none 0 0] 43))).trans hx4;have hz:Box w4 w1.heap.size 43 [.bool false,.slice none 0 0,.bool false,.slice none 0 0]:=Box.ext (Box.drew (Box.new w1 43 [.bool false,.slice none 0 0,.bool false,.slice none 0 0])) hx4;obtain ⟨z0,z1,z2,z3,f0,f1,f2,f3⟩:=box4 hz;have hsz:w1.heap.size≤w1.heap.size:=Nat.le_refl _))
  all_goals go_wp2_with fail
  all_goals go_meet
  all_goals first
   | exact ⟨_,E,c',rfl,Box.new w4 43 [.bool neg,.slice E X.length c',.bool sep,.slice none 0 0],hrE.below (Ext.alloc_ (Ext.refl _) _) (Nat.le_refl _),hoE,Ext.alloc_ hE4 _,hE4.size⟩
   | exact ⟨_,E,c',rfl,(((hz.setCell 0 (.bool neg)).setCell 1 (.slice E X.length c')).setCell 2 (.bool sep)).setCell 3 (.slice none 0 0),ints_set4 hz hrE,hoE,Ext.setCell_ (Ext.setCell_ (Ext.setCell_ (Ext.setCell_ hE4 hsz _ _) hsz _ _) hsz _ _) hsz _ _,hsz⟩
 case rest =>
  obtain ⟨p8,E,c',rfl,hb8,hrE,hoE,hx8,hp8⟩:=hcut
  have HC8:=Lib.hid (HC1.out.ext hx8)
  have HX8:=Lib.hid (HX1.out.trans hx8)
  have HE8:=Lib.hid hrE
  have HO8:=Lib.hid hoE
  have HB8:=Lib.hid hb8
  have hle:w.heap.size≤w.heap.size+1:=Nat.le_succ _
  have k2:=Ext.cell_ hx8 k2
  have k3:=(HB1.out.ext hx8).cell (j:=3) (v:=.slice B ys.length e0) rfl
  have HP8:Hid (w.heap.size≤p8):=Lib.hid (by have:=HX1.out.size;omega)
  have HQ8:Hid (w.heap.size+1 < p8):=Lib.hid (by have:=HC1.out.lt;omega)
  clear hx8 hrE hoE hp8 HG1
  cases sep
  ·have HGX:Hid (goodD ⟨neg,xs,false,ys⟩ m n=⟨neg,X,false,[]⟩):=Lib.hid (by rw [HG.out];rfl)
   have HR8:=Lib.hid hb8.range
   clear hb8
   go_wp2_with (first
    | (refine wpList_load_mid rfl 43 (.tmp 7) rfl p8 0 rfl [.bool neg,.slice E X.length c',.bool false,.slice none 0 0] _ HR8.out Tryz.underlying43 rfl infoD14 ?_)
    | (refine wpList_store_row rfl 43 (.tmp 6) (.tmp 24) rfl (w.heap.size+1) ([.bool neg,.slice E X.length c',.bool false,.slice none 0 0]:List Value).toArray rfl rfl _ _ HC8.out infoD14 rfl (by simp [Value.oneCell']) ?_))
   have hb9:=HC8.out.set ([.bool neg,.slice E X.length c',.bool false,.slice none 0 0]:List Value).toArray
   refine bodyPost_ret (v:=.agg ([.bool neg,.slice E X.length c',.bool false,.slice none 0 0]:List Value).toArray) (results_cell_row rfl _ _ (w.heap.size+1) _ _ _ _ rfl hb9 Tryz.underlying43 rfl infoD14) rfl ⟨E,none,c',0,by rw [HGX.out];rfl,?_,HO8.out,⟨Nat.zero_le _,fun _=>rfl⟩,Ext.setRow HX8.out hle _⟩
   rw [HGX.out]
   exact ⟨ints_setRow HC8.out HE8.out (by simp [isInt,zeroD]) _,.inl rfl⟩
  ·have HGX:Hid (goodD ⟨neg,xs,true,ys⟩ m n=⟨neg,X,true,Y⟩):=Lib.hid (by rw [HG.out];rfl)
   clear hb8
   go_upto_region 4 with (go_at_call 41;with_reducible refine (HG2.out _ HX8.out).mono ?_;rintro e w9 ⟨F,cF,rfl,hrF,hoF,hx9⟩;have hb9:=HB8.out.ext hx9;have y3:=hb9.cell (j:=3) (v:=.slice none 0 0) rfl;have g3:=hb9.frozen 3)
   have hb10:=hb9.setCell 3 (.slice F Y.length cF)
   have HR10:Hid ((w9.setCell ⟨p8,3,none⟩ (.slice F Y.length cF)).rangeAt p8 0 [.bool neg,.slice E X.length c',.bool true,.slice F Y.length cF]):=Lib.hid hb10.range
   have HE10:=Lib.hid (ints_setCell hb9 (HE8.out.below hx9 (Nat.le_refl _)) (by simp [isInt]) 3 (.slice F Y.length cF))
   have HF10:=Lib.hid (ints_setCell hb9 hrF (by simp [isInt]) 3 (.slice F Y.length cF))
   have hne:w.heap.size+1 ≠ p8:=by have:=HQ8.out;omega
   have HC10:=Lib.hid ((HC8.out.ext hx9).setCell1 p8 (.slice F Y.length cF) (fun e=>hne e.symm) 3)
   have HX10:=Lib.hid (Ext.setCell_ (HX8.out.trans hx9) HP8.out 3 (.slice F Y.length cF))
   clear hb9 hb10 y3 g3 hx9 hrF
   generalize w9.setCell ⟨p8,3,none⟩ (.slice F Y.length cF)=w10 at *
   go_wp2_with (first
    | (refine wpList_load_mid rfl 43 (.tmp 7) rfl p8 0 rfl [.bool neg,.slice E X.length c',.bool true,.slice F Y.length cF] _ HR10.out Tryz.underlying43 rfl infoD14 ?_)
    | (refine wpList_store_row rfl 43 (.tmp 6) (.tmp 24) rfl (w.heap.size+1) ([.bool neg,.slice E X.length c',.bool true,.slice F Y.length cF]:List Value).toArray rfl rfl _ _ HC10.out infoD14 rfl (by simp [Value.oneCell']) ?_))
   have hb11:=HC10.out.set ([.bool neg,.slice E X.length c',.bool true,.slice F Y.length cF]:List Value).toArray
   refine bodyPost_ret (v:=.agg ([.bool neg,.slice E X.length c',.bool true,.slice F Y.length cF]:List Value).toArray) (results_cell_row rfl _ _ (w.heap.size+1) _ _ _ _ rfl hb11 Tryz.underlying43 rfl infoD14) rfl ⟨E,F,c',cF,by rw [HGX.out];rfl,?_,HO8.out,hoF,Ext.setRow HX10.out hle _⟩
   rw [HGX.out]
   exact ⟨ints_setRow HC10.out HE10.out (by simp [isInt,zeroD]) _,ints_setRow HC10.out HF10.out (by simp [isInt,zeroD]) _⟩
theorem ref14_atoms5 (X Y:Option Addr) (cx cy:Nat) (d:Dr) (w:World) (hd:DrR w X Y d) (ox:Okc X cx) (oy:Okc Y cy) (h1:d.int.length≤5000) (h2:d.frac.length≤5000) :
  Calls Tryz.prog 18 #[.agg (drV X cx Y cy d).toArray] w fun e w'=>∃ E c',e=.returned (.slice E (atomsF d).length c')∧Acc 3 1 w w' E c' (atomsF d).length ((atomsF d).map (Value.int .i64)):=by
 have HAT:Hid (atomsF d=d.int++((if d.sep then [10] else [])++d.frac)):=Lib.hid rfl
 have b1:=Box.new w 43 (drV X cx Y cy d)
 have hx1:Ext w (w.alloc (.cells (drV X cx Y cy d).toArray 43)):=Ext.alloc_ (Ext.refl w) _
 have hd1:=hd.ext hx1
 generalize atomsF d=at_ at *
 obtain ⟨neg,xs,sep,ys⟩:=d
 have HD:=Lib.hid hd1
 have HB:=Lib.hid b1
 have HX1:=Lib.hid hx1
 have k1:=b1.cell (j:=1) (v:=.slice X xs.length cx) rfl
 have k2:=b1.cell (j:=2) (v:=.bool sep) rfl
 simp only at h1 h2 HAT
 clear hd hd1 b1 hx1
 go_enter Tryz.func18,Tryz.ntmps18
 go_upto_region 1 with fail
 change Code.wp _ _ _ _ (w.alloc (.cells (drV X cx Y cy ⟨neg,xs,sep,ys⟩).toArray 43))
 generalize w.alloc (.cells (drV X cx Y cy ⟨neg,xs,sep,ys⟩).toArray 43)=w1 at *
 generalize w.heap.size=db at *
 have hacc0:=Acc.start 3 1 w1
 go_upto_region 3 with (at_builtin;refine wp_src ei_int rfl (.tmp 4) (.tmp 6) rfl w1 _ none 0 0 [] rfl hacc0 X xs.length cx (xs.map (Value.int .i64)) rfl HD.out.int ox (by simp) (ints_one xs) (by omega) (by unfold maxLen;omega) ?_;intro A1 c1 w2 hA2 _;rw [Nat.zero_add,List.nil_append] at hA2)
 have HA2:=Lib.hid hA2
 have k2:=Ext.cell_ hA2.ext k2
 have k3:=(HB.out.ext hA2.ext).cell (j:=3) (v:=.slice Y ys.length cy) rfl
 have hry:=HD.out.frac.below hA2.ext (Nat.le_refl _)
 have HRY:=Lib.hid hry
 clear hA2 hacc0 k1 hry
 cases sep
 ·have HT:Hid (at_=xs++ys):=Lib.hid (by rw [HAT.out];rfl)
  go_wp2_with (at_builtin;refine wp_src ei_int rfl (.tmp 13) (.tmp 15) rfl w1 _ A1 c1 xs.length _ rfl HA2.out Y ys.length cy (ys.map (Value.int .i64)) rfl HRY.out oy (by simp) (ints_one ys) (by omega) (by unfold maxLen;omega) ?_;intro A3 c3 w3 hA3 _)
  go_ret
  exact ⟨A3,c3,by rw [HT.out,List.length_append];first | done | rfl,by rw [HT.out,List.length_append,List.map_append];exact hA3.base HX1.out⟩
 ·have HT:Hid (at_=xs++[10]++ys):=Lib.hid (by rw [HAT.out];simp)
  go_wp2_with (first
   | (at_builtin;refine wp_app ei_int rfl (.tmp 10) (.tmp 11) rfl w1 _ A1 c1 xs.length _ rfl HA2.out [.int .i64 10] 1 1 rfl rfl (by simp [Value.oneCell']) (by omega) (by unfold maxLen;omega) ?_;intro A2 c2 w4 hA4 _ _;have hA4:=Lib.hid hA4;have k3:=(HB.out.ext hA4.out.ext).cell (j:=3) (v:=.slice Y ys.length cy) rfl;have HRY:=Lib.hid (HD.out.frac.below hA4.out.ext (Nat.le_refl _)))
   | (at_builtin;refine wp_src ei_int rfl (.tmp 13) (.tmp 15) rfl w1 _ A2 c2 (xs.length+1) _ rfl hA4.out Y ys.length cy (ys.map (Value.int .i64)) rfl HRY.out oy (by simp) (ints_one ys) (by omega) (by unfold maxLen;omega) ?_;intro A3 c3 w3 hA3 _))
  go_ret
  exact ⟨A3,c3,by rw [HT.out,List.length_append,List.length_append];first | done | rfl,by rw [HT.out,List.length_append,List.length_append,List.map_append,List.map_append];exact hA3.base HX1.out⟩
set_option maxRecDepth 512
theorem ref14_atoms (X Y:Option Addr) (cx cy:Nat) (d:Dr) (w:World) (hd:DrR w X Y d) (ox:Okc X cx) (oy:Okc Y cy) (h1:d.int.length≤100) (h2:d.frac.length≤100) :
  Calls Tryz.prog 18 #[.agg (drV X cx Y cy d).toArray] w fun e w'=>∃ E c',e=.returned (.slice E (atomsF d).length c')∧Acc 3 1 w w' E c' (atomsF d).length ((atomsF d).map (Value.int .i64)) :=
 ref14_atoms5 X Y cx cy d w hd ox oy (Nat.le_trans h1 (by decide)) (Nat.le_trans h2 (by decide))
theorem isB_ext {B b:Nat} {l:List UInt8} {w w':World} (h:IsB B b l w) (hx:Ext w w'):IsB B b l w':=by
 have key:∀ p bs,Lib.BuilderAt 214 5 B b p bs w→Lib.BuilderAt 214 5 B b p bs w':=by
  rintro p bs ⟨hB,v,hb,ho,hn⟩
  refine ⟨hB,v,(hx.block b (heap_lt hb)).trans hb,ho.kept (grown_of_ext hx none) ?_,hn⟩
  by_cases h0:v.ownBlock=none
  ·exact .inl h0
  ·exact .inr h0
 exact h.imp (key _ _) (key _ _)
theorem textI_snoc {L:List It} {k:Nat} (h:k < L.length):textI (L.take (k+1))=textI (L.take k)++L[k].2.1:=by
 rw [List.take_succ_eq_append_getElem h,textI_app];simp [textI]
theorem textI_le {L:List It} (h:∀ x ∈ L,x.2.1.length≤1000):∀ k,(textI (L.take k)).length≤1000 * k
 | 0=>by simp [textI]
 | k+1=>by
  have ih:=textI_le h k
  by_cases hk:k < L.length
  ·have:=h _ (List.getElem_mem hk)
   rw [textI_snoc hk,List.length_append];omega
  ·rw [List.take_of_length_le (by omega)] at ih ⊢
   omega
set_option maxRecDepth 100000
theorem ref15_text5 (E:Option Addr) (n c:Nat) (L:List It) (w:World) (hr:Row w E (itsV L)) (hn:L.length=n) (hl:n≤20000) (ht:∀ x ∈ L,x.2.1.length≤1000) :
  Calls Tryz.prog 42 #[.slice E n c] w fun e w'=>e=.returned (.string ⟨(textI L).toArray⟩)∧Ext w w':=by
 have HR:=Lib.hid hr
 have HN:=Lib.hid hn
 have HT:=Lib.hid ht
 have HLE:=Lib.hid (textI_le ht)
 have HALL:Hid (textI (L.take n)=textI L):=Lib.hid (by rw [List.take_of_length_le (by omega)])
 clear hr hn ht
 go_enter Tryz.func42,Tryz.ntmps42
 go_wp2
 go_loop [3,4] (fun s i=>∃ k:Nat,k≤n∧i=.int .i64 k∧s=.string ⟨(textI (L.take k)).toArray⟩) (fun _ i=>n - (intOf i).toNat)
 case atStart=>exact ⟨0,Nat.zero_le _,rfl,rfl⟩
 case round =>
  obtain ⟨k,hk,rfl,rfl⟩:=hrel
  by_cases hlt:k < n
  ·have hkq:k < L.length:=by have:=HN.out;omega
   obtain ⟨bx,ox,rfl,hg⟩:=row_it HR.out hkq
   have HS:=Lib.hid (textI_snoc hkq)
   have hle:=HLE.out k
   have htx:=HT.out _ (List.getElem_mem hkq)
   generalize L[k]=x at *
   obtain ⟨tg,t,at_⟩:=x
   simp only at htx
   have c1:w.cell? ⟨bx,ox+k * 3+1,none⟩=some (.string ⟨t.toArray⟩):=hg 1 _ rfl
   have i1:(k:Int) < (n:Int):=by omega
   generalize textI (L.take k)=l at *
   clear hg
   have hap:=app_mk l t
   have q1:(9223372036854775807 < l.length+t.length)=False:=eq_false (by omega)
   go_wp2
   go_round
   case rel=>exact ⟨k+1,by omega,by go_num,by rw [HS.out];first | done | rfl | rw [hap]⟩
   case measure=>simp [intOf];omega
  ·have e:k=n:=by omega
   subst e
   have i1:¬ ((k:Int) < (k:Int)):=by omega
   rw [HALL.out]
   go_wp2
   go_ret
   exact ⟨rfl,Ext.refl _⟩
set_option maxRecDepth 512
theorem ref15_text (E:Option Addr) (n c:Nat) (L:List It) (w:World) (hr:Row w E (itsV L)) (hn:L.length=n) (hl:n≤5000) (ht:∀ x ∈ L,x.2.1.length≤1000) :
  Calls Tryz.prog 42 #[.slice E n c] w fun e w'=>e=.returned (.string ⟨(textI L).toArray⟩)∧Ext w w' :=
 ref15_text5 E n c L w hr hn (Nat.le_trans hl (by decide)) ht
theorem acc_apart {e sz e2 sz2:Nat} {w0 w3 w4:World} {E F:Option Addr} {c n c2 n2:Nat} {cs ds:List Value} (h1:Acc e sz w0 w3 E c n cs) (h2:Acc e2 sz2 w3 w4 F c2 n2 ds):Apart E F:=by
 intro x y hx hy
 subst hx;subst hy
 have a:=(h1.own.lt x.block rfl).2
 have b:=(h2.own.lt y.block rfl).1
 omega
theorem ref_len2 (l:Loc) (d:Dr):∀ k,(refTo l d k).length≤2 * k
 | 0=>by simp [refTo]
 | k+1=>by
  have:=ref_len2 l d k
  rw [refTo_succ,List.length_append]
  have hg:(grpAt l ((d.int.length:Int) - 1 - k)).length≤1:=by unfold grpAt;split <;> simp
  unfold refAt
  split
  ·simp only [List.length_cons,List.length_nil];omega
  ·simp only [List.length_cons];omega
set_option maxRecDepth 100000
theorem ref15_items5 (A B C D X Y:Option Addr) (c d a b cx cy:Nat) (dr:Dr) (r:Rec) (p:Pt) (w:World) (hK:Both r p) (hn:0≤p.num.prim∧p.num.prim≤100∧0≤p.num.sec∧p.num.sec≤100)
  (hpt:PtR w A B C D p) (hcap:CapR p c d a b) (hd:DrR w X Y dr) (ox:Okc X cx) (oy:Okc Y cy) (hok:DrOk dr) (hi:dr.int.length≤5000) (hf:dr.frac.length≤5000) :
  Calls Tryz.prog 29 #[.agg (refLV A B C D c d a b r p).toArray,.agg (drV X cx Y cy dr).toArray] w fun e w'=>∃ E c',e=.returned (.slice E (itemsF (locOf r p) dr).length c')∧Acc 76 3 w w' E c' (itemsF (locOf r p) dr).length (itsV (itemsF (locOf r p) dr)):=by
 have hpb:∀ q ∈ affs (locOf r p),q.length≤1000:=hK.may.b.len
 have hla:(ahead (locOf r p) dr.neg).length≤1000:=Nat.le_trans (parts_len _ _) (by cases dr.neg;exact hpb _ (by simp [affs]);exact hpb _ (by simp [affs]))
 have hlb:(behind (locOf r p) dr.neg).length≤1000:=Nat.le_trans (parts_len _ _) (by cases dr.neg;exact hpb _ (by simp [affs]);exact hpb _ (by simp [affs]))
 have HRA:Hid (∀ W,Ext w W→Calls Tryz.prog 55 #[.agg ([.string ⟨r.name.toArray⟩,.string ⟨r.pattern.toArray⟩,.string ⟨r.system.toArray⟩,.string ⟨r.decimal.toArray⟩,.string ⟨r.group.toArray⟩,.string ⟨r.minus.toArray⟩,.string ⟨r.percent.toArray⟩,.string ⟨r.currency.toArray⟩,.slice A p.pre.length c,.slice B p.suf.length d,.slice C p.npre.length a,.slice D p.nsuf.length b,.int .i64 p.num.prim,.int .i64 p.num.sec,.int .i64 p.num.minInt,.int .i64 p.num.minFrac,.int .i64 p.num.maxFrac]:List Value).toArray,.bool dr.neg] W fun e w'=>∃ E c1 F c2,e=.returned (.tuple #[.slice E (ahead (locOf r p) dr.neg).length c1,.slice F (behind (locOf r p) dr.neg).length c2])∧Row w' E (prtV (ahead (locOf r p) dr.neg))∧Row w' F (prtV (behind (locOf r p) dr.neg))∧Okc E c1∧Okc F c2∧Ext W w'):=Lib.hid fun W hW=>ref_around A B C D c d a b dr.neg r p W hK (hpt.ext hW) hcap
 have HPA:Hid (∀ W X n k0 ps,Row W X (prtV ps)→ps.length=n→n≤2000→Calls Tryz.prog 56 #[.agg ([.string ⟨r.name.toArray⟩,.string ⟨r.pattern.toArray⟩,.string ⟨r.system.toArray⟩,.string ⟨r.decimal.toArray⟩,.string ⟨r.group.toArray⟩,.string ⟨r.minus.toArray⟩,.string ⟨r.percent.toArray⟩,.string ⟨r.currency.toArray⟩,.slice A p.pre.length c,.slice B p.suf.length d,.slice C p.npre.length a,.slice D p.nsuf.length b,.int .i64 p.num.prim,.int .i64 p.num.sec,.int .i64 p.num.minInt,.int .i64 p.num.minFrac,.int .i64 p.num.maxFrac]:List Value).toArray,.slice X n k0] W fun e w'=>∃ E c',e=.returned (.slice E n c')∧Acc 76 3 W w' E c' n (itsV (ps.map (prtI r)))):=Lib.hid fun W X n k0 ps hX hps hle=>ref15_parts A B C D X c d a b n k0 ps r p W hX hps hle
 have HAT:Hid (∀ W,Ext w W→Calls Tryz.prog 18 #[.agg ([.bool dr.neg,.slice X dr.int.length cx,.bool dr.sep,.slice Y dr.frac.length cy]:List Value).toArray] W fun e w'=>∃ E c',e=.returned (.slice E (atomsF dr).length c')∧Acc 3 1 W w' E c' (atomsF dr).length ((atomsF dr).map (Value.int .i64))):=Lib.hid fun W hW=>ref14_atoms5 X Y cx cy dr W (hd.ext hW) ox oy hi hf
 have HAB:Hid (∀ k,k < (atomsF dr).length→atomAt dr k=10∨(0≤atomAt dr k∧atomAt dr k≤9)):=Lib.hid fun k hk=>atom_bd hok hk
 have HAD:Hid (∀ k,(atomsF dr).getD k 0=atomAt dr k):=Lib.hid fun k=>rfl
 have HDG:Hid (∀ x:Int,0≤x→x≤9→∀ W,Calls Tryz.prog 57 #[.string ⟨r.system.toArray⟩,.int .i64 x] W fun e w'=>e=.returned (.string ⟨(digZ (locOf r p) x).toArray⟩)∧Ext W w'):=Lib.hid fun x h0 h9 W=>by
  obtain ⟨n,rfl⟩:=Int.eq_ofNat_of_zero_le h0
  have h:=ref_digit ⟨r.system.toArray⟩ (n:Int) W h0 h9
  rw [← dig_k hK (show n < 10 by omega)] at h
  exact h
 have HS:Hid (∀ k,refTo (locOf r p) dr (k+1)=refTo (locOf r p) dr k++(if atomAt dr k=10 then [(4,r.decimal,(k:Int))] else (2,digZ (locOf r p) (atomAt dr k),(k:Int)) :: (if Ends.itemEnds ((dr.int.length:Int) - 1 - k) p.num.prim p.num.sec then [(3,r.group,-1)] else []))):=Lib.hid fun k=>refTo_succ _ _ k
 have HS0:Hid (refTo (locOf r p) dr 0=[]):=Lib.hid rfl
 have HL2:Hid (∀ k,(refTo (locOf r p) dr k).length≤2 * k):=Lib.hid fun k=>ref_len2 _ _ k
 have hal:(atomsF dr).length≤10001:=by rw [atoms_len];split <;> omega
 have HIT:Hid (itemsF (locOf r p) dr=((ahead (locOf r p) dr.neg).map (prtI r)++refTo (locOf r p) dr (atomsF dr).length)++(behind (locOf r p) dr.neg).map (prtI r)):=Lib.hid (by unfold itemsF;rw [← ref_mid hok,List.append_assoc];rfl)
 have b1:=(Box.new w 31 (refLV A B C D c d a b r p)).alloc (.cells (drV X cx Y cy dr).toArray 43)
 have c1:=Box.new (w.alloc (.cells (refLV A B C D c d a b r p).toArray 31)) 43 (drV X cx Y cy dr)
 have hs1:(w.alloc (.cells (refLV A B C D c d a b r p).toArray 31)).heap.size=w.heap.size+1:=by simp
 rw [hs1] at c1
 have hx1:Ext w ((w.alloc (.cells (refLV A B C D c d a b r p).toArray 31)).alloc (.cells (drV X cx Y cy dr).toArray 43)):=Ext.alloc_ (Ext.alloc_ (Ext.refl w) _) _
 have HB1:=Lib.hid b1
 have HC1:=Lib.hid c1
 have HX1:=Lib.hid hx1
 have HR1:Hid (((w.alloc (.cells (refLV A B C D c d a b r p).toArray 31)).alloc (.cells (drV X cx Y cy dr).toArray 43)).rangeAt w.heap.size 0 [.string ⟨r.name.toArray⟩,.string ⟨r.pattern.toArray⟩,.string ⟨r.system.toArray⟩,.string ⟨r.decimal.toArray⟩,.string ⟨r.group.toArray⟩,.string ⟨r.minus.toArray⟩,.string ⟨r.percent.toArray⟩,.string ⟨r.currency.toArray⟩,.slice A p.pre.length c,.slice B p.suf.length d,.slice C p.npre.length a,.slice D p.nsuf.length b,.int .i64 p.num.prim,.int .i64 p.num.sec,.int .i64 p.num.minInt,.int .i64 p.num.minFrac,.int .i64 p.num.maxFrac]):=Lib.hid b1.range
 have HD1:Hid (((w.alloc (.cells (refLV A B C D c d a b r p).toArray 31)).alloc (.cells (drV X cx Y cy dr).toArray 43)).rangeAt (w.heap.size+1) 0 [.bool dr.neg,.slice X dr.int.length cx,.bool dr.sep,.slice Y dr.frac.length cy]):=Lib.hid c1.range
 have k0:=c1.cell (j:=0) (v:=.bool dr.neg) rfl
 clear b1 c1 hs1 hx1 hpb hpt hcap hd
 go_enter Tryz.func29,Tryz.ntmps29
 go_upto_region 1 with fail
 change Code.wp _ _ _ _ ((w.alloc (.cells (refLV A B C D c d a b r p).toArray 31)).alloc (.cells (drV X cx Y cy dr).toArray 43))
 generalize (w.alloc (.cells (refLV A B C D c d a b r p).toArray 31)).alloc (.cells (drV X cx Y cy dr).toArray 43)=w1 at *
 generalize hlbd:w.heap.size=lb at *
 clear hlbd
 generalize HT:itemsF (locOf r p) dr=IT at *
 have HTT:=Lib.hid HT
 clear HT
 generalize ahead (locOf r p) dr.neg=PA at *
 generalize behind (locOf r p) dr.neg=PB at *
 generalize hnat:(atomsF dr).length=na at *
 have HNA:=Lib.hid hnat
 clear hnat
 go_upto_region 4 with (first
  | (refine wpList_load_mid rfl 31 (.tmp 2) rfl lb 0 rfl [.string ⟨r.name.toArray⟩,.string ⟨r.pattern.toArray⟩,.string ⟨r.system.toArray⟩,.string ⟨r.decimal.toArray⟩,.string ⟨r.group.toArray⟩,.string ⟨r.minus.toArray⟩,.string ⟨r.percent.toArray⟩,.string ⟨r.currency.toArray⟩,.slice A p.pre.length c,.slice B p.suf.length d,.slice C p.npre.length a,.slice D p.nsuf.length b,.int .i64 p.num.prim,.int .i64 p.num.sec,.int .i64 p.num.minInt,.int .i64 p.num.minFrac,.int .i64 p.num.maxFrac] _ HR1.out Tryz.underlying31 rfl infoRL ?_)
  | (go_at_call 55;with_reducible refine (HRA.out _ HX1.out).mono ?_;rintro e w2 ⟨E1,c1,F1,c2,rfl,hE1,hF1,oE1,oF1,hx2⟩;have HR2:=Lib.hid (Ext.range_ hx2 HR1.out))
  | (refine wpList_load_mid rfl 31 (.tmp 2) rfl lb 0 rfl [.string ⟨r.name.toArray⟩,.string ⟨r.pattern.toArray⟩,.string ⟨r.system.toArray⟩,.string ⟨r.decimal.toArray⟩,.string ⟨r.group.toArray⟩,.string ⟨r.minus.toArray⟩,.string ⟨r.percent.toArray⟩,.string ⟨r.currency.toArray⟩,.slice A p.pre.length c,.slice B p.suf.length d,.slice C p.npre.length a,.slice D p.nsuf.length b,.int .i64 p.num.prim,.int .i64 p.num.sec,.int .i64 p.num.minInt,.int .i64 p.num.minFrac,.int .i64 p.num.maxFrac] _ HR2.out Tryz.underlying31 rfl infoRL ?_)
  | (go_at_call 56;with_reducible refine (HPA.out _ _ _ _ PA hE1 rfl (by omega)).mono ?_;rintro e w3 ⟨E3,c3,rfl,hA3⟩;have HD3:=Lib.hid (Ext.range_ (hx2.trans hA3.ext) HD1.out))
  | (refine wpList_load_mid rfl 43 (.tmp 3) rfl (lb+1) 0 rfl [.bool dr.neg,.slice X dr.int.length cx,.bool dr.sep,.slice Y dr.frac.length cy] _ HD3.out Tryz.underlying43 rfl infoD14 ?_)
  | (go_at_call 18;with_reducible refine (HAT.out _ (HX1.out.trans (hx2.trans hA3.ext))).mono ?_;rintro e w4 ⟨F,cF,rfl,hA4⟩))
 have hap4:=acc_apart hA3 hA4
 have HE4:=Lib.hid (hA3.step hA4.ext)
 have HF4:=Lib.hid (hA4.base hA3.ext)
 have HP4:=Lib.hid hap4
 have HPB:=Lib.hid hF1
 have HX2:=Lib.hid (HX1.out.trans hx2)
 have HR2:=Lib.hid (Ext.range_ hx2 HR1.out)
 have HB2:=Lib.hid (HB1.out.ext hx2)
 have HC2:=Lib.hid (HC1.out.ext hx2)
 clear hE1 hF1 oE1 oF1 hx2 hA3 hA4 hap4 HRA HAT HD3 k0 HR1 HD1 HB1 HC1
 generalize hPV:PA.map (prtI r)=PV at *
 have HPL:Hid (PV.length=PA.length):=Lib.hid (by rw [← hPV,List.length_map])
 clear hPV
 generalize PA.length=npa at *
 go_upto_region 5 with fail
 go_wp2
 go_loopw [7,9] (fun v i wr=>∃ (k:Nat) (E:Option Addr) (c' m:Nat),k≤na∧i=.int .i64 k∧v=.slice E m c'∧m=npa+(refTo (locOf r p) dr k).length∧Acc 76 3 w2 wr E c' m (itsV (PV++refTo (locOf r p) dr k))∧Acc 3 1 w2 wr F cF na ((atomsF dr).map (Value.int .i64))∧Apart E F) (fun _ i _=>na - (intOf i).toNat)
 case atStart=>exact ⟨0,E3,c3,npa,Nat.zero_le _,rfl,rfl,by rw [HS0.out];rfl,by rw [HS0.out,List.append_nil];exact HE4.out,HF4.out,HP4.out⟩
 case round =>
  obtain ⟨k,E,c',m,hk,rfl,rfl,hm,haE,haF,hap⟩:=hrel
  have hml:=HL2.out k
  have hm2:m≤30000:=by omega
  have HE:=Lib.hid haE
  have HF:=Lib.hid haF
  have HP:=Lib.hid hap
  have HM:=Lib.hid hm
  clear hap hm
  by_cases hlt:k < na
  ·have hka:k < (atomsF dr).length:=by have:=HNA.out;omega
   have HKA:=Lib.hid hka
   have hab:=HAB.out k (by omega)
   obtain ⟨fb,fo,rfl,hc⟩:=row_ints haF.row hka
   rw [HAD.out] at hc
   have HXK:Hid ((atomsF dr).getD k 0=atomAt dr k):=Lib.hid (HAD.out k)
   have HSk:=Lib.hid (HS.out k)
   have hb1:=HB2.out.ext haE.ext
   have q2:=hb1.cell (j:=2) (v:=.string ⟨r.system.toArray⟩) rfl
   have q3:=hb1.cell (j:=3) (v:=.string ⟨r.decimal.toArray⟩) rfl
   have i1:(k:Int) < (na:Int):=by omega
   have i2:(0:Int)≤(k:Int):=by omega
   generalize atomAt dr k=x at *
   clear haE haF hb1 hka
   by_cases h10:x=10
   ·subst h10
    have HS2:Hid (itsV (PV++refTo (locOf r p) dr (k+1))=itsV (PV++refTo (locOf r p) dr k)++[.int .i64 4,.string ⟨r.decimal.toArray⟩,.int .i64 k]∧m+1=npa+(refTo (locOf r p) dr (k+1)).length):=Lib.hid (by
     rw [HSk.out,if_pos rfl,← List.append_assoc,its_app,List.length_append]
     exact ⟨rfl,by have:=HM.out;simp;omega⟩)
    have b10:((10:Int) == 10)=true:=rfl
    clear hab
    go_wp2_with (at_builtin;refine wp_app ei_ri rfl (.tmp 33) (.tmp 39) rfl w2 _ E c' m _ rfl HE.out [.int .i64 4,.string ⟨r.decimal.toArray⟩,.int .i64 k] 1 1 rfl rfl (by simp [Value.oneCell']) (by omega) (by unfold maxLen;omega) ?_;intro A1 c1 w5 hA5 hB5 _;obtain ⟨hF5,hP5⟩:=hB5 _ _ _ _ _ _ HF.out HP.out)
    exact ⟨⟨k+1,A1,c1,m+1,by omega,by go_num,rfl,HS2.out.2,by rw [HS2.out.1];exact hA5,hF5,hP5⟩,by simp [intOf];omega⟩
   ·have hxb:0≤x∧x≤9:=by
     rcases hab with h | h
     ·exact absurd h h10
     ·exact h
    have HDX:=Lib.hid (HDG.out x hxb.1 hxb.2)
    have b10:(x == 10)=false:=by simpa using h10
    have HSE:Hid (refTo (locOf r p) dr (k+1)=refTo (locOf r p) dr k++(2,digZ (locOf r p) x,(k:Int)) :: (if Ends.itemEnds ((dr.int.length:Int) - 1 - k) p.num.prim p.num.sec then [(3,r.group,-1)] else [])):=Lib.hid (by rw [HSk.out,if_neg h10])
    generalize digZ (locOf r p) x=dt at *
    clear hab h10 hxb HSk
    go_upto_region 9 with fail
    refine rg_ (S:=fun W=>Ext w2 W∧W.cell? ⟨lb,2,none⟩=some (.string ⟨r.system.toArray⟩)∧W.cell? ⟨fb,fo+k,none⟩=some (.int .i64 x)) (⟨Ext.drew_ HE.out.ext,q2,hc⟩) (fun hHeld=>?_)
    refine tk_ 0 hHeld ?_
    try simp only [Act.put,sA,sZ,sS]
    refine tk_ 1 hHeld ?_
    try simp only [Act.put,sA,sZ,sS]
    refine tk_ 2 hHeld ?_
    try simp only [Act.put,sA,sZ,sS]
    refine tk_ 3 hHeld ?_
    try simp only [Act.put,sA,sZ,sS]
    refine tk_ 4 hHeld ?_
    try simp only [Act.put,sA,sZ,sS]
    refine tk_ 5 hHeld ?_
    try simp only [Act.put,sA,sZ,sS]
    refine tk_ 6 hHeld ?_
    try simp only [Act.put,sA,sZ,sS]
    refine tk_ 7 hHeld ?_
    try simp only [Act.put,sA,sZ,sS]
    refine tk_ 9 hHeld ?_
    try simp only [Act.put,sA,sZ,sS]
    refine on_ 8 (fun K1 hK1=>?_)
    go_simp
    go_at_call 57
    refine (HDX.out _).mono ?_
    rintro e w7 ⟨rfl,hx7⟩
    have hE7:=HE.out.drew.step hx7
    have hF7:=HF.out.drew.step hx7
    refine hK1.out _ _ (⟨hHeld.1.trans hx7,Ext.cell_ hx7 hHeld.2.1,Ext.cell_ hx7 hHeld.2.2⟩) (fun hHeld=>?_)
    clear hK1
    try simp only [Act.put,sA,sZ,sS]
    refine tk_ 10 hHeld ?_
    try simp only [Act.put,sA,sZ,sS]
    refine on_ 11 (fun K1 hK1=>?_)
    go_simp
    have hx8:Ext w7 (w7.alloc (.cells ([.int .i64 2,.string ⟨dt.toArray⟩,.int .i64 k]:List Value).toArray 76)):=Ext.alloc_ (Ext.refl _) _
    refine hK1.out _ _ (⟨hHeld.1.trans hx8,Ext.cell_ hx8 hHeld.2.1,Ext.cell_ hx8 hHeld.2.2⟩) (fun hHeld=>?_)
    clear hK1
    try simp only [Act.put,sA,sZ,sS]
    refine on_ 12 (fun K1 hK1=>?_)
    refine step_app ei_ri rfl (.tmp 41) (.tmp 52) rfl w2 w7 E c' m _ (by simp [Act.eval,Act.put]) hE7 [.int .i64 2,.string ⟨dt.toArray⟩,.int .i64 k] 1 1 (by simp [Act.eval,Act.put]) rfl (by simp [Value.oneCell']) (by omega) (by unfold maxLen;omega) ?_
    intro A9 c9 w9 hA9 hB9 _
    obtain ⟨hF9,hP9⟩:=hB9 _ _ _ _ _ _ hF7 HP.out
    refine hK1.out _ _ (⟨hA9.ext,(HB2.out.ext hA9.ext).cell (j:=2) rfl,by rw [← HXK.out];exact row_cell hF9.row HKA.out⟩) (fun hHeld=>?_)
    clear hK1
    try simp only [Act.put,sA,sZ,sS]
    refine tk_ 13 hHeld ?_
    try simp only [Act.put,sA,sZ,sS]
    refine dn_ ?_
    have HA9:=Lib.hid hA9
    have HF9:=Lib.hid hF9
    have HP9:=Lib.hid hP9
    have hb9:=HB2.out.ext hA9.ext
    have q12:=hb9.cell (j:=12) (v:=.int .i64 p.num.prim) rfl
    have q13:=hb9.cell (j:=13) (v:=.int .i64 p.num.sec) rfl
    have q4:=hb9.cell (j:=4) (v:=.string ⟨r.group.toArray⟩) rfl
    have qd:=(HC2.out.ext hA9.ext).cell (j:=1) (v:=.slice X dr.int.length cx) rfl
    clear hHeld hA9 hF9 hP9 hb9 hB9 hE7 hF7 q2 q3 hc hx7 hx8
    cases he:Ends.itemEnds ((dr.int.length:Int) - 1 - k) p.num.prim p.num.sec
    ·have HEE:=Lib.hid he
     have HS2:Hid (itsV (PV++refTo (locOf r p) dr (k+1))=itsV (PV++refTo (locOf r p) dr k)++[.int .i64 2,.string ⟨dt.toArray⟩,.int .i64 k]∧m+1=npa+(refTo (locOf r p) dr (k+1)).length):=Lib.hid (by
      rw [HSE.out,he,← List.append_assoc,its_app,List.length_append]
      exact ⟨rfl,by have:=HM.out;simp;omega⟩)
     clear he
     go_wp2_with (go_at_call 58;refine (Ends.ref_ends _ _ _ _ (by omega) (by omega) (by omega)).mono ?_;rintro e w10 ⟨rfl,rfl⟩;rw [HEE.out])
     go_roundw
     case rel=>exact ⟨k+1,A9,c9,m+1,by omega,by go_num,rfl,HS2.out.2,by rw [HS2.out.1];exact HA9.out,HF9.out,HP9.out⟩
     case measure=>simp [intOf];omega
    ·have HEE:=Lib.hid he
     have HS2:Hid (itsV (PV++refTo (locOf r p) dr (k+1))=itsV (PV++refTo (locOf r p) dr k)++[.int .i64 2,.string ⟨dt.toArray⟩,.int .i64 k]++[.int .i64 3,.string ⟨r.group.toArray⟩,.int .i64 (-1)]∧m+1+1=npa+(refTo (locOf r p) dr (k+1)).length):=Lib.hid (by
      rw [HSE.out,he,← List.append_assoc,its_app,List.length_append]
      refine ⟨?_,by have:=HM.out;simp;omega⟩
      rw [List.append_assoc];rfl)
     clear he
     go_wp2_with (first
      | (go_at_call 58;refine (Ends.ref_ends _ _ _ _ (by omega) (by omega) (by omega)).mono ?_;rintro e w10 ⟨rfl,rfl⟩;rw [HEE.out])
      | (at_builtin;refine wp_app ei_ri rfl (.tmp 67) (.tmp 72) rfl w2 _ A9 c9 (m+1) _ rfl HA9.out [.int .i64 3,.string ⟨r.group.toArray⟩,.int .i64 (-1)] 1 1 rfl rfl (by simp [Value.oneCell']) (by omega) (by unfold maxLen;omega) ?_;intro A11 c11 w11 hA11 hB11 _;obtain ⟨hF11,hP11⟩:=hB11 _ _ _ _ _ _ HF9.out HP9.out))
     go_roundw
     case rel=>exact ⟨k+1,A11,c11,m+1+1,by omega,by go_num,rfl,HS2.out.2,by rw [HS2.out.1];exact hA11,hF11,hP11⟩
     case measure=>simp [intOf];omega
  ·have e:k=na:=by omega
   subst e
   have i1:¬ ((k:Int) < (k:Int)):=by omega
   have HRW:=Lib.hid (Ext.range_ haE.ext HR2.out)
   have hrB:=HPB.out.below haE.ext (Nat.le_refl _)
   have HIT2:Hid (IT=(PV++refTo (locOf r p) dr k)++PB.map (prtI r)):=Lib.hid HIT.out
   have HLT:Hid (IT.length=m+PB.length):=Lib.hid (by
    have h1:=haE.len
    rw [its_len] at h1
    rw [HIT2.out,List.length_append,List.length_map];omega)
   clear haE haF
   generalize PV++refTo (locOf r p) dr k=T3 at *
   go_wp2_with (first
    | (refine wpList_load_mid rfl 31 (.tmp 2) rfl lb 0 rfl [.string ⟨r.name.toArray⟩,.string ⟨r.pattern.toArray⟩,.string ⟨r.system.toArray⟩,.string ⟨r.decimal.toArray⟩,.string ⟨r.group.toArray⟩,.string ⟨r.minus.toArray⟩,.string ⟨r.percent.toArray⟩,.string ⟨r.currency.toArray⟩,.slice A p.pre.length c,.slice B p.suf.length d,.slice C p.npre.length a,.slice D p.nsuf.length b,.int .i64 p.num.prim,.int .i64 p.num.sec,.int .i64 p.num.minInt,.int .i64 p.num.minFrac,.int .i64 p.num.maxFrac] _ HRW.out Tryz.underlying31 rfl infoRL ?_)
    | (go_at_call 56;with_reducible refine (HPA.out _ _ _ _ PB hrB rfl (by omega)).mono ?_;rintro e w6 ⟨F6,c6,rfl,hA6⟩;have HA6:=Lib.hid hA6;have HB6:=Lib.hid (HE.out.step hA6.ext))
    | (at_builtin;refine wp_src ei_ri rfl (.tmp 74) (.tmp 77) rfl w2 _ E c' m _ rfl HB6.out F6 PB.length c6 (itsV (PB.map (prtI r))) rfl HA6.out.row (Acc.okc HA6.out) HA6.out.len (its_oneCell _) (by omega) (by unfold maxLen;omega) ?_;intro A9 c9 w9 hA9 _))
   go_ret
   exact ⟨A9,c9,by rw [HTT.out,HLT.out];first | done | rfl,by rw [HTT.out,HLT.out,HIT2.out,its_app];exact hA9.base HX2.out⟩
set_option maxRecDepth 512
theorem step_row {ops:Array Oper} {o:Oper} {a:Act} {w:World} {K:Act→World→Prop} {Q:Exit→Act→World→Prop} {X:Prop} (hgd:o.guard=none) (ty:TypeId) (x y:Operand) (ho:o.op=.store ty x y)
  (g:Nat) (cells:Array Value) (hx:a.eval x=.pointer (some ⟨g,0,none⟩)) (hy:a.eval y=.agg cells)
  (t:TypeId) (old:Array Value) (hg:w.heap[g]? = some (.cells old t (0,0))) (hi:(Tryz.prog.info? ty).map (·.size)=some cells.size)
  (hold:old.size=cells.size) (h1:cells.all (·.oneCell')=true)
  (h:K (a.put o.dst undef) (w.setRow g cells)):if Region.wanted o (yielded ops a.tmps)=true then o.wp Tryz.prog a w K Q else X:=by
 have hw:Region.wanted o (yielded ops a.tmps)=true:=by simp [Region.wanted,hgd]
 rw [if_pos hw]
 exact wp_store_row ty x y ho g cells hx hy t old hg hi hold h1 h
theorem box_ne {w:World} {g b:Nat} {T U:TypeId} {cs ds:List Value} (h1:Box w g T cs) (h2:Box w b U ds) (hT:T ≠ U):g ≠ b:=by
 intro e
 subst e
 unfold Box at h1 h2
 rw [h1] at h2
 injection h2 with h2
 injection h2 with _ h3 _
 exact hT h3
theorem range_setRow {w:World} {b o g:Nat} {cs:List Value} (h:w.rangeAt b o cs) (hne:b ≠ g) (ds:Array Value):(w.setRow g ds).rangeAt b o cs:=fun j v hv=>(World.cell?_of_block (setRow_other w g b ds hne)).trans (h j v hv)
def LocaleC (v0 v1 v2 v3 v4 v5 n:Int) (r:Rec) (p:Pt):Prop:=∀ W,Calls Tryz.prog 30 #[.agg ([.int .i64 v0,.int .i64 v1,.int .i64 v2,.int .i64 v3,.int .i64 v4,.int .i64 v5]:List Value).toArray,.int .i64 n] W fun e w'=>∃ A B C D c d a b,e=.returned (.agg (refLV A B C D c d a b r p).toArray)∧PtR w' A B C D p∧CapR p c d a b∧Ext W w'
set_option maxRecDepth 100000
theorem locale_good (v0 v1 v2 v3 v4 v5 n:Int) (h0:i64 v0) (h1:i64 v1) (h2:i64 v2) (h3:i64 v3) (h4:i64 v4) (h5:i64 v5) (hn:i64 n) (hm:n.tmod 3=0):∃ r p,Kin r p∧LocaleC v0 v1 v2 v3 v4 v5 n r p:=by
 obtain ⟨r,p,hk,hG⟩:∃ r p,Kin r p∧∀ W,Calls Tryz.prog 60 #[.agg ([.int .i64 v0,.int .i64 v1,.int .i64 v2,.int .i64 v3,.int .i64 v4,.int .i64 v5]:List Value).toArray] W fun e w'=>e=.returned (.agg (recV r).toArray)∧Ext W w' :=
  ⟨_,_,.inl ⟨v0,v1,v2,v3,v4,v5,rfl,rfl⟩,fun W=>good_ v0 v1 v2 v3 v4 v5 W h0 h1 h2 h3 h4 h5⟩
 refine ⟨r,p,hk,fun w=>?_⟩
 have HGD:=Lib.hid hG
 have HNW:=Lib.hid (fun W=>ref_new r p W hk.both)
 have b1:=(Box.new w 23 [.int .i64 v0,.int .i64 v1,.int .i64 v2,.int .i64 v3,.int .i64 v4,.int .i64 v5]).alloc (.cells zero17.toArray 31)
 have c1:=Box.new (w.alloc (.cells ([.int .i64 v0,.int .i64 v1,.int .i64 v2,.int .i64 v3,.int .i64 v4,.int .i64 v5]:List Value).toArray 23)) 31 zero17
 have hs1:(w.alloc (.cells ([.int .i64 v0,.int .i64 v1,.int .i64 v2,.int .i64 v3,.int .i64 v4,.int .i64 v5]:List Value).toArray 23)).heap.size=w.heap.size+1:=by simp
 rw [hs1] at c1
 have hx1:Ext w ((w.alloc (.cells ([.int .i64 v0,.int .i64 v1,.int .i64 v2,.int .i64 v3,.int .i64 v4,.int .i64 v5]:List Value).toArray 23)).alloc (.cells zero17.toArray 31)):=Ext.alloc_ (Ext.alloc_ (Ext.refl w) _) _
 have HRG:=Lib.hid b1.range
 have HC1:=Lib.hid c1
 have HX1:=Lib.hid hx1
 have hb:(n.tmod 3 == 0)=true:=by simpa using hm
 clear hk hG b1 c1 hs1 hx1 hm h0 h1 h2 h3 h4 h5 hn
 go_enter Tryz.func30,Tryz.ntmps30
 go_upto_region 1 with fail
 change Code.wp _ _ _ _ ((w.alloc (.cells ([.int .i64 v0,.int .i64 v1,.int .i64 v2,.int .i64 v3,.int .i64 v4,.int .i64 v5]:List Value).toArray 23)).alloc (.cells zero17.toArray 31))
 generalize (w.alloc (.cells ([.int .i64 v0,.int .i64 v1,.int .i64 v2,.int .i64 v3,.int .i64 v4,.int .i64 v5]:List Value).toArray 23)).alloc (.cells zero17.toArray 31)=w1 at *
 go_wp2_with (first
  | (refine wpList_load_mid rfl 23 (.tmp 2) rfl w.heap.size 0 rfl [.int .i64 v0,.int .i64 v1,.int .i64 v2,.int .i64 v3,.int .i64 v4,.int .i64 v5] _ HRG.out Tryz.underlying23 rfl infoG ?_)
  | (go_at_call 60;refine (HGD.out _).mono ?_;rintro e w2 ⟨rfl,hx2⟩)
  | (go_at_call 59;refine (HNW.out _).mono ?_;rintro e w3 ⟨A,B,C,D,c,d,a,b,rfl,hpt,hcap,hx3⟩;have HC3:=Lib.hid (HC1.out.ext (hx2.trans hx3)))
  | (refine wpList_store_row rfl 31 (.tmp 4) (.tmp 10) rfl (w.heap.size+1) (refLV A B C D c d a b r p).toArray rfl rfl _ _ HC3.out infoRL rfl (refL_one A B C D c d a b r p) ?_))
 have hb5:=HC3.out.set (refLV A B C D c d a b r p).toArray
 have hle:w.heap.size≤w.heap.size+1:=Nat.le_succ _
 refine bodyPost_ret (v:=.agg (refLV A B C D c d a b r p).toArray) (results_cell_row rfl _ _ (w.heap.size+1) _ _ _ _ rfl hb5 Tryz.underlying31 rfl infoRL) rfl ⟨A,B,C,D,c,d,a,b,rfl,pt_setRow HC3.out hpt _,hcap,Ext.setRow (HX1.out.trans (hx2.trans hx3)) hle _⟩
theorem locale_forty (v0 v1 v2 v3 v4 v5 n:Int) (hn:i64 n) (hm:¬ n.tmod 3=0):∃ r p,Kin r p∧LocaleC v0 v1 v2 v3 v4 v5 n r p:=by
 have ha:=aroundF_bd n 1048576 (by omega)
 have hq0:0≤(aroundF n 1048576).tdiv 3∧(aroundF n 1048576).tdiv 3≤1048576:=by
  rw [Int.tdiv_eq_ediv_of_nonneg ha.1];omega
 have hkb:=aroundF_bd ((aroundF n 1048576).tdiv 3) 40 (by omega)
 have hk:(aroundF ((aroundF n 1048576).tdiv 3) 40).toNat < 40:=by omega
 refine ⟨rec40 (aroundF ((aroundF n 1048576).tdiv 3) 40).toNat,pat40 (aroundF ((aroundF n 1048576).tdiv 3) 40).toNat,.inr ⟨_,hk,rfl,rfl⟩,fun w=>?_⟩
 have HONE:Hid (∀ W,Calls Tryz.prog 61 #[.int .i64 ((aroundF n 1048576).tdiv 3)] W fun e w'=>e=.returned (.agg (recV (rec40 (aroundF ((aroundF n 1048576).tdiv 3) 40).toNat)).toArray)∧Ext W w'):=Lib.hid fun W=>by
  have h:=Forty.ref_one ((aroundF n 1048576).tdiv 3) W (by omega) (by omega)
  rw [Forty.recV_L,← rec40_V] at h
  exact h
 have HBO:=Lib.hid (both_40 hk)
 generalize rec40 (aroundF ((aroundF n 1048576).tdiv 3) 40).toNat=r at *
 generalize pat40 (aroundF ((aroundF n 1048576).tdiv 3) 40).toNat=p at *
 have HNW:=Lib.hid (fun W=>ref_new r p W HBO.out)
 have b1:=(Box.new w 23 [.int .i64 v0,.int .i64 v1,.int .i64 v2,.int .i64 v3,.int .i64 v4,.int .i64 v5]).alloc (.cells zero17.toArray 31)
 have c1:=Box.new (w.alloc (.cells ([.int .i64 v0,.int .i64 v1,.int .i64 v2,.int .i64 v3,.int .i64 v4,.int .i64 v5]:List Value).toArray 23)) 31 zero17
 have hs1:(w.alloc (.cells ([.int .i64 v0,.int .i64 v1,.int .i64 v2,.int .i64 v3,.int .i64 v4,.int .i64 v5]:List Value).toArray 23)).heap.size=w.heap.size+1:=by simp
 rw [hs1] at c1
 have hx1:Ext w ((w.alloc (.cells ([.int .i64 v0,.int .i64 v1,.int .i64 v2,.int .i64 v3,.int .i64 v4,.int .i64 v5]:List Value).toArray 23)).alloc (.cells zero17.toArray 31)):=Ext.alloc_ (Ext.alloc_ (Ext.refl w) _) _
 have HC1:=Lib.hid c1
 have HX1:=Lib.hid hx1
 have hb:(n.tmod 3 == 0)=false:=by simpa using hm
 have HAR:Hid (∀ W,Calls Tryz.prog 15 #[.int .i64 n,.int .i64 1048576] W fun e w'=>e=.returned (.int .i64 (aroundF n 1048576))∧W=w'):=Lib.hid fun W=>around _ _ W hn.1 hn.2 (by omega) (by omega)
 clear b1 c1 hs1 hx1 hm hn hkb hk
 generalize aroundF n 1048576=z at *
 go_enter Tryz.func30,Tryz.ntmps30
 go_upto_region 1 with fail
 change Code.wp _ _ _ _ ((w.alloc (.cells ([.int .i64 v0,.int .i64 v1,.int .i64 v2,.int .i64 v3,.int .i64 v4,.int .i64 v5]:List Value).toArray 23)).alloc (.cells zero17.toArray 31))
 generalize (w.alloc (.cells ([.int .i64 v0,.int .i64 v1,.int .i64 v2,.int .i64 v3,.int .i64 v4,.int .i64 v5]:List Value).toArray 23)).alloc (.cells zero17.toArray 31)=w1 at *
 go_wp2_with (first
  | (go_at_call 15;refine (HAR.out _).mono ?_;rintro e w5 ⟨rfl,rfl⟩)
  | (go_at_call 61;refine (HONE.out _).mono ?_;rintro e w2 ⟨rfl,hx2⟩)
  | (go_at_call 59;refine (HNW.out _).mono ?_;rintro e w3 ⟨A,B,C,D,c,d,a,b,rfl,hpt,hcap,hx3⟩;have HC3:=Lib.hid (HC1.out.ext (hx2.trans hx3)))
  | (refine wpList_store_row rfl 31 (.tmp 4) (.tmp 15) rfl (w.heap.size+1) (refLV A B C D c d a b r p).toArray rfl rfl _ _ HC3.out infoRL rfl (refL_one A B C D c d a b r p) ?_))
 have hb5:=HC3.out.set (refLV A B C D c d a b r p).toArray
 have hle:w.heap.size≤w.heap.size+1:=Nat.le_succ _
 refine bodyPost_ret (v:=.agg (refLV A B C D c d a b r p).toArray) (results_cell_row rfl _ _ (w.heap.size+1) _ _ _ _ rfl hb5 Tryz.underlying31 rfl infoRL) rfl ⟨A,B,C,D,c,d,a,b,rfl,pt_setRow HC3.out hpt _,hcap,Ext.setRow (HX1.out.trans (hx2.trans hx3)) hle _⟩
set_option maxRecDepth 512
theorem locale_any (v0 v1 v2 v3 v4 v5 n:Int) (h0:i64 v0) (h1:i64 v1) (h2:i64 v2) (h3:i64 v3) (h4:i64 v4) (h5:i64 v5) (hn:i64 n):∃ r p,Kin r p∧LocaleC v0 v1 v2 v3 v4 v5 n r p:=by
 by_cases hm:n.tmod 3=0
 ·exact locale_good v0 v1 v2 v3 v4 v5 n h0 h1 h2 h3 h4 h5 hn hm
 ·exact locale_forty v0 v1 v2 v3 v4 v5 n hn hm
theorem results_two {fn:Func} {p q:Tmp} {ty:TypeId} (h:fn.results=#[.tmp p,.cell q ty]) (tmps:Array Value) (w:World) (g:Nat) (cs:List Value) {fs:Array _} {T:TypeId}
  (h2:tmps.getD q undef=.pointer (some ⟨g,0,none⟩)) (hb:Box w g T cs) (hu:Tryz.prog.underlying ty=some (.struct fs)) (hi:(Tryz.prog.info? ty).map (·.size)=some cs.length) :
  (results fn tmps).run Tryz.prog w=.ok (.tuple #[tmps.getD p undef,.agg cs.toArray]) w:=by
 have h2':tmps[q]?.getD undef=.pointer (some ⟨g,0,none⟩):=by simpa using h2
 have e1:=run_loadVar_row (P:=Tryz.prog) w g T ty cs.toArray (0,0) _ hb hu rfl (by rw [hi];simp)
 simp [results,h,h2',asAddr,e1]
end Go.Proofs.YtcghgkagpkmpeaaGreatDoor.Loc
