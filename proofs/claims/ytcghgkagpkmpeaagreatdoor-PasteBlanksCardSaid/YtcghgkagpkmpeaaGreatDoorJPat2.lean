/- Joined by wip/join.py: Pat6 Pat7 Pat8 Pat9. -/
import Derived.Test.YtcghgkagpkmpeaaGreatDoorJPat1
import Derived.Deep.DeepCutAuto
import Derived.Deep.RegionWith
import Derived.Deep.RegionHeld3
import Derived.Defers
import Derived.Recover
import Derived.Deep.WholeRow
set_option linter.unusedVariables false
set_option linter.unusedSimpArgs false
set_option maxHeartbeats 4000000
namespace Go.Proofs.YtcghgkagpkmpeaaGreatDoor.Pat
open Go.RowKit Utf All Small Strs
def fromN (l:List Pc):Nat:=(idxF (isK 4) l).toNat
def runOf (l:List Pc):List Pc:=(l.drop (fromN l)).takeWhile (isK 4)
def toN (l:List Pc):Nat:=fromN l+(runOf l).length
def textOf (l:List Pc):List UInt8:=l.flatMap (·.2)
def halfF (l:List Pc):Option (List Pc × List Pc × Nums × Bool) :=
 if idxF (isK 4) l < 0 then none else if (l.drop (toN l)).any (isK 4) then none else
  (numP (textOf (runOf l))).map fun r=>(joinF (l.take (fromN l)),joinF (l.drop (toN l)),r.1,r.2)
def nilS:Value:=.slice none 0 0
def HalfR (w:World):Option (List Pc × List Pc × Nums × Bool)→Ending→World→Prop
 | none,e,w'=>e=refused∧Ext w w'
 | some (p,s,n,b),e,w'=>∃ A c B d,e=.returned (.tuple #[.agg (patC (.slice A p.length c) (.slice B s.length d) nilS nilS n).toArray,.bool b])∧Row w' A (pcsV p)∧Row w' B (pcsV s)∧Fresh w A∧Fresh w B∧p.length≤c∧Okc A c∧s.length≤d∧Okc B d∧Ext w w'
theorem textOf_len (l:List Pc):(textOf l).length=tot l:=by
 induction l with
 | nil=>rfl
 | cons p l ih =>
  have e:tot (p :: l)=p.2.length+tot l:=by simp [tot]
  have e2:textOf (p :: l)=p.2++textOf l:=rfl
  rw [e2,List.length_append,ih,e]
theorem textOf_snoc {l:List Pc} {k:Nat} (hk:k < l.length):textOf (l.take (k+1))=textOf (l.take k)++l[k].2:=by
 unfold textOf;rw [List.take_succ_eq_append_getElem hk,List.flatMap_append];simp
theorem tw_prefix {α:Type} (p:α→Bool) (l:List α) (k:Nat) (hk:k < (l.takeWhile p).length):∃ h:k < l.length,l[k]=(l.takeWhile p)[k]∧p l[k]=true:=by
 induction l generalizing k with
 | nil=>simp at hk
 | cons a l ih =>
  by_cases ha:p a=true
  ·have e:(a :: l).takeWhile p=a :: l.takeWhile p:=by rw [List.takeWhile_cons,if_pos ha]
   cases k with
   | zero=>exact ⟨by simp,by simp [e],ha⟩
   | succ k =>
    rw [e] at hk
    obtain ⟨h,h1,h2⟩:=ih k (by simpa using hk)
    exact ⟨by simpa using h,by simp [e,h1],by simpa using h2⟩
  ·rw [List.takeWhile_cons,if_neg ha] at hk;simp at hk
theorem tw_stop {α:Type} (p:α→Bool) (l:List α) (h:(l.takeWhile p).length < l.length):p l[(l.takeWhile p).length]=false:=by
 induction l with
 | nil=>simp at h
 | cons a l ih =>
  by_cases ha:p a=true
  ·have e:(a :: l).takeWhile p=a :: l.takeWhile p:=by rw [List.takeWhile_cons,if_pos ha]
   simp only [e,List.length_cons,List.getElem_cons_succ]
   simp only [e,List.length_cons,Nat.add_lt_add_iff_right] at h
   exact ih h
  ·have e:(a :: l).takeWhile p=[]:=by rw [List.takeWhile_cons,if_neg ha]
   simp only [e,List.length_nil,List.getElem_cons_zero]
   simpa using ha
theorem idxF_lt {α:Type} (p:α→Bool) (l:List α) (h:0≤idxF p l):(idxF p l).toNat < l.length:=by
 unfold idxF at h ⊢
 cases hf:l.findIdx? p with
 | none=>rw [hf] at h;simp at h
 | some i =>
  rw [List.findIdx?_eq_some_iff_getElem] at hf
  obtain ⟨hi,_⟩:=hf
  simpa using hi
theorem contains_n (A:Option Addr) (c n:Nat) (l:List Pc) (w:World) (hn:l.length=n) (hr:Row w A (pcsV l)) (hl:l.length≤10000000000) :
  Calls Tryz.prog 139 #[.slice A n c,.func (.func 178) #[] #[]] w fun e w'=>e=.returned (.bool (l.any (isK 4)))∧Ext w w':=by
 subst hn;exact contains_half A c l w hr hl
theorem pcsV_drop (l:List Pc) (k:Nat):(pcsV l).drop (k * 2)=pcsV (l.drop k):=by
 induction k generalizing l with
 | zero=>rfl
 | succ k ih =>
  cases l with
  | nil=>simp [pcsV]
  | cons p l =>
   have e:pcsV (p :: l)=.int .i64 p.1 :: .string ⟨p.2.toArray⟩ :: pcsV l:=rfl
   rw [e,Nat.succ_mul]
   exact ih l
theorem pcsV_take (l:List Pc) (k:Nat):(pcsV l).take (k * 2)=pcsV (l.take k):=by
 induction k generalizing l with
 | zero=>simp [pcsV]
 | succ k ih =>
  cases l with
  | nil=>simp [pcsV]
  | cons p l =>
   have e:pcsV (p :: l)=.int .i64 p.1 :: .string ⟨p.2.toArray⟩ :: pcsV l:=rfl
   have e2:pcsV ((p :: l).take (k+1))=.int .i64 p.1 :: .string ⟨p.2.toArray⟩ :: pcsV (l.take k):=rfl
   rw [e,e2,Nat.succ_mul,← ih l]
   rfl
theorem row_drop {w:World} {b off:Nat} {l:List Pc} (h:Row w (some ⟨b,off,none⟩) (pcsV l)) (k:Nat):Row w (some ⟨b,off+k * 2,none⟩) (pcsV (l.drop k)):=by
 rw [← pcsV_drop];exact Row.drop h
theorem row_take {w:World} {A:Option Addr} {l:List Pc} (h:Row w A (pcsV l)) (k:Nat):Row w A (pcsV (l.take k)):=by
 rw [← pcsV_take];exact Row.take h
theorem infoPat:(Tryz.prog.info? 131).map (·.size)=some 9:=by kernel_rfl
theorem pat_one {A B C D:Option Addr} {n m o q c d e f:Nat} {x:Nums}:(patC (.slice A n c) (.slice B m d) (.slice C o e) (.slice D q f) x).toArray.all (·.oneCell')=true:=by simp [patC,Value.oneCell']
theorem results_half {fn:Func} (h:fn.results=#[.cell 2 131,.tmp 3]) (tmps:Array Value) (w:World) (g:Nat) (cs:List Value)
  (h2:tmps.getD 2 undef=.pointer (some ⟨g,0,none⟩)) (hb:Box w g 131 cs) (hl:cs.length=9) :
  (results fn tmps).run Tryz.prog w=.ok (.tuple #[.agg cs.toArray,tmps.getD 3 undef]) w:=by
 have h2':tmps[2]?.getD undef=.pointer (some ⟨g,0,none⟩):=by simpa using h2
 have e1:=run_loadVar_row (P:=Tryz.prog) w g _ 131 cs.toArray (0,0) _ hb Tryz.underlying131 rfl (by rw [infoPat];simp [hl])
 simp [results,h,h2',asAddr,e1]
theorem Row.setRow {w:World} {A:Option Addr} {g:Nat} {cs:List Value} {ds:Array Value} (h:Row w A cs) (hne:∀ b off,A=some ⟨b,off,none⟩→b ≠ g):Row (w.setRow g ds) A cs:=by
 rcases h with h | ⟨b,off,rfl,h⟩
 ·exact .inl h
 ·exact .inr ⟨b,off,rfl,fun j v hj=>(World.cell?_of_block (setRow_other w g b ds (hne b off rfl))).trans (h j v hj)⟩
theorem fresh_weak {w0 w:World} {B:Option Addr} (h:Fresh w B) (hs:w0.heap.size≤w.heap.size):Fresh w0 B:=fun a ha=>Nat.le_trans hs (h a ha)
theorem OnlyB.trans {g:Nat} {a b c:World} (h:OnlyB g a b) (k:OnlyB g b c):OnlyB g a c :=
 ⟨k.os.trans h.os,k.tape.trans h.tape,k.output.trans h.output,Nat.le_trans h.size k.size,fun i hi hne=>(k.block i (Nat.lt_of_lt_of_le hi h.size) hne).trans (h.block i hi hne)⟩
theorem OnlyB.ext {g:Nat} {w v v':World} (h:OnlyB g v v') (hx:Ext w v) (hg:w.heap.size≤g):Ext w v' :=
 ⟨h.os.trans hx.os,h.tape.trans hx.tape,h.output.trans hx.output,Nat.le_trans hx.size h.size,fun k hk=>(h.block k (Nat.lt_of_lt_of_le hk hx.size) (by omega)).trans (hx.block k hk)⟩
theorem Row.past {g:Nat} {w v v':World} {A:Option Addr} {cs:List Value} (hr:Row w A cs) (hx:Ext w v) (h:OnlyB g v v') (hg:w.heap.size≤g):Row v' A cs :=
 hr.below (OnlyB.ext h hx hg) (Nat.le_refl _)
theorem Box.after {W w':World} {T:TypeId} {c:Array Value} (h:Ext (W.alloc (.cells c T)) w'):Box w' W.heap.size T c.toList:=by
 have hb:Box (W.alloc (.cells c T)) W.heap.size T c.toList:=by unfold Box;rw [Array.toArray_toList];exact heap_alloc_new W _
 exact hb.ext h
theorem Box.after' {W w':World} {T:TypeId} {c:Array Value} (h:Ext (W.alloc (.cells c T)).drew w'):Box w' W.heap.size T c.toList :=
 Box.after (W:=W) (T:=T) (c:=c) ⟨h.os,h.tape,h.output,h.size,h.block⟩
theorem box9 {w:World} {g:Nat} {T:TypeId} {c0 c1 c2 c3 c4 c5 c6 c7 c8:Value} (h:Box w g T [c0,c1,c2,c3,c4,c5,c6,c7,c8]) :
  w.cell? ⟨g,0,none⟩=some c0∧w.cell? ⟨g,1,none⟩=some c1∧w.cell? ⟨g,2,none⟩=some c2∧w.cell? ⟨g,3,none⟩=some c3∧w.cell? ⟨g,4,none⟩=some c4∧w.cell? ⟨g,5,none⟩=some c5∧w.cell? ⟨g,6,none⟩=some c6∧w.cell? ⟨g,7,none⟩=some c7∧w.cell? ⟨g,8,none⟩=some c8 ∧
  w.frozen? ⟨g,0,none⟩=false∧w.frozen? ⟨g,1,none⟩=false∧w.frozen? ⟨g,2,none⟩=false∧w.frozen? ⟨g,3,none⟩=false∧w.frozen? ⟨g,4,none⟩=false∧w.frozen? ⟨g,5,none⟩=false∧w.frozen? ⟨g,6,none⟩=false∧w.frozen? ⟨g,7,none⟩=false∧w.frozen? ⟨g,8,none⟩=false :=
 ⟨h.cell (j:=0) rfl,h.cell (j:=1) rfl,h.cell (j:=2) rfl,h.cell (j:=3) rfl,h.cell (j:=4) rfl,h.cell (j:=5) rfl,h.cell (j:=6) rfl,h.cell (j:=7) rfl,h.cell (j:=8) rfl,
  h.frozen 0,h.frozen 1,h.frozen 2,h.frozen 3,h.frozen 4,h.frozen 5,h.frozen 6,h.frozen 7,h.frozen 8⟩
set_option maxRecDepth 100000
theorem half_ (A:Option Addr) (c:Nat) (l:List Pc) (w:World) (hr:Row w A (pcsV l)) (hl:l.length≤1000000000) (ht:tot l≤1000000000) (hlc:l.length≤c) :
  Calls Tryz.prog 118 #[.slice A l.length c] w fun e w'=>HalfR w (halfF l) e w':=by
 have hb0:=Box.new w 131 (patC nilS nilS nilS nilS zeroN)
 have hx0:Ext w (w.alloc (.cells (patC nilS nilS nilS nilS zeroN).toArray 131)):=Ext.alloc_ (Ext.refl w) _
 have hr0:=hr.below hx0 (Nat.le_refl _)
 have hs0:(w.alloc (.cells (patC nilS nilS nilS nilS zeroN).toArray 131)).heap.size=w.heap.size+1:=by simp
 go_enter Tryz.func118,Tryz.ntmps118
 go_wp2_with fail
 change Calls _ _ _ (w.alloc (.cells (patC nilS nilS nilS nilS zeroN).toArray 131)) _
 generalize w.alloc (.cells (patC nilS nilS nilS nilS zeroN).toArray 131)=w0 at *
 refine (index_half _ _ _ _ hr0 (by omega)).mono ?_;rintro e w1 ⟨rfl,hx1⟩
 have hb1:=hb0.ext hx1
 have hr1:=hr0.below hx1 (Nat.le_refl _)
 have hxx:Ext w w1:=hx0.trans hx1
 have hs1:=hx1.size
 rw [hs0] at hs1
 clear hb0 hr0 hx0 hx1 hs0
 by_cases hi:idxF (isK 4) l < 0
 ·have H0:Hid (halfF l=none):=Lib.hid (by unfold halfF;rw [if_pos hi])
  have HD:Hid (decide (0≤idxF (isK 4) l)=false):=Lib.hid (by simp;omega)
  clear hi
  go_wp2_with fail
  rw [HD.out]
  refine (must_no _).mono ?_;rintro e w2 ⟨rfl,rfl⟩
  go_wp2
  refine ⟨rfl,?_⟩
  rw [H0.out]
  exact ⟨rfl,hxx⟩
 ·have hi0:0≤idxF (isK 4) l:=by omega
  have hfl:=idxF_lt _ _ hi0
  have HD:Hid (decide (0≤idxF (isK 4) l)=true):=Lib.hid (by simp;omega)
  have HH:Hid (halfF l=if (l.drop (toN l)).any (isK 4) then none else (numP (textOf (runOf l))).map fun r=>(joinF (l.take (fromN l)),joinF (l.drop (toN l)),r.1,r.2)):=Lib.hid (by unfold halfF;rw [if_neg hi])
  have hft:toN l=fromN l+(runOf l).length:=rfl
  have hrl:(runOf l).length≤l.length - fromN l:=by
   unfold runOf
   exact Nat.le_trans (List.takeWhile_prefix _).length_le (by simp)
  have hrt:tot (runOf l)≤tot l:=by
   have e:=List.takeWhile_append_dropWhile (p:=isK 4) (l:=l.drop (fromN l))
   have e2:tot (runOf l)≤tot (l.drop (fromN l)):=by
    unfold runOf
    conv=>rhs;rw [← e,tot_app]
    omega
   exact Nat.le_trans e2 (tot_drop l _)
  have HG0:∀ j,j < (runOf l).length→∃ h:fromN l+j < l.length,l[fromN l+j].2=((runOf l)[j]?.getD (0,[])).2∧isK 4 l[fromN l+j]=true:=by
   intro j hj
   obtain ⟨h,h1,h2⟩:=tw_prefix (isK 4) (l.drop (fromN l)) j hj
   rw [List.length_drop] at h
   rw [List.getElem_drop] at h1 h2
   exact ⟨by omega,by rw [h1,List.getElem?_eq_getElem hj];rfl,h2⟩
  have HST0:∀ h:toN l < l.length,isK 4 l[toN l]=false:=by
   intro h
   have:=tw_stop (isK 4) (l.drop (fromN l)) (by rw [List.length_drop];unfold toN runOf at h;omega)
   rw [List.getElem_drop] at this
   exact this
  have HF:Hid (idxF (isK 4) l=(fromN l:Nat)):=Lib.hid (by unfold fromN;omega)
  have hff:fromN l < l.length:=hfl
  generalize fromN l=f at *
  generalize toN l=t at *
  generalize runOf l=run at *
  generalize idxF (isK 4) l=ix at *
  have HG:=Lib.hid HG0
  have HST:=Lib.hid HST0
  clear HG0 HST0
  have hix:=HF.out
  subst hix
  clear hi hi0 hfl
  go_wp2_with fail
  refine (must_ok _).mono ?_;rintro e w2 ⟨rfl,rfl⟩
  obtain ⟨b,off,rfl,-,-⟩:=row_pc hr1 hff
  have HFT:=Lib.hid hft
  have htle:t≤l.length:=by omega
  have htlc:t≤c:=by omega
  have htl2:(textOf run).length≤tot l:=by rw [textOf_len];exact hrt
  clear hft
  go_wp2
  go_loopw [6,7] (fun tv s wr=>∃ j tt:Nat,tt=f+j∧j≤run.length∧tv=.int .i64 (tt:Int)∧s=.string ⟨(textOf (run.take j)).toArray⟩∧Ext w1 wr) (fun tv _ _=>l.length - (intOf tv).toNat)
  case atStart=>exact ⟨0,f,rfl,Nat.zero_le _,rfl,rfl,Ext.refl _⟩
  case round =>
   obtain ⟨j,tt,htt,hj,rfl,rfl,hx⟩:=hrel
   have hrw:=hr1.below hx (Nat.le_refl _)
   by_cases hlt:j < run.length
   ·obtain ⟨hq,hq2,hq3⟩:=HG.out j hlt
    subst htt
    obtain ⟨_,_,e1,hc1,hc2⟩:=row_pc hrw hq
    injection e1 with e1
    injection e1 with e1 e2
    subst e1;subst e2
    have HT:Hid (textOf (run.take (j+1))=textOf (run.take j)++l[f+j].2):=Lib.hid (by rw [textOf_snoc hlt,hq2,List.getElem?_eq_getElem hlt];rfl)
    have hle:(textOf (run.take j)).length+l[f+j].2.length≤tot run:=by
     rw [← List.length_append,← HT.out,textOf_len];exact tot_take _ _
    generalize l[f+j]=x at *
    generalize textOf (run.take j)=tx at *
    have HK:=Lib.hid hq3
    have hsum:¬ 9223372036854775807 < tx.length+x.2.length:=by omega
    generalize hjj:f+j=tt at *
    have HJJ:=Lib.hid hjj
    clear hq2 hq3 hjj
    go_wp2_with fail
    refine (isK_half x _).mono ?_;rintro e w3 ⟨rfl,hx3⟩
    rw [HK.out]
    have hc3:=Ext.cell_ hx3 hc2
    go_wp2
    go_roundw
    case rel=>exact ⟨j+1,tt+1,by rw [← HJJ.out];omega,by omega,by go_num,by rw [HT.out,app_mk],hx.trans hx3⟩
    case measure=>simp [intOf];omega
   ·have e:j=run.length:=by omega
    subst e
    subst htt
    rw [List.take_length]
    have hft2:=HFT.out
    clear hj hlt
    by_cases htl:f+run.length < l.length
    ·obtain ⟨_,_,e1,hc1,hc2⟩:=row_pc hrw htl
     injection e1 with e1
     injection e1 with e1 e2
     subst e1;subst e2
     have HK:Hid (isK 4 l[f+run.length]=false):=Lib.hid (by have:=HST.out (by omega);simpa [hft2] using this)
     generalize l[f+run.length]=x at *
     rw [← hft2] at hc1 hc2 htl ⊢
     clear hft2
     have hct:¬ c=t:=by omega
     go_wp2_with fail
     refine (isK_half x _).mono ?_;rintro e w3 ⟨rfl,hx3⟩
     rw [HK.out]
     have hz:=hx.trans hx3
     clear hc1 hc2 hx hx3 hrw HK
     --TAIL0
     go_wp2_with fail
     (refine (contains_n _ _ _ (l.drop t) _ (by first | (simp;done) | (simp;omega)) (by first | exact row_drop (hr1.below hz (Nat.le_refl _)) t | (rw [List.drop_of_length_le (by omega)];exact Row.nil)) (by simp;omega)).mono ?_;rintro e w4 ⟨rfl,hx4⟩)
     cases hany:(l.drop t).any (isK 4)
     ·have HA:=Lib.hid hany
      clear hany
      go_wp2_with fail
      refine (must_ok _).mono ?_;rintro e w5 ⟨rfl,rfl⟩
      have hz4:=hz.trans hx4
      clear hz hx4
      have HJA:Hid (∀ W,Ext w4 W→Calls Tryz.prog 179 #[.slice (some ⟨b,off,none⟩) f c] W fun e w'=>∃ B d,e=.returned (.slice B (joinF (l.take f)).length d)∧Row w' B (pcsV (joinF (l.take f)))∧(joinF (l.take f)).length≤d∧Okc B d∧Fresh W B∧Ext W w'):=Lib.hid (fun W hW=>joined_n _ _ f (l.take f) W (by simp;omega) (row_take (hr1.below (hz4.trans hW) (Nat.le_refl _)) f) (by simp;omega) (Nat.le_trans (tot_take _ _) (by omega)))
      have HJB:Hid (∀ W,Ext w4 W→Calls Tryz.prog 179 #[.slice (some ⟨b,off+t * 2,none⟩) (l.length - t) (c - t)] W fun e w'=>∃ B d,e=.returned (.slice B (joinF (l.drop t)).length d)∧Row w' B (pcsV (joinF (l.drop t)))∧(joinF (l.drop t)).length≤d∧Okc B d∧Fresh W B∧Ext W w'):=Lib.hid (fun W hW=>joined_n _ _ (l.length - t) (l.drop t) W (by simp) (row_drop (hr1.below (hz4.trans hW) (Nat.le_refl _)) t) (by simp;omega) (Nat.le_trans (tot_drop _ _) (by omega)))
      have hb4:=Lib.hid (hb1.ext hz4)
      have hx14:=hxx.trans hz4
      have hs4:w.heap.size+1≤w4.heap.size:=Nat.le_trans hs1 hz4.size
      clear hb1 hz4 hr1 hr hxx hs1
      have hi1:(0:Int)≤(f:Int):=by omega
      have hi2:(f:Int)≤(c:Int):=by omega
      have hi3:(0:Int)≤(t:Int):=by omega
      have hi4:(t:Int)≤(c:Int):=by omega
      have hi5:(t:Int)≤(l.length:Int):=by omega
      have hi6:(f:Int)≤(l.length:Int):=by omega
      have hi7:f≤c:=by omega
      go_upto_region 10 with fail
      go_cut [8] (fun v wx=>∃ (g:Nat) (A1:Option Addr) (c1:Nat) (B1:Option Addr) (d1:Nat),v=.pointer (some ⟨g,0,none⟩)∧Box wx g 131 (patC (.slice A1 (joinF (l.take f)).length c1) (.slice B1 (joinF (l.drop t)).length d1) nilS nilS zeroN)∧w4.heap.size≤g ∧
       Hid (∀ w',OnlyB g wx w'→Row w' A1 (pcsV (joinF (l.take f))))∧Hid (∀ w',OnlyB g wx w'→Row w' B1 (pcsV (joinF (l.drop t))))∧Hid (Fresh w4 A1∧Fresh w4 B1∧(joinF (l.take f)).length≤c1∧Okc A1 c1∧(joinF (l.drop t)).length≤d1∧Okc B1 d1)∧Ext w4 wx)
      case first =>
       go_region_held3 (fun _=>True) (trivial) (first
        | (go_at_call 179;with_reducible refine (HJA.out _ ?_).mono ?_;(first | exact Ext.drew_ (Ext.refl _) | exact Ext.drew_ (Ext.alloc_ (Ext.refl _) _) | exact Ext.trans (Ext.drew_ (Ext.refl _)) (by assumption) | exact Ext.trans (Ext.drew_ (Ext.alloc_ (Ext.refl _) _)) (by assumption) | exact Ext.alloc_ (Ext.trans (Ext.drew_ (Ext.refl _)) (by assumption)) _ | exact Ext.refl _);rintro e w5 ⟨A1,c1,rfl,hA1,hA2,hA3,hA4,hx5⟩;(first | (have hbx:=Box.after hx5;obtain ⟨q0,q1,q2,q3,q4,q5,q6,q7,q8,r0,r1,r2,r3,r4,r5,r6,r7,r8⟩:=box9 hbx) | (have hbx:=Box.after' hx5;obtain ⟨q0,q1,q2,q3,q4,q5,q6,q7,q8,r0,r1,r2,r3,r4,r5,r6,r7,r8⟩:=box9 hbx) | (rename Box _ _ _ _=>hbz;have hbx:=hbz.ext hx5;obtain ⟨q0,q1,q2,q3,q4,q5,q6,q7,q8,r0,r1,r2,r3,r4,r5,r6,r7,r8⟩:=box9 hbx) | skip))
        | (go_at_call 179;with_reducible refine (HJB.out _ ?_).mono ?_;(first | exact Ext.drew_ (Ext.refl _) | exact Ext.drew_ (Ext.alloc_ (Ext.refl _) _) | exact Ext.trans (Ext.drew_ (Ext.refl _)) (by assumption) | exact Ext.trans (Ext.drew_ (Ext.alloc_ (Ext.refl _) _)) (by assumption) | exact Ext.alloc_ (Ext.trans (Ext.drew_ (Ext.refl _)) (by assumption)) _ | exact Ext.refl _);rintro e w6 ⟨B1,d1,rfl,hB1,hB2,hB3,hB4,hx6⟩;(first | (have hbx:=Box.after hx6;obtain ⟨q0,q1,q2,q3,q4,q5,q6,q7,q8,r0,r1,r2,r3,r4,r5,r6,r7,r8⟩:=box9 hbx) | (have hbx:=Box.after' hx6;obtain ⟨q0,q1,q2,q3,q4,q5,q6,q7,q8,r0,r1,r2,r3,r4,r5,r6,r7,r8⟩:=box9 hbx) | (rename Box _ _ _ _=>hbz;have hbx:=hbz.ext hx6;obtain ⟨q0,q1,q2,q3,q4,q5,q6,q7,q8,r0,r1,r2,r3,r4,r5,r6,r7,r8⟩:=box9 hbx) | skip)))
       all_goals (go_wp2_with fail;go_meet)
       ·have hn1:=Box.new w6 131 (patC (.slice A1 (joinF (l.take f)).length c1) (.slice B1 (joinF (l.drop t)).length d1) nilS nilS zeroN)
        have hx45:=(Ext.drew_ (Ext.refl w4)).trans hx5
        have hx46:=hx45.trans hx6
        have hA6:=hA1.below hx6 (Nat.le_refl _)
        exact ⟨_,A1,c1,B1,d1,rfl,hn1,hx46.size,Lib.hid fun w' hw=>Row.past hA6 (Ext.alloc_ (Ext.refl w6) _) hw (Nat.le_refl _),Lib.hid fun w' hw=>Row.past hB1 (Ext.alloc_ (Ext.refl w6) _) hw (Nat.le_refl _),Lib.hid ⟨fresh_weak hA4 (Nat.le_refl _),fresh_weak hB4 hx45.size,hA2,hA3,hB2,hB3⟩,hx46.alloc_ _⟩
       ·have hx45:=(Ext.drew_ (Ext.refl w4)).trans hx5
        have hx56:=(Ext.alloc_ (Ext.refl w5) _).trans hx6
        have hx46:=hx45.trans hx56
        have hsz:w5.heap.size < w6.heap.size:=hbx.lt
        exact ⟨_,A1,c1,B1,d1,rfl,((((((((((hbx).setCell 0 _).setCell 1 _).setCell 2 _).setCell 3 _).setCell 4 _).setCell 5 _).setCell 6 _).setCell 7 _).setCell 8 _),hx45.size,
         Lib.hid fun w' hw=>Row.past hA1 ((Ext.setCell_ (Ext.setCell_ (Ext.setCell_ (Ext.setCell_ (Ext.setCell_ (Ext.setCell_ (Ext.setCell_ (Ext.setCell_ (Ext.setCell_ hx56 (Nat.le_refl _) _ _) (Nat.le_refl _) _ _) (Nat.le_refl _) _ _) (Nat.le_refl _) _ _) (Nat.le_refl _) _ _) (Nat.le_refl _) _ _) (Nat.le_refl _) _ _) (Nat.le_refl _) _ _) (Nat.le_refl _) _ _)) hw (Nat.le_refl _),
         Lib.hid fun w' hw=>Row.only hB1 (OnlyB.trans ((((((((((OnlyB.of_ext (Ext.refl w6)).setCell 0 _).setCell 1 _).setCell 2 _).setCell 3 _).setCell 4 _).setCell 5 _).setCell 6 _).setCell 7 _).setCell 8 _) hw) (fun b' off' e _=>by have:=hB4 _ e;simp at this;omega),
         Lib.hid ⟨fresh_weak hA4 (Nat.le_refl _),fresh_weak hB4 (by have:=hx45.size;simp;omega),hA2,hA3,hB2,hB3⟩,(Ext.setCell_ (Ext.setCell_ (Ext.setCell_ (Ext.setCell_ (Ext.setCell_ (Ext.setCell_ (Ext.setCell_ (Ext.setCell_ (Ext.setCell_ hx46 hx45.size _ _) hx45.size _ _) hx45.size _ _) hx45.size _ _) hx45.size _ _) hx45.size _ _) hx45.size _ _) hx45.size _ _) hx45.size _ _)⟩
       ·have hx45:Ext w4 w5:=(Ext.drew_ (Ext.alloc_ (Ext.refl w4) _)).trans hx5
        have hx46:=hx45.trans hx6
        have hA6:=hA1.below hx6 (Nat.le_refl _)
        have hs5:w4.heap.size+1≤w5.heap.size:=by have:=hx5.size;simpa using this
        exact ⟨_,A1,c1,B1,d1,rfl,((((((((((hbx).setCell 0 _).setCell 1 _).setCell 2 _).setCell 3 _).setCell 4 _).setCell 5 _).setCell 6 _).setCell 7 _).setCell 8 _),Nat.le_refl _,
         Lib.hid fun w' hw=>Row.only hA6 (OnlyB.trans ((((((((((OnlyB.of_ext (Ext.refl w6)).setCell 0 _).setCell 1 _).setCell 2 _).setCell 3 _).setCell 4 _).setCell 5 _).setCell 6 _).setCell 7 _).setCell 8 _) hw) (fun b' off' e _=>by have:=hA4 _ e;simp at this;omega),
         Lib.hid fun w' hw=>Row.only hB1 (OnlyB.trans ((((((((((OnlyB.of_ext (Ext.refl w6)).setCell 0 _).setCell 1 _).setCell 2 _).setCell 3 _).setCell 4 _).setCell 5 _).setCell 6 _).setCell 7 _).setCell 8 _) hw) (fun b' off' e _=>by have:=hB4 _ e;dsimp only at this;omega),
         Lib.hid ⟨fresh_weak hA4 (by simp),fresh_weak hB4 hx45.size,hA2,hA3,hB2,hB3⟩,(Ext.setCell_ (Ext.setCell_ (Ext.setCell_ (Ext.setCell_ (Ext.setCell_ (Ext.setCell_ (Ext.setCell_ (Ext.setCell_ (Ext.setCell_ hx46 (Nat.le_refl _) _ _) (Nat.le_refl _) _ _) (Nat.le_refl _) _ _) (Nat.le_refl _) _ _) (Nat.le_refl _) _ _) (Nat.le_refl _) _ _) (Nat.le_refl _) _ _) (Nat.le_refl _) _ _) (Nat.le_refl _) _ _)⟩
      case rest =>
       obtain ⟨g,A1,c1,B1,d1,rfl,hbg,hg4,HRA,HRB,HFR,hx4c⟩:=hcut
       have hbr:=hb4.out.ext hx4c
       have HR1:Hid (halfF l=(numP (textOf run)).map fun r=>(joinF (l.take f),joinF (l.drop t),r.1,r.2)):=Lib.hid (by rw [HH.out,HA.out];rfl)
       clear HH HA HG HST HJA HJB hi1 hi2 hi3 hi4 hi5 hi6 hi7
       go_wp2_with fail
       refine (number_ g _ _ _ _ _ _ hbg (by rw [show (⟨(textOf run).toArray⟩:ByteArray).size=(textOf run).length from rfl];omega)).mono ?_
       rw [show ((⟨(textOf run).toArray⟩:ByteArray).data.toList)=textOf run from rfl]
       intro e w7 hN
       cases hnp:numP (textOf run) with
       | none =>
        rw [hnp] at hN HR1
        obtain ⟨rfl,hon⟩:=hN
        go_wp2
        refine ⟨rfl,?_⟩
        rw [HR1.out]
        exact ⟨rfl,OnlyB.ext hon (hx14.trans hx4c) (by omega)⟩
       | some r =>
        obtain ⟨n,bb⟩:=r
        rw [hnp] at hN HR1
        obtain ⟨rfl,hb7,hon⟩:=hN
        have HRR:=Lib.hid hb7.range
        have HB7:=Lib.hid (OnlyB.box hon hbr (by omega))
        clear hnp
        go_wp2_with (first
         | (refine wpList_load_mid rfl 131 (.tmp 8) rfl g 0 rfl (patC (.slice A1 (joinF (l.take f)).length c1) (.slice B1 (joinF (l.drop t)).length d1) nilS nilS n) _ HRR.out Tryz.underlying131 rfl infoPat ?_)
         | (refine wpList_store_row rfl 131 (.tmp 2) (.tmp 56) rfl w.heap.size (patC (.slice A1 (joinF (l.take f)).length c1) (.slice B1 (joinF (l.drop t)).length d1) nilS nilS n).toArray rfl rfl _ _ HB7.out infoPat rfl pat_one ?_))
        have hb8:=HB7.out.set (patC (.slice A1 (joinF (l.take f)).length c1) (.slice B1 (joinF (l.drop t)).length d1) nilS nilS n).toArray
        refine bodyPost_ret (results_half rfl _ _ w.heap.size _ rfl hb8 rfl) rfl ?_
        rw [HR1.out]
        obtain ⟨f1,f2,f3,f4,f5,f6⟩:=HFR.out
        have hws:w.heap.size < w4.heap.size:=by omega
        have hE:=OnlyB.ext hon (hx14.trans hx4c) (by omega)
        exact ⟨A1,c1,B1,d1,rfl,Row.setRow (HRA.out _ hon) (fun b' off' e=>by have:=f1 _ e;simp at this;omega),Row.setRow (HRB.out _ hon) (fun b' off' e=>by have:=f2 _ e;simp at this;omega),fresh_weak f1 (by omega),fresh_weak f2 (by omega),f3,f4,f5,f6,Ext.setRow hE (Nat.le_refl _) _⟩
     ·have H0:Hid (halfF l=none):=Lib.hid (by rw [HH.out,hany];rfl)
      clear hany
      go_wp2_with fail
      refine (must_no _).mono ?_;rintro e w5 ⟨rfl,rfl⟩
      go_wp2
      refine ⟨rfl,?_⟩
      rw [H0.out]
      exact ⟨rfl,(hxx.trans hz).trans hx4⟩
     --END0
    ·rw [← hft2] at htl ⊢
     clear hft2 hrw
     have hz:=hx
     clear hx
     by_cases hct:c=t
     ·subst c
      go_wp2_with fail
      (refine (contains_n _ _ _ (l.drop t) _ (by first | (simp;done) | (simp;omega)) (by first | exact row_drop (hr1.below hz (Nat.le_refl _)) t | (rw [List.drop_of_length_le (by omega)];exact Row.nil)) (by simp;omega)).mono ?_;rintro e w4 ⟨rfl,hx4⟩)
      cases hany:(l.drop t).any (isK 4)
      ·have HA:=Lib.hid hany
       clear hany
       go_wp2_with fail
       refine (must_ok _).mono ?_;rintro e w5 ⟨rfl,rfl⟩
       have hz4:=hz.trans hx4
       clear hz hx4
       have HJA:Hid (∀ W,Ext w4 W→Calls Tryz.prog 179 #[.slice (some ⟨b,off,none⟩) f t] W fun e w'=>∃ B d,e=.returned (.slice B (joinF (l.take f)).length d)∧Row w' B (pcsV (joinF (l.take f)))∧(joinF (l.take f)).length≤d∧Okc B d∧Fresh W B∧Ext W w'):=Lib.hid (fun W hW=>joined_n _ _ f (l.take f) W (by simp;omega) (row_take (hr1.below (hz4.trans hW) (Nat.le_refl _)) f) (by simp;omega) (Nat.le_trans (tot_take _ _) (by omega)))
       have HJB:Hid (∀ W,Ext w4 W→Calls Tryz.prog 179 #[.slice (some ⟨b,off,none⟩) 0 0] W fun e w'=>∃ B d,e=.returned (.slice B (joinF (l.drop t)).length d)∧Row w' B (pcsV (joinF (l.drop t)))∧(joinF (l.drop t)).length≤d∧Okc B d∧Fresh W B∧Ext W w'):=Lib.hid (fun W hW=>joined_n _ _ 0 (l.drop t) W (by simp;omega) (by rw [List.drop_of_length_le (by omega)];exact Row.nil) (by simp;omega) (Nat.le_trans (tot_drop _ _) (by omega)))
       have hb4:=Lib.hid (hb1.ext hz4)
       have hx14:=hxx.trans hz4
       have hs4:w.heap.size+1≤w4.heap.size:=Nat.le_trans hs1 hz4.size
       clear hb1 hz4 hr1 hr hxx hs1
       have hi1:(0:Int)≤(f:Int):=by omega
       have hi2:(f:Int)≤(t:Int):=by omega
       have hi3:(0:Int)≤(t:Int):=by omega
       have hi4:(t:Int)≤(t:Int):=by omega
       have hi5:(t:Int)≤(l.length:Int):=by omega
       have hi6:(f:Int)≤(l.length:Int):=by omega
       have hi7:f≤t:=by omega
       go_upto_region 10 with fail
       go_cut [8] (fun v wx=>∃ (g:Nat) (A1:Option Addr) (c1:Nat) (B1:Option Addr) (d1:Nat),v=.pointer (some ⟨g,0,none⟩)∧Box wx g 131 (patC (.slice A1 (joinF (l.take f)).length c1) (.slice B1 (joinF (l.drop t)).length d1) nilS nilS zeroN)∧w4.heap.size≤g ∧
        Hid (∀ w',OnlyB g wx w'→Row w' A1 (pcsV (joinF (l.take f))))∧Hid (∀ w',OnlyB g wx w'→Row w' B1 (pcsV (joinF (l.drop t))))∧Hid (Fresh w4 A1∧Fresh w4 B1∧(joinF (l.take f)).length≤c1∧Okc A1 c1∧(joinF (l.drop t)).length≤d1∧Okc B1 d1)∧Ext w4 wx)
       case first =>
        go_region_held3 (fun _=>True) (trivial) (first
         | (go_at_call 179;with_reducible refine (HJA.out _ ?_).mono ?_;(first | exact Ext.drew_ (Ext.refl _) | exact Ext.drew_ (Ext.alloc_ (Ext.refl _) _) | exact Ext.trans (Ext.drew_ (Ext.refl _)) (by assumption) | exact Ext.trans (Ext.drew_ (Ext.alloc_ (Ext.refl _) _)) (by assumption) | exact Ext.alloc_ (Ext.trans (Ext.drew_ (Ext.refl _)) (by assumption)) _ | exact Ext.refl _);rintro e w5 ⟨A1,c1,rfl,hA1,hA2,hA3,hA4,hx5⟩;(first | (have hbx:=Box.after hx5;obtain ⟨q0,q1,q2,q3,q4,q5,q6,q7,q8,r0,r1,r2,r3,r4,r5,r6,r7,r8⟩:=box9 hbx) | (have hbx:=Box.after' hx5;obtain ⟨q0,q1,q2,q3,q4,q5,q6,q7,q8,r0,r1,r2,r3,r4,r5,r6,r7,r8⟩:=box9 hbx) | (rename Box _ _ _ _=>hbz;have hbx:=hbz.ext hx5;obtain ⟨q0,q1,q2,q3,q4,q5,q6,q7,q8,r0,r1,r2,r3,r4,r5,r6,r7,r8⟩:=box9 hbx) | skip))
         | (go_at_call 179;with_reducible refine (HJB.out _ ?_).mono ?_;(first | exact Ext.drew_ (Ext.refl _) | exact Ext.drew_ (Ext.alloc_ (Ext.refl _) _) | exact Ext.trans (Ext.drew_ (Ext.refl _)) (by assumption) | exact Ext.trans (Ext.drew_ (Ext.alloc_ (Ext.refl _) _)) (by assumption) | exact Ext.alloc_ (Ext.trans (Ext.drew_ (Ext.refl _)) (by assumption)) _ | exact Ext.refl _);rintro e w6 ⟨B1,d1,rfl,hB1,hB2,hB3,hB4,hx6⟩;(first | (have hbx:=Box.after hx6;obtain ⟨q0,q1,q2,q3,q4,q5,q6,q7,q8,r0,r1,r2,r3,r4,r5,r6,r7,r8⟩:=box9 hbx) | (have hbx:=Box.after' hx6;obtain ⟨q0,q1,q2,q3,q4,q5,q6,q7,q8,r0,r1,r2,r3,r4,r5,r6,r7,r8⟩:=box9 hbx) | (rename Box _ _ _ _=>hbz;have hbx:=hbz.ext hx6;obtain ⟨q0,q1,q2,q3,q4,q5,q6,q7,q8,r0,r1,r2,r3,r4,r5,r6,r7,r8⟩:=box9 hbx) | skip)))
        all_goals (go_wp2_with fail;go_meet)
        ·have hn1:=Box.new w6 131 (patC (.slice A1 (joinF (l.take f)).length c1) (.slice B1 (joinF (l.drop t)).length d1) nilS nilS zeroN)
         have hx45:=(Ext.drew_ (Ext.refl w4)).trans hx5
         have hx46:=hx45.trans hx6
         have hA6:=hA1.below hx6 (Nat.le_refl _)
         exact ⟨_,A1,c1,B1,d1,rfl,hn1,hx46.size,Lib.hid fun w' hw=>Row.past hA6 (Ext.alloc_ (Ext.refl w6) _) hw (Nat.le_refl _),Lib.hid fun w' hw=>Row.past hB1 (Ext.alloc_ (Ext.refl w6) _) hw (Nat.le_refl _),Lib.hid ⟨fresh_weak hA4 (Nat.le_refl _),fresh_weak hB4 hx45.size,hA2,hA3,hB2,hB3⟩,hx46.alloc_ _⟩
        ·have hx45:=(Ext.drew_ (Ext.refl w4)).trans hx5
         have hx56:=(Ext.alloc_ (Ext.refl w5) _).trans hx6
         have hx46:=hx45.trans hx56
         have hsz:w5.heap.size < w6.heap.size:=hbx.lt
         exact ⟨_,A1,c1,B1,d1,rfl,((((((((((hbx).setCell 0 _).setCell 1 _).setCell 2 _).setCell 3 _).setCell 4 _).setCell 5 _).setCell 6 _).setCell 7 _).setCell 8 _),hx45.size,
          Lib.hid fun w' hw=>Row.past hA1 ((Ext.setCell_ (Ext.setCell_ (Ext.setCell_ (Ext.setCell_ (Ext.setCell_ (Ext.setCell_ (Ext.setCell_ (Ext.setCell_ (Ext.setCell_ hx56 (Nat.le_refl _) _ _) (Nat.le_refl _) _ _) (Nat.le_refl _) _ _) (Nat.le_refl _) _ _) (Nat.le_refl _) _ _) (Nat.le_refl _) _ _) (Nat.le_refl _) _ _) (Nat.le_refl _) _ _) (Nat.le_refl _) _ _)) hw (Nat.le_refl _),
          Lib.hid fun w' hw=>Row.only hB1 (OnlyB.trans ((((((((((OnlyB.of_ext (Ext.refl w6)).setCell 0 _).setCell 1 _).setCell 2 _).setCell 3 _).setCell 4 _).setCell 5 _).setCell 6 _).setCell 7 _).setCell 8 _) hw) (fun b' off' e _=>by have:=hB4 _ e;simp at this;omega),
          Lib.hid ⟨fresh_weak hA4 (Nat.le_refl _),fresh_weak hB4 (by have:=hx45.size;simp;omega),hA2,hA3,hB2,hB3⟩,(Ext.setCell_ (Ext.setCell_ (Ext.setCell_ (Ext.setCell_ (Ext.setCell_ (Ext.setCell_ (Ext.setCell_ (Ext.setCell_ (Ext.setCell_ hx46 hx45.size _ _) hx45.size _ _) hx45.size _ _) hx45.size _ _) hx45.size _ _) hx45.size _ _) hx45.size _ _) hx45.size _ _) hx45.size _ _)⟩
        ·have hx45:Ext w4 w5:=(Ext.drew_ (Ext.alloc_ (Ext.refl w4) _)).trans hx5
         have hx46:=hx45.trans hx6
         have hA6:=hA1.below hx6 (Nat.le_refl _)
         have hs5:w4.heap.size+1≤w5.heap.size:=by have:=hx5.size;simpa using this
         exact ⟨_,A1,c1,B1,d1,rfl,((((((((((hbx).setCell 0 _).setCell 1 _).setCell 2 _).setCell 3 _).setCell 4 _).setCell 5 _).setCell 6 _).setCell 7 _).setCell 8 _),Nat.le_refl _,
          Lib.hid fun w' hw=>Row.only hA6 (OnlyB.trans ((((((((((OnlyB.of_ext (Ext.refl w6)).setCell 0 _).setCell 1 _).setCell 2 _).setCell 3 _).setCell 4 _).setCell 5 _).setCell 6 _).setCell 7 _).setCell 8 _) hw) (fun b' off' e _=>by have:=hA4 _ e;simp at this;omega),
          Lib.hid fun w' hw=>Row.only hB1 (OnlyB.trans ((((((((((OnlyB.of_ext (Ext.refl w6)).setCell 0 _).setCell 1 _).setCell 2 _).setCell 3 _).setCell 4 _).setCell 5 _).setCell 6 _).setCell 7 _).setCell 8 _) hw) (fun b' off' e _=>by have:=hB4 _ e;dsimp only at this;omega),
          Lib.hid ⟨fresh_weak hA4 (by simp),fresh_weak hB4 hx45.size,hA2,hA3,hB2,hB3⟩,(Ext.setCell_ (Ext.setCell_ (Ext.setCell_ (Ext.setCell_ (Ext.setCell_ (Ext.setCell_ (Ext.setCell_ (Ext.setCell_ (Ext.setCell_ hx46 (Nat.le_refl _) _ _) (Nat.le_refl _) _ _) (Nat.le_refl _) _ _) (Nat.le_refl _) _ _) (Nat.le_refl _) _ _) (Nat.le_refl _) _ _) (Nat.le_refl _) _ _) (Nat.le_refl _) _ _) (Nat.le_refl _) _ _)⟩
       case rest =>
        obtain ⟨g,A1,c1,B1,d1,rfl,hbg,hg4,HRA,HRB,HFR,hx4c⟩:=hcut
        have hbr:=hb4.out.ext hx4c
        have HR1:Hid (halfF l=(numP (textOf run)).map fun r=>(joinF (l.take f),joinF (l.drop t),r.1,r.2)):=Lib.hid (by rw [HH.out,HA.out];rfl)
        clear HH HA HG HST HJA HJB hi1 hi2 hi3 hi4 hi5 hi6 hi7
        go_wp2_with fail
        refine (number_ g _ _ _ _ _ _ hbg (by rw [show (⟨(textOf run).toArray⟩:ByteArray).size=(textOf run).length from rfl];omega)).mono ?_
        rw [show ((⟨(textOf run).toArray⟩:ByteArray).data.toList)=textOf run from rfl]
        intro e w7 hN
        cases hnp:numP (textOf run) with
        | none =>
         rw [hnp] at hN HR1
         obtain ⟨rfl,hon⟩:=hN
         go_wp2
         refine ⟨rfl,?_⟩
         rw [HR1.out]
         exact ⟨rfl,OnlyB.ext hon (hx14.trans hx4c) (by omega)⟩
        | some r =>
         obtain ⟨n,bb⟩:=r
         rw [hnp] at hN HR1
         obtain ⟨rfl,hb7,hon⟩:=hN
         have HRR:=Lib.hid hb7.range
         have HB7:=Lib.hid (OnlyB.box hon hbr (by omega))
         clear hnp
         go_wp2_with (first
          | (refine wpList_load_mid rfl 131 (.tmp 8) rfl g 0 rfl (patC (.slice A1 (joinF (l.take f)).length c1) (.slice B1 (joinF (l.drop t)).length d1) nilS nilS n) _ HRR.out Tryz.underlying131 rfl infoPat ?_)
          | (refine wpList_store_row rfl 131 (.tmp 2) (.tmp 56) rfl w.heap.size (patC (.slice A1 (joinF (l.take f)).length c1) (.slice B1 (joinF (l.drop t)).length d1) nilS nilS n).toArray rfl rfl _ _ HB7.out infoPat rfl pat_one ?_))
         have hb8:=HB7.out.set (patC (.slice A1 (joinF (l.take f)).length c1) (.slice B1 (joinF (l.drop t)).length d1) nilS nilS n).toArray
         refine bodyPost_ret (results_half rfl _ _ w.heap.size _ rfl hb8 rfl) rfl ?_
         rw [HR1.out]
         obtain ⟨f1,f2,f3,f4,f5,f6⟩:=HFR.out
         have hws:w.heap.size < w4.heap.size:=by omega
         have hE:=OnlyB.ext hon (hx14.trans hx4c) (by omega)
         exact ⟨A1,c1,B1,d1,rfl,Row.setRow (HRA.out _ hon) (fun b' off' e=>by have:=f1 _ e;simp at this;omega),Row.setRow (HRB.out _ hon) (fun b' off' e=>by have:=f2 _ e;simp at this;omega),fresh_weak f1 (by omega),fresh_weak f2 (by omega),f3,f4,f5,f6,Ext.setRow hE (Nat.le_refl _) _⟩
      ·have H0:Hid (halfF l=none):=Lib.hid (by rw [HH.out,hany];rfl)
       clear hany
       go_wp2_with fail
       refine (must_no _).mono ?_;rintro e w5 ⟨rfl,rfl⟩
       go_wp2
       refine ⟨rfl,?_⟩
       rw [H0.out]
       exact ⟨rfl,(hxx.trans hz).trans hx4⟩
     ·skip
      go_wp2_with fail
      (refine (contains_n _ _ _ (l.drop t) _ (by first | (simp;done) | (simp;omega)) (by first | exact row_drop (hr1.below hz (Nat.le_refl _)) t | (rw [List.drop_of_length_le (by omega)];exact Row.nil)) (by simp;omega)).mono ?_;rintro e w4 ⟨rfl,hx4⟩)
      cases hany:(l.drop t).any (isK 4)
      ·have HA:=Lib.hid hany
       clear hany
       go_wp2_with fail
       refine (must_ok _).mono ?_;rintro e w5 ⟨rfl,rfl⟩
       have hz4:=hz.trans hx4
       clear hz hx4
       have HJA:Hid (∀ W,Ext w4 W→Calls Tryz.prog 179 #[.slice (some ⟨b,off,none⟩) f c] W fun e w'=>∃ B d,e=.returned (.slice B (joinF (l.take f)).length d)∧Row w' B (pcsV (joinF (l.take f)))∧(joinF (l.take f)).length≤d∧Okc B d∧Fresh W B∧Ext W w'):=Lib.hid (fun W hW=>joined_n _ _ f (l.take f) W (by simp;omega) (row_take (hr1.below (hz4.trans hW) (Nat.le_refl _)) f) (by simp;omega) (Nat.le_trans (tot_take _ _) (by omega)))
       have HJB:Hid (∀ W,Ext w4 W→Calls Tryz.prog 179 #[.slice (some ⟨b,off+t * 2,none⟩) (l.length - t) (c - t)] W fun e w'=>∃ B d,e=.returned (.slice B (joinF (l.drop t)).length d)∧Row w' B (pcsV (joinF (l.drop t)))∧(joinF (l.drop t)).length≤d∧Okc B d∧Fresh W B∧Ext W w'):=Lib.hid (fun W hW=>joined_n _ _ (l.length - t) (l.drop t) W (by simp) (row_drop (hr1.below (hz4.trans hW) (Nat.le_refl _)) t) (by simp;omega) (Nat.le_trans (tot_drop _ _) (by omega)))
       have hb4:=Lib.hid (hb1.ext hz4)
       have hx14:=hxx.trans hz4
       have hs4:w.heap.size+1≤w4.heap.size:=Nat.le_trans hs1 hz4.size
       clear hb1 hz4 hr1 hr hxx hs1
       have hi1:(0:Int)≤(f:Int):=by omega
       have hi2:(f:Int)≤(c:Int):=by omega
       have hi3:(0:Int)≤(t:Int):=by omega
       have hi4:(t:Int)≤(c:Int):=by omega
       have hi5:(t:Int)≤(l.length:Int):=by omega
       have hi6:(f:Int)≤(l.length:Int):=by omega
       have hi7:f≤c:=by omega
       go_upto_region 10 with fail
       go_cut [8] (fun v wx=>∃ (g:Nat) (A1:Option Addr) (c1:Nat) (B1:Option Addr) (d1:Nat),v=.pointer (some ⟨g,0,none⟩)∧Box wx g 131 (patC (.slice A1 (joinF (l.take f)).length c1) (.slice B1 (joinF (l.drop t)).length d1) nilS nilS zeroN)∧w4.heap.size≤g ∧
        Hid (∀ w',OnlyB g wx w'→Row w' A1 (pcsV (joinF (l.take f))))∧Hid (∀ w',OnlyB g wx w'→Row w' B1 (pcsV (joinF (l.drop t))))∧Hid (Fresh w4 A1∧Fresh w4 B1∧(joinF (l.take f)).length≤c1∧Okc A1 c1∧(joinF (l.drop t)).length≤d1∧Okc B1 d1)∧Ext w4 wx)
       case first =>
        go_region_held3 (fun _=>True) (trivial) (first
         | (go_at_call 179;with_reducible refine (HJA.out _ ?_).mono ?_;(first | exact Ext.drew_ (Ext.refl _) | exact Ext.drew_ (Ext.alloc_ (Ext.refl _) _) | exact Ext.trans (Ext.drew_ (Ext.refl _)) (by assumption) | exact Ext.trans (Ext.drew_ (Ext.alloc_ (Ext.refl _) _)) (by assumption) | exact Ext.alloc_ (Ext.trans (Ext.drew_ (Ext.refl _)) (by assumption)) _ | exact Ext.refl _);rintro e w5 ⟨A1,c1,rfl,hA1,hA2,hA3,hA4,hx5⟩;(first | (have hbx:=Box.after hx5;obtain ⟨q0,q1,q2,q3,q4,q5,q6,q7,q8,r0,r1,r2,r3,r4,r5,r6,r7,r8⟩:=box9 hbx) | (have hbx:=Box.after' hx5;obtain ⟨q0,q1,q2,q3,q4,q5,q6,q7,q8,r0,r1,r2,r3,r4,r5,r6,r7,r8⟩:=box9 hbx) | (rename Box _ _ _ _=>hbz;have hbx:=hbz.ext hx5;obtain ⟨q0,q1,q2,q3,q4,q5,q6,q7,q8,r0,r1,r2,r3,r4,r5,r6,r7,r8⟩:=box9 hbx) | skip))
         | (go_at_call 179;with_reducible refine (HJB.out _ ?_).mono ?_;(first | exact Ext.drew_ (Ext.refl _) | exact Ext.drew_ (Ext.alloc_ (Ext.refl _) _) | exact Ext.trans (Ext.drew_ (Ext.refl _)) (by assumption) | exact Ext.trans (Ext.drew_ (Ext.alloc_ (Ext.refl _) _)) (by assumption) | exact Ext.alloc_ (Ext.trans (Ext.drew_ (Ext.refl _)) (by assumption)) _ | exact Ext.refl _);rintro e w6 ⟨B1,d1,rfl,hB1,hB2,hB3,hB4,hx6⟩;(first | (have hbx:=Box.after hx6;obtain ⟨q0,q1,q2,q3,q4,q5,q6,q7,q8,r0,r1,r2,r3,r4,r5,r6,r7,r8⟩:=box9 hbx) | (have hbx:=Box.after' hx6;obtain ⟨q0,q1,q2,q3,q4,q5,q6,q7,q8,r0,r1,r2,r3,r4,r5,r6,r7,r8⟩:=box9 hbx) | (rename Box _ _ _ _=>hbz;have hbx:=hbz.ext hx6;obtain ⟨q0,q1,q2,q3,q4,q5,q6,q7,q8,r0,r1,r2,r3,r4,r5,r6,r7,r8⟩:=box9 hbx) | skip)))
        all_goals (go_wp2_with fail;go_meet)
        ·have hn1:=Box.new w6 131 (patC (.slice A1 (joinF (l.take f)).length c1) (.slice B1 (joinF (l.drop t)).length d1) nilS nilS zeroN)
         have hx45:=(Ext.drew_ (Ext.refl w4)).trans hx5
         have hx46:=hx45.trans hx6
         have hA6:=hA1.below hx6 (Nat.le_refl _)
         exact ⟨_,A1,c1,B1,d1,rfl,hn1,hx46.size,Lib.hid fun w' hw=>Row.past hA6 (Ext.alloc_ (Ext.refl w6) _) hw (Nat.le_refl _),Lib.hid fun w' hw=>Row.past hB1 (Ext.alloc_ (Ext.refl w6) _) hw (Nat.le_refl _),Lib.hid ⟨fresh_weak hA4 (Nat.le_refl _),fresh_weak hB4 hx45.size,hA2,hA3,hB2,hB3⟩,hx46.alloc_ _⟩
        ·have hx45:=(Ext.drew_ (Ext.refl w4)).trans hx5
         have hx56:=(Ext.alloc_ (Ext.refl w5) _).trans hx6
         have hx46:=hx45.trans hx56
         have hsz:w5.heap.size < w6.heap.size:=hbx.lt
         exact ⟨_,A1,c1,B1,d1,rfl,((((((((((hbx).setCell 0 _).setCell 1 _).setCell 2 _).setCell 3 _).setCell 4 _).setCell 5 _).setCell 6 _).setCell 7 _).setCell 8 _),hx45.size,
          Lib.hid fun w' hw=>Row.past hA1 ((Ext.setCell_ (Ext.setCell_ (Ext.setCell_ (Ext.setCell_ (Ext.setCell_ (Ext.setCell_ (Ext.setCell_ (Ext.setCell_ (Ext.setCell_ hx56 (Nat.le_refl _) _ _) (Nat.le_refl _) _ _) (Nat.le_refl _) _ _) (Nat.le_refl _) _ _) (Nat.le_refl _) _ _) (Nat.le_refl _) _ _) (Nat.le_refl _) _ _) (Nat.le_refl _) _ _) (Nat.le_refl _) _ _)) hw (Nat.le_refl _),
          Lib.hid fun w' hw=>Row.only hB1 (OnlyB.trans ((((((((((OnlyB.of_ext (Ext.refl w6)).setCell 0 _).setCell 1 _).setCell 2 _).setCell 3 _).setCell 4 _).setCell 5 _).setCell 6 _).setCell 7 _).setCell 8 _) hw) (fun b' off' e _=>by have:=hB4 _ e;simp at this;omega),
          Lib.hid ⟨fresh_weak hA4 (Nat.le_refl _),fresh_weak hB4 (by have:=hx45.size;simp;omega),hA2,hA3,hB2,hB3⟩,(Ext.setCell_ (Ext.setCell_ (Ext.setCell_ (Ext.setCell_ (Ext.setCell_ (Ext.setCell_ (Ext.setCell_ (Ext.setCell_ (Ext.setCell_ hx46 hx45.size _ _) hx45.size _ _) hx45.size _ _) hx45.size _ _) hx45.size _ _) hx45.size _ _) hx45.size _ _) hx45.size _ _) hx45.size _ _)⟩
        ·have hx45:Ext w4 w5:=(Ext.drew_ (Ext.alloc_ (Ext.refl w4) _)).trans hx5
         have hx46:=hx45.trans hx6
         have hA6:=hA1.below hx6 (Nat.le_refl _)
         have hs5:w4.heap.size+1≤w5.heap.size:=by have:=hx5.size;simpa using this
         exact ⟨_,A1,c1,B1,d1,rfl,((((((((((hbx).setCell 0 _).setCell 1 _).setCell 2 _).setCell 3 _).setCell 4 _).setCell 5 _).setCell 6 _).setCell 7 _).setCell 8 _),Nat.le_refl _,
          Lib.hid fun w' hw=>Row.only hA6 (OnlyB.trans ((((((((((OnlyB.of_ext (Ext.refl w6)).setCell 0 _).setCell 1 _).setCell 2 _).setCell 3 _).setCell 4 _).setCell 5 _).setCell 6 _).setCell 7 _).setCell 8 _) hw) (fun b' off' e _=>by have:=hA4 _ e;simp at this;omega),
          Lib.hid fun w' hw=>Row.only hB1 (OnlyB.trans ((((((((((OnlyB.of_ext (Ext.refl w6)).setCell 0 _).setCell 1 _).setCell 2 _).setCell 3 _).setCell 4 _).setCell 5 _).setCell 6 _).setCell 7 _).setCell 8 _) hw) (fun b' off' e _=>by have:=hB4 _ e;dsimp only at this;omega),
          Lib.hid ⟨fresh_weak hA4 (by simp),fresh_weak hB4 hx45.size,hA2,hA3,hB2,hB3⟩,(Ext.setCell_ (Ext.setCell_ (Ext.setCell_ (Ext.setCell_ (Ext.setCell_ (Ext.setCell_ (Ext.setCell_ (Ext.setCell_ (Ext.setCell_ hx46 (Nat.le_refl _) _ _) (Nat.le_refl _) _ _) (Nat.le_refl _) _ _) (Nat.le_refl _) _ _) (Nat.le_refl _) _ _) (Nat.le_refl _) _ _) (Nat.le_refl _) _ _) (Nat.le_refl _) _ _) (Nat.le_refl _) _ _)⟩
       case rest =>
        obtain ⟨g,A1,c1,B1,d1,rfl,hbg,hg4,HRA,HRB,HFR,hx4c⟩:=hcut
        have hbr:=hb4.out.ext hx4c
        have HR1:Hid (halfF l=(numP (textOf run)).map fun r=>(joinF (l.take f),joinF (l.drop t),r.1,r.2)):=Lib.hid (by rw [HH.out,HA.out];rfl)
        clear HH HA HG HST HJA HJB hi1 hi2 hi3 hi4 hi5 hi6 hi7
        go_wp2_with fail
        refine (number_ g _ _ _ _ _ _ hbg (by rw [show (⟨(textOf run).toArray⟩:ByteArray).size=(textOf run).length from rfl];omega)).mono ?_
        rw [show ((⟨(textOf run).toArray⟩:ByteArray).data.toList)=textOf run from rfl]
        intro e w7 hN
        cases hnp:numP (textOf run) with
        | none =>
         rw [hnp] at hN HR1
         obtain ⟨rfl,hon⟩:=hN
         go_wp2
         refine ⟨rfl,?_⟩
         rw [HR1.out]
         exact ⟨rfl,OnlyB.ext hon (hx14.trans hx4c) (by omega)⟩
        | some r =>
         obtain ⟨n,bb⟩:=r
         rw [hnp] at hN HR1
         obtain ⟨rfl,hb7,hon⟩:=hN
         have HRR:=Lib.hid hb7.range
         have HB7:=Lib.hid (OnlyB.box hon hbr (by omega))
         clear hnp
         go_wp2_with (first
          | (refine wpList_load_mid rfl 131 (.tmp 8) rfl g 0 rfl (patC (.slice A1 (joinF (l.take f)).length c1) (.slice B1 (joinF (l.drop t)).length d1) nilS nilS n) _ HRR.out Tryz.underlying131 rfl infoPat ?_)
          | (refine wpList_store_row rfl 131 (.tmp 2) (.tmp 56) rfl w.heap.size (patC (.slice A1 (joinF (l.take f)).length c1) (.slice B1 (joinF (l.drop t)).length d1) nilS nilS n).toArray rfl rfl _ _ HB7.out infoPat rfl pat_one ?_))
         have hb8:=HB7.out.set (patC (.slice A1 (joinF (l.take f)).length c1) (.slice B1 (joinF (l.drop t)).length d1) nilS nilS n).toArray
         refine bodyPost_ret (results_half rfl _ _ w.heap.size _ rfl hb8 rfl) rfl ?_
         rw [HR1.out]
         obtain ⟨f1,f2,f3,f4,f5,f6⟩:=HFR.out
         have hws:w.heap.size < w4.heap.size:=by omega
         have hE:=OnlyB.ext hon (hx14.trans hx4c) (by omega)
         exact ⟨A1,c1,B1,d1,rfl,Row.setRow (HRA.out _ hon) (fun b' off' e=>by have:=f1 _ e;simp at this;omega),Row.setRow (HRB.out _ hon) (fun b' off' e=>by have:=f2 _ e;simp at this;omega),fresh_weak f1 (by omega),fresh_weak f2 (by omega),f3,f4,f5,f6,Ext.setRow hE (Nat.le_refl _) _⟩
      ·have H0:Hid (halfF l=none):=Lib.hid (by rw [HH.out,hany];rfl)
       clear hany
       go_wp2_with fail
       refine (must_no _).mono ?_;rintro e w5 ⟨rfl,rfl⟩
       go_wp2
       refine ⟨rfl,?_⟩
       rw [H0.out]
       exact ⟨rfl,(hxx.trans hz).trans hx4⟩
end Go.Proofs.YtcghgkagpkmpeaaGreatDoor.Pat
namespace Go.Proofs.YtcghgkagpkmpeaaGreatDoor.Pat
open Go.RowKit
theorem lit_acc {w v:World} (h:Ext w v):Acc 181 2 w (v.alloc (.cells #[.int .i64 3,.string ⟨#[]⟩] 181)) (some ⟨v.heap.size,0,none⟩) 1 1 [.int .i64 3,.string ⟨#[]⟩] :=
 Acc.lit h [.int .i64 3,.string ⟨#[]⟩] 1 rfl (by decide)
set_option maxRecDepth 100000
theorem plain_ (A B:Option Addr) (c d:Nat) (p s:List Pc) (S3 S4:Value) (x:Nums) (w:World) (hA:Row w A (pcsV p)) (hB:Row w B (pcsV s)) (hcA:Okc A c) (hcB:Okc B d) (hp:p.length≤1000000000) (hs:s.length≤1000000000) :
  Calls Tryz.prog 119 #[.agg (patC (.slice A p.length c) (.slice B s.length d) S3 S4 x).toArray] w fun e w' =>
   ∃ A' c' B' d',e=.returned (.tuple #[.slice A' (p.length+1) c',.slice B' s.length d'])∧Row w' A' (pcsV ((3,[]) :: p))∧Row w' B' (pcsV s)∧Fresh w A'∧Fresh w B'∧p.length+1≤c'∧Okc A' c'∧s.length≤d'∧Okc B' d'∧Ext w w':=by
 have hb1:=Box.new w 131 (patC (.slice A p.length c) (.slice B s.length d) S3 S4 x)
 have hx1:Ext w (w.alloc (.cells (patC (.slice A p.length c) (.slice B s.length d) S3 S4 x).toArray 131)):=Ext.alloc_ (Ext.refl w) _
 have hs1:(w.alloc (.cells (patC (.slice A p.length c) (.slice B s.length d) S3 S4 x).toArray 131)).heap.size=w.heap.size+1:=by simp
 go_enter Tryz.func119,Tryz.ntmps119
 go_upto_region 1 with fail
 change Code.wp _ _ _ _ (w.alloc (.cells (patC (.slice A p.length c) (.slice B s.length d) S3 S4 x).toArray 131))
 generalize w.alloc (.cells (patC (.slice A p.length c) (.slice B s.length d) S3 S4 x).toArray 131)=w1 at *
 have k0:=hb1.cell (j:=0) (v:=.slice A p.length c) rfl
 have k1:=hb1.cell (j:=1) (v:=.slice B s.length d) rfl
 have HC:Hid (∀ W,Ext w1 W→Calls Tryz.prog 181 #[.slice B s.length d] W fun e w'=>∃ B' d',e=.returned (.slice B' s.length d')∧Row w' B' (pcsV s)∧s.length≤d'∧Okc B' d'∧Fresh W B'∧Ext W w'):=Lib.hid (fun W hW=>clone_ B d s W (hB.below (hx1.trans hW) (Nat.le_refl _)) hcB hs)
 have HRA:Hid (∀ W,Ext w1 W→Row W A (pcsV p)):=Lib.hid (fun W hW=>hA.below (hx1.trans hW) (Nat.le_refl _))
 have HL:=Lib.hid (pcsV_len p)
 have hE1:Ext w1 w1:=Ext.refl w1
 have HS1:=Lib.hid hs1
 clear hs1
 go_cut [2,3] (fun u v wx=>∃ A' c' B' d',u=.slice A' (p.length+1) c'∧v=.slice B' s.length d'∧Row wx A' (pcsV ((3,[]) :: p))∧Row wx B' (pcsV s)∧Fresh w A'∧Fresh w B'∧p.length+1≤c'∧Okc A' c'∧s.length≤d'∧Okc B' d'∧Ext w wx)
 case first =>
  go_region_held3 (fun W=>Ext w1 W∧W.cell? ⟨w.heap.size,0,none⟩=some (.slice A p.length c)∧W.cell? ⟨w.heap.size,1,none⟩=some (.slice B s.length d))
   (first
    | exact ⟨Ext.drew_ (Ext.refl _),k0,k1⟩
    | exact ⟨Ext.refl _,k0,k1⟩
    | (refine (fun h=>⟨h,Ext.cell_ h k0,Ext.cell_ h k1⟩) ?_;first | assumption | exact Ext.alloc_ (by assumption) _ | exact Ext.drew_ (Ext.alloc_ (Ext.refl _) _) | exact Ext.alloc_ (Ext.refl _) _ | exact Ext.drew_ (Ext.alloc_ (by assumption) _) | exact Ext.drew_ (by assumption)))
   (first
    | (refine step_src ei_pc (by rfl) (.tmp 5) (.tmp 7) (by rfl) w1 _ (some ⟨w1.heap.size,0,none⟩) 1 1 [.int .i64 3,.string ⟨#[]⟩] (by rfl) (Acc.drew (lit_acc (Ext.refl w1))) A p.length c (pcsV p) (by rfl) (HRA.out _ (Acc.drew (lit_acc (Ext.refl w1))).ext) hcA (by rw [HL.out];omega) (pcs_oneCell p) (by omega) (by unfold maxLen;omega) ?_;intro A1 c1 w4 hA1 hg4;have hE4:Ext w1 w4:=hA1.ext)
    | (go_at_call 181;with_reducible refine (HC.out _ ?_).mono ?_;(first | assumption | exact Ext.drew_ (Ext.refl _) | exact Ext.drew_ (Ext.alloc_ (Ext.refl _) _));rintro e w3 ⟨B1,d1,rfl,hB1,hB2,hB3,hB4,hx3⟩;(first | (have hE3:=(Ext.drew_ (Ext.refl w1)).trans hx3) | (have hE3:=(Ext.drew_ (Ext.alloc_ (Ext.refl w1) _)).trans hx3) | (have hE3:=hE4.trans hx3))))
  all_goals
   go_wp2_with fail
   go_meet
   have hs1:=HS1.out
   have h1:=hA1.step hx3
   exact ⟨A1,c1,B1,d1,by rw [Nat.add_comm],rfl,h1.row,hB1,fresh_weak (Acc.fresh h1) (by omega),fresh_weak hB4 (by have:=hE4.size;omega),by have:=h1.cap.1;omega,Acc.okc h1,hB2,hB3,hx1.trans (hE4.trans hx3)⟩
 case rest =>
  obtain ⟨A',c',B',d',rfl,rfl,h1,h2,h3,h4,h5,h6,h7,h8,h9⟩:=hcut
  go_wp2
  go_ret2
  exact ⟨A',c',B',d',rfl,h1,h2,h3,h4,h5,h6,h7,h8,h9⟩
set_option maxRecDepth 512
theorem catch_idle (g k:Nat) (w:World) :
  CallsD Tryz.prog 112 #[.pointer (some ⟨g,0,none⟩),.pointer (some ⟨k,0,none⟩)] .returning w fun e u' w'=>e=.returned (.tuple #[])∧u'=.returning∧w'=w:=by
 refine callsD_of_wpS Tryz.func112 rfl fun c₀ cs hu=>?_
 apply wpS_seq
 apply wpS_region
 simp [wpOpsS,go_sem,recoverD,hu,Tryz.ntmps112,Exit.thenS]
 refine wpS_of_wp ?_
 change Code.wp _ _ _ { tmps:=#[.pointer (some ⟨g,0,none⟩),.pointer (some ⟨k,0,none⟩),.nilIface,.nilIface,undef,undef,undef,undef,undef],defers:=[] } _
 go_wp2
 cases c₀
 simp_all [bodyPostS,results,Tryz.results112]
theorem catch_refused (g k:Nat) (cs:List Value) (hl:cs.length=9) (u:Value) (v w:World) (hb:Box w g 131 cs) (hk:Box w k 49 [u]) (hne:g ≠ k) (hv:Ext v w) (hg:v.heap.size≤g) (hkv:v.heap.size≤k) :
  CallsD Tryz.prog 112 #[.pointer (some ⟨g,0,none⟩),.pointer (some ⟨k,0,none⟩)] (.panicking ({ v:=.iface 177 (.int .i64 2),recovered:=false } :: [])) w fun e u' w' =>
   e=.returned (.tuple #[])∧u'=.panicking ({ v:=.iface 177 (.int .i64 2),recovered:=true } :: [])∧Box w' g 131 (patC nilS nilS nilS nilS zeroN)∧Box w' k 49 [.int .i64 2]∧Ext v w':=by
 obtain ⟨c0,c1,c2,c3,c4,c5,c6,c7,c8,rfl⟩:∃ c0 c1 c2 c3 c4 c5 c6 c7 c8,cs=[c0,c1,c2,c3,c4,c5,c6,c7,c8]:=by
  match cs,hl with
  | [c0,c1,c2,c3,c4,c5,c6,c7,c8],_=>exact ⟨c0,c1,c2,c3,c4,c5,c6,c7,c8,rfl⟩
 refine callsD_of_wpS Tryz.func112 rfl fun c₀ cs' hu=>?_
 apply wpS_seq
 apply wpS_region
 simp [wpOpsS,go_sem,recoverD,hu,Tryz.ntmps112,Exit.thenS]
 refine wpS_of_wp ?_
 change Code.wp _ _ _ { tmps:=#[.pointer (some ⟨g,0,none⟩),.pointer (some ⟨k,0,none⟩),.iface 177 (.int .i64 2),.iface 177 (.int .i64 2),undef,undef,undef,undef,undef],defers:=[] } _
 have hkc:=hk.cell (j:=0) (v:=u) rfl
 have hkf:=hk.frozen 0
 obtain ⟨q0,q1,q2,q3,q4,q5,q6,q7,q8,r0,r1,r2,r3,r4,r5,r6,r7,r8⟩:=box9 hb
 have hta:∀ W,(Instr.typeAssert (.iface 177 (.int .i64 2)) 20 177 false).run Tryz.prog W=.ok (.int .i64 2) W:=fun W=>by kernel_rfl
 go_upto_region 2 with fail
 go_region
 have hG:=((((((((((hb.setCell 0 (.slice none 0 0)).setCell 1 (.slice none 0 0)).setCell 2 (.slice none 0 0)).setCell 3 (.slice none 0 0)).setCell 4 (.int .i64 0)).setCell 5 (.int .i64 0)).setCell 6 (.int .i64 0)).setCell 7 (.int .i64 0)).setCell 8 (.int .i64 0)).setCell1 k (.int .i64 2) (Ne.symm hne) 0).drew
 have hK:=((((((((((hk.setCell1 g (.slice none 0 0) hne 0).setCell1 g (.slice none 0 0) hne 1).setCell1 g (.slice none 0 0) hne 2).setCell1 g (.slice none 0 0) hne 3).setCell1 g (.int .i64 0) hne 4).setCell1 g (.int .i64 0) hne 5).setCell1 g (.int .i64 0) hne 6).setCell1 g (.int .i64 0) hne 7).setCell1 g (.int .i64 0) hne 8).setCell 0 (.int .i64 2)).drew
 have hE:=Ext.drew_ (Ext.setCell_ (Ext.setCell_ (Ext.setCell_ (Ext.setCell_ (Ext.setCell_ (Ext.setCell_ (Ext.setCell_ (Ext.setCell_ (Ext.setCell_ (Ext.setCell_ hv hg 0 (.slice none 0 0)) hg 1 (.slice none 0 0)) hg 2 (.slice none 0 0)) hg 3 (.slice none 0 0)) hg 4 (.int .i64 0)) hg 5 (.int .i64 0)) hg 6 (.int .i64 0)) hg 7 (.int .i64 0)) hg 8 (.int .i64 0)) hkv 0 (.int .i64 2))
 generalize ((((((((((w.setCell ⟨g,0,none⟩ (.slice none 0 0)).setCell ⟨g,1,none⟩ (.slice none 0 0)).setCell ⟨g,2,none⟩ (.slice none 0 0)).setCell ⟨g,3,none⟩ (.slice none 0 0)).setCell ⟨g,4,none⟩ (.int .i64 0)).setCell ⟨g,5,none⟩ (.int .i64 0)).setCell ⟨g,6,none⟩ (.int .i64 0)).setCell ⟨g,7,none⟩ (.int .i64 0)).setCell ⟨g,8,none⟩ (.int .i64 0)).setCell ⟨k,0,none⟩ (.int .i64 2)).drew=W at *
 clear hb hk hta q0 q1 q2 q3 q4 q5 q6 q7 q8 r0 r1 r2 r3 r4 r5 r6 r7 r8 hkc hkf
 go_wp2
 cases c₀
 have HG:Hid (Box W g 131 (patC nilS nilS nilS nilS zeroN)):=Lib.hid hG
 have HK:Hid (Box W k 49 [.int .i64 2]):=Lib.hid hK
 have HE:=Lib.hid hE
 clear hG hK hE
 simp_all [bodyPostS,results,Tryz.results112]
 exact ⟨HG.out,HK.out,HE.out⟩
open Go.RowKit Utf All Small
structure Pt where
 pre:List Pc
 suf:List Pc
 npre:List Pc
 nsuf:List Pc
 num:Nums
deriving DecidableEq
def halves (a b:List Pc) (two:Bool):Except Int Pt :=
 match halfF a with
 | none=>.error 2
 | some (p,s,n,short)=>match halfF b with
  | none=>.error 2
  | some (p2,s2,_,short2)=>if short && short2 then .ok (if two then ⟨p,s,p2,s2,n⟩ else ⟨p,s,(3,[]) :: p,s,n⟩) else .error 3
def parseT (l:List Pc):Except Int Pt :=
 if 0≤idxF (isK 5) l then (if cntK 5 l=1 then halves (l.take (idxF (isK 5) l).toNat) (l.drop ((idxF (isK 5) l).toNat+1)) true else .error 2) else halves l l false
def parseF (s:List UInt8):Except Int Pt:=match tokL s with | none=>.error 2 | some l=>parseT l
def errV (e:Int):Value:=.tuple #[.agg (patC nilS nilS nilS nilS zeroN).toArray,.int .i64 e]
def ParseR (w:World):Except Int Pt→Ending→World→Prop
 | .error x,e,w'=>e=.returned (errV x)∧Ext w w'
 | .ok p,e,w'=>∃ A c B d C a D b,e=.returned (.tuple #[.agg (patC (.slice A p.pre.length c) (.slice B p.suf.length d) (.slice C p.npre.length a) (.slice D p.nsuf.length b) p.num).toArray,.int .i64 0]) ∧
   Row w' A (pcsV p.pre)∧Row w' B (pcsV p.suf)∧Row w' C (pcsV p.npre)∧Row w' D (pcsV p.nsuf)∧Okc A c∧Okc B d∧Okc C a∧Okc D b∧Ext w w'
abbrev dfr (g k:Nat):List Deferred:=[{ target:=.fn (.func 112) #[.pointer (some ⟨g,0,none⟩),.pointer (some ⟨k,0,none⟩)],args:=#[] }]
theorem results_parse (tmps:Array Value) (w:World) (g k:Nat) (cs:List Value) (v:Value)
  (h2:tmps.getD 2 undef=.pointer (some ⟨g,0,none⟩)) (h3:tmps.getD 3 undef=.pointer (some ⟨k,0,none⟩)) (hb:Box w g 131 cs) (hl:cs.length=9) (hk:Box w k 49 [v]) :
  (results Tryz.f65 tmps).run Tryz.prog w=.ok (.tuple #[.agg cs.toArray,v]) w:=by
 have h2':tmps[2]?.getD undef=.pointer (some ⟨g,0,none⟩):=by simpa using h2
 have h3':tmps[3]?.getD undef=.pointer (some ⟨k,0,none⟩):=by simpa using h3
 have e1:=run_loadVar_row (P:=Tryz.prog) w g _ 131 cs.toArray (0,0) _ hb Tryz.underlying131 rfl (by rw [infoPat];simp [hl])
 have hc:=hk.cell (j:=0) rfl
 have e2:(loadVar 49 ⟨k,0,none⟩).run Tryz.prog w=.ok v w:=by simp [go_sem,hc]
 have hr:(Tryz.f65).results=#[.cell 2 131,.cell 3 49]:=rfl
 simp [results,hr,h2',h3',asAddr,e1,e2]
theorem fails_ {v w:World} {g k:Nat} {cs:List Value} {u:Value} {R:Ending→World→Prop} {tmps:Array Value} (hb:Box w g 131 cs) (hl:cs.length=9) (hk:Box w k 49 [u]) (hne:g ≠ k) (hv:Ext v w) (hg:v.heap.size≤g) (hkv:v.heap.size≤k)
  (h2:tmps.getD 2 undef=.pointer (some ⟨g,0,none⟩)) (h3:tmps.getD 3 undef=.pointer (some ⟨k,0,none⟩)) (hR:∀ w',Ext v w'→R (.returned (errV 2)) w') :
  Leaves Tryz.prog Tryz.f65 tmps R (dfr g k) (.panicking [{ v:=.iface 177 (.int .i64 2),recovered:=false }]) w:=by
 refine leaves_cons (f:=112) (args:=#[.pointer (some ⟨g,0,none⟩),.pointer (some ⟨k,0,none⟩)]) (by simp) (by simp [go_sem]) ?_
 refine (catch_refused g k cs hl u v w hb hk hne hv hg hkv).mono ?_
 rintro e u' w'' ⟨rfl,rfl,hG,hK,hE⟩
 exact ⟨_,results_parse tmps w'' g k _ _ h2 h3 hG rfl hK,hR _ hE⟩
theorem ends_ {w:World} {g k:Nat} {cs:List Value} {u:Value} {R:Ending→World→Prop} {tmps:Array Value} (hb:Box w g 131 cs) (hl:cs.length=9) (hk:Box w k 49 [u])
  (h2:tmps.getD 2 undef=.pointer (some ⟨g,0,none⟩)) (h3:tmps.getD 3 undef=.pointer (some ⟨k,0,none⟩)) (hR:R (.returned (.tuple #[.agg cs.toArray,u])) w) :
  Leaves Tryz.prog Tryz.f65 tmps R (dfr g k) .returning w:=by
 refine leaves_cons (f:=112) (args:=#[.pointer (some ⟨g,0,none⟩),.pointer (some ⟨k,0,none⟩)]) (by simp) (by simp [go_sem]) ?_
 refine (catch_idle g k w).mono ?_
 rintro e u' w'' ⟨rfl,rfl,rfl⟩
 exact ⟨_,results_parse tmps w'' g k cs u h2 h3 hb hl hk,hR⟩
theorem encB_le (c:Int):(encB c).length≤4:=by
 unfold encB
 split
 ·have:=(Lib.encodeRuneZ_length c).2
  simp only [Lib.encodeRune,List.length_map];omega
 ·simp
theorem tokS_tot:∀ (xs:List Int) (q p:Bool) (l:List Pc),tokS q p xs=some l→tot l≤4 * xs.length
 | [],q,p,l,h=>by cases q <;> cases p <;> simp [tokS] at h <;> subst h <;> simp [tot]
 | c :: r,q,p,l,h=>by
  have hcons:∀ (k:Int) (d:Int) (m:List Pc),tot ((k,encB d) :: m)=(encB d).length+tot m:=fun k d m=>by simp [tot]
  have e39:=encB_le 39
  have ec:=encB_le c
  cases p <;> rw [tokS] at h
  ·split at h
   ·have:=tokS_tot r q true l h;simp only [List.length_cons];omega
   ·split at h
    ·obtain ⟨m,hm,rfl⟩:=Option.map_eq_some_iff.1 h
     have:=tokS_tot r true false m hm;rw [hcons];simp only [List.length_cons];omega
    ·split at h
     ·cases h
     ·obtain ⟨m,hm,rfl⟩:=Option.map_eq_some_iff.1 h
      have:=tokS_tot r false false m hm;rw [hcons];simp only [List.length_cons];omega
  ·split at h
   ·obtain ⟨m,hm,rfl⟩:=Option.map_eq_some_iff.1 h
    have:=tokS_tot r q false m hm;rw [hcons];simp only [List.length_cons];omega
   ·split at h
    ·split at h
     ·cases h
     ·obtain ⟨m,hm,rfl⟩:=Option.map_eq_some_iff.1 h
      have:=tokS_tot r false false m hm;rw [hcons];simp only [List.length_cons];omega
    ·obtain ⟨m,hm,rfl⟩:=Option.map_eq_some_iff.1 h
     have:=tokS_tot r true false m hm;rw [hcons];simp only [List.length_cons];omega
theorem tokL_tot {s:List UInt8} {l:List Pc} (h:tokL s=some l):tot l≤4 * (charsL s).length:=tokS_tot _ _ _ _ h
theorem half_n (A:Option Addr) (c n:Nat) (l:List Pc) (w:World) (hn:l.length=n) (hr:Row w A (pcsV l)) (hl:l.length≤1000000000) (ht:tot l≤1000000000) (hlc:n≤c) :
  Calls Tryz.prog 118 #[.slice A n c] w fun e w'=>HalfR w (halfF l) e w':=by
 subst hn;exact half_ A c l w hr hl ht hlc
theorem halfF_len {l p s:List Pc} {n:Nums} {b:Bool} (h:halfF l=some (p,s,n,b)):p.length≤l.length∧s.length≤l.length:=by
 unfold halfF at h
 split at h
 ·cases h
 ·split at h
  ·cases h
  ·obtain ⟨r,_,hr⟩:=Option.map_eq_some_iff.1 h
   injection hr with h1 h2
   injection h2 with h2 h3
   subst h1;subst h2
   exact ⟨Nat.le_trans (joinF_len _) (by simp;omega),Nat.le_trans (joinF_len _) (by simp)⟩
theorem wpList_store_fresh {P:Program} {ops:Array Oper} {rest:List Oper} {o:Oper} {a:Act} {w:World} {Q:Exit→Act→World→Prop} (hgd:o.guard=none) (ty:TypeId) (x y:Operand) (ho:o.op=.store ty x y)
  (cells:Array Value) (t:TypeId) (old:Array Value) (hx:a.eval x=.pointer (some ⟨w.heap.size,0,none⟩)) (hy:a.eval y=.agg cells)
  (hi:(P.info? ty).map (·.size)=some cells.size)
  (hold:old.size=cells.size) (h1:cells.all (·.oneCell')=true)
  (h:wpList P ops Q rest (a.put o.dst undef) (w.alloc (.cells cells t))):wpList P ops Q (o :: rest) a (w.alloc (.cells old t)) :=
 wpList_store_row hgd ty x y ho w.heap.size cells hx hy t old (heap_alloc_new w _) hi hold h1 (by rw [World.setRow_alloc_new];exact h)
def Only2 (g:Nat) (w w':World):Prop:=w.heap.size≤w'.heap.size∧∀ k,k < w.heap.size→g+2≤k→w'.heap[k]? = w.heap[k]?
theorem Only2.of_ext {g:Nat} {w w':World} (h:Ext w w'):Only2 g w w':=⟨h.size,fun k hk _=>h.block k hk⟩
theorem Only2.setCell {g j:Nat} {w w':World} (h:Only2 g w w') (i:Nat) (v:Value) (hj:j < g+2):Only2 g w (w'.setCell ⟨j,i,none⟩ v) :=
 ⟨by have:=h.1;simpa using this,fun k hk hg=>(heap_setCell_other w' ⟨j,i,none⟩ k v (by simp only;omega)).trans (h.2 k hk hg)⟩
theorem Only2.setRow {g j:Nat} {w w':World} (h:Only2 g w w') (ds:Array Value) (hj:j < g+2):Only2 g w (w'.setRow j ds) :=
 ⟨by have:=h.1;simpa using this,fun k hk hg=>(setRow_other w' j k ds (by omega)).trans (h.2 k hk hg)⟩
theorem Only2.drew {g:Nat} {w w':World} (h:Only2 g w w'):Only2 g w w'.drew:=h
theorem Row.only2 {g:Nat} {w w' v:World} {A:Option Addr} {cs:List Value} (hr:Row w A cs) (h:Only2 g w w') (hf:Fresh v A) (hv:g+2≤v.heap.size):Row w' A cs:=by
 rcases hr with hr | ⟨b,off,rfl,hr⟩
 ·exact .inl hr
 ·exact .inr ⟨b,off,rfl,fun j u hj=>(World.cell?_of_block (h.2 b (block_lt (hr j u hj)) (Nat.le_trans hv (hf _ rfl)))).trans (hr j u hj)⟩
theorem halves_no1 {a b:List Pc} {two:Bool} (h:halfF a=none):halves a b two=.error 2:=by unfold halves;rw [h]
theorem halves_no2 {a b:List Pc} {two:Bool} {p s:List Pc} {n:Nums} {t:Bool} (h1:halfF a=some (p,s,n,t)) (h:halfF b=none):halves a b two=.error 2:=by unfold halves;simp only [h1,h]
theorem halves_ok {a b:List Pc} {two:Bool} {p s p2 s2:List Pc} {n n2:Nums} {t t2:Bool} (h1:halfF a=some (p,s,n,t)) (h2:halfF b=some (p2,s2,n2,t2)) :
  halves a b two=if t && t2 then .ok (if two then ⟨p,s,p2,s2,n⟩ else ⟨p,s,(3,[]) :: p,s,n⟩) else .error 3:=by
 unfold halves;simp only [h1,h2]
set_option maxRecDepth 100000
theorem parse_ (s:ByteArray) (w:World) (hs:s.size≤100000000) :
  Calls Tryz.prog 65 #[.string s] w fun e w'=>ParseR w (parseF s.data.toList) e w':=by
 have hmf:∀ (fn:Fn) (first cap:Array Value) (w:World),(Instr.makeFunc fn first cap).run Tryz.prog w=.ok (.func fn first cap) w:=fun _ _ _ _=>rfl
 have hbg:=(Box.new w 131 (patC nilS nilS nilS nilS zeroN)).alloc (.cells #[.int .i64 0] 49)
 have hbk:Box ((w.alloc (.cells (patC nilS nilS nilS nilS zeroN).toArray 131)).alloc (.cells #[.int .i64 0] 49)) (w.heap.size+1) 49 [.int .i64 0]:=by
  have:=Box.new (w.alloc (.cells (patC nilS nilS nilS nilS zeroN).toArray 131)) 49 [.int .i64 0]
  rwa [World.size_alloc] at this
 have hx0:Ext w ((w.alloc (.cells (patC nilS nilS nilS nilS zeroN).toArray 131)).alloc (.cells #[.int .i64 0] 49)):=Ext.alloc_ (Ext.alloc_ (Ext.refl w) _) _
 have HS0:Hid (((w.alloc (.cells (patC nilS nilS nilS nilS zeroN).toArray 131)).alloc (.cells #[.int .i64 0] 49)).heap.size=w.heap.size+2):=Lib.hid (by simp)
 go_enter_defers Tryz.func65,Tryz.ntmps65
 go_wp2_with fail
 change Calls _ _ _ ((w.alloc (.cells (patC nilS nilS nilS nilS zeroN).toArray 131)).alloc (.cells #[.int .i64 0] 49)) _
 generalize (w.alloc (.cells (patC nilS nilS nilS nilS zeroN).toArray 131)).alloc (.cells #[.int .i64 0] 49)=w0 at *
 refine (tokens_ s _ (by omega)).mono ?_
 intro e w1 hT
 have HP:Hid (parseF s.data.toList=match tokL s.data.toList with | none=>.error 2 | some l=>parseT l):=Lib.hid rfl
 cases hl:tokL s.data.toList with
 | none =>
  rw [hl] at hT HP
  obtain ⟨rfl,hx1⟩:=hT
  go_wp2_with fail
  refine fails_ (v:=w) (hbg.ext hx1) rfl (hbk.ext hx1) (by omega) (hx0.trans hx1) (Nat.le_refl _) (by omega) rfl rfl fun w' hw=>?_
  rw [HP.out]
  exact ⟨rfl,hw⟩
 | some l =>
  have htot:=tokL_tot hl
  rw [hl] at hT HP
  obtain ⟨A,c,rfl,hr1,hlc,hln,hcm,hfr,hx1⟩:=hT
  have hcs:=chars_len s
  have htl:tot l≤400000000:=by omega
  have hll:l.length≤100000000:=by omega
  have HP2:Hid (parseF s.data.toList=parseT l):=HP
  have hb1:=hbg.ext hx1
  have hk1:=hbk.ext hx1
  have hx01:=hx0.trans hx1
  have hs1:w.heap.size+2≤w1.heap.size:=by rw [← HS0.out];exact hx1.size
  have HFR:Hid (∀ a,A=some a→w.heap.size+2≤a.block):=Lib.hid (by rw [← HS0.out];exact hfr)
  clear hbg hbk hx0 hx1 HS0 HP hl htot hcs hfr
  go_wp2_with fail
  refine (index_parse _ _ _ _ hr1 (by omega)).mono ?_;rintro e w2 ⟨rfl,hx2⟩
  have hb2:=hb1.ext hx2
  have hk2:=hk1.ext hx2
  have hr2:=hr1.below hx2 (Nat.le_refl _)
  have hx02:=hx01.trans hx2
  have hs2:=Nat.le_trans hs1 hx2.size
  clear hb1 hk1 hr1 hx01 hs1 hx2
  by_cases hi:0≤idxF (isK 5) l
  ·have hfl:=idxF_lt _ _ hi
   have HF:Hid (idxF (isK 5) l=((idxF (isK 5) l).toNat:Int)):=Lib.hid (by omega)
   have HP2b:Hid (parseF s.data.toList=if cntK 5 l=1 then halves (l.take (idxF (isK 5) l).toNat) (l.drop ((idxF (isK 5) l).toNat+1)) true else .error 2):=Lib.hid (by rw [HP2.out];unfold parseT;rw [if_pos hi])
   generalize (idxF (isK 5) l).toNat=f at *
   generalize idxF (isK 5) l=ix at *
   obtain ⟨b,off,rfl,-,-⟩:=row_pc hr2 hfl
   have hi2:¬ ix < 0:=by omega
   have hi':=hi
   clear hi HP2
   go_wp2_with fail
   refine (count_ _ _ _ _ _ hr2 (by omega)).mono ?_;rintro e w2' ⟨rfl,hxc⟩
   have hb2':=hb2.ext hxc
   have hk2':=hk2.ext hxc
   have hr2':=hr2.below hxc (Nat.le_refl _)
   have hx02':=hx02.trans hxc
   have hs2':=Nat.le_trans hs2 hxc.size
   clear hb2 hk2 hr2 hx02 hs2 hxc
   have hb2:=hb2'
   have hk2:=hk2'
   have hr2:=hr2'
   have hx02:=hx02'
   have hs2:=hs2'
   clear hb2' hk2' hr2' hx02' hs2'
   by_cases hcn:cntK 5 l=1
   ·have HP3:Hid (parseF s.data.toList=halves (l.take f) (l.drop (f+1)) true):=Lib.hid (by rw [HP2b.out,if_pos hcn])
    rw [hcn]
    clear hcn HP2b
    go_wp2_with fail
    refine (must_ok _).mono ?_;rintro e w2'' ⟨rfl,rfl⟩
    go_upto_region 7 with fail
    go_cut [6,7] from 12 to 30 (fun u v wx=>∃ (nA cA:Nat) (AB:Option Addr) (nB cB:Nat),u=.slice (some ⟨b,off,none⟩) nA cA∧v=.slice AB nB cB∧Hid ((l.take f).length=nA∧nA≤cA∧(l.drop (f+1)).length=nB∧nB≤cB∧∀ W,Row W (some ⟨b,off,none⟩) (pcsV l)→Row W AB (pcsV (l.drop (f+1))))∧Ext w2' wx)
    case first =>
     have hix:=HF.out
     subst hix
     have hi1:(0:Int)≤(f:Int):=by omega
     have hi3:(f:Int)≤(c:Int):=by omega
     have hi4:(f:Int)≤(l.length:Int):=by omega
     have hi5:f≤c:=by omega
     have hi6:f+1≤c:=by omega
     have hi7:(f:Int)+1≤(c:Int):=by omega
     have hi8:(f:Int)+1≤(l.length:Int):=by omega
     have hi9:((f:Int)+1).toNat=f+1:=by omega
     have hi10:(0:Int)≤(f:Int)+1:=by omega
     have hi11:IntKind.i64.wrap ((f:Int)+1)=(f:Int)+1:=IntWalk.i64_in _ (by omega)
     have e1:(l.take f).length=f:=by simp;omega
     have e2:(l.drop (f+1)).length=l.length - (f+1):=by simp
     have E1:=Lib.hid e1
     have E2:=Lib.hid e2
     clear e1 e2
     by_cases hct:c=f+1
     ·have HLF:Hid (l.length=f+1):=Lib.hid (by omega)
      clear hi3 hi5 hi6 hi7
      subst hct
      go_region
      go_wp2_with fail
      go_meet
      clear hi1 hi4 hi8 hi9 hi10 hi11
      exact ⟨f,f+1,_,0,0,rfl,rfl,Lib.hid ⟨E1.out,Nat.le_succ f,by rw [E2.out,HLF.out,Nat.sub_self],Nat.le_refl _,fun W _=>by rw [List.drop_of_length_le (by rw [HLF.out];exact Nat.le_refl _)];exact Row.nil⟩,Ext.drew_ (Ext.refl _)⟩
     ·go_region
      go_wp2_with fail
      go_meet
      clear hi1 hi3 hi4 hi7 hi8 hi9 hi10 hi11
      exact ⟨f,c,_,_,_,rfl,rfl,Lib.hid ⟨E1.out,hi5,E2.out,by omega,fun W hW=>row_drop hW (f+1)⟩,Ext.drew_ (Ext.refl _)⟩
    case rest =>
     obtain ⟨nA,cA,AB,nB,cB,rfl,rfl,HAB,hxc2⟩:=hcut
     have hb2d:=hb2.ext hxc2
     have hk2d:=hk2.ext hxc2
     have hr2d:=hr2.below hxc2 (Nat.le_refl _)
     have hx02d:=hx02.trans hxc2
     have hs2d:=Nat.le_trans hs2 hxc2.size
     clear hb2 hk2 hr2 hx02 hs2 hxc2
     have hb2:=hb2d
     have hk2:=hk2d
     have hr2:=hr2d
     have hx02:=hx02d
     have hs2:=hs2d
     clear hb2d hk2d hr2d hx02d hs2d HF hi' hfl
     go_wp2_with fail
     refine (half_n _ _ _ (l.take f) _ (HAB.out.1) (row_take hr2 f) (by simp;omega) (Nat.le_trans (tot_take _ _) (by omega)) (HAB.out.2.1)).mono ?_
     intro e w3 hN1
     cases h1:halfF (l.take f) with
     | none =>
      rw [h1] at hN1
      obtain ⟨rfl,hx3⟩:=hN1
      have HP4:Hid (parseF s.data.toList=.error 2):=Lib.hid (by rw [HP3.out,halves_no1 h1])
      go_wp2_with fail
      refine fails_ (v:=w) (hb2.ext hx3) rfl (hk2.ext hx3) (by omega) (hx02.trans hx3) (Nat.le_refl _) (by omega) rfl rfl fun w' hw=>?_
      rw [HP4.out]
      exact ⟨rfl,hw⟩
     | some r1 =>
      obtain ⟨p1,s1,n1,b1⟩:=r1
      have H1:=Lib.hid h1
      have hlen1:=halfF_len h1
      rw [h1] at hN1
      obtain ⟨A1,c1,B1,d1,rfl,ra,rb,fa,fb,la,oa,lb,ob,hx3⟩:=hN1
      have hb3:=Lib.hid (hb2.ext hx3)
      have HK3:=Lib.hid (hk2.ext hx3)
      have hsz3:=hx3.size
      have RA3:=Lib.hid ra
      have RB3:=Lib.hid rb
      have HX3:=Lib.hid (hx02.trans hx3)
      have HR3:Hid (Row w3 (some ⟨b,off,none⟩) (pcsV l)):=Lib.hid (hr2.below hx3 (Nat.le_refl _))
      clear h1 ra rb hx02 hx3 hr2 hb2 hk2
      go_wp2_with (refine wpList_store_row rfl 131 (.tmp 2) (.tmp 34) rfl w.heap.size (patC (.slice A1 p1.length c1) (.slice B1 s1.length d1) nilS nilS n1).toArray rfl rfl _ _ hb3.out infoPat rfl pat_one ?_)
      have hb4:=hb3.out.set (patC (.slice A1 p1.length c1) (.slice B1 s1.length d1) nilS nilS n1).toArray
      have hk4:=HK3.out.other (show w.heap.size+1 ≠ w.heap.size by omega) (patC (.slice A1 p1.length c1) (.slice B1 s1.length d1) nilS nilS n1).toArray
      have ra4:=Row.setRow (g:=w.heap.size) (ds:=(patC (.slice A1 p1.length c1) (.slice B1 s1.length d1) nilS nilS n1).toArray) RA3.out (fun b' off' e=>by have:=fa _ e;dsimp only at this;omega)
      have rb4:=Row.setRow (g:=w.heap.size) (ds:=(patC (.slice A1 p1.length c1) (.slice B1 s1.length d1) nilS nilS n1).toArray) RB3.out (fun b' off' e=>by have:=fb _ e;dsimp only at this;omega)
      have hr4:=Row.setRow (g:=w.heap.size) (ds:=(patC (.slice A1 p1.length c1) (.slice B1 s1.length d1) nilS nilS n1).toArray) HR3.out (fun b' off' e=>by have:=HFR.out _ e;dsimp only at this;omega)
      have hx4:=Ext.setRow HX3.out (Nat.le_refl _) (patC (.slice A1 p1.length c1) (.slice B1 s1.length d1) nilS nilS n1).toArray
      have hs4:(w3.setRow w.heap.size (patC (.slice A1 p1.length c1) (.slice B1 s1.length d1) nilS nilS n1).toArray).heap.size=w3.heap.size:=by simp
      generalize w3.setRow w.heap.size (patC (.slice A1 p1.length c1) (.slice B1 s1.length d1) nilS nilS n1).toArray=w4 at *
      have hs5:w.heap.size+2≤w4.heap.size:=by omega
      clear hb3 HK3 RA3 RB3 HX3 HR3 hs4 hsz3
      refine (half_n _ _ _ (l.drop (f+1)) _ (HAB.out.2.2.1) (HAB.out.2.2.2.2 _ hr4) (by simp;omega) (Nat.le_trans (tot_drop _ _) (by omega)) (HAB.out.2.2.2.1)).mono ?_
      intro e w5 hN2
      cases h2:halfF (l.drop (f+1)) with
      | none =>
       rw [h2] at hN2
       obtain ⟨rfl,hx5⟩:=hN2
       have HP4:Hid (parseF s.data.toList=.error 2):=Lib.hid (by rw [HP3.out,halves_no2 H1.out h2])
       go_wp2_with fail
       refine fails_ (v:=w) (hb4.ext hx5) rfl (hk4.ext hx5) (by omega) (hx4.trans hx5) (Nat.le_refl _) (by omega) rfl rfl fun w' hw=>?_
       rw [HP4.out]
       exact ⟨rfl,hw⟩
      | some r2 =>
       obtain ⟨p2,s2,n2,b2⟩:=r2
       have HP4:Hid (parseF s.data.toList=if b1 && b2 then .ok (if true then ⟨p1,s1,p2,s2,n1⟩ else ⟨p1,s1,(3,[]) :: p1,s1,n1⟩) else .error 3):=Lib.hid (by rw [HP3.out,halves_ok H1.out h2])
       rw [h2] at hN2
       obtain ⟨A2,c2,B2,d2,rfl,rc,rd,fc,fd,lc,oc,ld,od,hx5⟩:=hN2
       have HB5:=Lib.hid (hb4.ext hx5)
       have HK5:=Lib.hid (hk4.ext hx5)
       have RA5:=Lib.hid (ra4.below hx5 (Nat.le_refl _))
       have RB5:=Lib.hid (rb4.below hx5 (Nat.le_refl _))
       have RC5:=Lib.hid rc
       have RD5:=Lib.hid rd
       have HX5:=Lib.hid (hx4.trans hx5)
       have hs6:=Nat.le_trans hs5 hx5.size
       clear h2 rc rd hx4 hx5 ra4 rb4 hr4 hb4 hk4 HP3 H1
       by_cases hbb:(b1 && b2)=true
       ·obtain ⟨rfl,rfl⟩:b1=true∧b2=true:=by simpa using hbb
        clear hbb
        have HI2:=Lib.hid hi2
        clear hi2 hll hln hcm htl hlc HFR hlen1 HAB
        have hxa:=Ext.alloc_ (Ext.refl w5) (.cells (patC (.slice A2 p2.length c2) (.slice B2 s2.length d2) nilS nilS n2).toArray 131)
        have hb6:=HB5.out.alloc (.cells (patC (.slice A2 p2.length c2) (.slice B2 s2.length d2) nilS nilS n2).toArray 131)
        have hk6:=HK5.out.alloc (.cells (patC (.slice A2 p2.length c2) (.slice B2 s2.length d2) nilS nilS n2).toArray 131)
        have hb9:=Box.new w5 131 (patC (.slice A2 p2.length c2) (.slice B2 s2.length d2) nilS nilS n2)
        have ra6:=Lib.hid (RA5.out.below hxa (Nat.le_refl _))
        have rb6:=Lib.hid (RB5.out.below hxa (Nat.le_refl _))
        have rc6:=Lib.hid (RC5.out.below hxa (Nat.le_refl _))
        have rd6:=Lib.hid (RD5.out.below hxa (Nat.le_refl _))
        have hx6:=Lib.hid (HX5.out.trans hxa)
        clear hxa HB5 HK5 RA5 RB5 RC5 RD5 HX5
        go_wp2_with (refine wpList_store_fresh rfl 131 (.tmp 9) (.tmp 39) rfl (patC (.slice A2 p2.length c2) (.slice B2 s2.length d2) nilS nilS n2).toArray 131 _ rfl rfl infoPat rfl pat_one ?_)
        generalize w5.alloc (.cells (patC (.slice A2 p2.length c2) (.slice B2 s2.length d2) nilS nilS n2).toArray 131)=w6 at *
        generalize w5.heap.size=t9 at *
        have q0:=hb9.cell (j:=0) (v:=.slice A2 p2.length c2) rfl
        have q1:=hb9.cell (j:=1) (v:=.slice B2 s2.length d2) rfl
        have q2:=hb6.cell (j:=2) (v:=.slice none 0 0) rfl
        have q3:=hb6.cell (j:=3) (v:=.slice none 0 0) rfl
        have u2:=hb6.frozen 2
        have u3:=hb6.frozen 3
        have hne9:t9 ≠ w.heap.size:=by omega
        go_region
        have hb7:Box ((w6.setCell ⟨w.heap.size,2,none⟩ (.slice A2 p2.length c2)).setCell ⟨w.heap.size,3,none⟩ (.slice B2 s2.length d2)).drew w.heap.size 131 (patC (.slice A1 p1.length c1) (.slice B1 s1.length d1) (.slice A2 p2.length c2) (.slice B2 s2.length d2) n1):=((hb6.setCell 2 (.slice A2 p2.length c2)).setCell 3 (.slice B2 s2.length d2)).drew
        have hk7:=((hk6.setCell1 w.heap.size (.slice A2 p2.length c2) (by omega) 2).setCell1 w.heap.size (.slice B2 s2.length d2) (by omega) 3).drew
        have o7:Only2 w.heap.size w6 ((w6.setCell ⟨w.heap.size,2,none⟩ (.slice A2 p2.length c2)).setCell ⟨w.heap.size,3,none⟩ (.slice B2 s2.length d2)).drew:=(((Only2.of_ext (Ext.refl w6)).setCell 2 (.slice A2 p2.length c2) (by omega)).setCell 3 (.slice B2 s2.length d2) (by omega)).drew
        have ra7:=Lib.hid (Row.only2 ra6.out o7 fa hs2)
        have rb7:=Lib.hid (Row.only2 rb6.out o7 fb hs2)
        have rc7:=Lib.hid (Row.only2 rc6.out o7 fc hs5)
        have rd7:=Lib.hid (Row.only2 rd6.out o7 fd hs5)
        have hx7:=Lib.hid (Ext.drew_ (Ext.setCell_ (Ext.setCell_ hx6.out (Nat.le_refl _) 2 (.slice A2 p2.length c2)) (Nat.le_refl _) 3 (.slice B2 s2.length d2)))
        have hs7:w.heap.size+2≤(((w6.setCell ⟨w.heap.size,2,none⟩ (.slice A2 p2.length c2)).setCell ⟨w.heap.size,3,none⟩ (.slice B2 s2.length d2)).drew).heap.size:=Nat.le_trans (Nat.le_trans hs6 (Nat.le_of_lt hb9.lt)) o7.1
        generalize ((w6.setCell ⟨w.heap.size,2,none⟩ (.slice A2 p2.length c2)).setCell ⟨w.heap.size,3,none⟩ (.slice B2 s2.length d2)).drew=w7 at *
        clear ra6 rb6 rc6 rd6 hx6 o7 hb6 hk6 hb9 q0 q1 q2 q3 u2 u3 hne9
        have hi2:=HI2.out
        have HP6:Hid (parseF s.data.toList=.ok ⟨p1,s1,p2,s2,n1⟩):=HP4
        have HR9:=Lib.hid hb7.range
        have HB9:=Lib.hid hb7
        have hkc:=(hk7.other (show w.heap.size+1 ≠ w.heap.size by omega) (patC (.slice A1 p1.length c1) (.slice B1 s1.length d1) (.slice A2 p2.length c2) (.slice B2 s2.length d2) n1).toArray).cell (j:=0) (v:=.int .i64 0) rfl
        have hkf:=(hk7.other (show w.heap.size+1 ≠ w.heap.size by omega) (patC (.slice A1 p1.length c1) (.slice B1 s1.length d1) (.slice A2 p2.length c2) (.slice B2 s2.length d2) n1).toArray).frozen 0
        have hbz:=Lib.hid ((hb7.set (patC (.slice A1 p1.length c1) (.slice B1 s1.length d1) (.slice A2 p2.length c2) (.slice B2 s2.length d2) n1).toArray).setCell1 (w.heap.size+1) (.int .i64 0) (by omega) 0)
        have hkz:=Lib.hid ((hk7.other (show w.heap.size+1 ≠ w.heap.size by omega) (patC (.slice A1 p1.length c1) (.slice B1 s1.length d1) (.slice A2 p2.length c2) (.slice B2 s2.length d2) n1).toArray).setCell 0 (.int .i64 0))
        have oz:=Lib.hid (((Only2.of_ext (g:=w.heap.size) (Ext.refl w7)).setRow (patC (.slice A1 p1.length c1) (.slice B1 s1.length d1) (.slice A2 p2.length c2) (.slice B2 s2.length d2) n1).toArray (show w.heap.size < w.heap.size+2 by omega)).setCell 0 (.int .i64 0) (show w.heap.size+1 < w.heap.size+2 by omega))
        have hxz:=Lib.hid (Ext.setCell_ (Ext.setRow hx7.out (Nat.le_refl _) (patC (.slice A1 p1.length c1) (.slice B1 s1.length d1) (.slice A2 p2.length c2) (.slice B2 s2.length d2) n1).toArray) (show w.heap.size≤w.heap.size+1 by omega) 0 (.int .i64 0))
        clear hb7 hk7
        go_wp2_with (first
         | (refine wpList_load_mid rfl 131 (.tmp 2) rfl w.heap.size 0 rfl (patC (.slice A1 p1.length c1) (.slice B1 s1.length d1) (.slice A2 p2.length c2) (.slice B2 s2.length d2) n1) _ HR9.out Tryz.underlying131 rfl infoPat ?_)
         | (refine wpList_store_row rfl 131 (.tmp 2) (.tmp 63) rfl w.heap.size (patC (.slice A1 p1.length c1) (.slice B1 s1.length d1) (.slice A2 p2.length c2) (.slice B2 s2.length d2) n1).toArray rfl rfl _ _ HB9.out infoPat rfl pat_one ?_))
        refine ends_ hbz.out rfl hkz.out rfl rfl ?_
        rw [HP6.out]
        exact ⟨A1,c1,B1,d1,A2,c2,B2,d2,rfl,Row.only2 ra7.out oz.out fa hs2,Row.only2 rb7.out oz.out fb hs2,Row.only2 rc7.out oz.out fc hs5,Row.only2 rd7.out oz.out fd hs5,oa,ob,oc,od,hxz.out⟩
       ·have HP5:Hid (parseF s.data.toList=.error 3):=Lib.hid (by rw [HP4.out,if_neg hbb])
        have HB6:=HB5.out.alloc (.cells (patC (.slice A2 p2.length c2) (.slice B2 s2.length d2) nilS nilS n2).toArray 131)
        have HK6:=HK5.out.alloc (.cells (patC (.slice A2 p2.length c2) (.slice B2 s2.length d2) nilS nilS n2).toArray 131)
        have HX6:=HX5.out.alloc_ (.cells (patC (.slice A2 p2.length c2) (.slice B2 s2.length d2) nilS nilS n2).toArray 131)
        have HB7:=Lib.hid HB6
        have hkc:=(HK6.other (show w.heap.size+1 ≠ w.heap.size by omega) (patC nilS nilS nilS nilS zeroN).toArray).cell (j:=0) (v:=.int .i64 0) rfl
        have hkf:=(HK6.other (show w.heap.size+1 ≠ w.heap.size by omega) (patC nilS nilS nilS nilS zeroN).toArray).frozen 0
        have hb8:=Lib.hid (((HB6.set (patC nilS nilS nilS nilS zeroN).toArray)).setCell1 (w.heap.size+1) (.int .i64 3) (by omega) 0)
        have hk8:=Lib.hid ((HK6.other (show w.heap.size+1 ≠ w.heap.size by omega) (patC nilS nilS nilS nilS zeroN).toArray).setCell 0 (.int .i64 3))
        have hx8:=Lib.hid (Ext.setCell_ (Ext.setRow HX6 (Nat.le_refl _) (patC nilS nilS nilS nilS zeroN).toArray) (show w.heap.size≤w.heap.size+1 by omega) 0 (.int .i64 3))
        clear HB6 HK6 HX6 HP4
        have hb3:(b1=false∧b2=false)∨(b1=false∧b2=true)∨(b1=true∧b2=false):=by cases b1 <;> cases b2 <;> simp_all
        clear hbb
        rcases hb3 with ⟨rfl,rfl⟩ | ⟨rfl,rfl⟩ | ⟨rfl,rfl⟩
        all_goals
         go_wp2_with (first | (refine wpList_store_fresh rfl 131 (.tmp 9) (.tmp 39) rfl (patC (.slice A2 p2.length c2) (.slice B2 s2.length d2) nilS nilS n2).toArray 131 _ rfl rfl infoPat rfl pat_one ?_) | (refine wpList_store_row rfl 131 (.tmp 2) (.tmp 47) rfl w.heap.size (patC nilS nilS nilS nilS zeroN).toArray rfl rfl _ _ HB7.out infoPat rfl pat_one ?_))
         refine ends_ hb8.out rfl hk8.out rfl rfl ?_
         rw [HP5.out]
         exact ⟨rfl,hx8.out⟩
   ·have HP3:Hid (parseF s.data.toList=.error 2):=Lib.hid (by rw [HP2b.out,if_neg hcn])
    have HD:Hid ((((cntK 5 l:Nat):Int) == 1)=false):=Lib.hid (by simp;omega)
    clear hcn
    go_wp2_with fail
    rw [HD.out]
    refine (must_no _).mono ?_;rintro e w2'' ⟨rfl,rfl⟩
    go_wp2_with fail
    refine fails_ (v:=w) hb2 rfl hk2 (by omega) hx02 (Nat.le_refl _) (by omega) rfl rfl fun w' hw=>?_
    rw [HP3.out]
    exact ⟨rfl,hw⟩
  ·have HP3:Hid (parseF s.data.toList=halves l l false):=Lib.hid (by rw [HP2.out];unfold parseT;rw [if_neg hi])
   have hi2:idxF (isK 5) l < 0:=by omega
   generalize idxF (isK 5) l=ix at *
   clear hi HP2
   go_wp2_with fail
   refine (half_n _ _ _ (l) _ (rfl) (hr2) (by skip;omega) (Nat.le_trans (Nat.le_refl _) (by omega)) (hlc)).mono ?_
   intro e w3 hN1
   cases h1:halfF (l) with
   | none =>
    rw [h1] at hN1
    obtain ⟨rfl,hx3⟩:=hN1
    have HP4:Hid (parseF s.data.toList=.error 2):=Lib.hid (by rw [HP3.out,halves_no1 h1])
    go_wp2_with fail
    refine fails_ (v:=w) (hb2.ext hx3) rfl (hk2.ext hx3) (by omega) (hx02.trans hx3) (Nat.le_refl _) (by omega) rfl rfl fun w' hw=>?_
    rw [HP4.out]
    exact ⟨rfl,hw⟩
   | some r1 =>
    obtain ⟨p1,s1,n1,b1⟩:=r1
    have H1:=Lib.hid h1
    have hlen1:=halfF_len h1
    rw [h1] at hN1
    obtain ⟨A1,c1,B1,d1,rfl,ra,rb,fa,fb,la,oa,lb,ob,hx3⟩:=hN1
    have hb3:=Lib.hid (hb2.ext hx3)
    have HK3:=Lib.hid (hk2.ext hx3)
    have hsz3:=hx3.size
    have RA3:=Lib.hid ra
    have RB3:=Lib.hid rb
    have HX3:=Lib.hid (hx02.trans hx3)
    have HR3:Hid (Row w3 A (pcsV l)):=Lib.hid (hr2.below hx3 (Nat.le_refl _))
    clear h1 ra rb hx02 hx3 hr2 hb2 hk2
    go_wp2_with (refine wpList_store_row rfl 131 (.tmp 2) (.tmp 34) rfl w.heap.size (patC (.slice A1 p1.length c1) (.slice B1 s1.length d1) nilS nilS n1).toArray rfl rfl _ _ hb3.out infoPat rfl pat_one ?_)
    have hb4:=hb3.out.set (patC (.slice A1 p1.length c1) (.slice B1 s1.length d1) nilS nilS n1).toArray
    have hk4:=HK3.out.other (show w.heap.size+1 ≠ w.heap.size by omega) (patC (.slice A1 p1.length c1) (.slice B1 s1.length d1) nilS nilS n1).toArray
    have ra4:=Row.setRow (g:=w.heap.size) (ds:=(patC (.slice A1 p1.length c1) (.slice B1 s1.length d1) nilS nilS n1).toArray) RA3.out (fun b' off' e=>by have:=fa _ e;dsimp only at this;omega)
    have rb4:=Row.setRow (g:=w.heap.size) (ds:=(patC (.slice A1 p1.length c1) (.slice B1 s1.length d1) nilS nilS n1).toArray) RB3.out (fun b' off' e=>by have:=fb _ e;dsimp only at this;omega)
    have hr4:=Row.setRow (g:=w.heap.size) (ds:=(patC (.slice A1 p1.length c1) (.slice B1 s1.length d1) nilS nilS n1).toArray) HR3.out (fun b' off' e=>by have:=HFR.out _ e;dsimp only at this;omega)
    have hx4:=Ext.setRow HX3.out (Nat.le_refl _) (patC (.slice A1 p1.length c1) (.slice B1 s1.length d1) nilS nilS n1).toArray
    have hs4:(w3.setRow w.heap.size (patC (.slice A1 p1.length c1) (.slice B1 s1.length d1) nilS nilS n1).toArray).heap.size=w3.heap.size:=by simp
    generalize w3.setRow w.heap.size (patC (.slice A1 p1.length c1) (.slice B1 s1.length d1) nilS nilS n1).toArray=w4 at *
    have hs5:w.heap.size+2≤w4.heap.size:=by omega
    clear hb3 HK3 RA3 RB3 HX3 HR3 hs4 hsz3
    refine (half_n _ _ _ (l) _ (rfl) (hr4) (by skip;omega) (Nat.le_trans (Nat.le_refl _) (by omega)) (hlc)).mono ?_
    intro e w5 hN2
    cases h2:halfF (l) with
    | none =>
     rw [h2] at hN2
     obtain ⟨rfl,hx5⟩:=hN2
     have HP4:Hid (parseF s.data.toList=.error 2):=Lib.hid (by rw [HP3.out,halves_no2 H1.out h2])
     go_wp2_with fail
     refine fails_ (v:=w) (hb4.ext hx5) rfl (hk4.ext hx5) (by omega) (hx4.trans hx5) (Nat.le_refl _) (by omega) rfl rfl fun w' hw=>?_
     rw [HP4.out]
     exact ⟨rfl,hw⟩
    | some r2 =>
     obtain ⟨p2,s2,n2,b2⟩:=r2
     have HP4:Hid (parseF s.data.toList=if b1 && b2 then .ok (if false then ⟨p1,s1,p2,s2,n1⟩ else ⟨p1,s1,(3,[]) :: p1,s1,n1⟩) else .error 3):=Lib.hid (by rw [HP3.out,halves_ok H1.out h2])
     rw [h2] at hN2
     obtain ⟨A2,c2,B2,d2,rfl,rc,rd,fc,fd,lc,oc,ld,od,hx5⟩:=hN2
     have HB5:=Lib.hid (hb4.ext hx5)
     have HK5:=Lib.hid (hk4.ext hx5)
     have RA5:=Lib.hid (ra4.below hx5 (Nat.le_refl _))
     have RB5:=Lib.hid (rb4.below hx5 (Nat.le_refl _))
     have RC5:=Lib.hid rc
     have RD5:=Lib.hid rd
     have HX5:=Lib.hid (hx4.trans hx5)
     have hs6:=Nat.le_trans hs5 hx5.size
     clear h2 rc rd hx4 hx5 ra4 rb4 hr4 hb4 hk4 HP3 H1
     by_cases hbb:(b1 && b2)=true
     ·obtain ⟨rfl,rfl⟩:b1=true∧b2=true:=by simpa using hbb
      clear hbb
      skip
      have hxa:=Ext.alloc_ (Ext.refl w5) (.cells (patC (.slice A2 p2.length c2) (.slice B2 s2.length d2) nilS nilS n2).toArray 131)
      have hb6:=HB5.out.alloc (.cells (patC (.slice A2 p2.length c2) (.slice B2 s2.length d2) nilS nilS n2).toArray 131)
      have hk6:=HK5.out.alloc (.cells (patC (.slice A2 p2.length c2) (.slice B2 s2.length d2) nilS nilS n2).toArray 131)
      have hb9:=Box.new w5 131 (patC (.slice A2 p2.length c2) (.slice B2 s2.length d2) nilS nilS n2)
      have ra6:=Lib.hid (RA5.out.below hxa (Nat.le_refl _))
      have rb6:=Lib.hid (RB5.out.below hxa (Nat.le_refl _))
      have rc6:=Lib.hid (RC5.out.below hxa (Nat.le_refl _))
      have rd6:=Lib.hid (RD5.out.below hxa (Nat.le_refl _))
      have hx6:=Lib.hid (HX5.out.trans hxa)
      clear hxa HB5 HK5 RA5 RB5 RC5 RD5 HX5
      go_wp2_with (refine wpList_store_fresh rfl 131 (.tmp 9) (.tmp 39) rfl (patC (.slice A2 p2.length c2) (.slice B2 s2.length d2) nilS nilS n2).toArray 131 _ rfl rfl infoPat rfl pat_one ?_)
      generalize w5.alloc (.cells (patC (.slice A2 p2.length c2) (.slice B2 s2.length d2) nilS nilS n2).toArray 131)=w6 at *
      generalize w5.heap.size=t9 at *
      have q0:=hb9.cell (j:=0) (v:=.slice A2 p2.length c2) rfl
      have q1:=hb9.cell (j:=1) (v:=.slice B2 s2.length d2) rfl
      have q2:=hb6.cell (j:=2) (v:=.slice none 0 0) rfl
      have q3:=hb6.cell (j:=3) (v:=.slice none 0 0) rfl
      have u2:=hb6.frozen 2
      have u3:=hb6.frozen 3
      have hne9:t9 ≠ w.heap.size:=by omega
      go_region
      have hb7:Box ((w6.setCell ⟨w.heap.size,2,none⟩ (.slice A2 p2.length c2)).setCell ⟨w.heap.size,3,none⟩ (.slice B2 s2.length d2)).drew w.heap.size 131 (patC (.slice A1 p1.length c1) (.slice B1 s1.length d1) (.slice A2 p2.length c2) (.slice B2 s2.length d2) n1):=((hb6.setCell 2 (.slice A2 p2.length c2)).setCell 3 (.slice B2 s2.length d2)).drew
      have hk7:=((hk6.setCell1 w.heap.size (.slice A2 p2.length c2) (by omega) 2).setCell1 w.heap.size (.slice B2 s2.length d2) (by omega) 3).drew
      have o7:Only2 w.heap.size w6 ((w6.setCell ⟨w.heap.size,2,none⟩ (.slice A2 p2.length c2)).setCell ⟨w.heap.size,3,none⟩ (.slice B2 s2.length d2)).drew:=(((Only2.of_ext (Ext.refl w6)).setCell 2 (.slice A2 p2.length c2) (by omega)).setCell 3 (.slice B2 s2.length d2) (by omega)).drew
      have ra7:=Lib.hid (Row.only2 ra6.out o7 fa hs2)
      have rb7:=Lib.hid (Row.only2 rb6.out o7 fb hs2)
      have rc7:=Lib.hid (Row.only2 rc6.out o7 fc hs5)
      have rd7:=Lib.hid (Row.only2 rd6.out o7 fd hs5)
      have hx7:=Lib.hid (Ext.drew_ (Ext.setCell_ (Ext.setCell_ hx6.out (Nat.le_refl _) 2 (.slice A2 p2.length c2)) (Nat.le_refl _) 3 (.slice B2 s2.length d2)))
      have hs7:w.heap.size+2≤(((w6.setCell ⟨w.heap.size,2,none⟩ (.slice A2 p2.length c2)).setCell ⟨w.heap.size,3,none⟩ (.slice B2 s2.length d2)).drew).heap.size:=Nat.le_trans (Nat.le_trans hs6 (Nat.le_of_lt hb9.lt)) o7.1
      generalize ((w6.setCell ⟨w.heap.size,2,none⟩ (.slice A2 p2.length c2)).setCell ⟨w.heap.size,3,none⟩ (.slice B2 s2.length d2)).drew=w7 at *
      clear ra6 rb6 rc6 rd6 hx6 o7 hb6 hk6 hb9 q0 q1 q2 q3 u2 u3 hne9
      have HP6:Hid (parseF s.data.toList=.ok ⟨p1,s1,(3,[]) :: p1,s1,n1⟩):=HP4
      have HR7:=Lib.hid hb7.range
      go_wp2_with (refine wpList_load_mid rfl 131 (.tmp 2) rfl w.heap.size 0 rfl (patC (.slice A1 p1.length c1) (.slice B1 s1.length d1) (.slice A2 p2.length c2) (.slice B2 s2.length d2) n1) _ HR7.out Tryz.underlying131 rfl infoPat ?_)
      refine (plain_ A1 B1 c1 d1 p1 s1 _ _ n1 _ ra7.out rb7.out oa ob (by omega) (by omega)).mono ?_
      rintro e w8 ⟨A3,c3,B3,d3,rfl,rc,rd,fc3,fd3,-,oc3,-,od3,hx8⟩
      have hb8:=hb7.ext hx8
      have hk8:=hk7.ext hx8
      have q2:=hb8.cell (j:=2) (v:=.slice A2 p2.length c2) rfl
      have q3:=hb8.cell (j:=3) (v:=.slice B2 s2.length d2) rfl
      have u2:=hb8.frozen 2
      have u3:=hb8.frozen 3
      have ra8:=ra7.out.below hx8 (Nat.le_refl _)
      have rb8:=rb7.out.below hx8 (Nat.le_refl _)
      have hx08:=hx7.out.trans hx8
      have hb9:Box ((w8.setCell ⟨w.heap.size,2,none⟩ (.slice A3 (p1.length+1) c3)).setCell ⟨w.heap.size,3,none⟩ (.slice B3 s1.length d3)) w.heap.size 131 (patC (.slice A1 p1.length c1) (.slice B1 s1.length d1) (.slice A3 (p1.length+1) c3) (.slice B3 s1.length d3) n1):=(hb8.setCell 2 (.slice A3 (p1.length+1) c3)).setCell 3 (.slice B3 s1.length d3)
      have hk9:=(hk8.setCell1 w.heap.size (.slice A3 (p1.length+1) c3) (by omega) 2).setCell1 w.heap.size (.slice B3 s1.length d3) (by omega) 3
      have HR9:=Lib.hid hb9.range
      have HB9:=Lib.hid hb9
      have hkc:=(hk9.other (show w.heap.size+1 ≠ w.heap.size by omega) (patC (.slice A1 p1.length c1) (.slice B1 s1.length d1) (.slice A3 (p1.length+1) c3) (.slice B3 s1.length d3) n1).toArray).cell (j:=0) (v:=.int .i64 0) rfl
      have hkf:=(hk9.other (show w.heap.size+1 ≠ w.heap.size by omega) (patC (.slice A1 p1.length c1) (.slice B1 s1.length d1) (.slice A3 (p1.length+1) c3) (.slice B3 s1.length d3) n1).toArray).frozen 0
      have hbz:=Lib.hid ((hb9.set (patC (.slice A1 p1.length c1) (.slice B1 s1.length d1) (.slice A3 (p1.length+1) c3) (.slice B3 s1.length d3) n1).toArray).setCell1 (w.heap.size+1) (.int .i64 0) (by omega) 0)
      have hkz:=Lib.hid ((hk9.other (show w.heap.size+1 ≠ w.heap.size by omega) (patC (.slice A1 p1.length c1) (.slice B1 s1.length d1) (.slice A3 (p1.length+1) c3) (.slice B3 s1.length d3) n1).toArray).setCell 0 (.int .i64 0))
      have oz:=Lib.hid (((((Only2.of_ext (g:=w.heap.size) (Ext.refl w8)).setCell 2 (.slice A3 (p1.length+1) c3) (show w.heap.size < w.heap.size+2 by omega)).setCell 3 (.slice B3 s1.length d3) (show w.heap.size < w.heap.size+2 by omega)).setRow (patC (.slice A1 p1.length c1) (.slice B1 s1.length d1) (.slice A3 (p1.length+1) c3) (.slice B3 s1.length d3) n1).toArray (show w.heap.size < w.heap.size+2 by omega)).setCell 0 (.int .i64 0) (show w.heap.size+1 < w.heap.size+2 by omega))
      have hxz:=Lib.hid (Ext.setCell_ (Ext.setRow (Ext.setCell_ (Ext.setCell_ hx08 (Nat.le_refl _) 2 (.slice A3 (p1.length+1) c3)) (Nat.le_refl _) 3 (.slice B3 s1.length d3)) (Nat.le_refl _) (patC (.slice A1 p1.length c1) (.slice B1 s1.length d1) (.slice A3 (p1.length+1) c3) (.slice B3 s1.length d3) n1).toArray) (show w.heap.size≤w.heap.size+1 by omega) 0 (.int .i64 0))
      have RC:=Lib.hid rc
      have RD:=Lib.hid rd
      have RA:=Lib.hid ra8
      have RB:=Lib.hid rb8
      clear rc rd ra8 rb8 hx08 hx8 hb8 hk8 hb9 hk9 hb7 hk7
      go_wp2_with (first
       | (refine wpList_load_mid rfl 131 (.tmp 2) rfl w.heap.size 0 rfl (patC (.slice A1 p1.length c1) (.slice B1 s1.length d1) (.slice A3 (p1.length+1) c3) (.slice B3 s1.length d3) n1) _ HR9.out Tryz.underlying131 rfl infoPat ?_)
       | (refine wpList_store_row rfl 131 (.tmp 2) (.tmp 63) rfl w.heap.size (patC (.slice A1 p1.length c1) (.slice B1 s1.length d1) (.slice A3 (p1.length+1) c3) (.slice B3 s1.length d3) n1).toArray rfl rfl _ _ HB9.out infoPat rfl pat_one ?_))
      refine ends_ hbz.out rfl hkz.out rfl rfl ?_
      rw [HP6.out]
      exact ⟨A1,c1,B1,d1,A3,c3,B3,d3,rfl,Row.only2 RA.out oz.out fa hs2,Row.only2 RB.out oz.out fb hs2,Row.only2 RC.out oz.out fc3 hs7,Row.only2 RD.out oz.out fd3 hs7,oa,ob,oc3,od3,hxz.out⟩
     ·have HP5:Hid (parseF s.data.toList=.error 3):=Lib.hid (by rw [HP4.out,if_neg hbb])
      have HB6:=HB5.out.alloc (.cells (patC (.slice A2 p2.length c2) (.slice B2 s2.length d2) nilS nilS n2).toArray 131)
      have HK6:=HK5.out.alloc (.cells (patC (.slice A2 p2.length c2) (.slice B2 s2.length d2) nilS nilS n2).toArray 131)
      have HX6:=HX5.out.alloc_ (.cells (patC (.slice A2 p2.length c2) (.slice B2 s2.length d2) nilS nilS n2).toArray 131)
      have HB7:=Lib.hid HB6
      have hkc:=(HK6.other (show w.heap.size+1 ≠ w.heap.size by omega) (patC nilS nilS nilS nilS zeroN).toArray).cell (j:=0) (v:=.int .i64 0) rfl
      have hkf:=(HK6.other (show w.heap.size+1 ≠ w.heap.size by omega) (patC nilS nilS nilS nilS zeroN).toArray).frozen 0
      have hb8:=Lib.hid (((HB6.set (patC nilS nilS nilS nilS zeroN).toArray)).setCell1 (w.heap.size+1) (.int .i64 3) (by omega) 0)
      have hk8:=Lib.hid ((HK6.other (show w.heap.size+1 ≠ w.heap.size by omega) (patC nilS nilS nilS nilS zeroN).toArray).setCell 0 (.int .i64 3))
      have hx8:=Lib.hid (Ext.setCell_ (Ext.setRow HX6 (Nat.le_refl _) (patC nilS nilS nilS nilS zeroN).toArray) (show w.heap.size≤w.heap.size+1 by omega) 0 (.int .i64 3))
      clear HB6 HK6 HX6 HP4
      have hb3:(b1=false∧b2=false)∨(b1=false∧b2=true)∨(b1=true∧b2=false):=by cases b1 <;> cases b2 <;> simp_all
      clear hbb
      rcases hb3 with ⟨rfl,rfl⟩ | ⟨rfl,rfl⟩ | ⟨rfl,rfl⟩
      all_goals
       go_wp2_with (first | (refine wpList_store_fresh rfl 131 (.tmp 9) (.tmp 39) rfl (patC (.slice A2 p2.length c2) (.slice B2 s2.length d2) nilS nilS n2).toArray 131 _ rfl rfl infoPat rfl pat_one ?_) | (refine wpList_store_row rfl 131 (.tmp 2) (.tmp 47) rfl w.heap.size (patC nilS nilS nilS nilS zeroN).toArray rfl rfl _ _ HB7.out infoPat rfl pat_one ?_))
       refine ends_ hb8.out rfl hk8.out rfl rfl ?_
       rw [HP5.out]
       exact ⟨rfl,hx8.out⟩
end Go.Proofs.YtcghgkagpkmpeaaGreatDoor.Pat
