/- Joined by wip/join.py: ClsP Cls Cls2 Cls3 Cls4. -/
import Derived.Test.YtcghgkagpkmpeaaGreatDoorJUtf
import Derived.Test.YtcghgkagpkmpeaaGreatDoorJBase
import Derived.Great.BuildSlice
set_option linter.unusedVariables false
set_option linter.unusedSimpArgs false
set_option maxHeartbeats 4000000
namespace Go.Proofs.YtcghgkagpkmpeaaGreatDoor.Cls
open All
def rngZ:List (Int × Int × Int):=[
 (13,13,1),(10,10,2),
 (0,9,3),(11,12,3),(14,31,3),(127,159,3),(173,173,3),(8203,8203,3),(8206,8207,3),(8232,8238,3),(8288,8303,3),(65279,65279,3),(65520,65531,3),(917504,917535,3),
 (768,879,4),(1155,1161,4),(1425,1469,4),(1552,1562,4),(1611,1631,4),(1648,1648,4),(2364,2364,4),(2369,2376,4),(2381,2381,4),(8204,8204,4),(8400,8432,4),(12330,12335,4),(12441,12442,4),(65024,65039,4),(65056,65071,4),(127995,127999,4),(917536,917631,4),(917760,917999,4),
 (8205,8205,5),
 (127462,127487,6),
 (1536,1541,7),(1757,1757,7),(1807,1807,7),(2274,2274,7),
 (2307,2307,8),(2363,2363,8),(2366,2368,8),(2377,2380,8),(2434,2435,8),(3635,3635,8),(3763,3763,8),
 (4352,4447,9),(43360,43388,9),
 (4448,4519,10),(55216,55238,10),
 (4520,4607,11),(55243,55291,11),
 (169,169,14),(174,174,14),(8252,8252,14),(8265,8265,14),(8482,8482,14),(8505,8505,14),(8596,8601,14),(8986,8987,14),(9728,9732,14),(9989,9989,14),(10084,10084,14),(127744,127994,14),(128000,128591,14),(128640,128767,14),(129280,129535,14)]
def inR (c:Int) (r:Int × Int × Int):Bool:=decide (r.1≤c) && decide (c≤r.2.1)
def tabZ (c:Int):Int:=match rngZ.find? (inR c) with | some r=>r.2.2 | none=>0
def clsZ (c:Int):Int:=if 44032≤c∧c≤55203 then (if (c - 44032) % 28=0 then 12 else 13) else tabZ c
def rowZ (k:Int):List (Int × Int × Int):=rngZ.filter fun r=>r.2.2 == k
theorem sortedZ:rngZ.Pairwise fun a b=>a.2.2≤b.2.2:=by decide
theorem boundZ:∀ r ∈ rngZ,1≤r.2.2∧r.2.2≤14:=by decide
def below (c k:Int):Prop:=∀ r ∈ rngZ,r.2.2 < k→inR c r=false
theorem below_one (c:Int):below c 1:=fun r hr h=>by have:=(boundZ r hr).1;omega
theorem below_succ {c k:Int} (h:below c k) (hn:(rowZ k).any (inR c)=false):below c (k+1):=fun r hr hlt=>by
 by_cases e:r.2.2=k
 ·rw [List.any_eq_false] at hn
  have:=hn r (List.mem_filter.2 ⟨hr,by simp [e]⟩)
  simpa using this
 ·exact h r hr (by omega)
theorem tab_hit {c k:Int} (h:below c k) (hy:(rowZ k).any (inR c)=true):tabZ c=k:=by
 obtain ⟨r,hr,hin⟩:=List.any_eq_true.1 hy
 obtain ⟨hm,hk⟩:=List.mem_filter.1 hr
 have hk':r.2.2=k:=by simpa using hk
 unfold tabZ
 cases hf:rngZ.find? (inR c) with
 | none =>
  rw [List.find?_eq_none] at hf
  exact absurd hin (hf r hm)
 | some q =>
  rw [List.find?_eq_some_iff_append] at hf
  obtain ⟨hq,l1,l2,hl,hno⟩:=hf
  show q.2.2=k
  have hqm:q ∈ rngZ:=by rw [hl];simp
  have h1:¬ q.2.2 < k:=fun hlt=>by rw [h q hqm hlt] at hq;cases hq
  have h2:q.2.2≤r.2.2:=by
   rw [hl] at hm
   rcases List.mem_append.1 hm with ha | hb
   ·have:=hno r ha;rw [hin] at this;cases this
   ·rcases List.mem_cons.1 hb with rfl | hb
    ·exact Int.le_refl _
    ·have hs:=sortedZ
     rw [hl] at hs
     exact List.rel_of_pairwise_cons (List.pairwise_append.1 hs).2.1 hb
  omega
theorem tab_miss {c:Int} (h:below c 15):tabZ c=0:=by
 unfold tabZ
 have:rngZ.find? (inR c)=none:=List.find?_eq_none.2 fun r hr=>by
  rw [h r hr (by have:=(boundZ r hr).2;omega)];decide
 rw [this]
theorem tab_bd (c:Int):0≤tabZ c∧tabZ c≤14:=by
 unfold tabZ
 cases hf:rngZ.find? (inR c) with
 | none=>exact ⟨by decide,by decide⟩
 | some q=>have:=boundZ q (List.mem_of_find?_eq_some hf);exact ⟨by show 0≤q.2.2;omega,this.2⟩
theorem cls_bd (c:Int):0≤clsZ c∧clsZ c≤14:=by
 have:=tab_bd c
 unfold clsZ;repeat' split
 all_goals omega
def plainR:List Int→Bool
 | []=>true
 | c :: r=>(clsZ c == 0 || clsZ c == 4) && plainR r
def plainL:List Int→Bool
 | []=>false
 | c :: r=>clsZ c == 0 && plainR r
def brk (k:Int):Bool:=k == 3 || k == 1 || k == 2
def hanZ (a b:Int):Bool:=if a=9 then b == 9 || b == 10 || b == 12 || b == 13 else if a=12∨a=10 then b == 10 || b == 11 else if a=13∨a=11 then b == 11 else false
def picS:List Int→Bool
 | []=>false
 | k :: r=>k == 14 || (k == 4 && picS r)
def regS:List Int→Nat
 | []=>0
 | k :: r=>if k=6 then regS r+1 else 0
def lnkS:List Int→Bool
 | []=>false
 | k :: r=>k == 5 && picS r
def joinS:List Int→Int→Bool
 | [],_=>false
 | l :: r,k=>if l=1∧k=2 then true else if brk l || brk k then false else if hanZ l k || k == 4 || k == 5 || k == 8 || l == 7 then true else if k=14 then l == 5 && picS r else k == 6 && regS (l :: r) % 2 == 1
def stG:List Int→List Int→List Int→List Int
 | _,[],_=>[]
 | rk,x :: xs,st=>if joinS rk (clsZ x) then stG (clsZ x :: rk) xs st.tail else st.headD 0 :: stG (clsZ x :: rk) xs st.tail
def cstL (s:List UInt8):List Int:=stG [] (charsL s) (startsL s)++[(s.length:Int)]
def cutsL (s:List UInt8):List Int→List (List UInt8)
 | a :: b :: r=>(s.drop a.toNat).take (b.toNat - a.toNat) :: cutsL s (b :: r)
 | _=>[]
def splitS (s:List UInt8):List (List UInt8):=cutsL s (cstL s)
theorem cuts_snoc (s:List UInt8):∀ (l:List Int) (a b:Int),cutsL s (l++[a,b])=cutsL s (l++[a])++[(s.drop a.toNat).take (b.toNat - a.toNat)]
 | [],a,b=>rfl
 | [c],a,b=>rfl
 | c :: d :: r,a,b=>by
  have ih:=cuts_snoc s (d :: r) a b
  show _ :: cutsL s ((d :: r)++[a,b])=(_ :: cutsL s ((d :: r)++[a]))++_
  rw [ih];rfl
theorem cuts_len (s:List UInt8):∀ (l:List Int),(cutsL s l).length=l.length - 1
 | []=>rfl
 | [_]=>rfl
 | a :: b :: r=>by
  have:=cuts_len s (b :: r)
  simp only [cutsL,List.length_cons] at this ⊢;omega
theorem stG_len:∀ (xs rk st:List Int),(stG rk xs st).length≤xs.length
 | [],_,_=>by simp [stG]
 | x :: xs,rk,st=>by
  have:=stG_len xs (clsZ x :: rk) st.tail
  unfold stG;split <;> simp only [List.length_cons] <;> omega
theorem startsP_bd:∀ (ps:List Piece) (p:Int),∀ x ∈ startsP p ps,p≤x
 | [],_,x,h=>by cases h
 | q :: r,p,x,h=>by
  rcases List.mem_cons.1 h with rfl | h
  ·exact Int.le_refl _
  ·have:=startsP_bd r (p+q.2.1) x h;omega
theorem startsP_sorted:∀ (ps:List Piece) (p:Int),(startsP p ps).Pairwise (·≤·)
 | [],_=>List.Pairwise.nil
 | q :: r,p=>List.Pairwise.cons (fun x hx=>by have:=startsP_bd r _ x hx;omega) (startsP_sorted r _)
theorem pieces_sum:∀ (n:Nat) (l:List UInt8) (p:Int),l.length≤n→∀ x ∈ startsP p (pieces l),x < p+l.length
 | 0,l,p,h,x,hx=>by
  have:l=[]:=List.eq_nil_of_length_eq_zero (by omega)
  subst this;cases hx
 | n+1,l,p,h,x,hx=>by
  by_cases h0:l=[]
  ·subst h0;cases hx
  ·have hw:=dec_width h0
   rw [pieces_cons h0] at hx
   rcases List.mem_cons.1 hx with rfl | hx
   ·have:=List.length_pos_iff.2 h0;omega
   ·have:=pieces_sum n _ _ (by rw [List.length_drop];omega) x hx
    rw [List.length_drop] at this
    simp only at this
    omega
theorem starts_lt (s:List UInt8):∀ x ∈ startsL s,0≤x∧x < s.length:=fun x hx=>by
 have h1:=startsP_bd _ _ x hx
 have h2:=pieces_sum _ s 0 (Nat.le_refl _) x hx
 omega
theorem stG_sub:∀ (xs rk st:List Int),xs.length≤st.length→(stG rk xs st).Sublist st
 | [],_,st,_=>by rw [stG];exact List.nil_sublist _
 | x :: xs,rk,[],h=>by simp at h
 | x :: xs,rk,a :: st,h=>by
  have ih:=stG_sub xs (clsZ x :: rk) st (by simpa using h)
  unfold stG
  split
  ·exact ih.cons a
  ·exact ih.cons_cons a
theorem chars_starts (s:List UInt8):(charsL s).length=(startsL s).length:=by
 unfold charsL startsL;rw [startsP_len];simp
theorem cst_sorted (s:List UInt8):(cstL s).Pairwise (·≤·):=by
 unfold cstL
 refine List.pairwise_append.2 ⟨(startsP_sorted _ _).sublist (stG_sub _ _ _ (by rw [chars_starts];exact Nat.le_refl _)),List.pairwise_singleton _ _,fun a ha b hb=>?_⟩
 have:=starts_lt s a ((stG_sub _ _ _ (by rw [chars_starts];exact Nat.le_refl _)).subset ha)
 simp at hb;omega
theorem cst_bd (s:List UInt8):∀ x ∈ cstL s,0≤x∧x≤s.length:=fun x hx=>by
 rcases List.mem_append.1 hx with h | h
 ·have:=starts_lt s x ((stG_sub _ _ _ (by rw [chars_starts];exact Nat.le_refl _)).subset h);omega
 ·simp at h;omega
open Go.RowKit Utf All Small
theorem flat_at {α:Type} (enc:α→List Value) (m:Nat) (hm:∀ x,(enc x).length=m):∀ (l:List α) (k:Nat) (hk:k < l.length) (j:Nat),j < m→(l.flatMap enc)[k * m+j]? = (enc l[k])[j]?
 | [],k,hk,j,hj=>by simp at hk
 | x :: l,0,hk,j,hj=>by
  rw [List.flatMap_cons,Nat.zero_mul,Nat.zero_add,List.getElem?_append_left (by rw [hm];exact hj)];rfl
 | x :: l,k+1,hk,j,hj=>by
  have ih:=flat_at enc m hm l k (by simpa using hk) j hj
  rw [List.flatMap_cons,List.getElem?_append_right (by rw [hm,Nat.succ_mul];omega),hm,show (k+1) * m+j - m=k * m+j by rw [Nat.succ_mul];omega,ih];rfl
theorem flat_len {α:Type} (enc:α→List Value) (m:Nat) (hm:∀ x,(enc x).length=m) (l:List α):(l.flatMap enc).length=l.length * m:=by
 induction l with
 | nil=>simp
 | cons x l ih=>rw [List.flatMap_cons,List.length_append,hm,ih,List.length_cons,Nat.succ_mul];omega
def rgV (r:Int × Int × Int):List Value:=[.int .i64 r.1,.int .i64 r.2.1]
def rngV (l:List (Int × Int × Int)):List Value:=l.flatMap rgV
theorem row_rg {w:World} {A:Option Addr} {l:List (Int × Int × Int)} (h:Row w A (rngV l)) {k:Nat} (hk:k < l.length) :
  ∃ b off,A=some ⟨b,off,none⟩∧w.cell? ⟨b,off+k * 2,none⟩=some (.int .i64 l[k].1)∧w.cell? ⟨b,off+k * 2+1,none⟩=some (.int .i64 l[k].2.1):=by
 have hl:(rngV l).length=l.length * 2:=flat_len rgV 2 (fun _=>rfl) l
 obtain ⟨b,off,e,hc⟩:=h.at_ (k:=k * 2) (by rw [hl];omega)
 have h1:=flat_at rgV 2 (fun _=>rfl) l k hk 0 (by decide)
 have h2:=flat_at rgV 2 (fun _=>rfl) l k hk 1 (by decide)
 exact ⟨b,off,e,hc _ _ h1,by rw [Nat.add_assoc];exact hc _ _ h2⟩
set_option maxRecDepth 100000
theorem ranges_ (k:Int) (w:World) (h1:1≤k) (h2:k≤14) :
  Calls Tryz.prog 211 #[.int .i64 k] w fun e w'=>∃ A c,e=.returned (.slice A (rowZ k).length c)∧Row w' A (rngV (rowZ k))∧Ext w w':=by
 have h:k=1∨k=2∨k=3∨k=4∨k=5∨k=6∨k=7∨k=8∨k=9∨k=10∨k=11∨k=12∨k=13∨k=14:=by omega
 rcases h with rfl | rfl | rfl | rfl | rfl | rfl | rfl | rfl | rfl | rfl | rfl | rfl | rfl | rfl
 all_goals
  go_enter Tryz.func211,Tryz.ntmps211
  go_wp2
  go_ret
  first
   | exact ⟨none,0,rfl,Row.nil,Ext.refl _⟩
   | exact ⟨some ⟨w.heap.size,0,none⟩,_,rfl,row_new w (rngV (rowZ _)) _,(Below.refl _ _).alloc (Nat.le_refl _) _⟩
set_option maxRecDepth 512
theorem within_ (c:Int) (w:World) :
  Calls Tryz.prog 212 #[.int .i64 c] w fun e w'=>∃ B,e=.returned (.func (.func 239) #[] #[.pointer (some ⟨B,0,none⟩)])∧w'.cell? ⟨B,0,none⟩=some (.int .i64 c)∧Ext w w':=by
 go_enter Tryz.func212,Tryz.ntmps212
 go_wp2
 go_ret
 exact ⟨w.heap.size,rfl,by simp,(Below.refl _ _).alloc (Nat.le_refl _) _⟩
theorem within1 (r:Int × Int × Int) (c:Int) (B:Nat) (w:World) (hc:w.cell? ⟨B,0,none⟩=some (.int .i64 c)) :
  Calls Tryz.prog 239 #[.agg #[.int .i64 r.1,.int .i64 r.2.1],.pointer (some ⟨B,0,none⟩)] w fun e w'=>e=.returned (.bool (inR c r))∧Ext w w':=by
 obtain ⟨r0,r1,r2⟩:=r
 have hb:(w.alloc (.cells #[.int .i64 r0,.int .i64 r1] 261)).cell? ⟨B,0,none⟩=some (.int .i64 c):=Ext.cell_ ((Below.refl _ _).alloc (Nat.le_refl _) _) hc
 unfold inR
 simp only
 by_cases h1:r0≤c <;> by_cases h2:c≤r1
 all_goals
  go_enter Tryz.func239,Tryz.ntmps239
  go_wp2
  go_ret
  exact ⟨by simp [h1,h2],(Below.refl _ _).alloc (Nat.le_refl _) _⟩
theorem info2:(Tryz.prog.info? 261).map (·.size)=some 2:=by kernel_rfl
theorem index_in (A:Option Addr) (c:Nat) (l:List (Int × Int × Int)) (x:Int) (B:Nat) (w:World) (hr:Row w A (rngV l)) (hl:l.length≤1000000) (hB:w.cell? ⟨B,0,none⟩=some (.int .i64 x)) :
  Calls Tryz.prog 238 #[.slice A l.length c,.func (.func 239) #[] #[.pointer (some ⟨B,0,none⟩)]] w fun e w'=>e=.returned (.int .i64 (idxF (inR x) l))∧Ext w w':=by
 go_enter Tryz.func238,Tryz.ntmps238
 go_wp2
 go_loopw [5,8] (fun _ i wr=>∃ k:Nat,k≤l.length∧i=.int .i64 k∧Hid ((l.take k).any (inR x)=false)∧Ext w wr) (fun _ i _=>l.length - (intOf i).toNat)
 case atStart=>exact ⟨0,Nat.zero_le _,rfl,Lib.hid (by simp),Ext.refl _⟩
 case round =>
  obtain ⟨k,hk,rfl,HK,hx⟩:=hrel
  by_cases hlt:k < l.length
  ·obtain ⟨b,off,rfl,hc1,hc2⟩:=row_rg (hr.below hx (Nat.le_refl _)) hlt
   have hB':=Ext.cell_ hx hB
   have HA:=Lib.hid (idxF_at (inR x) l k hlt HK.out)
   have HT:=Lib.hid (any_snoc (inR x) l k hlt)
   have HX:=Lib.hid hx
   clear hx
   generalize l[k]=r at *
   have hrg:wr.rangeAt b (off+k * 2) [.int .i64 r.1,.int .i64 r.2.1]:=by
    intro j v hv
    match j with
    | 0=>simp at hv;subst hv;exact hc1
    | 1=>simp at hv;subst hv;exact hc2
    | j+2=>simp at hv
   have HRG:=Lib.hid hrg
   have HB':=Lib.hid hB'
   clear hrg hc1 hc2 hB'
   cases hb:inR x r
   ·have HB:=Lib.hid hb
    clear hb
    go_wp2_with (first
     | (refine wpList_load_mid rfl 261 (.tmp 14) rfl b (off+k * 2) rfl [.int .i64 r.1,.int .i64 r.2.1] _ HRG.out Tryz.underlying261 rfl info2 ?_)
     | (refine (within1 r x B _ HB'.out).mono ?_;rintro e w' ⟨rfl,hx'⟩;rw [HB.out]))
    go_roundw
    case rel=>exact ⟨k+1,by omega,by go_num,Lib.hid (by rw [HT.out,HK.out,HB.out];rfl),HX.out.trans hx'⟩
    case measure=>simp [intOf];omega
   ·have HB:=Lib.hid hb
    clear hb
    go_wp2_with (first
     | (refine wpList_load_mid rfl 261 (.tmp 14) rfl b (off+k * 2) rfl [.int .i64 r.1,.int .i64 r.2.1] _ HRG.out Tryz.underlying261 rfl info2 ?_)
     | (refine (within1 r x B _ HB'.out).mono ?_;rintro e w' ⟨rfl,hx'⟩;rw [HB.out]))
    go_ret
    exact ⟨by rw [HA.out HB.out];rfl,HX.out.trans hx'⟩
  ·have e:k=l.length:=by omega
   subst e
   rw [List.take_length] at HK
   go_wp2
   go_ret
   exact ⟨by rw [idxF_none _ _ HK.out];rfl,hx⟩
theorem contains_in (A:Option Addr) (c:Nat) (l:List (Int × Int × Int)) (x:Int) (B:Nat) (w:World) (hr:Row w A (rngV l)) (hl:l.length≤1000000) (hB:w.cell? ⟨B,0,none⟩=some (.int .i64 x)) :
  Calls Tryz.prog 210 #[.slice A l.length c,.func (.func 239) #[] #[.pointer (some ⟨B,0,none⟩)]] w fun e w'=>e=.returned (.bool (l.any (inR x)))∧Ext w w':=by
 have HF:=Lib.hid (idxF_sign (inR x) l)
 go_enter Tryz.func210,Tryz.ntmps210
 go_wp2_with fail
 refine (index_in _ _ _ _ _ _ hr hl hB).mono ?_;rintro e w' ⟨rfl,hx⟩
 go_wp2
 go_ret
 exact ⟨by rw [← HF.out];rfl,hx⟩
theorem row_len_ (k:Int):(rowZ k).length≤1000000:=Nat.le_trans (List.length_filter_le _ _) (by decide)
set_option maxRecDepth 100000
theorem of_ (c:Int) (w:World):Calls Tryz.prog 185 #[.int .i64 c] w fun e w'=>e=.returned (.int .i64 (clsZ c))∧Ext w w':=by
 by_cases hh:44032≤c∧c≤55203
 ·obtain ⟨h1,h2⟩:=hh
  by_cases h3:(c - 44032) % 28=0
  ·have HE:Hid (clsZ c=12):=Lib.hid (by unfold clsZ;rw [if_pos ⟨h1,h2⟩,if_pos h3])
   have h4:IntKind.i64.wrap (c - 44032)=c - 44032:=by rw [IntKind.wrap_i64];omega
   have h5:Int.tmod (c - 44032) 28=0:=by rw [Int.tmod_eq_emod_of_nonneg (by omega)];exact h3
   go_enter Tryz.func185,Tryz.ntmps185
   go_wp2
   all_goals first | (exfalso;omega) | (go_ret;exact ⟨by rw [HE.out];rfl,Ext.refl _⟩)
  ·have HE:Hid (clsZ c=13):=Lib.hid (by unfold clsZ;rw [if_pos ⟨h1,h2⟩,if_neg h3])
   have h4:IntKind.i64.wrap (c - 44032)=c - 44032:=by rw [IntKind.wrap_i64];omega
   have h5:¬ Int.tmod (c - 44032) 28=0:=by rw [Int.tmod_eq_emod_of_nonneg (by omega)];exact h3
   go_enter Tryz.func185,Tryz.ntmps185
   go_wp2
   all_goals first | (exfalso;omega) | (go_ret;exact ⟨by rw [HE.out];rfl,Ext.refl _⟩)
 ·have HE:Hid (clsZ c=tabZ c):=Lib.hid (by unfold clsZ;rw [if_neg hh])
  have hn:c < 44032∨55203 < c:=by omega
  clear hh
  go_enter Tryz.func185,Tryz.ntmps185
  rcases hn with hn | hn
  all_goals
   go_wp2
   go_loopw [3] (fun i wr=>∃ k:Nat,1≤k∧k≤15∧i=.int .i64 k∧Hid (below c k)∧Ext w wr) (fun i _=>15 - (intOf i).toNat)
   case atStart=>exact ⟨1,by omega,by omega,rfl,Lib.hid (below_one c),Ext.refl _⟩
   case round =>
    obtain ⟨k,hk1,hk2,rfl,HB,hx⟩:=hrel
    by_cases hlt:k≤14
    ·go_wp2_with fail
     refine (ranges_ k _ (by omega) (by omega)).mono ?_
     rintro e w2 ⟨A,cp,rfl,hr,hx2⟩
     have HL:=Lib.hid (row_len_ k)
     have HS:=Lib.hid (fun h=>below_succ (c:=c) (k:=k) HB.out h)
     have HH:=Lib.hid (fun h=>tab_hit (c:=c) (k:=k) HB.out h)
     have hk3:((k:Int)+1)=((k+1:Nat):Int):=by omega
     rw [hk3] at HS;clear hk3
     generalize rowZ k=l at *
     have HX2:=Lib.hid (hx.trans hx2)
     clear hx hx2
     go_wp2_with fail
     refine (within_ c _).mono ?_
     rintro e w3 ⟨B,rfl,hB,hx3⟩
     have hr3:=hr.below hx3 (Nat.le_refl _)
     clear hr
     cases hb:l.any (inR c)
     ·have HBB:=Lib.hid hb
      clear hb
      go_wp2_with fail
      refine (contains_in _ _ _ _ _ _ hr3 HL.out hB).mono ?_
      rintro e w4 ⟨rfl,hx4⟩;rw [HBB.out]
      go_wp2
      go_roundw
      case rel=>exact ⟨k+1,by omega,by omega,by go_num,Lib.hid (HS.out HBB.out),(HX2.out.trans hx3).trans hx4⟩
      case measure=>simp [intOf];omega
     ·have HBB:=Lib.hid hb
      clear hb
      go_wp2_with fail
      refine (contains_in _ _ _ _ _ _ hr3 HL.out hB).mono ?_
      rintro e w4 ⟨rfl,hx4⟩;rw [HBB.out]
      go_wp2
      go_ret
      exact ⟨by rw [HE.out,HH.out HBB.out];rfl,(HX2.out.trans hx3).trans hx4⟩
    ·have e:k=15:=by omega
     subst e
     have HM:=Lib.hid (tab_miss (c:=c) HB.out)
     go_wp2
     go_ret
     exact ⟨by rw [HE.out,HM.out];rfl,hx⟩
set_option maxRecDepth 512
def tailP (k:Nat) (xs:List Int):Bool:=if k=0 then plainL xs else plainR xs
theorem tailP_end (k:Nat):tailP k []=decide (0 < k):=by
 unfold tailP;cases k <;> simp [plainL,plainR]
theorem tailP_cons (k:Nat) (x:Int) (r:List Int):tailP k (x :: r)=((clsZ x == 0 || (clsZ x == 4 && decide (0 < k))) && tailP (k+1) r):=by
 unfold tailP;cases k <;> simp [plainL,plainR]
set_option maxRecDepth 100000
theorem plain_ (A:Option Addr) (c:Nat) (xs:List Int) (w:World) (hr:Row w A (xs.map (Value.int .i64))) (hl:xs.length≤maxLen) :
  Calls Tryz.prog 141 #[.slice A xs.length c] w fun e w'=>e=.returned (.bool (plainL xs))∧Ext w w':=by
 unfold maxLen at hl
 have H0:Hid (plainL xs=tailP 0 (xs.drop 0)):=Lib.hid rfl
 go_enter Tryz.func141,Tryz.ntmps141
 go_wp2
 go_loopw [3,4,5,8] (fun _ _ _ i wr=>∃ k:Nat,k≤xs.length∧i=.int .i64 k∧Hid (plainL xs=tailP k (xs.drop k))∧Ext w wr) (fun _ _ _ i _=>xs.length - (intOf i).toNat)
 case atStart=>exact ⟨0,Nat.zero_le _,rfl,H0,Ext.refl _⟩
 case round =>
  obtain ⟨k,hk,rfl,HK,hx⟩:=hrel
  by_cases hlt:k < xs.length
  ·obtain ⟨b,off,rfl,hc⟩:=row_int (hr.below hx (Nat.le_refl _)) hlt
   have HC:=Lib.hid (tailP_cons k xs[k] (xs.drop (k+1)))
   rw [← List.drop_eq_getElem_cons hlt] at HC
   generalize xs[k]=x at *
   have hq:=cls_bd x
   have HX:=Lib.hid hx
   clear hx
   go_wp2_with fail
   refine (of_ x _).mono ?_;rintro e w2 ⟨rfl,hx2⟩
   generalize clsZ x=q at *
   by_cases q0:q=0
   ·subst q0
    go_wp2
    go_roundw
    case rel=>exact ⟨k+1,by omega,by go_num,Lib.hid (by rw [HK.out,HC.out];rfl),HX.out.trans hx2⟩
    case measure=>simp [intOf];omega
   ·by_cases q4:q=4
    ·subst q4
     by_cases k0:k=0
     ·subst k0
      go_wp2
      go_ret
      exact ⟨by rw [HK.out,HC.out];rfl,HX.out.trans hx2⟩
     ·have k1:¬ (k:Int)=0:=by omega
      have k2:0 < k:=by omega
      go_wp2
      go_roundw
      case rel=>exact ⟨k+1,by omega,by go_num,Lib.hid (by rw [HK.out,HC.out];simp [k2]),HX.out.trans hx2⟩
      case measure=>simp [intOf];omega
    ·go_wp2
     go_ret
     exact ⟨by rw [HK.out,HC.out];simp [q0,q4],HX.out.trans hx2⟩
  ·have e:k=xs.length:=by omega
   subst e
   have HE:=Lib.hid (tailP_end xs.length)
   rw [List.drop_of_length_le (Nat.le_refl _)] at HK
   go_wp2
   go_ret
   exact ⟨ret_bool (by rw [HK.out,HE.out]),hx⟩
set_option maxRecDepth 512
def trV (r:Int × Int × Int):List Value:=[.int .i64 r.1,.int .i64 r.2.1,.int .i64 r.2.2]
def tabV (l:List (Int × Int × Int)):List Value:=l.flatMap trV
theorem row_tr {w:World} {A:Option Addr} {l:List (Int × Int × Int)} (h:Row w A (tabV l)) {k:Nat} (hk:k < l.length) :
  ∃ b off,A=some ⟨b,off,none⟩∧w.cell? ⟨b,off+k * 3,none⟩=some (.int .i64 l[k].1)∧w.cell? ⟨b,off+k * 3+1,none⟩=some (.int .i64 l[k].2.1)∧w.cell? ⟨b,off+k * 3+2,none⟩=some (.int .i64 l[k].2.2):=by
 have hl:(tabV l).length=l.length * 3:=flat_len trV 3 (fun _=>rfl) l
 obtain ⟨b,off,e,hc⟩:=h.at_ (k:=k * 3) (by rw [hl];omega)
 have h1:=flat_at trV 3 (fun _=>rfl) l k hk 0 (by decide)
 have h2:=flat_at trV 3 (fun _=>rfl) l k hk 1 (by decide)
 have h3:=flat_at trV 3 (fun _=>rfl) l k hk 2 (by decide)
 exact ⟨b,off,e,hc _ _ h1,by rw [Nat.add_assoc];exact hc _ _ h2,by rw [Nat.add_assoc];exact hc _ _ h3⟩
set_option maxRecDepth 100000
theorem table_ (w:World):Calls Tryz.prog 188 #[] w fun e w'=>∃ A c,e=.returned (.slice A rngZ.length c)∧Row w' A (tabV rngZ)∧Ext w w':=by
 have hi:(Tryz.prog.info? 237).map (fun i=>(i.zero,i.size))=some (some (.agg #[.int .i64 0,.int .i64 0,.int .i64 0]),3):=by kernel_rfl
 obtain ⟨ie,hie,hz,hsz⟩:∃ ie,Tryz.prog.info? 237=some ie∧ie.zero=some (.agg #[.int .i64 0,.int .i64 0,.int .i64 0])∧ie.size=3:=by
  cases h:Tryz.prog.info? 237 with
  | none=>rw [h] at hi;cases hi
  | some ie =>
   rw [h] at hi
   simp only [Option.map_some,Option.some.injEq,Prod.mk.injEq] at hi
   exact ⟨ie,rfl,hi.1,hi.2⟩
 have hlen:rngZ.length=66:=by decide
 go_enter Tryz.func188,Tryz.ntmps188
 go_wp2
 refine wp_buildSlice 235 237 66 _ rfl (tabV rngZ).toArray ie _ Tryz.underlying235 hie hz (by rw [hsz];decide) (by rw [hsz];decide) (by rw [hsz];kernel_rfl) ?_
 go_wp2
 go_ret
 exact ⟨some ⟨w.heap.size,0,none⟩,_,rfl,row_new w (tabV rngZ) _,(Below.refl _ _).alloc (Nat.le_refl _) _⟩
set_option maxRecDepth 512
theorem find_hit {α:Type} (p:α→Bool) (xs:List α) (k:Nat) (hk:k < xs.length) (h:(xs.take k).any p=false) (hp:p xs[k]=true):xs.find? p=some xs[k]:=by
 rw [List.find?_eq_some_iff_append]
 refine ⟨hp,xs.take k,xs.drop (k+1),?_,fun a ha=>?_⟩
 ·rw [← List.drop_eq_getElem_cons hk,List.take_append_drop]
 ·rw [List.any_eq_false] at h
  simpa using h a ha
theorem find_miss {α:Type} (p:α→Bool) (xs:List α) (h:xs.any p=false):xs.find? p=none:=by
 rw [List.find?_eq_none]
 rw [List.any_eq_false] at h
 exact fun x hx=>by simpa using h x hx
set_option maxRecDepth 100000
theorem of_ref (c:Int) (w:World):Calls Tryz.prog 151 #[.int .i64 c] w fun e w'=>e=.returned (.int .i64 (clsZ c))∧Ext w w':=by
 by_cases hh:44032≤c∧c≤55203
 ·obtain ⟨h1,h2⟩:=hh
  by_cases h3:(c - 44032) % 28=0
  ·have HE:Hid (clsZ c=12):=Lib.hid (by unfold clsZ;rw [if_pos ⟨h1,h2⟩,if_pos h3])
   have h4:IntKind.i64.wrap (c - 44032)=c - 44032:=by rw [IntKind.wrap_i64];omega
   have h5:Int.tmod (c - 44032) 28=0:=by rw [Int.tmod_eq_emod_of_nonneg (by omega)];exact h3
   go_enter Tryz.func151,Tryz.ntmps151
   go_wp2
   all_goals first | (exfalso;omega) | (go_ret;exact ⟨by rw [HE.out];rfl,Ext.refl _⟩)
  ·have HE:Hid (clsZ c=13):=Lib.hid (by unfold clsZ;rw [if_pos ⟨h1,h2⟩,if_neg h3])
   have h4:IntKind.i64.wrap (c - 44032)=c - 44032:=by rw [IntKind.wrap_i64];omega
   have h5:¬ Int.tmod (c - 44032) 28=0:=by rw [Int.tmod_eq_emod_of_nonneg (by omega)];exact h3
   go_enter Tryz.func151,Tryz.ntmps151
   go_wp2
   all_goals first | (exfalso;omega) | (go_ret;exact ⟨by rw [HE.out];rfl,Ext.refl _⟩)
 ·have HE:Hid (clsZ c=match rngZ.find? (inR c) with | some r=>r.2.2 | none=>0):=Lib.hid (by unfold clsZ;rw [if_neg hh];rfl)
  have hn:c < 44032∨55203 < c:=by omega
  have HL:rngZ.length≤1000:=by decide
  clear hh
  go_enter Tryz.func151,Tryz.ntmps151
  rcases hn with hn | hn
  all_goals
   go_wp2_with fail
   refine (table_ _).mono ?_
   rintro e w1 ⟨A,cp,rfl,hr,hx1⟩
   generalize rngZ=l at *
   go_wp2
   go_loop [4] (fun i=>∃ k:Nat,k≤l.length∧i=.int .i64 k∧Hid ((l.take k).any (inR c)=false)) (fun i=>l.length - (intOf i).toNat)
   case atStart=>exact ⟨0,Nat.zero_le _,rfl,Lib.hid (by simp)⟩
   case round =>
    obtain ⟨k,hk,rfl,HK⟩:=hrel
    by_cases hlt:k < l.length
    ·obtain ⟨b,off,rfl,hc1,hc2,hc3⟩:=row_tr hr hlt
     have HA:=Lib.hid (find_hit (inR c) l k hlt HK.out)
     have HT:=Lib.hid (any_snoc (inR c) l k hlt)
     generalize l[k]=r at *
     obtain ⟨r0,r1,r2⟩:=r
     have HR:Hid (inR c (r0,r1,r2)=(decide (r0≤c) && decide (c≤r1))):=Lib.hid rfl
     by_cases g1:r0≤c
     ·by_cases g2:c≤r1
      ·have HB:Hid (inR c (r0,r1,r2)=true):=Lib.hid (by rw [HR.out];simp [g1,g2])
       go_wp2
       go_ret
       exact ⟨by rw [HE.out,HA.out HB.out];rfl,hx1⟩
      ·have HB:Hid (inR c (r0,r1,r2)=false):=Lib.hid (by rw [HR.out];simp [g1,g2])
       go_wp2
       go_round
       case rel=>exact ⟨k+1,by omega,by go_num,Lib.hid (by rw [HT.out,HK.out,HB.out];rfl)⟩
       case measure=>simp [intOf];omega
     ·have HB:Hid (inR c (r0,r1,r2)=false):=Lib.hid (by rw [HR.out];simp [g1])
      go_wp2
      go_round
      case rel=>exact ⟨k+1,by omega,by go_num,Lib.hid (by rw [HT.out,HK.out,HB.out];rfl)⟩
      case measure=>simp [intOf];omega
    ·have e:k=l.length:=by omega
     subst e
     rw [List.take_length] at HK
     have HM:=Lib.hid (find_miss _ _ HK.out)
     go_wp2
     go_ret
     exact ⟨by rw [HE.out,HM.out];rfl,hx1⟩
end Go.Proofs.YtcghgkagpkmpeaaGreatDoor.Cls
