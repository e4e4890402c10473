/- Joined by wip/join.py: PRp. -/
import Derived.Test.YtcghgkagpkmpeaaGreatDoorJPRb
import Derived.Test.YtcghgkagpkmpeaaGreatDoorJPRa
set_option linter.unusedVariables false
set_option linter.unusedSimpArgs false
set_option maxHeartbeats 4000000
namespace Go.Proofs.YtcghgkagpkmpeaaGreatDoor.Pat
open Go.RowKit Utf All Small Strs Build EncC
theorem half_refn (A:Option Addr) (c n n0 n1:Nat) (l:List Pc) (t:NSt) (w:World) (hn:l.length=n) (hr:Row w A (pcsV l)) (hl:n≤10000) (hlc:n≤c) (hcm:c≤maxLen) (H:HalfOk l n0 n1 t) :
  Calls Tryz.prog 174 #[.slice A n c] w fun e w'=>∃ B1 d1 B2 d2,e=.returned (.tuple #[.agg #[.slice B1 (joinF (l.take n0)).length d1,.slice B2 (joinF (l.drop n1)).length d2,nilS,nilS,.int .i64 (numsN t).prim,.int .i64 (numsN t).sec,.int .i64 (numsN t).minInt,.int .i64 (numsN t).minFrac,.int .i64 (numsN t).maxFrac],.bool true,.bool false]) ∧
   Row w' B1 (pcsV (joinF (l.take n0)))∧Row w' B2 (pcsV (joinF (l.drop n1)))∧OkL (joinF (l.take n0)).length B1 d1∧OkL (joinF (l.drop n1)).length B2 d2∧Fresh w B1∧Fresh w B2∧Ext w w':=by
 subst hn
 exact half_ref A c n0 n1 l t w hr hl hlc hcm H.h01 H.h12 H.k1 H.k2 H.k3 H.tt H.ne H.run H.ende H.long
theorem none_refn (A:Option Addr) (c n:Nat) (p:List Pc) (S2 S3 S4:Value) (x:Nums) (w:World) (hn:p.length=n) (hA:Row w A (pcsV p)) (hcA:Okc A c) (hp:p.length≤1000000) :
  Calls Tryz.prog 175 #[.agg #[.slice A n c,S2,S3,S4,.int .i64 x.prim,.int .i64 x.sec,.int .i64 x.minInt,.int .i64 x.minFrac,.int .i64 x.maxFrac]] w fun e w'=>∃ B d,e=.returned (.slice B (n+1) d)∧Row w' B (pcsV ((3,[]) :: p))∧OkL (n+1) B d∧Fresh w B∧Ext w w':=by
 subst hn
 exact none_ref A c p S2 S3 S4 x w hA hcA hp
def CapR (p:Pt) (c d a b:Nat):Prop:=p.pre.length≤c∧p.suf.length≤d∧p.npre.length≤a∧p.nsuf.length≤b
theorem results_par {fn:Func} (h:fn.results=#[.cell 2 29,.tmp 3]) (tmps:Array Value) (w:World) (g:Nat) (cs:List Value)
  (h2:tmps.getD 2 undef=.pointer (some ⟨g,0,none⟩)) (hb:Box w g 29 cs) (hl:cs.length=9) :
  (results fn tmps).run Tryz.prog w=.ok (.tuple #[.agg cs.toArray,tmps.getD 3 undef]) w:=by
 have h2':tmps[2]?.getD undef=.pointer (some ⟨g,0,none⟩):=by simpa using h2
 have e1:=run_loadVar_row (P:=Tryz.prog) w g _ 29 cs.toArray (0,0) _ hb Tryz.underlying29 rfl (by rw [infoP];simp [hl])
 simp [results,h,h2',asAddr,e1]
set_option maxRecDepth 1000000
theorem parse_refC (s:List UInt8) (l:List Pc) (n n0 n1 m0 m1:Nat) (t t2:NSt) (w:World) (hs:s.length≤1000000) (ht:tokL s=some l) (hl:l.length≤10000) (hn:n≤l.length)
  (hk:∀ k (h:k < l.length),k ≠ n→(l[k].1 == 5)=false) (h5:∀ h:n < l.length,(l[n].1 == 5)=true)
  (H1:HalfOk (l.take n) n0 n1 t) (H2:n < l.length→HalfOk (l.drop (n+1)) m0 m1 t2) (p:Pt)
  (hp:p=if n < l.length then ⟨joinF ((l.take n).take n0),joinF ((l.take n).drop n1),joinF ((l.drop (n+1)).take m0),joinF ((l.drop (n+1)).drop m1),numsN t⟩ else ⟨joinF ((l.take n).take n0),joinF ((l.take n).drop n1),(3,[]) :: joinF ((l.take n).take n0),joinF ((l.take n).drop n1),numsN t⟩) :
  Calls Tryz.prog 106 #[.string ⟨s.toArray⟩] w fun e w'=>∃ A c B d C a D b,e=.returned (.tuple #[.agg (patC (.slice A p.pre.length c) (.slice B p.suf.length d) (.slice C p.npre.length a) (.slice D p.nsuf.length b) p.num).toArray,.int .i64 0])∧PtR w' A B C D p∧CapR p c d a b∧Ext w w':=by
 have hb1:=Box.new w 29 (pN 0 0)
 have hx1:Ext w (w.alloc (.cells (pN 0 0).toArray 29)):=Ext.alloc_ (Ext.refl w) _
 have hw1:(w.alloc (.cells (pN 0 0).toArray 29)).heap.size=w.heap.size+1:=by simp
 have HW1:=Lib.hid hw1
 have HK:=Lib.hid hk
 have H5:=Lib.hid h5
 have HP:=Lib.hid hp
 have HH1:=Lib.hid H1
 have HH2:=Lib.hid H2
 have hpos:0 < n:=by have h1:=H1.h01;have h2:=H1.h12;simp at h2;omega
 clear hw1 hk h5 hp H1 H2
 go_enter Tryz.func106,Tryz.ntmps106
 go_upto_region 1 with fail
 change Code.wp _ _ _ _ (w.alloc (.cells (pN 0 0).toArray 29))
 generalize w.alloc (.cells (pN 0 0).toArray 29)=w1 at *
 go_wp2_with fail
 refine (tokens_ref ⟨s.toArray⟩ l w1 (by show s.toArray.size≤1000000;simpa using hs) (by simpa using ht)).mono ?_
 rintro e w2 ⟨A,c,rfl,hA,hc1,hcA,hx2⟩
 have hb2:=hb1.ext hx2
 have hxx:=hx1.trans hx2
 have HB:=Lib.hid hb2
 have HX:=Lib.hid hxx
 have HX2:=Lib.hid hx2
 clear hb1 hx1 hb2 hxx hx2 ht
 go_wp2_with fail
 go_loop [6,7] (fun a i=>∃ m:Nat,m≤l.length∧i=.int .i64 ((m:Int) - 1)∧a=.int .i64 ((if m≤n then n else l.length:Nat):Int)) (fun _ i=>((intOf i)+1).toNat)
 case atStart=>exact ⟨l.length,Nat.le_refl _,by go_num,by congr 2;split <;> omega⟩
 case round =>
  obtain ⟨m,hm,rfl,rfl⟩:=hrel
  by_cases hm0:m=0
  ·subst hm0
   have hl0:0 < l.length:=by omega
   obtain ⟨b,off,rfl,_,_⟩:=row_pc hA hl0
   have e0:(if (0:Nat)≤n then n else l.length)=n:=if_pos (Nat.zero_le _)
   rw [e0]
   have i1:(0:Int)≤(n:Int):=by omega
   have i2:(n:Int)≤(c:Int):=by omega
   have i3:n≤c:=by omega
   have h1n:(l.take n).length=n:=by simp;omega
   go_wp2_with fail
   refine (half_refn (some ⟨b,off,none⟩) c n n0 n1 (l.take n) t _ h1n (row_take hA n) (by omega) (by omega) hcA.1 HH1.out).mono ?_
   rintro e w3 ⟨B1,d1,B2,d2,rfl,hB1,hB2,oB1,oB2,fB1,fB2,hx3⟩
   have hlP:(joinF ((l.take n).take n0)).length≤10000:=Nat.le_trans (joinF_len _) (by simp;omega)
   generalize joinF ((l.take n).take n0)=P1 at *
   generalize joinF ((l.take n).drop n1)=S1 at *
   have hn1:=Box.new w3 29 (patC (.slice B1 P1.length d1) (.slice B2 S1.length d2) nilS nilS (numsN t))
   have hx4:Ext w3 (w3.alloc (.cells (patC (.slice B1 P1.length d1) (.slice B2 S1.length d2) nilS nilS (numsN t)).toArray 29)):=Ext.alloc_ (Ext.refl _) _
   have hz4:(w3.alloc (.cells (patC (.slice B1 P1.length d1) (.slice B2 S1.length d2) nilS nilS (numsN t)).toArray 29)).heap.size=w3.heap.size+1:=by simp
   have hrb:=hB1.below hx4 (Nat.le_refl _)
   have HN1:=Lib.hid hn1
   have HRR:=Lib.hid hn1.range
   have HX4:=Lib.hid hx4
   have HZ4:=Lib.hid hz4
   have HRB:=Lib.hid hrb
   clear hn1 hx4 hz4 hrb
   go_wp2_with (first
    | (refine wpList_store_fresh rfl 29 (.tmp 8) (.tmp 45) rfl (patC (.slice B1 P1.length d1) (.slice B2 S1.length d2) nilS nilS (numsN t)).toArray 29 _ rfl rfl infoP rfl pat_one ?_)
    | (refine wpList_load_mid rfl 29 (.tmp 8) rfl w3.heap.size 0 rfl (patC (.slice B1 P1.length d1) (.slice B2 S1.length d2) nilS nilS (numsN t)) _ HRR.out Tryz.underlying29 rfl infoP ?_))
   refine (none_refn B1 d1 _ P1 _ _ _ _ _ rfl HRB.out oB1.1 (by omega)).mono ?_
   rintro e w5 ⟨C1,e1,rfl,hC1,oC1,fC1,hx5⟩
   have hp5:=HN1.out.ext hx5
   have g2:=hp5.cell (j:=2) (v:=nilS) rfl
   have g3:=hp5.cell (j:=3) (v:=nilS) rfl
   have g1:=hp5.cell (j:=1) (v:=.slice B2 S1.length d2) rfl
   have f2:=hp5.frozen 2
   have f3:=hp5.frozen 3
   have hp6:Box ((w5.setCell ⟨w3.heap.size,2,none⟩ (.slice C1 (P1.length+1) e1)).setCell ⟨w3.heap.size,3,none⟩ (.slice B2 S1.length d2)) w3.heap.size 29 (patC (.slice B1 P1.length d1) (.slice B2 S1.length d2) (.slice C1 (P1.length+1) e1) (.slice B2 S1.length d2) (numsN t)):=(hp5.setCell 2 (.slice C1 (P1.length+1) e1)).setCell 3 (.slice B2 S1.length d2)
   have ho6:OnlyB w3.heap.size w3 ((w5.setCell ⟨w3.heap.size,2,none⟩ (.slice C1 (P1.length+1) e1)).setCell ⟨w3.heap.size,3,none⟩ (.slice B2 S1.length d2)):=((OnlyB.of_ext (HX4.out.trans hx5)).setCell 2 _).setCell 3 _
   have hz2:=HX2.out.size
   have hz3:=hx3.size
   have hz5:=hx5.size
   have hw1:=HW1.out
   have hx23:=HX.out.trans hx3
   have hx6:Ext w ((w5.setCell ⟨w3.heap.size,2,none⟩ (.slice C1 (P1.length+1) e1)).setCell ⟨w3.heap.size,3,none⟩ (.slice B2 S1.length d2)):=ho6.ext hx23 (by omega)
   have hres6:Box ((w5.setCell ⟨w3.heap.size,2,none⟩ (.slice C1 (P1.length+1) e1)).setCell ⟨w3.heap.size,3,none⟩ (.slice B2 S1.length d2)) w.heap.size 29 (pN 0 0):=((((HB.out.ext hx3).ext (HX4.out.trans hx5)).setCell1 w3.heap.size _ (by omega) 2).setCell1 w3.heap.size _ (by omega) 3)
   have hr1:Row ((w5.setCell ⟨w3.heap.size,2,none⟩ (.slice C1 (P1.length+1) e1)).setCell ⟨w3.heap.size,3,none⟩ (.slice B2 S1.length d2)) B1 (pcsV P1):=Row.only hB1 ho6 (fun b' off' e hb=>by omega)
   have hr2:Row ((w5.setCell ⟨w3.heap.size,2,none⟩ (.slice C1 (P1.length+1) e1)).setCell ⟨w3.heap.size,3,none⟩ (.slice B2 S1.length d2)) B2 (pcsV S1):=Row.only hB2 ho6 (fun b' off' e hb=>by omega)
   have hr3:Row ((w5.setCell ⟨w3.heap.size,2,none⟩ (.slice C1 (P1.length+1) e1)).setCell ⟨w3.heap.size,3,none⟩ (.slice B2 S1.length d2)) C1 (pcsV ((3,[]) :: P1)):=Row.only hC1 (((OnlyB.of_ext (Ext.refl w5)).setCell 2 _).setCell 3 _) (fun b' off' e hb=>by have h1:=fC1 _ e;have h2:=HZ4.out;simp only at h1;omega)
   have hfb1:∀ b' off',B1=some ⟨b',off',none⟩→b' ≠ w.heap.size:=fun b' off' e=>by have:=fB1 _ e;simp only at this;omega
   have hfb2:∀ b' off',B2=some ⟨b',off',none⟩→b' ≠ w.heap.size:=fun b' off' e=>by have:=fB2 _ e;simp only at this;omega
   have hfc1:∀ b' off',C1=some ⟨b',off',none⟩→b' ≠ w.heap.size:=fun b' off' e=>by have h1:=fC1 _ e;have h2:=HZ4.out;simp only at h1;omega
   have hA6:Row ((w5.setCell ⟨w3.heap.size,2,none⟩ (.slice C1 (P1.length+1) e1)).setCell ⟨w3.heap.size,3,none⟩ (.slice B2 S1.length d2)) (some ⟨b,off,none⟩) (pcsV l):=Row.only (hA.below hx3 (Nat.le_refl _)) ho6 (fun b' off' e hb=>by omega)
   have hs6:((w5.setCell ⟨w3.heap.size,2,none⟩ (.slice C1 (P1.length+1) e1)).setCell ⟨w3.heap.size,3,none⟩ (.slice B2 S1.length d2)).heap.size=w5.heap.size:=by simp
   have HG6:=Lib.hid hs6
   have H6:=Lib.hid hp6
   have HR6:=Lib.hid hp6.range
   have HS6:=Lib.hid hres6
   have HX6:=Lib.hid hx6
   have HRO1:=Lib.hid hr1
   have HRO2:=Lib.hid hr2
   have HRO3:=Lib.hid hr3
   have HFB1:=Lib.hid hfb1
   have HFB2:=Lib.hid hfb2
   have HFC1:=Lib.hid hfc1
   have HA6:=Lib.hid hA6
   have HZ5:=Lib.hid hz5
   have HXX:=Lib.hid hx3
   have HB1r:=Lib.hid hB1
   have HB2r:=Lib.hid hB2
   have HO6:=Lib.hid ho6
   clear hp6 hres6 hx6 hr1 hr2 hr3 hfb1 hfb2 hfc1 hA6 ho6 hs6 hx3 hx5 hB1 hB2 hC1 fB1 fB2 fC1 hx23 hz2 hz3 hz5 hp5
   unfold nilS at g2 g3
   by_cases hnl:n < l.length
   ·have hp:=HP.out
    rw [if_pos hnl] at hp
    have HPP:=Lib.hid hp
    clear hp
    have HHd:=HH2.out hnl
    have hn1l:n+1 < l.length:=by have h1:=HHd.h01;have h2:=HHd.h12;simp at h2;omega
    have HHH:=Lib.hid HHd
    clear HHd
    have q1:(n:Int) < (l.length:Int):=by omega
    have j1:(0:Int)≤(n:Int)+1:=by omega
    have j2:(n:Int)+1≤(l.length:Int):=by omega
    have j3:(l.length:Int)≤(c:Int):=by omega
    have hA7:=row_drop HA6.out (n+1)
    have HA7:=Lib.hid hA7
    clear hA7
    have HQK:Hid (∀ j (h:j < (l.drop (n+1)).length),((l.drop (n+1))[j].1 == 5)=false):=Lib.hid (fun j h=>by
     rw [List.getElem_drop]
     exact HK.out (n+1+j) (by simp at h;omega) (by omega))
    go_upto_region 17 with fail
    have hsz6:=HG6.out
    generalize (w5.setCell ⟨w3.heap.size,2,none⟩ (.slice C1 (P1.length+1) e1)).setCell ⟨w3.heap.size,3,none⟩ (.slice B2 S1.length d2)=v6 at *
    have hqL:(l.drop (n+1)).length=l.length - (n+1):=by simp
    have hLc:l.length - (n+1)≤c - (n+1):=by omega
    have hCm:c - (n+1)≤maxLen:=Nat.le_trans (Nat.sub_le _ _) hcA.1
    have hL1:l.length - (n+1)≤10000:=by omega
    have HQL:=Lib.hid hqL
    have HCM:=Lib.hid hCm
    have HS6':=Lib.hid hsz6
    generalize l.length - (n+1)=L at *
    generalize c - (n+1)=cc at *
    clear hqL hCm hsz6 HG6
    go_wp2
    go_loop [12] (fun i=>∃ u:Nat,u≤L∧i=.int .i64 u) (fun i=>L - (intOf i).toNat)
    case atStart=>exact ⟨0,Nat.zero_le _,rfl⟩
    case round =>
     obtain ⟨u,hu,rfl⟩:=hrel
     by_cases hul:u < L
     ·have huq:u < (l.drop (n+1)).length:=by rw [HQL.out];exact hul
      obtain ⟨b',off',eb,hd1,hd2⟩:=row_pc HA7.out huq
      injection eb with eb
      injection eb with eb1 eb2
      subst eb1;subst eb2
      have hb5:=HQK.out u huq
      generalize (l.drop (n+1))[u]=x at *
      have g3':(u:Int) < (L:Int):=by omega
      clear huq
      go_wp2
      go_round
      case rel=>exact ⟨u+1,by omega,by go_num⟩
      case measure=>simp [intOf] <;> omega
     ·have eu:u=L:=by omega
      subst eu
      go_wp2_with fail
      refine (half_refn (some ⟨b,off+(n+1) * 2,none⟩) cc u m0 m1 (l.drop (n+1)) t2 _ HQL.out HA7.out hL1 hLc HCM.out HHH.out).mono ?_
      rintro e w7 ⟨D1,x1,D2,x2,rfl,hD1,hD2,oD1,oD2,fD1,fD2,hx7⟩
      generalize joinF ((l.drop (n+1)).take m0)=P2 at *
      generalize joinF ((l.drop (n+1)).drop m1)=S2 at *
      have hn8:=Box.new w7 29 (patC (.slice D1 P2.length x1) (.slice D2 S2.length x2) nilS nilS (numsN t2))
      have hx8:Ext v6 (w7.alloc (.cells (patC (.slice D1 P2.length x1) (.slice D2 S2.length x2) nilS nilS (numsN t2)).toArray 29)):=Ext.alloc_ hx7 _
      have hb8:Box (w7.alloc (.cells (patC (.slice D1 P2.length x1) (.slice D2 S2.length x2) nilS nilS (numsN t2)).toArray 29)) w3.heap.size 29 (patC (.slice B1 P1.length d1) (.slice B2 S1.length d2) (.slice C1 (P1.length+1) e1) (.slice B2 S1.length d2) (numsN t)):=H6.out.ext hx8
      have hz7:=hx7.size
      have hs6:=HS6'.out
      have hw3:=HZ5.out
      have hz4:=HZ4.out
      have hww:w.heap.size < w3.heap.size:=by have:=HX2.out.size;have:=HXX.out.size;have:=HW1.out;omega
      have hne:w3.heap.size ≠ w7.heap.size:=by omega
      have hwne:w.heap.size ≠ w3.heap.size:=by have:=HX2.out.size;have:=HXX.out.size;omega
      have r0:=hn8.cell (j:=0) (v:=.slice D1 P2.length x1) rfl
      have o2:=hb8.cell (j:=2) (v:=.slice C1 (P1.length+1) e1) rfl
      have fo2:=hb8.frozen 2
      have hb9:=hb8.setCell 2 (.slice D1 P2.length x1)
      have hn9:=hn8.setCell1 w3.heap.size (.slice D1 P2.length x1) hne 2
      have r1:=hn9.cell (j:=1) (v:=.slice D2 S2.length x2) rfl
      have o3:=hb9.cell (j:=3) (v:=.slice B2 S1.length d2) rfl
      have fo3:=hb9.frozen 3
      have hb10:Box (((w7.alloc (.cells (patC (.slice D1 P2.length x1) (.slice D2 S2.length x2) nilS nilS (numsN t2)).toArray 29)).setCell ⟨w3.heap.size,2,none⟩ (.slice D1 P2.length x1)).setCell ⟨w3.heap.size,3,none⟩ (.slice D2 S2.length x2)) w3.heap.size 29 (patC (.slice B1 P1.length d1) (.slice B2 S1.length d2) (.slice D1 P2.length x1) (.slice D2 S2.length x2) (numsN t)):=hb9.setCell 3 (.slice D2 S2.length x2)
      have hor:OnlyB w3.heap.size v6 (((w7.alloc (.cells (patC (.slice D1 P2.length x1) (.slice D2 S2.length x2) nilS nilS (numsN t2)).toArray 29)).setCell ⟨w3.heap.size,2,none⟩ (.slice D1 P2.length x1)).setCell ⟨w3.heap.size,3,none⟩ (.slice D2 S2.length x2)):=((OnlyB.of_ext hx8).setCell 2 _).setCell 3 _
      have hx9:Ext w (((w7.alloc (.cells (patC (.slice D1 P2.length x1) (.slice D2 S2.length x2) nilS nilS (numsN t2)).toArray 29)).setCell ⟨w3.heap.size,2,none⟩ (.slice D1 P2.length x1)).setCell ⟨w3.heap.size,3,none⟩ (.slice D2 S2.length x2)):=hor.ext HX6.out (by omega)
      have hres9:Box (((w7.alloc (.cells (patC (.slice D1 P2.length x1) (.slice D2 S2.length x2) nilS nilS (numsN t2)).toArray 29)).setCell ⟨w3.heap.size,2,none⟩ (.slice D1 P2.length x1)).setCell ⟨w3.heap.size,3,none⟩ (.slice D2 S2.length x2)) w.heap.size 29 (pN 0 0):=((HS6.out.ext hx8).setCell1 w3.heap.size _ (by omega) 2).setCell1 w3.heap.size _ (by omega) 3
      have ho7:OnlyB w3.heap.size w7 (((w7.alloc (.cells (patC (.slice D1 P2.length x1) (.slice D2 S2.length x2) nilS nilS (numsN t2)).toArray 29)).setCell ⟨w3.heap.size,2,none⟩ (.slice D1 P2.length x1)).setCell ⟨w3.heap.size,3,none⟩ (.slice D2 S2.length x2)):=((OnlyB.of_ext (Ext.alloc_ (Ext.refl w7) _)).setCell 2 _).setCell 3 _
      have rd1:Row (((w7.alloc (.cells (patC (.slice D1 P2.length x1) (.slice D2 S2.length x2) nilS nilS (numsN t2)).toArray 29)).setCell ⟨w3.heap.size,2,none⟩ (.slice D1 P2.length x1)).setCell ⟨w3.heap.size,3,none⟩ (.slice D2 S2.length x2)) D1 (pcsV P2):=Row.only hD1 ho7 (fun b' off' e hb=>by have h1:=fD1 _ e;simp only at h1;omega)
      have rd2:Row (((w7.alloc (.cells (patC (.slice D1 P2.length x1) (.slice D2 S2.length x2) nilS nilS (numsN t2)).toArray 29)).setCell ⟨w3.heap.size,2,none⟩ (.slice D1 P2.length x1)).setCell ⟨w3.heap.size,3,none⟩ (.slice D2 S2.length x2)) D2 (pcsV S2):=Row.only hD2 ho7 (fun b' off' e hb=>by have h1:=fD2 _ e;simp only at h1;omega)
      have rb1:Row (((w7.alloc (.cells (patC (.slice D1 P2.length x1) (.slice D2 S2.length x2) nilS nilS (numsN t2)).toArray 29)).setCell ⟨w3.heap.size,2,none⟩ (.slice D1 P2.length x1)).setCell ⟨w3.heap.size,3,none⟩ (.slice D2 S2.length x2)) B1 (pcsV P1):=Row.only HB1r.out (HO6.out.trans hor) (fun b' off' e hb=>by omega)
      have rb2:Row (((w7.alloc (.cells (patC (.slice D1 P2.length x1) (.slice D2 S2.length x2) nilS nilS (numsN t2)).toArray 29)).setCell ⟨w3.heap.size,2,none⟩ (.slice D1 P2.length x1)).setCell ⟨w3.heap.size,3,none⟩ (.slice D2 S2.length x2)) B2 (pcsV S1):=Row.only HB2r.out (HO6.out.trans hor) (fun b' off' e hb=>by omega)
      have hfd1:∀ b' off',D1=some ⟨b',off',none⟩→b' ≠ w.heap.size:=fun b' off' e=>by have h1:=fD1 _ e;simp only at h1;omega
      have hfd2:∀ b' off',D2=some ⟨b',off',none⟩→b' ≠ w.heap.size:=fun b' off' e=>by have h1:=fD2 _ e;simp only at h1;omega
      have HR9:=Lib.hid hb10.range
      have HS9:=Lib.hid hres9
      have HX9:=Lib.hid hx9
      have RD1:=Lib.hid rd1
      have RD2:=Lib.hid rd2
      have RB1:=Lib.hid rb1
      have RB2:=Lib.hid rb2
      have HFD1:=Lib.hid hfd1
      have HFD2:=Lib.hid hfd2
      clear hww hn8 hx8 hb8 hz7 hs6 hw3 hz4 hne hwne hb9 hn9 hb10 hor hx9 hres9 ho7 rd1 rd2 rb1 rb2 hfd1 hfd2 hx7 hD1 hD2 fD1 fD2
      go_wp2_with (first
       | (refine wpList_store_fresh rfl 29 (.tmp 13) (.tmp 81) rfl (patC (.slice D1 P2.length x1) (.slice D2 S2.length x2) nilS nilS (numsN t2)).toArray 29 _ rfl rfl infoP rfl pat_one ?_)
       | (refine wpList_load_mid rfl 29 (.tmp 8) rfl w3.heap.size 0 rfl (patC (.slice B1 P1.length d1) (.slice B2 S1.length d2) (.slice D1 P2.length x1) (.slice D2 S2.length x2) (numsN t)) _ HR9.out Tryz.underlying29 rfl infoP ?_)
       | (refine wpList_store_row rfl 29 (.tmp 2) (.tmp 99) rfl w.heap.size (patC (.slice B1 P1.length d1) (.slice B2 S1.length d2) (.slice D1 P2.length x1) (.slice D2 S2.length x2) (numsN t)).toArray rfl rfl _ _ HS9.out infoP rfl pat_one ?_))
      have hb8':=HS9.out.set (patC (.slice B1 P1.length d1) (.slice B2 S1.length d2) (.slice D1 P2.length x1) (.slice D2 S2.length x2) (numsN t)).toArray
      refine bodyPost_ret (results_par rfl _ _ w.heap.size _ rfl hb8' rfl) rfl ?_
      have hp:=HPP.out
      subst hp
      exact ⟨B1,d1,B2,d2,D1,x1,D2,x2,rfl,⟨Row.setRow RB1.out HFB1.out,Row.setRow RB2.out HFB2.out,Row.setRow RD1.out HFD1.out,Row.setRow RD2.out HFD2.out⟩,⟨oB1.2,oB2.2,oD1.2,oD2.2⟩,Ext.setRow HX9.out (Nat.le_refl _) _⟩
   ·have hp:=HP.out
    rw [if_neg hnl] at hp
    subst hp
    have q1:¬ ((n:Int) < (l.length:Int)):=by omega
    go_wp2_with (first
     | (refine wpList_load_mid rfl 29 (.tmp 8) rfl w3.heap.size 0 rfl (patC (.slice B1 P1.length d1) (.slice B2 S1.length d2) (.slice C1 (P1.length+1) e1) (.slice B2 S1.length d2) (numsN t)) _ HR6.out Tryz.underlying29 rfl infoP ?_)
     | (refine wpList_store_row rfl 29 (.tmp 2) (.tmp 99) rfl w.heap.size (patC (.slice B1 P1.length d1) (.slice B2 S1.length d2) (.slice C1 (P1.length+1) e1) (.slice B2 S1.length d2) (numsN t)).toArray rfl rfl _ _ HS6.out infoP rfl pat_one ?_))
    have hb8:=HS6.out.set (patC (.slice B1 P1.length d1) (.slice B2 S1.length d2) (.slice C1 (P1.length+1) e1) (.slice B2 S1.length d2) (numsN t)).toArray
    refine bodyPost_ret (results_par rfl _ _ w.heap.size _ rfl hb8 rfl) rfl ?_
    exact ⟨B1,d1,B2,d2,C1,e1,B2,d2,rfl,⟨Row.setRow HRO1.out HFB1.out,Row.setRow HRO2.out HFB2.out,Row.setRow HRO3.out HFC1.out,Row.setRow HRO2.out HFB2.out⟩,⟨oB1.2,oB2.2,oC1.2,oB2.2⟩,Ext.setRow HX6.out (Nat.le_refl _) _⟩
  ·obtain ⟨k,rfl⟩:∃ k,m=k+1:=⟨m - 1,by omega⟩
   have hkl:k < l.length:=by omega
   have ek:((k+1:Nat):Int) - 1=k:=by omega
   rw [ek]
   obtain ⟨b,off,rfl,hc1',hc2'⟩:=row_pc hA hkl
   by_cases hkn:k=n
   ·subst hkn
    have hb5:=H5.out hkl
    generalize l[k]=x at *
    go_wp2
    go_round
    case rel=>exact ⟨k,by omega,by go_num,by simp⟩
    case measure=>simp [intOf] <;> omega
   ·have hb5:=HK.out k hkl hkn
    generalize l[k]=x at *
    have hkk:(if k+1≤n then n else l.length)=(if k≤n then n else l.length):=by
     by_cases h:k+1≤n
     ·rw [if_pos h,if_pos (by omega)]
     ·rw [if_neg h,if_neg (by omega)]
    go_wp2
    go_round
    case rel=>exact ⟨k,by omega,by go_num,by rw [hkk]⟩
    case measure=>simp [intOf] <;> omega
end Go.Proofs.YtcghgkagpkmpeaaGreatDoor.Pat
