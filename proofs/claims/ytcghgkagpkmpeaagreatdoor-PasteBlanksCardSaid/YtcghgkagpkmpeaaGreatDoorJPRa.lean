/- Joined by wip/join.py: PRn PRw PRq. -/
import Derived.Test.YtcghgkagpkmpeaaGreatDoorJPat4
set_option linter.unusedVariables false
set_option linter.unusedSimpArgs false
set_option maxHeartbeats 4000000
namespace Go.Proofs.YtcghgkagpkmpeaaGreatDoor.Pat
open Go.RowKit Utf All Small Strs Build EncC
structure NSt where
 point:Bool
 since:Nat
 group:Nat
 commas:Nat
 whole:Nat
 zeros:Nat
 minf:Nat
 maxf:Nat
deriving DecidableEq
def st0:NSt:=⟨false,0,0,0,0,0,0,0⟩
def stepN (s:NSt) (c:UInt8):Option NSt :=
 if c=46 then (if s.point=true∨s.whole=0∨(0 < s.commas∧s.since=0) then none else some { s with point:=true })
 else if s.point=true then (if c=44∨(c=48∧s.minf < s.maxf) then none else some { s with maxf:=s.maxf+1,minf:=if c=48 then s.minf+1 else s.minf })
 else if c=44 then (if s.since=0 then none else some { s with group:=s.since,since:=0,commas:=s.commas+1 })
 else if c=35∧0 < s.zeros then none
 else some { s with zeros:=if c=48 then s.zeros+1 else s.zeros,whole:=s.whole+1,since:=s.since+1 }
def runN:NSt→List UInt8→Option NSt
 | s,[]=>some s
 | s,c :: r=>match stepN s c with | some t=>runN t r | none=>none
def endN (s:NSt):Bool:=decide (s.whole ≠ 0) && decide (s.since ≠ 0) && (!s.point || decide (s.maxf ≠ 0))
def numsN (s:NSt):Nums:=⟨if 0 < s.commas then s.since else 0,if 1 < s.commas then s.group else if 0 < s.commas then s.since else 0,s.zeros,s.minf,s.maxf⟩
def longN (s:NSt):Bool:=decide (64 < s.whole) || decide (64 < s.maxf)
def pN (n m:Nat):List Value:=patC nilS nilS nilS nilS ⟨0,0,0,n,m⟩
theorem u8_eq {c:UInt8} (n:Nat) (hn:n < 256) (h:c=UInt8.ofNat n):((c.toNat:Int) == (n:Int))=true:=by
 subst h;simp [UInt8.toNat_ofNat',Nat.mod_eq_of_lt hn]
theorem u8_ne {c:UInt8} (n:Nat) (h:c ≠ UInt8.ofNat n):((c.toNat:Int) == (n:Int))=false:=by
 rw [Bool.eq_false_iff]
 intro e
 apply h
 have h1:(c.toNat:Int)=(n:Int):=eq_of_beq e
 have h2:c.toNat=n:=by omega
 rw [← h2];simp
theorem infoP:(Tryz.prog.info? 29).map (·.size)=some 9:=by kernel_rfl
theorem results_num {fn:Func} (h:fn.results=#[.cell 2 29,.tmp 3,.tmp 4]) (tmps:Array Value) (w:World) (g:Nat) (cs:List Value)
  (h2:tmps.getD 2 undef=.pointer (some ⟨g,0,none⟩)) (hb:Box w g 29 cs) (hl:cs.length=9) :
  (results fn tmps).run Tryz.prog w=.ok (.tuple #[.agg cs.toArray,tmps.getD 3 undef,tmps.getD 4 undef]) w:=by
 have h2':tmps[2]?.getD undef=.pointer (some ⟨g,0,none⟩):=by simpa using h2
 have e1:=run_loadVar_row (P:=Tryz.prog) w g _ 29 cs.toArray (0,0) _ hb Tryz.underlying29 rfl (by rw [infoP];simp [hl])
 simp [results,h,h2',asAddr,e1]
structure NRel (w wr:World) (n k:Nat) (st:NSt):Prop where
 b2:Box wr w.heap.size 29 (pN 0 0)
 b5:Box wr (w.heap.size+1) 29 (pN st.minf st.maxf)
 ext:Ext w wr
 kn:k≤n
 h1:st.since≤k
 h2:st.group≤k
 h3:st.commas≤k
 h4:st.whole≤k
 h5:st.zeros≤k
 h6:st.minf≤k
 h7:st.maxf≤k
set_option maxRecDepth 1000000
theorem number_ref (s:ByteArray) (t:NSt) (w:World) (hs:s.size≤10000) (hrun:runN st0 s.data.toList=some t) (hend:endN t=true) (hlong:longN t=false) :
  Calls Tryz.prog 198 #[.string s] w fun e w'=>e=.returned (.tuple #[.agg (patC nilS nilS nilS nilS (numsN t)).toArray,.bool true,.bool false])∧Ext w w':=by
 have HLONG:=Lib.hid hlong
 clear hlong
 have hlen:s.data.toList.length=s.size:=by simp
 have HRUN:=Lib.hid hrun
 have HEND:=Lib.hid hend
 clear hrun hend
 have hb2:=(Box.new w 29 (pN 0 0)).alloc (.cells (pN 0 0).toArray 29)
 have hb5:Box ((w.alloc (.cells (pN 0 0).toArray 29)).alloc (.cells (pN 0 0).toArray 29)) (w.heap.size+1) 29 (pN 0 0):=by
  have:=Box.new (w.alloc (.cells (pN 0 0).toArray 29)) 29 (pN 0 0)
  rwa [World.size_alloc] at this
 have hx0:Ext w ((w.alloc (.cells (pN 0 0).toArray 29)).alloc (.cells (pN 0 0).toArray 29)):=Ext.alloc_ (Ext.alloc_ (Ext.refl w) _) _
 have HST:Hid (NRel w ((w.alloc (.cells (pN 0 0).toArray 29)).alloc (.cells (pN 0 0).toArray 29)) s.size 0 st0):=Lib.hid ⟨hb2,hb5,hx0,Nat.zero_le _,Nat.le_refl _,Nat.le_refl _,Nat.le_refl _,Nat.le_refl _,Nat.le_refl _,Nat.le_refl _,Nat.le_refl _⟩
 clear hb2 hb5 hx0
 go_enter Tryz.func198,Tryz.ntmps198
 go_wp2
 change Code.wp _ _ _ _ ((w.alloc (.cells (pN 0 0).toArray 29)).alloc (.cells (pN 0 0).toArray 29))
 generalize (w.alloc (.cells (pN 0 0).toArray 29)).alloc (.cells (pN 0 0).toArray 29)=w1 at *
 go_loopw [6,7,8,9,10,11,12,13] (fun pt sn gp cm wh zr i _ wr=>∃ (k:Nat) (st:NSt),i=.int .i64 k∧pt=.bool st.point∧sn=.int .i64 st.since∧gp=.int .i64 st.group∧cm=.int .i64 st.commas∧wh=.int .i64 st.whole∧zr=.int .i64 st.zeros∧NRel w wr s.size k st∧Hid (runN st (s.data.toList.drop k)=some t)) (fun _ _ _ _ _ _ i _ _=>s.size - (intOf i).toNat)
 case atStart=>exact ⟨0,st0,rfl,rfl,rfl,rfl,rfl,rfl,rfl,HST.out,HRUN⟩
 case round =>
  obtain ⟨k,⟨pt,sn,gp,cm,wh,zr,mi,mx⟩,rfl,rfl,rfl,rfl,rfl,rfl,rfl,hR,HK⟩:=hrel
  obtain ⟨hb2,hb5,hx,hkn,h1,h2,h3,h4,h5,h6,h7⟩:=hR
  dsimp only at hb5 h1 h2 h3 h4 h5 h6 h7
  by_cases hlt:k < s.size
  ·have hlt2:k < s.data.toList.length:=by omega
   have hsk:s.data.toList[k]=s[k]:=by simp;rfl
   have hK:=HK.out
   rw [List.drop_eq_getElem_cons hlt2,hsk,runN] at hK
   have k7:=hb5.cell (j:=7) (v:=.int .i64 mi) rfl
   have k8:=hb5.cell (j:=8) (v:=.int .i64 mx) rfl
   have f8:=hb5.frozen 8
   have hb6:=hb5.setCell 8 (.int .i64 ((mx:Int)+1))
   have l7:=hb6.cell (j:=7) (v:=.int .i64 mi) rfl
   have g7:=hb6.frozen 7
   by_cases c46:s[k]'hlt=46
   ·have e46:(((s[k]'hlt).toNat:Int) == 46)=true:=u8_eq 46 (by omega) c46
    unfold stepN at hK
    rw [if_pos c46] at hK
    split at hK
    case h_2=>cases hK
    rename_i st' hst
    split at hst
    ·cases hst
    ·rename_i hno
     injection hst with hst
     dsimp only at hno hst
     have hpt:pt=false:=by cases pt <;> simp_all
     have hwh:¬ wh=0:=fun e=>hno (.inr (.inl e))
     have hcs:¬ (0 < cm∧sn=0):=fun e=>hno (.inr (.inr e))
     subst hpt
     have g1:((wh:Int) == 0)=false:=by simpa using hwh
     have HNK:=Lib.hid hK
     clear hK hno
     subst hst
     by_cases hcm:0 < cm
     ·have g2:(cm:Int) > 0:=by omega
      have g3:((sn:Int) == 0)=false:=by simp;omega
      go_wp2
      refine ⟨?_,by simp [intOf] <;> omega⟩
      exact ⟨k+1,_,by go_num,rfl,rfl,rfl,rfl,rfl,rfl,⟨hb2,hb5,hx,by omega,by dsimp only;omega,by dsimp only;omega,by dsimp only;omega,by dsimp only;omega,by dsimp only;omega,by dsimp only;omega,by dsimp only;omega⟩,HNK⟩
     ·have g2:¬ ((cm:Int) > 0):=by omega
      go_wp2
      refine ⟨?_,by simp [intOf] <;> omega⟩
      exact ⟨k+1,_,by go_num,rfl,rfl,rfl,rfl,rfl,rfl,⟨hb2,hb5,hx,by omega,by dsimp only;omega,by dsimp only;omega,by dsimp only;omega,by dsimp only;omega,by dsimp only;omega,by dsimp only;omega,by dsimp only;omega⟩,HNK⟩
   ·have e46:(((s[k]'hlt).toNat:Int) == 46)=false:=u8_ne 46 c46
    unfold stepN at hK
    rw [if_neg c46] at hK
    cases pt
    ·rw [if_neg (by simp)] at hK
     by_cases c44:s[k]'hlt=44
     ·have e44:(((s[k]'hlt).toNat:Int) == 44)=true:=u8_eq 44 (by omega) c44
      rw [if_pos c44] at hK
      by_cases hsn:sn=0
      ·rw [if_pos hsn] at hK;cases hK
      rw [if_neg hsn] at hK
      have g3:((sn:Int) == 0)=false:=by simp;omega
      have HNK:=Lib.hid hK
      clear hK
      go_wp2
      refine ⟨?_,by simp [intOf] <;> omega⟩
      exact ⟨k+1,_,by go_num,rfl,rfl,rfl,rfl,rfl,rfl,⟨hb2,hb5,hx,by omega,by dsimp only;omega,by dsimp only;omega,by dsimp only;omega,by dsimp only;omega,by dsimp only;omega,by dsimp only;omega,by dsimp only;omega⟩,HNK⟩
     ·have e44:(((s[k]'hlt).toNat:Int) == 44)=false:=u8_ne 44 c44
      rw [if_neg c44] at hK
      by_cases c35:s[k]'hlt=35
      ·have e35:(((s[k]'hlt).toNat:Int) == 35)=true:=u8_eq 35 (by omega) c35
       have c48:¬ (s[k]'hlt=48):=by rw [c35];decide
       have e48:(((s[k]'hlt).toNat:Int) == 48)=false:=u8_ne 48 c48
       by_cases hz:0 < zr
       ·rw [if_pos ⟨c35,hz⟩] at hK;cases hK
       rw [if_neg (fun e=>hz e.2),if_neg c48] at hK
       have g4:¬ ((zr:Int) > 0):=by omega
       have HNK:=Lib.hid hK
       clear hK
       go_wp2
       refine ⟨?_,by simp [intOf] <;> omega⟩
       exact ⟨k+1,_,by go_num,rfl,rfl,rfl,rfl,rfl,rfl,⟨hb2,hb5,hx,by omega,by dsimp only;omega,by dsimp only;omega,by dsimp only;omega,by dsimp only;omega,by dsimp only;omega,by dsimp only;omega,by dsimp only;omega⟩,HNK⟩
      ·have e35:(((s[k]'hlt).toNat:Int) == 35)=false:=u8_ne 35 c35
       rw [if_neg (fun e=>c35 e.1)] at hK
       by_cases c48:s[k]'hlt=48
       ·have e48:(((s[k]'hlt).toNat:Int) == 48)=true:=u8_eq 48 (by omega) c48
        rw [if_pos c48] at hK
        have HNK:=Lib.hid hK
        clear hK
        go_wp2
        refine ⟨?_,by simp [intOf] <;> omega⟩
        exact ⟨k+1,_,by go_num,rfl,rfl,rfl,rfl,rfl,rfl,⟨hb2,hb5,hx,by omega,by dsimp only;omega,by dsimp only;omega,by dsimp only;omega,by dsimp only;omega,by dsimp only;omega,by dsimp only;omega,by dsimp only;omega⟩,HNK⟩
       ·have e48:(((s[k]'hlt).toNat:Int) == 48)=false:=u8_ne 48 c48
        rw [if_neg c48] at hK
        have HNK:=Lib.hid hK
        clear hK
        go_wp2
        refine ⟨?_,by simp [intOf] <;> omega⟩
        exact ⟨k+1,_,by go_num,rfl,rfl,rfl,rfl,rfl,rfl,⟨hb2,hb5,hx,by omega,by dsimp only;omega,by dsimp only;omega,by dsimp only;omega,by dsimp only;omega,by dsimp only;omega,by dsimp only;omega,by dsimp only;omega⟩,HNK⟩
    ·rw [if_pos rfl] at hK
     by_cases c44:s[k]'hlt=44
     ·rw [if_pos (.inl c44)] at hK;cases hK
     have e44:(((s[k]'hlt).toNat:Int) == 44)=false:=u8_ne 44 c44
     by_cases c48:s[k]'hlt=48
     ·have e48:(((s[k]'hlt).toNat:Int) == 48)=true:=u8_eq 48 (by omega) c48
      by_cases hmm:mi < mx
      ·rw [if_pos (.inr ⟨c48,hmm⟩)] at hK;cases hK
      rw [if_neg (fun e=>e.elim c44 (fun f=>hmm f.2)),if_pos c48] at hK
      have g5:¬ ((mx:Int) > (mi:Int)):=by omega
      have HNK:=Lib.hid hK
      clear hK
      go_wp2
      refine ⟨?_,by simp [intOf] <;> omega⟩
      exact ⟨k+1,⟨true,sn,gp,cm,wh,zr,mi+1,mx+1⟩,by go_num,rfl,rfl,rfl,rfl,rfl,rfl,⟨(hb2.setCell1 (w.heap.size+1) _ (by omega) 8).setCell1 (w.heap.size+1) _ (by omega) 7,hb6.setCell 7 (.int .i64 ((mi:Int)+1)),Ext.setCell_ (Ext.setCell_ hx (by omega) _ _) (by omega) _ _,by omega,by dsimp only;omega,by dsimp only;omega,by dsimp only;omega,by dsimp only;omega,by dsimp only;omega,by dsimp only;omega,by dsimp only;omega⟩,HNK⟩
     ·have e48:(((s[k]'hlt).toNat:Int) == 48)=false:=u8_ne 48 c48
      rw [if_neg (fun e=>e.elim c44 (fun f=>c48 f.1)),if_neg c48] at hK
      have HNK:=Lib.hid hK
      clear hK
      go_wp2
      refine ⟨?_,by simp [intOf] <;> omega⟩
      exact ⟨k+1,⟨true,sn,gp,cm,wh,zr,mi,mx+1⟩,by go_num,rfl,rfl,rfl,rfl,rfl,rfl,⟨hb2.setCell1 (w.heap.size+1) _ (by omega) 8,hb6,Ext.setCell_ hx (by omega) _ _,by omega,by dsimp only;omega,by dsimp only;omega,by dsimp only;omega,by dsimp only;omega,by dsimp only;omega,by dsimp only;omega,by dsimp only;omega⟩,HNK⟩
  ·have e:k=s.size:=by omega
   subst e
   have hK:=HK.out
   rw [List.drop_of_length_le (by omega),runN] at hK
   injection hK with hK
   subst hK
   have he:=HEND.out
   unfold endN at he
   rw [Bool.and_eq_true,Bool.and_eq_true,decide_eq_true_eq,decide_eq_true_eq] at he
   obtain ⟨⟨hw0,hs0⟩,hp0⟩:=he
   dsimp only at hw0 hs0 hp0
   have g1:((wh:Int) == 0)=false:=by simpa using hw0
   have g2:((sn:Int) == 0)=false:=by simpa using hs0
   have HNU:Hid (numsN ⟨pt,sn,gp,cm,wh,zr,mi,mx⟩=⟨if 0 < cm then sn else 0,if 1 < cm then gp else if 0 < cm then sn else 0,zr,mi,mx⟩):=Lib.hid rfl
   have hlo:=HLONG.out
   unfold longN at hlo
   rw [Bool.or_eq_false_iff,decide_eq_false_iff_not,decide_eq_false_iff_not] at hlo
   obtain ⟨hl1,hl2⟩:=hlo
   dsimp only at hl1 hl2
   have gl1:¬ ((wh:Int) > 64):=by omega
   have gl2:¬ ((mx:Int) > 64):=by omega
   have k8:=hb5.cell (j:=8) (v:=.int .i64 mx) rfl
   have k6:=hb5.cell (j:=6) (v:=.int .i64 0) rfl
   have f6:=hb5.frozen 6
   have hb6:=hb5.setCell 6 (.int .i64 zr)
   have hx6:Ext w (wr.setCell ⟨w.heap.size+1,6,none⟩ (.int .i64 zr)):=Ext.setCell_ hx (by omega) _ _
   have hc6:=hb2.setCell1 (w.heap.size+1) (.int .i64 zr) (by omega) 6
   have gp0:pt=false∨(pt=true∧((mx:Int) == 0)=false):=by
    cases pt
    ·exact .inl rfl
    ·exact .inr ⟨rfl,by simpa using hp0⟩
   rcases gp0 with rfl | ⟨rfl,gmx⟩
   ·by_cases hcm:0 < cm
    ·have gcm:(cm:Int) > 0:=by omega
     have k4:=hb6.cell (j:=4) (v:=.int .i64 0) rfl
     have f4:=hb6.frozen 4
     have hb7:=hb6.setCell 4 (.int .i64 sn)
     have hc7:=hc6.setCell1 (w.heap.size+1) (.int .i64 sn) (by omega) 4
     have k5:=hb7.cell (j:=5) (v:=.int .i64 0) rfl
     have f5:=hb7.frozen 5
     have hb8:=hb7.setCell 5 (.int .i64 sn)
     have hc8:=hc7.setCell1 (w.heap.size+1) (.int .i64 sn) (by omega) 5
     by_cases hcm1:1 < cm
     ·have gcm1:(cm:Int) > 1:=by omega
      have k55:=hb8.cell (j:=5) (v:=.int .i64 sn) rfl
      have f55:=hb8.frozen 5
      have hb9:=hb8.setCell 5 (.int .i64 gp)
      have hc9:=hc8.setCell1 (w.heap.size+1) (.int .i64 gp) (by omega) 5
      have hbF:Box ((((wr.setCell ⟨w.heap.size+1,6,none⟩ (.int .i64 zr)).setCell ⟨w.heap.size+1,4,none⟩ (.int .i64 sn)).setCell ⟨w.heap.size+1,5,none⟩ (.int .i64 sn)).setCell ⟨w.heap.size+1,5,none⟩ (.int .i64 gp)) (w.heap.size+1) 29 [nilS,nilS,nilS,nilS,.int .i64 sn,.int .i64 gp,.int .i64 zr,.int .i64 mi,.int .i64 mx]:=hb9
      have hcF:Box ((((wr.setCell ⟨w.heap.size+1,6,none⟩ (.int .i64 zr)).setCell ⟨w.heap.size+1,4,none⟩ (.int .i64 sn)).setCell ⟨w.heap.size+1,5,none⟩ (.int .i64 sn)).setCell ⟨w.heap.size+1,5,none⟩ (.int .i64 gp)) w.heap.size 29 [nilS,nilS,nilS,nilS,.int .i64 0,.int .i64 0,.int .i64 0,.int .i64 0,.int .i64 0]:=hc9
      have HN:Hid (numsN ⟨false,sn,gp,cm,wh,zr,mi,mx⟩=⟨sn,gp,zr,mi,mx⟩):=Lib.hid (by
       have e0:numsN ⟨false,sn,gp,cm,wh,zr,mi,mx⟩=⟨if 0 < cm then sn else 0,if 1 < cm then gp else if 0 < cm then sn else 0,zr,mi,mx⟩:=rfl
       rw [e0,if_pos hcm,if_pos hcm1])
      have m0:=hbF.cell (j:=0) (v:=nilS) rfl
      have m1:=hbF.cell (j:=1) (v:=nilS) rfl
      have m2:=hbF.cell (j:=2) (v:=nilS) rfl
      have m3:=hbF.cell (j:=3) (v:=nilS) rfl
      have m4:=hbF.cell (j:=4) (v:=.int .i64 sn) rfl
      have m5:=hbF.cell (j:=5) (v:=.int .i64 gp) rfl
      have m6:=hbF.cell (j:=6) (v:=.int .i64 zr) rfl
      have m7:=hbF.cell (j:=7) (v:=.int .i64 mi) rfl
      have m8:=hbF.cell (j:=8) (v:=.int .i64 mx) rfl
      have hxF:Ext w ((((wr.setCell ⟨w.heap.size+1,6,none⟩ (.int .i64 zr)).setCell ⟨w.heap.size+1,4,none⟩ (.int .i64 sn)).setCell ⟨w.heap.size+1,5,none⟩ (.int .i64 sn)).setCell ⟨w.heap.size+1,5,none⟩ (.int .i64 gp)):=Ext.setCell_ (Ext.setCell_ (Ext.setCell_ hx6 (by omega) _ _) (by omega) _ _) (by omega) _ _
      go_upto_region 42 with fail
      generalize (((wr.setCell ⟨w.heap.size+1,6,none⟩ (.int .i64 zr)).setCell ⟨w.heap.size+1,4,none⟩ (.int .i64 sn)).setCell ⟨w.heap.size+1,5,none⟩ (.int .i64 sn)).setCell ⟨w.heap.size+1,5,none⟩ (.int .i64 gp)=wf at *
      have HXF:=Lib.hid hxF
      have HCF:=Lib.hid hcF
      obtain ⟨q0,q1,q2,q3,q4,q5,q6,q7,q8,r0,r1,r2,r3,r4,r5,r6,r7,r8⟩:=box9 hcF
      clear hxF
      unfold nilS at m0 m1 m2 m3 q0 q1 q2 q3
      go_region
      all_goals go_wp2
      all_goals have hbz:=(((((((((HCF.out.setCell 0 (.slice none 0 0)).setCell 1 (.slice none 0 0)).setCell 2 (.slice none 0 0)).setCell 3 (.slice none 0 0)).setCell 4 (.int .i64 sn)).setCell 5 (.int .i64 gp)).setCell 6 (.int .i64 zr)).setCell 7 (.int .i64 mi)).setCell 8 (.int .i64 mx)).drew
      all_goals refine bodyPost_ret (results_num rfl _ _ w.heap.size _ rfl hbz rfl) rfl ?_
      all_goals exact ⟨by rw [HN.out];rfl,Ext.drew_ (Ext.setCell_ (Ext.setCell_ (Ext.setCell_ (Ext.setCell_ (Ext.setCell_ (Ext.setCell_ (Ext.setCell_ (Ext.setCell_ (Ext.setCell_ HXF.out (Nat.le_refl _) _ _) (Nat.le_refl _) _ _) (Nat.le_refl _) _ _) (Nat.le_refl _) _ _) (Nat.le_refl _) _ _) (Nat.le_refl _) _ _) (Nat.le_refl _) _ _) (Nat.le_refl _) _ _) (Nat.le_refl _) _ _)⟩
     ·have gcm1:¬ ((cm:Int) > 1):=by omega
      have hbF:Box (((wr.setCell ⟨w.heap.size+1,6,none⟩ (.int .i64 zr)).setCell ⟨w.heap.size+1,4,none⟩ (.int .i64 sn)).setCell ⟨w.heap.size+1,5,none⟩ (.int .i64 sn)) (w.heap.size+1) 29 [nilS,nilS,nilS,nilS,.int .i64 sn,.int .i64 sn,.int .i64 zr,.int .i64 mi,.int .i64 mx]:=hb8
      have hcF:Box (((wr.setCell ⟨w.heap.size+1,6,none⟩ (.int .i64 zr)).setCell ⟨w.heap.size+1,4,none⟩ (.int .i64 sn)).setCell ⟨w.heap.size+1,5,none⟩ (.int .i64 sn)) w.heap.size 29 [nilS,nilS,nilS,nilS,.int .i64 0,.int .i64 0,.int .i64 0,.int .i64 0,.int .i64 0]:=hc8
      have HN:Hid (numsN ⟨false,sn,gp,cm,wh,zr,mi,mx⟩=⟨sn,sn,zr,mi,mx⟩):=Lib.hid (by
       have e0:numsN ⟨false,sn,gp,cm,wh,zr,mi,mx⟩=⟨if 0 < cm then sn else 0,if 1 < cm then gp else if 0 < cm then sn else 0,zr,mi,mx⟩:=rfl
       rw [e0,if_pos hcm,if_neg hcm1])
      have m0:=hbF.cell (j:=0) (v:=nilS) rfl
      have m1:=hbF.cell (j:=1) (v:=nilS) rfl
      have m2:=hbF.cell (j:=2) (v:=nilS) rfl
      have m3:=hbF.cell (j:=3) (v:=nilS) rfl
      have m4:=hbF.cell (j:=4) (v:=.int .i64 sn) rfl
      have m5:=hbF.cell (j:=5) (v:=.int .i64 sn) rfl
      have m6:=hbF.cell (j:=6) (v:=.int .i64 zr) rfl
      have m7:=hbF.cell (j:=7) (v:=.int .i64 mi) rfl
      have m8:=hbF.cell (j:=8) (v:=.int .i64 mx) rfl
      have hxF:Ext w (((wr.setCell ⟨w.heap.size+1,6,none⟩ (.int .i64 zr)).setCell ⟨w.heap.size+1,4,none⟩ (.int .i64 sn)).setCell ⟨w.heap.size+1,5,none⟩ (.int .i64 sn)):=Ext.setCell_ (Ext.setCell_ hx6 (by omega) _ _) (by omega) _ _
      go_upto_region 42 with fail
      generalize ((wr.setCell ⟨w.heap.size+1,6,none⟩ (.int .i64 zr)).setCell ⟨w.heap.size+1,4,none⟩ (.int .i64 sn)).setCell ⟨w.heap.size+1,5,none⟩ (.int .i64 sn)=wf at *
      have HXF:=Lib.hid hxF
      have HCF:=Lib.hid hcF
      obtain ⟨q0,q1,q2,q3,q4,q5,q6,q7,q8,r0,r1,r2,r3,r4,r5,r6,r7,r8⟩:=box9 hcF
      clear hxF
      unfold nilS at m0 m1 m2 m3 q0 q1 q2 q3
      go_region
      all_goals go_wp2
      all_goals have hbz:=(((((((((HCF.out.setCell 0 (.slice none 0 0)).setCell 1 (.slice none 0 0)).setCell 2 (.slice none 0 0)).setCell 3 (.slice none 0 0)).setCell 4 (.int .i64 sn)).setCell 5 (.int .i64 sn)).setCell 6 (.int .i64 zr)).setCell 7 (.int .i64 mi)).setCell 8 (.int .i64 mx)).drew
      all_goals refine bodyPost_ret (results_num rfl _ _ w.heap.size _ rfl hbz rfl) rfl ?_
      all_goals exact ⟨by rw [HN.out];rfl,Ext.drew_ (Ext.setCell_ (Ext.setCell_ (Ext.setCell_ (Ext.setCell_ (Ext.setCell_ (Ext.setCell_ (Ext.setCell_ (Ext.setCell_ (Ext.setCell_ HXF.out (Nat.le_refl _) _ _) (Nat.le_refl _) _ _) (Nat.le_refl _) _ _) (Nat.le_refl _) _ _) (Nat.le_refl _) _ _) (Nat.le_refl _) _ _) (Nat.le_refl _) _ _) (Nat.le_refl _) _ _) (Nat.le_refl _) _ _)⟩
    ·have gcm:¬ ((cm:Int) > 0):=by omega
     have gcm1:¬ ((cm:Int) > 1):=by omega
     have hbF:Box (wr.setCell ⟨w.heap.size+1,6,none⟩ (.int .i64 zr)) (w.heap.size+1) 29 [nilS,nilS,nilS,nilS,.int .i64 0,.int .i64 0,.int .i64 zr,.int .i64 mi,.int .i64 mx]:=hb6
     have hcF:Box (wr.setCell ⟨w.heap.size+1,6,none⟩ (.int .i64 zr)) w.heap.size 29 [nilS,nilS,nilS,nilS,.int .i64 0,.int .i64 0,.int .i64 0,.int .i64 0,.int .i64 0]:=hc6
     have HN:Hid (numsN ⟨false,sn,gp,cm,wh,zr,mi,mx⟩=⟨0,0,zr,mi,mx⟩):=Lib.hid (by
      have e0:numsN ⟨false,sn,gp,cm,wh,zr,mi,mx⟩=⟨if 0 < cm then sn else 0,if 1 < cm then gp else if 0 < cm then sn else 0,zr,mi,mx⟩:=rfl
      rw [e0,if_neg hcm,if_neg (show ¬ 1 < cm by omega)])
     have m0:=hbF.cell (j:=0) (v:=nilS) rfl
     have m1:=hbF.cell (j:=1) (v:=nilS) rfl
     have m2:=hbF.cell (j:=2) (v:=nilS) rfl
     have m3:=hbF.cell (j:=3) (v:=nilS) rfl
     have m4:=hbF.cell (j:=4) (v:=.int .i64 0) rfl
     have m5:=hbF.cell (j:=5) (v:=.int .i64 0) rfl
     have m6:=hbF.cell (j:=6) (v:=.int .i64 zr) rfl
     have m7:=hbF.cell (j:=7) (v:=.int .i64 mi) rfl
     have m8:=hbF.cell (j:=8) (v:=.int .i64 mx) rfl
     have hxF:Ext w (wr.setCell ⟨w.heap.size+1,6,none⟩ (.int .i64 zr)):=hx6
     go_upto_region 42 with fail
     generalize wr.setCell ⟨w.heap.size+1,6,none⟩ (.int .i64 zr)=wf at *
     have HXF:=Lib.hid hxF
     have HCF:=Lib.hid hcF
     obtain ⟨q0,q1,q2,q3,q4,q5,q6,q7,q8,r0,r1,r2,r3,r4,r5,r6,r7,r8⟩:=box9 hcF
     clear hxF
     unfold nilS at m0 m1 m2 m3 q0 q1 q2 q3
     go_region
     all_goals go_wp2
     all_goals have hbz:=(((((((((HCF.out.setCell 0 (.slice none 0 0)).setCell 1 (.slice none 0 0)).setCell 2 (.slice none 0 0)).setCell 3 (.slice none 0 0)).setCell 4 (.int .i64 0)).setCell 5 (.int .i64 0)).setCell 6 (.int .i64 zr)).setCell 7 (.int .i64 mi)).setCell 8 (.int .i64 mx)).drew
     all_goals refine bodyPost_ret (results_num rfl _ _ w.heap.size _ rfl hbz rfl) rfl ?_
     all_goals exact ⟨by rw [HN.out];rfl,Ext.drew_ (Ext.setCell_ (Ext.setCell_ (Ext.setCell_ (Ext.setCell_ (Ext.setCell_ (Ext.setCell_ (Ext.setCell_ (Ext.setCell_ (Ext.setCell_ HXF.out (Nat.le_refl _) _ _) (Nat.le_refl _) _ _) (Nat.le_refl _) _ _) (Nat.le_refl _) _ _) (Nat.le_refl _) _ _) (Nat.le_refl _) _ _) (Nat.le_refl _) _ _) (Nat.le_refl _) _ _) (Nat.le_refl _) _ _)⟩
   ·by_cases hcm:0 < cm
    ·have gcm:(cm:Int) > 0:=by omega
     have k4:=hb6.cell (j:=4) (v:=.int .i64 0) rfl
     have f4:=hb6.frozen 4
     have hb7:=hb6.setCell 4 (.int .i64 sn)
     have hc7:=hc6.setCell1 (w.heap.size+1) (.int .i64 sn) (by omega) 4
     have k5:=hb7.cell (j:=5) (v:=.int .i64 0) rfl
     have f5:=hb7.frozen 5
     have hb8:=hb7.setCell 5 (.int .i64 sn)
     have hc8:=hc7.setCell1 (w.heap.size+1) (.int .i64 sn) (by omega) 5
     by_cases hcm1:1 < cm
     ·have gcm1:(cm:Int) > 1:=by omega
      have k55:=hb8.cell (j:=5) (v:=.int .i64 sn) rfl
      have f55:=hb8.frozen 5
      have hb9:=hb8.setCell 5 (.int .i64 gp)
      have hc9:=hc8.setCell1 (w.heap.size+1) (.int .i64 gp) (by omega) 5
      have hbF:Box ((((wr.setCell ⟨w.heap.size+1,6,none⟩ (.int .i64 zr)).setCell ⟨w.heap.size+1,4,none⟩ (.int .i64 sn)).setCell ⟨w.heap.size+1,5,none⟩ (.int .i64 sn)).setCell ⟨w.heap.size+1,5,none⟩ (.int .i64 gp)) (w.heap.size+1) 29 [nilS,nilS,nilS,nilS,.int .i64 sn,.int .i64 gp,.int .i64 zr,.int .i64 mi,.int .i64 mx]:=hb9
      have hcF:Box ((((wr.setCell ⟨w.heap.size+1,6,none⟩ (.int .i64 zr)).setCell ⟨w.heap.size+1,4,none⟩ (.int .i64 sn)).setCell ⟨w.heap.size+1,5,none⟩ (.int .i64 sn)).setCell ⟨w.heap.size+1,5,none⟩ (.int .i64 gp)) w.heap.size 29 [nilS,nilS,nilS,nilS,.int .i64 0,.int .i64 0,.int .i64 0,.int .i64 0,.int .i64 0]:=hc9
      have HN:Hid (numsN ⟨true,sn,gp,cm,wh,zr,mi,mx⟩=⟨sn,gp,zr,mi,mx⟩):=Lib.hid (by
       have e0:numsN ⟨true,sn,gp,cm,wh,zr,mi,mx⟩=⟨if 0 < cm then sn else 0,if 1 < cm then gp else if 0 < cm then sn else 0,zr,mi,mx⟩:=rfl
       rw [e0,if_pos hcm,if_pos hcm1])
      have m0:=hbF.cell (j:=0) (v:=nilS) rfl
      have m1:=hbF.cell (j:=1) (v:=nilS) rfl
      have m2:=hbF.cell (j:=2) (v:=nilS) rfl
      have m3:=hbF.cell (j:=3) (v:=nilS) rfl
      have m4:=hbF.cell (j:=4) (v:=.int .i64 sn) rfl
      have m5:=hbF.cell (j:=5) (v:=.int .i64 gp) rfl
      have m6:=hbF.cell (j:=6) (v:=.int .i64 zr) rfl
      have m7:=hbF.cell (j:=7) (v:=.int .i64 mi) rfl
      have m8:=hbF.cell (j:=8) (v:=.int .i64 mx) rfl
      have hxF:Ext w ((((wr.setCell ⟨w.heap.size+1,6,none⟩ (.int .i64 zr)).setCell ⟨w.heap.size+1,4,none⟩ (.int .i64 sn)).setCell ⟨w.heap.size+1,5,none⟩ (.int .i64 sn)).setCell ⟨w.heap.size+1,5,none⟩ (.int .i64 gp)):=Ext.setCell_ (Ext.setCell_ (Ext.setCell_ hx6 (by omega) _ _) (by omega) _ _) (by omega) _ _
      go_upto_region 42 with fail
      generalize (((wr.setCell ⟨w.heap.size+1,6,none⟩ (.int .i64 zr)).setCell ⟨w.heap.size+1,4,none⟩ (.int .i64 sn)).setCell ⟨w.heap.size+1,5,none⟩ (.int .i64 sn)).setCell ⟨w.heap.size+1,5,none⟩ (.int .i64 gp)=wf at *
      have HXF:=Lib.hid hxF
      have HCF:=Lib.hid hcF
      obtain ⟨q0,q1,q2,q3,q4,q5,q6,q7,q8,r0,r1,r2,r3,r4,r5,r6,r7,r8⟩:=box9 hcF
      clear hxF
      unfold nilS at m0 m1 m2 m3 q0 q1 q2 q3
      go_region
      all_goals go_wp2
      all_goals have hbz:=(((((((((HCF.out.setCell 0 (.slice none 0 0)).setCell 1 (.slice none 0 0)).setCell 2 (.slice none 0 0)).setCell 3 (.slice none 0 0)).setCell 4 (.int .i64 sn)).setCell 5 (.int .i64 gp)).setCell 6 (.int .i64 zr)).setCell 7 (.int .i64 mi)).setCell 8 (.int .i64 mx)).drew
      all_goals refine bodyPost_ret (results_num rfl _ _ w.heap.size _ rfl hbz rfl) rfl ?_
      all_goals exact ⟨by rw [HN.out];rfl,Ext.drew_ (Ext.setCell_ (Ext.setCell_ (Ext.setCell_ (Ext.setCell_ (Ext.setCell_ (Ext.setCell_ (Ext.setCell_ (Ext.setCell_ (Ext.setCell_ HXF.out (Nat.le_refl _) _ _) (Nat.le_refl _) _ _) (Nat.le_refl _) _ _) (Nat.le_refl _) _ _) (Nat.le_refl _) _ _) (Nat.le_refl _) _ _) (Nat.le_refl _) _ _) (Nat.le_refl _) _ _) (Nat.le_refl _) _ _)⟩
     ·have gcm1:¬ ((cm:Int) > 1):=by omega
      have hbF:Box (((wr.setCell ⟨w.heap.size+1,6,none⟩ (.int .i64 zr)).setCell ⟨w.heap.size+1,4,none⟩ (.int .i64 sn)).setCell ⟨w.heap.size+1,5,none⟩ (.int .i64 sn)) (w.heap.size+1) 29 [nilS,nilS,nilS,nilS,.int .i64 sn,.int .i64 sn,.int .i64 zr,.int .i64 mi,.int .i64 mx]:=hb8
      have hcF:Box (((wr.setCell ⟨w.heap.size+1,6,none⟩ (.int .i64 zr)).setCell ⟨w.heap.size+1,4,none⟩ (.int .i64 sn)).setCell ⟨w.heap.size+1,5,none⟩ (.int .i64 sn)) w.heap.size 29 [nilS,nilS,nilS,nilS,.int .i64 0,.int .i64 0,.int .i64 0,.int .i64 0,.int .i64 0]:=hc8
      have HN:Hid (numsN ⟨true,sn,gp,cm,wh,zr,mi,mx⟩=⟨sn,sn,zr,mi,mx⟩):=Lib.hid (by
       have e0:numsN ⟨true,sn,gp,cm,wh,zr,mi,mx⟩=⟨if 0 < cm then sn else 0,if 1 < cm then gp else if 0 < cm then sn else 0,zr,mi,mx⟩:=rfl
       rw [e0,if_pos hcm,if_neg hcm1])
      have m0:=hbF.cell (j:=0) (v:=nilS) rfl
      have m1:=hbF.cell (j:=1) (v:=nilS) rfl
      have m2:=hbF.cell (j:=2) (v:=nilS) rfl
      have m3:=hbF.cell (j:=3) (v:=nilS) rfl
      have m4:=hbF.cell (j:=4) (v:=.int .i64 sn) rfl
      have m5:=hbF.cell (j:=5) (v:=.int .i64 sn) rfl
      have m6:=hbF.cell (j:=6) (v:=.int .i64 zr) rfl
      have m7:=hbF.cell (j:=7) (v:=.int .i64 mi) rfl
      have m8:=hbF.cell (j:=8) (v:=.int .i64 mx) rfl
      have hxF:Ext w (((wr.setCell ⟨w.heap.size+1,6,none⟩ (.int .i64 zr)).setCell ⟨w.heap.size+1,4,none⟩ (.int .i64 sn)).setCell ⟨w.heap.size+1,5,none⟩ (.int .i64 sn)):=Ext.setCell_ (Ext.setCell_ hx6 (by omega) _ _) (by omega) _ _
      go_upto_region 42 with fail
      generalize ((wr.setCell ⟨w.heap.size+1,6,none⟩ (.int .i64 zr)).setCell ⟨w.heap.size+1,4,none⟩ (.int .i64 sn)).setCell ⟨w.heap.size+1,5,none⟩ (.int .i64 sn)=wf at *
      have HXF:=Lib.hid hxF
      have HCF:=Lib.hid hcF
      obtain ⟨q0,q1,q2,q3,q4,q5,q6,q7,q8,r0,r1,r2,r3,r4,r5,r6,r7,r8⟩:=box9 hcF
      clear hxF
      unfold nilS at m0 m1 m2 m3 q0 q1 q2 q3
      go_region
      all_goals go_wp2
      all_goals have hbz:=(((((((((HCF.out.setCell 0 (.slice none 0 0)).setCell 1 (.slice none 0 0)).setCell 2 (.slice none 0 0)).setCell 3 (.slice none 0 0)).setCell 4 (.int .i64 sn)).setCell 5 (.int .i64 sn)).setCell 6 (.int .i64 zr)).setCell 7 (.int .i64 mi)).setCell 8 (.int .i64 mx)).drew
      all_goals refine bodyPost_ret (results_num rfl _ _ w.heap.size _ rfl hbz rfl) rfl ?_
      all_goals exact ⟨by rw [HN.out];rfl,Ext.drew_ (Ext.setCell_ (Ext.setCell_ (Ext.setCell_ (Ext.setCell_ (Ext.setCell_ (Ext.setCell_ (Ext.setCell_ (Ext.setCell_ (Ext.setCell_ HXF.out (Nat.le_refl _) _ _) (Nat.le_refl _) _ _) (Nat.le_refl _) _ _) (Nat.le_refl _) _ _) (Nat.le_refl _) _ _) (Nat.le_refl _) _ _) (Nat.le_refl _) _ _) (Nat.le_refl _) _ _) (Nat.le_refl _) _ _)⟩
    ·have gcm:¬ ((cm:Int) > 0):=by omega
     have gcm1:¬ ((cm:Int) > 1):=by omega
     have hbF:Box (wr.setCell ⟨w.heap.size+1,6,none⟩ (.int .i64 zr)) (w.heap.size+1) 29 [nilS,nilS,nilS,nilS,.int .i64 0,.int .i64 0,.int .i64 zr,.int .i64 mi,.int .i64 mx]:=hb6
     have hcF:Box (wr.setCell ⟨w.heap.size+1,6,none⟩ (.int .i64 zr)) w.heap.size 29 [nilS,nilS,nilS,nilS,.int .i64 0,.int .i64 0,.int .i64 0,.int .i64 0,.int .i64 0]:=hc6
     have HN:Hid (numsN ⟨true,sn,gp,cm,wh,zr,mi,mx⟩=⟨0,0,zr,mi,mx⟩):=Lib.hid (by
      have e0:numsN ⟨true,sn,gp,cm,wh,zr,mi,mx⟩=⟨if 0 < cm then sn else 0,if 1 < cm then gp else if 0 < cm then sn else 0,zr,mi,mx⟩:=rfl
      rw [e0,if_neg hcm,if_neg (show ¬ 1 < cm by omega)])
     have m0:=hbF.cell (j:=0) (v:=nilS) rfl
     have m1:=hbF.cell (j:=1) (v:=nilS) rfl
     have m2:=hbF.cell (j:=2) (v:=nilS) rfl
     have m3:=hbF.cell (j:=3) (v:=nilS) rfl
     have m4:=hbF.cell (j:=4) (v:=.int .i64 0) rfl
     have m5:=hbF.cell (j:=5) (v:=.int .i64 0) rfl
     have m6:=hbF.cell (j:=6) (v:=.int .i64 zr) rfl
     have m7:=hbF.cell (j:=7) (v:=.int .i64 mi) rfl
     have m8:=hbF.cell (j:=8) (v:=.int .i64 mx) rfl
     have hxF:Ext w (wr.setCell ⟨w.heap.size+1,6,none⟩ (.int .i64 zr)):=hx6
     go_upto_region 42 with fail
     generalize wr.setCell ⟨w.heap.size+1,6,none⟩ (.int .i64 zr)=wf at *
     have HXF:=Lib.hid hxF
     have HCF:=Lib.hid hcF
     obtain ⟨q0,q1,q2,q3,q4,q5,q6,q7,q8,r0,r1,r2,r3,r4,r5,r6,r7,r8⟩:=box9 hcF
     clear hxF
     unfold nilS at m0 m1 m2 m3 q0 q1 q2 q3
     go_region
     all_goals go_wp2
     all_goals have hbz:=(((((((((HCF.out.setCell 0 (.slice none 0 0)).setCell 1 (.slice none 0 0)).setCell 2 (.slice none 0 0)).setCell 3 (.slice none 0 0)).setCell 4 (.int .i64 0)).setCell 5 (.int .i64 0)).setCell 6 (.int .i64 zr)).setCell 7 (.int .i64 mi)).setCell 8 (.int .i64 mx)).drew
     all_goals refine bodyPost_ret (results_num rfl _ _ w.heap.size _ rfl hbz rfl) rfl ?_
     all_goals exact ⟨by rw [HN.out];rfl,Ext.drew_ (Ext.setCell_ (Ext.setCell_ (Ext.setCell_ (Ext.setCell_ (Ext.setCell_ (Ext.setCell_ (Ext.setCell_ (Ext.setCell_ (Ext.setCell_ HXF.out (Nat.le_refl _) _ _) (Nat.le_refl _) _ _) (Nat.le_refl _) _ _) (Nat.le_refl _) _ _) (Nat.le_refl _) _ _) (Nat.le_refl _) _ _) (Nat.le_refl _) _ _) (Nat.le_refl _) _ _) (Nat.le_refl _) _ _)⟩
set_option maxRecDepth 512
structure HalfOk (l:List Pc) (n0 n1:Nat) (t:NSt):Prop where
 h01:n0 < n1
 h12:n1≤l.length
 k1:∀ k (h:k < l.length),k < n0→(l[k].1 == 4)=false
 k2:∀ k (h:k < l.length),n0≤k→k < n1→(l[k].1 == 4)=true
 k3:∀ k (h:k < l.length),n1≤k→(l[k].1 == 4)=false
 tt:tot l≤10000
 ne:∀ p ∈ l,p.2 ≠ []
 run:runN st0 (textOf ((l.drop n0).take (n1 - n0)))=some t
 ende:endN t=true
 long:longN t=false
end Go.Proofs.YtcghgkagpkmpeaaGreatDoor.Pat
