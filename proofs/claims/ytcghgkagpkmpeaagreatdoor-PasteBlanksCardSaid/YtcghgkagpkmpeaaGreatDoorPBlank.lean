/- The law PasteBlanks: blanks, wherever they stand, change nothing. (Printed by wip/gen/law18.py.) -/
import Derived.Test.YtcghgkagpkmpeaaGreatDoorJPaW
import Derived.Test.YtcghgkagpkmpeaaGreatDoorPaB
import Derived.Test.YtcghgkagpkmpeaaGreatDoorDrG3
import Derived.Test.YtcghgkagpkmpeaaGreatDoorSplR
import Derived.Test.YtcghgkagpkmpeaaGreatDoorJStW
set_option linter.unusedVariables false
set_option linter.unusedSimpArgs false
set_option maxHeartbeats 16000000
namespace Go.Proofs.YtcghgkagpkmpeaaGreatDoor.Loc
open Go.RowKit Utf All Small Strs Build EncC Pat Cls Dec Go.Proofs.YtcghgkagpkmpeaaGreatDoor.Sys
theorem own7_ne {e sz:Nat} {w0 w:World} {A:Option Addr} {c n b:Nat} {cs:List Value} {T:TypeId} {ds:List Value} (h:Acc e sz w0 w A c n cs) (hb:Box w b T ds) (hT:T ≠ e):∀ a,A=some a→a.block ≠ b:=by
 rintro a rfl hab
 rcases h.own.2 with ⟨hv,_⟩ | ⟨g,cap,cur,hv,_,hg,_⟩
 ·cases hv
 ·injection hv with hA _ _
  injection hA with hA
  subst hA
  simp only at hab
  subst hab
  unfold Box at hb
  rw [hb] at hg
  injection hg with hg
  injection hg with _ h2 _
  exact hT h2
theorem row_sv {w:World} {A:Option Addr} {xs:List (List UInt8)} (h:Row w A (strsV xs)) {k:Nat} (hk:k < xs.length):∃ b off,A=some ⟨b,off,none⟩∧w.cell? ⟨b,off+k,none⟩=some (.string ⟨xs[k].toArray⟩):=by
 obtain ⟨b,off,e,hc⟩:=h.at_ (k:=k) (by simpa [strsV] using hk)
 exact ⟨b,off,e,hc k _ (by simp [strsV,hk])⟩
theorem row7 {w w6:World} {r:Option Nat} {Y:Option Addr} {cs:List Value} (h:Row w Y cs) (hg:w.grownBy w6 r) (hn:∀ a,Y=some a→some a.block ≠ r):Row w6 Y cs:=by
 rcases h with h | ⟨b,off,rfl,hc⟩
 ·exact .inl h
 ·refine .inr ⟨b,off,rfl,fun j v hv=>?_⟩
  have h1:=hc j v hv
  exact (World.cell?_of_block (hg.block b (block_lt h1) (hn _ rfl))).trans h1
theorem row_ne {w:World} {b:Nat} {Y:Option Addr} {xs:List Int} {T:TypeId} {ds:List Value} (hb:Box w b T ds) (hr:Row w Y (xs.map (Value.int .i64))) (hno:∀ v ∈ ds,isInt v=false) (j:Nat) (v:Value):Row (w.setCell ⟨b,j,none⟩ v) Y (xs.map (Value.int .i64)):=ints_setCell hb hr hno j v
set_option maxRecDepth 1000000
theorem law_PasteBlanks (v0 v1 v2 v3 v4 v5 n:Int) (A0 B0:Option Addr) (c0 e0:Nat) (d0:Dr) (u q:Int) (w:World) (h0:i64 v0) (h1:i64 v1) (h2:i64 v2) (h3:i64 v3) (h4:i64 v4) (h5:i64 v5) (hn:i64 n) (hd:DrR w A0 B0 d0) (hi:DrI d0) (hu:i64 u) (hq:i64 q) (hT:Tabs w) :
  Calls Tryz.prog 4 #[.agg ([.int .i64 v0,.int .i64 v1,.int .i64 v2,.int .i64 v3,.int .i64 v4,.int .i64 v5]:List Value).toArray,.int .i64 n,.agg ([.bool d0.neg,.slice A0 d0.int.length c0,.bool d0.sep,.slice B0 d0.frac.length e0]:List Value).toArray,.int .i64 u,.int .i64 q] w fun e w'=>e=.returned (.bool true)∧Below w.heap.size w w':=by
 obtain ⟨r,p,hK,hBG⟩:=begin18_ v0 v1 v2 v3 v4 v5 n h0 h1 h2 h3 h4 h5 hn
 obtain ⟨ddx,hdokx,hdix,hdfx,hGdx,hEx⟩:∃ dd:Dr,DrOk dd∧dd.int.length≤6∧dd.frac.length≤4∧(∀ W,Ext w W→Calls Tryz.prog 13 #[.agg ([.bool d0.neg,.slice A0 d0.int.length c0,.bool d0.sep,.slice B0 d0.frac.length e0]:List Value).toArray,.int .i64 6,.int .i64 4] W fun e w'=>∃ X Y cx cy,e=.returned (.agg ([.bool dd.neg,.slice X dd.int.length cx,.bool dd.sep,.slice Y dd.frac.length cy]:List Value).toArray)∧Acc 3 1 W w' X cx dd.int.length (dd.int.map (Value.int .i64))∧Row w' Y (dd.frac.map (Value.int .i64))∧Okc Y cy∧Apart X Y∧Ext W w')∧dd=goodD d0 6 4 :=
  ⟨goodD d0 6 4,good_ok _ _ _,good_intl d0 6 4,good_fracl d0 6 4,fun W hW=>ref14_goodA A0 B0 c0 e0 d0 6 4 W (hd.ext hW) hi (by decide) (by decide),rfl⟩
 have HGDx:=Lib.hid hGdx
 have hown:DrOk ⟨ddx.neg,ddx.int++[7],ddx.sep,ddx.frac⟩:=⟨fun x hx=>by rcases List.mem_append.1 hx with hx | hx;exact hdokx.int x hx;(rw [List.mem_singleton] at hx;subst hx;exact ⟨by decide,by decide⟩),hdokx.frac,hdokx.sep⟩
 have HOK:=Lib.hid hown
 have HK:=Lib.hid hK.knd
 have HKO:=Lib.hid hK.outs
 have HBG:=Lib.hid hBG
 have HTW:=Lib.hid hT
 have HU:=Lib.hid hu
 have HQ:=Lib.hid hq
 have HLV:Hid (∀ W,Ext w W→Calls Tryz.prog 12 #[] W fun e w'=>e=.returned (.bool true)∧Ext W w'):=Lib.hid fun W hW=>lives18 W (HTW.out.ext hW)
 obtain ⟨b1,b2,hx1⟩:=boxes2 w 23 43 [.int .i64 v0,.int .i64 v1,.int .i64 v2,.int .i64 v3,.int .i64 v4,.int .i64 v5] [.bool d0.neg,.slice A0 d0.int.length c0,.bool d0.sep,.slice B0 d0.frac.length e0]
 have HRG:=Lib.hid b1.range
 have HBA:=Lib.hid b2
 have HX1:=Lib.hid hx1
 clear hK hBG hd hi hT b1 b2 hx1 h0 h1 h2 h3 h4 h5 hn hEx hGdx hdokx hown hu hq
 go_enter Tryz.func4,Tryz.ntmps4
 go_upto_region 1 with fail
 change Code.wp _ _ _ _ ((w.alloc (.cells ([.int .i64 v0,.int .i64 v1,.int .i64 v2,.int .i64 v3,.int .i64 v4,.int .i64 v5]:List Value).toArray 23)).alloc (.cells ([.bool d0.neg,.slice A0 d0.int.length c0,.bool d0.sep,.slice B0 d0.frac.length e0]:List Value).toArray 43))
 generalize (w.alloc (.cells ([.int .i64 v0,.int .i64 v1,.int .i64 v2,.int .i64 v3,.int .i64 v4,.int .i64 v5]:List Value).toArray 23)).alloc (.cells ([.bool d0.neg,.slice A0 d0.int.length c0,.bool d0.sep,.slice B0 d0.frac.length e0]:List Value).toArray 43)=w1 at *
 go_upto_region 2 with (first
  | (refine wpList_load_mid rfl 23 (.tmp 5) rfl w.heap.size 0 rfl [.int .i64 v0,.int .i64 v1,.int .i64 v2,.int .i64 v3,.int .i64 v4,.int .i64 v5] _ HRG.out Tryz.underlying23 rfl infoG ?_)
  | (go_at_call 7;with_reducible refine (HBG.out _ (HTW.out.ext HX1.out)).mono ?_;rintro e wb ⟨g,A,B,C,D,c,d,a,b,rfl,hlw,hxb⟩)
  | (refine wpList_store_fresh rfl 31 (.tmp 12) (.tmp 24) rfl ([.string ⟨r.name.toArray⟩,.string ⟨r.pattern.toArray⟩,.string ⟨r.system.toArray⟩,.string ⟨r.decimal.toArray⟩,.string ⟨r.group.toArray⟩,.string ⟨r.minus.toArray⟩,.string ⟨r.percent.toArray⟩,.string ⟨r.currency.toArray⟩,.slice A p.pre.length c,.slice B p.suf.length d,.slice C p.npre.length a,.slice D p.nsuf.length b,.int .i64 p.num.prim,.int .i64 p.num.sec,.int .i64 p.num.minInt,.int .i64 p.num.minFrac,.int .i64 p.num.maxFrac]:List Value).toArray 31 _ rfl rfl infoRL rfl (refL_one A B C D c d a b r p) ?_))
 have hxc:Ext wb (wb.alloc (.cells ([.string ⟨r.name.toArray⟩,.string ⟨r.pattern.toArray⟩,.string ⟨r.system.toArray⟩,.string ⟨r.decimal.toArray⟩,.string ⟨r.group.toArray⟩,.string ⟨r.minus.toArray⟩,.string ⟨r.percent.toArray⟩,.string ⟨r.currency.toArray⟩,.slice A p.pre.length c,.slice B p.suf.length d,.slice C p.npre.length a,.slice D p.nsuf.length b,.int .i64 p.num.prim,.int .i64 p.num.sec,.int .i64 p.num.minInt,.int .i64 p.num.minFrac,.int .i64 p.num.maxFrac]:List Value).toArray 31)):=Ext.alloc_ (Ext.refl _) _
 have HW:=Lib.hid hlw
 have HXB:=Lib.hid (HX1.out.trans (hxb.trans hxc))
 have HXS:=Lib.hid (hxb.trans hxc)
 clear hlw hxb hxc
 generalize wb.alloc (.cells ([.string ⟨r.name.toArray⟩,.string ⟨r.pattern.toArray⟩,.string ⟨r.system.toArray⟩,.string ⟨r.decimal.toArray⟩,.string ⟨r.group.toArray⟩,.string ⟨r.minus.toArray⟩,.string ⟨r.percent.toArray⟩,.string ⟨r.currency.toArray⟩,.slice A p.pre.length c,.slice B p.suf.length d,.slice C p.npre.length a,.slice D p.nsuf.length b,.int .i64 p.num.prim,.int .i64 p.num.sec,.int .i64 p.num.minInt,.int .i64 p.num.minFrac,.int .i64 p.num.maxFrac]:List Value).toArray 31)=w3 at *
 generalize wb.heap.size=lb at *
 have HRA:=Lib.hid (HBA.out.ext HXS.out).range
 go_upto_region 5 with (first
  | (refine wpList_load_mid rfl 43 (.tmp 7) rfl (w.heap.size+1) 0 rfl [.bool d0.neg,.slice A0 d0.int.length c0,.bool d0.sep,.slice B0 d0.frac.length e0] _ HRA.out Tryz.underlying43 rfl infoD14 ?_)
  | (go_at_call 13;with_reducible refine (HGDx.out _ HXB.out).mono ?_;rintro e wg ⟨Xx,Yx,cxx,cyx,rfl,hac,hfr,oY,hap,hxg⟩)
  | (refine wpList_store_fresh rfl 43 (.tmp 13) (.tmp 30) rfl ([.bool ddx.neg,.slice Xx ddx.int.length cxx,.bool ddx.sep,.slice Yx ddx.frac.length cyx]:List Value).toArray 43 _ rfl rfl infoD14 rfl (by simp [Value.oneCell']) ?_))
 have hb5:=Box.new wg 43 [.bool ddx.neg,.slice Xx ddx.int.length cxx,.bool ddx.sep,.slice Yx ddx.frac.length cyx]
 have HAC:=Lib.hid (hac.alloc (.cells ([.bool ddx.neg,.slice Xx ddx.int.length cxx,.bool ddx.sep,.slice Yx ddx.frac.length cyx]:List Value).toArray 43))
 have HFR:=Lib.hid (hfr.below (Ext.alloc_ (Ext.refl wg) (.cells ([.bool ddx.neg,.slice Xx ddx.int.length cxx,.bool ddx.sep,.slice Yx ddx.frac.length cyx]:List Value).toArray 43)) (Nat.le_refl _))
 have HAP:=Lib.hid hap
 have HOY:=Lib.hid oY
 have HB5:=Lib.hid hb5
 have hne5:∀ a,Xx=some a→a.block ≠ wg.heap.size:=fun a ha=>by have:=(acc_lt hac ha).2;omega
 have HNE:=Lib.hid hne5
 have HLE5:Hid (w3.heap.size≤wg.heap.size):=Lib.hid hxg.size
 have y1:=hb5.cell (j:=1) (v:=.slice Xx ddx.int.length cxx) rfl
 clear hac hfr oY hap hxg hb5 hne5
 generalize wg.alloc (.cells ([.bool ddx.neg,.slice Xx ddx.int.length cxx,.bool ddx.sep,.slice Yx ddx.frac.length cyx]:List Value).toArray 43)=w5 at *
 generalize wg.heap.size=dbx at *
 go_upto_region 6 with (at_builtin;refine wp_app ei_int rfl (.tmp 32) (.tmp 33) rfl w3 w5 Xx cxx ddx.int.length _ rfl HAC.out [.int .i64 7] 1 1 rfl rfl (by simp [Value.oneCell']) (by omega) (by unfold maxLen;omega) ?_;intro A1 c1 w6 hA6 _ hg6;have hb6:Box w6 dbx 43 [.bool ddx.neg,.slice Xx ddx.int.length cxx,.bool ddx.sep,.slice Yx ddx.frac.length cyx]:=(hg6.block dbx HB5.out.lt (fun hh=>by
   cases Xx with
   | none=>simp [Value.ownBlock] at hh
   | some a=>simp only [Value.ownBlock,Option.some.injEq] at hh;exact HNE.out a rfl hh.symm)).trans HB5.out;have z1:=hb6.cell (j:=1) (v:=.slice Xx ddx.int.length cxx) rfl;have g1:=hb6.frozen 1)
 have hy6:Row w6 Yx (ddx.frac.map (Value.int .i64)):=row7 HFR.out hg6 (fun a ha hh=>by
  cases Xx with
  | none=>simp [Value.ownBlock] at hh
  | some b=>simp only [Value.ownBlock,Option.some.injEq] at hh;exact HAP.out b a rfl ha hh.symm)
 have hne:=own7_ne hA6 hb6 (by decide)
 have hb7:=hb6.setCell 1 (.slice A1 (ddx.int.length+1) c1)
 have hx7:Ext w3 (w6.setCell ⟨dbx,1,none⟩ (.slice A1 (ddx.int.length+1) c1)):=Ext.setCell_ hA6.ext HLE5.out 1 _
 have hA7:=acc_off (r:=dbx) hA6 hx7 hne (fun k hk=>heap_setCell_other _ _ k _ hk)
 have hy7:=ints_setCell hb6 hy6 (by simp [isInt]) 1 (.slice A1 (ddx.int.length+1) c1)
 have HDx:Hid (Dw (w6.setCell ⟨dbx,1,none⟩ (.slice A1 (ddx.int.length+1) c1)) dbx 43 A1 c1 Yx cyx ⟨ddx.neg,ddx.int++[7],ddx.sep,ddx.frac⟩):=Lib.hid ⟨⟨by rw [List.map_append];exact hA7.row,hy7⟩,Acc.okc hA7,HOY.out,by simp only [List.length_append,List.length_singleton];exact hb7⟩
 have HX7:=Lib.hid hx7
 clear hA6 hg6 hb6 hb7 hx7 hA7 hy6 hy7 hne z1 g1 y1 HAC HFR HAP HOY HB5 HNE HLE5
 generalize w6.setCell ⟨dbx,1,none⟩ (.slice A1 (ddx.int.length+1) c1)=w7 at *
 have HW7:=Lib.hid (HW.out.ext HX7.out)
 have HXW:=Lib.hid (HXB.out.trans HX7.out)
 have hil:(ddx.int++[7]).length≤7:=by rw [List.length_append,List.length_singleton];omega
 have hcl:drV A1 c1 Yx cyx ⟨ddx.neg,ddx.int++[7],ddx.sep,ddx.frac⟩=[.bool ddx.neg,.slice A1 (ddx.int.length+1) c1,.bool ddx.sep,.slice Yx ddx.frac.length cyx]:=by simp [drV]
 have HTA:Hid (∀ W,Ext w7 W→Calls Tryz.prog 14 #[.agg ([.string ⟨r.name.toArray⟩,.string ⟨r.pattern.toArray⟩,.string ⟨r.system.toArray⟩,.string ⟨r.decimal.toArray⟩,.string ⟨r.group.toArray⟩,.string ⟨r.minus.toArray⟩,.string ⟨r.percent.toArray⟩,.string ⟨r.currency.toArray⟩,.slice A p.pre.length c,.slice B p.suf.length d,.slice C p.npre.length a,.slice D p.nsuf.length b,.int .i64 p.num.prim,.int .i64 p.num.sec,.int .i64 p.num.minInt,.int .i64 p.num.minFrac,.int .i64 p.num.maxFrac]:List Value).toArray,.agg ([.bool ddx.neg,.slice A1 (ddx.int.length+1) c1,.bool ddx.sep,.slice Yx ddx.frac.length cyx]:List Value).toArray] W fun e w'=>e=.returned (.string ⟨(textI (itemsF (locOf r p) ⟨ddx.neg,ddx.int++[7],ddx.sep,ddx.frac⟩)).toArray⟩)∧Ext W w'):=Lib.hid fun W hW=>by
  have hh:=ref17_text A B C D A1 Yx c d a b c1 cyx ⟨ddx.neg,ddx.int++[7],ddx.sep,ddx.frac⟩ r p W HK.out (HW7.out.pt.ext hW) HW7.out.cap (HDx.out.dr.ext hW) HDx.out.ox HDx.out.oy HOK.out (by simp only;omega) (by simp only;omega)
  rwa [hcl] at hh
 have HAT:Hid (∀ W,Ext w7 W→Calls Tryz.prog 18 #[.agg ([.bool ddx.neg,.slice A1 (ddx.int.length+1) c1,.bool ddx.sep,.slice Yx ddx.frac.length cyx]:List Value).toArray] W fun e w'=>∃ F c',e=.returned (.slice F (atomsF ⟨ddx.neg,ddx.int++[7],ddx.sep,ddx.frac⟩).length c')∧Row w' F ((atomsF ⟨ddx.neg,ddx.int++[7],ddx.sep,ddx.frac⟩).map (Value.int .i64))∧Ext W w'):=Lib.hid fun W hW=>by
  have hh:=ref14_atoms5 A1 Yx c1 cyx ⟨ddx.neg,ddx.int++[7],ddx.sep,ddx.frac⟩ W (HDx.out.dr.ext hW) HDx.out.ox HDx.out.oy (by simp only;omega) (by simp only;omega)
  rw [hcl] at hh
  exact hh.mono fun e w' ⟨F,c',h1,h2⟩=>⟨F,c',h1,h2.row,h2.ext⟩
 have hta:=text_small HK.out.both ⟨ddx.neg,ddx.int++[7],ddx.sep,ddx.frac⟩
 simp only at hta
 have hsl:=split_len_le (textI (itemsF (locOf r p) ⟨ddx.neg,ddx.int++[7],ddx.sep,ddx.frac⟩))
 have hl1:(ddx.int++[7]).length=ddx.int.length+1:=by simp
 have hal:(atomsF ⟨ddx.neg,ddx.int++[7],ddx.sep,ddx.frac⟩).length ≠ 0∧(atomsF ⟨ddx.neg,ddx.int++[7],ddx.sep,ddx.frac⟩).length≤20:=by rw [atoms_len];simp only;split <;> omega
 have HCL:=Lib.hid (fun i k=>tabs_cl HK.out.both HKO.out HOK.out hal.1 i k (by omega) (by omega))
 have HSP:Hid (∀ W,Calls Tryz.prog 9 #[.string ⟨(textI (itemsF (locOf r p) ⟨ddx.neg,ddx.int++[7],ddx.sep,ddx.frac⟩)).toArray⟩] W fun e w'=>∃ E cE,e=.returned (.slice E (splitS (textI (itemsF (locOf r p) ⟨ddx.neg,ddx.int++[7],ddx.sep,ddx.frac⟩))).length cE)∧Row w' E (strsV (splitS (textI (itemsF (locOf r p) ⟨ddx.neg,ddx.int++[7],ddx.sep,ddx.frac⟩))))∧Ext W w'):=Lib.hid fun W=>by
  have hh:=splitr_acc ⟨(textI (itemsF (locOf r p) ⟨ddx.neg,ddx.int++[7],ddx.sep,ddx.frac⟩)).toArray⟩ W (by show (textI (itemsF (locOf r p) ⟨ddx.neg,ddx.int++[7],ddx.sep,ddx.frac⟩)).length≤1000000;omega)
  exact hh.mono fun e w' ⟨E,cE,h1,h2⟩=>⟨E,cE,h1,h2.row,h2.ext⟩
 have HTLn:Hid (∀ i k m,m≤(splitS (textI (itemsF (locOf r p) ⟨ddx.neg,ddx.int++[7],ddx.sep,ddx.frac⟩))).length+1→(tabsTo (splitS (textI (itemsF (locOf r p) ⟨ddx.neg,ddx.int++[7],ddx.sep,ddx.frac⟩))) i k m).flatten.length≤4000):=Lib.hid fun i k m hm=>by
  have h1:=tabs_len (splitS (textI (itemsF (locOf r p) ⟨ddx.neg,ddx.int++[7],ddx.sep,ddx.frac⟩))) i k m
  have h2:((splitS (textI (itemsF (locOf r p) ⟨ddx.neg,ddx.int++[7],ddx.sep,ddx.frac⟩))).take m).flatten.length≤(splitS (textI (itemsF (locOf r p) ⟨ddx.neg,ddx.int++[7],ddx.sep,ddx.frac⟩))).flatten.length:=by
   conv=>rhs;rw [← List.take_append_drop m (splitS (textI (itemsF (locOf r p) ⟨ddx.neg,ddx.int++[7],ddx.sep,ddx.frac⟩))),List.flatten_append,List.length_append]
   omega
  rw [split_join] at h2
  omega
 have HTT:Hid (∀ t ∈ splitS (textI (itemsF (locOf r p) ⟨ddx.neg,ddx.int++[7],ddx.sep,ddx.frac⟩)),t.length≤2000):=Lib.hid fun t ht=>by have:=clus_len ht;omega
 have HRD:Hid (∀ W s,Ext w7 W→s.length≤100000→Calls Tryz.prog 16 #[.pointer (some ⟨g,0,none⟩),.string ⟨s.toArray⟩] W fun e w'=>∃ X cx,e=.returned (.tuple #[.agg ([.bool (clT (clF (locOf r p) s)).1,.slice X (clT (clF (locOf r p) s)).2.length cx]:List Value).toArray,.int .i64 (clE (clF (locOf r p) s))])∧Row w' X ((clT (clF (locOf r p) s)).2.map (Value.int .i64))∧Okc X cx∧Ext W w'):=Lib.hid fun W s hW hs=>(HW7.out.ext hW).read HK.out (HTW.out.ext (HXW.out.trans hW)) hs
 have hM:(splitS (textI (itemsF (locOf r p) ⟨ddx.neg,ddx.int++[7],ddx.sep,ddx.frac⟩))).length≤2000:=by omega
 have HSM:Hid (∀ W Z F cz cF,Row W Z ((atomsF ⟨ddx.neg,ddx.int++[7],ddx.sep,ddx.frac⟩).map (Value.int .i64))→Row W F ((atomsF ⟨ddx.neg,ddx.int++[7],ddx.sep,ddx.frac⟩).map (Value.int .i64))→Calls Tryz.prog 17 #[.slice Z (atomsF ⟨ddx.neg,ddx.int++[7],ddx.sep,ddx.frac⟩).length cz,.slice F (atomsF ⟨ddx.neg,ddx.int++[7],ddx.sep,ddx.frac⟩).length cF] W fun e w'=>e=.returned (.bool true)∧Ext W w'):=Lib.hid fun W Z F cz cF h1 h2=>by
  have hh:=same Z F cz cF _ _ W h1 h2 (by unfold maxLen;omega) (by unfold maxLen;omega)
  rwa [decide_eq_true rfl] at hh
 have HLR7:=Lib.hid HW7.out.range
 have hdr7:w7.rangeAt dbx 0 [.bool ddx.neg,.slice A1 (ddx.int.length+1) c1,.bool ddx.sep,.slice Yx ddx.frac.length cyx]:=by have hh:=HDx.out.box.range;simp only [List.length_append,List.length_singleton] at hh;exact hh
 have HDR7:=Lib.hid hdr7
 clear HW HXB HXS HBA HRG HRA HGDx HBG HX1 hta hsl hal hil hl1 hcl hdr7 HKO HX7
 generalize hts:splitS (textI (itemsF (locOf r p) ⟨ddx.neg,ddx.int++[7],ddx.sep,ddx.frac⟩))=ts at *
 clear hts
 generalize textI (itemsF (locOf r p) ⟨ddx.neg,ddx.int++[7],ddx.sep,ddx.frac⟩)=ta at *
 generalize atomsF ⟨ddx.neg,ddx.int++[7],ddx.sep,ddx.frac⟩=ats at *
 generalize hdl:ddx.int.length+1=dl at *
 clear hdl
 go_upto_region 7 with (first
  | (refine wpList_load_mid rfl 31 (.tmp 12) rfl lb 0 rfl [.string ⟨r.name.toArray⟩,.string ⟨r.pattern.toArray⟩,.string ⟨r.system.toArray⟩,.string ⟨r.decimal.toArray⟩,.string ⟨r.group.toArray⟩,.string ⟨r.minus.toArray⟩,.string ⟨r.percent.toArray⟩,.string ⟨r.currency.toArray⟩,.slice A p.pre.length c,.slice B p.suf.length d,.slice C p.npre.length a,.slice D p.nsuf.length b,.int .i64 p.num.prim,.int .i64 p.num.sec,.int .i64 p.num.minInt,.int .i64 p.num.minFrac,.int .i64 p.num.maxFrac] _ HLR7.out Tryz.underlying31 rfl infoRL ?_)
  | (refine wpList_load_mid rfl 43 (.tmp 13) rfl dbx 0 rfl [.bool ddx.neg,.slice A1 dl c1,.bool ddx.sep,.slice Yx ddx.frac.length cyx] _ HDR7.out Tryz.underlying43 rfl infoD14 ?_)
  | (go_at_call 14;with_reducible refine (HTA.out _ (Ext.refl _)).mono ?_;rintro e w8 ⟨rfl,hx8⟩)
  | (go_at_call 9;with_reducible refine (HSP.out _).mono ?_;rintro e w9 ⟨E,cE,rfl,hrE,hx9⟩))
 have HX9:=Lib.hid (hx8.trans hx9)
 have HRE:=Lib.hid hrE
 clear hx8 hx9 hrE
 generalize hMl:ts.length=M at *
 have HML:=Lib.hid hMl
 clear hMl
 have z1:(1:Int)≤(M:Int)+1:=by omega
 have z2:(M:Int)+1≤9223372036854775807:=by omega
 have HA1:Hid (∀ W,Calls Tryz.prog 15 #[.int .i64 u,.int .i64 ((M:Int)+1)] W fun e w'=>e=.returned (.int .i64 (aroundF u ((M:Int)+1)))∧W=w'):=Lib.hid fun W=>around u _ W HU.out.1 HU.out.2 z1 z2
 have HA2:Hid (∀ W,Calls Tryz.prog 15 #[.int .i64 q,.int .i64 ((M:Int)+1)] W fun e w'=>e=.returned (.int .i64 (aroundF q ((M:Int)+1)))∧W=w'):=Lib.hid fun W=>around q _ W HQ.out.1 HQ.out.2 z1 z2
 clear z1 z2
 go_upto_region 8 with (go_at_call 15;with_reducible refine (HA1.out _).mono ?_;rintro e wz ⟨rfl,rfl⟩)
 go_upto_region 9 with (go_at_call 15;with_reducible refine (HA2.out _).mono ?_;rintro e wz ⟨rfl,rfl⟩)
 have hai:=aroundF_bd u ((M:Int)+1) (by omega)
 have hak:=aroundF_bd q ((M:Int)+1) (by omega)
 generalize aroundF u ((M:Int)+1)=ai at *
 generalize aroundF q ((M:Int)+1)=ak at *
 have HST:=Lib.hid (fun m=>tabs_flat ts ai ak m)
 have HT0:Hid ((tabsTo ts ai ak 0).flatten=[]):=Lib.hid (by simp [tabsTo])
 have HTLm:=Lib.hid (HTLn.out ai ak)
 have HCLm:=Lib.hid (HCL.out ai ak)
 clear HTLn HCL
 go_wp2
 go_loop [17,18] (fun s j=>∃ m:Nat,m≤M+1∧j=.int .i64 m∧s=.string ⟨(tabsTo ts ai ak m).flatten.toArray⟩) (fun _ j=>M+1 - (intOf j).toNat)
 case atStart=>exact ⟨0,Nat.zero_le _,rfl,by rw [HT0.out]⟩
 case round =>
  obtain ⟨m,hm,rfl,rfl⟩:=hrel
  have hle:=HTLm.out m hm
  have HS:=Lib.hid (HST.out m)
  by_cases hlt:m≤M
  ·have k1:(m:Int)≤(M:Int):=by omega
   have k0:(0:Int)≤(m:Int):=by omega
   generalize (tabsTo ts ai ak m).flatten=o at *
   have hap:=app_mk o [9]
   have j9:(9223372036854775807 < o.length+1)=False:=eq_false (by omega)
   by_cases hlm:m < M
   ·have k2:(m:Int) < (M:Int):=by omega
    have hkq:m < ts.length:=by have:=HML.out;omega
    obtain ⟨be,oe,rfl,hce⟩:=row_sv HRE.out hkq
    have hti:=HTT.out _ (List.getElem_mem hkq)
    have HGD:Hid (ts.getD m []=ts[m]):=Lib.hid (by rw [List.getD_eq_getElem?_getD,List.getElem?_eq_getElem hkq];rfl)
    generalize ts[m]=t at *
    have hap2:=app_mk o t
    have hap3:=app_mk (o++[9]) t
    have j2:(9223372036854775807 < o.length+t.length)=False:=eq_false (by omega)
    have j3:(9223372036854775807 < o.length+1+t.length)=False:=eq_false (by omega)
    have j4:(9223372036854775807 < (o++[9]).length+t.length)=False:=eq_false (by rw [List.length_append,List.length_singleton];omega)
    by_cases e1:(m:Int)=ai
    ·have HS2:Hid ((tabsTo ts ai ak (m+1)).flatten=(o++[9])++t):=Lib.hid (by rw [HS.out,if_pos (.inl e1),if_pos hkq,HGD.out,List.append_assoc])
     have b1:((m:Int) == ai)=true:=by simpa using e1
     clear e1 HS
     go_wp2
     go_round
     case rel=>exact ⟨m+1,by omega,by go_num,by rw [HS2.out];first | done | rfl | (rw [hap3]) | (rw [List.append_assoc];rfl)⟩
     case measure=>simp [intOf];omega
    ·have b1:((m:Int) == ai)=false:=by simpa using e1
     by_cases e2:(m:Int)=ak
     ·have HS2:Hid ((tabsTo ts ai ak (m+1)).flatten=(o++[9])++t):=Lib.hid (by rw [HS.out,if_pos (.inr e2),if_pos hkq,HGD.out,List.append_assoc])
      have b2:((m:Int) == ak)=true:=by simpa using e2
      clear e1 e2 HS
      go_wp2
      go_round
      case rel=>exact ⟨m+1,by omega,by go_num,by rw [HS2.out];first | done | rfl | (rw [hap3]) | (rw [List.append_assoc];rfl)⟩
      case measure=>simp [intOf];omega
     ·have HS2:Hid ((tabsTo ts ai ak (m+1)).flatten=o++t):=Lib.hid (by rw [HS.out,if_neg (fun hh=>hh.elim e1 e2),if_pos hkq,HGD.out,List.nil_append])
      have b2:((m:Int) == ak)=false:=by simpa using e2
      clear e1 e2 HS
      go_wp2
      go_round
      case rel=>exact ⟨m+1,by omega,by go_num,by rw [HS2.out];first | done | rfl | (rw [hap2])⟩
      case measure=>simp [intOf];omega
   ·have k2:¬ ((m:Int) < (M:Int)):=by omega
    have hkq:¬ (m < ts.length):=by have:=HML.out;omega
    by_cases e1:(m:Int)=ai
    ·have HS2:Hid ((tabsTo ts ai ak (m+1)).flatten=o++[9]):=Lib.hid (by rw [HS.out,if_pos (.inl e1),if_neg hkq,List.append_nil])
     have b1:((m:Int) == ai)=true:=by simpa using e1
     clear e1 HS
     go_wp2
     go_round
     case rel=>exact ⟨m+1,by omega,by go_num,by rw [HS2.out];first | done | rfl | (rw [hap])⟩
     case measure=>simp [intOf];omega
    ·have b1:((m:Int) == ai)=false:=by simpa using e1
     by_cases e2:(m:Int)=ak
     ·have HS2:Hid ((tabsTo ts ai ak (m+1)).flatten=o++[9]):=Lib.hid (by rw [HS.out,if_pos (.inr e2),if_neg hkq,List.append_nil])
      have b2:((m:Int) == ak)=true:=by simpa using e2
      clear e1 e2 HS
      go_wp2
      go_round
      case rel=>exact ⟨m+1,by omega,by go_num,by rw [HS2.out];first | done | rfl | (rw [hap])⟩
      case measure=>simp [intOf];omega
     ·have HS2:Hid ((tabsTo ts ai ak (m+1)).flatten=o):=Lib.hid (by rw [HS.out,if_neg (fun hh=>hh.elim e1 e2),if_neg hkq];simp)
      have b2:((m:Int) == ak)=false:=by simpa using e2
      clear e1 e2 HS
      go_wp2
      go_round
      case rel=>exact ⟨m+1,by omega,by go_num,by rw [HS2.out]⟩
      case measure=>simp [intOf];omega
  ·have e:m=M+1:=by omega
   subst e
   have k1:¬ (((M+1:Nat):Int)≤(M:Int)):=by omega
   have k2:¬ ((M:Int)+1≤(M:Int)):=by omega
   have hcm:=HCLm.out
   generalize (tabsTo ts ai ak (M+1)).flatten=o at *
   have hz1:(clT (clF (locOf r p) o)).1=ddx.neg:=by rw [hcm];rfl
   have hz2:(clT (clF (locOf r p) o)).2=ats:=by rw [hcm];rfl
   have hz3:clE (clF (locOf r p) o)=0:=by rw [hcm];rfl
   have HRO:Hid (∀ W,Ext w7 W→Calls Tryz.prog 16 #[.pointer (some ⟨g,0,none⟩),.string ⟨o.toArray⟩] W fun e w'=>∃ X cx,e=.returned (.tuple #[.agg ([.bool ddx.neg,.slice X ats.length cx]:List Value).toArray,.int .i64 0])∧Row w' X (ats.map (Value.int .i64))∧Ext W w'):=Lib.hid fun W hW=>by
    have hh:=HRD.out W o hW (by omega)
    rw [hz1,hz2,hz3] at hh
    exact hh.mono fun e w' ⟨X,cx,h1,h2,_,h3⟩=>⟨X,cx,h1,h2,h3⟩
   clear hz1 hz2 hz3 hcm HRD
   go_upto_region 18 with (first
    | (go_at_call 16;with_reducible refine (HRO.out _ HX9.out).mono ?_;rintro e w10 ⟨Z,cz,rfl,hrZ,hx10⟩)
    | (refine wpList_store_fresh rfl 48 (.tmp 19) (.tmp 80) rfl ([.bool ddx.neg,.slice Z ats.length cz]:List Value).toArray 48 _ rfl rfl infoClip rfl (by simp [Value.oneCell']) ?_))
   have hb11:=Box.new w10 48 [.bool ddx.neg,.slice Z ats.length cz]
   have hx11:Ext w10 (w10.alloc (.cells ([.bool ddx.neg,.slice Z ats.length cz]:List Value).toArray 48)):=Ext.alloc_ (Ext.refl _) _
   have hx7:=HX9.out.trans (hx10.trans hx11)
   have HX11:=Lib.hid hx7
   have HZ11:=Lib.hid (hrZ.below hx11 (Nat.le_refl _))
   have HR11:=Lib.hid (Ext.range_ hx7 HDR7.out)
   have HB11:=Lib.hid hb11
   clear hb11 hx10 hx11 hx7 hrZ
   generalize w10.alloc (.cells ([.bool ddx.neg,.slice Z ats.length cz]:List Value).toArray 48)=w11 at *
   generalize w10.heap.size=zb at *
   have c0_:=HB11.out.cell (j:=0) (v:=.bool ddx.neg) rfl
   have c1_:=HB11.out.cell (j:=1) (v:=.slice Z ats.length cz) rfl
   have c2_:w11.cell? ⟨dbx,0,none⟩=some (.bool ddx.neg):=HR11.out 0 _ rfl
   have bn:(ddx.neg == ddx.neg)=true:=by simp
   refine rg_ (S:=fun W=>Ext w11 W∧W.rangeAt dbx 0 [.bool ddx.neg,.slice A1 dl c1,.bool ddx.sep,.slice Yx ddx.frac.length cyx]∧W.cell? ⟨zb,0,none⟩=some (.bool ddx.neg)∧W.cell? ⟨zb,1,none⟩=some (.slice Z ats.length cz)∧W.cell? ⟨dbx,0,none⟩=some (.bool ddx.neg)) (⟨Ext.drew_ (Ext.refl _),HR11.out,c0_,c1_,c2_⟩) (fun hHeld=>?_)
   refine tk_ 0 hHeld ?_
   try simp only [Act.put,sA,sZ,sS]
   refine tk_ 1 hHeld ?_
   try simp only [Act.put,sA,sZ,sS]
   refine tk_ 2 hHeld ?_
   try simp only [Act.put,sA,sZ,sS]
   refine tk_ 3 hHeld ?_
   try simp only [Act.put,sA,sZ,sS]
   refine tk_ 4 hHeld ?_
   try simp only [Act.put,sA,sZ,sS]
   refine tk_ 5 hHeld ?_
   try simp only [Act.put,sA,sZ,sS]
   refine tk_ 6 hHeld ?_
   try simp only [Act.put,sA,sZ,sS]
   refine tk_ 7 hHeld ?_
   try simp only [Act.put,sA,sZ,sS]
   refine tk_ 8 hHeld ?_
   try simp only [Act.put,sA,sZ,sS]
   refine tk_ 9 hHeld ?_
   try simp only [Act.put,sA,sZ,sS]
   refine tk_ 10 hHeld ?_
   try simp only [Act.put,sA,sZ,sS]
   refine tk_ 11 hHeld ?_
   try simp only [Act.put,sA,sZ,sS]
   refine tr_ (cs:=[.bool ddx.neg,.slice A1 dl c1,.bool ddx.sep,.slice Yx ddx.frac.length cyx]) 12 hHeld 43 ((.tmp 13)) dbx (0) (fun _ h=>h.2.1) Tryz.underlying43 infoD14 ?_
   try simp only [Act.put,sA,sZ,sS]
   refine on_ 13 (fun K1 hK1=>?_)
   go_simp
   go_at_call 18
   refine (HAT.out _ (HX11.out.trans hHeld.1)).mono ?_
   rintro e w12 ⟨F,cF,rfl,hrF,hx12⟩
   have HF12:=Lib.hid hrF
   clear hrF
   refine hK1.out _ _ (⟨hHeld.1.trans hx12,Ext.range_ hx12 hHeld.2.1,Ext.cell_ hx12 hHeld.2.2.1,Ext.cell_ hx12 hHeld.2.2.2.1,Ext.cell_ hx12 hHeld.2.2.2.2⟩) (fun hHeld=>?_)
   clear hK1
   try simp only [Act.put,sA,sZ,sS]
   refine on_ 14 (fun K1 hK1=>?_)
   go_simp
   go_at_call 17
   refine (HSM.out _ Z F cz cF (HZ11.out.below hHeld.1 (Nat.le_refl _)) HF12.out).mono ?_
   rintro e w13 ⟨rfl,hx13⟩
   refine hK1.out _ _ (⟨hHeld.1.trans hx13,Ext.range_ hx13 hHeld.2.1,Ext.cell_ hx13 hHeld.2.2.1,Ext.cell_ hx13 hHeld.2.2.2.1,Ext.cell_ hx13 hHeld.2.2.2.2⟩) (fun hHeld=>?_)
   clear hK1
   try simp only [Act.put,sA,sZ,sS]
   refine tk_ 15 hHeld ?_
   try simp only [Act.put,sA,sZ,sS]
   refine tk_ 16 hHeld ?_
   try simp only [Act.put,sA,sZ,sS]
   refine on_ 17 (fun K1 hK1=>?_)
   go_simp
   go_at_call 12
   refine (HLV.out _ (HXW.out.trans (HX11.out.trans hHeld.1))).mono ?_
   rintro e w14 ⟨rfl,hx14⟩
   refine hK1.out _ _ (⟨hHeld.1.trans hx14,Ext.range_ hx14 hHeld.2.1,Ext.cell_ hx14 hHeld.2.2.1,Ext.cell_ hx14 hHeld.2.2.2.1,Ext.cell_ hx14 hHeld.2.2.2.2⟩) (fun hHeld=>?_)
   clear hK1
   try simp only [Act.put,sA,sZ,sS]
   refine tk_ 18 hHeld ?_
   try simp only [Act.put,sA,sZ,sS]
   refine tk_ 19 hHeld ?_
   try simp only [Act.put,sA,sZ,sS]
   refine dn_ ?_
   have HZZ:=Lib.hid hHeld.1
   clear hHeld hx12 hx13 hx14
   go_wp2
   go_ret
   exact ⟨rfl,HXW.out.trans (HX11.out.trans HZZ.out)⟩
end Go.Proofs.YtcghgkagpkmpeaaGreatDoor.Loc
