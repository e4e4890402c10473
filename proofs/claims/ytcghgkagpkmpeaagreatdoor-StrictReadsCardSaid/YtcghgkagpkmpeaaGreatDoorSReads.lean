/- The law StrictReads: a draft's text is read as it, whatever its noughts, its sign, its separator. (Printed by wip/gen/law17.py.) -/
import Derived.Test.YtcghgkagpkmpeaaGreatDoorStW9
import Derived.Test.YtcghgkagpkmpeaaGreatDoorJPat4
set_option linter.unusedVariables false
set_option linter.unusedSimpArgs false
set_option maxHeartbeats 16000000
namespace Go.Proofs.YtcghgkagpkmpeaaGreatDoor.Loc
open Go.RowKit Utf All Small Strs Build EncC Pat Cls Dec Go.Proofs.YtcghgkagpkmpeaaGreatDoor.Sys
set_option maxRecDepth 1000000
theorem law_StrictReads (v0 v1 v2 v3 v4 v5 n:Int) (A0 B0:Option Addr) (c0 e0:Nat) (d0:Dr) (w:World) (h0:i64 v0) (h1:i64 v1) (h2:i64 v2) (h3:i64 v3) (h4:i64 v4) (h5:i64 v5) (hn:i64 n) (hd:DrR w A0 B0 d0) (hi:DrI d0) (hT:Tabs w) :
  Calls Tryz.prog 5 #[.agg ([.int .i64 v0,.int .i64 v1,.int .i64 v2,.int .i64 v3,.int .i64 v4,.int .i64 v5]:List Value).toArray,.int .i64 n,.agg ([.bool d0.neg,.slice A0 d0.int.length c0,.bool d0.sep,.slice B0 d0.frac.length e0]:List Value).toArray] w fun e w'=>e=.returned (.bool true)∧Below w.heap.size w w':=by
 obtain ⟨r,p,hK,hBG⟩:=begin17_ v0 v1 v2 v3 v4 v5 n h0 h1 h2 h3 h4 h5 hn
 obtain ⟨ddx,hdokx,hdix,hdfx,hGdx,hEx⟩:∃ dd:Dr,DrOk dd∧dd.int.length≤12∧dd.frac.length≤6∧(∀ W,Ext w W→Calls Tryz.prog 13 #[.agg ([.bool d0.neg,.slice A0 d0.int.length c0,.bool d0.sep,.slice B0 d0.frac.length e0]:List Value).toArray,.int .i64 12,.int .i64 6] W fun e w'=>∃ X Y cx cy,e=.returned (.agg ([.bool dd.neg,.slice X dd.int.length cx,.bool dd.sep,.slice Y dd.frac.length cy]:List Value).toArray)∧DrR w' X Y dd∧Okc X cx∧Okc Y cy∧Ext W w')∧dd=goodD d0 12 6 :=
  ⟨goodD d0 12 6,good_ok _ _ _,good_intl d0 12 6,good_fracl d0 12 6,fun W hW=>ref14_good A0 B0 c0 e0 d0 12 6 W (hd.ext hW) hi (by decide) (by decide),rfl⟩
 have HGDx:=Lib.hid hGdx
 have HOKx:=Lib.hid hdokx
 clear hGdx hdokx
 have HK:=Lib.hid hK.knd
 have HBG:=Lib.hid hBG
 have HTW:=Lib.hid hT
 have HLV:Hid (∀ W,Ext w W→Calls Tryz.prog 26 #[] W fun e w'=>e=.returned (.bool true)∧Ext W w'):=Lib.hid fun W hW=>lives17 W (HTW.out.ext hW)
 obtain ⟨b1,b2,hx1⟩:=boxes2 w 23 43 [.int .i64 v0,.int .i64 v1,.int .i64 v2,.int .i64 v3,.int .i64 v4,.int .i64 v5] [.bool d0.neg,.slice A0 d0.int.length c0,.bool d0.sep,.slice B0 d0.frac.length e0]
 have HRG:=Lib.hid b1.range
 have HBA:=Lib.hid b2
 have HX1:=Lib.hid hx1
 clear hK hBG hd hi hT b1 b2 hx1 h0 h1 h2 h3 h4 h5 hn hEx
 go_enter Tryz.func5,Tryz.ntmps5
 go_upto_region 1 with fail
 change Code.wp _ _ _ _ ((w.alloc (.cells ([.int .i64 v0,.int .i64 v1,.int .i64 v2,.int .i64 v3,.int .i64 v4,.int .i64 v5]:List Value).toArray 23)).alloc (.cells ([.bool d0.neg,.slice A0 d0.int.length c0,.bool d0.sep,.slice B0 d0.frac.length e0]:List Value).toArray 43))
 generalize (w.alloc (.cells ([.int .i64 v0,.int .i64 v1,.int .i64 v2,.int .i64 v3,.int .i64 v4,.int .i64 v5]:List Value).toArray 23)).alloc (.cells ([.bool d0.neg,.slice A0 d0.int.length c0,.bool d0.sep,.slice B0 d0.frac.length e0]:List Value).toArray 43)=w1 at *
 go_upto_region 2 with (first
  | (refine wpList_load_mid rfl 23 (.tmp 3) rfl w.heap.size 0 rfl [.int .i64 v0,.int .i64 v1,.int .i64 v2,.int .i64 v3,.int .i64 v4,.int .i64 v5] _ HRG.out Tryz.underlying23 rfl infoG ?_)
  | (go_at_call 19;with_reducible refine (HBG.out _ (HTW.out.ext HX1.out)).mono ?_;rintro e wb ⟨g,A,B,C,D,c,d,a,b,rfl,hlw,hxb⟩)
  | (refine wpList_store_fresh rfl 31 (.tmp 8) (.tmp 20) rfl ([.string ⟨r.name.toArray⟩,.string ⟨r.pattern.toArray⟩,.string ⟨r.system.toArray⟩,.string ⟨r.decimal.toArray⟩,.string ⟨r.group.toArray⟩,.string ⟨r.minus.toArray⟩,.string ⟨r.percent.toArray⟩,.string ⟨r.currency.toArray⟩,.slice A p.pre.length c,.slice B p.suf.length d,.slice C p.npre.length a,.slice D p.nsuf.length b,.int .i64 p.num.prim,.int .i64 p.num.sec,.int .i64 p.num.minInt,.int .i64 p.num.minFrac,.int .i64 p.num.maxFrac]:List Value).toArray 31 _ rfl rfl infoRL rfl (refL_one A B C D c d a b r p) ?_))
 have hxc:Ext wb (wb.alloc (.cells ([.string ⟨r.name.toArray⟩,.string ⟨r.pattern.toArray⟩,.string ⟨r.system.toArray⟩,.string ⟨r.decimal.toArray⟩,.string ⟨r.group.toArray⟩,.string ⟨r.minus.toArray⟩,.string ⟨r.percent.toArray⟩,.string ⟨r.currency.toArray⟩,.slice A p.pre.length c,.slice B p.suf.length d,.slice C p.npre.length a,.slice D p.nsuf.length b,.int .i64 p.num.prim,.int .i64 p.num.sec,.int .i64 p.num.minInt,.int .i64 p.num.minFrac,.int .i64 p.num.maxFrac]:List Value).toArray 31)):=Ext.alloc_ (Ext.refl _) _
 have HW:=Lib.hid hlw
 have HXB:=Lib.hid (HX1.out.trans (hxb.trans hxc))
 have HXS:=Lib.hid (hxb.trans hxc)
 clear hlw hxb hxc
 generalize wb.alloc (.cells ([.string ⟨r.name.toArray⟩,.string ⟨r.pattern.toArray⟩,.string ⟨r.system.toArray⟩,.string ⟨r.decimal.toArray⟩,.string ⟨r.group.toArray⟩,.string ⟨r.minus.toArray⟩,.string ⟨r.percent.toArray⟩,.string ⟨r.currency.toArray⟩,.slice A p.pre.length c,.slice B p.suf.length d,.slice C p.npre.length a,.slice D p.nsuf.length b,.int .i64 p.num.prim,.int .i64 p.num.sec,.int .i64 p.num.minInt,.int .i64 p.num.minFrac,.int .i64 p.num.maxFrac]:List Value).toArray 31)=w3 at *
 generalize wb.heap.size=lb at *
 have HRA:=Lib.hid (HBA.out.ext HXS.out).range
 go_upto_region 5 with (first
  | (refine wpList_load_mid rfl 43 (.tmp 5) rfl (w.heap.size+1) 0 rfl [.bool d0.neg,.slice A0 d0.int.length c0,.bool d0.sep,.slice B0 d0.frac.length e0] _ HRA.out Tryz.underlying43 rfl infoD14 ?_)
  | (go_at_call 13;with_reducible refine (HGDx.out _ HXB.out).mono ?_;rintro e wg ⟨Xx,Yx,cxx,cyx,rfl,hdr,oX,oY,hxg⟩)
  | (refine wpList_store_fresh rfl 43 (.tmp 9) (.tmp 24) rfl ([.bool ddx.neg,.slice Xx ddx.int.length cxx,.bool ddx.sep,.slice Yx ddx.frac.length cyx]:List Value).toArray 43 _ rfl rfl infoD14 rfl (by simp [Value.oneCell']) ?_))
 have HDx:=Lib.hid (Dw.new (T:=43) hdr oX oY)
 have HYx:=Lib.hid (hxg.trans (Ext.alloc_ (Ext.refl wg) (.cells ([.bool ddx.neg,.slice Xx ddx.int.length cxx,.bool ddx.sep,.slice Yx ddx.frac.length cyx]:List Value).toArray 43)))
 clear hdr oX oY hxg
 change Hid (Dw (wg.alloc (.cells ([.bool ddx.neg,.slice Xx ddx.int.length cxx,.bool ddx.sep,.slice Yx ddx.frac.length cyx]:List Value).toArray 43)) wg.heap.size 43 Xx cxx Yx cyx ddx) at HDx
 generalize wg.alloc (.cells ([.bool ddx.neg,.slice Xx ddx.int.length cxx,.bool ddx.sep,.slice Yx ddx.frac.length cyx]:List Value).toArray 43)=w5 at *
 generalize wg.heap.size=dbx at *
 have HX5:=Lib.hid (HXB.out.trans HYx.out)
 have HW5:=Lib.hid (HW.out.ext HYx.out)
 have hta:=text_small HK.out.both ddx
 have hrd:=rd_of HK.out.both HOKx.out
 have hva:=va_of HK.out.both HOKx.out
 have htl:=trim_len ddx.neg (ddx.int++ddx.frac) ddx.frac.length
 rw [List.length_append] at htl
 have HTA:Hid (∀ W,Ext w5 W→Calls Tryz.prog 14 #[.agg ([.string ⟨r.name.toArray⟩,.string ⟨r.pattern.toArray⟩,.string ⟨r.system.toArray⟩,.string ⟨r.decimal.toArray⟩,.string ⟨r.group.toArray⟩,.string ⟨r.minus.toArray⟩,.string ⟨r.percent.toArray⟩,.string ⟨r.currency.toArray⟩,.slice A p.pre.length c,.slice B p.suf.length d,.slice C p.npre.length a,.slice D p.nsuf.length b,.int .i64 p.num.prim,.int .i64 p.num.sec,.int .i64 p.num.minInt,.int .i64 p.num.minFrac,.int .i64 p.num.maxFrac]:List Value).toArray,.agg ([.bool ddx.neg,.slice Xx ddx.int.length cxx,.bool ddx.sep,.slice Yx ddx.frac.length cyx]:List Value).toArray] W fun e w'=>e=.returned (.string ⟨(textI (itemsF (locOf r p) ddx)).toArray⟩)∧Ext W w'):=Lib.hid fun W hW=>(HW5.out.ext hW).rtext HK.out (HDx.out.dr.ext hW) HDx.out.ox HDx.out.oy HOKx.out (by omega) (by omega)
 have HPA:Hid (∀ W,Ext w5 W→Calls Tryz.prog 20 #[.pointer (some ⟨g,0,none⟩),.string ⟨(textI (itemsF (locOf r p) ddx)).toArray⟩] W fun e w'=>∃ X Y cx cy,e=.returned (.tuple #[.agg ([.bool ddx.neg,.slice X ddx.int.length cx,.bool ddx.sep,.slice Y ddx.frac.length cy]:List Value).toArray,.int .i64 0])∧DrR w' X Y ddx∧Okc X cx∧Okc Y cy∧Ext W w'):=Lib.hid fun W hW=>by
  have hh:=(HW5.out.ext hW).parse HK.out (s:=textI (itemsF (locOf r p) ddx)) (by omega)
  rwa [hrd.1,hrd.2] at hh
 have HVA:Hid (∀ W,Ext w5 W→Calls Tryz.prog 21 #[.pointer (some ⟨g,0,none⟩),.string ⟨(textI (itemsF (locOf r p) ddx)).toArray⟩] W fun e w'=>∃ E c',e=.returned (.tuple #[.agg ([.bool (trimF ddx.neg (ddx.int++ddx.frac) ddx.frac.length).1,.slice E (trimF ddx.neg (ddx.int++ddx.frac) ddx.frac.length).2.1.length c',.int .i64 ((trimF ddx.neg (ddx.int++ddx.frac) ddx.frac.length).2.2:Int)]:List Value).toArray,.int .i64 0])∧Row w' E ((trimF ddx.neg (ddx.int++ddx.frac) ddx.frac.length).2.1.map (Value.int .i64))∧Ext W w'):=Lib.hid fun W hW=>by
  have hh:=(HW5.out.ext hW).value HK.out (s:=textI (itemsF (locOf r p) ddx)) (by omega)
  rwa [hva,hrd.2] at hh
 have HIS:Hid (∀ W,Ext w5 W→Calls Tryz.prog 25 #[.pointer (some ⟨g,0,none⟩),.string ⟨(textI (itemsF (locOf r p) ddx)).toArray⟩] W fun e w'=>e=.returned (.bool true)∧Ext W w'):=Lib.hid fun W hW=>by
  have hh:=(HW5.out.ext hW).is HK.out (s:=textI (itemsF (locOf r p) ddx)) (by omega)
  rw [hrd.2] at hh
  exact hh
 have HSM:Hid (∀ W X Y cx cy,Ext w5 W→DrR W X Y ddx→Calls Tryz.prog 22 #[.agg ([.bool ddx.neg,.slice X ddx.int.length cx,.bool ddx.sep,.slice Y ddx.frac.length cy]:List Value).toArray,.agg ([.bool ddx.neg,.slice Xx ddx.int.length cxx,.bool ddx.sep,.slice Yx ddx.frac.length cyx]:List Value).toArray] W fun e w'=>e=.returned (.bool true)∧Ext W w'):=Lib.hid fun W X Y cx cy hW hd=>by
  have hh:=ref14_same X Y Xx Yx cx cy cxx cyx ddx ddx W hd (HDx.out.dr.ext hW) (by unfold maxLen;omega) (by unfold maxLen;omega) (by unfold maxLen;omega) (by unfold maxLen;omega)
  rwa [decide_eq_true rfl] at hh
 have HDC:Hid (∀ W,Ext w5 W→Calls Tryz.prog 24 #[.agg ([.bool ddx.neg,.slice Xx ddx.int.length cxx,.bool ddx.sep,.slice Yx ddx.frac.length cyx]:List Value).toArray] W fun e w'=>∃ E c',e=.returned (.agg ([.bool (trimF ddx.neg (ddx.int++ddx.frac) ddx.frac.length).1,.slice E (trimF ddx.neg (ddx.int++ddx.frac) ddx.frac.length).2.1.length c',.int .i64 ((trimF ddx.neg (ddx.int++ddx.frac) ddx.frac.length).2.2:Int)]:List Value).toArray)∧Row w' E ((trimF ddx.neg (ddx.int++ddx.frac) ddx.frac.length).2.1.map (Value.int .i64))∧Ext W w'):=Lib.hid fun W hW=>ref14_dec Xx Yx cxx cyx ddx W (HDx.out.dr.ext hW) HDx.out.ox HDx.out.oy (by omega) (by omega)
 have HS6:Hid (∀ W E F c' f,Row W E ((trimF ddx.neg (ddx.int++ddx.frac) ddx.frac.length).2.1.map (Value.int .i64))→Row W F ((trimF ddx.neg (ddx.int++ddx.frac) ddx.frac.length).2.1.map (Value.int .i64))→Calls Tryz.prog 23 #[.agg ([.bool (trimF ddx.neg (ddx.int++ddx.frac) ddx.frac.length).1,.slice E (trimF ddx.neg (ddx.int++ddx.frac) ddx.frac.length).2.1.length c',.int .i64 ((trimF ddx.neg (ddx.int++ddx.frac) ddx.frac.length).2.2:Int)]:List Value).toArray,.agg ([.bool (trimF ddx.neg (ddx.int++ddx.frac) ddx.frac.length).1,.slice F (trimF ddx.neg (ddx.int++ddx.frac) ddx.frac.length).2.1.length f,.int .i64 ((trimF ddx.neg (ddx.int++ddx.frac) ddx.frac.length).2.2:Int)]:List Value).toArray] W fun e w'=>e=.returned (.bool true)∧Ext W w'):=Lib.hid fun W E F c' f h1 h2=>by
  have hh:=ref06_same E F c' f (trimF ddx.neg (ddx.int++ddx.frac) ddx.frac.length).1 (trimF ddx.neg (ddx.int++ddx.frac) ddx.frac.length).1 (trimF ddx.neg (ddx.int++ddx.frac) ddx.frac.length).2.1 (trimF ddx.neg (ddx.int++ddx.frac) ddx.frac.length).2.1 (trimF ddx.neg (ddx.int++ddx.frac) ddx.frac.length).2.2 (trimF ddx.neg (ddx.int++ddx.frac) ddx.frac.length).2.2 W h1 h2 (by unfold maxLen;omega) (by unfold maxLen;omega)
  rwa [decide_eq_true rfl,beq_self_eq_true,beq_self_eq_true] at hh
 have HLR5:=Lib.hid HW5.out.range
 have HDR5:=Lib.hid HDx.out.box.range
 clear HW HXB HXS HBA HRG HRA HGDx HBG HX1 hta hrd hva htl
 generalize trimF ddx.neg (ddx.int++ddx.frac) ddx.frac.length=tr at *
 generalize textI (itemsF (locOf r p) ddx)=ta at *
 go_upto_region 6 with (first
  | (refine wpList_load_mid rfl 31 (.tmp 8) rfl lb 0 rfl [.string ⟨r.name.toArray⟩,.string ⟨r.pattern.toArray⟩,.string ⟨r.system.toArray⟩,.string ⟨r.decimal.toArray⟩,.string ⟨r.group.toArray⟩,.string ⟨r.minus.toArray⟩,.string ⟨r.percent.toArray⟩,.string ⟨r.currency.toArray⟩,.slice A p.pre.length c,.slice B p.suf.length d,.slice C p.npre.length a,.slice D p.nsuf.length b,.int .i64 p.num.prim,.int .i64 p.num.sec,.int .i64 p.num.minInt,.int .i64 p.num.minFrac,.int .i64 p.num.maxFrac] _ HLR5.out Tryz.underlying31 rfl infoRL ?_)
  | (refine wpList_load_mid rfl 43 (.tmp 9) rfl dbx 0 rfl [.bool ddx.neg,.slice Xx ddx.int.length cxx,.bool ddx.sep,.slice Yx ddx.frac.length cyx] _ HDR5.out Tryz.underlying43 rfl infoD14 ?_)
  | (go_at_call 14;with_reducible refine (HTA.out _ (Ext.refl _)).mono ?_;rintro e w6 ⟨rfl,hx6⟩))
 go_upto_region 7 with (first
  | (go_at_call 20;with_reducible refine (HPA.out _ hx6).mono ?_;rintro e w7 ⟨X,Y,cx,cy,rfl,hdr,oX,oY,hx7⟩)
  | (refine wpList_store_fresh rfl 55 (.tmp 11) (.tmp 32) rfl ([.bool ddx.neg,.slice X ddx.int.length cx,.bool ddx.sep,.slice Y ddx.frac.length cy]:List Value).toArray 55 _ rfl rfl infoD rfl (by simp [Value.oneCell']) ?_))
 have hb8:=Box.new w7 55 [.bool ddx.neg,.slice X ddx.int.length cx,.bool ddx.sep,.slice Y ddx.frac.length cy]
 have hx8:Ext w7 (w7.alloc (.cells ([.bool ddx.neg,.slice X ddx.int.length cx,.bool ddx.sep,.slice Y ddx.frac.length cy]:List Value).toArray 55)):=Ext.alloc_ (Ext.refl _) _
 have HX8:=Lib.hid (hx6.trans (hx7.trans hx8))
 have HD8:=Lib.hid (hdr.ext hx8)
 have HB8:=Lib.hid hb8
 clear hdr oX oY hx6 hx7 hx8 hb8
 generalize w7.alloc (.cells ([.bool ddx.neg,.slice X ddx.int.length cx,.bool ddx.sep,.slice Y ddx.frac.length cy]:List Value).toArray 55)=w8 at *
 generalize w7.heap.size=xb at *
 go_upto_region 8 with (first
  | (go_at_call 21;with_reducible refine (HVA.out _ HX8.out).mono ?_;rintro e w9 ⟨E,cE,rfl,hrE,hx9⟩)
  | (refine wpList_store_fresh rfl 59 (.tmp 13) (.tmp 38) rfl ([.bool tr.1,.slice E tr.2.1.length cE,.int .i64 (tr.2.2:Int)]:List Value).toArray 59 _ rfl rfl infoDec rfl (by simp [Value.oneCell']) ?_))
 have hb10:=Box.new w9 59 ([.bool tr.1,.slice E tr.2.1.length cE,.int .i64 (tr.2.2:Int)]:List Value)
 have hx10:Ext w9 (w9.alloc (.cells ([.bool tr.1,.slice E tr.2.1.length cE,.int .i64 (tr.2.2:Int)]:List Value).toArray 59)):=Ext.alloc_ (Ext.refl _) _
 have HX10:=Lib.hid (HX8.out.trans (hx9.trans hx10))
 have HD10:=Lib.hid (HD8.out.ext (hx9.trans hx10))
 have HB10:=Lib.hid (HB8.out.ext (hx9.trans hx10)).range
 have HV10:=Lib.hid hb10.range
 have HE10:=Lib.hid (hrE.below hx10 (Nat.le_refl _))
 have HR10:=Lib.hid (Ext.range_ HX10.out HDR5.out)
 clear hrE hx9 hx10 hb10
 generalize w9.alloc (.cells ([.bool tr.1,.slice E tr.2.1.length cE,.int .i64 (tr.2.2:Int)]:List Value).toArray 59)=w10 at *
 generalize w9.heap.size=vb at *
 refine rg_ (S:=fun W=>Ext w10 W∧W.rangeAt xb 0 [.bool ddx.neg,.slice X ddx.int.length cx,.bool ddx.sep,.slice Y ddx.frac.length cy]∧W.rangeAt dbx 0 [.bool ddx.neg,.slice Xx ddx.int.length cxx,.bool ddx.sep,.slice Yx ddx.frac.length cyx]∧W.rangeAt vb 0 ([.bool tr.1,.slice E tr.2.1.length cE,.int .i64 (tr.2.2:Int)]:List Value)) (⟨Ext.drew_ (Ext.refl _),HB10.out,HR10.out,HV10.out⟩) (fun hHeld=>?_)
 refine tk_ 0 hHeld ?_
 try simp only [Act.put,sA,sZ,sS]
 refine tk_ 1 hHeld ?_
 try simp only [Act.put,sA,sZ,sS]
 refine tk_ 2 hHeld ?_
 try simp only [Act.put,sA,sZ,sS]
 refine tr_ (cs:=[.bool ddx.neg,.slice X ddx.int.length cx,.bool ddx.sep,.slice Y ddx.frac.length cy]) 3 hHeld 55 ((.tmp 11)) xb (0) (fun _ h=>h.2.1) Tryz.underlying55 infoD ?_
 try simp only [Act.put,sA,sZ,sS]
 refine tr_ (cs:=[.bool ddx.neg,.slice Xx ddx.int.length cxx,.bool ddx.sep,.slice Yx ddx.frac.length cyx]) 4 hHeld 43 ((.tmp 9)) dbx (0) (fun _ h=>h.2.2.1) Tryz.underlying43 infoD14 ?_
 try simp only [Act.put,sA,sZ,sS]
 refine on_ 5 (fun K1 hK1=>?_)
 go_simp
 go_at_call 22
 refine (HSM.out _ X Y cx cy (HX10.out.trans hHeld.1) (HD10.out.ext hHeld.1)).mono ?_
 rintro e w11 ⟨rfl,hx11⟩
 refine hK1.out _ _ (⟨hHeld.1.trans hx11,Ext.range_ hx11 hHeld.2.1,Ext.range_ hx11 hHeld.2.2.1,Ext.range_ hx11 hHeld.2.2.2⟩) (fun hHeld=>?_)
 clear hK1
 try simp only [Act.put,sA,sZ,sS]
 refine tk_ 6 hHeld ?_
 try simp only [Act.put,sA,sZ,sS]
 refine tk_ 7 hHeld ?_
 try simp only [Act.put,sA,sZ,sS]
 refine tk_ 8 hHeld ?_
 try simp only [Act.put,sA,sZ,sS]
 refine tk_ 9 hHeld ?_
 try simp only [Act.put,sA,sZ,sS]
 refine tk_ 10 hHeld ?_
 try simp only [Act.put,sA,sZ,sS]
 refine tk_ 11 hHeld ?_
 try simp only [Act.put,sA,sZ,sS]
 refine tr_ (cs:=([.bool tr.1,.slice E tr.2.1.length cE,.int .i64 (tr.2.2:Int)]:List Value)) 12 hHeld 59 ((.tmp 13)) vb (0) (fun _ h=>h.2.2.2) Tryz.underlying59 infoDec ?_
 try simp only [Act.put,sA,sZ,sS]
 refine tr_ (cs:=[.bool ddx.neg,.slice Xx ddx.int.length cxx,.bool ddx.sep,.slice Yx ddx.frac.length cyx]) 13 hHeld 43 ((.tmp 9)) dbx (0) (fun _ h=>h.2.2.1) Tryz.underlying43 infoD14 ?_
 try simp only [Act.put,sA,sZ,sS]
 refine on_ 14 (fun K1 hK1=>?_)
 go_simp
 go_at_call 24
 refine (HDC.out _ (HX10.out.trans hHeld.1)).mono ?_
 rintro e w12 ⟨F,f,rfl,hrF,hx12⟩
 have HF12:=Lib.hid hrF
 clear hrF
 refine hK1.out _ _ (⟨hHeld.1.trans hx12,Ext.range_ hx12 hHeld.2.1,Ext.range_ hx12 hHeld.2.2.1,Ext.range_ hx12 hHeld.2.2.2⟩) (fun hHeld=>?_)
 clear hK1
 try simp only [Act.put,sA,sZ,sS]
 refine on_ 15 (fun K1 hK1=>?_)
 go_simp
 go_at_call 23
 refine (HS6.out _ E F cE f (HE10.out.below hHeld.1 (Nat.le_refl _)) HF12.out).mono ?_
 rintro e w13 ⟨rfl,hx13⟩
 refine hK1.out _ _ (⟨hHeld.1.trans hx13,Ext.range_ hx13 hHeld.2.1,Ext.range_ hx13 hHeld.2.2.1,Ext.range_ hx13 hHeld.2.2.2⟩) (fun hHeld=>?_)
 clear hK1
 try simp only [Act.put,sA,sZ,sS]
 refine tk_ 16 hHeld ?_
 try simp only [Act.put,sA,sZ,sS]
 refine tk_ 17 hHeld ?_
 try simp only [Act.put,sA,sZ,sS]
 refine tk_ 18 hHeld ?_
 try simp only [Act.put,sA,sZ,sS]
 refine tk_ 19 hHeld ?_
 try simp only [Act.put,sA,sZ,sS]
 refine on_ 20 (fun K1 hK1=>?_)
 go_simp
 go_at_call 25
 refine (HIS.out _ (HX10.out.trans hHeld.1)).mono ?_
 rintro e w14 ⟨rfl,hx14⟩
 refine hK1.out _ _ (⟨hHeld.1.trans hx14,Ext.range_ hx14 hHeld.2.1,Ext.range_ hx14 hHeld.2.2.1,Ext.range_ hx14 hHeld.2.2.2⟩) (fun hHeld=>?_)
 clear hK1
 try simp only [Act.put,sA,sZ,sS]
 refine tk_ 21 hHeld ?_
 try simp only [Act.put,sA,sZ,sS]
 refine tk_ 22 hHeld ?_
 try simp only [Act.put,sA,sZ,sS]
 refine on_ 23 (fun K1 hK1=>?_)
 go_simp
 go_at_call 26
 refine (HLV.out _ (HX5.out.trans (HX10.out.trans hHeld.1))).mono ?_
 rintro e w15 ⟨rfl,hx15⟩
 refine hK1.out _ _ (⟨hHeld.1.trans hx15,Ext.range_ hx15 hHeld.2.1,Ext.range_ hx15 hHeld.2.2.1,Ext.range_ hx15 hHeld.2.2.2⟩) (fun hHeld=>?_)
 clear hK1
 try simp only [Act.put,sA,sZ,sS]
 refine tk_ 24 hHeld ?_
 try simp only [Act.put,sA,sZ,sS]
 refine tk_ 25 hHeld ?_
 try simp only [Act.put,sA,sZ,sS]
 refine dn_ ?_
 have HZ:=Lib.hid hHeld.1
 clear hHeld hx11 hx12 hx13 hx14 hx15
 go_wp2
 go_ret
 exact ⟨rfl,HX5.out.trans (HX10.out.trans HZ.out)⟩
end Go.Proofs.YtcghgkagpkmpeaaGreatDoor.Loc
