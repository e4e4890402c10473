/- The law StrictItems: a text's items are its draft's, or there are none. (Printed by wip/gen/law17.py.) -/
import Derived.Test.YtcghgkagpkmpeaaGreatDoorStW9
import Derived.Test.YtcghgkagpkmpeaaGreatDoorItEq
import Derived.Test.YtcghgkagpkmpeaaGreatDoorJPat4
set_option linter.unusedVariables false
set_option linter.unusedSimpArgs false
set_option maxHeartbeats 16000000
namespace Go.Proofs.YtcghgkagpkmpeaaGreatDoor.Loc
open Go.RowKit Utf All Small Strs Build EncC Pat Cls Dec Go.Proofs.YtcghgkagpkmpeaaGreatDoor.Sys
set_option maxRecDepth 1000000
theorem law_StrictItems (v0 v1 v2 v3 v4 v5 n:Int) (A0 B0:Option Addr) (c0 e0:Nat) (d0:Dr) (s:List UInt8) (w:World) (h0:i64 v0) (h1:i64 v1) (h2:i64 v2) (h3:i64 v3) (h4:i64 v4) (h5:i64 v5) (hn:i64 n) (hd:DrR w A0 B0 d0) (hi:DrI d0) (hs:s.length≤maxLen) (hT:Tabs w) :
  Calls Tryz.prog 6 #[.agg ([.int .i64 v0,.int .i64 v1,.int .i64 v2,.int .i64 v3,.int .i64 v4,.int .i64 v5]:List Value).toArray,.int .i64 n,.agg ([.bool d0.neg,.slice A0 d0.int.length c0,.bool d0.sep,.slice B0 d0.frac.length e0]:List Value).toArray,.string ⟨s.toArray⟩] w fun e w'=>e=.returned (.bool true)∧Below w.heap.size w w':=by
 obtain ⟨r,p,hK,hBG⟩:=begin17_ v0 v1 v2 v3 v4 v5 n h0 h1 h2 h3 h4 h5 hn
 obtain ⟨ddx,hdokx,hdix,hdfx,hGdx,hEx⟩:∃ dd:Dr,DrOk dd∧dd.int.length≤10∧dd.frac.length≤5∧(∀ W,Ext w W→Calls Tryz.prog 13 #[.agg ([.bool d0.neg,.slice A0 d0.int.length c0,.bool d0.sep,.slice B0 d0.frac.length e0]:List Value).toArray,.int .i64 10,.int .i64 5] W fun e w'=>∃ X Y cx cy,e=.returned (.agg ([.bool dd.neg,.slice X dd.int.length cx,.bool dd.sep,.slice Y dd.frac.length cy]:List Value).toArray)∧DrR w' X Y dd∧Okc X cx∧Okc Y cy∧Ext W w')∧dd=goodD d0 10 5 :=
  ⟨goodD d0 10 5,good_ok _ _ _,good_intl d0 10 5,good_fracl d0 10 5,fun W hW=>ref14_good A0 B0 c0 e0 d0 10 5 W (hd.ext hW) hi (by decide) (by decide),rfl⟩
 have HGDx:=Lib.hid hGdx
 have HOKx:=Lib.hid hdokx
 clear hGdx hdokx
 have HK:=Lib.hid hK.knd
 have HBG:=Lib.hid hBG
 have HTW:=Lib.hid hT
 have HFW:Hid (∀ W,Calls Tryz.prog 8 #[.string ⟨s.toArray⟩,.int .i64 20] W fun e w'=>e=.returned (.string ⟨(s.take 20).toArray⟩)∧W=w'):=Lib.hid fun W=>few_l s 20 W hs (by decide)
 have HLV:Hid (∀ W,Ext w W→Calls Tryz.prog 26 #[] W fun e w'=>e=.returned (.bool true)∧Ext W w'):=Lib.hid fun W hW=>lives17 W (HTW.out.ext hW)
 obtain ⟨b1,b2,hx1⟩:=boxes2 w 23 43 [.int .i64 v0,.int .i64 v1,.int .i64 v2,.int .i64 v3,.int .i64 v4,.int .i64 v5] [.bool d0.neg,.slice A0 d0.int.length c0,.bool d0.sep,.slice B0 d0.frac.length e0]
 have HRG:=Lib.hid b1.range
 have HBD:=Lib.hid b2
 have HX1:=Lib.hid hx1
 clear hK hBG hd hi hT b1 b2 hx1 h0 h1 h2 h3 h4 h5 hn hEx hs
 go_enter Tryz.func6,Tryz.ntmps6
 go_upto_region 1 with fail
 change Code.wp _ _ _ _ ((w.alloc (.cells ([.int .i64 v0,.int .i64 v1,.int .i64 v2,.int .i64 v3,.int .i64 v4,.int .i64 v5]:List Value).toArray 23)).alloc (.cells ([.bool d0.neg,.slice A0 d0.int.length c0,.bool d0.sep,.slice B0 d0.frac.length e0]:List Value).toArray 43))
 generalize (w.alloc (.cells ([.int .i64 v0,.int .i64 v1,.int .i64 v2,.int .i64 v3,.int .i64 v4,.int .i64 v5]:List Value).toArray 23)).alloc (.cells ([.bool d0.neg,.slice A0 d0.int.length c0,.bool d0.sep,.slice B0 d0.frac.length e0]:List Value).toArray 43)=w1 at *
 go_upto_region 2 with (first
  | (refine wpList_load_mid rfl 23 (.tmp 4) rfl w.heap.size 0 rfl [.int .i64 v0,.int .i64 v1,.int .i64 v2,.int .i64 v3,.int .i64 v4,.int .i64 v5] _ HRG.out Tryz.underlying23 rfl infoG ?_)
  | (go_at_call 19;with_reducible refine (HBG.out _ (HTW.out.ext HX1.out)).mono ?_;rintro e wb ⟨g,A,B,C,D,c,d,a,b,rfl,hlw,hxb⟩)
  | (refine wpList_store_fresh rfl 31 (.tmp 10) (.tmp 27) rfl ([.string ⟨r.name.toArray⟩,.string ⟨r.pattern.toArray⟩,.string ⟨r.system.toArray⟩,.string ⟨r.decimal.toArray⟩,.string ⟨r.group.toArray⟩,.string ⟨r.minus.toArray⟩,.string ⟨r.percent.toArray⟩,.string ⟨r.currency.toArray⟩,.slice A p.pre.length c,.slice B p.suf.length d,.slice C p.npre.length a,.slice D p.nsuf.length b,.int .i64 p.num.prim,.int .i64 p.num.sec,.int .i64 p.num.minInt,.int .i64 p.num.minFrac,.int .i64 p.num.maxFrac]:List Value).toArray 31 _ rfl rfl infoRL rfl (refL_one A B C D c d a b r p) ?_))
 have hxc:Ext wb (wb.alloc (.cells ([.string ⟨r.name.toArray⟩,.string ⟨r.pattern.toArray⟩,.string ⟨r.system.toArray⟩,.string ⟨r.decimal.toArray⟩,.string ⟨r.group.toArray⟩,.string ⟨r.minus.toArray⟩,.string ⟨r.percent.toArray⟩,.string ⟨r.currency.toArray⟩,.slice A p.pre.length c,.slice B p.suf.length d,.slice C p.npre.length a,.slice D p.nsuf.length b,.int .i64 p.num.prim,.int .i64 p.num.sec,.int .i64 p.num.minInt,.int .i64 p.num.minFrac,.int .i64 p.num.maxFrac]:List Value).toArray 31)):=Ext.alloc_ (Ext.refl _) _
 have HW:=Lib.hid hlw
 have HXB:=Lib.hid (HX1.out.trans (hxb.trans hxc))
 have HXS:=Lib.hid (hxb.trans hxc)
 clear hlw hxb hxc
 generalize wb.alloc (.cells ([.string ⟨r.name.toArray⟩,.string ⟨r.pattern.toArray⟩,.string ⟨r.system.toArray⟩,.string ⟨r.decimal.toArray⟩,.string ⟨r.group.toArray⟩,.string ⟨r.minus.toArray⟩,.string ⟨r.percent.toArray⟩,.string ⟨r.currency.toArray⟩,.slice A p.pre.length c,.slice B p.suf.length d,.slice C p.npre.length a,.slice D p.nsuf.length b,.int .i64 p.num.prim,.int .i64 p.num.sec,.int .i64 p.num.minInt,.int .i64 p.num.minFrac,.int .i64 p.num.maxFrac]:List Value).toArray 31)=w3 at *
 generalize wb.heap.size=lb at *
 have HRD:=Lib.hid (HBD.out.ext HXS.out).range
 go_upto_region 5 with (go_at_call 8;with_reducible refine (HFW.out _).mono ?_;rintro e wz ⟨rfl,rfl⟩)
 go_upto_region 6 with (first
  | (refine wpList_load_mid rfl 43 (.tmp 6) rfl (w.heap.size+1) 0 rfl [.bool d0.neg,.slice A0 d0.int.length c0,.bool d0.sep,.slice B0 d0.frac.length e0] _ HRD.out Tryz.underlying43 rfl infoD14 ?_)
  | (go_at_call 13;with_reducible refine (HGDx.out _ HXB.out).mono ?_;rintro e wg ⟨Xx,Yx,cxx,cyx,rfl,hdr,oX,oY,hxg⟩)
  | (refine wpList_store_fresh rfl 43 (.tmp 11) (.tmp 33) rfl ([.bool ddx.neg,.slice Xx ddx.int.length cxx,.bool ddx.sep,.slice Yx ddx.frac.length cyx]:List Value).toArray 43 _ rfl rfl infoD14 rfl (by simp [Value.oneCell']) ?_))
 have HDx:=Lib.hid (Dw.new (T:=43) hdr oX oY)
 have HYx:=Lib.hid (hxg.trans (Ext.alloc_ (Ext.refl wg) (.cells ([.bool ddx.neg,.slice Xx ddx.int.length cxx,.bool ddx.sep,.slice Yx ddx.frac.length cyx]:List Value).toArray 43)))
 clear hdr oX oY hxg
 change Hid (Dw (wg.alloc (.cells ([.bool ddx.neg,.slice Xx ddx.int.length cxx,.bool ddx.sep,.slice Yx ddx.frac.length cyx]:List Value).toArray 43)) wg.heap.size 43 Xx cxx Yx cyx ddx) at HDx
 generalize wg.alloc (.cells ([.bool ddx.neg,.slice Xx ddx.int.length cxx,.bool ddx.sep,.slice Yx ddx.frac.length cyx]:List Value).toArray 43)=w6 at *
 generalize wg.heap.size=dbx at *
 have HX6:=Lib.hid (HXB.out.trans HYx.out)
 have HLA:=Lib.hid (HW.out.ext HYx.out)
 clear HW HBG HGDx HRG HRD HBD HX1 HXB HXS HYx HFW
 have hta:=text_small HK.out.both ddx
 have hrd:=rd_of HK.out.both HOKx.out
 have hil:=items_le HK.out.both (d:=ddx) (by omega) (by omega)
 have hsl:(s.take 20).length≤5000:=by rw [List.length_take];omega
 have hsm:=rd_small HK.out.both hsl
 have hrk:=rd_ok HK.out.both (s.take 20)
 have htl:=trim_len (rdD (locOf r p) (s.take 20)).neg ((rdD (locOf r p) (s.take 20)).int++(rdD (locOf r p) (s.take 20)).frac) (rdD (locOf r p) (s.take 20)).frac.length
 rw [List.length_append] at htl
 have HTA:Hid (∀ W,Ext w6 W→Calls Tryz.prog 14 #[.agg ([.string ⟨r.name.toArray⟩,.string ⟨r.pattern.toArray⟩,.string ⟨r.system.toArray⟩,.string ⟨r.decimal.toArray⟩,.string ⟨r.group.toArray⟩,.string ⟨r.minus.toArray⟩,.string ⟨r.percent.toArray⟩,.string ⟨r.currency.toArray⟩,.slice A p.pre.length c,.slice B p.suf.length d,.slice C p.npre.length a,.slice D p.nsuf.length b,.int .i64 p.num.prim,.int .i64 p.num.sec,.int .i64 p.num.minInt,.int .i64 p.num.minFrac,.int .i64 p.num.maxFrac]:List Value).toArray,.agg ([.bool ddx.neg,.slice Xx ddx.int.length cxx,.bool ddx.sep,.slice Yx ddx.frac.length cyx]:List Value).toArray] W fun e w'=>e=.returned (.string ⟨(textI (itemsF (locOf r p) ddx)).toArray⟩)∧Ext W w'):=Lib.hid fun W hW=>(HLA.out.ext hW).rtext HK.out (HDx.out.dr.ext hW) HDx.out.ox HDx.out.oy HOKx.out (by omega) (by omega)
 have HIA:Hid (∀ W,Ext w6 W→Calls Tryz.prog 27 #[.pointer (some ⟨g,0,none⟩),.string ⟨(textI (itemsF (locOf r p) ddx)).toArray⟩] W fun e w'=>∃ E cE,e=.returned (.tuple #[.slice E (itemsF (locOf r p) ddx).length cE,.int .i64 0])∧Row w' E (itsV (itemsF (locOf r p) ddx))∧Ext W w'):=Lib.hid fun W hW=>by
  have hh:=(HLA.out.ext hW).its HK.out (s:=textI (itemsF (locOf r p) ddx)) (by omega)
  have e2:siL (locOf r p) (textI (itemsF (locOf r p) ddx))=itemsF (locOf r p) ddx:=by unfold siL;rw [hrd.1,hrd.2,if_pos rfl]
  rwa [e2,hrd.2] at hh
 have HIB:Hid (∀ W,Ext w6 W→Calls Tryz.prog 27 #[.pointer (some ⟨g,0,none⟩),.string ⟨(s.take 20).toArray⟩] W fun e w'=>∃ E cE,e=.returned (.tuple #[.slice E (siL (locOf r p) (s.take 20)).length cE,.int .i64 (rdE (locOf r p) (s.take 20))])∧Ext W w'):=Lib.hid fun W hW=>((HLA.out.ext hW).its HK.out hsl).mono fun e w' ⟨E,cE,h1,_,h2⟩=>⟨E,cE,h1,h2⟩
 have HVB:Hid (∀ W,Ext w6 W→Calls Tryz.prog 21 #[.pointer (some ⟨g,0,none⟩),.string ⟨(s.take 20).toArray⟩] W fun e w'=>∃ E cE,e=.returned (.tuple #[.agg ([.bool (vaF (locOf r p) (s.take 20)).1,.slice E (vaF (locOf r p) (s.take 20)).2.1.length cE,.int .i64 ((vaF (locOf r p) (s.take 20)).2.2:Int)]:List Value).toArray,.int .i64 (rdE (locOf r p) (s.take 20))])∧Row w' E ((vaF (locOf r p) (s.take 20)).2.1.map (Value.int .i64))∧Ext W w'):=Lib.hid fun W hW=>(HLA.out.ext hW).value HK.out hsl
 have HPB:Hid (∀ W,Ext w6 W→Calls Tryz.prog 28 #[.agg ([.string ⟨r.name.toArray⟩,.string ⟨r.pattern.toArray⟩,.string ⟨r.system.toArray⟩,.string ⟨r.decimal.toArray⟩,.string ⟨r.group.toArray⟩,.string ⟨r.minus.toArray⟩,.string ⟨r.percent.toArray⟩,.string ⟨r.currency.toArray⟩,.slice A p.pre.length c,.slice B p.suf.length d,.slice C p.npre.length a,.slice D p.nsuf.length b,.int .i64 p.num.prim,.int .i64 p.num.sec,.int .i64 p.num.minInt,.int .i64 p.num.minFrac,.int .i64 p.num.maxFrac]:List Value).toArray,.string ⟨(s.take 20).toArray⟩] W fun e w'=>∃ X Y cx cy,e=.returned (.tuple #[.agg ([.bool (rdD (locOf r p) (s.take 20)).neg,.slice X (rdD (locOf r p) (s.take 20)).int.length cx,.bool (rdD (locOf r p) (s.take 20)).sep,.slice Y (rdD (locOf r p) (s.take 20)).frac.length cy]:List Value).toArray,.int .i64 (rdE (locOf r p) (s.take 20))])∧DrR w' X Y (rdD (locOf r p) (s.take 20))∧Okc X cx∧Okc Y cy∧Ext W w'):=Lib.hid fun W hW=>(HLA.out.ext hW).rparse HK.out hsl
 have HRI:Hid (∀ W,Ext w6 W→Calls Tryz.prog 29 #[.agg ([.string ⟨r.name.toArray⟩,.string ⟨r.pattern.toArray⟩,.string ⟨r.system.toArray⟩,.string ⟨r.decimal.toArray⟩,.string ⟨r.group.toArray⟩,.string ⟨r.minus.toArray⟩,.string ⟨r.percent.toArray⟩,.string ⟨r.currency.toArray⟩,.slice A p.pre.length c,.slice B p.suf.length d,.slice C p.npre.length a,.slice D p.nsuf.length b,.int .i64 p.num.prim,.int .i64 p.num.sec,.int .i64 p.num.minInt,.int .i64 p.num.minFrac,.int .i64 p.num.maxFrac]:List Value).toArray,.agg ([.bool ddx.neg,.slice Xx ddx.int.length cxx,.bool ddx.sep,.slice Yx ddx.frac.length cyx]:List Value).toArray] W fun e w'=>∃ E c',e=.returned (.slice E (itemsF (locOf r p) ddx).length c')∧Row w' E (itsV (itemsF (locOf r p) ddx))∧Ext W w'):=Lib.hid fun W hW =>
  (ref15_items5 A B C D Xx Yx c d a b cxx cyx ddx r p W HK.out.both HK.out.num (HLA.out.pt.ext hW) HLA.out.cap (HDx.out.dr.ext hW) HDx.out.ox HDx.out.oy HOKx.out (by omega) (by omega)).mono fun e w' ⟨E,c',h1,h2⟩=>⟨E,c',h1,h2.row,h2.ext⟩
 have HRJ:Hid (∀ W X Y cx cy,Ext w6 W→DrR W X Y (rdD (locOf r p) (s.take 20))→Okc X cx→Okc Y cy→Calls Tryz.prog 29 #[.agg ([.string ⟨r.name.toArray⟩,.string ⟨r.pattern.toArray⟩,.string ⟨r.system.toArray⟩,.string ⟨r.decimal.toArray⟩,.string ⟨r.group.toArray⟩,.string ⟨r.minus.toArray⟩,.string ⟨r.percent.toArray⟩,.string ⟨r.currency.toArray⟩,.slice A p.pre.length c,.slice B p.suf.length d,.slice C p.npre.length a,.slice D p.nsuf.length b,.int .i64 p.num.prim,.int .i64 p.num.sec,.int .i64 p.num.minInt,.int .i64 p.num.minFrac,.int .i64 p.num.maxFrac]:List Value).toArray,.agg ([.bool (rdD (locOf r p) (s.take 20)).neg,.slice X (rdD (locOf r p) (s.take 20)).int.length cx,.bool (rdD (locOf r p) (s.take 20)).sep,.slice Y (rdD (locOf r p) (s.take 20)).frac.length cy]:List Value).toArray] W fun e w'=>∃ E c',e=.returned (.slice E (itemsF (locOf r p) (rdD (locOf r p) (s.take 20))).length c')∧Ext W w'):=Lib.hid fun W X Y cx cy hW hd ox oy =>
  (ref15_items5 A B C D X Y c d a b cx cy (rdD (locOf r p) (s.take 20)) r p W HK.out.both HK.out.num (HLA.out.pt.ext hW) HLA.out.cap hd ox oy hrk (by omega) (by omega)).mono fun e w' ⟨E,c',h1,h2⟩=>⟨E,c',h1,h2.ext⟩
 have HDC:Hid (∀ W X Y cx cy,DrR W X Y (rdD (locOf r p) (s.take 20))→Okc X cx→Okc Y cy→Calls Tryz.prog 24 #[.agg ([.bool (rdD (locOf r p) (s.take 20)).neg,.slice X (rdD (locOf r p) (s.take 20)).int.length cx,.bool (rdD (locOf r p) (s.take 20)).sep,.slice Y (rdD (locOf r p) (s.take 20)).frac.length cy]:List Value).toArray] W fun e w'=>∃ E c',e=.returned (.agg ([.bool (trimF (rdD (locOf r p) (s.take 20)).neg ((rdD (locOf r p) (s.take 20)).int++(rdD (locOf r p) (s.take 20)).frac) (rdD (locOf r p) (s.take 20)).frac.length).1,.slice E (trimF (rdD (locOf r p) (s.take 20)).neg ((rdD (locOf r p) (s.take 20)).int++(rdD (locOf r p) (s.take 20)).frac) (rdD (locOf r p) (s.take 20)).frac.length).2.1.length c',.int .i64 ((trimF (rdD (locOf r p) (s.take 20)).neg ((rdD (locOf r p) (s.take 20)).int++(rdD (locOf r p) (s.take 20)).frac) (rdD (locOf r p) (s.take 20)).frac.length).2.2:Int)]:List Value).toArray)∧Row w' E ((trimF (rdD (locOf r p) (s.take 20)).neg ((rdD (locOf r p) (s.take 20)).int++(rdD (locOf r p) (s.take 20)).frac) (rdD (locOf r p) (s.take 20)).frac.length).2.1.map (Value.int .i64))∧Ext W w'):=Lib.hid fun W X Y cx cy hd ox oy=>ref14_dec X Y cx cy (rdD (locOf r p) (s.take 20)) W hd ox oy (by omega) (by omega)
 have HS6:Hid (∀ W E F c' f,Row W E ((trimF (rdD (locOf r p) (s.take 20)).neg ((rdD (locOf r p) (s.take 20)).int++(rdD (locOf r p) (s.take 20)).frac) (rdD (locOf r p) (s.take 20)).frac.length).2.1.map (Value.int .i64))→Row W F ((trimF (rdD (locOf r p) (s.take 20)).neg ((rdD (locOf r p) (s.take 20)).int++(rdD (locOf r p) (s.take 20)).frac) (rdD (locOf r p) (s.take 20)).frac.length).2.1.map (Value.int .i64))→Calls Tryz.prog 23 #[.agg ([.bool (trimF (rdD (locOf r p) (s.take 20)).neg ((rdD (locOf r p) (s.take 20)).int++(rdD (locOf r p) (s.take 20)).frac) (rdD (locOf r p) (s.take 20)).frac.length).1,.slice E (trimF (rdD (locOf r p) (s.take 20)).neg ((rdD (locOf r p) (s.take 20)).int++(rdD (locOf r p) (s.take 20)).frac) (rdD (locOf r p) (s.take 20)).frac.length).2.1.length c',.int .i64 ((trimF (rdD (locOf r p) (s.take 20)).neg ((rdD (locOf r p) (s.take 20)).int++(rdD (locOf r p) (s.take 20)).frac) (rdD (locOf r p) (s.take 20)).frac.length).2.2:Int)]:List Value).toArray,.agg ([.bool (trimF (rdD (locOf r p) (s.take 20)).neg ((rdD (locOf r p) (s.take 20)).int++(rdD (locOf r p) (s.take 20)).frac) (rdD (locOf r p) (s.take 20)).frac.length).1,.slice F (trimF (rdD (locOf r p) (s.take 20)).neg ((rdD (locOf r p) (s.take 20)).int++(rdD (locOf r p) (s.take 20)).frac) (rdD (locOf r p) (s.take 20)).frac.length).2.1.length f,.int .i64 ((trimF (rdD (locOf r p) (s.take 20)).neg ((rdD (locOf r p) (s.take 20)).int++(rdD (locOf r p) (s.take 20)).frac) (rdD (locOf r p) (s.take 20)).frac.length).2.2:Int)]:List Value).toArray] W fun e w'=>e=.returned (.bool true)∧Ext W w'):=Lib.hid fun W E F c' f h1 h2=>by
  have hh:=ref06_same E F c' f (trimF (rdD (locOf r p) (s.take 20)).neg ((rdD (locOf r p) (s.take 20)).int++(rdD (locOf r p) (s.take 20)).frac) (rdD (locOf r p) (s.take 20)).frac.length).1 (trimF (rdD (locOf r p) (s.take 20)).neg ((rdD (locOf r p) (s.take 20)).int++(rdD (locOf r p) (s.take 20)).frac) (rdD (locOf r p) (s.take 20)).frac.length).1 (trimF (rdD (locOf r p) (s.take 20)).neg ((rdD (locOf r p) (s.take 20)).int++(rdD (locOf r p) (s.take 20)).frac) (rdD (locOf r p) (s.take 20)).frac.length).2.1 (trimF (rdD (locOf r p) (s.take 20)).neg ((rdD (locOf r p) (s.take 20)).int++(rdD (locOf r p) (s.take 20)).frac) (rdD (locOf r p) (s.take 20)).frac.length).2.1 (trimF (rdD (locOf r p) (s.take 20)).neg ((rdD (locOf r p) (s.take 20)).int++(rdD (locOf r p) (s.take 20)).frac) (rdD (locOf r p) (s.take 20)).frac.length).2.2 (trimF (rdD (locOf r p) (s.take 20)).neg ((rdD (locOf r p) (s.take 20)).int++(rdD (locOf r p) (s.take 20)).frac) (rdD (locOf r p) (s.take 20)).frac.length).2.2 W h1 h2 (by unfold maxLen;omega) (by unfold maxLen;omega)
  rwa [decide_eq_true rfl,beq_self_eq_true,beq_self_eq_true] at hh
 have HSI:Hid (siL (locOf r p) (s.take 20)=if rdE (locOf r p) (s.take 20)=0 then itemsF (locOf r p) (rdD (locOf r p) (s.take 20)) else []):=Lib.hid rfl
 have HVF:Hid (vaF (locOf r p) (s.take 20)=if rdE (locOf r p) (s.take 20)=0 then trimF (rdD (locOf r p) (s.take 20)).neg ((rdD (locOf r p) (s.take 20)).int++(rdD (locOf r p) (s.take 20)).frac) (rdD (locOf r p) (s.take 20)).frac.length else (false,[],0)):=Lib.hid rfl
 have hNl:(itemsF (locOf r p) ddx).length≤2400:=hil.1
 have HLAR:=Lib.hid HLA.out.range
 have HDR:=Lib.hid HDx.out.box.range
 clear hta hrd hil hsl hsm hrk htl
 generalize siL (locOf r p) (s.take 20)=sb at *
 generalize vaF (locOf r p) (s.take 20)=va at *
 generalize rdE (locOf r p) (s.take 20)=re at *
 generalize itemsF (locOf r p) (rdD (locOf r p) (s.take 20))=Lx at *
 generalize trimF (rdD (locOf r p) (s.take 20)).neg ((rdD (locOf r p) (s.take 20)).int++(rdD (locOf r p) (s.take 20)).frac) (rdD (locOf r p) (s.take 20)).frac.length=tr at *
 generalize (rdD (locOf r p) (s.take 20))=rd at *
 generalize s.take 20=s2 at *
 generalize textI (itemsF (locOf r p) ddx)=ta at *
 generalize itemsF (locOf r p) ddx=L at *
 generalize hN:L.length=N at *
 have HN:=Lib.hid hN
 clear hN
 go_upto_region 7 with (first
  | (refine wpList_load_mid rfl 31 (.tmp 10) rfl lb 0 rfl [.string ⟨r.name.toArray⟩,.string ⟨r.pattern.toArray⟩,.string ⟨r.system.toArray⟩,.string ⟨r.decimal.toArray⟩,.string ⟨r.group.toArray⟩,.string ⟨r.minus.toArray⟩,.string ⟨r.percent.toArray⟩,.string ⟨r.currency.toArray⟩,.slice A p.pre.length c,.slice B p.suf.length d,.slice C p.npre.length a,.slice D p.nsuf.length b,.int .i64 p.num.prim,.int .i64 p.num.sec,.int .i64 p.num.minInt,.int .i64 p.num.minFrac,.int .i64 p.num.maxFrac] _ HLAR.out Tryz.underlying31 rfl infoRL ?_)
  | (refine wpList_load_mid rfl 43 (.tmp 11) rfl dbx 0 rfl [.bool ddx.neg,.slice Xx ddx.int.length cxx,.bool ddx.sep,.slice Yx ddx.frac.length cyx] _ HDR.out Tryz.underlying43 rfl infoD14 ?_)
  | (go_at_call 14;with_reducible refine (HTA.out _ (Ext.refl _)).mono ?_;rintro e w7 ⟨rfl,hx7⟩)
  | (go_at_call 27;with_reducible refine (HIA.out _ hx7).mono ?_;rintro e w8 ⟨E,cE,rfl,hrE,hx8⟩))
 have HX8:=Lib.hid (hx7.trans hx8)
 have HE8:=Lib.hid hrE
 clear hx7 hx8 hrE
 go_upto_region 8 with (go_at_call 27;with_reducible refine (HIB.out _ HX8.out).mono ?_;rintro e w9 ⟨G,cG,rfl,hx9⟩)
 have HX9:=Lib.hid (HX8.out.trans hx9)
 have HE9:=Lib.hid (HE8.out.below hx9 (Nat.le_refl _))
 clear hx9
 go_upto_region 9 with (first
  | (go_at_call 21;with_reducible refine (HVB.out _ HX9.out).mono ?_;rintro e w10 ⟨V,cV,rfl,hrV,hx10⟩)
  | (refine wpList_store_fresh rfl 59 (.tmp 16) (.tmp 52) rfl ([.bool va.1,.slice V va.2.1.length cV,.int .i64 (va.2.2:Int)]:List Value).toArray 59 _ rfl rfl infoDec rfl (by simp [Value.oneCell']) ?_))
 have hb11:=Box.new w10 59 ([.bool va.1,.slice V va.2.1.length cV,.int .i64 (va.2.2:Int)]:List Value)
 have hx11:Ext w10 (w10.alloc (.cells ([.bool va.1,.slice V va.2.1.length cV,.int .i64 (va.2.2:Int)]:List Value).toArray 59)):=Ext.alloc_ (Ext.refl _) _
 have HX11:=Lib.hid (HX9.out.trans (hx10.trans hx11))
 have HE11:=Lib.hid (HE9.out.below (hx10.trans hx11) (Nat.le_refl _))
 have HV11:=Lib.hid hb11
 have HRV11:=Lib.hid (hrV.below hx11 (Nat.le_refl _))
 have HL11:=Lib.hid (Ext.range_ HX11.out HLAR.out)
 clear hb11 hx10 hx11 hrV
 generalize w10.alloc (.cells ([.bool va.1,.slice V va.2.1.length cV,.int .i64 (va.2.2:Int)]:List Value).toArray 59)=w11 at *
 generalize w10.heap.size=vb at *
 go_upto_region 10 with (first
  | (refine wpList_load_mid rfl 31 (.tmp 10) rfl lb 0 rfl [.string ⟨r.name.toArray⟩,.string ⟨r.pattern.toArray⟩,.string ⟨r.system.toArray⟩,.string ⟨r.decimal.toArray⟩,.string ⟨r.group.toArray⟩,.string ⟨r.minus.toArray⟩,.string ⟨r.percent.toArray⟩,.string ⟨r.currency.toArray⟩,.slice A p.pre.length c,.slice B p.suf.length d,.slice C p.npre.length a,.slice D p.nsuf.length b,.int .i64 p.num.prim,.int .i64 p.num.sec,.int .i64 p.num.minInt,.int .i64 p.num.minFrac,.int .i64 p.num.maxFrac] _ HL11.out Tryz.underlying31 rfl infoRL ?_)
  | (go_at_call 28;with_reducible refine (HPB.out _ HX11.out).mono ?_;rintro e w12 ⟨X,Y,cx,cy,rfl,hdr,oX,oY,hx12⟩)
  | (refine wpList_store_fresh rfl 43 (.tmp 18) (.tmp 58) rfl ([.bool rd.neg,.slice X rd.int.length cx,.bool rd.sep,.slice Y rd.frac.length cy]:List Value).toArray 43 _ rfl rfl infoD14 rfl (by simp [Value.oneCell']) ?_))
 have HDP:=Lib.hid (Dw.new (T:=43) hdr oX oY)
 change Hid (Dw (w12.alloc (.cells ([.bool rd.neg,.slice X rd.int.length cx,.bool rd.sep,.slice Y rd.frac.length cy]:List Value).toArray 43)) w12.heap.size 43 X cx Y cy rd) at HDP
 have hx13:Ext w11 (w12.alloc (.cells ([.bool rd.neg,.slice X rd.int.length cx,.bool rd.sep,.slice Y rd.frac.length cy]:List Value).toArray 43)):=hx12.trans (Ext.alloc_ (Ext.refl _) _)
 have HX13:=Lib.hid (HX11.out.trans hx13)
 have HE13:=Lib.hid (HE11.out.below hx13 (Nat.le_refl _))
 have HV13:=Lib.hid (HV11.out.ext hx13)
 have HRV13:=Lib.hid (HRV11.out.below hx13 (Nat.le_refl _))
 have HL13:=Lib.hid (Ext.range_ HX13.out HLAR.out)
 have HD13:=Lib.hid (Ext.range_ HX13.out HDR.out)
 clear hdr oX oY hx12 hx13 HX8 HX9 HE8 HE9 HE11 HV11 HRV11 HL11 HX11
 generalize w12.alloc (.cells ([.bool rd.neg,.slice X rd.int.length cx,.bool rd.sep,.slice Y rd.frac.length cy]:List Value).toArray 43)=w13 at *
 generalize w12.heap.size=dbp at *
 go_upto_region 11 with (first
  | (refine wpList_load_mid rfl 31 (.tmp 10) rfl lb 0 rfl [.string ⟨r.name.toArray⟩,.string ⟨r.pattern.toArray⟩,.string ⟨r.system.toArray⟩,.string ⟨r.decimal.toArray⟩,.string ⟨r.group.toArray⟩,.string ⟨r.minus.toArray⟩,.string ⟨r.percent.toArray⟩,.string ⟨r.currency.toArray⟩,.slice A p.pre.length c,.slice B p.suf.length d,.slice C p.npre.length a,.slice D p.nsuf.length b,.int .i64 p.num.prim,.int .i64 p.num.sec,.int .i64 p.num.minInt,.int .i64 p.num.minFrac,.int .i64 p.num.maxFrac] _ HL13.out Tryz.underlying31 rfl infoRL ?_)
  | (refine wpList_load_mid rfl 43 (.tmp 11) rfl dbx 0 rfl [.bool ddx.neg,.slice Xx ddx.int.length cxx,.bool ddx.sep,.slice Yx ddx.frac.length cyx] _ HD13.out Tryz.underlying43 rfl infoD14 ?_)
  | (go_at_call 29;with_reducible refine (HRI.out _ HX13.out).mono ?_;rintro e w14 ⟨F,cF,rfl,hrF,hx14⟩))
 have HX14:=Lib.hid (HX13.out.trans hx14)
 have HE14:=Lib.hid (HE13.out.below hx14 (Nat.le_refl _))
 have HF14:=Lib.hid hrF
 have HV14:=Lib.hid (HV13.out.ext hx14)
 have HRV14:=Lib.hid (HRV13.out.below hx14 (Nat.le_refl _))
 have HDP14:=Lib.hid (HDP.out.ext hx14)
 clear hrF hx14 HE13 HV13 HRV13 HL13 HD13 HX13 HDP
 have z1:((N:Int) != (N:Int))=false:=by simp
 have z2:(re != re)=false:=by simp
 go_upto_region 14 with fail
 clear z1 z2
 go_loopw [21] (fun i wr=>∃ k:Nat,k≤N∧i=.int .i64 k∧Ext w14 wr) (fun i _=>N - (intOf i).toNat)
 case atStart=>exact ⟨0,Nat.zero_le _,rfl,Ext.refl _⟩
 case round =>
  obtain ⟨k,hk,rfl,hx⟩:=hrel
  by_cases hlt:k < N
  ·have hkq:k < L.length:=by have:=HN.out;omega
   obtain ⟨bx,ox,rfl,hg1⟩:=row_it (HE14.out.below hx (Nat.le_refl _)) hkq
   obtain ⟨by_,oy,rfl,hg2⟩:=row_it (HF14.out.below hx (Nat.le_refl _)) hkq
   generalize L[k]=x at *
   have i1:(k:Int) < (N:Int):=by omega
   have i2:(0:Int)≤(k:Int):=by omega
   have hnp:=fun w=>neq_it x w
   have hgd:∀ (o1 o2:Operand) (w:World),(eqGuard .neq 76 o1 o2 (.agg #[.int .i64 x.1,.string ⟨x.2.1.toArray⟩,.int .i64 x.2.2]) (.agg #[.int .i64 x.1,.string ⟨x.2.1.toArray⟩,.int .i64 x.2.2])).run Tryz.prog w=.ok () w:=fun _ _ w=>run_eqGuard_agg w .neq 76 _ _ _ _ riGuard
   have HX:=Lib.hid hx
   clear hx
   go_upto_region 16 with fail
   refine rg_ (S:=fun W=>Ext wr W∧W.rangeAt bx (ox+k * 3) [.int .i64 x.1,.string ⟨x.2.1.toArray⟩,.int .i64 x.2.2]∧W.rangeAt by_ (oy+k * 3) [.int .i64 x.1,.string ⟨x.2.1.toArray⟩,.int .i64 x.2.2]) (⟨Ext.drew_ (Ext.refl _),hg1,hg2⟩) (fun hHeld=>?_)
   refine tk_ 0 hHeld ?_
   try simp only [Act.put,sA,sZ,sS]
   refine tk_ 1 hHeld ?_
   try simp only [Act.put,sA,sZ,sS]
   refine tk_ 2 hHeld ?_
   try simp only [Act.put,sA,sZ,sS]
   refine tr_ (cs:=[.int .i64 x.1,.string ⟨x.2.1.toArray⟩,.int .i64 x.2.2]) 3 hHeld 77 ((.tmp 90)) bx ((ox+k * 3)) (fun _ h=>h.2.1) Tryz.underlying77 infoIt ?_
   try simp only [Act.put,sA,sZ,sS]
   refine tk_ 4 hHeld ?_
   try simp only [Act.put,sA,sZ,sS]
   refine tk_ 5 hHeld ?_
   try simp only [Act.put,sA,sZ,sS]
   refine tk_ 6 hHeld ?_
   try simp only [Act.put,sA,sZ,sS]
   refine tr_ (cs:=[.int .i64 x.1,.string ⟨x.2.1.toArray⟩,.int .i64 x.2.2]) 7 hHeld 76 ((.tmp 94)) by_ ((oy+k * 3)) (fun _ h=>h.2.2) Tryz.underlying76 infoRi ?_
   try simp only [Act.put,sA,sZ,sS]
   refine tk_ 8 hHeld ?_
   try simp only [Act.put,sA,sZ,sS]
   refine dn_ ?_
   have HH:=Lib.hid hHeld.1
   clear hHeld
   go_wp2
   go_roundw
   case rel=>exact ⟨k+1,by omega,by go_num,HX.out.trans HH.out⟩
   case measure=>simp [intOf];omega
  ·have e:k=N:=by omega
   subst e
   have i1:¬ ((k:Int) < (k:Int)):=by omega
   have HX:=Lib.hid hx
   have HXW:=Lib.hid (HX14.out.trans hx)
   have HV15:=Lib.hid (HV14.out.ext hx)
   have HRV15:=Lib.hid (HRV14.out.below hx (Nat.le_refl _))
   have HDP15:=Lib.hid (HDP14.out.ext hx)
   have HL15:=Lib.hid (Ext.range_ HXW.out HLAR.out)
   clear hx
   by_cases h0:re=0
   ·have hsb:sb=Lx:=by rw [HSI.out,if_pos h0]
    have hva:va=tr:=by rw [HVF.out,if_pos h0]
    have j1:(re != 0)=false:=by simpa using h0
    subst hsb
    subst hva
    clear h0 HSI HVF
    go_upto_region 20 with fail
    have z3:((sb.length:Int) == (sb.length:Int))=true:=by simp
    refine rg_ (S:=fun W=>Ext wr W∧W.rangeAt lb 0 [.string ⟨r.name.toArray⟩,.string ⟨r.pattern.toArray⟩,.string ⟨r.system.toArray⟩,.string ⟨r.decimal.toArray⟩,.string ⟨r.group.toArray⟩,.string ⟨r.minus.toArray⟩,.string ⟨r.percent.toArray⟩,.string ⟨r.currency.toArray⟩,.slice A p.pre.length c,.slice B p.suf.length d,.slice C p.npre.length a,.slice D p.nsuf.length b,.int .i64 p.num.prim,.int .i64 p.num.sec,.int .i64 p.num.minInt,.int .i64 p.num.minFrac,.int .i64 p.num.maxFrac]∧W.rangeAt dbp 0 [.bool rd.neg,.slice X rd.int.length cx,.bool rd.sep,.slice Y rd.frac.length cy]∧W.rangeAt vb 0 ([.bool va.1,.slice V va.2.1.length cV,.int .i64 (va.2.2:Int)]:List Value)) (⟨Ext.drew_ (Ext.refl _),HL15.out,HDP15.out.box.range,HV15.out.range⟩) (fun hHeld=>?_)
    refine tk_ 0 hHeld ?_
    try simp only [Act.put,sA,sZ,sS]
    refine tk_ 1 hHeld ?_
    try simp only [Act.put,sA,sZ,sS]
    refine tr_ (cs:=[.string ⟨r.name.toArray⟩,.string ⟨r.pattern.toArray⟩,.string ⟨r.system.toArray⟩,.string ⟨r.decimal.toArray⟩,.string ⟨r.group.toArray⟩,.string ⟨r.minus.toArray⟩,.string ⟨r.percent.toArray⟩,.string ⟨r.currency.toArray⟩,.slice A p.pre.length c,.slice B p.suf.length d,.slice C p.npre.length a,.slice D p.nsuf.length b,.int .i64 p.num.prim,.int .i64 p.num.sec,.int .i64 p.num.minInt,.int .i64 p.num.minFrac,.int .i64 p.num.maxFrac]) 2 hHeld 31 ((.tmp 10)) lb (0) (fun _ h=>h.2.1) Tryz.underlying31 infoRL ?_
    try simp only [Act.put,sA,sZ,sS]
    refine tr_ (cs:=[.bool rd.neg,.slice X rd.int.length cx,.bool rd.sep,.slice Y rd.frac.length cy]) 3 hHeld 43 ((.tmp 18)) dbp (0) (fun _ h=>h.2.2.1) Tryz.underlying43 infoD14 ?_
    try simp only [Act.put,sA,sZ,sS]
    refine on_ 4 (fun K1 hK1=>?_)
    go_simp
    go_at_call 29
    refine (HRJ.out _ X Y cx cy (HXW.out.trans hHeld.1) (HDP15.out.ext hHeld.1).dr HDP15.out.ox HDP15.out.oy).mono ?_
    rintro e w16 ⟨H,cH,rfl,hx16⟩
    refine hK1.out _ _ (⟨hHeld.1.trans hx16,Ext.range_ hx16 hHeld.2.1,Ext.range_ hx16 hHeld.2.2.1,Ext.range_ hx16 hHeld.2.2.2⟩) (fun hHeld=>?_)
    clear hK1
    try simp only [Act.put,sA,sZ,sS]
    refine tk_ 5 hHeld ?_
    try simp only [Act.put,sA,sZ,sS]
    refine tk_ 6 hHeld ?_
    try simp only [Act.put,sA,sZ,sS]
    refine tk_ 7 hHeld ?_
    try simp only [Act.put,sA,sZ,sS]
    refine tr_ (cs:=([.bool va.1,.slice V va.2.1.length cV,.int .i64 (va.2.2:Int)]:List Value)) 8 hHeld 59 ((.tmp 16)) vb (0) (fun _ h=>h.2.2.2) Tryz.underlying59 infoDec ?_
    try simp only [Act.put,sA,sZ,sS]
    refine tr_ (cs:=[.bool rd.neg,.slice X rd.int.length cx,.bool rd.sep,.slice Y rd.frac.length cy]) 9 hHeld 43 ((.tmp 18)) dbp (0) (fun _ h=>h.2.2.1) Tryz.underlying43 infoD14 ?_
    try simp only [Act.put,sA,sZ,sS]
    refine on_ 10 (fun K1 hK1=>?_)
    go_simp
    go_at_call 24
    refine (HDC.out _ X Y cx cy (HDP15.out.ext hHeld.1).dr HDP15.out.ox HDP15.out.oy).mono ?_
    rintro e w17 ⟨K,cK,rfl,hrK,hx17⟩
    have HK17:=Lib.hid hrK
    clear hrK
    refine hK1.out _ _ (⟨hHeld.1.trans hx17,Ext.range_ hx17 hHeld.2.1,Ext.range_ hx17 hHeld.2.2.1,Ext.range_ hx17 hHeld.2.2.2⟩) (fun hHeld=>?_)
    clear hK1
    try simp only [Act.put,sA,sZ,sS]
    refine on_ 11 (fun K1 hK1=>?_)
    go_simp
    go_at_call 23
    refine (HS6.out _ V K cV cK (HRV15.out.below hHeld.1 (Nat.le_refl _)) HK17.out).mono ?_
    rintro e w18 ⟨rfl,hx18⟩
    refine hK1.out _ _ (⟨hHeld.1.trans hx18,Ext.range_ hx18 hHeld.2.1,Ext.range_ hx18 hHeld.2.2.1,Ext.range_ hx18 hHeld.2.2.2⟩) (fun hHeld=>?_)
    clear hK1
    try simp only [Act.put,sA,sZ,sS]
    refine tk_ 12 hHeld ?_
    try simp only [Act.put,sA,sZ,sS]
    refine tk_ 13 hHeld ?_
    try simp only [Act.put,sA,sZ,sS]
    refine on_ 14 (fun K1 hK1=>?_)
    go_simp
    go_at_call 26
    refine (HLV.out _ (HX6.out.trans (HXW.out.trans hHeld.1))).mono ?_
    rintro e w19 ⟨rfl,hx19⟩
    refine hK1.out _ _ (⟨hHeld.1.trans hx19,Ext.range_ hx19 hHeld.2.1,Ext.range_ hx19 hHeld.2.2.1,Ext.range_ hx19 hHeld.2.2.2⟩) (fun hHeld=>?_)
    clear hK1
    try simp only [Act.put,sA,sZ,sS]
    refine tk_ 15 hHeld ?_
    try simp only [Act.put,sA,sZ,sS]
    refine tk_ 16 hHeld ?_
    try simp only [Act.put,sA,sZ,sS]
    refine dn_ ?_
    have HZ:=Lib.hid hHeld.1
    clear hHeld hx16 hx17 hx18 hx19
    go_wp2
    go_ret
    exact ⟨rfl,HX6.out.trans (HXW.out.trans HZ.out)⟩
   ·have hsb:sb=[]:=by rw [HSI.out,if_neg h0]
    have hva:va=(false,[],0):=by rw [HVF.out,if_neg h0]
    have j1:(re != 0)=true:=by simpa using h0
    subst hsb
    subst hva
    have q1:=HV15.out.cell (j:=1) (v:=.slice V 0 cV) rfl
    have HXQ:=Lib.hid (HX6.out.trans HXW.out)
    clear h0 HSI HVF
    go_wp2_with (go_at_call 26;with_reducible refine (HLV.out _ HXQ.out).mono ?_;rintro e w16 ⟨rfl,hx16⟩)
    go_ret
    exact ⟨rfl,HXQ.out.trans hx16⟩
end Go.Proofs.YtcghgkagpkmpeaaGreatDoor.Loc
