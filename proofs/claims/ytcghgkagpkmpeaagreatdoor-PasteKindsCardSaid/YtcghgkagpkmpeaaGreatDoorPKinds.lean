/- The law PasteKinds: what a cluster is, is told as the document tells it. (Printed by wip/gen/law18.py.) -/
import Derived.Test.YtcghgkagpkmpeaaGreatDoorJPaW
import Derived.Test.YtcghgkagpkmpeaaGreatDoorPaW8
import Derived.Test.YtcghgkagpkmpeaaGreatDoorSplR
set_option linter.unusedVariables false
set_option linter.unusedSimpArgs false
set_option maxHeartbeats 16000000
namespace Go.Proofs.YtcghgkagpkmpeaaGreatDoor.Loc
open Go.RowKit Utf All Small Strs Build EncC Pat Cls Dec Go.Proofs.YtcghgkagpkmpeaaGreatDoor.Sys
def newK (fs d g m:List UInt8):List Value:=[.string ⟨fs.toArray⟩,.string ⟨#[]⟩,.string ⟨d.toArray⟩,.string ⟨g.toArray⟩,.string ⟨m.toArray⟩,.string ⟨#[46]⟩,.string ⟨#[45]⟩,.string ⟨#[226,136,146]⟩,.string ⟨#[32]⟩,.string ⟨#[49]⟩,.string ⟨#[217,161]⟩,.string ⟨#[120]⟩,.string ⟨#[36]⟩]
def shortV (v:Value):Prop:=∃ sm:List UInt8,v=.string ⟨sm.toArray⟩∧sm.length≤1000
theorem short_strs {L:List (List UInt8)} (h:∀ x ∈ L,x.length≤1000):∀ v ∈ strsV L,shortV v:=by
 intro v hv
 obtain ⟨x,hx,rfl⟩:=List.mem_map.1 hv
 exact ⟨x,rfl,h x hx⟩
set_option maxRecDepth 1000000
theorem law_PasteKinds (v0 v1 v2 v3 v4 v5 n:Int) (s:List UInt8) (w:World) (h0:i64 v0) (h1:i64 v1) (h2:i64 v2) (h3:i64 v3) (h4:i64 v4) (h5:i64 v5) (hn:i64 n) (hs:s.length≤maxLen) (hT:Tabs w) :
  Calls Tryz.prog 3 #[.agg ([.int .i64 v0,.int .i64 v1,.int .i64 v2,.int .i64 v3,.int .i64 v4,.int .i64 v5]:List Value).toArray,.int .i64 n,.string ⟨s.toArray⟩] w fun e w'=>e=.returned (.bool true)∧Below w.heap.size w w':=by
 obtain ⟨r,p,hK,hBG⟩:=begin18_ v0 v1 v2 v3 v4 v5 n h0 h1 h2 h3 h4 h5 hn
 have HK:=Lib.hid hK.knd
 have HBG:=Lib.hid hBG
 have HTW:=Lib.hid hT
 have HFW:Hid (∀ W,Calls Tryz.prog 8 #[.string ⟨s.toArray⟩,.int .i64 12] W fun e w'=>e=.returned (.string ⟨(s.take 12).toArray⟩)∧W=w'):=Lib.hid fun W=>few_l s 12 W hs (by decide)
 have hfl:(s.take 12).length≤12:=by rw [List.length_take];omega
 have HLV:Hid (∀ W,Ext w W→Calls Tryz.prog 12 #[] W fun e w'=>e=.returned (.bool true)∧Ext W w'):=Lib.hid fun W hW=>lives18 W (HTW.out.ext hW)
 have HRG:=Lib.hid (Box.new w 23 [.int .i64 v0,.int .i64 v1,.int .i64 v2,.int .i64 v3,.int .i64 v4,.int .i64 v5]).range
 have HX1:Hid (Ext w (w.alloc (.cells ([.int .i64 v0,.int .i64 v1,.int .i64 v2,.int .i64 v3,.int .i64 v4,.int .i64 v5]:List Value).toArray 23))):=Lib.hid (Ext.alloc_ (Ext.refl _) _)
 clear hK hBG hT h0 h1 h2 h3 h4 h5 hn hs
 go_enter Tryz.func3,Tryz.ntmps3
 go_upto_region 1 with fail
 change Code.wp _ _ _ _ (w.alloc (.cells ([.int .i64 v0,.int .i64 v1,.int .i64 v2,.int .i64 v3,.int .i64 v4,.int .i64 v5]:List Value).toArray 23))
 generalize w.alloc (.cells ([.int .i64 v0,.int .i64 v1,.int .i64 v2,.int .i64 v3,.int .i64 v4,.int .i64 v5]:List Value).toArray 23)=w1 at *
 go_upto_region 2 with (first
  | (refine wpList_load_mid rfl 23 (.tmp 3) rfl w.heap.size 0 rfl [.int .i64 v0,.int .i64 v1,.int .i64 v2,.int .i64 v3,.int .i64 v4,.int .i64 v5] _ HRG.out Tryz.underlying23 rfl infoG ?_)
  | (go_at_call 7;with_reducible refine (HBG.out _ (HTW.out.ext HX1.out)).mono ?_;rintro e wb ⟨g,A,B,C,D,c,d,a,b,rfl,hlw,hxb⟩)
  | (refine wpList_store_fresh rfl 31 (.tmp 8) (.tmp 16) rfl ([.string ⟨r.name.toArray⟩,.string ⟨r.pattern.toArray⟩,.string ⟨r.system.toArray⟩,.string ⟨r.decimal.toArray⟩,.string ⟨r.group.toArray⟩,.string ⟨r.minus.toArray⟩,.string ⟨r.percent.toArray⟩,.string ⟨r.currency.toArray⟩,.slice A p.pre.length c,.slice B p.suf.length d,.slice C p.npre.length a,.slice D p.nsuf.length b,.int .i64 p.num.prim,.int .i64 p.num.sec,.int .i64 p.num.minInt,.int .i64 p.num.minFrac,.int .i64 p.num.maxFrac]:List Value).toArray 31 _ rfl rfl infoRL rfl (refL_one A B C D c d a b r p) ?_))
 have hxc:Ext wb (wb.alloc (.cells ([.string ⟨r.name.toArray⟩,.string ⟨r.pattern.toArray⟩,.string ⟨r.system.toArray⟩,.string ⟨r.decimal.toArray⟩,.string ⟨r.group.toArray⟩,.string ⟨r.minus.toArray⟩,.string ⟨r.percent.toArray⟩,.string ⟨r.currency.toArray⟩,.slice A p.pre.length c,.slice B p.suf.length d,.slice C p.npre.length a,.slice D p.nsuf.length b,.int .i64 p.num.prim,.int .i64 p.num.sec,.int .i64 p.num.minInt,.int .i64 p.num.minFrac,.int .i64 p.num.maxFrac]:List Value).toArray 31)):=Ext.alloc_ (Ext.refl _) _
 have HW:=Lib.hid hlw
 have HXB:=Lib.hid (HX1.out.trans (hxb.trans hxc))
 have HXS:=Lib.hid (hxb.trans hxc)
 clear hlw hxb hxc
 generalize wb.alloc (.cells ([.string ⟨r.name.toArray⟩,.string ⟨r.pattern.toArray⟩,.string ⟨r.system.toArray⟩,.string ⟨r.decimal.toArray⟩,.string ⟨r.group.toArray⟩,.string ⟨r.minus.toArray⟩,.string ⟨r.percent.toArray⟩,.string ⟨r.currency.toArray⟩,.slice A p.pre.length c,.slice B p.suf.length d,.slice C p.npre.length a,.slice D p.nsuf.length b,.int .i64 p.num.prim,.int .i64 p.num.sec,.int .i64 p.num.minInt,.int .i64 p.num.minFrac,.int .i64 p.num.maxFrac]:List Value).toArray 31)=w3 at *
 generalize wb.heap.size=lb at *
 generalize s.take 12=fs at *
 have HSP:Hid (∀ W,Calls Tryz.prog 9 #[.string ⟨fs.toArray⟩] W fun e w'=>∃ S cS,e=.returned (.slice S (splitS fs).length cS)∧Acc 9 1 W w' S cS (splitS fs).length (strsV (splitS fs))):=Lib.hid fun W=>by
  have:=splitr_acc ⟨fs.toArray⟩ W (by rw [sizeL];omega)
  have hd:(⟨fs.toArray⟩:ByteArray).data.toList=fs:=by simp
  rw [hd] at this
  exact this
 have hsn:(splitS fs).length≤12:=Nat.le_trans (split_len_le fs) hfl
 have HSH:Hid (∀ v ∈ strsV (splitS fs),shortV v):=Lib.hid (short_strs fun x hx=>by have:=clus_len hx;omega)
 go_upto_region 5 with (go_at_call 8;with_reducible refine (HFW.out _).mono ?_;rintro e wz ⟨rfl,rfl⟩)
 go_upto_region 6 with (go_at_call 9;with_reducible refine (HSP.out _).mono ?_;rintro e w4 ⟨S,cS,rfl,hac⟩)
 have HAC:=Lib.hid hac
 have HW4:=Lib.hid (HW.out.ext hac.ext)
 have q3:=HW4.out.box.cell (j:=3) (v:=.string ⟨r.decimal.toArray⟩) rfl
 have q4:=HW4.out.box.cell (j:=4) (v:=.string ⟨r.group.toArray⟩) rfl
 have q5:=HW4.out.box.cell (j:=5) (v:=.string ⟨r.minus.toArray⟩) rfl
 clear hac HSP HFW
 generalize strsV (splitS fs)=L0 at *
 generalize (splitS fs).length=n0 at *
 go_upto_region 7 with (at_builtin;refine wp_app ei_str rfl (.tmp 23) (.tmp 34) rfl w3 _ S cS n0 _ rfl HAC.out (newK fs r.decimal r.group r.minus) 13 13 rfl rfl (by simp [newK,Value.oneCell']) (by omega) (by unfold maxLen;omega) ?_;intro A5 c5 w5 hA5 _ _)
 have HSN:Hid (∀ v ∈ newK fs r.decimal r.group r.minus,shortV v):=Lib.hid (by
  intro v hv
  simp only [newK,List.mem_cons,List.not_mem_nil,or_false] at hv
  rcases hv with rfl | rfl | rfl | rfl | rfl | rfl | rfl | rfl | rfl | rfl | rfl | rfl | rfl
  ·exact ⟨fs,rfl,by omega⟩
  ·exact ⟨[],rfl,by decide⟩
  ·exact ⟨r.decimal,rfl,HK.out.both.may.b.dec⟩
  ·exact ⟨r.group,rfl,HK.out.both.may.b.grp⟩
  ·exact ⟨r.minus,rfl,HK.out.both.may.b.min⟩
  ·exact ⟨[46],rfl,by decide⟩
  ·exact ⟨[45],rfl,by decide⟩
  ·exact ⟨[226,136,146],rfl,by decide⟩
  ·exact ⟨[32],rfl,by decide⟩
  ·exact ⟨[49],rfl,by decide⟩
  ·exact ⟨[217,161],rfl,by decide⟩
  ·exact ⟨[120],rfl,by decide⟩
  ·exact ⟨[36],rfl,by decide⟩)
 have HLN:Hid (L0.length=n0):=Lib.hid (by have:=HAC.out.len;omega)
 have HAL:Hid (∀ i,i < n0+13→∃ bx ox,∃ sm:List UInt8,A5=some ⟨bx,ox,none⟩∧w5.cell? ⟨bx,ox+i,none⟩=some (.string ⟨sm.toArray⟩)∧sm.length≤1000):=Lib.hid fun i hi=>by
  have hlen:i < (L0++newK fs r.decimal r.group r.minus).length:=by
   have:=HLN.out
   simp only [newK,List.length_append,List.length_cons,List.length_nil];omega
  obtain ⟨bx,ox,hA,hc⟩:=hA5.row.at_ (k:=i) hlen
  have hm:=List.getElem_mem hlen
  have hsv:shortV (L0++newK fs r.decimal r.group r.minus)[i]:=(List.mem_append.1 hm).elim (HSH.out _) (HSN.out _)
  obtain ⟨sm,he,hsl⟩:=hsv
  exact ⟨bx,ox,sm,hA,hc i _ (by rw [List.getElem?_eq_getElem hlen,he]),hsl⟩
 have HW5:=Lib.hid (HW.out.ext hA5.ext)
 have HX5:=Lib.hid (HXB.out.trans hA5.ext)
 clear hA5 q3 q4 q5 HAC HW4 HSH HSN HLN HW HXB HXS HRG HX1 HBG
 generalize hN:n0+13=N at *
 have hNl:N≤25:=by omega
 clear hN
 go_wp2
 go_loopw [10] (fun i wr=>∃ m:Nat,m≤N∧i=.int .i64 m∧Ext w5 wr) (fun i _=>N - (intOf i).toNat)
 case atStart=>exact ⟨0,Nat.zero_le _,rfl,Ext.refl _⟩
 case round =>
  rename_i wr
  obtain ⟨m,hm,rfl,hx⟩:=hrel
  by_cases hlm:m < N
  ·have k1:(m:Int) < (N:Int):=by omega
   have k2:(0:Int)≤(m:Int):=by omega
   obtain ⟨bx,ox,sm,rfl,hc,hsl⟩:=HAL.out m hlm
   have HKA:Hid (∀ W,Ext w5 W→Calls Tryz.prog 10 #[.pointer (some ⟨g,0,none⟩),.string ⟨sm.toArray⟩] W fun e w'=>e=.returned (.int .i64 (kindF (locOf r p) sm))∧Ext W w'):=Lib.hid fun W hW=>by
    obtain ⟨A',B',C',D',c',d',a',b',hl⟩:=(HW5.out.ext hW).loc
    exact paste_kind g A' B' C' D' c' d' a' b' sm (locOf r p) W hl HK.out.both.may.b HK.out.both.may (HTW.out.ext (HX5.out.trans hW)) (by omega)
   have HKB:=Lib.hid (fun W (hW:Ext w5 W)=>ref18_kind A B C D c d a b sm r p W HK.out (HW5.out.ext hW).pt (by omega))
   have HC:=Lib.hid (Ext.cell_ hx hc)
   have HRL:=Lib.hid (HW5.out.ext hx).range
   have HXM:=Lib.hid hx
   clear hsl hc hx
   have hee:(kindF (locOf r p) sm != kindF (locOf r p) sm)=false:=by simp
   generalize kindF (locOf r p) sm=kk at *
   go_upto_region 10 with fail
   refine rg_ (S:=fun W=>Ext w5 W∧W.rangeAt lb 0 [.string ⟨r.name.toArray⟩,.string ⟨r.pattern.toArray⟩,.string ⟨r.system.toArray⟩,.string ⟨r.decimal.toArray⟩,.string ⟨r.group.toArray⟩,.string ⟨r.minus.toArray⟩,.string ⟨r.percent.toArray⟩,.string ⟨r.currency.toArray⟩,.slice A p.pre.length c,.slice B p.suf.length d,.slice C p.npre.length a,.slice D p.nsuf.length b,.int .i64 p.num.prim,.int .i64 p.num.sec,.int .i64 p.num.minInt,.int .i64 p.num.minFrac,.int .i64 p.num.maxFrac]∧W.cell? ⟨bx,ox+m,none⟩=some (.string ⟨sm.toArray⟩)) (⟨HXM.out.trans (Ext.drew_ (Ext.refl _)),HRL.out,HC.out⟩) (fun hHeld=>?_)
   refine tk_ 0 hHeld ?_
   try simp only [Act.put,sA,sZ,sS]
   refine tk_ 1 hHeld ?_
   try simp only [Act.put,sA,sZ,sS]
   refine tk_ 2 hHeld ?_
   try simp only [Act.put,sA,sZ,sS]
   refine tk_ 3 hHeld ?_
   try simp only [Act.put,sA,sZ,sS]
   refine tk_ 4 hHeld ?_
   try simp only [Act.put,sA,sZ,sS]
   refine tr_ (cs:=[.string ⟨r.name.toArray⟩,.string ⟨r.pattern.toArray⟩,.string ⟨r.system.toArray⟩,.string ⟨r.decimal.toArray⟩,.string ⟨r.group.toArray⟩,.string ⟨r.minus.toArray⟩,.string ⟨r.percent.toArray⟩,.string ⟨r.currency.toArray⟩,.slice A p.pre.length c,.slice B p.suf.length d,.slice C p.npre.length a,.slice D p.nsuf.length b,.int .i64 p.num.prim,.int .i64 p.num.sec,.int .i64 p.num.minInt,.int .i64 p.num.minFrac,.int .i64 p.num.maxFrac]) 6 hHeld 31 ((.tmp 8)) lb (0) (fun _ h=>h.2.1) Tryz.underlying31 infoRL ?_
   try simp only [Act.put,sA,sZ,sS]
   refine tk_ 7 hHeld ?_
   try simp only [Act.put,sA,sZ,sS]
   refine tk_ 8 hHeld ?_
   try simp only [Act.put,sA,sZ,sS]
   refine tk_ 9 hHeld ?_
   try simp only [Act.put,sA,sZ,sS]
   refine tk_ 10 hHeld ?_
   try simp only [Act.put,sA,sZ,sS]
   refine on_ 5 (fun K1 hK1=>?_)
   go_simp
   go_at_call 10
   refine (HKA.out _ hHeld.1).mono ?_
   rintro e w7 ⟨rfl,hx7⟩
   refine hK1.out _ _ (⟨hHeld.1.trans hx7,Ext.range_ hx7 hHeld.2.1,Ext.cell_ hx7 hHeld.2.2⟩) (fun hHeld=>?_)
   clear hK1
   try simp only [Act.put,sA,sZ,sS]
   refine on_ 11 (fun K1 hK1=>?_)
   go_simp
   go_at_call 11
   refine (HKB.out _ hHeld.1).mono ?_
   rintro e w8 ⟨rfl,hx8⟩
   refine hK1.out _ _ (⟨hHeld.1.trans hx8,Ext.range_ hx8 hHeld.2.1,Ext.cell_ hx8 hHeld.2.2⟩) (fun hHeld=>?_)
   clear hK1
   try simp only [Act.put,sA,sZ,sS]
   refine tk_ 12 hHeld ?_
   try simp only [Act.put,sA,sZ,sS]
   refine dn_ ?_
   have HXE:=Lib.hid hHeld.1
   clear hHeld
   go_wp2
   go_roundw
   case rel=>exact ⟨m+1,by omega,by go_num,HXE.out⟩
   case measure=>simp [intOf];omega
  ·have e:m=N:=by omega
   subst e
   have HXL:=Lib.hid (HX5.out.trans hx)
   clear hx
   go_wp2_with (go_at_call 12;with_reducible refine (HLV.out _ HXL.out).mono ?_;rintro e w16 ⟨rfl,hx16⟩)
   go_ret
   exact ⟨rfl,HXL.out.trans hx16⟩
end Go.Proofs.YtcghgkagpkmpeaaGreatDoor.Loc
