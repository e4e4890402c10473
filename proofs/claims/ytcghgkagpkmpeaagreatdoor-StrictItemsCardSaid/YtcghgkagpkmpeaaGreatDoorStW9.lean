/- Walk: strict.Value. -/
import Derived.Test.YtcghgkagpkmpeaaGreatDoorStDe4
import Derived.Test.YtcghgkagpkmpeaaGreatDoorJStX
set_option linter.unusedVariables false
set_option linter.unusedSimpArgs false
set_option maxHeartbeats 4000000
namespace Go.Proofs.YtcghgkagpkmpeaaGreatDoor.Loc
open Go.RowKit Utf All Small Strs Build EncC Pat Cls Dec Go.Proofs.YtcghgkagpkmpeaaGreatDoor.Sys
def vaF (l:Loc) (s:List UInt8):Bool × List Int × Nat:=if rdE l s=0 then trimF (rdD l s).neg ((rdD l s).int++(rdD l s).frac) (rdD l s).frac.length else (false,[],0)
theorem trim_len (n:Bool) (l:List Int) (s:Nat):(trimF n l s).2.1.length≤l.length:=by
 unfold trimF
 split
 ·exact Nat.zero_le _
 ·have h1:=(tailF_le s (leadF l)).2
  have h2:(leadF l).length≤l.length:=by unfold leadF;rw [List.length_drop];omega
  exact Nat.le_trans h1 h2
theorem va_of {r:Rec} {p:Pt} (h:Both r p) {d:Dr} (hd:DrOk d):vaF (locOf r p) (textI (itemsF (locOf r p) d))=trimF d.neg (d.int++d.frac) d.frac.length:=by
 obtain ⟨h1,h2⟩:=rd_of h hd
 unfold vaF
 rw [h1,h2,if_pos rfl]
set_option maxRecDepth 100000
theorem strict_value (g:Nat) (A B C D:Option Addr) (c d a b:Nat) (s:List UInt8) (r:Rec) (p:Pt) (w:World) (h:LocR w g A B C D c d a b (locOf r p)) (hK:Knd r p) (hl:s.length≤5000) :
  Calls Tryz.prog 21 #[.pointer (some ⟨g,0,none⟩),.string ⟨s.toArray⟩] w fun e w'=>∃ E cE,e=.returned (.tuple #[.agg ([.bool (vaF (locOf r p) s).1,.slice E (vaF (locOf r p) s).2.1.length cE,.int .i64 ((vaF (locOf r p) s).2.2:Int)]:List Value).toArray,.int .i64 (rdE (locOf r p) s)])∧Row w' E ((vaF (locOf r p) s).2.1.map (Value.int .i64))∧Ext w w':=by
 have hx0:Ext w (w.alloc (.cells zeroN.toArray 59)):=Ext.alloc_ (Ext.refl w) _
 have hb0:=Box.new w 59 zeroN
 have HP:=Lib.hid (strict_parse g A B C D c d a b s r p _ (h.ext hx0) hK hl)
 have hsm:=rd_small hK.both hl
 have HDC:Hid (∀ W X Y cx cy,DrR W X Y (rdD (locOf r p) s)→Okc X cx→Okc Y cy→Calls Tryz.prog 51 #[.agg (drV X cx Y cy (rdD (locOf r p) s)).toArray] W fun e w'=>∃ E c',e=.returned (.agg ([.bool (trimF (rdD (locOf r p) s).neg ((rdD (locOf r p) s).int++(rdD (locOf r p) s).frac) (rdD (locOf r p) s).frac.length).1,.slice E (trimF (rdD (locOf r p) s).neg ((rdD (locOf r p) s).int++(rdD (locOf r p) s).frac) (rdD (locOf r p) s).frac.length).2.1.length c',.int .i64 ((trimF (rdD (locOf r p) s).neg ((rdD (locOf r p) s).int++(rdD (locOf r p) s).frac) (rdD (locOf r p) s).frac.length).2.2:Int)]:List Value).toArray)∧Row w' E ((trimF (rdD (locOf r p) s).neg ((rdD (locOf r p) s).int++(rdD (locOf r p) s).frac) (rdD (locOf r p) s).frac.length).2.1.map (Value.int .i64))∧Ext W w'∧Fresh W E):=Lib.hid fun W X Y cx cy hd ox oy =>
  draft_dec X Y cx cy _ W hd ox oy (by omega) (by omega)
 have HL:Hid (vaF (locOf r p) s=if rdE (locOf r p) s=0 then trimF (rdD (locOf r p) s).neg ((rdD (locOf r p) s).int++(rdD (locOf r p) s).frac) (rdD (locOf r p) s).frac.length else (false,[],0)):=Lib.hid rfl
 have HX0:=Lib.hid hx0
 have HB0:=Lib.hid hb0
 clear h hK hl hsm hx0 hb0
 generalize vaF (locOf r p) s=va at *
 generalize trimF (rdD (locOf r p) s).neg ((rdD (locOf r p) s).int++(rdD (locOf r p) s).frac) (rdD (locOf r p) s).frac.length=tr at *
 generalize rdD (locOf r p) s=dd at *
 generalize rdE (locOf r p) s=ee at *
 go_enter Tryz.func21,Tryz.ntmps21
 go_upto_region 1 with fail
 change Code.wp _ _ _ _ (w.alloc (.cells zeroN.toArray 59))
 generalize w.alloc (.cells zeroN.toArray 59)=w0 at *
 go_upto_region 2 with (first
  | (go_at_call 20;with_reducible refine HP.out.mono ?_;rintro e w1 ⟨X,Y,cx,cy,rfl,hdr,oX,oY,hx1⟩)
  | (refine wpList_store_fresh rfl 55 (.tmp 6) (.tmp 12) rfl (drV X cx Y cy dd).toArray 55 _ rfl rfl infoD rfl (by simp [Value.oneCell',drV]) ?_))
 have hb2:=Box.new w1 55 (drV X cx Y cy dd)
 have hx2:Ext w1 (w1.alloc (.cells (drV X cx Y cy dd).toArray 55)):=Ext.alloc_ (Ext.refl _) _
 have HB2:=Lib.hid (HB0.out.ext (hx1.trans hx2))
 have HX2:=Lib.hid (HX0.out.trans (hx1.trans hx2))
 have HDR:=Lib.hid (HDC.out _ X Y cx cy (hdr.ext hx2) oX oY)
 have HRG:=Lib.hid hb2.range
 clear hb2 hx1 hx2 hdr oX oY HDC
 generalize w1.alloc (.cells (drV X cx Y cy dd).toArray 55)=w2 at *
 generalize w1.heap.size=bb at *
 by_cases he:ee=0
 ·have HL2:Hid (va=tr):=Lib.hid (by rw [HL.out,if_pos he])
  have HE:=Lib.hid he
  have HSZ:=Lib.hid HB2.out.lt
  have i1:(ee != 0)=false:=by simpa using he
  clear he
  go_wp2_with (first
   | (refine wpList_load_mid rfl 55 (.tmp 6) rfl bb 0 rfl (drV X cx Y cy dd) _ HRG.out Tryz.underlying55 rfl infoD ?_)
   | (go_at_call 51;with_reducible refine HDR.out.mono ?_;rintro e w3 ⟨F,f,rfl,hrF,hx3,hfF⟩;have HB3:=Lib.hid (HB2.out.ext hx3);have HR3:=Lib.hid hrF;have HX3:=Lib.hid (HX2.out.trans hx3);have HF3:=Lib.hid hfF;clear hrF hx3 hfF)
   | (refine wpList_store_row rfl 59 (.tmp 4) (.tmp 19) rfl w.heap.size ([.bool tr.1,.slice F tr.2.1.length f,.int .i64 (tr.2.2:Int)]:List Value).toArray rfl rfl _ _ HB3.out infoDec rfl (by simp [Value.oneCell']) ?_))
  have hb9:=HB3.out.set ([.bool tr.1,.slice F tr.2.1.length f,.int .i64 (tr.2.2:Int)]:List Value).toArray
  refine bodyPost_ret (v:=.tuple #[.agg ([.bool tr.1,.slice F tr.2.1.length f,.int .i64 (tr.2.2:Int)]:List Value).toArray,.int .i64 0]) (results_ct (p:=5) (q:=4) rfl _ _ w.heap.size _ rfl hb9 Tryz.underlying59 infoDec) rfl ?_
  exact ⟨F,f,by rw [HL2.out,HE.out];first | done | rfl,by rw [HL2.out];exact ints_row HR3.out (fun a ha=>by have:=HF3.out a ha;have:=HSZ.out;omega) _,Ext.setRow HX3.out (Nat.le_refl _) _⟩
 ·have HL2:Hid (va=(false,[],0)):=Lib.hid (by rw [HL.out,if_neg he])
  have i1:(ee != 0)=true:=by simpa using he
  clear he
  go_wp2_with (refine wpList_store_row rfl 59 (.tmp 4) (.tmp 16) rfl w.heap.size zeroN.toArray rfl rfl _ _ HB2.out infoDec rfl (by simp [Value.oneCell',zeroN]) ?_)
  have hb9:=HB2.out.set zeroN.toArray
  refine bodyPost_ret (v:=.tuple #[.agg zeroN.toArray,.int .i64 ee]) (results_ct (p:=5) (q:=4) rfl _ _ w.heap.size _ rfl hb9 Tryz.underlying59 infoDec) rfl ?_
  exact ⟨none,0,by rw [HL2.out];rfl,by rw [HL2.out];exact .inl rfl,Ext.setRow HX2.out (Nat.le_refl _) _⟩
section
variable {W:World} {g lb:Nat} {r:Rec} {p:Pt} {A B C D:Option Addr} {c d a b:Nat}
set_option maxRecDepth 512
theorem Lw.value (h:Lw W g lb r p A B C D c d a b) (hK:Knd r p) {s:List UInt8} (hl:s.length≤5000) :
  Calls Tryz.prog 21 #[.pointer (some ⟨g,0,none⟩),.string ⟨s.toArray⟩] W fun e w'=>∃ E cE,e=.returned (.tuple #[.agg ([.bool (vaF (locOf r p) s).1,.slice E (vaF (locOf r p) s).2.1.length cE,.int .i64 ((vaF (locOf r p) s).2.2:Int)]:List Value).toArray,.int .i64 (rdE (locOf r p) s)])∧Row w' E ((vaF (locOf r p) s).2.1.map (Value.int .i64))∧Ext W w':=by
 obtain ⟨A',B',C',D',c',d',a',b',h1⟩:=h.loc
 exact strict_value g A' B' C' D' c' d' a' b' s r p W h1 hK hl
end
end Go.Proofs.YtcghgkagpkmpeaaGreatDoor.Loc
