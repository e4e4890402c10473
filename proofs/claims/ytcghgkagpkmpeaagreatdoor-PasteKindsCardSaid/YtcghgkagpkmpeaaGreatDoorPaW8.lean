/- Walk: the document's Kind of a cluster. (Printed by wip/gen/paw8.py.) -/
import Derived.Test.YtcghgkagpkmpeaaGreatDoorJPaW
import Derived.Test.YtcghgkagpkmpeaaGreatDoorPKx
set_option linter.unusedVariables false
set_option linter.unusedSimpArgs false
set_option maxHeartbeats 8000000
namespace Go.Proofs.YtcghgkagpkmpeaaGreatDoor.Loc
open Go.RowKit Utf All Small Strs Build EncC Pat Cls Dec Go.Proofs.YtcghgkagpkmpeaaGreatDoor.Sys
theorem box_rng (w:World) (T:TypeId) (xs:List Value):(w.alloc (.cells xs.toArray T)).rangeAt w.heap.size 0 xs∧Ext w (w.alloc (.cells xs.toArray T)):=⟨(Box.new w T xs).range,Ext.alloc_ (Ext.refl w) _⟩
set_option maxRecDepth 100000
theorem ref18_kind (A B C D:Option Addr) (c d a b:Nat) (u:List UInt8) (r:Rec) (p:Pt) (w:World) (hK:Knd r p) (hpt:PtR w A B C D p) (hu:u.length≤1000000) :
  Calls Tryz.prog 11 #[.agg ([.string ⟨r.name.toArray⟩,.string ⟨r.pattern.toArray⟩,.string ⟨r.system.toArray⟩,.string ⟨r.decimal.toArray⟩,.string ⟨r.group.toArray⟩,.string ⟨r.minus.toArray⟩,.string ⟨r.percent.toArray⟩,.string ⟨r.currency.toArray⟩,.slice A p.pre.length c,.slice B p.suf.length d,.slice C p.npre.length a,.slice D p.nsuf.length b,.int .i64 p.num.prim,.int .i64 p.num.sec,.int .i64 p.num.minInt,.int .i64 p.num.minFrac,.int .i64 p.num.maxFrac]:List Value).toArray,.string ⟨u.toArray⟩] w fun e w'=>e=.returned (.int .i64 (kindF (locOf r p) u))∧Ext w w':=by
 rw [kind_eq]
 have HSP:Hid (∀ W,Calls Tryz.prog 9 #[.string ⟨u.toArray⟩] W fun e w'=>∃ S cS,e=.returned (.slice S (splitS u).length cS)∧Ext W w'):=Lib.hid fun W=>by
  have:=split_ref ⟨u.toArray⟩ W (by rw [sizeL];omega)
  have hd:(⟨u.toArray⟩:ByteArray).data.toList=u:=by simp
  rw [hd] at this
  exact this.mono fun e w' ⟨S,cS,h1,_,h3⟩=>⟨S,cS,h1,h3⟩
 obtain ⟨hrl,hx1⟩:=box_rng w 31 [.string ⟨r.name.toArray⟩,.string ⟨r.pattern.toArray⟩,.string ⟨r.system.toArray⟩,.string ⟨r.decimal.toArray⟩,.string ⟨r.group.toArray⟩,.string ⟨r.minus.toArray⟩,.string ⟨r.percent.toArray⟩,.string ⟨r.currency.toArray⟩,.slice A p.pre.length c,.slice B p.suf.length d,.slice C p.npre.length a,.slice D p.nsuf.length b,.int .i64 p.num.prim,.int .i64 p.num.sec,.int .i64 p.num.minInt,.int .i64 p.num.minFrac,.int .i64 p.num.maxFrac]
 have HRL:=Lib.hid hrl
 have HX1:=Lib.hid hx1
 have HKR:Hid (kindR (locOf r p) u=if (splitS u).length ≠ 1 then -1
  else if 0≤signZ (locOf r p) ⟨u.toArray⟩ then signZ (locOf r p) ⟨u.toArray⟩
  else if (charsL u).length=1∧0≤(ofZ (headC u)).2 then (ofZ (headC u)).2
  else if (charsL u).length=1∧(headC u=45∨headC u=8722) then 12
  else if (charsL u).length=1∧headC u=46 then 10
  else if blankZ (headC u)=true∨affB (locOf r p) ⟨u.toArray⟩=true then 11 else -1):=Lib.hid rfl
 have HSG:Hid (∀ W,Calls Tryz.prog 36 #[.agg ([.string ⟨r.name.toArray⟩,.string ⟨r.pattern.toArray⟩,.string ⟨r.system.toArray⟩,.string ⟨r.decimal.toArray⟩,.string ⟨r.group.toArray⟩,.string ⟨r.minus.toArray⟩,.string ⟨r.percent.toArray⟩,.string ⟨r.currency.toArray⟩,.slice A p.pre.length c,.slice B p.suf.length d,.slice C p.npre.length a,.slice D p.nsuf.length b,.int .i64 p.num.prim,.int .i64 p.num.sec,.int .i64 p.num.minInt,.int .i64 p.num.minFrac,.int .i64 p.num.maxFrac]:List Value).toArray,.string ⟨u.toArray⟩] W fun e w'=>e=.returned (.int .i64 (signZ (locOf r p) ⟨u.toArray⟩))∧Ext W w'):=Lib.hid fun W=>ref_sign A B C D c d a b r p _ W hK.both
 have HAF:Hid (∀ W,Ext w W→Calls Tryz.prog 40 #[.agg ([.string ⟨r.name.toArray⟩,.string ⟨r.pattern.toArray⟩,.string ⟨r.system.toArray⟩,.string ⟨r.decimal.toArray⟩,.string ⟨r.group.toArray⟩,.string ⟨r.minus.toArray⟩,.string ⟨r.percent.toArray⟩,.string ⟨r.currency.toArray⟩,.slice A p.pre.length c,.slice B p.suf.length d,.slice C p.npre.length a,.slice D p.nsuf.length b,.int .i64 p.num.prim,.int .i64 p.num.sec,.int .i64 p.num.minInt,.int .i64 p.num.minFrac,.int .i64 p.num.maxFrac]:List Value).toArray,.string ⟨u.toArray⟩] W fun e w'=>e=.returned (.bool (affB (locOf r p) ⟨u.toArray⟩))∧Ext W w'):=Lib.hid fun W hW=>ref_affix A B C D c d a b r p _ W hK.both (hpt.ext hW)
 have HBL:Hid (∀ W,Calls Tryz.prog 39 #[.int .i64 (headC u)] W fun e w'=>e=.returned (.bool (blankZ (headC u)))∧Ext W w'):=Lib.hid fun W=>blank_r _ W
 have HOF:Hid (∀ W,Calls Tryz.prog 38 #[.int .i64 (headC u)] W fun e w'=>e=.returned (.tuple #[.string (ofZ (headC u)).1,.int .i64 (ofZ (headC u)).2])∧Ext W w'):=Lib.hid fun W=>ref_of _ W
 have HAL:Hid (∀ W,u ≠ []→Calls Tryz.prog 37 #[.string ⟨u.toArray⟩] W fun e w'=>∃ A c B d n v,e=.returned (.tuple #[.slice A (charsL u).length c,.slice B n d,.bool v])∧(∃ b0 o0,A=some ⟨b0,o0,none⟩∧w'.cell? ⟨b0,o0,none⟩=some (.int .i64 (headC u)))∧Ext W w'):=Lib.hid fun W h0=>by
  have hh:=ref_allC ⟨u.toArray⟩ W (by rw [sizeL];omega)
  have hd:(⟨u.toArray⟩:ByteArray).data.toList=u:=by simp
  rw [hd] at hh
  have hc:=chars_cons h0
  refine hh.mono ?_
  rintro e w' ⟨A,c,B,d,h1,h2,h3,h4⟩
  refine ⟨A,c,B,d,_,_,h1,?_,h4.2.2⟩
  obtain ⟨b0,o0,h4,h5⟩:=row_ints h2 (k:=0) (by rw [hc];simp)
  refine ⟨b0,o0,h4,?_⟩
  rw [Nat.add_zero] at h5
  rw [h5]
  simp only [hc]
  rfl
 have HCL:Hid (u ≠ []→0 < (charsL u).length):=Lib.hid fun h0=>by rw [chars_cons h0];simp
 have HNE:Hid ((splitS u).length=1→u ≠ []):=Lib.hid one_ne
 clear hrl hx1 hK hpt hu
 generalize kindR (locOf r p) u=kr at *
 generalize signZ (locOf r p) ⟨u.toArray⟩=z at *
 generalize affB (locOf r p) ⟨u.toArray⟩=ab at *
 generalize (splitS u).length=sn at *
 go_enter Tryz.func11,Tryz.ntmps11
 go_upto_region 1 with fail
 change Code.wp _ _ _ _ (w.alloc (.cells ([.string ⟨r.name.toArray⟩,.string ⟨r.pattern.toArray⟩,.string ⟨r.system.toArray⟩,.string ⟨r.decimal.toArray⟩,.string ⟨r.group.toArray⟩,.string ⟨r.minus.toArray⟩,.string ⟨r.percent.toArray⟩,.string ⟨r.currency.toArray⟩,.slice A p.pre.length c,.slice B p.suf.length d,.slice C p.npre.length a,.slice D p.nsuf.length b,.int .i64 p.num.prim,.int .i64 p.num.sec,.int .i64 p.num.minInt,.int .i64 p.num.minFrac,.int .i64 p.num.maxFrac]:List Value).toArray 31))
 generalize w.alloc (.cells ([.string ⟨r.name.toArray⟩,.string ⟨r.pattern.toArray⟩,.string ⟨r.system.toArray⟩,.string ⟨r.decimal.toArray⟩,.string ⟨r.group.toArray⟩,.string ⟨r.minus.toArray⟩,.string ⟨r.percent.toArray⟩,.string ⟨r.currency.toArray⟩,.slice A p.pre.length c,.slice B p.suf.length d,.slice C p.npre.length a,.slice D p.nsuf.length b,.int .i64 p.num.prim,.int .i64 p.num.sec,.int .i64 p.num.minInt,.int .i64 p.num.minFrac,.int .i64 p.num.maxFrac]:List Value).toArray 31)=w1 at *
 generalize w.heap.size=lb at *
 generalize (charsL u).length=cl at *
 generalize hcq:headC u=hc at *
 clear hcq
 generalize ofZ hc=od at *
 obtain ⟨od1,od2⟩:=od
 generalize blankZ hc=bl at *
 by_cases h1:sn=1
 ·have hu0:=HNE.out h1
  have hcl:=HCL.out hu0
  subst h1
  clear HNE HCL
  go_upto_region 4 with (first
   | (go_at_call 9;with_reducible refine (HSP.out _).mono ?_;rintro e w2 ⟨S,cS,rfl,hx2⟩;have HR2:=Lib.hid (Ext.range_ hx2 HRL.out))
   | (refine wpList_load_mid rfl 31 (.tmp 2) rfl lb 0 rfl [.string ⟨r.name.toArray⟩,.string ⟨r.pattern.toArray⟩,.string ⟨r.system.toArray⟩,.string ⟨r.decimal.toArray⟩,.string ⟨r.group.toArray⟩,.string ⟨r.minus.toArray⟩,.string ⟨r.percent.toArray⟩,.string ⟨r.currency.toArray⟩,.slice A p.pre.length c,.slice B p.suf.length d,.slice C p.npre.length a,.slice D p.nsuf.length b,.int .i64 p.num.prim,.int .i64 p.num.sec,.int .i64 p.num.minInt,.int .i64 p.num.minFrac,.int .i64 p.num.maxFrac] _ HR2.out Tryz.underlying31 rfl infoRL ?_)
   | (go_at_call 36;with_reducible refine (HSG.out _).mono ?_;rintro e w3 ⟨rfl,hx3⟩;have HX3:=Lib.hid (hx2.trans hx3)))
  by_cases hz:0≤z
  ·have HK1:Hid (kr=z):=Lib.hid (by rw [HKR.out,if_neg (by simp),if_pos hz])
   clear HKR
   go_wp2
   go_ret
   exact ⟨by rw [HK1.out];first | done | rfl,HX1.out.trans HX3.out⟩
  ·have i0:(0:Int) < (cl:Int):=by omega
   go_upto_region 7 with (go_at_call 37;with_reducible refine (HAL.out _ hu0).mono ?_;rintro e w4 ⟨A4,c4,B4,d4,n4,v4,rfl,⟨b0,o0,rfl,hc0⟩,hx4⟩;have HX4:=Lib.hid (HX3.out.trans hx4))
   go_upto_region 8 with fail
   by_cases hc1:cl=1
   ·subst hc1
    clear hcl i0
    go_upto_region 9 with fail
    go_upto_region 10 with (go_at_call 38;with_reducible refine (HOF.out _).mono ?_;rintro e w5 ⟨rfl,hx5⟩;have HX5:=Lib.hid (HX4.out.trans hx5))
    by_cases hd:0≤od2
    ·have HK1:Hid (kr=od2):=Lib.hid (by rw [HKR.out,if_neg (by simp),if_neg (by omega),if_pos ⟨by first | rfl | trivial,hd⟩])
     clear HKR
     go_wp2
     go_ret
     exact ⟨by rw [HK1.out];first | done | rfl,HX1.out.trans HX5.out⟩
    ·by_cases h45:hc=45
     ·have HK1:Hid (kr=12):=Lib.hid (by rw [HKR.out,if_neg (by simp),if_neg (by omega),if_neg (by intro h;have:=h.2;omega),if_pos ⟨by first | rfl | trivial,.inl h45⟩])
      clear HKR
      subst h45
      go_wp2
      go_ret
      exact ⟨by rw [HK1.out];first | done | rfl,HX1.out.trans HX5.out⟩
     ·by_cases h87:hc=8722
      ·have HK1:Hid (kr=12):=Lib.hid (by rw [HKR.out,if_neg (by simp),if_neg (by omega),if_neg (by intro h;have:=h.2;omega),if_pos ⟨by first | rfl | trivial,.inr h87⟩])
       clear HKR
       subst h87
       go_wp2
       go_ret
       exact ⟨by rw [HK1.out];first | done | rfl,HX1.out.trans HX5.out⟩
      ·have q1:(hc == 45)=false:=by simpa using h45
       have q2:(hc == 8722)=false:=by simpa using h87
       by_cases h46:hc=46
       ·have HK1:Hid (kr=10):=Lib.hid (by rw [HKR.out,if_neg (by simp),if_neg (by omega),if_neg (by intro h;have:=h.2;omega),if_neg (by intro h;have:=h.2;omega),if_pos ⟨by first | rfl | trivial,h46⟩])
        clear HKR
        subst h46
        go_wp2
        go_ret
        exact ⟨by rw [HK1.out];first | done | rfl,HX1.out.trans HX5.out⟩
       ·have q3:(hc == 46)=false:=by simpa using h46
        go_upto_region 17 with (go_at_call 39;with_reducible refine (HBL.out _).mono ?_;rintro e w6 ⟨rfl,hx6⟩;have HX6:=Lib.hid (HX5.out.trans hx6);have HR6:=Lib.hid (Ext.range_ HX6.out HRL.out))
        go_upto_region 18 with (first
         | (refine wpList_load_mid rfl 31 (.tmp 2) rfl lb 0 rfl [.string ⟨r.name.toArray⟩,.string ⟨r.pattern.toArray⟩,.string ⟨r.system.toArray⟩,.string ⟨r.decimal.toArray⟩,.string ⟨r.group.toArray⟩,.string ⟨r.minus.toArray⟩,.string ⟨r.percent.toArray⟩,.string ⟨r.currency.toArray⟩,.slice A p.pre.length c,.slice B p.suf.length d,.slice C p.npre.length a,.slice D p.nsuf.length b,.int .i64 p.num.prim,.int .i64 p.num.sec,.int .i64 p.num.minInt,.int .i64 p.num.minFrac,.int .i64 p.num.maxFrac] _ HR6.out Tryz.underlying31 rfl infoRL ?_)
         | (go_at_call 40;with_reducible refine (HAF.out _ (HX1.out.trans HX6.out)).mono ?_;rintro e w7 ⟨rfl,hx7⟩;have HX7:=Lib.hid (HX6.out.trans hx7)))
        cases bl
        ·cases ab
         ·have HK1:Hid (kr=-1):=Lib.hid (by rw [HKR.out,if_neg (by simp),if_neg (by omega),if_neg (by intro h;have:=h.2;omega),if_neg (by intro h;have:=h.2;omega),if_neg (by intro h;have:=h.2;omega),if_neg (by simp)])
          clear HKR
          go_wp2
          go_ret
          exact ⟨by rw [HK1.out];first | done | rfl,HX1.out.trans HX7.out⟩
         ·have HK1:Hid (kr=11):=Lib.hid (by rw [HKR.out,if_neg (by simp),if_neg (by omega),if_neg (by intro h;have:=h.2;omega),if_neg (by intro h;have:=h.2;omega),if_neg (by intro h;have:=h.2;omega),if_pos (by simp)])
          clear HKR
          go_wp2
          go_ret
          exact ⟨by rw [HK1.out];first | done | rfl,HX1.out.trans HX7.out⟩
        ·have HK1:Hid (kr=11):=Lib.hid (by rw [HKR.out,if_neg (by simp),if_neg (by omega),if_neg (by intro h;have:=h.2;omega),if_neg (by intro h;have:=h.2;omega),if_neg (by intro h;have:=h.2;omega),if_pos (by simp)])
         clear HKR
         go_wp2
         go_ret
         exact ⟨by rw [HK1.out];first | done | rfl,HX1.out.trans HX7.out⟩
   ·have i1:((cl:Int) == 1)=false:=by simp;omega
    go_upto_region 17 with (go_at_call 39;with_reducible refine (HBL.out _).mono ?_;rintro e w6 ⟨rfl,hx6⟩;have HX6:=Lib.hid (HX4.out.trans hx6);have HR6:=Lib.hid (Ext.range_ HX6.out HRL.out))
    go_upto_region 18 with (first
     | (refine wpList_load_mid rfl 31 (.tmp 2) rfl lb 0 rfl [.string ⟨r.name.toArray⟩,.string ⟨r.pattern.toArray⟩,.string ⟨r.system.toArray⟩,.string ⟨r.decimal.toArray⟩,.string ⟨r.group.toArray⟩,.string ⟨r.minus.toArray⟩,.string ⟨r.percent.toArray⟩,.string ⟨r.currency.toArray⟩,.slice A p.pre.length c,.slice B p.suf.length d,.slice C p.npre.length a,.slice D p.nsuf.length b,.int .i64 p.num.prim,.int .i64 p.num.sec,.int .i64 p.num.minInt,.int .i64 p.num.minFrac,.int .i64 p.num.maxFrac] _ HR6.out Tryz.underlying31 rfl infoRL ?_)
     | (go_at_call 40;with_reducible refine (HAF.out _ (HX1.out.trans HX6.out)).mono ?_;rintro e w7 ⟨rfl,hx7⟩;have HX7:=Lib.hid (HX6.out.trans hx7)))
    cases bl
    ·cases ab
     ·have HK1:Hid (kr=-1):=Lib.hid (by rw [HKR.out,if_neg (by simp),if_neg (by omega),if_neg (by intro h;have:=h.1;omega),if_neg (by intro h;have:=h.1;omega),if_neg (by intro h;have:=h.1;omega),if_neg (by simp)])
      clear HKR
      go_wp2
      go_ret
      exact ⟨by rw [HK1.out];first | done | rfl,HX1.out.trans HX7.out⟩
     ·have HK1:Hid (kr=11):=Lib.hid (by rw [HKR.out,if_neg (by simp),if_neg (by omega),if_neg (by intro h;have:=h.1;omega),if_neg (by intro h;have:=h.1;omega),if_neg (by intro h;have:=h.1;omega),if_pos (by simp)])
      clear HKR
      go_wp2
      go_ret
      exact ⟨by rw [HK1.out];first | done | rfl,HX1.out.trans HX7.out⟩
    ·have HK1:Hid (kr=11):=Lib.hid (by rw [HKR.out,if_neg (by simp),if_neg (by omega),if_neg (by intro h;have:=h.1;omega),if_neg (by intro h;have:=h.1;omega),if_neg (by intro h;have:=h.1;omega),if_pos (by simp)])
     clear HKR
     go_wp2
     go_ret
     exact ⟨by rw [HK1.out];first | done | rfl,HX1.out.trans HX7.out⟩
 ·have j1:((sn:Int) != 1)=true:=by simp;omega
  have HK1:Hid (kr=-1):=Lib.hid (by rw [HKR.out,if_pos h1])
  clear HKR
  go_wp2_with (go_at_call 9;with_reducible refine (HSP.out _).mono ?_;rintro e w2 ⟨S,cS,rfl,hx2⟩)
  go_ret
  exact ⟨by rw [HK1.out];first | done | rfl,HX1.out.trans hx2⟩
end Go.Proofs.YtcghgkagpkmpeaaGreatDoor.Loc
