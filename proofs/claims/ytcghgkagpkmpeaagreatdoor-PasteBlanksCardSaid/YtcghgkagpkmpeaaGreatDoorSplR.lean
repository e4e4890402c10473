/- Walk: the document's clusters; the slice is the call's own. (Printed by wip/gen/splr.py.) -/
import Derived.Test.YtcghgkagpkmpeaaGreatDoorJClus
import Derived.Deep.Onto
set_option linter.unusedVariables false
set_option linter.unusedSimpArgs false
set_option maxHeartbeats 4000000
namespace Go.Proofs.YtcghgkagpkmpeaaGreatDoor.Cls
open Go.RowKit Utf All Small Build Dec
set_option maxRecDepth 100000
theorem splitr_acc (s:ByteArray) (w:World) (hs:s.size≤1000000) :
  Calls Tryz.prog 9 #[.string s] w fun e w'=>∃ A c,e=.returned (.slice A (splitS s.data.toList).length c)∧Acc 9 1 w w' A c (splitS s.data.toList).length (strsV (splitS s.data.toList)):=by
 have HL:Hid ((splitS s.data.toList)=cutsL s.data.toList (cstL s.data.toList)):=Lib.hid rfl
 have HC:Hid ((splitS s.data.toList).length=(cstL s.data.toList).length - 1):=Lib.hid (cuts_len _ _)
 have hp:=starts_len_pos s.data.toList
 have hq:=starts_len_le s.data.toList
 have HSO:=Lib.hid (cst_sorted s.data.toList)
 have HBD:=Lib.hid (cst_bd s.data.toList)
 rw [data_len] at hq HBD
 go_enter Tryz.func9,Tryz.ntmps9
 go_wp2_with fail
 refine (starts_ref s w hs).mono ?_
 rintro e w1 ⟨A0,c0,rfl,hr0,hx⟩
 generalize cstL s.data.toList=L at *
 go_wp2_with fail
 go_loopw [4,5] (fun v i wr=>∃ (k:Nat) (A:Option Addr) (c:Nat),k+1≤L.length∧i=.int .i64 ((k:Int)+1)∧v=.slice A k c∧Acc 9 1 w1 wr A c k (strsV (cutsL s.data.toList (L.take (k+1))))) (fun _ i _=>L.length - (intOf i).toNat)
 case atStart=>exact ⟨0,none,0,by omega,rfl,rfl,by
  have:cutsL s.data.toList (L.take 1)=[]:=List.eq_nil_of_length_eq_zero (by rw [cuts_len];simp;omega)
  rw [this];exact Acc.start _ _ _⟩
 case round =>
  obtain ⟨k,A,c,hk,rfl,rfl,hacc⟩:=hrel
  by_cases hlt:k+1 < L.length
  ·have hlt0:k < L.length:=by omega
   have h1:=HBD.out _ (List.getElem_mem hlt0)
   have h2:=HBD.out _ (List.getElem_mem hlt)
   have h3:=pair_le HSO.out hlt
   have HT:Hid (cutsL s.data.toList (L.take (k+1+1))=cutsL s.data.toList (L.take (k+1))++[(s.data.toList.drop L[k].toNat).take (L[k+1].toNat - L[k].toNat)]):=Lib.hid (by
    rw [take_two hlt,take_one hlt0,cuts_snoc])
   obtain ⟨b,off,rfl,hc1⟩:=row_int hr0 hlt0
   have hc2:w1.cell? ⟨b,off+(k+1),none⟩=some (.int .i64 L[k+1]):=hr0.cell0 (by rw [List.getElem?_map,List.getElem?_eq_getElem hlt];rfl)
   generalize L[k]=x at *
   generalize L[k+1]=y at *
   obtain ⟨a,rfl⟩:=Int.eq_ofNat_of_zero_le h1.1
   obtain ⟨e,rfl⟩:=Int.eq_ofNat_of_zero_le h2.1
   have hae:a≤e:=by omega
   have hes:e≤s.size:=by omega
   have hc1r:=Ext.cell_ hacc.ext hc1
   have hc2r:=Ext.cell_ hacc.ext hc2
   have k1:IntKind.i64.wrap ((k:Int)+1 - 1)=(k:Int):=by rw [IntKind.wrap_i64];omega
   have k0:IntKind.i64.wrap (k:Int)=(k:Int):=by rw [IntKind.wrap_i64];omega
   have k2:(k:Int) < (L.length:Int):=by omega
   have k3:(0:Int)≤(k:Int):=by omega
   have k4:(k:Int)+1 < (L.length:Int):=by omega
   have k5:(0:Int)≤(k:Int)+1:=by omega
   have k6:((k:Int)+1).toNat=k+1:=by omega
   have k7:(a:Int)≤(e:Int):=by omega
   have k8:(e:Int)≤(s.size:Int):=by omega
   have HE:=Lib.hid (cut_mk s a e)
   clear h1 h2 h3
   go_upto_region 6 with fail
   go_region_held3 (fun W=>W.cell? ⟨b,off+k,none⟩=some (.int .i64 a)∧W.cell? ⟨b,off+(k+1),none⟩=some (.int .i64 e))
    (first | exact ⟨hc1r,hc2r⟩ | assumption | exact ⟨Ext.cell_ (Acc.ext (by assumption)) hc1,Ext.cell_ (Acc.ext (by assumption)) hc2⟩ | exact ⟨Ext.cell_ (Ext.drew_ (Ext.alloc_ (Ext.refl _) _)) hc1r,Ext.cell_ (Ext.drew_ (Ext.alloc_ (Ext.refl _) _)) hc2r⟩)
    (first
     | (refine step_app_drew ei_str (by rfl) (.tmp 14) (.tmp 26) (by rfl) w1 wr A c k _ (by simp [Act.eval,Act.put]) hacc [.string (s.extract a e)] 1 1 wr.heap.size (by simp [Act.eval,Act.put]) (by rfl) (by rfl) (by simp [Value.oneCell']) (by omega) (by unfold maxLen;omega) ?_;intro A1 c1 w4 hacc4 _ _))
   all_goals go_wp2_with fail
   all_goals go_roundw
   all_goals first
    | exact ⟨k+1,A1,c1,by omega,by go_num,by simp,by rw [HT.out];unfold strsV;rw [List.map_append];have h:=hacc4;rw [HE.out] at h;exact h⟩
    | (simp [intOf];omega)
  ·have e:L.length=k+1:=by omega
   have HA:Hid (splitS s.data.toList=cutsL s.data.toList (L.take (k+1))):=Lib.hid (by rw [HL.out,List.take_of_length_le (by omega)])
   have HK:Hid ((splitS s.data.toList).length=k):=Lib.hid (by rw [HC.out,e];rfl)
   have k4:¬ ((k:Int)+1 < (L.length:Int)):=by omega
   rw [← HA.out] at hacc
   clear HL HC HA
   go_wp2
   go_ret
   exact ⟨A,c,by rw [HK.out];rfl,by rw [HK.out];exact ⟨hacc.own.mono hx.size,hx.trans hacc.ext⟩⟩
end Go.Proofs.YtcghgkagpkmpeaaGreatDoor.Cls
