/- Joined by wip/join.py: Clus Clus2 Clus3 Clus4 Clus5 Clus6 Word. -/
import Derived.Test.YtcghgkagpkmpeaaGreatDoorJCls
import Derived.Test.YtcghgkagpkmpeaaGreatDoorJBuild
import Derived.Deep.DeepCutAuto
import Derived.Deep.CutBlock
import Derived.Test.YtcghgkagpkmpeaaGreatDoorJBase
import Derived.Deep.RegionHeld3
import Derived.Deep.Onto
import Derived.Test.YtcghgkagpkmpeaaGreatDoorValid
import Derived.Lib.ValidLaws
set_option linter.unusedVariables false
set_option linter.unusedSimpArgs false
set_option maxHeartbeats 8000000
namespace Go.Proofs.YtcghgkagpkmpeaaGreatDoor.Cls
open Go.RowKit Utf All Small Build
theorem breaks_ (k:Int) (w:World):Calls Tryz.prog 192 #[.int .i64 k] w fun e w'=>e=.returned (.bool (brk k))∧w=w':=by
 go_enter Tryz.func192,Tryz.ntmps192
 by_cases h1:k=3
 ·subst h1;go_wp2;go_ret;exact ⟨rfl,rfl⟩
 ·by_cases h2:k=1
  ·subst h2;go_wp2;go_ret;exact ⟨rfl,rfl⟩
  ·by_cases h3:k=2
   ·subst h3;go_wp2;go_ret;exact ⟨rfl,rfl⟩
   ·go_wp2;go_ret;exact ⟨by unfold brk;simp [h1,h2,h3],rfl⟩
theorem hangul_ (a b:Int) (w:World):Calls Tryz.prog 193 #[.int .i64 a,.int .i64 b] w fun e w'=>e=.returned (.bool (hanZ a b))∧w=w':=by
 by_cases a9:a=9
 ·subst a9
  have HE:Hid (hanZ 9 b=(b == 9 || b == 10 || b == 12 || b == 13)):=Lib.hid rfl
  go_enter Tryz.func193,Tryz.ntmps193
  by_cases b1:b=9
  ·subst b1;go_wp2;go_ret;exact ⟨by rw [HE.out];rfl,rfl⟩
  ·by_cases b2:b=10
   ·subst b2;go_wp2;go_ret;exact ⟨by rw [HE.out];rfl,rfl⟩
   ·by_cases b3:b=12
    ·subst b3;go_wp2;go_ret;exact ⟨by rw [HE.out];rfl,rfl⟩
    ·go_wp2;go_ret;exact ⟨by rw [HE.out];simp [b1,b2,b3],rfl⟩
 ·by_cases a12:a=12∨a=10
  ·have HE:Hid (hanZ a b=(b == 10 || b == 11)):=Lib.hid (by unfold hanZ;rw [if_neg a9,if_pos a12])
   go_enter Tryz.func193,Tryz.ntmps193
   rcases a12 with rfl | rfl
   all_goals
    by_cases b1:b=10
    ·subst b1;go_wp2;go_ret;exact ⟨by rw [HE.out];rfl,rfl⟩
    ·go_wp2;go_ret;exact ⟨by rw [HE.out];simp [b1],rfl⟩
  ·by_cases a13:a=13∨a=11
   ·have HE:Hid (hanZ a b=(b == 11)):=Lib.hid (by unfold hanZ;rw [if_neg a9,if_neg a12,if_pos a13])
    go_enter Tryz.func193,Tryz.ntmps193
    rcases a13 with rfl | rfl
    all_goals (go_wp2;go_ret;exact ⟨by rw [HE.out];rfl,rfl⟩)
   ·have HE:Hid (hanZ a b=false):=Lib.hid (by unfold hanZ;rw [if_neg a9,if_neg a12,if_neg a13])
    have c1:¬ a=12:=fun h=>a12 (.inl h)
    have c2:¬ a=10:=fun h=>a12 (.inr h)
    have c3:¬ a=13:=fun h=>a13 (.inl h)
    have c4:¬ a=11:=fun h=>a13 (.inr h)
    clear a12 a13
    go_enter Tryz.func193,Tryz.ntmps193
    go_wp2
    go_ret
    exact ⟨by rw [HE.out];rfl,rfl⟩
structure RC (w:World) (B:Nat) (rk:List Int):Prop where
 any:Box w B 4 [.bool (decide (rk ≠ []))]
 last:Box w (B+1) 3 [.int .i64 (rk.headD 0)]
 flags:Box w (B+2) 3 [.int .i64 (regS rk)]
 picto:Box w (B+3) 4 [.bool (picS rk)]
 linked:Box w (B+4) 4 [.bool (lnkS rk)]
def rdV (B:Nat):Value:=.func (.func 191) #[] #[.pointer (some ⟨B,0,none⟩),.pointer (some ⟨B+1,0,none⟩),.pointer (some ⟨B+4,0,none⟩),.pointer (some ⟨B+2,0,none⟩),.pointer (some ⟨B+3,0,none⟩)]
theorem Box.newN {w:World} {T:TypeId} {cs:List Value} {n:Nat} (h:w.heap.size=n):Box (w.alloc (.cells cs.toArray T)) n T cs:=h ▸ Box.new w T cs
theorem reader_ (w:World):Calls Tryz.prog 162 #[] w fun e w'=>e=.returned (rdV w.heap.size)∧RC w' w.heap.size []∧w'.heap.size=w.heap.size+5∧Ext w w':=by
 go_enter Tryz.func162,Tryz.ntmps162
 go_wp2
 go_ret
 refine ⟨rfl,⟨?_,?_,?_,?_,?_⟩,by simp,Ext.alloc_ (Ext.alloc_ (Ext.alloc_ (Ext.alloc_ (Ext.alloc_ (Ext.refl w) _) _) _) _) _⟩
 ·exact ((((Box.newN rfl).alloc _).alloc _).alloc _).alloc _
 ·exact (((Box.newN (by simp)).alloc _).alloc _).alloc _
 ·exact ((Box.newN (by simp)).alloc _).alloc _
 ·exact (Box.newN (by simp)).alloc _
 ·exact Box.newN (by simp)
theorem RC.ext {w w':World} {B:Nat} {rk:List Int} (h:RC w B rk) (hx:Ext w w'):RC w' B rk:=⟨h.any.ext hx,h.last.ext hx,h.flags.ext hx,h.picto.ext hx,h.linked.ext hx⟩
theorem regS_le:∀ rk:List Int,regS rk≤rk.length
 | []=>Nat.le_refl _
 | k :: r=>by
  have:=regS_le r
  unfold regS;split <;> simp only [List.length_cons] <;> omega
abbrev five (B:Nat) (k:Nat):Prop:=B≤k∧k≤B+4
theorem told6 {w:World} {B:Nat} {rk:List Int} (h:RC w B rk) (k:Int) (hk:k=6) :
  RC (((((w.setCell ⟨B+4,0,none⟩ (.bool (picS rk && k == 5))).setCell ⟨B+3,0,none⟩ (.bool (k == 14 || picS rk && k == 4))).setCell ⟨B+2,0,none⟩ (.int .i64 ((regS rk:Int)+1))).setCell ⟨B,0,none⟩ (.bool true)).setCell ⟨B+1,0,none⟩ (.int .i64 k)) B (k :: rk):=by
 refine ⟨?_,?_,?_,?_,?_⟩
 ·exact (((((h.any.setCell1 (B+4) _ (by omega) 0).setCell1 (B+3) _ (by omega) 0).setCell1 (B+2) _ (by omega) 0).setCell 0 _).setCell1 (B+1) _ (by omega) 0)
 ·exact (((((h.last.setCell1 (B+4) _ (by omega) 0).setCell1 (B+3) _ (by omega) 0).setCell1 (B+2) _ (by omega) 0).setCell1 B _ (by omega) 0).setCell 0 _)
 ·have e:regS (k :: rk)=regS rk+1:=by rw [regS,if_pos hk]
  rw [e]
  exact (((((h.flags.setCell1 (B+4) _ (by omega) 0).setCell1 (B+3) _ (by omega) 0).setCell 0 _).setCell1 B _ (by omega) 0).setCell1 (B+1) _ (by omega) 0)
 ·have e:picS (k :: rk)=(k == 14 || picS rk && k == 4):=by rw [picS,Bool.and_comm]
  rw [e]
  exact (((((h.picto.setCell1 (B+4) _ (by omega) 0).setCell 0 _).setCell1 (B+2) _ (by omega) 0).setCell1 B _ (by omega) 0).setCell1 (B+1) _ (by omega) 0)
 ·have e:lnkS (k :: rk)=(picS rk && k == 5):=by rw [lnkS,Bool.and_comm]
  rw [e]
  exact (((((h.linked.setCell 0 _).setCell1 (B+3) _ (by omega) 0).setCell1 (B+2) _ (by omega) 0).setCell1 B _ (by omega) 0).setCell1 (B+1) _ (by omega) 0)
theorem told0 {w:World} {B:Nat} {rk:List Int} (h:RC w B rk) (k:Int) (hk:¬ k=6) :
  RC ((((((w.setCell ⟨B+4,0,none⟩ (.bool (picS rk && k == 5))).setCell ⟨B+3,0,none⟩ (.bool (k == 14 || picS rk && k == 4))).setCell ⟨B+2,0,none⟩ (.int .i64 ((regS rk:Int)+1))).setCell ⟨B+2,0,none⟩ (.int .i64 0)).setCell ⟨B,0,none⟩ (.bool true)).setCell ⟨B+1,0,none⟩ (.int .i64 k)) B (k :: rk):=by
 refine ⟨?_,?_,?_,?_,?_⟩
 ·exact ((((((h.any.setCell1 (B+4) _ (by omega) 0).setCell1 (B+3) _ (by omega) 0).setCell1 (B+2) _ (by omega) 0).setCell1 (B+2) _ (by omega) 0).setCell 0 _).setCell1 (B+1) _ (by omega) 0)
 ·exact ((((((h.last.setCell1 (B+4) _ (by omega) 0).setCell1 (B+3) _ (by omega) 0).setCell1 (B+2) _ (by omega) 0).setCell1 (B+2) _ (by omega) 0).setCell1 B _ (by omega) 0).setCell 0 _)
 ·have e:regS (k :: rk)=0:=by rw [regS,if_neg hk]
  rw [e]
  exact ((((((h.flags.setCell1 (B+4) _ (by omega) 0).setCell1 (B+3) _ (by omega) 0).setCell 0 _).setCell 0 _).setCell1 B _ (by omega) 0).setCell1 (B+1) _ (by omega) 0)
 ·have e:picS (k :: rk)=(k == 14 || picS rk && k == 4):=by rw [picS,Bool.and_comm]
  rw [e]
  exact ((((((h.picto.setCell1 (B+4) _ (by omega) 0).setCell 0 _).setCell1 (B+2) _ (by omega) 0).setCell1 (B+2) _ (by omega) 0).setCell1 B _ (by omega) 0).setCell1 (B+1) _ (by omega) 0)
 ·have e:lnkS (k :: rk)=(picS rk && k == 5):=by rw [lnkS,Bool.and_comm]
  rw [e]
  exact ((((((h.linked.setCell 0 _).setCell1 (B+3) _ (by omega) 0).setCell1 (B+2) _ (by omega) 0).setCell1 (B+2) _ (by omega) 0).setCell1 B _ (by omega) 0).setCell1 (B+1) _ (by omega) 0)
theorem but5 {w w':World} {B b:Nat} (h:ButS (five B) w w') (hb:five B b) (v:Value):ButS (five B) w (w'.setCell ⟨b,0,none⟩ v) :=
 h.trans ((ButS.setCell b 0 v).mono fun k _ hk=>by subst hk;exact hb)
set_option maxRecDepth 100000
theorem reader1 (c:Int) (B:Nat) (rk:List Int) (w:World) (h:RC w B rk) (hl:rk.length≤1000000000) :
  Calls Tryz.prog 191 #[.int .i64 c,.pointer (some ⟨B,0,none⟩),.pointer (some ⟨B+1,0,none⟩),.pointer (some ⟨B+4,0,none⟩),.pointer (some ⟨B+2,0,none⟩),.pointer (some ⟨B+3,0,none⟩)] w fun e w' =>
   e=.returned (.bool (joinS rk (clsZ c)))∧RC w' B (clsZ c :: rk)∧ButS (five B) w w':=by
 have hrg:=regS_le rk
 go_enter Tryz.func191,Tryz.ntmps191
 go_wp2_with fail
 refine (of_ c w).mono ?_;rintro e w2 ⟨rfl,hx2⟩
 have hkb:=cls_bd c
 generalize hkc:clsZ c=k at *
 have HKC:=Lib.hid hkc
 clear hkc
 have H2:=Lib.hid (h.ext hx2)
 have HX2:=Lib.hid hx2
 have a1:=H2.out.any.cell (j:=0) rfl
 have a2:=H2.out.last.cell (j:=0) rfl
 have a3:=H2.out.flags.cell (j:=0) rfl
 have a4:=H2.out.picto.cell (j:=0) rfl
 have a5:=H2.out.linked.cell (j:=0) rfl
 have f1:=H2.out.any.frozen 0
 have f2:=H2.out.last.frozen 0
 have f3:=H2.out.flags.frozen 0
 have f4:=H2.out.picto.frozen 0
 have f5:=H2.out.linked.frozen 0
 clear h hx2
 have HR:=Lib.hid hrg
 go_upto_block 0 with fail
 go_cut [9] (fun v wx=>v=.bool (joinS rk k)∧wx=w2)
 case first =>
  cases rk with
  | nil =>
   have HJ:Hid (joinS [] k=false):=Lib.hid rfl
   clear H2
   simp only [List.headD_nil,ne_eq,not_true_eq_false,decide_false] at a1 a2
   go_wp2
   go_meet
   exact ⟨by rw [HJ.out],rfl⟩
  | cons l r =>
   have HJ:Hid (joinS (l :: r) k=if l=1∧k=2 then true else if brk l || brk k then false else if hanZ l k || k == 4 || k == 5 || k == 8 || l == 7 then true else if k=14 then lnkS (l :: r) else k == 6 && regS (l :: r) % 2 == 1):=Lib.hid rfl
   clear H2
   have a1':w2.cell? ⟨B,0,none⟩=some (.bool true):=a1
   have a2':w2.cell? ⟨B+1,0,none⟩=some (.int .i64 l):=a2
   clear a1 a2
   generalize joinS (l :: r) k=J at *
   generalize lnkS (l :: r)=L at *
   generalize picS (l :: r)=Pc at *
   have HB1:Hid (brk l=brk l):=Lib.hid rfl
   generalize hb1:brk l=b1 at *
   generalize hb2:brk k=b2 at *
   generalize hb3:hanZ l k=b3 at *
   have G1:=Lib.hid hb1
   have G2:=Lib.hid hb2
   have G3:=Lib.hid hb3
   clear hb1 hb2 hb3 HB1
   generalize regS (l :: r)=R at *
   have hR:=HR.out
   clear hrg
   by_cases c1:l=1∧k=2
   ·obtain ⟨rfl,rfl⟩:=c1
    go_wp2
    go_meet
    exact ⟨by rw [HJ.out];rfl,rfl⟩
   ·rw [if_neg c1] at HJ
    have hs:(l=1∧¬ k=2)∨¬ l=1:=by
     by_cases h:l=1
     ·exact .inl ⟨h,fun h2=>c1 ⟨h,h2⟩⟩
     ·exact .inr h
    clear c1
    have tail1:b1=true∨(b1=false∧b2=true)∨(b1=false∧b2=false∧b3=true)∨(b1=false∧b2=false∧b3=false):=by
     cases b1 <;> cases b2 <;> cases b3 <;> simp
    rcases tail1 with rfl | ⟨rfl,rfl⟩ | ⟨rfl,rfl,rfl⟩ | ⟨rfl,rfl,rfl⟩
    ·rcases hs with ⟨l1,k2⟩ | l1
     ·subst l1
      have k2':(k == 2)=false:=by simp [k2]
      go_wp2_with (first | (refine (breaks_ _ _).mono ?_;rintro e w' ⟨rfl,rfl⟩;(first | rw [G1.out] | rw [G2.out])) | (refine (hangul_ _ _ _).mono ?_;rintro e w' ⟨rfl,rfl⟩;rw [G3.out]))
      go_meet
      exact ⟨by rw [HJ.out];simp [],rfl⟩
     ·go_wp2_with (first | (refine (breaks_ _ _).mono ?_;rintro e w' ⟨rfl,rfl⟩;(first | rw [G1.out] | rw [G2.out])) | (refine (hangul_ _ _ _).mono ?_;rintro e w' ⟨rfl,rfl⟩;rw [G3.out]))
      go_meet
      exact ⟨by rw [HJ.out];simp [],rfl⟩
    ·rcases hs with ⟨l1,k2⟩ | l1
     ·subst l1
      have k2':(k == 2)=false:=by simp [k2]
      go_wp2_with (first | (refine (breaks_ _ _).mono ?_;rintro e w' ⟨rfl,rfl⟩;(first | rw [G1.out] | rw [G2.out])) | (refine (hangul_ _ _ _).mono ?_;rintro e w' ⟨rfl,rfl⟩;rw [G3.out]))
      go_meet
      exact ⟨by rw [HJ.out];simp [],rfl⟩
     ·go_wp2_with (first | (refine (breaks_ _ _).mono ?_;rintro e w' ⟨rfl,rfl⟩;(first | rw [G1.out] | rw [G2.out])) | (refine (hangul_ _ _ _).mono ?_;rintro e w' ⟨rfl,rfl⟩;rw [G3.out]))
      go_meet
      exact ⟨by rw [HJ.out];simp [],rfl⟩
    ·rcases hs with ⟨l1,k2⟩ | l1
     ·subst l1
      have k2':(k == 2)=false:=by simp [k2]
      go_wp2_with (first | (refine (breaks_ _ _).mono ?_;rintro e w' ⟨rfl,rfl⟩;(first | rw [G1.out] | rw [G2.out])) | (refine (hangul_ _ _ _).mono ?_;rintro e w' ⟨rfl,rfl⟩;rw [G3.out]))
      go_meet
      exact ⟨by rw [HJ.out];simp [],rfl⟩
     ·go_wp2_with (first | (refine (breaks_ _ _).mono ?_;rintro e w' ⟨rfl,rfl⟩;(first | rw [G1.out] | rw [G2.out])) | (refine (hangul_ _ _ _).mono ?_;rintro e w' ⟨rfl,rfl⟩;rw [G3.out]))
      go_meet
      exact ⟨by rw [HJ.out];simp [],rfl⟩
    ·have l1:¬ l=1:=by
      rcases hs with ⟨rfl,_⟩ | h
      ·have:=G1.out;simp [brk] at this
      ·exact h
     clear hs
     by_cases k4:k=4
     ·subst k4
      go_wp2_with (first | (refine (breaks_ _ _).mono ?_;rintro e w' ⟨rfl,rfl⟩;(first | rw [G1.out] | rw [G2.out])) | (refine (hangul_ _ _ _).mono ?_;rintro e w' ⟨rfl,rfl⟩;rw [G3.out]))
      go_meet
      exact ⟨by rw [HJ.out];simp [],rfl⟩
     ·have k4':(k == 4)=false:=by simp [k4]
      by_cases k5:k=5
      ·subst k5
       go_wp2_with (first | (refine (breaks_ _ _).mono ?_;rintro e w' ⟨rfl,rfl⟩;(first | rw [G1.out] | rw [G2.out])) | (refine (hangul_ _ _ _).mono ?_;rintro e w' ⟨rfl,rfl⟩;rw [G3.out]))
       go_meet
       exact ⟨by rw [HJ.out];simp [],rfl⟩
      ·have k5':(k == 5)=false:=by simp [k5]
       by_cases k8:k=8
       ·subst k8
        go_wp2_with (first | (refine (breaks_ _ _).mono ?_;rintro e w' ⟨rfl,rfl⟩;(first | rw [G1.out] | rw [G2.out])) | (refine (hangul_ _ _ _).mono ?_;rintro e w' ⟨rfl,rfl⟩;rw [G3.out]))
        go_meet
        exact ⟨by rw [HJ.out];simp [],rfl⟩
       ·have k8':(k == 8)=false:=by simp [k8]
        by_cases l7:l=7
        ·subst l7
         go_wp2_with (first | (refine (breaks_ _ _).mono ?_;rintro e w' ⟨rfl,rfl⟩;(first | rw [G1.out] | rw [G2.out])) | (refine (hangul_ _ _ _).mono ?_;rintro e w' ⟨rfl,rfl⟩;rw [G3.out]))
         go_meet
         exact ⟨by rw [HJ.out];simp [k4,k5,k8],rfl⟩
        ·have l7':(l == 7)=false:=by simp [l7]
         by_cases k14:k=14
         ·subst k14
          go_wp2_with (first | (refine (breaks_ _ _).mono ?_;rintro e w' ⟨rfl,rfl⟩;(first | rw [G1.out] | rw [G2.out])) | (refine (hangul_ _ _ _).mono ?_;rintro e w' ⟨rfl,rfl⟩;rw [G3.out]))
          go_meet
          exact ⟨by rw [HJ.out];simp [l7],rfl⟩
         ·have k14':(k == 14)=false:=by simp [k14]
          by_cases k6:k=6
          ·subst k6
           go_wp2_with (first | (refine (breaks_ _ _).mono ?_;rintro e w' ⟨rfl,rfl⟩;(first | rw [G1.out] | rw [G2.out])) | (refine (hangul_ _ _ _).mono ?_;rintro e w' ⟨rfl,rfl⟩;rw [G3.out]))
           go_meet
           exact ⟨by rw [HJ.out];simp [l7];rw [Bool.eq_iff_iff];simp;omega,rfl⟩
          ·have k6':(k == 6)=false:=by simp [k6]
           go_wp2_with (first | (refine (breaks_ _ _).mono ?_;rintro e w' ⟨rfl,rfl⟩;(first | rw [G1.out] | rw [G2.out])) | (refine (hangul_ _ _ _).mono ?_;rintro e w' ⟨rfl,rfl⟩;rw [G3.out]))
           go_meet
           exact ⟨by rw [HJ.out];simp [k4,k5,k8,l7,k14,k6],rfl⟩
 case rest =>
  obtain ⟨rfl,rfl⟩:=hcut
  have hrg:=HR.out
  generalize hJ:joinS rk k=J
  have HJ:=Lib.hid hJ
  clear hJ
  by_cases h6:k=6
  ·have HT:=Lib.hid (told6 H2.out k h6)
   generalize regS rk=R at *
   generalize picS rk=Pc at *
   have h6':(k != 6)=false:=by simp [h6]
   cases Pc
   all_goals
    go_wp2
    go_ret
    refine ⟨by rw [HKC.out,HJ.out];rfl,by rw [HKC.out];have h:=HT.out;simpa [h6] using h,?_⟩
    exact (but5 (but5 (but5 (but5 (but5 (ButS.of_ext HX2.out) (by constructor <;> omega) _) (by constructor <;> omega) _) (by constructor <;> omega) _) (by constructor <;> omega) _) (by constructor <;> omega) _)
  ·have HT:=Lib.hid (told0 H2.out k h6)
   generalize regS rk=R at *
   generalize picS rk=Pc at *
   have h6':(k != 6)=true:=by simp [h6]
   by_cases k14:k=14
   ·cases Pc
    all_goals
     go_wp2
     go_ret
     refine ⟨by rw [HKC.out,HJ.out];rfl,by rw [HKC.out];have h:=HT.out;simpa [k14] using h,?_⟩
     exact (but5 (but5 (but5 (but5 (but5 (but5 (ButS.of_ext HX2.out) (by constructor <;> omega) _) (by constructor <;> omega) _) (by constructor <;> omega) _) (by constructor <;> omega) _) (by constructor <;> omega) _) (by constructor <;> omega) _)
   ·have k14':(k == 14)=false:=by simp [k14]
    cases Pc
    all_goals
     go_wp2
     go_ret
     refine ⟨by rw [HKC.out,HJ.out];rfl,by rw [HKC.out];have h:=HT.out;simpa [k14,k14'] using h,?_⟩
     exact (but5 (but5 (but5 (but5 (but5 (but5 (ButS.of_ext HX2.out) (by constructor <;> omega) _) (by constructor <;> omega) _) (by constructor <;> omega) _) (by constructor <;> omega) _) (by constructor <;> omega) _) (by constructor <;> omega) _)
open Go.RowKit Utf All Small Build Dec
set_option maxRecDepth 512
def FreshA (m:Nat) (A:Option Addr):Prop:=∀ a:Addr,A=some a→m≤a.block
theorem fresh_none (m:Nat):FreshA m none:=fun a h=>by cases h
theorem FreshA.mono {m k:Nat} {A:Option Addr} (h:FreshA m A) (hk:k≤m):FreshA k A:=fun a ha=>Nat.le_trans hk (h a ha)
theorem Acc.fresh {e sz:Nat} {w0 w:World} {A:Option Addr} {c n:Nat} {cs:List Value} (h:Acc e sz w0 w A c n cs):FreshA w0.heap.size A:=fun a ha=>by
 subst ha
 exact (h.own.lt a.block rfl).1
theorem oper_appT {T e sz byt:Nat} (E:EI T e sz byt) {o:Oper} {a:Act} {K':Act→World→Prop} {Q:Exit→Act→World→Prop} (s x:Operand)
  (ho:o.op=.call { callee:=.builtin .append,args:=#[s,x],argTypes:=#[T,T] })
  (w0 wr:World) (A:Option Addr) (c n:Nat) (cs:List Value) (hs:a.eval s=.slice A n c) (hacc:Acc e sz w0 wr A c n cs)
  (news:List Value) (m m':Nat) (hx:a.eval x=.slice (some ⟨wr.heap.size,0,none⟩) m m') (hm:news.length=m * sz) (h1:∀ u ∈ news,u.oneCell'=true)
  (hb:(n+m) * byt≤140737488355328) (hl:n+m≤maxLen)
  (K:∀ A' c' w',Acc e sz w0 w' A' c' (n+m) (cs++news)→(∀ b,FreshA b A→b≤wr.heap.size→FreshA b A')→wr.grownBy w' (Value.ownBlock (.slice A n c)) →
   K' (a.put o.dst (.slice A' (n+m) c')) w'):o.wp Tryz.prog a (wr.alloc (.cells news.toArray e)) K' Q:=by
 obtain ⟨i,z,hi,hz,hsize,hby,hzs⟩:=E.hi
 have hown:=hacc.own.alloc (.cells news.toArray e)
 have hsz:=hacc.ext.size
 obtain ⟨v',w',hrun,hown',hg,_,hat⟩:=run_append_own_at (P:=Tryz.prog) (wr.alloc (.cells news.toArray e)) w0.heap.size T o.type e i z sz byt E.ht hi hz hsize hby hzs E.pos (.slice A n c) n cs hown
  ⟨wr.heap.size,0,none⟩ m m' news hm (by intro j u hu;simp [Addr.add];split <;> simp_all) h1 hl hb (by simp;omega)
 obtain ⟨A',c',rfl⟩:=own_form hown'
 have hbl:Below w0.heap.size w0 w':=((hacc.ext.alloc hsz _).grown hg (by simp;omega) (fun k hk=>by
  have:=(hown.lt k hk).1;exact this))
 unfold Oper.wp execOp
 simp only [ho,resolve,invoke,builtin,Sem.run_bind,Sem.run_pure,Result.andThen_ok,List.map_toArray,List.map_cons,List.map_nil,hs,hx,hrun]
 refine K A' c' w' ⟨hown',hbl⟩ ?_ ⟨hg.os,hg.tape,hg.output,Nat.le_trans (by simp) hg.size,fun i hi hne=>(hg.block i (by simp;omega) hne).trans (Below.heap_alloc _ _ _ hi)⟩
 intro b hf hb' a' ha
 subst ha
 rcases hat with h | h
 ·cases A with
  | none=>simp [Value.ownBlock] at h
  | some a0 =>
   have e0:a'.block=a0.block:=by simpa [Value.ownBlock] using h
   rw [e0];exact hf a0 rfl
 ·have e0:a'.block=wr.heap.size+1:=by simpa [Value.ownBlock] using h
  omega
theorem wp_appT {T e sz byt:Nat} (E:EI T e sz byt) {ops:Array Oper} {rest:List Oper} {o:Oper} {a:Act} {Q:Exit→Act→World→Prop} (hgd:o.guard=none) (s x:Operand)
  (ho:o.op=.call { callee:=.builtin .append,args:=#[s,x],argTypes:=#[T,T] })
  (w0 wr:World) (A:Option Addr) (c n:Nat) (cs:List Value) (hs:a.eval s=.slice A n c) (hacc:Acc e sz w0 wr A c n cs)
  (news:List Value) (m m':Nat) (hx:a.eval x=.slice (some ⟨wr.heap.size,0,none⟩) m m') (hm:news.length=m * sz) (h1:∀ u ∈ news,u.oneCell'=true)
  (hb:(n+m) * byt≤140737488355328) (hl:n+m≤maxLen)
  (K:∀ A' c' w',Acc e sz w0 w' A' c' (n+m) (cs++news)→(∀ b,FreshA b A→b≤wr.heap.size→FreshA b A')→wr.grownBy w' (Value.ownBlock (.slice A n c)) →
   wpList Tryz.prog ops Q rest (a.put o.dst (.slice A' (n+m) c')) w'):wpList Tryz.prog ops Q (o :: rest) a (wr.alloc (.cells news.toArray e)) :=
 wpList_plain hgd fun _ hK=>oper_appT E s x ho w0 wr A c n cs hs hacc news m m' hx hm h1 hb hl fun A' c' w' h2 h3 h4=>hK _ _ (K A' c' w' h2 h3 h4)
set_option maxRecDepth 100000
theorem utf_allF (s:ByteArray) (w:World) (hs:s.size≤10000000000000) :
  Calls Tryz.prog 88 #[.string s] w fun e w'=>∃ A c,e=.returned (.slice A (charsL s.data.toList).length c)∧Row w' A ((charsL s.data.toList).map (Value.int .i64))∧(charsL s.data.toList).length≤c∧c≤maxLen∧FreshA w.heap.size A∧Ext w w':=by
 go_enter Tryz.func88,Tryz.ntmps88
 go_wp2
 go_loopw [3,5] (fun v _ wr=>∃ (p:Nat) (xs:List Int) (A:Option Addr) (c:Nat),p≤s.size∧v=.slice A xs.length c∧wr.heap[w.heap.size]? = some (.stringIter s p)∧Acc 3 1 w wr A c xs.length (xs.map (Value.int .i64))∧xs.length≤p∧Hid (charsL s.data.toList=xs++charsL (s.data.toList.drop p))) (fun _ _ wr=>s.size - posAt wr w.heap.size)
 case atStart=>exact ⟨0,[],none,0,Nat.zero_le _,rfl,heap_alloc_new w _,(Acc.start _ _ _).step ((Below.refl _ _).alloc (Nat.le_refl _) _),Nat.le_refl _,Lib.hid rfl⟩
 case round =>
  obtain ⟨p,xs,A,c,hp,rfl,hr,hacc,hxp,HC⟩:=hrel
  rcases next_str wr 0 w.heap.size s p hr with ⟨hend,hrun⟩ | ⟨hlt,w2,hrun,hr2,hg2⟩
  ·have hnx:∀ ty,(Instr.next (.pointer (some ⟨w.heap.size,0,none⟩)) true ty).run Tryz.prog wr=_:=fun _=>hrun
   have HX:Hid (charsL s.data.toList=xs):=Lib.hid (by
    rw [HC.out,List.drop_of_length_le (by rw [data_len];omega)]
    exact List.append_nil _)
   clear hrun
   go_wp2
   go_ret
   exact ⟨A,c,by rw [HX.out];rfl,by rw [HX.out];exact hacc.row,by rw [HX.out];exact hacc.cap.1,hacc.cap.2,Acc.fresh hacc,hacc.ext⟩
  ·have hnx:∀ ty,(Instr.next (.pointer (some ⟨w.heap.size,0,none⟩)) true ty).run Tryz.prog wr=_:=fun _=>hrun
   have hne:=hacc.ne_obj hr (iter_no_cells _ _)
   have hacc2:=hacc.turn hg2 hne (Nat.le_refl _)
   have hne2:=hacc2.ne_obj hr2 (iter_no_cells _ _)
   have hwd:=dec_width (drop_ne hlt)
   have hdd:=decode_dec s p
   have hbd:=dec_bd (s.data.toList.drop p)
   have HX:Hid (charsL s.data.toList=(xs++[(dec (s.data.toList.drop p)).1])++charsL (s.data.toList.drop (p+(dec (s.data.toList.drop p)).2))):=Lib.hid (by
    rw [HC.out,chars_cons (drop_ne hlt),List.drop_drop,List.append_assoc]
    rfl)
   rw [← hdd] at HX hwd hbd
   have hl2:(s.data.toList.drop p).length=s.size - p:=by rw [List.length_drop,data_len]
   rw [hl2] at hwd
   have HN1:=Lib.hid hne
   have HN2:=Lib.hid hne2
   clear hrun hdd hacc HC hl2 hne hne2
   generalize (Utf8.decode s p).1=d at *
   generalize (Utf8.decode s p).2=wd at *
   have hd1:(d:Int)≤1114111:=hbd.2
   clear hbd
   obtain ⟨hw1,hw2⟩:=hwd
   go_wp2_with (at_builtin;refine wp_app ei_int rfl _ _ rfl w _ A c xs.length _ rfl hacc2 [.int .i64 d] 1 1 rfl rfl (by simp [Value.oneCell']) (by omega) (by unfold maxLen;omega) ?_;intro A1 c1 w3 hacc3 _ hg3;clear hacc2)
   have hr3:=grown_obj hg3 hr2 HN2.out
   have HP1:=Lib.hid (posAt_of hr3)
   have HP0:=Lib.hid (posAt_of hr)
   go_roundw
   case rel=>exact ⟨p+wd,xs++[(d:Int)],A1,c1,by omega,by simp,hr3,by simpa using hacc3,by simp;omega,HX⟩
   case measure=>rw [HP1.out,HP0.out];omega
theorem utf_startsF (s:ByteArray) (w:World) (hs:s.size≤10000000000000) :
  Calls Tryz.prog 163 #[.string s] w fun e w'=>∃ A c,e=.returned (.slice A ((startsL s.data.toList).length+1) c)∧Row w' A ((startsL s.data.toList++[(s.size:Int)]).map (Value.int .i64))∧FreshA w.heap.size A∧Ext w w':=by
 go_enter Tryz.func163,Tryz.ntmps163
 go_wp2
 go_loopw [3,4] (fun v _ wr=>∃ (p:Nat) (xs:List Int) (A:Option Addr) (c:Nat),p≤s.size∧v=.slice A xs.length c∧wr.heap[w.heap.size]? = some (.stringIter s p)∧Acc 3 1 w wr A c xs.length (xs.map (Value.int .i64))∧xs.length≤p∧Hid (startsL s.data.toList=xs++startsP p (pieces (s.data.toList.drop p)))) (fun _ _ wr=>s.size - posAt wr w.heap.size)
 case atStart=>exact ⟨0,[],none,0,Nat.zero_le _,rfl,heap_alloc_new w _,(Acc.start _ _ _).step ((Below.refl _ _).alloc (Nat.le_refl _) _),Nat.le_refl _,Lib.hid rfl⟩
 case round =>
  obtain ⟨p,xs,A,c,hp,rfl,hr,hacc,hxp,HC⟩:=hrel
  rcases next_str wr 0 w.heap.size s p hr with ⟨hend,hrun⟩ | ⟨hlt,w2,hrun,hr2,hg2⟩
  ·have hnx:∀ ty,(Instr.next (.pointer (some ⟨w.heap.size,0,none⟩)) true ty).run Tryz.prog wr=_:=fun _=>hrun
   have HX:Hid (startsL s.data.toList=xs):=Lib.hid (by
    rw [HC.out,List.drop_of_length_le (by rw [data_len];omega)]
    exact List.append_nil _)
   clear hrun
   go_wp2_with (at_builtin;refine wp_app ei_int rfl _ _ rfl w _ A c xs.length _ rfl hacc [.int .i64 s.size] 1 1 rfl rfl (by simp [Value.oneCell']) (by omega) (by unfold maxLen;omega) ?_;intro A1 c1 w3 hacc3 _ hg3;clear hacc)
   go_ret
   exact ⟨A1,c1,by rw [HX.out];rfl,by rw [HX.out,List.map_append];exact hacc3.row,Acc.fresh hacc3,hacc3.ext⟩
  ·have hnx:∀ ty,(Instr.next (.pointer (some ⟨w.heap.size,0,none⟩)) true ty).run Tryz.prog wr=_:=fun _=>hrun
   have hne:=hacc.ne_obj hr (iter_no_cells _ _)
   have hacc2:=hacc.turn hg2 hne (Nat.le_refl _)
   have hne2:=hacc2.ne_obj hr2 (iter_no_cells _ _)
   have hwd:=dec_width (drop_ne hlt)
   have hdd:=decode_dec s p
   have HX:Hid (startsL s.data.toList=(xs++[(p:Int)])++startsP ((p+(dec (s.data.toList.drop p)).2:Nat):Int) (pieces (s.data.toList.drop (p+(dec (s.data.toList.drop p)).2)))):=Lib.hid (by
    rw [HC.out,starts_cons (drop_ne hlt),List.drop_drop,List.append_assoc];simp)
   rw [← hdd] at HX hwd
   have hl2:(s.data.toList.drop p).length=s.size - p:=by rw [List.length_drop,data_len]
   rw [hl2] at hwd
   have HN1:=Lib.hid hne
   have HN2:=Lib.hid hne2
   clear hrun hdd hacc HC hl2 hne hne2
   generalize (Utf8.decode s p).1=d at *
   generalize (Utf8.decode s p).2=wd at *
   obtain ⟨hw1,hw2⟩:=hwd
   go_wp2_with (at_builtin;refine wp_app ei_int rfl _ _ rfl w _ A c xs.length _ rfl hacc2 [.int .i64 p] 1 1 rfl rfl (by simp [Value.oneCell']) (by omega) (by unfold maxLen;omega) ?_;intro A1 c1 w3 hacc3 _ hg3;clear hacc2)
   have hr3:=grown_obj hg3 hr2 HN2.out
   have HP1:=Lib.hid (posAt_of hr3)
   have HP0:=Lib.hid (posAt_of hr)
   go_roundw
   case rel=>exact ⟨p+wd,xs++[(p:Int)],A1,c1,by omega,by simp,hr3,by simpa using hacc3,by simp;omega,HX⟩
   case measure=>rw [HP1.out,HP0.out];omega
set_option maxRecDepth 512
theorem Row.but {w w':World} {A:Option Addr} {cs:List Value} {T:Nat→Prop} (h:Row w A cs) (hb:ButS T w w') (hf:∀ a:Addr,A=some a→a.block < w.heap.size→¬ T a.block):Row w' A cs:=by
 rcases h with h | ⟨b,off,rfl,hc⟩
 ·exact .inl h
 ·refine .inr ⟨b,off,rfl,fun j v hv=>?_⟩
  have h1:=hc j v hv
  have h2:=block_lt h1
  rw [← h1]
  exact World.cell?_of_block (a:=⟨b,off+j,none⟩) (hb.block b h2 (hf _ rfl h2))
theorem Acc.but {e:Nat} {w0 w w':World} {A:Option Addr} {c n:Nat} {cs:List Value} {T:Nat→Prop} (h:Acc e 1 w0 w A c n cs) (hb:ButS T w w') (hf:∀ a:Addr,A=some a→¬ T a.block) (hT:∀ k,T k→w0.heap.size≤k):Acc e 1 w0 w' A c n cs :=
 ⟨own_move h.own fun k hk=>by
  cases A with
  | none=>simp [Value.ownBlock] at hk
  | some a =>
   have e0:a.block=k:=by simpa [Value.ownBlock] using hk
   subst e0
   exact hb.block _ (h.own.lt _ hk).2 (hf a rfl),h.ext.trans (hb.below h.ext.size hT)⟩
def rkAt (cs:List Int) (k:Nat):List Int:=((cs.take k).map clsZ).reverse
theorem rkAt_succ {cs:List Int} {k:Nat} (h:k < cs.length):rkAt cs (k+1)=clsZ cs[k] :: rkAt cs k:=by
 unfold rkAt
 rw [List.take_succ_eq_append_getElem h,List.map_append,List.reverse_append];rfl
theorem rkAt_len (cs:List Int) (k:Nat):(rkAt cs k).length≤k:=by unfold rkAt;simp;omega
theorem stG_at {cs st:List Int} {k:Nat} (h:k < cs.length) (h2:k < st.length):stG (rkAt cs k) (cs.drop k) (st.drop k)=if joinS (rkAt cs k) (clsZ cs[k]) then stG (rkAt cs (k+1)) (cs.drop (k+1)) (st.drop (k+1)) else st[k] :: stG (rkAt cs (k+1)) (cs.drop (k+1)) (st.drop (k+1)):=by
 rw [List.drop_eq_getElem_cons h,List.drop_eq_getElem_cons h2,rkAt_succ h];rfl
theorem RC.keep {w w':World} {B:Nat} {rk:List Int} (h:RC w B rk) (hk:∀ j,five B j→w'.heap[j]? = w.heap[j]?):RC w' B rk :=
 ⟨(hk _ ⟨by omega,by omega⟩).trans h.any,(hk _ ⟨by omega,by omega⟩).trans h.last,(hk _ ⟨by omega,by omega⟩).trans h.flags,(hk _ ⟨by omega,by omega⟩).trans h.picto,(hk _ ⟨by omega,by omega⟩).trans h.linked⟩
def twoS (B m:Nat) (k:Nat):Prop:=five B k∨m≤k
theorem cst_of (s:List UInt8):cstL s=stG [] (charsL s) (startsL s)++[(s.length:Int)]:=rfl
theorem chars_len_le (s:List UInt8):(charsL s).length≤s.length:=by
 have:=pieces_len s.length s (Nat.le_refl _)
 unfold charsL;rw [List.length_map];exact this
set_option maxRecDepth 100000
theorem starts_ (s:ByteArray) (w:World) (hs:s.size≤1000000) :
  Calls Tryz.prog 86 #[.string s] w fun e w'=>∃ A c,e=.returned (.slice A (cstL s.data.toList).length c)∧Row w' A ((cstL s.data.toList).map (Value.int .i64))∧Ext w w':=by
 have HE:=Lib.hid (cst_of s.data.toList)
 have hcl:(charsL s.data.toList).length≤1000000:=by have:=chars_len_le s.data.toList;rw [data_len] at this;omega
 have HSL:=Lib.hid (startsL_len s.data.toList)
 have HSZ:Hid ((s.data.toList.length:Int)=(s.size:Int)):=Lib.hid (by rw [data_len])
 go_enter Tryz.func86,Tryz.ntmps86
 go_wp2_with fail
 refine (reader_ w).mono ?_
 rintro e w1 ⟨rfl,hRC,hz1,hx1⟩
 unfold rdV
 go_wp2_with fail
 refine (utf_startsF s w1 (by omega)).mono ?_
 rintro e w2 ⟨S,cS,rfl,hS,fS,hx2⟩
 go_wp2_with fail
 refine (utf_allF s w2 (by omega)).mono ?_
 rintro e w3 ⟨C,cC,rfl,hC,_,_,fC,hx3⟩
 have hfS:FreshA (w.heap.size+5) S:=by rw [← hz1];exact fS
 have hfC:FreshA (w.heap.size+5) C:=fC.mono (by have:=hx2.size;omega)
 have hS3:=hS.below hx3 (Nat.le_refl _)
 have hRC3:=(hRC.ext hx2).ext hx3
 have hx13:=(hx1.trans hx2).trans hx3
 have hz3:w.heap.size+5≤w3.heap.size:=by have:=hx2.size;have:=hx3.size;omega
 have HFS:=Lib.hid hfS
 have HFC:=Lib.hid hfC
 have HZ3:=Lib.hid hz3
 have HS3:=Lib.hid hS3
 have HC3:=Lib.hid hC
 clear hfS hfC hz3 hS3 hC hS hRC hx1 hx2 hx3 fS fC hz1
 have HRC3:=Lib.hid hRC3
 have HX:=Lib.hid hx13
 clear hRC3 hx13
 generalize charsL s.data.toList=cs at *
 generalize startsL s.data.toList=st at *
 go_wp2_with fail
 go_loopw [5,14] (fun v i wr=>∃ (k:Nat) (xs:List Int) (A:Option Addr) (c:Nat),k≤cs.length∧i=.int .i64 k∧v=.slice A xs.length c∧xs.length≤k∧Acc 3 1 w wr A c xs.length (xs.map (Value.int .i64))∧FreshA w3.heap.size A∧RC wr w.heap.size (rkAt cs k)∧ButS (twoS w.heap.size w3.heap.size) w3 wr∧Hid (stG [] cs st=xs++stG (rkAt cs k) (cs.drop k) (st.drop k))) (fun _ i _=>cs.length - (intOf i).toNat)
 case atStart=>exact ⟨0,[],none,0,Nat.zero_le _,rfl,rfl,Nat.le_refl _,Acc.start_of _ _ HX.out,fresh_none _,HRC3.out,ButS.refl _ _,Lib.hid rfl⟩
 case round =>
  obtain ⟨k,xs,A,c,hk,rfl,rfl,hxk,hacc,hfA,hRC,hbt,HST⟩:=hrel
  have hSr:Row wr S ((st++[(s.size:Int)]).map (Value.int .i64)):=Row.but HS3.out hbt fun a ha hl=>by
   have h1:=HFS.out a ha
   rintro (h | h)
   ·have:=h.2;omega
   ·omega
  have hCr:Row wr C (cs.map (Value.int .i64)):=Row.but HC3.out hbt fun a ha hl=>by
   have h1:=HFC.out a ha
   rintro (h | h)
   ·have:=h.2;omega
   ·omega
  by_cases hlt:k < cs.length
  ·have hlt2:k < st.length:=by have:=HSL.out;omega
   have HAT:=Lib.hid (stG_at hlt hlt2)
   have HRK:=Lib.hid (rkAt_succ hlt)
   have hrl:=rkAt_len cs k
   obtain ⟨b1,o1,hCe,hc1⟩:=row_int hCr hlt
   obtain ⟨b2,o2,hSe,hc2⟩:=row_int hSr (k:=k) (by simp;omega)
   have hg2:(st++[(s.size:Int)])[k]'(by simp;omega)=st[k]:=List.getElem_append_left hlt2
   rw [hg2] at hc2
   have HST2:Hid (st.length=cs.length):=Lib.hid HSL.out
   have hlen:(k:Int) < (st.length:Int)+1:=by omega
   have HD1:=Lib.hid hc1
   have HD2:=Lib.hid hc2
   have HGY:Hid (((st++[(s.size:Int)]).map (Value.int .i64))[k]? = some (.int .i64 st[k])):=Lib.hid (by
    rw [List.getElem?_map,List.getElem?_append_left hlt2,List.getElem?_eq_getElem hlt2];rfl)
   clear hg2 hc1 hc2
   subst hCe
   subst hSe
   generalize cs[k]=x at *
   generalize st[k]=y at *
   have c1:=HD1.out
   have HA:=Lib.hid hacc
   have HRC:=Lib.hid hRC
   have HBT:=Lib.hid hbt
   have HFA:=Lib.hid hfA
   have HSR:=Lib.hid hSr
   clear hacc hRC hbt hfA hSr hCr
   go_wp2_with fail
   refine (reader1 x _ _ _ HRC.out (by omega)).mono ?_
   rintro e w4 ⟨rfl,hRC4,hb4⟩
   have hA4:=Acc.but HA.out hb4 (fun a ha h=>by have h1:=HFA.out a ha;have h2:=HZ3.out;have h3:=h.2;omega) (fun k hk=>hk.1)
   have hb4':ButS (twoS w.heap.size w3.heap.size) wr w4:=hb4.mono fun k _ hk=>.inl hk
   have hbt4:=HBT.out.trans hb4'
   rw [← HRK.out] at hRC4
   have HRC4:=Lib.hid hRC4
   have HBT4:=Lib.hid hbt4
   have hS4:Row w4 (some ⟨b2,o2,none⟩) ((st++[(s.size:Int)]).map (Value.int .i64)):=Row.but HS3.out hbt4 fun a ha hl=>by
    have h1:=HFS.out a ha
    rintro (h | h)
    ·have:=h.2;omega
    ·omega
   clear hRC4 hb4 hb4' hbt4
   cases hj:joinS (rkAt cs k) (clsZ x)
   ·rw [hj] at HAT
    have c2:w4.cell? ⟨b2,o2+k,none⟩=some (.int .i64 y):=hS4.cell0 HGY.out
    clear hj hS4
    go_wp2_with (at_builtin;refine wp_appT ei_int rfl _ _ rfl w _ A c xs.length _ rfl hA4 [.int .i64 y] 1 1 rfl rfl (by simp [Value.oneCell']) (by omega) (by unfold maxLen;omega) ?_;intro A1 c1 w5 hA5 hf5 hg5;clear hA4)
    have hbt5:ButS (twoS w.heap.size w3.heap.size) w3 w5:=HBT4.out.trans ((ButS.grown hg5).mono fun j _ hj=>by
     cases A with
     | none=>simp [Value.ownBlock] at hj
     | some a =>
      have e0:a.block=j:=by simpa [Value.ownBlock] using hj
      exact .inr (by have:=HFA.out a rfl;omega))
    have hRC5:RC w5 w.heap.size (rkAt cs (k+1)):=RC.keep HRC4.out fun j hj=>hg5.block j (by have:=HBT4.out.size;have:=HZ3.out;have:=hj.2;omega) fun e=>by
     cases A with
     | none=>simp [Value.ownBlock] at e
     | some a =>
      have e0:j=a.block:=by simpa [Value.ownBlock] using e
      have h1:=HFA.out a rfl
      have:=HZ3.out;have:=hj.2;omega
    go_roundw
    case rel=>exact ⟨k+1,xs++[y],A1,c1,by omega,by go_num,by simp,by simp;omega,by simpa using hA5,hf5 _ HFA.out (by have:=HBT4.out.size;omega),hRC5,hbt5,Lib.hid (by rw [HST.out,HAT.out];simp)⟩
    case measure=>simp [intOf];omega
   ·rw [hj] at HAT
    clear hj hS4
    go_wp2_with fail
    go_roundw
    case rel=>exact ⟨k+1,xs,A,c,by omega,by go_num,rfl,by omega,hA4,HFA.out,HRC4.out,HBT4.out,Lib.hid (by rw [HST.out,HAT.out];simp)⟩
    case measure=>simp [intOf];omega
  ·have e:k=cs.length:=by omega
   subst e
   have HX2:Hid (cstL s.data.toList=xs++[(s.size:Int)]):=Lib.hid (by
    rw [HE.out,HST.out,List.drop_of_length_le (Nat.le_refl _),stG,HSZ.out];simp)
   clear HST hSr hCr hRC hbt
   go_wp2_with (at_builtin;refine wp_appT ei_int rfl _ _ rfl w _ A c xs.length _ rfl hacc [.int .i64 s.size] 1 1 rfl rfl (by simp [Value.oneCell']) (by omega) (by unfold maxLen;omega) ?_;intro A1 c1 w5 hA5 hf5 hg5;clear hacc)
   go_ret
   exact ⟨A1,c1,by rw [HX2.out,List.length_append];rfl,by rw [HX2.out,List.map_append];exact hA5.row,hA5.ext⟩
set_option maxRecDepth 512
theorem starts_len_pos (s:List UInt8):1≤(cstL s).length:=by unfold cstL;simp
theorem starts_len_le (s:List UInt8):(cstL s).length≤s.length+1:=by
 have h1:=stG_len (charsL s) [] (startsL s)
 have h2:=chars_len_le s
 unfold cstL;rw [List.length_append,List.length_singleton];omega
theorem len_ (s:ByteArray) (w:World) (hs:s.size≤1000000) :
  Calls Tryz.prog 69 #[.string s] w fun e w'=>e=.returned (.int .i64 ((splitS s.data.toList).length:Nat))∧Ext w w':=by
 have HL:Hid ((((splitS s.data.toList).length:Nat):Int)=((cstL s.data.toList).length:Int) - 1):=Lib.hid (by
  unfold splitS;rw [cuts_len];have:=starts_len_pos s.data.toList;omega)
 have h1:=starts_len_pos s.data.toList
 have h2:=starts_len_le s.data.toList
 rw [data_len] at h2
 go_enter Tryz.func69,Tryz.ntmps69
 go_wp2_with fail
 refine (starts_ s w hs).mono ?_
 rintro e w1 ⟨A,c,rfl,hr,hx⟩
 have h3:IntKind.i64.wrap (((cstL s.data.toList).length:Int) - 1)=((cstL s.data.toList).length:Int) - 1:=by rw [IntKind.wrap_i64];omega
 go_wp2
 go_ret
 exact ⟨by rw [HL.out];rfl,hx⟩
theorem one_ (s:ByteArray) (w:World) (hs:s.size≤1000000) :
  Calls Tryz.prog 33 #[.string s] w fun e w'=>e=.returned (.bool (decide ((splitS s.data.toList).length=1)))∧Ext w w':=by
 go_enter Tryz.func33,Tryz.ntmps33
 go_wp2_with fail
 refine (len_ s w hs).mono ?_
 rintro e w1 ⟨rfl,hx⟩
 go_wp2
 go_ret
 exact ⟨ret_bool (by rw [Bool.eq_iff_iff];simp;omega),hx⟩
def strsV (l:List (List UInt8)):List Value:=l.map fun t=>.string ⟨t.toArray⟩
theorem strsV_len (l:List (List UInt8)):(strsV l).length=l.length:=by unfold strsV;simp
theorem cut_mk (s:ByteArray) (a b:Nat):s.extract a b=⟨((s.data.toList.drop a).take (b - a)).toArray⟩:=bytes_ext (by simp [ByteArray.data_extract,List.take_drop])
theorem take_two {L:List Int} {k:Nat} (hk:k+1 < L.length):L.take (k+2)=L.take k++[L[k],L[k+1]]:=by
 rw [List.take_succ_eq_append_getElem hk,List.take_succ_eq_append_getElem (show k < L.length by omega),List.append_assoc];rfl
theorem take_one {L:List Int} {k:Nat} (hk:k < L.length):L.take (k+1)=L.take k++[L[k]]:=List.take_succ_eq_append_getElem hk
theorem pair_le {L:List Int} (h:L.Pairwise (·≤·)) {k:Nat} (hk:k+1 < L.length):L[k]≤L[k+1]:=List.pairwise_iff_getElem.1 h _ _ _ _ (Nat.lt_succ_self k)
set_option maxRecDepth 100000
theorem split_acc (s:ByteArray) (w:World) (hs:s.size≤1000000) :
  Calls Tryz.prog 43 #[.string s] w fun e w'=>∃ A c,e=.returned (.slice A (splitS s.data.toList).length c)∧Acc 9 1 w w' A c (splitS s.data.toList).length (strsV (splitS s.data.toList)):=by
 have HL:Hid ((splitS s.data.toList)=cutsL s.data.toList (cstL s.data.toList)):=Lib.hid rfl
 have HC:Hid ((splitS s.data.toList).length=(cstL s.data.toList).length - 1):=Lib.hid (cuts_len _ _)
 have hp:=starts_len_pos s.data.toList
 have hq:=starts_len_le s.data.toList
 have HSO:=Lib.hid (cst_sorted s.data.toList)
 have HBD:=Lib.hid (cst_bd s.data.toList)
 rw [data_len] at hq HBD
 go_enter Tryz.func43,Tryz.ntmps43
 go_wp2_with fail
 refine (starts_ s w hs).mono ?_
 rintro e w1 ⟨A0,c0,rfl,hr0,hx⟩
 generalize cstL s.data.toList=L at *
 go_wp2_with fail
 go_loopw [3,5] (fun v i wr=>∃ (k:Nat) (A:Option Addr) (c:Nat),k+1≤L.length∧i=.int .i64 ((k:Int)+1)∧v=.slice A k c∧Acc 9 1 w1 wr A c k (strsV (cutsL s.data.toList (L.take (k+1))))) (fun _ i _=>L.length - (intOf i).toNat)
 case atStart=>exact ⟨0,none,0,by omega,rfl,rfl,by
  have:cutsL s.data.toList (L.take 1)=[]:=List.eq_nil_of_length_eq_zero (by rw [cuts_len];simp;omega)
  rw [this];exact Acc.start _ _ _⟩
 case round =>
  obtain ⟨k,A,c,hk,rfl,rfl,hacc⟩:=hrel
  by_cases hlt:k+1 < L.length
  ·have hlt0:k < L.length:=by omega
   have h1:=HBD.out _ (List.getElem_mem hlt0)
   have h2:=HBD.out _ (List.getElem_mem hlt)
   have h3:=pair_le HSO.out hlt
   have HT:Hid (cutsL s.data.toList (L.take (k+1+1))=cutsL s.data.toList (L.take (k+1))++[(s.data.toList.drop L[k].toNat).take (L[k+1].toNat - L[k].toNat)]):=Lib.hid (by
    rw [take_two hlt,take_one hlt0,cuts_snoc])
   obtain ⟨b,off,rfl,hc1⟩:=row_int hr0 hlt0
   have hc2:w1.cell? ⟨b,off+(k+1),none⟩=some (.int .i64 L[k+1]):=hr0.cell0 (by rw [List.getElem?_map,List.getElem?_eq_getElem hlt];rfl)
   generalize L[k]=x at *
   generalize L[k+1]=y at *
   obtain ⟨a,rfl⟩:=Int.eq_ofNat_of_zero_le h1.1
   obtain ⟨e,rfl⟩:=Int.eq_ofNat_of_zero_le h2.1
   have hae:a≤e:=by omega
   have hes:e≤s.size:=by omega
   have hc1r:=Ext.cell_ hacc.ext hc1
   have hc2r:=Ext.cell_ hacc.ext hc2
   have k1:IntKind.i64.wrap ((k:Int)+1 - 1)=(k:Int):=by rw [IntKind.wrap_i64];omega
   have k0:IntKind.i64.wrap (k:Int)=(k:Int):=by rw [IntKind.wrap_i64];omega
   have k2:(k:Int) < (L.length:Int):=by omega
   have k3:(0:Int)≤(k:Int):=by omega
   have k4:(k:Int)+1 < (L.length:Int):=by omega
   have k5:(0:Int)≤(k:Int)+1:=by omega
   have k6:((k:Int)+1).toNat=k+1:=by omega
   have k7:(a:Int)≤(e:Int):=by omega
   have k8:(e:Int)≤(s.size:Int):=by omega
   have HE:=Lib.hid (cut_mk s a e)
   clear h1 h2 h3
   go_upto_region 6 with fail
   go_region_held3 (fun W=>W.cell? ⟨b,off+k,none⟩=some (.int .i64 a)∧W.cell? ⟨b,off+(k+1),none⟩=some (.int .i64 e))
    (first | exact ⟨hc1r,hc2r⟩ | assumption | exact ⟨Ext.cell_ (Acc.ext (by assumption)) hc1,Ext.cell_ (Acc.ext (by assumption)) hc2⟩ | exact ⟨Ext.cell_ (Ext.drew_ (Ext.alloc_ (Ext.refl _) _)) hc1r,Ext.cell_ (Ext.drew_ (Ext.alloc_ (Ext.refl _) _)) hc2r⟩)
    (first
     | (refine step_app_drew ei_str (by rfl) (.tmp 14) (.tmp 26) (by rfl) w1 wr A c k _ (by simp [Act.eval,Act.put]) hacc [.string (s.extract a e)] 1 1 wr.heap.size (by simp [Act.eval,Act.put]) (by rfl) (by rfl) (by simp [Value.oneCell']) (by omega) (by unfold maxLen;omega) ?_;intro A1 c1 w4 hacc4 _ _))
   all_goals go_wp2_with fail
   all_goals go_roundw
   all_goals first
    | exact ⟨k+1,A1,c1,by omega,by go_num,by simp,by rw [HT.out];unfold strsV;rw [List.map_append];have h:=hacc4;rw [HE.out] at h;exact h⟩
    | (simp [intOf];omega)
  ·have e:L.length=k+1:=by omega
   have HA:Hid (splitS s.data.toList=cutsL s.data.toList (L.take (k+1))):=Lib.hid (by rw [HL.out,List.take_of_length_le (by omega)])
   have HK:Hid ((splitS s.data.toList).length=k):=Lib.hid (by rw [HC.out,e];rfl)
   have k4:¬ ((k:Int)+1 < (L.length:Int)):=by omega
   rw [← HA.out] at hacc
   clear HL HC HA
   go_wp2
   go_ret
   exact ⟨A,c,by rw [HK.out];first | done | rfl,by rw [HK.out];exact ⟨hacc.own.mono hx.size,hx.trans hacc.ext⟩⟩
set_option maxRecDepth 512
theorem split_ (s:ByteArray) (w:World) (hs:s.size≤1000000) :
  Calls Tryz.prog 43 #[.string s] w fun e w'=>∃ A c,e=.returned (.slice A (splitS s.data.toList).length c)∧Row w' A (strsV (splitS s.data.toList))∧Ext w w' :=
 (split_acc s w hs).mono fun e w' ⟨A,c,h1,h2⟩=>⟨A,c,h1,h2.row,h2.ext⟩
theorem ends_ref (k:Int) (w:World):Calls Tryz.prog 152 #[.int .i64 k] w fun e w'=>e=.returned (.bool (brk k))∧w=w':=by
 go_enter Tryz.func152,Tryz.ntmps152
 by_cases h1:k=1
 ·subst h1;go_wp2;go_ret;exact ⟨rfl,rfl⟩
 ·by_cases h2:k=2
  ·subst h2;go_wp2;go_ret;exact ⟨rfl,rfl⟩
  ·by_cases h3:k=3
   ·subst h3;go_wp2;go_ret;exact ⟨rfl,rfl⟩
   ·have e1:(k == 1)=false:=by simp [h1]
    have e2:(k == 2)=false:=by simp [h2]
    have e3:(k == 3)=false:=by simp [h3]
    have HB:Hid (brk k=false):=Lib.hid (by unfold brk;simp [h1,h2,h3])
    go_wp2;go_ret;exact ⟨by rw [HB.out];rfl,rfl⟩
theorem hangul_ref (a b:Int) (w:World):Calls Tryz.prog 153 #[.int .i64 a,.int .i64 b] w fun e w'=>e=.returned (.bool (hanZ a b))∧w=w':=by
 by_cases a9:a=9
 ·subst a9
  have HE:Hid (hanZ 9 b=(b == 9 || b == 10 || b == 12 || b == 13)):=Lib.hid rfl
  go_enter Tryz.func153,Tryz.ntmps153
  by_cases b1:b=9
  ·subst b1;go_wp2;go_ret;exact ⟨by rw [HE.out];rfl,rfl⟩
  ·by_cases b2:b=10
   ·subst b2;go_wp2;go_ret;exact ⟨by rw [HE.out];rfl,rfl⟩
   ·by_cases b3:b=12
    ·subst b3;go_wp2;go_ret;exact ⟨by rw [HE.out];rfl,rfl⟩
    ·have e1:(b == 9)=false:=by simp [b1]
     have e2:(b == 10)=false:=by simp [b2]
     have e3:(b == 12)=false:=by simp [b3]
     go_wp2;go_ret;exact ⟨by rw [HE.out];simp [b1,b2,b3],rfl⟩
 ·by_cases a12:a=12∨a=10
  ·have HE:Hid (hanZ a b=(b == 10 || b == 11)):=Lib.hid (by unfold hanZ;rw [if_neg a9,if_pos a12])
   go_enter Tryz.func153,Tryz.ntmps153
   rcases a12 with rfl | rfl
   all_goals
    by_cases b1:b=10
    ·subst b1;go_wp2;go_ret;exact ⟨by rw [HE.out];rfl,rfl⟩
    ·have e1:(b == 10)=false:=by simp [b1]
     go_wp2;go_ret;exact ⟨by rw [HE.out];simp [b1],rfl⟩
  ·by_cases a13:a=13∨a=11
   ·have HE:Hid (hanZ a b=(b == 11)):=Lib.hid (by unfold hanZ;rw [if_neg a9,if_neg a12,if_pos a13])
    go_enter Tryz.func153,Tryz.ntmps153
    rcases a13 with rfl | rfl
    all_goals (go_wp2;go_ret;exact ⟨by rw [HE.out];rfl,rfl⟩)
   ·have HE:Hid (hanZ a b=false):=Lib.hid (by unfold hanZ;rw [if_neg a9,if_neg a12,if_neg a13])
    have c1:¬ a=12:=fun h=>a12 (.inl h)
    have c2:¬ a=10:=fun h=>a12 (.inr h)
    have c3:¬ a=13:=fun h=>a13 (.inl h)
    have c4:¬ a=11:=fun h=>a13 (.inr h)
    have d0:(a == 9)=false:=by simp [a9]
    have d1:(a == 12)=false:=by simp [c1]
    have d2:(a == 10)=false:=by simp [c2]
    have d3:(a == 13)=false:=by simp [c3]
    have d4:(a == 11)=false:=by simp [c4]
    clear a12 a13
    go_enter Tryz.func153,Tryz.ntmps153
    go_wp2
    go_ret
    exact ⟨by rw [HE.out];rfl,rfl⟩
set_option maxRecDepth 100000
theorem joined_ref (A:Option Addr) (cap n:Nat) (xs:List Int) (x:Int) (w:World) (hn:xs.length=n) (hr:Row w A (xs.map (Value.int .i64))) (hl:n≤1000000) :
  Calls Tryz.prog 68 #[.slice A n cap,.int .i64 x] w fun e w'=>e=.returned (.bool (joinS (rkAt xs n) (clsZ x)))∧Ext w w':=by
 rcases Nat.eq_zero_or_pos n with h0 | h0
 ·subst h0
  have HE:Hid (joinS (rkAt xs 0) (clsZ x)=false):=Lib.hid rfl
  go_enter Tryz.func68,Tryz.ntmps68
  go_wp2
  go_ret
  exact ⟨by rw [HE.out];rfl,Ext.refl _⟩
 ·obtain ⟨m,rfl⟩:∃ m,n=m+1:=⟨n - 1,by omega⟩
  have hlt:m < xs.length:=by omega
  have HRS:=Lib.hid (rkAt_succ hlt)
  have HJ:Hid (∀ l k,joinS (l :: rkAt xs m) k=if l=1∧k=2 then true else if brk l || brk k then false else if hanZ l k || k == 4 || k == 5 || k == 8 || l == 7 then true else if k=14 then l == 5 && picS (rkAt xs m) else k == 6 && regS (l :: rkAt xs m) % 2 == 1):=Lib.hid fun _ _=>rfl
  have HN:=Lib.hid hn
  obtain ⟨b,off,rfl,hc⟩:=row_int hr hlt
  have HR:=Lib.hid hr
  have HX0:Hid (clsZ xs[m]=clsZ xs[m]):=Lib.hid rfl
  have w0:IntKind.i64.wrap (m:Int)=(m:Int):=by rw [IntKind.wrap_i64];omega
  have w1:IntKind.i64.wrap ((m:Int)+1 - 1)=(m:Int):=by rw [IntKind.wrap_i64];omega
  have w2:IntKind.i64.wrap ((m:Int) - 1)=(m:Int) - 1:=by rw [IntKind.wrap_i64];omega
  have w3:IntKind.i64.wrap ((m:Int)+1 - 2)=(m:Int) - 1:=by rw [IntKind.wrap_i64];omega
  have w4:(m:Int) < (m:Int)+1:=by omega
  have w5:(0:Int)≤(m:Int):=by omega
  clear hn hr
  go_enter Tryz.func68,Tryz.ntmps68
  go_wp2_with fail
  refine (of_ref _ _).mono ?_;rintro e u1 ⟨rfl,hx1⟩
  go_wp2_with fail
  refine (of_ref _ _).mono ?_;rintro e u2 ⟨rfl,hx2⟩
  have HX:=Lib.hid (hx1.trans hx2)
  have hb1:=cls_bd xs[m]
  have HREG:Hid (regS (rkAt xs (m+1))=regS (clsZ xs[m] :: rkAt xs m)):=Lib.hid (by rw [HRS.out])
  generalize hkl:clsZ xs[m]=l at *
  generalize hkc:clsZ x=k at *
  have HKC:=Lib.hid hkc
  have HKL:=Lib.hid hkl
  clear hx1 hx2 hc HX0 hkc hkl
  have HJJ:Hid (joinS (rkAt xs (m+1)) (clsZ x)=if l=1∧k=2 then true else if brk l || brk k then false else if hanZ l k || k == 4 || k == 5 || k == 8 || l == 7 then true else if k=14 then l == 5 && picS (rkAt xs m) else k == 6 && regS (rkAt xs (m+1)) % 2 == 1):=Lib.hid (by rw [HKC.out,HREG.out,HRS.out,HJ.out])
  clear HJ HREG HRS HKC
  have G1:Hid (∀ W,Calls Tryz.prog 152 #[.int .i64 l] W fun e w'=>e=.returned (.bool (brk l))∧W=w'):=Lib.hid fun W=>ends_ref l W
  have G2:Hid (∀ W,Calls Tryz.prog 152 #[.int .i64 k] W fun e w'=>e=.returned (.bool (brk k))∧W=w'):=Lib.hid fun W=>ends_ref k W
  have G3:Hid (∀ W,Calls Tryz.prog 153 #[.int .i64 l,.int .i64 k] W fun e w'=>e=.returned (.bool (hanZ l k))∧W=w'):=Lib.hid fun W=>hangul_ref l k W
  by_cases c1:l=1∧k=2
  ·obtain ⟨rfl,rfl⟩:=c1
   go_wp2
   go_ret
   exact ⟨by rw [HJJ.out];rfl,HX.out⟩
  ·rw [if_neg c1] at HJJ
   have hs:(l=1∧(k == 2)=false)∨(l == 1)=false:=by
    by_cases h:l=1
    ·exact .inl ⟨h,by simp;exact fun h2=>c1 ⟨h,h2⟩⟩
    ·exact .inr (by simp [h])
   clear c1
   generalize hb1':brk l=b1 at *
   generalize brk k=b2 at *
   generalize hanZ l k=b3 at *
   have HB1:=Lib.hid hb1'
   clear hb1'
   have tail1:b1=true∨(b1=false∧b2=true)∨(b1=false∧b2=false∧b3=true)∨(b1=false∧b2=false∧b3=false):=by
    cases b1 <;> cases b2 <;> cases b3 <;> simp
   rcases tail1 with rfl | ⟨rfl,rfl⟩ | ⟨rfl,rfl,rfl⟩ | ⟨rfl,rfl,rfl⟩
   ·rcases hs with ⟨rfl,k2⟩ | l1
    all_goals
     go_wp2_with (first | (go_at_call 152;with_reducible refine (G1.out _).mono ?_;rintro e w' ⟨rfl,rfl⟩) | (go_at_call 152;with_reducible refine (G2.out _).mono ?_;rintro e w' ⟨rfl,rfl⟩) | (go_at_call 153;with_reducible refine (G3.out _).mono ?_;rintro e w' ⟨rfl,rfl⟩))
     go_ret
     exact ⟨by rw [HJJ.out];simp,HX.out⟩
   ·rcases hs with ⟨rfl,k2⟩ | l1
    all_goals
     go_wp2_with (first | (go_at_call 152;with_reducible refine (G1.out _).mono ?_;rintro e w' ⟨rfl,rfl⟩) | (go_at_call 152;with_reducible refine (G2.out _).mono ?_;rintro e w' ⟨rfl,rfl⟩) | (go_at_call 153;with_reducible refine (G3.out _).mono ?_;rintro e w' ⟨rfl,rfl⟩))
     go_ret
     exact ⟨by rw [HJJ.out];simp,HX.out⟩
   ·rcases hs with ⟨rfl,k2⟩ | l1
    all_goals
     go_wp2_with (first | (go_at_call 152;with_reducible refine (G1.out _).mono ?_;rintro e w' ⟨rfl,rfl⟩) | (go_at_call 152;with_reducible refine (G2.out _).mono ?_;rintro e w' ⟨rfl,rfl⟩) | (go_at_call 153;with_reducible refine (G3.out _).mono ?_;rintro e w' ⟨rfl,rfl⟩))
     go_ret
     exact ⟨by rw [HJJ.out];simp,HX.out⟩
   ·have l1:(l == 1)=false:=by
     rcases hs with ⟨rfl,_⟩ | h
     ·have:=HB1.out;simp [brk] at this
     ·exact h
    clear hs HB1
    by_cases k4:k=4
    ·subst k4
     go_wp2_with (first | (go_at_call 152;with_reducible refine (G1.out _).mono ?_;rintro e w' ⟨rfl,rfl⟩) | (go_at_call 152;with_reducible refine (G2.out _).mono ?_;rintro e w' ⟨rfl,rfl⟩) | (go_at_call 153;with_reducible refine (G3.out _).mono ?_;rintro e w' ⟨rfl,rfl⟩))
     go_ret
     exact ⟨by rw [HJJ.out];simp,HX.out⟩
    ·have k4':(k == 4)=false:=by simp [k4]
     by_cases k5:k=5
     ·subst k5
      go_wp2_with (first | (go_at_call 152;with_reducible refine (G1.out _).mono ?_;rintro e w' ⟨rfl,rfl⟩) | (go_at_call 152;with_reducible refine (G2.out _).mono ?_;rintro e w' ⟨rfl,rfl⟩) | (go_at_call 153;with_reducible refine (G3.out _).mono ?_;rintro e w' ⟨rfl,rfl⟩))
      go_ret
      exact ⟨by rw [HJJ.out];simp,HX.out⟩
     ·have k5':(k == 5)=false:=by simp [k5]
      by_cases k8:k=8
      ·subst k8
       go_wp2_with (first | (go_at_call 152;with_reducible refine (G1.out _).mono ?_;rintro e w' ⟨rfl,rfl⟩) | (go_at_call 152;with_reducible refine (G2.out _).mono ?_;rintro e w' ⟨rfl,rfl⟩) | (go_at_call 153;with_reducible refine (G3.out _).mono ?_;rintro e w' ⟨rfl,rfl⟩))
       go_ret
       exact ⟨by rw [HJJ.out];simp,HX.out⟩
      ·have k8':(k == 8)=false:=by simp [k8]
       by_cases l7:l=7
       ·subst l7
        go_wp2_with (first | (go_at_call 152;with_reducible refine (G1.out _).mono ?_;rintro e w' ⟨rfl,rfl⟩) | (go_at_call 152;with_reducible refine (G2.out _).mono ?_;rintro e w' ⟨rfl,rfl⟩) | (go_at_call 153;with_reducible refine (G3.out _).mono ?_;rintro e w' ⟨rfl,rfl⟩))
        go_ret
        exact ⟨by rw [HJJ.out];simp [k4',k5',k8'],HX.out⟩
       ·have l7':(l == 7)=false:=by simp [l7]
        by_cases h514:l=5∧k=14
        ·obtain ⟨rfl,rfl⟩:=h514
         have HP:Hid (joinS (rkAt xs (m+1)) (clsZ x)=picS (rkAt xs m)):=Lib.hid (by rw [HJJ.out];simp)
         clear HJJ
         go_wp2_with (first | (go_at_call 152;with_reducible refine (G1.out _).mono ?_;rintro e w' ⟨rfl,rfl⟩) | (go_at_call 152;with_reducible refine (G2.out _).mono ?_;rintro e w' ⟨rfl,rfl⟩) | (go_at_call 153;with_reducible refine (G3.out _).mono ?_;rintro e w' ⟨rfl,rfl⟩))
         go_loopw [7] (fun i wr=>∃ j:Nat,j≤m∧i=.int .i64 ((j:Int) - 1)∧Hid (picS (rkAt xs m)=picS (rkAt xs j))∧Ext w wr) (fun i _=>((intOf i)+1).toNat)
         case atStart=>exact ⟨m,Nat.le_refl _,rfl,Lib.hid rfl,HX.out⟩
         case round =>
          obtain ⟨j,hj,rfl,HJ,hxr⟩:=hrel
          rcases Nat.eq_zero_or_pos j with j0 | j0
          ·subst j0
           have HZ:Hid (picS (rkAt xs 0)=false):=Lib.hid rfl
           go_wp2_with fail
           go_ret
           exact ⟨by rw [HP.out,HJ.out,HZ.out];rfl,hxr⟩
          ·obtain ⟨i,rfl⟩:∃ i,j=i+1:=⟨j - 1,by omega⟩
           have hi:i < xs.length:=by omega
           have HS:=Lib.hid (rkAt_succ hi)
           have hci:wr.cell? ⟨b,off+i,none⟩=some (.int .i64 xs[i]):=(HR.out.below hxr (Nat.le_refl _)).cell0 (by rw [List.getElem?_map,List.getElem?_eq_getElem hi];rfl)
           have i1:((i+1:Nat):Int) - 1=(i:Int):=by omega
           have i2:(0:Int)≤(i:Int):=by omega
           have i3:(i:Int) < (m:Int)+1:=by omega
           have i4:max (i:Int) 0=(i:Int):=by omega
           have i5:IntKind.i64.wrap ((i:Int) - 1)=(i:Int) - 1:=by rw [IntKind.wrap_i64];omega
           rw [i1]
           generalize xs[i]=y at *
           have HXR:=Lib.hid hxr
           clear hxr
           go_wp2_with fail
           refine (of_ref _ _).mono ?_;rintro e u3 ⟨rfl,hx3⟩
           generalize hqy:clsZ y=q at *
           have HQY:=Lib.hid hqy
           clear hqy
           by_cases q4:q=4
           ·subst q4
            have HQ:Hid (picS (rkAt xs (i+1))=picS (rkAt xs i)):=Lib.hid (by rw [HS.out];simp [picS])
            go_wp2_with fail
            go_roundw
            case rel=>exact ⟨i,by omega,by go_num,Lib.hid (by rw [HJ.out,HQ.out]),HXR.out.trans hx3⟩
            case measure=>first | (simp [intOf];done) | (simp [intOf];omega)
           ·have q4':(q == 4)=false:=by simp [q4]
            have HQ:Hid (picS (rkAt xs (i+1))=decide (q=14)):=Lib.hid (by rw [HS.out,picS,q4',Bool.false_and,Bool.or_false];exact Bool.eq_iff_iff.2 (by simp))
            have hci3:=Ext.cell_ hx3 hci
            go_wp2_with fail
            refine (of_ref _ _).mono ?_;rintro e u4 ⟨rfl,hx4⟩
            go_wp2_with fail
            go_ret
            exact ⟨ret_bool (by rw [HP.out,HJ.out,HQ.out,HQY.out];rfl),(HXR.out.trans hx3).trans hx4⟩
        ·have HP:Hid (joinS (rkAt xs (m+1)) (clsZ x)=(k == 6 && regS (rkAt xs (m+1)) % 2 == 1)):=Lib.hid (by
          rw [HJJ.out]
          simp only [k4',k5',k8',l7',Bool.or_false,Bool.false_eq_true,if_false]
          by_cases k14:k=14
          ·have l5:(l == 5)=false:=by simp;exact fun h=>h514 ⟨h,k14⟩
           subst k14
           simp [l5]
          ·rw [if_neg k14])
         clear HJJ
         have hs2:(l=5∧(k == 14)=false)∨(l == 5)=false:=by
          by_cases h:l=5
          ·exact .inl ⟨h,by simp;exact fun h2=>h514 ⟨h,h2⟩⟩
          ·exact .inr (by simp [h])
         clear h514
         rcases hs2 with ⟨rfl,k14'⟩ | l5'
         all_goals
          go_wp2_with (first | (go_at_call 152;with_reducible refine (G1.out _).mono ?_;rintro e w' ⟨rfl,rfl⟩) | (go_at_call 152;with_reducible refine (G2.out _).mono ?_;rintro e w' ⟨rfl,rfl⟩) | (go_at_call 153;with_reducible refine (G3.out _).mono ?_;rintro e w' ⟨rfl,rfl⟩))
          go_loopw [8,9] (fun n i wr=>∃ j d:Nat,j≤m+1∧d+j≤m+1∧i=.int .i64 ((j:Int) - 1)∧n=.int .i64 d∧Hid (regS (rkAt xs (m+1))=d+regS (rkAt xs j))∧Ext w wr) (fun _ i _=>((intOf i)+1).toNat)
          case atStart=>exact ⟨m+1,0,Nat.le_refl _,by omega,by go_num,rfl,Lib.hid (by simp),HX.out⟩
          case round =>
           obtain ⟨j,d,hj,hd,rfl,rfl,HJ,hxr⟩:=hrel
           rcases Nat.eq_zero_or_pos j with j0 | j0
           ·subst j0
            have HZ:Hid (regS (rkAt xs (m+1))=d):=Lib.hid (by rw [HJ.out];rfl)
            by_cases k6:k=6
            ·subst k6
             go_wp2_with fail
             go_ret
             exact ⟨ret_bool (by rw [HP.out,HZ.out,Bool.eq_iff_iff];simp;omega),hxr⟩
            ·have k6':(k == 6)=false:=by simp [k6]
             go_wp2_with fail
             go_ret
             exact ⟨by rw [HP.out,k6'];rfl,hxr⟩
           ·obtain ⟨i,rfl⟩:∃ i,j=i+1:=⟨j - 1,by omega⟩
            have hi:i < xs.length:=by omega
            have HS:=Lib.hid (rkAt_succ hi)
            have hci:wr.cell? ⟨b,off+i,none⟩=some (.int .i64 xs[i]):=(HR.out.below hxr (Nat.le_refl _)).cell0 (by rw [List.getElem?_map,List.getElem?_eq_getElem hi];rfl)
            have i1:((i+1:Nat):Int) - 1=(i:Int):=by omega
            have i2:(0:Int)≤(i:Int):=by omega
            have i3:(i:Int) < (m:Int)+1:=by omega
            have i5:IntKind.i64.wrap ((i:Int) - 1)=(i:Int) - 1:=by rw [IntKind.wrap_i64];omega
            have i6:IntKind.i64.wrap ((d:Int)+1)=(d:Int)+1:=by rw [IntKind.wrap_i64];omega
            rw [i1]
            generalize xs[i]=y at *
            have HXR:=Lib.hid hxr
            clear hxr
            go_wp2_with fail
            refine (of_ref _ _).mono ?_;rintro e u3 ⟨rfl,hx3⟩
            generalize clsZ y=q at *
            by_cases q6:q=6
            ·subst q6
             have HQ:Hid (regS (rkAt xs (i+1))=regS (rkAt xs i)+1):=Lib.hid (by rw [HS.out];simp [regS])
             go_wp2_with fail
             go_roundw
             case rel=>exact ⟨i,d+1,by omega,by omega,by go_num,by go_num,Lib.hid (by rw [HJ.out,HQ.out];omega),HXR.out.trans hx3⟩
             case measure=>first | (simp [intOf];done) | (simp [intOf];omega)
            ·have q6':(q != 6)=true:=by simp [q6]
             have HZ:Hid (regS (rkAt xs (m+1))=d):=Lib.hid (by rw [HJ.out,HS.out];simp [regS,q6])
             by_cases k6:k=6
             ·subst k6
              go_wp2_with fail
              go_ret
              exact ⟨ret_bool (by rw [HP.out,HZ.out,Bool.eq_iff_iff];simp;omega),HXR.out.trans hx3⟩
             ·have k6':(k == 6)=false:=by simp [k6]
              go_wp2_with fail
              go_ret
              exact ⟨by rw [HP.out,k6'];rfl,HXR.out.trans hx3⟩
theorem ref_allC (s:ByteArray) (w:World) (hs:s.size≤1000000000000) :
  Calls Tryz.prog 37 #[.string s] w fun e w'=>∃ A c B d,e=.returned (.tuple #[.slice A (charsL s.data.toList).length c,.slice B ((startsL s.data.toList).length+1) d,.bool (validL s.data.toList)]) ∧
   Row w' A ((charsL s.data.toList).map (Value.int .i64))∧Row w' B ((startsL s.data.toList++[(s.size:Int)]).map (Value.int .i64))∧(charsL s.data.toList).length≤c∧c≤maxLen∧Ext w w':=by
 go_enter Tryz.func37,Tryz.ntmps37
 go_wp2
 go_loopw [5,6,7,8] (fun v u vl at_ wr=>∃ (p:Nat) (xs st:List Int) (b:Bool) (A:Option Addr) (c:Nat) (B:Option Addr) (d:Nat),p≤s.size∧at_=.int .i64 p∧vl=.bool b∧v=.slice A xs.length c∧u=.slice B st.length d ∧
   Acc 3 1 w wr A c xs.length (xs.map (Value.int .i64))∧Acc 3 1 w wr B d st.length (st.map (Value.int .i64))∧Apart A B∧xs.length≤p∧st.length≤p ∧
   Hid (charsL s.data.toList=xs++charsL (s.data.toList.drop p))∧Hid (startsL s.data.toList=st++startsP p (pieces (s.data.toList.drop p)))∧Hid (validL s.data.toList=(b && validL (s.data.toList.drop p)))) (fun _ _ _ at_ _=>s.size - (intOf at_).toNat)
 case atStart=>exact ⟨0,[],[],true,none,0,none,0,Nat.zero_le _,rfl,rfl,rfl,rfl,Acc.start _ _ _,Acc.start _ _ _,apart_none _,Nat.le_refl _,Nat.le_refl _,Lib.hid rfl,Lib.hid rfl,Lib.hid (by simp)⟩
 case round =>
  obtain ⟨p,xs,st,vb,A,c,B,d,hp,rfl,rfl,rfl,rfl,hA,hB,hap,hxp,hsp,HC,HS,HV⟩:=hrel
  by_cases hlt:p < s.size
  ·have hwd:=dec_width (drop_ne hlt)
   have hbd:=dec_bd (s.data.toList.drop p)
   have hl2:(s.data.toList.drop p).length=s.size - p:=by rw [List.length_drop,data_len]
   rw [hl2] at hwd
   have HF:Hid (firstZ (s.extract p s.size).data.toList=((dec (s.data.toList.drop p)).1,(dec (s.data.toList.drop p)).2,okL (s.data.toList.drop p))):=Lib.hid (by rw [drop_data];unfold firstZ;rw [if_neg (drop_ne hlt)])
   have HC2:Hid (charsL s.data.toList=(xs++[(dec (s.data.toList.drop p)).1])++charsL (s.data.toList.drop (p+(dec (s.data.toList.drop p)).2))):=Lib.hid (by
    rw [HC.out,chars_cons (drop_ne hlt),List.drop_drop,List.append_assoc];rfl)
   have HS2:Hid (startsL s.data.toList=(st++[(p:Int)])++startsP ((p+(dec (s.data.toList.drop p)).2:Nat):Int) (pieces (s.data.toList.drop (p+(dec (s.data.toList.drop p)).2)))):=Lib.hid (by
    rw [HS.out,starts_cons (drop_ne hlt),List.drop_drop,List.append_assoc];simp)
   have HV2:Hid (validL s.data.toList=((vb && okL (s.data.toList.drop p)) && validL (s.data.toList.drop (p+(dec (s.data.toList.drop p)).2)))):=Lib.hid (by
    rw [HV.out,valid_cons (drop_ne hlt),List.drop_drop,Bool.and_assoc])
   have hfs:(s.extract p s.size).size≤maxLen:=by unfold maxLen;simp;omega
   have HFS:=Lib.hid hfs
   clear hl2 hfs HC HS HV
   generalize (dec (s.data.toList.drop p)).1=ch at *
   generalize (dec (s.data.toList.drop p)).2=wd at *
   generalize okL (s.data.toList.drop p)=ok at *
   obtain ⟨hw1,hw2⟩:=hwd
   obtain ⟨hb1,hb2⟩:=hbd
   go_wp2_with fail
   refine (ref_first _ _ HFS.out).mono ?_;rintro e w2 ⟨rfl,hx2⟩
   rw [HF.out]
   have hA2:=hA.step hx2
   have hB2:=hB.step hx2
   clear hA hB
   go_wp2_with (first
    | (at_builtin;refine wp_app ei_int rfl (.tmp 24) (.tmp 26) rfl w _ A c xs.length _ rfl hA2 [.int .i64 ch] 1 1 rfl rfl (by simp [Value.oneCell']) (by omega) (by unfold maxLen;omega) ?_;intro A1 c1 w3 hA3 hk3 _;obtain ⟨hB3,hap3⟩:=hk3 _ _ _ _ _ _ hB2 hap;clear hA2 hB2 hk3 hap)
    | (at_builtin;refine wp_app ei_int rfl (.tmp 28) (.tmp 30) rfl w _ B d st.length _ rfl hB3 [.int .i64 p] 1 1 rfl rfl (by simp [Value.oneCell']) (by omega) (by unfold maxLen;omega) ?_;intro B1 d1 w4 hB4 hk4 _;obtain ⟨hA4,hap4⟩:=hk4 _ _ _ _ _ _ hA3 (apart_symm hap3);clear hA3 hB3 hk4 hap3))
   all_goals
    go_roundw
    case rel=>exact ⟨p+wd,xs++[ch],st++[(p:Int)],_,A1,c1,B1,d1,by omega,by go_num,rfl,by simp,by simp,by simpa using hA4,by simpa using hB4,apart_symm hap4,by simp;omega,by simp;omega,HC2,HS2,Lib.hid (by rw [HV2.out];simp_all)⟩
    case measure=>simp [intOf];omega
  ·have e:p=s.size:=by omega
   subst e
   have hd:s.data.toList.drop s.size=[]:=List.drop_of_length_le (by rw [data_len];exact Nat.le_refl _)
   have HC2:Hid (charsL s.data.toList=xs):=Lib.hid (by rw [HC.out,hd];exact List.append_nil _)
   have HS2:Hid (startsL s.data.toList=st):=Lib.hid (by rw [HS.out,hd];exact List.append_nil _)
   have HV2:Hid (validL s.data.toList=vb):=Lib.hid (by rw [HV.out,hd];exact Bool.and_true _)
   clear HC HS HV hd
   go_wp2_with (at_builtin;refine wp_app ei_int rfl _ _ rfl w _ B d st.length _ rfl hB [.int .i64 s.size] 1 1 rfl rfl (by simp [Value.oneCell']) (by omega) (by unfold maxLen;omega) ?_;intro B1 d1 w4 hB4 hk4 _;obtain ⟨hA4,hap4⟩:=hk4 _ _ _ _ _ _ hA (apart_symm hap);clear hA hB hk4 hap)
   go_ret3
   exact ⟨A,c,B1,d1,by rw [HC2.out,HS2.out,HV2.out];rfl,by rw [HC2.out];exact hA4.row,by rw [HS2.out,List.map_append];exact hB4.row,by rw [HC2.out];exact hA4.cap.1,hA4.cap.2,hB4.ext⟩
set_option maxRecDepth 512
theorem Row.take_n {w:World} {A:Option Addr} {xs:List Int} (h:Row w A (xs.map (Value.int .i64))) (k:Nat):Row w A ((xs.take k).map (Value.int .i64)):=by
 have:=Row.take (k:=k) h
 rwa [← List.map_take] at this
theorem rkAt_take (xs:List Int) (k:Nat):rkAt (xs.take k) k=rkAt xs k:=by unfold rkAt;rw [List.take_take,Nat.min_self]
set_option maxRecDepth 100000
theorem starts_ref (s:ByteArray) (w:World) (hs:s.size≤1000000) :
  Calls Tryz.prog 32 #[.string s] w fun e w'=>∃ A c,e=.returned (.slice A (cstL s.data.toList).length c)∧Row w' A ((cstL s.data.toList).map (Value.int .i64))∧Ext w w':=by
 have HE:=Lib.hid (cst_of s.data.toList)
 have hcl:(charsL s.data.toList).length≤1000000:=by have:=chars_len_le s.data.toList;rw [data_len] at this;omega
 have HSL:=Lib.hid (startsL_len s.data.toList)
 have HSZ:Hid ((s.data.toList.length:Int)=(s.size:Int)):=Lib.hid (by rw [data_len])
 go_enter Tryz.func32,Tryz.ntmps32
 go_wp2_with fail
 refine (ref_allC s w (by omega)).mono ?_
 rintro e w1 ⟨C,cC,S,cS,rfl,hC,hS,hcc,hcm,hx1⟩
 have HX1:=Lib.hid hx1
 clear hx1
 generalize charsL s.data.toList=cs at *
 generalize startsL s.data.toList=st at *
 go_wp2_with fail
 go_loopw [6,7] (fun v i wr=>∃ (k:Nat) (xs:List Int) (A:Option Addr) (c:Nat),k≤cs.length∧i=.int .i64 k∧v=.slice A xs.length c∧xs.length≤k∧Acc 3 1 w1 wr A c xs.length (xs.map (Value.int .i64))∧Hid (stG [] cs st=xs++stG (rkAt cs k) (cs.drop k) (st.drop k))) (fun _ i _=>cs.length - (intOf i).toNat)
 case atStart=>exact ⟨0,[],none,0,Nat.zero_le _,rfl,rfl,Nat.le_refl _,Acc.start _ _ _,Lib.hid rfl⟩
 case round =>
  obtain ⟨k,xs,A,c,hk,rfl,rfl,hxk,hacc,HST⟩:=hrel
  by_cases hlt:k < cs.length
  ·have hlt2:k < st.length:=by have:=HSL.out;omega
   have HAT:=Lib.hid (stG_at hlt hlt2)
   have HRK:=Lib.hid (rkAt_succ hlt)
   have hCr:=hC.below hacc.ext (Nat.le_refl _)
   have hSr:=hS.below hacc.ext (Nat.le_refl _)
   obtain ⟨b1,o1,rfl,hc1⟩:=row_int hCr hlt
   obtain ⟨b2,o2,rfl,hc2⟩:=row_int hSr (k:=k) (by simp;omega)
   have hg2:(st++[(s.size:Int)])[k]'(by simp;omega)=st[k]:=List.getElem_append_left hlt2
   rw [hg2] at hc2
   have hnk:(cs.take k).length=k:=by simp;omega
   have HJ:Hid (∀ x W,Ext w1 W→Calls Tryz.prog 68 #[.slice (some ⟨b1,o1,none⟩) k cC,.int .i64 x] W fun e w'=>e=.returned (.bool (joinS (rkAt cs k) (clsZ x)))∧Ext W w'):=Lib.hid fun x W hW=>(joined_ref _ cC k (cs.take k) x W hnk (Row.take_n (hC.below hW (Nat.le_refl _)) k) (by omega)).mono fun e w' ⟨q1,q2⟩=>⟨by rw [q1,rkAt_take],q2⟩
   have k2:(k:Int) < (cs.length:Int):=by omega
   have k3:(0:Int)≤(k:Int):=by omega
   have k4:(k:Int) < (st.length:Int)+1:=by omega
   clear hg2 hnk
   generalize cs[k]=x at *
   generalize st[k]=y at *
   have HA:=Lib.hid hacc
   go_upto_region 6 with fail
   have k5:(k:Int)≤(cC:Int):=by omega
   have k6:k≤cC:=by omega
   go_cut [8] (fun v wx=>v=.bool (joinS (rkAt cs k) (clsZ x))∧Ext wr wx)
   case first =>
    go_region_held3 (fun W=>Ext wr W∧W.cell? ⟨b1,o1+k,none⟩=some (.int .i64 x))
     (first | exact ⟨Ext.drew_ (Ext.refl _),hc1⟩ | (refine (fun h=>⟨h,Ext.cell_ h hc1⟩) ?_;first | assumption | exact Ext.drew_ (by assumption)))
     (first | (go_at_call 68;with_reducible refine (HJ.out _ _ ?_).mono ?_;(first | exact HA.out.ext | exact Ext.drew_ HA.out.ext | exact HA.out.ext.trans (by assumption));rintro e w4 ⟨rfl,hx4⟩;have hE:=(Ext.drew_ (Ext.refl wr)).trans hx4))
    all_goals go_wp2_with fail
    all_goals go_meet
    all_goals exact ⟨rfl,by assumption⟩
   case rest =>
    obtain ⟨rfl,hx4⟩:=hcut
    have hA4:=hacc.step hx4
    have hc2':=Ext.cell_ hx4 hc2
    clear hacc
    cases hj:joinS (rkAt cs k) (clsZ x)
    ·rw [hj] at HAT
     clear hj
     go_wp2_with (at_builtin;refine wp_app ei_int rfl _ _ rfl w1 _ A c xs.length _ rfl hA4 [.int .i64 y] 1 1 rfl rfl (by simp [Value.oneCell']) (by omega) (by unfold maxLen;omega) ?_;intro A1 c1 w5 hA5 _ _;clear hA4)
     go_roundw
     case rel=>exact ⟨k+1,xs++[y],A1,c1,by omega,by go_num,by simp,by simp;omega,by simpa using hA5,Lib.hid (by rw [HST.out,HAT.out];simp)⟩
     case measure=>simp [intOf];omega
    ·rw [hj] at HAT
     clear hj
     go_wp2_with fail
     go_roundw
     case rel=>exact ⟨k+1,xs,A,c,by omega,by go_num,rfl,by omega,hA4,Lib.hid (by rw [HST.out,HAT.out];simp)⟩
     case measure=>simp [intOf];omega
  ·have e:k=cs.length:=by omega
   subst e
   have HX2:Hid (cstL s.data.toList=xs++[(s.size:Int)]):=Lib.hid (by
    rw [HE.out,HST.out,List.drop_of_length_le (Nat.le_refl _),stG,HSZ.out];simp)
   clear HST
   go_wp2_with (at_builtin;refine wp_app ei_int rfl _ _ rfl w1 _ A c xs.length _ rfl hacc [.int .i64 s.size] 1 1 rfl rfl (by simp [Value.oneCell']) (by omega) (by unfold maxLen;omega) ?_;intro A1 c1 w5 hA5 _ _;clear hacc)
   go_ret
   exact ⟨A1,c1,by rw [HX2.out,List.length_append];rfl,by rw [HX2.out,List.map_append];exact hA5.row,HX1.out.trans hA5.ext⟩
theorem split_ref (s:ByteArray) (w:World) (hs:s.size≤1000000) :
  Calls Tryz.prog 9 #[.string s] w fun e w'=>∃ A c,e=.returned (.slice A (splitS s.data.toList).length c)∧Row w' A (strsV (splitS s.data.toList))∧Ext w w':=by
 have HL:Hid ((splitS s.data.toList)=cutsL s.data.toList (cstL s.data.toList)):=Lib.hid rfl
 have HC:Hid ((splitS s.data.toList).length=(cstL s.data.toList).length - 1):=Lib.hid (cuts_len _ _)
 have hp:=starts_len_pos s.data.toList
 have hq:=starts_len_le s.data.toList
 have HSO:=Lib.hid (cst_sorted s.data.toList)
 have HBD:=Lib.hid (cst_bd s.data.toList)
 rw [data_len] at hq HBD
 go_enter Tryz.func9,Tryz.ntmps9
 go_wp2_with fail
 refine (starts_ref s w hs).mono ?_
 rintro e w1 ⟨A0,c0,rfl,hr0,hx⟩
 generalize cstL s.data.toList=L at *
 go_wp2_with fail
 go_loopw [4,5] (fun v i wr=>∃ (k:Nat) (A:Option Addr) (c:Nat),k+1≤L.length∧i=.int .i64 ((k:Int)+1)∧v=.slice A k c∧Acc 9 1 w1 wr A c k (strsV (cutsL s.data.toList (L.take (k+1))))) (fun _ i _=>L.length - (intOf i).toNat)
 case atStart=>exact ⟨0,none,0,by omega,rfl,rfl,by
  have:cutsL s.data.toList (L.take 1)=[]:=List.eq_nil_of_length_eq_zero (by rw [cuts_len];simp;omega)
  rw [this];exact Acc.start _ _ _⟩
 case round =>
  obtain ⟨k,A,c,hk,rfl,rfl,hacc⟩:=hrel
  by_cases hlt:k+1 < L.length
  ·have hlt0:k < L.length:=by omega
   have h1:=HBD.out _ (List.getElem_mem hlt0)
   have h2:=HBD.out _ (List.getElem_mem hlt)
   have h3:=pair_le HSO.out hlt
   have HT:Hid (cutsL s.data.toList (L.take (k+1+1))=cutsL s.data.toList (L.take (k+1))++[(s.data.toList.drop L[k].toNat).take (L[k+1].toNat - L[k].toNat)]):=Lib.hid (by
    rw [take_two hlt,take_one hlt0,cuts_snoc])
   obtain ⟨b,off,rfl,hc1⟩:=row_int hr0 hlt0
   have hc2:w1.cell? ⟨b,off+(k+1),none⟩=some (.int .i64 L[k+1]):=hr0.cell0 (by rw [List.getElem?_map,List.getElem?_eq_getElem hlt];rfl)
   generalize L[k]=x at *
   generalize L[k+1]=y at *
   obtain ⟨a,rfl⟩:=Int.eq_ofNat_of_zero_le h1.1
   obtain ⟨e,rfl⟩:=Int.eq_ofNat_of_zero_le h2.1
   have hae:a≤e:=by omega
   have hes:e≤s.size:=by omega
   have hc1r:=Ext.cell_ hacc.ext hc1
   have hc2r:=Ext.cell_ hacc.ext hc2
   have k1:IntKind.i64.wrap ((k:Int)+1 - 1)=(k:Int):=by rw [IntKind.wrap_i64];omega
   have k0:IntKind.i64.wrap (k:Int)=(k:Int):=by rw [IntKind.wrap_i64];omega
   have k2:(k:Int) < (L.length:Int):=by omega
   have k3:(0:Int)≤(k:Int):=by omega
   have k4:(k:Int)+1 < (L.length:Int):=by omega
   have k5:(0:Int)≤(k:Int)+1:=by omega
   have k6:((k:Int)+1).toNat=k+1:=by omega
   have k7:(a:Int)≤(e:Int):=by omega
   have k8:(e:Int)≤(s.size:Int):=by omega
   have HE:=Lib.hid (cut_mk s a e)
   clear h1 h2 h3
   go_upto_region 6 with fail
   go_region_held3 (fun W=>W.cell? ⟨b,off+k,none⟩=some (.int .i64 a)∧W.cell? ⟨b,off+(k+1),none⟩=some (.int .i64 e))
    (first | exact ⟨hc1r,hc2r⟩ | assumption | exact ⟨Ext.cell_ (Acc.ext (by assumption)) hc1,Ext.cell_ (Acc.ext (by assumption)) hc2⟩ | exact ⟨Ext.cell_ (Ext.drew_ (Ext.alloc_ (Ext.refl _) _)) hc1r,Ext.cell_ (Ext.drew_ (Ext.alloc_ (Ext.refl _) _)) hc2r⟩)
    (first
     | (refine step_app_drew ei_str (by rfl) (.tmp 14) (.tmp 26) (by rfl) w1 wr A c k _ (by simp [Act.eval,Act.put]) hacc [.string (s.extract a e)] 1 1 wr.heap.size (by simp [Act.eval,Act.put]) (by rfl) (by rfl) (by simp [Value.oneCell']) (by omega) (by unfold maxLen;omega) ?_;intro A1 c1 w4 hacc4 _ _))
   all_goals go_wp2_with fail
   all_goals go_roundw
   all_goals first
    | exact ⟨k+1,A1,c1,by omega,by go_num,by simp,by rw [HT.out];unfold strsV;rw [List.map_append];have h:=hacc4;rw [HE.out] at h;exact h⟩
    | (simp [intOf];omega)
  ·have e:L.length=k+1:=by omega
   have HA:Hid (splitS s.data.toList=cutsL s.data.toList (L.take (k+1))):=Lib.hid (by rw [HL.out,List.take_of_length_le (by omega)])
   have HK:Hid ((splitS s.data.toList).length=k):=Lib.hid (by rw [HC.out,e];rfl)
   have k4:¬ ((k:Int)+1 < (L.length:Int)):=by omega
   rw [← HA.out] at hacc
   clear HL HC HA
   go_wp2
   go_ret
   exact ⟨A,⟨c,by rw [HK.out];rfl⟩,hacc.row,hx.trans hacc.ext⟩
set_option maxRecDepth 512
def Tabs (w:World):Prop:=Lib.Utf8Tabs (Tryz.laysValid_ren.g 3) (Tryz.laysValid_ren.g 4) w
theorem Tabs.ext {w w':World} (h:Tabs w) (hx:Ext w w'):Tabs w' :=
 ⟨fun c hc=>Ext.cell_ hx (h.1 c hc),fun i hi=>⟨Ext.cell_ hx (h.2 i hi).1,Ext.cell_ hx (h.2 i hi).2⟩⟩
theorem dec_pair (l:List UInt8):okL l=decide (¬ ((Lib.decodeL l).1=65533∧(Lib.decodeL l).2=1)):=by
 unfold okL dec
 refine decide_eq_decide.2 (not_congr ?_)
 constructor
 ·intro h;injection h with h1 h2;exact ⟨by omega,h2⟩
 ·rintro ⟨h1,h2⟩;rw [h1,h2];rfl
theorem validD_eq:∀ (n:Nat) (l:List UInt8),l.length≤n→Lib.validD l=validL l
 | 0,l,h=>by
  have:l=[]:=List.eq_nil_of_length_eq_zero (by omega)
  subst this;rfl
 | n+1,l,h=>by
  by_cases h0:l=[]
  ·subst h0;rfl
  ·have hw:=dec_width h0
   rw [Lib.validD_step l h0,valid_cons h0,dec_pair]
   have ih:=validD_eq n (l.drop (dec l).2) (by rw [List.length_drop];omega)
   have e:(dec l).2=(Lib.decodeL l).2:=rfl
   rw [e] at ih
   rw [e,← ih]
   by_cases hb:(Lib.decodeL l).1=65533∧(Lib.decodeL l).2=1
   ·rw [if_pos hb];simp [hb]
   ·rw [if_neg hb];simp [hb]
theorem utf_valid (s:ByteArray) (w:World) (hs:s.size≤1000000) (hT:Tabs w):Calls Tryz.prog 182 #[.string s] w fun e w'=>e=.returned (.bool (validL s.data.toList))∧Ext w w':=by
 have cV:Calls Tryz.prog 207 #[.string s] w _:=Any.utf8_ValidString Tryz.laysValid s w (by omega) hT
 have HV:Hid (Lib.validD s.data.toList=validL s.data.toList):=Lib.hid (validD_eq _ _ (Nat.le_refl _))
 go_enter Tryz.func182,Tryz.ntmps182
 go_wp2_with fail
 refine cV.mono ?_
 rintro e w' ⟨rfl,hb⟩
 rw [HV.out]
 go_wp2
 go_ret
 exact ⟨rfl,hb⟩
def wordL (l:List UInt8):Bool:=decide (l.length≤16) && validL l && plainL (charsL l)
def symL (l:List UInt8):Bool:=wordL l && decide ((splitS l).length=1)
theorem word_ (s:ByteArray) (w:World) (hs:s.size≤1000000) (hT:Tabs w):Calls Tryz.prog 123 #[.string s] w fun e w'=>e=.returned (.bool (wordL s.data.toList))∧Ext w w':=by
 have HE:Hid (wordL s.data.toList=(decide (s.size≤16) && validL s.data.toList && plainL (charsL s.data.toList))):=Lib.hid (by unfold wordL;rw [data_len])
 have hcl:(charsL s.data.toList).length≤1000000:=by have:=chars_len_le s.data.toList;rw [data_len] at this;omega
 have HV:Hid (∀ W,Ext w W→Calls Tryz.prog 182 #[.string s] W fun e w'=>e=.returned (.bool (validL s.data.toList))∧Ext W w'):=Lib.hid fun W hW=>utf_valid s W hs (hT.ext hW)
 generalize hv:validL s.data.toList=v at *
 have HVV:=Lib.hid hv
 clear hv hT
 go_enter Tryz.func123,Tryz.ntmps123
 by_cases h16:s.size≤16
 ·have i1:(s.size:Int)≤16:=by omega
  cases v
  ·go_wp2_with (go_at_call 182;with_reducible refine (HV.out _ (Ext.refl _)).mono ?_;rintro e w1 ⟨rfl,hx1⟩)
   go_ret
   exact ⟨by rw [HE.out];simp,hx1⟩
  ·go_wp2_with (go_at_call 182;with_reducible refine (HV.out _ (Ext.refl _)).mono ?_;rintro e w1 ⟨rfl,hx1⟩)
   refine (utf_all s _ (by omega)).mono ?_
   rintro e w2 ⟨A,c,rfl,hr,_,_,hx2⟩
   go_wp2_with fail
   refine (plain_ _ _ _ _ hr (by unfold maxLen;omega)).mono ?_
   rintro e w3 ⟨rfl,hx3⟩
   go_wp2
   go_ret
   exact ⟨by rw [HE.out];simp [h16],(hx1.trans hx2).trans hx3⟩
 ·have i1:¬ ((s.size:Int)≤16):=by omega
  go_wp2
  go_ret
  exact ⟨by rw [HE.out];simp [h16],Ext.refl _⟩
theorem symbol_ (s:ByteArray) (w:World) (hs:s.size≤1000000) (hT:Tabs w):Calls Tryz.prog 134 #[.string s] w fun e w'=>e=.returned (.bool (symL s.data.toList))∧Ext w w':=by
 have HE:Hid (symL s.data.toList=(wordL s.data.toList && decide ((splitS s.data.toList).length=1))):=Lib.hid rfl
 have HW:Hid (Calls Tryz.prog 123 #[.string s] w fun e w'=>e=.returned (.bool (wordL s.data.toList))∧Ext w w'):=Lib.hid (word_ s w hs hT)
 generalize hv:wordL s.data.toList=v at *
 clear hv hT
 go_enter Tryz.func134,Tryz.ntmps134
 cases v
 ·go_wp2_with (go_at_call 123;with_reducible refine HW.out.mono ?_;rintro e w1 ⟨rfl,hx1⟩)
  go_ret
  exact ⟨by rw [HE.out];rfl,hx1⟩
 ·go_wp2_with (go_at_call 123;with_reducible refine HW.out.mono ?_;rintro e w1 ⟨rfl,hx1⟩)
  refine (one_ s _ hs).mono ?_
  rintro e w2 ⟨rfl,hx2⟩
  go_wp2
  go_ret
  exact ⟨by rw [HE.out];simp,hx1.trans hx2⟩
end Go.Proofs.YtcghgkagpkmpeaaGreatDoor.Cls
