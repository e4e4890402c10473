/- Joined by wip/join.py: PaP6 PaP7 PaW1 PaW2 PaW3 PaW4 PaW5 LB18 StLv18 PaW6. -/
import Derived.Test.YtcghgkagpkmpeaaGreatDoorJPa
import Derived.Test.YtcghgkagpkmpeaaGreatDoorJStW
import Derived.Test.YtcghgkagpkmpeaaGreatDoorJItW
import Derived.Test.YtcghgkagpkmpeaaGreatDoorJSys
import Derived.Test.YtcghgkagpkmpeaaGreatDoorJLocE
import Derived.Test.YtcghgkagpkmpeaaGreatDoorJClus
import Derived.Test.YtcghgkagpkmpeaaGreatDoorShelf
set_option linter.unusedVariables false
set_option linter.unusedSimpArgs false
set_option maxHeartbeats 16000000
namespace Go.Proofs.YtcghgkagpkmpeaaGreatDoor.Loc
open Go.RowKit Utf All Small Strs Build EncC Pat Cls Dec Go.Proofs.YtcghgkagpkmpeaaGreatDoor.Sys
def clF (l:Loc) (s:List UInt8):Except Int (Bool × List Int):=fitR s.length (progR l s)
def clE (x:Except Int (Bool × List Int)):Int:=match x with
 | .error e=>e
 | .ok _=>0
def clT (x:Except Int (Bool × List Int)):Bool × List Int:=match x with
 | .error _=>(false,[])
 | .ok t=>t
theorem cl_of {l:Loc} {s:List UInt8} {st:RS} (h:runF RS.ini (kinds l (cleanL s))=.ok st) (hl:s.length≤4096):clF l s=if st.neg=false∧st.ats.length=0 then .error 7 else .ok (st.neg,st.ats):=by
 unfold clF fitR progR
 have h':runF RS.ini ((splitS (cleanL s)).map (kindF l))=.ok st:=h
 rw [if_neg (by omega),h']
theorem cl_err {l:Loc} {s:List UInt8} {e:Int} (h:runF RS.ini (kinds l (cleanL s))=.error e) (hl:s.length≤4096):clF l s=.error e:=by
 unfold clF fitR progR
 have h':runF RS.ini ((splitS (cleanL s)).map (kindF l))=.error e:=h
 rw [if_neg (by omega),h']
theorem cl_long {l:Loc} {s:List UInt8} (hl:4096 < s.length):clF l s=.error 3:=by
 unfold clF fitR
 rw [if_pos hl]
theorem run_takeF {ks:List Int} {k:Nat} (h:k < ks.length) {st:RS} (hs:runF RS.ini (ks.take k)=.ok st):runF RS.ini (ks.take (k+1))=takeF st ks[k]:=by
 rw [List.take_succ_eq_append_getElem h,run_app _ _ _ _ hs]
 cases ht:takeF st ks[k] with
 | error e=>rw [run_err ht]
 | ok t=>rw [run_ok ht];rfl
theorem run_stopF {ks:List Int} {k:Nat} (h:k < ks.length) {st:RS} (hs:runF RS.ini (ks.take k)=.ok st) {e:Int} (he:takeF st ks[k]=.error e):runF RS.ini ks=.error e:=by
 conv=>lhs;rw [← List.take_append_drop k ks]
 rw [run_app _ _ _ _ hs,List.drop_eq_getElem_cons h,run_err he]
theorem take_len {s t:RS} {k:Int} (h:takeF s k=.ok t):t.ats.length≤s.ats.length+1:=by
 unfold takeF at h
 split at h
 ·cases h
 ·split at h
  ·cases h;omega
  ·split at h
   ·cases h
   ·split at h
    ·cases h;simp
    ·split at h
     ·cases h
     ·cases h;simp
theorem run_lenF:∀ (ks:List Int) {s t:RS},runF s ks=.ok t→t.ats.length≤s.ats.length+ks.length
 | [],s,t,h=>by cases h;exact Nat.le_refl _
 | k :: r,s,t,h=>by
  cases hk:takeF s k with
  | error e=>rw [run_err hk] at h;cases h
  | ok u =>
   rw [run_ok hk] at h
   have h1:=run_lenF r h
   have h2:=take_len hk
   simp only [List.length_cons];omega
section
variable {r:Rec} {p:Pt}
theorem shown_cl (h:Both r p) (ho:Outs r p) {d:Dr} (hd:DrOk d) (hl:(textI (itemsF (locOf r p) d)).length≤4096):clF (locOf r p) (textI (itemsF (locOf r p) d))=if d.neg=false∧(atomsF d).length=0 then .error 7 else .ok (d.neg,atomsF d):=by
 obtain ⟨lt,hr⟩:=shown_clip h ho hd
 obtain ⟨_,_,_,_,hp⟩:=shown_kinds h ho hd
 have hr2:runF RS.ini (kinds (locOf r p) (cleanL (textI (itemsF (locOf r p) d))))=.ok ⟨d.neg,atomsF d,lt⟩:=by rw [clean_pln hp];exact hr
 exact cl_of hr2 hl
theorem sevs_cl (h:Both r p) (h7:No7 r) {n:Nat} (hn:n≤4096) (h0:0 < n):clF (locOf r p) (List.replicate n 55)=.ok (false,List.replicate n 7):=by
 have hr:=sevs_clip h h7 n
 have:=cl_of hr (by rw [List.length_replicate];exact hn)
 rw [this,if_neg (fun hq=>by have:=hq.2;simp at this;omega)]
theorem ctl_cl (h:Both r p) {n:Nat} (hn:n+1≤4096):clF (locOf r p) (1 :: List.replicate n 55)=.error 2 :=
 cl_err (ctl_clip h n) (by rw [List.length_cons,List.length_replicate];exact hn)
end
def atB (a:Int):List UInt8:=if a=10 then [46] else [UInt8.ofNat (48+a.toNat)]
def textC (neg:Bool) (ats:List Int):List UInt8:=(if neg then [45] else [])++ats.flatMap atB
theorem textC_snoc (neg:Bool) (ats:List Int) {k:Nat} (h:k < ats.length):textC neg (ats.take (k+1))=textC neg (ats.take k)++atB ats[k]:=by
 unfold textC
 rw [List.take_succ_eq_append_getElem h,List.flatMap_append,List.append_assoc];simp
theorem atB_len (a:Int):(atB a).length=1:=by unfold atB;split <;> rfl
theorem textC_len (neg:Bool) (ats:List Int):(textC neg ats).length≤ats.length+1:=by
 unfold textC
 rw [List.length_append]
 have:(ats.flatMap atB).length=ats.length:=by
  induction ats with
  | nil=>rfl
  | cons a r ih=>rw [List.flatMap_cons,List.length_append,ih,atB_len,List.length_cons];omega
 rw [this]
 split <;> simp <;> omega
theorem blank_p (c:Int) (w:World):Calls Tryz.prog 79 #[.int .i64 c] w fun e w'=>e=.returned (.bool (blankZ c))∧w=w':=by
 have HB:Hid (blankZ c=(decide (9≤c∧c≤13) || (c == 32 || (c == 160 || (c == 8201 || c == 8239))))):=Lib.hid rfl
 generalize blankZ c=bz at *
 go_enter Tryz.func79,Tryz.ntmps79
 by_cases h9:9≤c
 ·by_cases h13:c≤13
  ·go_wp2
   go_ret
   exact ⟨ret_bool (by rw [HB.out,decide_eq_true ⟨h9,h13⟩];rfl),rfl⟩
  ·go_wp2
   all_goals go_ret
   all_goals exact ⟨ret_bool (by rw [HB.out,decide_eq_false (fun h=>absurd h.2 (by omega))];simp_all [Bool.or_assoc]),rfl⟩
 ·have n1:(c == 32)=false:=by simp;omega
  have n2:(c == 160)=false:=by simp;omega
  have n3:(c == 8201)=false:=by simp;omega
  have n4:(c == 8239)=false:=by simp;omega
  go_wp2
  all_goals go_ret
  all_goals exact ⟨ret_bool (by rw [HB.out,decide_eq_false (fun h=>absurd h.1 (by omega)),n1,n2,n3,n4];rfl),rfl⟩
def blanks9:List Int:=[9,10,11,12,13,32,160,8201,8239]
theorem blank_any (c:Int):blanks9.any (fun x=>x == c)=blankZ c:=by
 unfold blanks9 blankZ
 rw [Bool.eq_iff_iff]
 simp
 omega
set_option maxRecDepth 100000
theorem blank_r (c:Int) (w:World):Calls Tryz.prog 39 #[.int .i64 c] w fun e w'=>e=.returned (.bool (blankZ c))∧Ext w w':=by
 have HB:=Lib.hid (blank_any c)
 have hr:Row (w.alloc (.cells (blanks9.map (Value.int .i64)).toArray 3)) (some ⟨w.heap.size,0,none⟩) (blanks9.map (Value.int .i64)):=row_new w _ 3
 have hx:Ext w (w.alloc (.cells (blanks9.map (Value.int .i64)).toArray 3)):=Ext.alloc_ (Ext.refl _) _
 have hl:blanks9.length=9:=rfl
 have HR:=Lib.hid hr
 have HX:=Lib.hid hx
 have HL:=Lib.hid hl
 clear hr hx hl
 generalize blankZ c=bz at *
 go_enter Tryz.func39,Tryz.ntmps39
 go_upto_region 2 with fail
 change Code.wp _ _ _ _ (w.alloc (.cells (blanks9.map (Value.int .i64)).toArray 3))
 generalize w.alloc (.cells (blanks9.map (Value.int .i64)).toArray 3)=w1 at *
 generalize w.heap.size=lb at *
 generalize blanks9=BL at *
 go_wp2
 go_loop [4] (fun i=>∃ k:Nat,k≤9∧i=.int .i64 k∧Hid ((BL.take k).any (fun x=>x == c)=false)) (fun i=>9 - (intOf i).toNat)
 case atStart=>exact ⟨0,Nat.zero_le _,rfl,Lib.hid rfl⟩
 case round =>
  obtain ⟨k,hk,rfl,HK⟩:=hrel
  by_cases hlt:k < 9
  ·have hkl:k < BL.length:=by have:=HL.out;omega
   obtain ⟨b0,o0,hA,hc⟩:=row_int HR.out hkl
   cases hA
   have HS:=Lib.hid (any_snoc (fun x=>x == c) BL k hkl)
   have HM:Hid ((BL[k] == c)=true→BL.any (fun x=>x == c)=true):=Lib.hid fun h=>List.any_eq_true.2 ⟨BL[k],List.getElem_mem hkl,h⟩
   have i1:(k:Int) < 9:=by omega
   have i2:(0:Int)≤(k:Int):=by omega
   rw [Nat.zero_add] at hc
   generalize BL[k]=x at *
   cases hb:(x == c)
   ·have HN:Hid ((BL.take (k+1)).any (fun x=>x == c)=false):=Lib.hid (by rw [HS.out,HK.out];simpa using hb)
    clear HM HS
    go_wp2
    go_round
    case rel=>exact ⟨k+1,by omega,by go_num,HN⟩
    case measure=>simp [intOf];omega
   ·have HT:=Lib.hid (HM.out hb)
    clear HM HS
    go_wp2
    go_ret
    exact ⟨by rw [← HB.out,HT.out];first | done | rfl,HX.out⟩
  ·have e:k=9:=by omega
   subst e
   have HT:Hid (BL.any (fun x=>x == c)=false):=Lib.hid (by have:=HK.out;rwa [List.take_of_length_le (by rw [HL.out];exact Nat.le_refl _)] at this)
   go_wp2
   go_ret
   exact ⟨by rw [← HB.out,HT.out];first | done | rfl,HX.out⟩
set_option maxRecDepth 512
theorem join_enc:∀ (xs:List Int),(∀ x ∈ xs,mayC x=true)→joinL xs=enc xs
 | [],_=>rfl
 | c :: xs,h=>by
  have hc:=h c List.mem_cons_self
  have ih:=join_enc xs fun x hx=>h x (List.mem_cons_of_mem _ hx)
  rw [enc_cons,← ih]
  unfold joinL encB
  rw [List.flatMap_cons,if_pos hc]
  first | rfl | rw [if_pos hc]
theorem clean_eq (s:List UInt8):joinL (charsL s)=cleanL s:=join_enc _ (charsL_may s)
theorem clean_ (s:List UInt8) (w:World) (hs:s.length≤1000000):Calls Tryz.prog 44 #[.string ⟨s.toArray⟩] w fun e w'=>e=.returned (.string ⟨(cleanL s).toArray⟩)∧Ext w w':=by
 have HA:Hid (∀ W,Calls Tryz.prog 88 #[.string ⟨s.toArray⟩] W fun e w'=>∃ A c,e=.returned (.slice A (charsL s).length c)∧Row w' A ((charsL s).map (Value.int .i64))∧Ext W w'):=Lib.hid fun W =>
  (utf_all ⟨s.toArray⟩ W (by rw [sizeL];omega)).mono fun e w' ⟨A,c,h1,h2,_,_,h3⟩=>⟨A,c,h1,h2,h3⟩
 have hl:(charsL s).length≤s.length:=chars_len ⟨s.toArray⟩
 have HJ:Hid (∀ W A c,Row W A ((charsL s).map (Value.int .i64))→Calls Tryz.prog 87 #[.slice A (charsL s).length c] W fun e w'=>e=.returned (.string ⟨(cleanL s).toArray⟩)∧Ext W w'):=Lib.hid fun W A c hr=>by
  have hh:=utf_join A c (charsL s) W hr (by omega)
  rwa [clean_eq] at hh
 clear hl hs
 generalize cleanL s=cs at *
 generalize charsL s=ch at *
 go_enter Tryz.func44,Tryz.ntmps44
 go_wp2_with (first
  | (go_at_call 88;with_reducible refine (HA.out _).mono ?_;rintro e w1 ⟨A,c,rfl,hr,hx⟩;have HJ2:=Lib.hid (HJ.out _ _ c hr))
  | (go_at_call 87;with_reducible refine HJ2.out.mono ?_;rintro e w2 ⟨rfl,hx2⟩))
 go_ret
 exact ⟨rfl,hx.trans hx2⟩
def rowF1 (b:Nat):Value:=.func (.func 72) #[] #[.pointer (some ⟨b,0,none⟩)]
def rowF2:Value:=.func (.func 74) #[] #[]
def rowF3:Value:=.func (.func 77) #[] #[]
def rowF4 (b:Nat):Value:=.func (.func 78) #[] #[.pointer (some ⟨b,0,none⟩)]
theorem infoRow:(Tryz.prog.info? 93).map (·.size)=some 1:=by kernel_rfl
theorem rows_ (g:Nat) (w:World):Calls Tryz.prog 35 #[.pointer (some ⟨g,0,none⟩)] w fun e w'=>∃ b E,e=.returned (.slice E 4 4)∧w'.cell? ⟨b,0,none⟩=some (.pointer (some ⟨g,0,none⟩))∧Row w' E [rowF1 b,rowF2,rowF3,rowF4 b]∧Ext w w':=by
 have b1:=Box.new w 24 [.pointer (some ⟨g,0,none⟩)]
 have hx1:Ext w (w.alloc (.cells #[.pointer (some ⟨g,0,none⟩)] 24)):=Ext.alloc_ (Ext.refl w) _
 have k0:=b1.cell (j:=0) (v:=.pointer (some ⟨g,0,none⟩)) rfl
 have HX1:=Lib.hid hx1
 have HK0:=Lib.hid k0
 clear b1 hx1 k0
 go_enter Tryz.func35,Tryz.ntmps35
 go_upto_region 1 with fail
 change Code.wp _ _ _ _ (w.alloc (.cells #[.pointer (some ⟨g,0,none⟩)] 24))
 generalize w.alloc (.cells #[.pointer (some ⟨g,0,none⟩)] 24)=w1 at *
 generalize w.heap.size=b at *
 go_wp2
 go_ret
 have hx2:Ext w1 (w1.alloc (.cells ([rowF1 b,rowF2,rowF3,rowF4 b]:List Value).toArray 93)):=Ext.alloc_ (Ext.refl w1) _
 exact ⟨b,some ⟨w1.heap.size,0,none⟩,rfl,Ext.cell_ hx2 HK0.out,row_new w1 _ _,HX1.out.trans hx2⟩
def kind2 (u:List UInt8) (c:Int):Int:=if u=encB c then (ofZ c).2 else -1
def kind3 (u:List UInt8):Int:=if u=[45]∨u=[226,136,146] then 12 else if u=[46] then 10 else -1
def kind4 (l:Loc) (u:List UInt8) (c:Int):Int:=if blankZ c=true∨affB l ⟨u.toArray⟩=true then 11 else -1
def firstK (a b c d:Int):Int:=if a ≠ -1 then a else if b ≠ -1 then b else if c ≠ -1 then c else d
theorem of_lo (c:Int):-1≤(ofZ c).2:=by
 unfold ofZ
 cases names.findIdx? (ofP c) with
 | none=>exact Int.le_refl _
 | some i =>
  show -1≤valZ (zeroZ (nameAt i)) c
  unfold valZ
  split <;> omega
theorem kind_first (l:Loc) {u:List UInt8} (h:(splitS u).length=1):kindF l u=firstK (signZ l ⟨u.toArray⟩) (kind2 u (headC u)) (kind3 u) (kind4 l u (headC u)):=by
 have hs:=sign_lo l ⟨u.toArray⟩
 have ho:=of_lo (headC u)
 unfold kindF firstK kind2 kind3 kind4
 rw [if_neg (fun hn=>hn h)]
 generalize signZ l ⟨u.toArray⟩=z at *
 generalize (ofZ (headC u)).2=o at *
 have hend:∀ (a b c:Prop) [Decidable a] [Decidable b] [Decidable c],(if a then (12:Int) else if b then 10 else if c then 11 else -1)=if (if a then (12:Int) else if b then 10 else -1) ≠ -1 then (if a then (12:Int) else if b then 10 else -1) else if c then 11 else -1:=by
  intro a b c _ _ _
  by_cases ha:a
  ·simp [ha]
  ·by_cases hb:b
   ·simp [ha,hb]
   ·simp [ha,hb]
 have hm:¬ ((-1:Int) ≠ -1):=by simp
 by_cases h1:0≤z
 ·rw [if_pos h1,if_pos (show z ≠ -1 by omega)]
 obtain rfl:z=-1:=by omega
 rw [if_neg h1,if_neg hm]
 by_cases h2:u=encB (headC u)
 ·rw [if_pos h2]
  by_cases h3:0≤o
  ·rw [if_pos ⟨h2,h3⟩,if_pos (show o ≠ -1 by omega)]
  ·obtain rfl:o=-1:=by omega
   rw [if_neg (fun hh=>h3 hh.2),if_neg hm]
   exact hend _ _ _
 ·rw [if_neg h2,if_neg (fun hh=>h2 hh.1),if_neg hm]
  exact hend _ _ _
section
variable {W:World} {g:Nat} {l:Loc}
theorem row1 (A B C D:Option Addr) (c d a b bl:Nat) (u:List UInt8) (x:Int) (w:World) (h:LocR w g A B C D c d a b l) (hb:LocB l) (hk:w.cell? ⟨bl,0,none⟩=some (.pointer (some ⟨g,0,none⟩))) :
  Calls Tryz.prog 72 #[.string ⟨u.toArray⟩,.int .i64 x,.pointer (some ⟨bl,0,none⟩)] w fun e w'=>e=.returned (.int .i64 (signZ l ⟨u.toArray⟩))∧Ext w w':=by
 have HS:=Lib.hid (sign_l g A B C D c d a b ⟨u.toArray⟩ l w h hb)
 clear h hb
 generalize signZ l ⟨u.toArray⟩=z at *
 go_enter Tryz.func72,Tryz.ntmps72
 go_wp2_with (go_at_call 73;with_reducible refine HS.out.mono ?_;rintro e w1 ⟨rfl,hx⟩)
 go_ret
 exact ⟨rfl,hx⟩
theorem row2 (u:List UInt8) (x:Int) (w:World) :
  Calls Tryz.prog 74 #[.string ⟨u.toArray⟩,.int .i64 x] w fun e w'=>e=.returned (.int .i64 (kind2 u x))∧Ext w w':=by
 have HK:Hid (kind2 u x=if u=encB x then (ofZ x).2 else -1):=Lib.hid rfl
 have HO:=Lib.hid (sys_of x w)
 have HE:Hid (∀ W,Calls Tryz.prog 76 #[.int .i64 x] W fun e w'=>e=.returned (.string ⟨(encB x).toArray⟩)∧Ext W w'):=Lib.hid fun W=>utf_encode x W
 generalize kind2 u x=z at *
 generalize ofZ x=o at *
 obtain ⟨os,od⟩:=o
 simp only at HK HO
 generalize encB x=eb at *
 go_enter Tryz.func74,Tryz.ntmps74
 by_cases h:u=eb
 ·have j:(u == eb)=true:=by simpa using h
  have HZ:Hid (z=od):=Lib.hid (by rw [HK.out,if_pos h])
  clear h HK
  go_wp2_with (first
   | (go_at_call 75;with_reducible refine HO.out.mono ?_;rintro e w1 ⟨rfl,hx⟩)
   | (go_at_call 76;with_reducible refine (HE.out _).mono ?_;rintro e w2 ⟨rfl,hx2⟩))
  go_ret
  exact ⟨by rw [HZ.out];first | done | rfl,hx.trans hx2⟩
 ·have j:(u == eb)=false:=by simpa using h
  have HZ:Hid (z=-1):=Lib.hid (by rw [HK.out,if_neg h])
  clear h HK
  go_wp2_with (first
   | (go_at_call 75;with_reducible refine HO.out.mono ?_;rintro e w1 ⟨rfl,hx⟩)
   | (go_at_call 76;with_reducible refine (HE.out _).mono ?_;rintro e w2 ⟨rfl,hx2⟩))
  go_ret
  exact ⟨by rw [HZ.out];first | done | rfl,hx.trans hx2⟩
theorem row3 (u:List UInt8) (x:Int) (w:World) :
  Calls Tryz.prog 77 #[.string ⟨u.toArray⟩,.int .i64 x] w fun e w'=>e=.returned (.int .i64 (kind3 u))∧Ext w w':=by
 have HK:Hid (kind3 u=if u=[45]∨u=[226,136,146] then 12 else if u=[46] then 10 else -1):=Lib.hid rfl
 obtain ⟨_,_,_,e45,e46,e8722⟩:=head_45
 have HE1:Hid (∀ W,Calls Tryz.prog 76 #[.int .i64 45] W fun e w'=>e=.returned (.string ⟨#[45]⟩)∧Ext W w'):=Lib.hid fun W=>by have:=utf_encode 45 W;rwa [e45] at this
 have HE2:Hid (∀ W,Calls Tryz.prog 76 #[.int .i64 8722] W fun e w'=>e=.returned (.string ⟨#[226,136,146]⟩)∧Ext W w'):=Lib.hid fun W=>by have:=utf_encode 8722 W;rwa [e8722] at this
 have HE3:Hid (∀ W,Calls Tryz.prog 76 #[.int .i64 46] W fun e w'=>e=.returned (.string ⟨#[46]⟩)∧Ext W w'):=Lib.hid fun W=>by have:=utf_encode 46 W;rwa [e46] at this
 clear e45 e46 e8722
 generalize kind3 u=z at *
 go_enter Tryz.func77,Tryz.ntmps77
 by_cases h1:u=[45]
 ·have HZ:Hid (z=12):=Lib.hid (by rw [HK.out,if_pos (.inl h1)])
  have j1:(u == [45])=true:=by simpa using h1
  clear h1 HK
  go_wp2_with (go_at_call 76;with_reducible refine (HE1.out _).mono ?_;rintro e w1 ⟨rfl,hx1⟩)
  go_ret
  exact ⟨by rw [HZ.out];first | done | rfl,hx1⟩
 have j1:(u == [45])=false:=by simpa using h1
 by_cases h2:u=[226,136,146]
 ·have HZ:Hid (z=12):=Lib.hid (by rw [HK.out,if_pos (.inr h2)])
  have j2:(u == [226,136,146])=true:=by simpa using h2
  clear h1 h2 HK
  go_wp2_with (first
   | (go_at_call 76;with_reducible refine (HE1.out _).mono ?_;rintro e w1 ⟨rfl,hx1⟩)
   | (go_at_call 76;with_reducible refine (HE2.out _).mono ?_;rintro e w2 ⟨rfl,hx2⟩))
  go_ret
  exact ⟨by rw [HZ.out];first | done | rfl,hx1.trans hx2⟩
 have j2:(u == [226,136,146])=false:=by simpa using h2
 by_cases h3:u=[46]
 ·have HZ:Hid (z=10):=Lib.hid (by rw [HK.out,if_neg (by simp [h1,h2]),if_pos h3])
  have j3:(u == [46])=true:=by simpa using h3
  clear h1 h2 h3 HK
  go_wp2_with (first
   | (go_at_call 76;with_reducible refine (HE1.out _).mono ?_;rintro e w1 ⟨rfl,hx1⟩)
   | (go_at_call 76;with_reducible refine (HE2.out _).mono ?_;rintro e w2 ⟨rfl,hx2⟩)
   | (go_at_call 76;with_reducible refine (HE3.out _).mono ?_;rintro e w3 ⟨rfl,hx3⟩))
  go_ret
  exact ⟨by rw [HZ.out];first | done | rfl,hx1.trans (hx2.trans hx3)⟩
 ·have HZ:Hid (z=-1):=Lib.hid (by rw [HK.out,if_neg (by simp [h1,h2]),if_neg h3])
  have j3:(u == [46])=false:=by simpa using h3
  clear h1 h2 h3 HK
  go_wp2_with (first
   | (go_at_call 76;with_reducible refine (HE1.out _).mono ?_;rintro e w1 ⟨rfl,hx1⟩)
   | (go_at_call 76;with_reducible refine (HE2.out _).mono ?_;rintro e w2 ⟨rfl,hx2⟩)
   | (go_at_call 76;with_reducible refine (HE3.out _).mono ?_;rintro e w3 ⟨rfl,hx3⟩))
  go_ret
  exact ⟨by rw [HZ.out];first | done | rfl,hx1.trans (hx2.trans hx3)⟩
theorem row4 (A B C D:Option Addr) (c d a b bl:Nat) (u:List UInt8) (x:Int) (w:World) (h:LocR w g A B C D c d a b l) (M:MayL l) (hk:w.cell? ⟨bl,0,none⟩=some (.pointer (some ⟨g,0,none⟩))) :
  Calls Tryz.prog 78 #[.string ⟨u.toArray⟩,.int .i64 x,.pointer (some ⟨bl,0,none⟩)] w fun e w'=>e=.returned (.int .i64 (kind4 l u x))∧Ext w w':=by
 have HK:Hid (kind4 l u x=if blankZ x=true∨affB l ⟨u.toArray⟩=true then 11 else -1):=Lib.hid rfl
 have HB:=Lib.hid (blank_p x w)
 have HA:=Lib.hid (affix_l g A B C D c d a b ⟨u.toArray⟩ l w h M)
 clear h M
 generalize kind4 l u x=z at *
 generalize blankZ x=bz at *
 generalize affB l ⟨u.toArray⟩=ab at *
 go_enter Tryz.func78,Tryz.ntmps78
 cases bz
 ·cases ab
  ·have HZ:Hid (z=-1):=Lib.hid (by rw [HK.out,if_neg (by simp)])
   clear HK
   go_wp2_with (first
    | (go_at_call 79;with_reducible refine HB.out.mono ?_;rintro e w1 ⟨rfl,rfl⟩)
    | (go_at_call 80;with_reducible refine HA.out.mono ?_;rintro e w2 ⟨rfl,hx2⟩))
   go_ret
   exact ⟨by rw [HZ.out];first | done | rfl,hx2⟩
  ·have HZ:Hid (z=11):=Lib.hid (by rw [HK.out,if_pos (by simp)])
   clear HK
   go_wp2_with (first
    | (go_at_call 79;with_reducible refine HB.out.mono ?_;rintro e w1 ⟨rfl,rfl⟩)
    | (go_at_call 80;with_reducible refine HA.out.mono ?_;rintro e w2 ⟨rfl,hx2⟩))
   go_ret
   exact ⟨by rw [HZ.out];first | done | rfl,hx2⟩
 ·have HZ:Hid (z=11):=Lib.hid (by rw [HK.out,if_pos (by simp)])
  clear HK
  go_wp2_with (go_at_call 79;with_reducible refine HB.out.mono ?_;rintro e w1 ⟨rfl,rfl⟩)
  go_ret
  exact ⟨by rw [HZ.out];first | done | rfl,Ext.refl _⟩
end
theorem told_ (R K:Int) (w:World) (h0:0≤R) (h1:R≤1114111) (hk:1≤K) :
  Calls Tryz.prog 70 #[.int .i32 R,.int .i64 K] w fun e w'=>∃ b,e=.returned (.tuple #[.int .i64 R,.int .i64 K,.bool b])∧w=w':=by
 have j0:(K == 0)=false:=by simp;omega
 have hw:IntKind.i64.wrap R=R:=by rw [IntKind.wrap_i64];omega
 by_cases hr:R=65533
 ·subst hr
  clear hw
  go_enter Tryz.func70,Tryz.ntmps70
  go_wp2
  all_goals go_ret3
  all_goals exact ⟨_,by first | rfl | (simp only [hw];rfl),rfl⟩
 ·have j1:(R != 65533)=true:=by simpa using hr
  go_enter Tryz.func70,Tryz.ntmps70
  go_wp2
  all_goals go_ret3
  all_goals exact ⟨_,by first | rfl | (simp only [hw];rfl),rfl⟩
theorem first_ (u:List UInt8) (w:World) (hT:Tabs w) (h0:u ≠ []) :
  Calls Tryz.prog 34 #[.string ⟨u.toArray⟩] w fun e w'=>∃ b,e=.returned (.tuple #[.int .i64 (headC u),.int .i64 ((dec u).2:Int),.bool b])∧Ext w w':=by
 have cD:Calls Tryz.prog 71 #[.string ⟨u.toArray⟩] w _:=Any.utf8_DecodeRuneInString Tryz.laysDec ⟨u.toArray⟩ w hT
 have hne:(⟨u.toArray⟩:ByteArray).size ≠ 0:=by
  intro h
  have:u.length=0:=h
  exact h0 (List.eq_nil_of_length_eq_zero this)
 have e1:Lib.decodeGo ⟨u.toArray⟩=Lib.decodeL u:=by unfold Lib.decodeGo;rw [if_neg hne];rfl
 rw [e1] at cD
 have e2:((Lib.decodeL u).1:Int)=headC u:=rfl
 have e3:((Lib.decodeL u).2:Int)=((dec u).2:Int):=rfl
 rw [e2,e3] at cD
 have hm:mayC (headC u)=true:=charsL_may u _ (by rw [chars_cons h0];exact List.mem_cons_self)
 have hw:=dec_width h0
 have hb:0≤headC u∧headC u≤1114111:=by
  unfold mayC at hm
  simp at hm
  omega
 obtain ⟨hb0,hb1⟩:=hb
 have HT:=Lib.hid (fun W=>told_ (headC u) ((dec u).2:Int) W hb0 hb1 (by omega))
 have HD:=Lib.hid cD
 clear cD e1 e2 e3 hm hw hne h0 hT
 generalize ((dec u).2:Int)=K at *
 generalize headC u=R at *
 go_enter Tryz.func34,Tryz.ntmps34
 go_wp2_with (first
  | (go_at_call 71;with_reducible refine HD.out.mono ?_;rintro e w1 ⟨rfl,hx1⟩)
  | (go_at_call 70;with_reducible refine (HT.out _).mono ?_;rintro e w2 ⟨b,rfl,rfl⟩))
 go_ret3
 exact ⟨b,rfl,hx1⟩
theorem kind_one {l:Loc} {u:List UInt8} (h:¬ (splitS u).length=1):kindF l u=-1:=by unfold kindF;rw [if_pos h]
set_option maxRecDepth 100000
theorem paste_kind (g:Nat) (A B C D:Option Addr) (c d a b:Nat) (u:List UInt8) (l:Loc) (w:World) (h:LocR w g A B C D c d a b l) (hb:LocB l) (M:MayL l) (hT:Tabs w) (hu:u.length≤1000000) :
  Calls Tryz.prog 10 #[.pointer (some ⟨g,0,none⟩),.string ⟨u.toArray⟩] w fun e w'=>e=.returned (.int .i64 (kindF l u))∧Ext w w':=by
 have HO:Hid (∀ W,Calls Tryz.prog 33 #[.string ⟨u.toArray⟩] W fun e w'=>e=.returned (.bool (decide ((splitS u).length=1)))∧Ext W w'):=Lib.hid fun W=>by
  have:=one_ ⟨u.toArray⟩ W (by rw [sizeL];omega)
  have hd:(⟨u.toArray⟩:ByteArray).data.toList=u:=by simp
  rwa [hd] at this
 by_cases h1:(splitS u).length=1
 ·have hf:=kind_first l h1
  have h0:=one_ne h1
  rw [decide_eq_true h1] at HO
  have HF:Hid (∀ W,Ext w W→Calls Tryz.prog 34 #[.string ⟨u.toArray⟩] W fun e w'=>∃ K b,e=.returned (.tuple #[.int .i64 (headC u),.int .i64 K,.bool b])∧Ext W w'):=Lib.hid fun W hW=>(first_ u W (hT.ext hW) h0).mono fun e w' ⟨b,h1,h2⟩=>⟨_,b,h1,h2⟩
  have HR:Hid (∀ W,Calls Tryz.prog 35 #[.pointer (some ⟨g,0,none⟩)] W fun e w'=>∃ b E,e=.returned (.slice E 4 4)∧w'.cell? ⟨b,0,none⟩=some (.pointer (some ⟨g,0,none⟩))∧Row w' E [rowF1 b,rowF2,rowF3,rowF4 b]∧Ext W w'):=Lib.hid fun W=>rows_ g W
  have HC1:Hid (∀ W bl,Ext w W→W.cell? ⟨bl,0,none⟩=some (.pointer (some ⟨g,0,none⟩))→Calls Tryz.prog 72 #[.string ⟨u.toArray⟩,.int .i64 (headC u),.pointer (some ⟨bl,0,none⟩)] W fun e w'=>e=.returned (.int .i64 (signZ l ⟨u.toArray⟩))∧Ext W w'):=Lib.hid fun W bl hW hk=>row1 A B C D c d a b bl u (headC u) W (h.ext hW) hb hk
  have HC2:Hid (∀ W,Calls Tryz.prog 74 #[.string ⟨u.toArray⟩,.int .i64 (headC u)] W fun e w'=>e=.returned (.int .i64 (kind2 u (headC u)))∧Ext W w'):=Lib.hid fun W=>row2 u (headC u) W
  have HC3:Hid (∀ W,Calls Tryz.prog 77 #[.string ⟨u.toArray⟩,.int .i64 (headC u)] W fun e w'=>e=.returned (.int .i64 (kind3 u))∧Ext W w'):=Lib.hid fun W=>row3 u (headC u) W
  have HC4:Hid (∀ W bl,Ext w W→W.cell? ⟨bl,0,none⟩=some (.pointer (some ⟨g,0,none⟩))→Calls Tryz.prog 78 #[.string ⟨u.toArray⟩,.int .i64 (headC u),.pointer (some ⟨bl,0,none⟩)] W fun e w'=>e=.returned (.int .i64 (kind4 l u (headC u)))∧Ext W w'):=Lib.hid fun W bl hW hk=>row4 A B C D c d a b bl u (headC u) W (h.ext hW) M hk
  have HF0:Hid (kindF l u=firstK (signZ l ⟨u.toArray⟩) (kind2 u (headC u)) (kind3 u) (kind4 l u (headC u))):=Lib.hid hf
  clear hf h0 h1 h hb M hT
  generalize signZ l ⟨u.toArray⟩=z1 at *
  generalize kind2 u (headC u)=z2 at *
  generalize kind3 u=z3 at *
  generalize kind4 l u (headC u)=z4 at *
  generalize kindF l u=kf at *
  generalize headC u=hc at *
  go_enter Tryz.func10,Tryz.ntmps10
  go_upto_region 4 with (first
   | (go_at_call 33;with_reducible refine (HO.out _).mono ?_;rintro e w1 ⟨rfl,hx1⟩)
   | (go_at_call 34;with_reducible refine (HF.out _ hx1).mono ?_;rintro e w2 ⟨K,bb,rfl,hx2⟩))
  have HX2:=Lib.hid (hx1.trans hx2)
  clear hx1 hx2 HO HF
  go_wp2_with (go_at_call 35;with_reducible refine (HR.out _).mono ?_;rintro e w3 ⟨bl,E,rfl,hk,hE,hx3⟩)
  have HX3:=Lib.hid (HX2.out.trans hx3)
  have HKC:=Lib.hid hk
  obtain ⟨eb,eo,rfl,_⟩:=hE.at_ (k:=0) (by simp)
  have HE:=Lib.hid hE
  clear hx3 hk hE HR HX2
  go_loopw [23] (fun i wr=>∃ k:Nat,k≤4∧i=.int .i64 k∧Ext w3 wr∧Hid (0 < k→z1=-1)∧Hid (1 < k→z2=-1)∧Hid (2 < k→z3=-1)∧Hid (3 < k→z4=-1)) (fun i _=>4 - (intOf i).toNat)
  case atStart=>exact ⟨0,Nat.zero_le _,rfl,Ext.refl _,Lib.hid (fun h=>by omega),Lib.hid (fun h=>by omega),Lib.hid (fun h=>by omega),Lib.hid (fun h=>by omega)⟩
  case round =>
   obtain ⟨k,hk,rfl,hx,H1,H2,H3,H4⟩:=hrel
   have hk5:k=0∨k=1∨k=2∨k=3∨k=4:=by omega
   rcases hk5 with rfl | rfl | rfl | rfl | rfl
   ·have hr:=(HE.out.below hx (Nat.le_refl _))
    have hrg:wr.rangeAt eb (eo+0) [rowF1 bl]:=by
     intro j v hv
     obtain rfl:j=0:=by have:=(List.getElem?_eq_some_iff.1 hv).1;simp at this;exact this
     exact hr.cell0 (k:=0) (by rw [← hv];rfl)
    have HRG:=Lib.hid hrg
    have hxa:Ext wr (wr.alloc (.cells ([rowF1 bl]:List Value).toArray 93)):=Ext.alloc_ (Ext.refl _) _
    have HXA:=Lib.hid (hx.trans hxa)
    have c0:=(Box.new wr 93 [rowF1 bl]).cell (j:=0) rfl
    have HK5:=Lib.hid (Ext.cell_ HXA.out HKC.out)
    have HXW:=Lib.hid (HX3.out.trans HXA.out)
    unfold rowF1 at c0 HRG HXA HXW HK5
    clear hr hrg hxa hx
    by_cases hz:z1=-1
    ·have j1:(z1 != -1)=false:=by simpa using hz
     go_wp2_with (first
      | (refine wpList_load_mid rfl 93 (.tmp 25) rfl eb (eo+0) rfl [.func (.func 72) #[] #[.pointer (some ⟨bl,0,none⟩)]] _ HRG.out Tryz.underlying93 rfl infoRow ?_)
      | (refine wpList_store_fresh rfl 93 (.tmp 9) (.tmp 26) rfl ([.func (.func 72) #[] #[.pointer (some ⟨bl,0,none⟩)]]:List Value).toArray 93 _ rfl rfl infoRow rfl (by simp [Value.oneCell']) ?_)
      | (go_at_call 72;with_reducible refine (HC1.out _ bl HXW.out HK5.out).mono ?_;rintro e9 w9 ⟨rfl,hx9⟩))
     go_roundw
     case rel=>exact ⟨1,by omega,by go_num,HXA.out.trans hx9,Lib.hid (fun h=>hz),Lib.hid (fun h=>by omega),Lib.hid (fun h=>by omega),Lib.hid (fun h=>by omega)⟩
     case measure=>simp [intOf]
    ·have j1:(z1 != -1)=true:=by simpa using hz
     have HZ:Hid (kf=z1):=Lib.hid (by rw [HF0.out];unfold firstK;simp [hz])
     go_wp2_with (first
      | (refine wpList_load_mid rfl 93 (.tmp 25) rfl eb (eo+0) rfl [.func (.func 72) #[] #[.pointer (some ⟨bl,0,none⟩)]] _ HRG.out Tryz.underlying93 rfl infoRow ?_)
      | (refine wpList_store_fresh rfl 93 (.tmp 9) (.tmp 26) rfl ([.func (.func 72) #[] #[.pointer (some ⟨bl,0,none⟩)]]:List Value).toArray 93 _ rfl rfl infoRow rfl (by simp [Value.oneCell']) ?_)
      | (go_at_call 72;with_reducible refine (HC1.out _ bl HXW.out HK5.out).mono ?_;rintro e9 w9 ⟨rfl,hx9⟩))
     go_ret
     exact ⟨by rw [HZ.out];first | done | rfl,HXW.out.trans hx9⟩
   ·have hr:=(HE.out.below hx (Nat.le_refl _))
    have hrg:wr.rangeAt eb (eo+1) [rowF2]:=by
     intro j v hv
     obtain rfl:j=0:=by have:=(List.getElem?_eq_some_iff.1 hv).1;simp at this;exact this
     exact hr.cell0 (k:=1) (by rw [← hv];rfl)
    have HRG:=Lib.hid hrg
    have hxa:Ext wr (wr.alloc (.cells ([rowF2]:List Value).toArray 93)):=Ext.alloc_ (Ext.refl _) _
    have HXA:=Lib.hid (hx.trans hxa)
    have c0:=(Box.new wr 93 [rowF2]).cell (j:=0) rfl
    have HK5:=Lib.hid (Ext.cell_ HXA.out HKC.out)
    have HXW:=Lib.hid (HX3.out.trans HXA.out)
    unfold rowF2 at c0 HRG HXA HXW HK5
    clear hr hrg hxa hx
    by_cases hz:z2=-1
    ·have j1:(z2 != -1)=false:=by simpa using hz
     go_wp2_with (first
      | (refine wpList_load_mid rfl 93 (.tmp 25) rfl eb (eo+1) rfl [.func (.func 74) #[] #[]] _ HRG.out Tryz.underlying93 rfl infoRow ?_)
      | (refine wpList_store_fresh rfl 93 (.tmp 9) (.tmp 26) rfl ([.func (.func 74) #[] #[]]:List Value).toArray 93 _ rfl rfl infoRow rfl (by simp [Value.oneCell']) ?_)
      | (go_at_call 74;with_reducible refine (HC2.out _).mono ?_;rintro e9 w9 ⟨rfl,hx9⟩))
     go_roundw
     case rel=>exact ⟨2,by omega,by go_num,HXA.out.trans hx9,Lib.hid (fun h=>H1.out (by omega)),Lib.hid (fun h=>hz),Lib.hid (fun h=>by omega),Lib.hid (fun h=>by omega)⟩
     case measure=>simp [intOf]
    ·have j1:(z2 != -1)=true:=by simpa using hz
     have HZ:Hid (kf=z2):=Lib.hid (by rw [HF0.out];unfold firstK;simp [hz,H1.out])
     go_wp2_with (first
      | (refine wpList_load_mid rfl 93 (.tmp 25) rfl eb (eo+1) rfl [.func (.func 74) #[] #[]] _ HRG.out Tryz.underlying93 rfl infoRow ?_)
      | (refine wpList_store_fresh rfl 93 (.tmp 9) (.tmp 26) rfl ([.func (.func 74) #[] #[]]:List Value).toArray 93 _ rfl rfl infoRow rfl (by simp [Value.oneCell']) ?_)
      | (go_at_call 74;with_reducible refine (HC2.out _).mono ?_;rintro e9 w9 ⟨rfl,hx9⟩))
     go_ret
     exact ⟨by rw [HZ.out];first | done | rfl,HXW.out.trans hx9⟩
   ·have hr:=(HE.out.below hx (Nat.le_refl _))
    have hrg:wr.rangeAt eb (eo+2) [rowF3]:=by
     intro j v hv
     obtain rfl:j=0:=by have:=(List.getElem?_eq_some_iff.1 hv).1;simp at this;exact this
     exact hr.cell0 (k:=2) (by rw [← hv];rfl)
    have HRG:=Lib.hid hrg
    have hxa:Ext wr (wr.alloc (.cells ([rowF3]:List Value).toArray 93)):=Ext.alloc_ (Ext.refl _) _
    have HXA:=Lib.hid (hx.trans hxa)
    have c0:=(Box.new wr 93 [rowF3]).cell (j:=0) rfl
    have HK5:=Lib.hid (Ext.cell_ HXA.out HKC.out)
    have HXW:=Lib.hid (HX3.out.trans HXA.out)
    unfold rowF3 at c0 HRG HXA HXW HK5
    clear hr hrg hxa hx
    by_cases hz:z3=-1
    ·have j1:(z3 != -1)=false:=by simpa using hz
     go_wp2_with (first
      | (refine wpList_load_mid rfl 93 (.tmp 25) rfl eb (eo+2) rfl [.func (.func 77) #[] #[]] _ HRG.out Tryz.underlying93 rfl infoRow ?_)
      | (refine wpList_store_fresh rfl 93 (.tmp 9) (.tmp 26) rfl ([.func (.func 77) #[] #[]]:List Value).toArray 93 _ rfl rfl infoRow rfl (by simp [Value.oneCell']) ?_)
      | (go_at_call 77;with_reducible refine (HC3.out _).mono ?_;rintro e9 w9 ⟨rfl,hx9⟩))
     go_roundw
     case rel=>exact ⟨3,by omega,by go_num,HXA.out.trans hx9,Lib.hid (fun h=>H1.out (by omega)),Lib.hid (fun h=>H2.out (by omega)),Lib.hid (fun h=>hz),Lib.hid (fun h=>by omega)⟩
     case measure=>simp [intOf]
    ·have j1:(z3 != -1)=true:=by simpa using hz
     have HZ:Hid (kf=z3):=Lib.hid (by rw [HF0.out];unfold firstK;simp [hz,H1.out,H2.out])
     go_wp2_with (first
      | (refine wpList_load_mid rfl 93 (.tmp 25) rfl eb (eo+2) rfl [.func (.func 77) #[] #[]] _ HRG.out Tryz.underlying93 rfl infoRow ?_)
      | (refine wpList_store_fresh rfl 93 (.tmp 9) (.tmp 26) rfl ([.func (.func 77) #[] #[]]:List Value).toArray 93 _ rfl rfl infoRow rfl (by simp [Value.oneCell']) ?_)
      | (go_at_call 77;with_reducible refine (HC3.out _).mono ?_;rintro e9 w9 ⟨rfl,hx9⟩))
     go_ret
     exact ⟨by rw [HZ.out];first | done | rfl,HXW.out.trans hx9⟩
   ·have hr:=(HE.out.below hx (Nat.le_refl _))
    have hrg:wr.rangeAt eb (eo+3) [rowF4 bl]:=by
     intro j v hv
     obtain rfl:j=0:=by have:=(List.getElem?_eq_some_iff.1 hv).1;simp at this;exact this
     exact hr.cell0 (k:=3) (by rw [← hv];rfl)
    have HRG:=Lib.hid hrg
    have hxa:Ext wr (wr.alloc (.cells ([rowF4 bl]:List Value).toArray 93)):=Ext.alloc_ (Ext.refl _) _
    have HXA:=Lib.hid (hx.trans hxa)
    have c0:=(Box.new wr 93 [rowF4 bl]).cell (j:=0) rfl
    have HK5:=Lib.hid (Ext.cell_ HXA.out HKC.out)
    have HXW:=Lib.hid (HX3.out.trans HXA.out)
    unfold rowF4 at c0 HRG HXA HXW HK5
    clear hr hrg hxa hx
    by_cases hz:z4=-1
    ·have j1:(z4 != -1)=false:=by simpa using hz
     go_wp2_with (first
      | (refine wpList_load_mid rfl 93 (.tmp 25) rfl eb (eo+3) rfl [.func (.func 78) #[] #[.pointer (some ⟨bl,0,none⟩)]] _ HRG.out Tryz.underlying93 rfl infoRow ?_)
      | (refine wpList_store_fresh rfl 93 (.tmp 9) (.tmp 26) rfl ([.func (.func 78) #[] #[.pointer (some ⟨bl,0,none⟩)]]:List Value).toArray 93 _ rfl rfl infoRow rfl (by simp [Value.oneCell']) ?_)
      | (go_at_call 78;with_reducible refine (HC4.out _ bl HXW.out HK5.out).mono ?_;rintro e9 w9 ⟨rfl,hx9⟩))
     go_roundw
     case rel=>exact ⟨4,by omega,by go_num,HXA.out.trans hx9,Lib.hid (fun h=>H1.out (by omega)),Lib.hid (fun h=>H2.out (by omega)),Lib.hid (fun h=>H3.out (by omega)),Lib.hid (fun h=>hz)⟩
     case measure=>simp [intOf]
    ·have j1:(z4 != -1)=true:=by simpa using hz
     have HZ:Hid (kf=z4):=Lib.hid (by rw [HF0.out];unfold firstK;simp [hz,H1.out,H2.out,H3.out])
     go_wp2_with (first
      | (refine wpList_load_mid rfl 93 (.tmp 25) rfl eb (eo+3) rfl [.func (.func 78) #[] #[.pointer (some ⟨bl,0,none⟩)]] _ HRG.out Tryz.underlying93 rfl infoRow ?_)
      | (refine wpList_store_fresh rfl 93 (.tmp 9) (.tmp 26) rfl ([.func (.func 78) #[] #[.pointer (some ⟨bl,0,none⟩)]]:List Value).toArray 93 _ rfl rfl infoRow rfl (by simp [Value.oneCell']) ?_)
      | (go_at_call 78;with_reducible refine (HC4.out _ bl HXW.out HK5.out).mono ?_;rintro e9 w9 ⟨rfl,hx9⟩))
     go_ret
     exact ⟨by rw [HZ.out];first | done | rfl,HXW.out.trans hx9⟩
   ·have HZ:Hid (kf=-1):=Lib.hid (by rw [HF0.out];unfold firstK;simp [H1.out,H2.out,H3.out,H4.out])
    have HX9:=Lib.hid (HX3.out.trans hx)
    clear hx
    go_wp2
    go_ret
    exact ⟨by rw [HZ.out];first | done | rfl,HX9.out⟩
 ·have HZ:=Lib.hid (kind_one (l:=l) h1)
  rw [decide_eq_false h1] at HO
  generalize kindF l u=kf at *
  clear h hb M hT h1
  go_enter Tryz.func10,Tryz.ntmps10
  go_wp2_with (go_at_call 33;with_reducible refine (HO.out _).mono ?_;rintro e w1 ⟨rfl,hx1⟩)
  go_ret
  exact ⟨by rw [HZ.out];first | done | rfl,hx1⟩
set_option maxRecDepth 512
theorem contains_i (A:Option Addr) (c:Nat) (xs:List Int) (x:Int) (w:World) (hr:Row w A (xs.map (Value.int .i64))) (hl:xs.length≤1000000000) :
  Calls Tryz.prog 89 #[.slice A xs.length c,.int .i64 x] w fun e w'=>e=.returned (.bool (xs.contains x))∧w'=w:=by
 cases xs with
 | nil=>exact Tryz.slices_Contains_int_empty A c x w
 | cons y ys =>
  obtain ⟨b,off,rfl,hc⟩:=hr.at_ (k:=0) (by simp)
  have h:=Tryz.slices_Contains_int b off (y :: ys).length c (y :: ys) x w (Nat.le_refl _) (by omega) (fun j hj=>hc j _ (by rw [List.getElem?_map,List.getElem?_eq_getElem hj,List.getD_eq_getElem?_getD,List.getElem?_eq_getElem hj];rfl))
  rwa [List.take_length] at h
structure Rd (w0 w:World) (rb:Nat) (st:RS) (A:Option Addr) (c:Nat) (S:Option Addr) (cS n:Nat) (ss:List Value):Prop where
 box:Box w rb 103 [.bool st.neg,.slice A st.ats.length c,.bool st.late]
 at_:Acc 3 1 w0 w A c st.ats.length (intV st.ats)
 str:Acc 9 1 w0 w S cS n ss
 le:w0.heap.size≤rb
 ap:Apart A S
section
variable {w0 w w' wr:World} {rb:Nat} {st:RS} {A A' S:Option Addr} {c c' cS n:Nat} {ss:List Value} {k:Int}
theorem Rd.step (h:Rd w0 w rb st A c S cS n ss) (hx:Ext w w'):Rd w0 w' rb st A c S cS n ss:=⟨h.box.ext hx,h.at_.step hx,h.str.step hx,h.le,h.ap⟩
theorem Rd.cells (h:Rd w0 w rb st A c S cS n ss):w.cell? ⟨rb,0,none⟩=some (.bool st.neg)∧w.cell? ⟨rb,1,none⟩=some (.slice A st.ats.length c)∧w.cell? ⟨rb,2,none⟩=some (.bool st.late)∧w.frozen? ⟨rb,0,none⟩=false∧w.frozen? ⟨rb,1,none⟩=false∧w.frozen? ⟨rb,2,none⟩=false :=
 ⟨h.box.cell (j:=0) rfl,h.box.cell (j:=1) rfl,h.box.cell (j:=2) rfl,h.box.frozen 0,h.box.frozen 1,h.box.frozen 2⟩
theorem Rd.bgrown {m:Nat} {X:Option Addr} {cX:Nat} {cs:List Value} (h:Rd w0 w rb st A c S cS n ss) (hX:Acc 3 1 w0 w X cX m cs) (hg:w.grownBy w' (Value.ownBlock (.slice X m cX))):Box w' rb 103 [.bool st.neg,.slice A st.ats.length c,.bool st.late]:=grown_obj hg h.box (acc_box_ne hX h.box (by decide))
theorem Rd.fr (h:Rd w0 w rb st A c S cS n ss) (hg:w.grownBy w' (Value.ownBlock (.slice A st.ats.length c))):w'.cell? ⟨rb,1,none⟩=some (.slice A st.ats.length c)∧w'.frozen? ⟨rb,1,none⟩=false :=
 have hb:=h.bgrown h.at_ hg
 ⟨hb.cell (j:=1) rfl,hb.frozen 1⟩
theorem Rd.push (h:Rd w0 wr rb st A c S cS n ss) (hA:Acc 3 1 w0 w' A' c' (st.ats.length+1) (intV st.ats++[.int .i64 k])) (ho:oth w0 wr w' A A') (hg:wr.grownBy w' (Value.ownBlock (.slice A st.ats.length c))) :
  Rd w0 (w'.setCell ⟨rb,1,none⟩ (.slice A' (st.ats.length+1) c')) rb ⟨st.neg,st.ats++[k],st.late⟩ A' c' S cS n ss:=by
 have hb:=h.bgrown h.at_ hg
 obtain ⟨hS,aS⟩:=ho _ _ _ _ _ _ h.str h.ap
 have hl:(st.ats++[k]).length=st.ats.length+1:=by simp
 have hsg:=setCell_grown w' rb 1 (.slice A' (st.ats.length+1) c')
 refine ⟨?_,?_,Acc.turn hS hsg (acc_box_ne hS hb (by decide)) h.le,h.le,aS⟩
 ·show Box _ rb 103 [.bool st.neg,.slice A' (st.ats++[k]).length c',.bool st.late]
  rw [hl];exact hb.setCell 1 _
 ·show Acc 3 1 w0 _ A' c' (st.ats++[k]).length (intV (st.ats++[k]))
  rw [hl,intV_snoc]
  exact Acc.turn hA hsg (acc_box_ne hA hb (by decide)) h.le
theorem Rd.sign (h:Rd w0 w rb st A c S cS n ss) (b:Bool):Rd w0 ((w.setCell ⟨rb,0,none⟩ (.bool true)).setCell ⟨rb,2,none⟩ (.bool b)) rb ⟨true,st.ats,b⟩ A c S cS n ss:=by
 have h1:=setCell_grown w rb 0 (.bool true)
 have b1:=h.box.setCell 0 (.bool true)
 have a1:=Acc.turn h.at_ h1 (acc_box_ne h.at_ h.box (by decide)) h.le
 have s1:=Acc.turn h.str h1 (acc_box_ne h.str h.box (by decide)) h.le
 have h2:=setCell_grown (w.setCell ⟨rb,0,none⟩ (.bool true)) rb 2 (.bool b)
 exact ⟨b1.setCell 2 _,Acc.turn a1 h2 (acc_box_ne a1 b1 (by decide)) h.le,Acc.turn s1 h2 (acc_box_ne s1 b1 (by decide)) h.le,h.le,h.ap⟩
end
def TakeC (w0:World) (rb:Nat) (st:RS) (S:Option Addr) (cS n:Nat) (ss:List Value) (k:Int) (e:Ending) (w':World):Prop :=
 (∃ x,takeF st k=.error x∧e=.returned (.int .i64 x)∧x ≠ 0∧Ext w0 w')∨(∃ st' A' c',takeF st k=.ok st'∧e=.returned (.int .i64 0)∧Rd w0 w' rb st' A' c' S cS n ss)
set_option maxRecDepth 100000
theorem take_p (w0:World) (rb:Nat) (st:RS) (A:Option Addr) (c:Nat) (S:Option Addr) (cS n:Nat) (ss:List Value) (k:Int) (w:World) (h:Rd w0 w rb st A c S cS n ss) (hl:st.ats.length≤100000) :
  Calls Tryz.prog 45 #[.pointer (some ⟨rb,0,none⟩),.int .i64 k] w (TakeC w0 rb st S cS n ss k):=by
 obtain ⟨q0,q1,q2,g0,g1,g2⟩:=h.cells
 have HH:=Lib.hid h
 have hx:=h.at_.ext
 have HX:=Lib.hid hx
 clear h hx
 have HT:Hid (takeF st k=if k=-1 then .error 2 else if k=11 then .ok st else if st.late=true∨(k=12∧st.neg=true) then .error 5
  else if k=12 then .ok ⟨true,st.ats,decide (0 < st.ats.length)⟩ else if k=10∧10 ∈ st.ats then .error 6 else .ok ⟨st.neg,st.ats++[k],st.late⟩):=Lib.hid rfl
 have HE:Hid (∀ x e w',takeF st k=.error x→e=Ending.returned (.int .i64 x)→x ≠ 0→Ext w0 w'→TakeC w0 rb st S cS n ss k e w'):=Lib.hid fun x e w' h1 h2 h3 h4=>.inl ⟨x,h1,h2,h3,h4⟩
 have HO:Hid (∀ st' A' c' e w',takeF st k=.ok st'→e=Ending.returned (.int .i64 0)→Rd w0 w' rb st' A' c' S cS n ss→TakeC w0 rb st S cS n ss k e w'):=Lib.hid fun st' A' c' e w' h1 h2 h3=>.inr ⟨st',A',c',h1,h2,h3⟩
 generalize TakeC w0 rb st S cS n ss k=QQ at *
 go_enter Tryz.func45,Tryz.ntmps45
 by_cases h1:k=-1
 ·have HR:Hid (takeF st k=.error 2):=Lib.hid (by rw [HT.out,if_pos h1])
  have j1:(k == -1)=true:=by simpa using h1
  clear h1
  go_wp2
  try go_ret
  exact HE.out 2 _ _ HR.out rfl (by decide) HX.out
 have j1:(k == -1)=false:=by simpa using h1
 by_cases h2:k=11
 ·have HR:Hid (takeF st k=.ok st):=Lib.hid (by rw [HT.out,if_neg h1,if_pos h2])
  have j2:(k == 11)=true:=by simpa using h2
  clear h1 h2
  go_wp2
  try go_ret
  exact HO.out st A c _ _ HR.out rfl HH.out
 have j2:(k == 11)=false:=by simpa using h2
 cases hla:st.late
 ·rw [hla] at q2
  by_cases h12:k=12
  ·have j3:(k == 12)=true:=by simpa using h12
   cases hng:st.neg
   ·have HR:Hid (takeF st k=.ok ⟨true,st.ats,decide (0 < st.ats.length)⟩):=Lib.hid (by rw [HT.out,if_neg h1,if_neg h2,if_neg (by simp [hla,hng]),if_pos h12])
    rw [hng] at q0
    have HS:=Lib.hid (HH.out.sign (decide (0 < st.ats.length)))
    clear h1 h2 h12 hng hla
    go_wp2
    try go_ret
    exact HO.out _ A c _ _ HR.out rfl HS.out
   ·have HR:Hid (takeF st k=.error 5):=Lib.hid (by rw [HT.out,if_neg h1,if_neg h2,if_pos (.inr ⟨h12,hng⟩)])
    rw [hng] at q0
    clear h1 h2 h12 hng hla
    go_wp2
    try go_ret
    exact HE.out 5 _ _ HR.out rfl (by decide) HX.out
  ·have j3:(k == 12)=false:=by simpa using h12
   by_cases h10:k=10
   ·have j4:(k == 10)=true:=by simpa using h10
    have HC:=Lib.hid (contains_i A c st.ats 10 w HH.out.at_.row (by omega))
    by_cases hm:10 ∈ st.ats
    ·have HR:Hid (takeF st k=.error 6):=Lib.hid (by rw [HT.out,if_neg h1,if_neg h2,if_neg (by simp [hla,h12]),if_neg h12,if_pos ⟨h10,hm⟩])
     have hcc:st.ats.contains 10=true:=by simpa using hm
     rw [hcc] at HC
     clear h1 h2 h12 h10 hm hla hcc
     go_wp2_with (go_at_call 89;with_reducible refine HC.out.mono ?_;rintro e w1 ⟨rfl,rfl⟩)
     try go_ret
     exact HE.out 6 _ _ HR.out rfl (by decide) HX.out
    ·have HR:Hid (takeF st k=.ok ⟨st.neg,st.ats++[k],st.late⟩):=Lib.hid (by rw [HT.out,if_neg h1,if_neg h2,if_neg (by simp [hla,h12]),if_neg h12,if_neg (fun hq=>hm hq.2)])
     have hcc:st.ats.contains 10=false:=by simpa using hm
     rw [hcc] at HC
     clear h1 h2 h12 hm hla hcc h10
     go_wp2_with (first
      | (go_at_call 89;with_reducible refine HC.out.mono ?_;rintro e w1 ⟨rfl,rfl⟩)
      | (at_builtin;refine wp_app ei_int rfl (.tmp 60) (.tmp 62) rfl w0 _ A c st.ats.length _ rfl HH.out.at_ [.int .i64 k] 1 1 rfl rfl (by simp [Value.oneCell']) (by omega) (by unfold maxLen;omega) ?_;intro A6 c6 w6 hA6 ho6 hg6;obtain ⟨f1,e1⟩:=HH.out.fr hg6))
     try go_ret
     exact HO.out _ A6 c6 _ _ HR.out rfl (HH.out.push hA6 ho6 hg6)
   ·have j4:(k == 10)=false:=by simpa using h10
    have HR:Hid (takeF st k=.ok ⟨st.neg,st.ats++[k],st.late⟩):=Lib.hid (by rw [HT.out,if_neg h1,if_neg h2,if_neg (by simp [hla,h12]),if_neg h12,if_neg (fun hq=>h10 hq.1)])
    clear h1 h2 h12 hla h10
    go_wp2_with (at_builtin;refine wp_app ei_int rfl (.tmp 60) (.tmp 62) rfl w0 _ A c st.ats.length _ rfl HH.out.at_ [.int .i64 k] 1 1 rfl rfl (by simp [Value.oneCell']) (by omega) (by unfold maxLen;omega) ?_;intro A6 c6 w6 hA6 ho6 hg6;obtain ⟨f1,e1⟩:=HH.out.fr hg6)
    try go_ret
    exact HO.out _ A6 c6 _ _ HR.out rfl (HH.out.push hA6 ho6 hg6)
 ·have HR:Hid (takeF st k=.error 5):=Lib.hid (by rw [HT.out,if_neg h1,if_neg h2,if_pos (.inl hla)])
  rw [hla] at q2
  clear h1 h2 hla
  go_wp2
  try go_ret
  exact HE.out 5 _ _ HR.out rfl (by decide) HX.out
set_option maxRecDepth 512
theorem take_q (w0:World) (rb:Nat) (st:RS) (A:Option Addr) (c:Nat) (S:Option Addr) (cS n:Nat) (ss:List Value) (k:Int) (w:World) (h:Rd w0 w rb st A c S cS n ss) (hl:st.ats.length≤100000) :
  Calls Tryz.prog 45 #[.pointer (some ⟨rb,0,none⟩),.int .i64 k] w fun e w'=>∃ ev:Int,e=.returned (.int .i64 ev)∧((ev ≠ 0∧takeF st k=.error ev∧Ext w0 w')∨(ev=0∧∃ st' A' c',takeF st k=.ok st'∧Rd w0 w' rb st' A' c' S cS n ss)):=by
 refine (take_p w0 rb st A c S cS n ss k w h hl).mono fun e w' hq=>?_
 unfold TakeC at hq
 rcases hq with ⟨x,h1,h2,h3,h4⟩ | ⟨st',A',c',h1,h2,h3⟩
 ·exact ⟨x,h2,.inl ⟨h3,h1,h4⟩⟩
 ·exact ⟨0,h2,.inr ⟨rfl,st',A',c',h1,h3⟩⟩
theorem infoClip:(Tryz.prog.info? 48).map (·.size)=some 2:=by kernel_rfl
def zeroC:List Value:=[.bool false,.slice none 0 0]
theorem clus_len {s t:List UInt8} (h:t ∈ splitS s):t.length≤s.length:=by
 have e:=split_join s
 have h2:=(List.sublist_flatten_of_mem h).length_le
 rw [e] at h2
 exact h2
theorem clean_len (s:List UInt8):(cleanL s).length≤4 * s.length:=by
 have h1:=joinL_le (charsL s)
 have h2:(charsL s).length≤s.length:=chars_len ⟨s.toArray⟩
 have e:cleanL s=joinL (charsL s):=(clean_eq s).symm
 rw [e];omega
set_option maxRecDepth 100000
theorem paste_read (g:Nat) (A B C D:Option Addr) (c d a b:Nat) (s:List UInt8) (l:Loc) (w:World) (h:LocR w g A B C D c d a b l) (hb:LocB l) (M:MayL l) (hT:Tabs w) (hl:s.length≤100000) :
  Calls Tryz.prog 16 #[.pointer (some ⟨g,0,none⟩),.string ⟨s.toArray⟩] w fun e w'=>∃ X cx,e=.returned (.tuple #[.agg ([.bool (clT (clF l s)).1,.slice X (clT (clF l s)).2.length cx]:List Value).toArray,.int .i64 (clE (clF l s))])∧Row w' X ((clT (clF l s)).2.map (Value.int .i64))∧Okc X cx∧Ext w w':=by
 have b1:=Box.new w 48 zeroC
 have hx1:Ext w (w.alloc (.cells zeroC.toArray 48)):=Ext.alloc_ (Ext.refl w) _
 have HB1:=Lib.hid b1
 have HX1:=Lib.hid hx1
 clear b1 hx1
 by_cases hlong:4096 < s.length
 ·have hz:=cl_long (l:=l) hlong
  have i1:(4096:Int) < (s.length:Int):=by omega
  rw [hz]
  clear hz h hb M hT
  go_enter Tryz.func16,Tryz.ntmps16
  go_upto_region 1 with fail
  change Code.wp _ _ _ _ (w.alloc (.cells zeroC.toArray 48))
  generalize w.alloc (.cells zeroC.toArray 48)=w1 at *
  go_wp2_with (refine wpList_store_row rfl 48 (.tmp 4) (.tmp 13) rfl w.heap.size zeroC.toArray rfl rfl _ _ HB1.out infoClip rfl (by simp [Value.oneCell',zeroC]) ?_)
  have hb9:=HB1.out.set zeroC.toArray
  refine bodyPost_ret (v:=.tuple #[.agg zeroC.toArray,.int .i64 3]) (results_ct (p:=5) (q:=4) rfl _ _ w.heap.size _ rfl hb9 Tryz.underlying48 infoClip) rfl ⟨none,0,rfl,.inl rfl,⟨Nat.zero_le _,fun _=>rfl⟩,Ext.setRow HX1.out (Nat.le_refl _) _⟩
 have hls:s.length≤4096:=by omega
 have hcl:=clean_len s
 have HCL:Hid (∀ W,Calls Tryz.prog 44 #[.string ⟨s.toArray⟩] W fun e w'=>e=.returned (.string ⟨(cleanL s).toArray⟩)∧Ext W w'):=Lib.hid fun W=>clean_ s W (by omega)
 have HSP:Hid (∀ W,Calls Tryz.prog 43 #[.string ⟨(cleanL s).toArray⟩] W fun e w'=>∃ S cS,e=.returned (.slice S (splitS (cleanL s)).length cS)∧Acc 9 1 W w' S cS (splitS (cleanL s)).length (strsV (splitS (cleanL s)))):=Lib.hid fun W=>by
  have:=split_acc ⟨(cleanL s).toArray⟩ W (by rw [sizeL];omega)
  have hd:(⟨(cleanL s).toArray⟩:ByteArray).data.toList=cleanL s:=by simp
  rwa [hd] at this
 have hNl:(splitS (cleanL s)).length≤20000:=Nat.le_trans (split_len_le _) (by omega)
 have HKD:Hid (∀ W (u:List UInt8),u ∈ splitS (cleanL s)→Ext w W→Calls Tryz.prog 10 #[.pointer (some ⟨g,0,none⟩),.string ⟨u.toArray⟩] W fun e w'=>e=.returned (.int .i64 (kindF l u))∧Ext W w'):=Lib.hid fun W u hu hW =>
  paste_kind g A B C D c d a b _ l W (h.ext hW) hb M (hT.ext hW) (by have:=clus_len hu;omega)
 have HAT:Hid (∀ k (u:List UInt8),(splitS (cleanL s))[k]? = some u→(kinds l (cleanL s))[k]? = some (kindF l u)):=Lib.hid fun k u hu=>by
  unfold kinds;rw [List.getElem?_map,hu];rfl
 have HRN:Hid (∀ k st v u,(kinds l (cleanL s))[k]? = some v→runF RS.ini ((kinds l (cleanL s)).take k)=.ok st→takeF st v=.ok u→runF RS.ini ((kinds l (cleanL s)).take (k+1))=.ok u):=Lib.hid fun k st v u hv hs hu=>by
  obtain ⟨hk,rfl⟩:=List.getElem?_eq_some_iff.1 hv
  rw [run_takeF hk hs];exact hu
 have HST:Hid (∀ k st v x,(kinds l (cleanL s))[k]? = some v→runF RS.ini ((kinds l (cleanL s)).take k)=.ok st→takeF st v=.error x→clF l s=.error x):=Lib.hid fun k st v x hv hs hu=>by
  obtain ⟨hk,rfl⟩:=List.getElem?_eq_some_iff.1 hv
  exact cl_err (run_stopF hk hs hu) hls
 have HLN:Hid (∀ k st,runF RS.ini ((kinds l (cleanL s)).take k)=.ok st→st.ats.length≤k):=Lib.hid fun k st hs=>by
  have h1:=run_lenF _ hs
  have h2:(RS.ini).ats.length=0:=rfl
  rw [h2,List.length_take] at h1
  omega
 have hkl:(kinds l (cleanL s)).length=(splitS (cleanL s)).length:=by unfold kinds;rw [List.length_map]
 have HALL:Hid ((kinds l (cleanL s)).take (splitS (cleanL s)).length=kinds l (cleanL s)):=Lib.hid (by rw [← hkl,List.take_length])
 have HEND:Hid (∀ st,runF RS.ini (kinds l (cleanL s))=.ok st→clF l s=if st.neg=false∧st.ats.length=0 then .error 7 else .ok (st.neg,st.ats)):=Lib.hid fun st hs=>cl_of hs hls
 have i1:¬ ((4096:Int) < (s.length:Int)):=by omega
 clear h hb M hT hls hcl hkl hlong
 generalize kinds l (cleanL s)=ks at *
 generalize clF l s=cl at *
 generalize hsp:splitS (cleanL s)=sp at *
 generalize cleanL s=cs at *
 clear hsp
 go_enter Tryz.func16,Tryz.ntmps16
 go_upto_region 1 with fail
 change Code.wp _ _ _ _ (w.alloc (.cells zeroC.toArray 48))
 generalize w.alloc (.cells zeroC.toArray 48)=w1 at *
 go_upto_region 4 with fail
 change Code.wp _ _ _ _ (w1.alloc (.cells ([.bool false,.slice none 0 0,.bool false]:List Value).toArray 103))
 have HB2:=Lib.hid (Box.new w1 103 [.bool false,.slice none 0 0,.bool false])
 have hx2:Ext w1 (w1.alloc (.cells ([.bool false,.slice none 0 0,.bool false]:List Value).toArray 103)):=Ext.alloc_ (Ext.refl w1) _
 have HX2:=Lib.hid hx2
 clear hx2
 generalize w1.alloc (.cells ([.bool false,.slice none 0 0,.bool false]:List Value).toArray 103)=w2 at *
 generalize hrb:w1.heap.size=rb at *
 have HRB:=Lib.hid hrb
 clear hrb
 go_wp2_with (first
  | (go_at_call 44;with_reducible refine (HCL.out _).mono ?_;rintro e w3 ⟨rfl,hx3⟩)
  | (go_at_call 43;with_reducible refine (HSP.out _).mono ?_;rintro e w4 ⟨S,cS,rfl,hS⟩))
 have hr4:Rd w1 w4 rb RS.ini none 0 S cS sp.length (strsV sp):=⟨(HB2.out.ext hx3).ext hS.ext,Acc.start_of _ _ (HX2.out.trans (hx3.trans hS.ext)),⟨hS.own.mono (HX2.out.trans hx3).size,(HX2.out.trans hx3).trans hS.ext⟩,by rw [HRB.out];exact Nat.le_refl _,(Apart.none _).comm⟩
 have HR4:=Lib.hid hr4
 clear hr4 hS hx3 HCL HSP HB2
 generalize hN:sp.length=N at *
 have HN:=Lib.hid hN
 clear hN
 go_loopw [18] (fun i wr=>∃ (k:Nat) (st:RS) (X:Option Addr) (cx:Nat),k≤N∧i=.int .i64 k∧Hid (runF RS.ini (ks.take k)=.ok st)∧Rd w1 wr rb st X cx S cS N (strsV sp)) (fun i _=>N - (intOf i).toNat)
 case atStart=>exact ⟨0,RS.ini,none,0,Nat.zero_le _,rfl,Lib.hid rfl,HR4.out⟩
 case round =>
  obtain ⟨k,st,X,cx,hk,rfl,HRK,hrd⟩:=hrel
  by_cases hlt:k < N
  ·have hkl:k < sp.length:=by have:=HN.out;omega
   obtain ⟨bx,ox,hS0,hc⟩:=str_at hrd.str.row hkl
   have HV:=Lib.hid (HAT.out k _ (List.getElem?_eq_getElem hkl))
   have hsl:=HLN.out k st HRK.out
   have HKX:=Lib.hid (fun W hW=>HKD.out W _ (List.getElem_mem hkl) hW)
   have hxw:=HX1.out.trans hrd.at_.ext
   have HXW:=Lib.hid hxw
   have HRD:=Lib.hid hrd
   have i2:(k:Int) < (N:Int):=by omega
   have i3:(0:Int)≤(k:Int):=by omega
   subst hS0
   clear hxw hrd
   generalize kindF l sp[k]=v at *
   generalize (⟨(sp[k]).toArray⟩:ByteArray)=one at *
   go_upto_region 8 with (first
    | (go_at_call 10;with_reducible refine (HKX.out _ HXW.out).mono ?_;rintro e w5 ⟨rfl,hx5⟩;have HTK:=Lib.hid (take_q w1 rb st X cx _ cS N (strsV sp) v w5 (HRD.out.step hx5) (by omega)))
    | (go_at_call 45;with_reducible refine HTK.out.mono ?_;rintro e w6 ⟨ev,rfl,hq⟩;have HQ:=Lib.hid hq;clear hq))
   rcases HQ.out with ⟨h3,h1,h4⟩ | ⟨h2,st',X',cx',h1,h3⟩
   ·have hh:=h1
    have HZ:=Lib.hid (HST.out k st v _ HV.out HRK.out h1)
    have HX6:=Lib.hid (HX1.out.trans h4)
    have HC6:=Lib.hid (HB1.out.ext h4)
    have j1:(ev != 0)=true:=by simpa using h3
    clear h1 h3 h4 HQ hh
    go_wp2_with (refine wpList_store_row rfl 48 (.tmp 4) (.tmp 28) rfl w.heap.size zeroC.toArray rfl rfl _ _ HC6.out infoClip rfl (by simp [Value.oneCell',zeroC]) ?_)
    have hb9:=HC6.out.set zeroC.toArray
    refine bodyPost_ret (v:=.tuple #[.agg zeroC.toArray,.int .i64 ev]) (results_ct (p:=5) (q:=4) rfl _ _ w.heap.size _ rfl hb9 Tryz.underlying48 infoClip) rfl ⟨none,0,by rw [HZ.out];rfl,by rw [HZ.out];exact .inl rfl,⟨Nat.zero_le _,fun _=>rfl⟩,Ext.setRow HX6.out (Nat.le_refl _) _⟩
   ·subst h2
    have HR2:=Lib.hid (HRN.out k st v _ HV.out HRK.out h1)
    have HRD6:=Lib.hid h3
    clear h1 h3 HQ
    go_wp2
    go_roundw
    case rel=>exact ⟨k+1,st',X',cx',by omega,by go_num,HR2,HRD6.out⟩
    case measure=>simp [intOf];omega
  ·have e:k=N:=by omega
   subst e
   have HZ0:=Lib.hid (HEND.out st (by have:=HRK.out;rwa [HALL.out] at this))
   have i2:¬ ((k:Int) < (k:Int)):=by omega
   have hsl:=HLN.out k st HRK.out
   have HX9:=Lib.hid (HX1.out.trans hrd.at_.ext)
   have HC9:=Lib.hid (HB1.out.ext hrd.at_.ext)
   have HRD:=Lib.hid hrd
   obtain ⟨q0,q1,q2,g0,g1,g2⟩:=hrd.cells
   have hrg:wr.rangeAt rb 0 [.bool st.neg,.slice X st.ats.length cx]:=by
    intro j v hv
    have hj:j < 2:=(List.getElem?_eq_some_iff.1 hv).1
    have:j=0∨j=1:=by omega
    rcases this with rfl | rfl
    ·rw [← hv,Nat.zero_add];exact q0
    ·rw [← hv,Nat.zero_add];exact q1
   have HRG:=Lib.hid hrg
   clear hrg hrd
   by_cases hq:st.neg=false∧st.ats.length=0
   ·have HZ:Hid (cl=.error 7):=Lib.hid (by rw [HZ0.out,if_pos hq])
    obtain ⟨hn,h0⟩:=hq
    rw [hn] at q0
    have j1:((st.ats.length:Int) == 0)=true:=(beq_iff_eq (a:=((st.ats.length:Nat):Int))).2 (by omega)
    go_wp2_with (refine wpList_store_row rfl 48 (.tmp 4) (.tmp 42) rfl w.heap.size zeroC.toArray rfl rfl _ _ HC9.out infoClip rfl (by simp [Value.oneCell',zeroC]) ?_)
    have hb9:=HC9.out.set zeroC.toArray
    refine bodyPost_ret (v:=.tuple #[.agg zeroC.toArray,.int .i64 7]) (results_ct (p:=5) (q:=4) rfl _ _ w.heap.size _ rfl hb9 Tryz.underlying48 infoClip) rfl ⟨none,0,by rw [HZ.out];rfl,by rw [HZ.out];exact .inl rfl,⟨Nat.zero_le _,fun _=>rfl⟩,Ext.setRow HX9.out (Nat.le_refl _) _⟩
   ·have HZ:Hid (cl=.ok (st.neg,st.ats)):=Lib.hid (by rw [HZ0.out,if_neg hq])
    have hq2:st.neg=true∨st.ats.length ≠ 0:=by
     cases hn:st.neg
     ·exact .inr fun h=>hq ⟨hn,h⟩
     ·exact .inl rfl
    clear hq
    have HF:Hid (∀ W,W=wr.setRow w.heap.size ([.bool st.neg,.slice X st.ats.length cx]:List Value).toArray→Row W X (st.ats.map (Value.int .i64))∧Okc X cx∧Ext w W∧Box W w.heap.size 48 [.bool st.neg,.slice X st.ats.length cx]):=Lib.hid fun W hW=>by
     subst hW
     exact ⟨ints_setRow HC9.out HRD.out.at_.row (by simp [isInt,zeroC]) _,Acc.okc HRD.out.at_,Ext.setRow HX9.out (Nat.le_refl _) _,HC9.out.set ([.bool st.neg,.slice X st.ats.length cx]:List Value).toArray⟩
    cases hn:st.neg
    ·have h0:st.ats.length ≠ 0:=hq2.resolve_left (by rw [hn];decide)
     rw [hn] at q0 HRG HF HZ
     have j1:((st.ats.length:Int) == 0)=false:=beq_eq_false_iff_ne.2 (by omega)
     clear hq2 h0 hn
     go_wp2_with (first
      | (refine wpList_load_mid rfl 48 (.tmp 43) rfl rb 0 rfl [.bool false,.slice X st.ats.length cx] _ HRG.out Tryz.underlying48 rfl infoClip ?_)
      | (refine wpList_store_row rfl 48 (.tmp 4) (.tmp 44) rfl w.heap.size ([.bool false,.slice X st.ats.length cx]:List Value).toArray rfl rfl _ _ HC9.out infoClip rfl (by simp [Value.oneCell']) ?_))
     obtain ⟨f1,f2,f3,f4⟩:=HF.out _ rfl
     refine bodyPost_ret (v:=.tuple #[.agg ([.bool false,.slice X st.ats.length cx]:List Value).toArray,.int .i64 0]) (results_ct (p:=5) (q:=4) rfl _ _ w.heap.size _ rfl f4 Tryz.underlying48 infoClip) rfl ⟨X,cx,by rw [HZ.out];rfl,by rw [HZ.out];exact f1,f2,f3⟩
    ·rw [hn] at q0 HRG HF HZ
     clear hq2 hn
     go_wp2_with (first
      | (refine wpList_load_mid rfl 48 (.tmp 43) rfl rb 0 rfl [.bool true,.slice X st.ats.length cx] _ HRG.out Tryz.underlying48 rfl infoClip ?_)
      | (refine wpList_store_row rfl 48 (.tmp 4) (.tmp 44) rfl w.heap.size ([.bool true,.slice X st.ats.length cx]:List Value).toArray rfl rfl _ _ HC9.out infoClip rfl (by simp [Value.oneCell']) ?_))
     obtain ⟨f1,f2,f3,f4⟩:=HF.out _ rfl
     refine bodyPost_ret (v:=.tuple #[.agg ([.bool true,.slice X st.ats.length cx]:List Value).toArray,.int .i64 0]) (results_ct (p:=5) (q:=4) rfl _ _ w.heap.size _ rfl f4 Tryz.underlying48 infoClip) rfl ⟨X,cx,by rw [HZ.out];rfl,by rw [HZ.out];exact f1,f2,f3⟩
theorem begin18 (v0 v1 v2 v3 v4 v5 n:Int) (h0:i64 v0) (h1:i64 v1) (h2:i64 v2) (h3:i64 v3) (h4:i64 v4) (h5:i64 v5) (hn:i64 n):∃ r p,Kin r p∧∀ w,Tabs w→Calls Tryz.prog 7 #[.agg ([.int .i64 v0,.int .i64 v1,.int .i64 v2,.int .i64 v3,.int .i64 v4,.int .i64 v5]:List Value).toArray,.int .i64 n] w fun e w'=>∃ g A' B' C' D' c' d' a' b' A B C D c d a b,e=.returned (.tuple #[.pointer (some ⟨g,0,none⟩),.agg (refLV A B C D c d a b r p).toArray])∧LocR w' g A' B' C' D' c' d' a' b' (locOf r p)∧PtR w' A B C D p∧CapR p c d a b∧Ext w w':=by
 obtain ⟨r,p,hk,hL⟩:=locale_any v0 v1 v2 v3 v4 v5 n h0 h1 h2 h3 h4 h5 hn
 refine ⟨r,p,hk,fun w hT=>?_⟩
 unfold LocaleC at hL
 have HLC:=Lib.hid hL
 have HBO:=Lib.hid hk.both
 have HNW:Hid (∀ W,Ext w W→Calls Tryz.prog 31 #[.agg ([.string ⟨r.name.toArray⟩,.string ⟨r.pattern.toArray⟩,.string ⟨r.system.toArray⟩,.string ⟨r.decimal.toArray⟩,.string ⟨r.group.toArray⟩,.string ⟨r.minus.toArray⟩,.string ⟨r.percent.toArray⟩,.string ⟨r.currency.toArray⟩]:List Value).toArray] W fun e w'=>∃ g A B C D c d a b,e=.returned (.tuple #[.pointer (some ⟨g,0,none⟩),.nilIface])∧LocR w' g A B C D c d a b (locOf r p)∧Ext W w'):=Lib.hid fun W hW =>
  new_ r p W HBO.out.pat (by have:=HBO.out.plen;omega) HBO.out.nm HBO.out.may (hT.ext hW)
 have b1:=(Box.new w 23 [.int .i64 v0,.int .i64 v1,.int .i64 v2,.int .i64 v3,.int .i64 v4,.int .i64 v5]).alloc (.cells zero17.toArray 31)
 have c1:=Box.new (w.alloc (.cells ([.int .i64 v0,.int .i64 v1,.int .i64 v2,.int .i64 v3,.int .i64 v4,.int .i64 v5]:List Value).toArray 23)) 31 zero17
 have hs1:(w.alloc (.cells ([.int .i64 v0,.int .i64 v1,.int .i64 v2,.int .i64 v3,.int .i64 v4,.int .i64 v5]:List Value).toArray 23)).heap.size=w.heap.size+1:=by simp
 rw [hs1] at c1
 have hx1:Ext w ((w.alloc (.cells ([.int .i64 v0,.int .i64 v1,.int .i64 v2,.int .i64 v3,.int .i64 v4,.int .i64 v5]:List Value).toArray 23)).alloc (.cells zero17.toArray 31)):=Ext.alloc_ (Ext.alloc_ (Ext.refl w) _) _
 have HRG:=Lib.hid b1.range
 have HC1:=Lib.hid c1
 have HX1:=Lib.hid hx1
 clear hk hL b1 c1 hs1 hx1 hT h0 h1 h2 h3 h4 h5 hn
 go_enter Tryz.func7,Tryz.ntmps7
 go_upto_region 1 with fail
 change Code.wp _ _ _ _ ((w.alloc (.cells ([.int .i64 v0,.int .i64 v1,.int .i64 v2,.int .i64 v3,.int .i64 v4,.int .i64 v5]:List Value).toArray 23)).alloc (.cells zero17.toArray 31))
 generalize (w.alloc (.cells ([.int .i64 v0,.int .i64 v1,.int .i64 v2,.int .i64 v3,.int .i64 v4,.int .i64 v5]:List Value).toArray 23)).alloc (.cells zero17.toArray 31)=w1 at *
 go_upto_region 2 with (first
  | (refine wpList_load_mid rfl 23 (.tmp 2) rfl w.heap.size 0 rfl [.int .i64 v0,.int .i64 v1,.int .i64 v2,.int .i64 v3,.int .i64 v4,.int .i64 v5] _ HRG.out Tryz.underlying23 rfl infoG ?_)
  | (go_at_call 30;with_reducible refine (HLC.out _).mono ?_;rintro e w2 ⟨A,B,C,D,c,d,a,b,rfl,hpt,hcap,hx2⟩)
  | (refine wpList_store_fresh rfl 31 (.tmp 6) (.tmp 11) rfl (refLV A B C D c d a b r p).toArray 31 _ rfl rfl infoRL rfl (refL_one A B C D c d a b r p) ?_))
 have hb3:=Box.new w2 31 (refLV A B C D c d a b r p)
 have hx3:Ext w2 (w2.alloc (.cells (refLV A B C D c d a b r p).toArray 31)):=Ext.alloc_ (Ext.refl _) _
 have hpt3:=hpt.ext hx3
 generalize w2.alloc (.cells (refLV A B C D c d a b r p).toArray 31)=w3 at *
 have HLB:Hid (w2.heap.size ≠ w.heap.size+1):=Lib.hid (by have:=(HC1.out.ext hx2).lt;omega)
 generalize w2.heap.size=lb at *
 have HR8:Hid (w3.rangeAt lb 0 [.string ⟨r.name.toArray⟩,.string ⟨r.pattern.toArray⟩,.string ⟨r.system.toArray⟩,.string ⟨r.decimal.toArray⟩,.string ⟨r.group.toArray⟩,.string ⟨r.minus.toArray⟩,.string ⟨r.percent.toArray⟩,.string ⟨r.currency.toArray⟩]):=Lib.hid (refL_rec hb3.range)
 have HB3:=Lib.hid hb3
 have HX3:=Lib.hid (HX1.out.trans (hx2.trans hx3))
 have HC3:=Lib.hid (HC1.out.ext (hx2.trans hx3))
 have HPT:=Lib.hid hpt3
 clear hb3 hx2 hx3 hpt hpt3 HRG HLC HC1
 go_upto_region 3 with (first
  | (refine wpList_load_mid rfl 26 (.tmp 13) rfl lb 0 rfl [.string ⟨r.name.toArray⟩,.string ⟨r.pattern.toArray⟩,.string ⟨r.system.toArray⟩,.string ⟨r.decimal.toArray⟩,.string ⟨r.group.toArray⟩,.string ⟨r.minus.toArray⟩,.string ⟨r.percent.toArray⟩,.string ⟨r.currency.toArray⟩] _ HR8.out Tryz.underlying26 rfl infoR ?_)
  | (go_at_call 31;with_reducible refine (HNW.out _ HX3.out).mono ?_;rintro e w4 ⟨g,A',B',C',D',c',d',a',b',rfl,hLR,hx4⟩))
 have HR4:Hid (w4.rangeAt lb 0 [.string ⟨r.name.toArray⟩,.string ⟨r.pattern.toArray⟩,.string ⟨r.system.toArray⟩,.string ⟨r.decimal.toArray⟩,.string ⟨r.group.toArray⟩,.string ⟨r.minus.toArray⟩,.string ⟨r.percent.toArray⟩,.string ⟨r.currency.toArray⟩,.slice A p.pre.length c,.slice B p.suf.length d,.slice C p.npre.length a,.slice D p.nsuf.length b,.int .i64 p.num.prim,.int .i64 p.num.sec,.int .i64 p.num.minInt,.int .i64 p.num.minFrac,.int .i64 p.num.maxFrac]):=Lib.hid (HB3.out.ext hx4).range
 have HC4:=Lib.hid (HC3.out.ext hx4)
 have HP4:=Lib.hid (HPT.out.ext hx4)
 have HX4:=Lib.hid (HX3.out.trans hx4)
 have HLR:=Lib.hid hLR
 clear hLR hx4
 refine rg_ (S:=fun W=>W.rangeAt lb 0 [.string ⟨r.name.toArray⟩,.string ⟨r.pattern.toArray⟩,.string ⟨r.system.toArray⟩,.string ⟨r.decimal.toArray⟩,.string ⟨r.group.toArray⟩,.string ⟨r.minus.toArray⟩,.string ⟨r.percent.toArray⟩,.string ⟨r.currency.toArray⟩,.slice A p.pre.length c,.slice B p.suf.length d,.slice C p.npre.length a,.slice D p.nsuf.length b,.int .i64 p.num.prim,.int .i64 p.num.sec,.int .i64 p.num.minInt,.int .i64 p.num.minFrac,.int .i64 p.num.maxFrac]) (HR4.out) (fun hHeld=>?_)
 refine tk_ 0 hHeld ?_
 try simp only [Act.put,sA,sZ,sS]
 refine tr_ (cs:=[.string ⟨r.name.toArray⟩,.string ⟨r.pattern.toArray⟩,.string ⟨r.system.toArray⟩,.string ⟨r.decimal.toArray⟩,.string ⟨r.group.toArray⟩,.string ⟨r.minus.toArray⟩,.string ⟨r.percent.toArray⟩,.string ⟨r.currency.toArray⟩,.slice A p.pre.length c,.slice B p.suf.length d,.slice C p.npre.length a,.slice D p.nsuf.length b,.int .i64 p.num.prim,.int .i64 p.num.sec,.int .i64 p.num.minInt,.int .i64 p.num.minFrac,.int .i64 p.num.maxFrac]) 1 hHeld 31 ((.tmp 6)) lb (0) (fun _ h=>h) Tryz.underlying31 infoRL ?_
 try simp only [Act.put,sA,sZ,sS]
 refine tk_ 2 hHeld ?_
 try simp only [Act.put,sA,sZ,sS]
 refine on_ 3 (fun K1 hK1=>?_)
 refine step_row rfl 31 (.tmp 5) (.tmp 19) rfl (w.heap.size+1) ([.string ⟨r.name.toArray⟩,.string ⟨r.pattern.toArray⟩,.string ⟨r.system.toArray⟩,.string ⟨r.decimal.toArray⟩,.string ⟨r.group.toArray⟩,.string ⟨r.minus.toArray⟩,.string ⟨r.percent.toArray⟩,.string ⟨r.currency.toArray⟩,.slice A p.pre.length c,.slice B p.suf.length d,.slice C p.npre.length a,.slice D p.nsuf.length b,.int .i64 p.num.prim,.int .i64 p.num.sec,.int .i64 p.num.minInt,.int .i64 p.num.minFrac,.int .i64 p.num.maxFrac]:List Value).toArray (by rfl) (by rfl) _ _ HC4.out.drew infoRL rfl (refL_one A B C D c d a b r p) ?_
 have hb5:=HC4.out.drew.set (refLV A B C D c d a b r p).toArray
 refine hK1.out _ _ (range_setRow hHeld HLB.out _) (fun hHeld=>?_)
 clear hK1
 try simp only [Act.put,sA,sZ,sS]
 refine dn_ ?_
 have hle:w.heap.size≤w.heap.size+1:=Nat.le_succ _
 go_wp2
 refine bodyPost_ret (v:=.tuple #[.pointer (some ⟨g,0,none⟩),.agg (refLV A B C D c d a b r p).toArray]) (results_two (p:=4) (q:=5) rfl _ _ (w.heap.size+1) _ rfl hb5 Tryz.underlying31 infoRL) rfl ⟨g,A',B',C',D',c',d',a',b',A,B,C,D,c,d,a,b,rfl,⟨HLR.out.box.drew.other (box_ne HLR.out.box HC4.out (by decide)) _,pt_setRow HC4.out.drew (HLR.out.pt.ext (Ext.drew_ (Ext.refl _))) _⟩,pt_setRow HC4.out.drew (HP4.out.ext (Ext.drew_ (Ext.refl _))) _,hcap,Ext.setRow (Ext.drew_ HX4.out) hle _⟩
set_option maxRecDepth 512
def okRS (x:Except Int RS) (n:Bool) (a:List Int):Bool:=match x with
 | .ok s=>decide (s.neg=n) && decide (s.ats=a)
 | .error _=>false
theorem read18b:okRS (runF RS.ini (kinds (locOf rL18 pL18) (cleanL [45,32,49,46,50,51,52,44,53,48,32,226,130,172]))) true [1,2,3,4,10,5,0]=true:=by decide +kernel
theorem read18:∃ lt,runF RS.ini (kinds (locOf rL18 pL18) (cleanL [45,32,49,46,50,51,52,44,53,48,32,226,130,172]))=.ok ⟨true,[1,2,3,4,10,5,0],lt⟩:=by
 have h:=read18b
 cases hr:runF RS.ini (kinds (locOf rL18 pL18) (cleanL [45,32,49,46,50,51,52,44,53,48,32,226,130,172])) with
 | error e=>rw [hr] at h;cases h
 | ok s =>
  rw [hr] at h
  obtain ⟨n,a,lt⟩:=s
  unfold okRS at h
  simp only [Bool.and_eq_true,decide_eq_true_eq] at h
  obtain ⟨rfl,rfl⟩:=h
  exact ⟨lt,rfl⟩
theorem Lw.read {W:World} {g lb:Nat} {r:Rec} {p:Pt} {A B C D:Option Addr} {c d a b:Nat} (h:Lw W g lb r p A B C D c d a b) (hK:Knd r p) (hT:Tabs W) {s:List UInt8} (hl:s.length≤100000) :
  Calls Tryz.prog 16 #[.pointer (some ⟨g,0,none⟩),.string ⟨s.toArray⟩] W fun e w'=>∃ X cx,e=.returned (.tuple #[.agg ([.bool (clT (clF (locOf r p) s)).1,.slice X (clT (clF (locOf r p) s)).2.length cx]:List Value).toArray,.int .i64 (clE (clF (locOf r p) s))])∧Row w' X ((clT (clF (locOf r p) s)).2.map (Value.int .i64))∧Okc X cx∧Ext W w':=by
 obtain ⟨A',B',C',D',c',d',a',b',h1⟩:=h.loc
 exact paste_read g A' B' C' D' c' d' a' b' s (locOf r p) W h1 hK.both.may.b hK.both.may hT hl
theorem begin18_ (v0 v1 v2 v3 v4 v5 n:Int) (h0:i64 v0) (h1:i64 v1) (h2:i64 v2) (h3:i64 v3) (h4:i64 v4) (h5:i64 v5) (hn:i64 n):∃ r p,Kin r p∧∀ w,Tabs w→Calls Tryz.prog 7 #[.agg ([.int .i64 v0,.int .i64 v1,.int .i64 v2,.int .i64 v3,.int .i64 v4,.int .i64 v5]:List Value).toArray,.int .i64 n] w fun e w'=>∃ g A B C D c d a b,e=.returned (.tuple #[.pointer (some ⟨g,0,none⟩),.agg ([.string ⟨r.name.toArray⟩,.string ⟨r.pattern.toArray⟩,.string ⟨r.system.toArray⟩,.string ⟨r.decimal.toArray⟩,.string ⟨r.group.toArray⟩,.string ⟨r.minus.toArray⟩,.string ⟨r.percent.toArray⟩,.string ⟨r.currency.toArray⟩,.slice A p.pre.length c,.slice B p.suf.length d,.slice C p.npre.length a,.slice D p.nsuf.length b,.int .i64 p.num.prim,.int .i64 p.num.sec,.int .i64 p.num.minInt,.int .i64 p.num.minFrac,.int .i64 p.num.maxFrac]:List Value).toArray])∧Lw (w'.alloc (.cells ([.string ⟨r.name.toArray⟩,.string ⟨r.pattern.toArray⟩,.string ⟨r.system.toArray⟩,.string ⟨r.decimal.toArray⟩,.string ⟨r.group.toArray⟩,.string ⟨r.minus.toArray⟩,.string ⟨r.percent.toArray⟩,.string ⟨r.currency.toArray⟩,.slice A p.pre.length c,.slice B p.suf.length d,.slice C p.npre.length a,.slice D p.nsuf.length b,.int .i64 p.num.prim,.int .i64 p.num.sec,.int .i64 p.num.minInt,.int .i64 p.num.minFrac,.int .i64 p.num.maxFrac]:List Value).toArray 31)) g w'.heap.size r p A B C D c d a b∧Ext w w':=by
 obtain ⟨r,p,hK,h⟩:=begin18 v0 v1 v2 v3 v4 v5 n h0 h1 h2 h3 h4 h5 hn
 refine ⟨r,p,hK,fun w hT=>(h w hT).mono ?_⟩
 rintro e w' ⟨g,A',B',C',D',c',d',a',b',A,B,C,D,c,d,a,b,rfl,hl,hp,hc,hx⟩
 have hx1:Ext w' (w'.alloc (.cells ([.string ⟨r.name.toArray⟩,.string ⟨r.pattern.toArray⟩,.string ⟨r.system.toArray⟩,.string ⟨r.decimal.toArray⟩,.string ⟨r.group.toArray⟩,.string ⟨r.minus.toArray⟩,.string ⟨r.percent.toArray⟩,.string ⟨r.currency.toArray⟩,.slice A p.pre.length c,.slice B p.suf.length d,.slice C p.npre.length a,.slice D p.nsuf.length b,.int .i64 p.num.prim,.int .i64 p.num.sec,.int .i64 p.num.minInt,.int .i64 p.num.minFrac,.int .i64 p.num.maxFrac]:List Value).toArray 31)):=Ext.alloc_ (Ext.refl _) _
 exact ⟨g,A,B,C,D,c,d,a,b,rfl,⟨⟨A',B',C',D',c',d',a',b',hl.ext hx1⟩,hp.ext hx1,hc,Box.new w' 31 [.string ⟨r.name.toArray⟩,.string ⟨r.pattern.toArray⟩,.string ⟨r.system.toArray⟩,.string ⟨r.decimal.toArray⟩,.string ⟨r.group.toArray⟩,.string ⟨r.minus.toArray⟩,.string ⟨r.percent.toArray⟩,.string ⟨r.currency.toArray⟩,.slice A p.pre.length c,.slice B p.suf.length d,.slice C p.npre.length a,.slice D p.nsuf.length b,.int .i64 p.num.prim,.int .i64 p.num.sec,.int .i64 p.num.minInt,.int .i64 p.num.minFrac,.int .i64 p.num.maxFrac]⟩,hx⟩
theorem Kin.outs {r:Rec} {p:Pt} (h:Kin r p):Outs r p:=by
 rcases h with ⟨v0,v1,v2,v3,v4,v5,rfl,rfl⟩ | ⟨k,hk,rfl,rfl⟩
 ·exact outs_good v0 v1 v2 v3 v4 v5
 ·exact outs_40 hk
theorem Kin.no7 {r:Rec} {p:Pt} (h:Kin r p):No7 r:=by
 rcases h with ⟨v0,v1,v2,v3,v4,v5,rfl,rfl⟩ | ⟨k,hk,rfl,rfl⟩
 ·exact no7_good v0 v1 v2 v3 v4 v5
 ·exact no7_40 hk
theorem cl18:clF (locOf rL18 pL18) [45,32,49,46,50,51,52,44,53,48,32,226,130,172]=.ok (true,[1,2,3,4,10,5,0]):=by
 obtain ⟨lt,h⟩:=read18
 have:=cl_of h (by decide)
 rw [this]
 rfl
set_option maxRecDepth 1000000
theorem lives18 (w:World) (hT:Tabs w):Calls Tryz.prog 12 #[] w fun e w'=>e=.returned (.bool true)∧Ext w w':=by
 have hB:=both_18
 have HNW:Hid (∀ W,Ext w W→Calls Tryz.prog 31 #[.agg ([.string ⟨#[100,101]⟩,.string ⟨#[35,44,35,35,48,46,48,48,32,194,164]⟩,.string ⟨#[108,97,116,110]⟩,.string ⟨#[44]⟩,.string ⟨#[46]⟩,.string ⟨#[45]⟩,.string ⟨#[]⟩,.string ⟨#[226,130,172]⟩]:List Value).toArray] W fun e w'=>∃ g A B C D c d a b,e=.returned (.tuple #[.pointer (some ⟨g,0,none⟩),.nilIface])∧LocR w' g A B C D c d a b (locOf rL18 pL18)∧Ext W w'):=Lib.hid fun W hW =>
  new_ rL18 pL18 W hB.pat (by have:=hB.plen;omega) hB.nm hB.may (hT.ext hW)
 have HPA:Hid (∀ W g A B C D c d a b,Ext w W→LocR W g A B C D c d a b (locOf rL18 pL18)→Calls Tryz.prog 16 #[.pointer (some ⟨g,0,none⟩),.string ⟨#[45,32,49,46,50,51,52,44,53,48,32,226,130,172]⟩] W fun e w'=>∃ X cx,e=.returned (.tuple #[.agg ([.bool true,.slice X 7 cx]:List Value).toArray,.int .i64 0])∧Row w' X ([1,2,3,4,10,5,0].map (Value.int .i64))∧Ext W w'):=Lib.hid fun W g A B C D c d a b hW h=>by
  have hh:=paste_read g A B C D c d a b [45,32,49,46,50,51,52,44,53,48,32,226,130,172] (locOf rL18 pL18) W h hB.may.b hB.may (hT.ext hW) (by decide)
  rw [cl18] at hh
  exact hh.mono fun e w' ⟨X,cx,he,hr,_,hx⟩=>⟨X,cx,he,hr,hx⟩
 clear hB hT
 go_enter Tryz.func12,Tryz.ntmps12
 go_upto_region 4 with (go_at_call 31;with_reducible refine (HNW.out _ (Ext.refl _)).mono ?_;rintro e w1 ⟨g,A,B,C,D,c,d,a,b,rfl,hl,hx1⟩)
 have HL:=Lib.hid hl
 have HX1:=Lib.hid hx1
 clear hl hx1 HNW
 go_upto_region 5 with (first
  | (go_at_call 16;with_reducible refine (HPA.out _ g A B C D c d a b HX1.out HL.out).mono ?_;rintro e w2 ⟨X,cx,rfl,hX,hx2⟩)
  | (refine wpList_store_fresh rfl 48 (.tmp 3) (.tmp 15) rfl ([.bool true,.slice X 7 cx]:List Value).toArray 48 _ rfl rfl infoClip rfl (by simp [Value.oneCell']) ?_))
 have hb3:=Box.new w2 48 [.bool true,.slice X 7 cx]
 have hx3:Ext w2 (w2.alloc (.cells ([.bool true,.slice X 7 cx]:List Value).toArray 48)):=Ext.alloc_ (Ext.refl _) _
 have HX3:=Lib.hid (HX1.out.trans (hx2.trans hx3))
 have HRX:=Lib.hid (hX.below hx3 (Nat.le_refl _))
 have k0:=hb3.cell (j:=0) (v:=.bool true) rfl
 have k1:=hb3.cell (j:=1) (v:=.slice X 7 cx) rfl
 clear hb3 hx2 hx3 hX HL HX1 HPA
 generalize w2.alloc (.cells ([.bool true,.slice X 7 cx]:List Value).toArray 48)=w3 at *
 generalize w2.heap.size=db at *
 have hx6:Ext w3 (w3.alloc (.cells #[.int .i64 1,.int .i64 2,.int .i64 3,.int .i64 4,.int .i64 10,.int .i64 5,.int .i64 0] 3)):=Ext.alloc_ (Ext.refl _) _
 have HX6:=Lib.hid hx6
 have HS1:Hid (Calls Tryz.prog 17 #[.slice X 7 cx,.slice (some ⟨w3.heap.size,0,none⟩) 7 7] (w3.alloc (.cells #[.int .i64 1,.int .i64 2,.int .i64 3,.int .i64 4,.int .i64 10,.int .i64 5,.int .i64 0] 3)) fun e w'=>e=.returned (.bool true)∧Ext (w3.alloc (.cells #[.int .i64 1,.int .i64 2,.int .i64 3,.int .i64 4,.int .i64 10,.int .i64 5,.int .i64 0] 3)) w'):=Lib.hid (same X (some ⟨w3.heap.size,0,none⟩) cx 7 [1,2,3,4,10,5,0] [1,2,3,4,10,5,0] (w3.alloc (.cells #[.int .i64 1,.int .i64 2,.int .i64 3,.int .i64 4,.int .i64 10,.int .i64 5,.int .i64 0] 3)) (HRX.out.below hx6 (Nat.le_refl _)) (row_new w3 [.int .i64 1,.int .i64 2,.int .i64 3,.int .i64 4,.int .i64 10,.int .i64 5,.int .i64 0] 3) (by decide) (by decide))
 clear hx6
 go_wp2_with (go_at_call 17;with_reducible refine HS1.out.mono ?_;rintro e w7 ⟨rfl,hx7⟩)
 go_ret
 exact ⟨rfl,HX3.out.trans (HX6.out.trans hx7)⟩
end Go.Proofs.YtcghgkagpkmpeaaGreatDoor.Loc
