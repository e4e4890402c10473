/- Joined by wip/join.py: PatX PatY PatZ PRef PSm POpen PRes. -/
import Derived.Test.YtcghgkagpkmpeaaGreatDoorJPat3
import Derived.Deep.DeepCutAuto
import Derived.Deep.RegionHeld3
import Derived.Deep.RegionWith
import Derived.Laws.StructEq
import Derived.Deep.MidRow
import Derived.ChangeSlices
import Derived.WideShapes
import Derived.RowKit
import Derived.Deep.SlicePairs
set_option linter.unusedVariables false
set_option linter.unusedSimpArgs false
set_option maxHeartbeats 4000000
namespace Go.Proofs.YtcghgkagpkmpeaaGreatDoor.Pat
open Go.RowKit Utf All Small Strs Build EncC
def tblS:List (List UInt8):=[[97],[194,164],[37],[45],[39,35,39],[39,39],[194,160],[101,204,129],[39,46,59,39],[120,39,121,39]]
def oneS (x:Int):List UInt8:=tblS.getD (aroundF x 10).toNat []
theorem tbl_len:∀ j:Fin 10,(tblS.getD j.val []).length≤4:=by decide
theorem oneS_len (x:Int):(oneS x).length≤4:=by
 have h:=aroundF_bd x 10 (by omega)
 have:=tbl_len ⟨(aroundF x 10).toNat,by omega⟩
 exact this
theorem flat_len (xs:List Int):(xs.flatMap oneS).length≤4 * xs.length:=by
 induction xs with
 | nil=>simp
 | cons x r ih=>have:=oneS_len x;rw [List.flatMap_cons,List.length_append,List.length_cons];omega
structure GG where
 pre:List Int
 suf:List Int
 two:Bool
 npre:List Int
 nsuf:List Int
 zeros:Int
 prim:Int
 sec:Int
 minf:Int
 more:Int
def ggV (A B C D:Option Addr) (c d a b:Nat) (g:GG):List Value:=[.slice A g.pre.length c,.slice B g.suf.length d,.bool g.two,.slice C g.npre.length a,.slice D g.nsuf.length b,.int .i64 g.zeros,.int .i64 g.prim,.int .i64 g.sec,.int .i64 g.minf,.int .i64 g.more]
def i64 (x:Int):Prop:=-9223372036854775808≤x∧x≤9223372036854775807
structure GgR (w:World) (A B C D:Option Addr) (g:GG):Prop where
 rA:Row w A (g.pre.map (Value.int .i64))
 rB:Row w B (g.suf.map (Value.int .i64))
 rC:Row w C (g.npre.map (Value.int .i64))
 rD:Row w D (g.nsuf.map (Value.int .i64))
 bA:∀ x ∈ g.pre,i64 x
 bB:∀ x ∈ g.suf,i64 x
 bC:∀ x ∈ g.npre,i64 x
 bD:∀ x ∈ g.nsuf,i64 x
 nums:i64 g.zeros∧i64 g.prim∧i64 g.sec∧i64 g.minf∧i64 g.more
theorem GgR.ext {w w':World} {A B C D:Option Addr} {g:GG} (h:GgR w A B C D g) (hx:Ext w w'):GgR w' A B C D g :=
 ⟨h.rA.below hx (Nat.le_refl _),h.rB.below hx (Nat.le_refl _),h.rC.below hx (Nat.le_refl _),h.rD.below hx (Nat.le_refl _),h.bA,h.bB,h.bC,h.bD,h.nums⟩
end Go.Proofs.YtcghgkagpkmpeaaGreatDoor.Pat
namespace Go.Proofs.YtcghgkagpkmpeaaGreatDoor.Pat
open Go.RowKit Utf All Small Strs EncC
open Go.RowKit Utf All Small Strs Build EncC
theorem parse_okl {l:List UInt8} {p:Pt} (hp:parseF l=.ok p) (w:World) (hs:l.length≤100000000) :
  Calls Tryz.prog 65 #[.string ⟨l.toArray⟩] w fun e w'=>∃ A c B d C a D b,e=.returned (.tuple #[.agg (patC (.slice A p.pre.length c) (.slice B p.suf.length d) (.slice C p.npre.length a) (.slice D p.nsuf.length b) p.num).toArray,.int .i64 0]) ∧
   Row w' A (pcsV p.pre)∧Row w' B (pcsV p.suf)∧Row w' C (pcsV p.npre)∧Row w' D (pcsV p.nsuf)∧Okc A c∧Okc B d∧Okc C a∧Okc D b∧Ext w w' :=
 parse_ok (s:=⟨l.toArray⟩) hp w hs
theorem ei_b:EI 27 221 2 24:=ei_of (z:=.agg #[.int .i64 0,.string ⟨#[]⟩]) Tryz.underlying27 (by kernel_rfl) rfl (by decide)
def inL (c:Int) (l:List UInt8):Bool:=l.any fun b=>c == (b.toNat:Int)
theorem any_snoc' {c:Int} {l:List UInt8} {k:Nat} (hk:k < l.length):(l.take (k+1)).any (fun b=>c == (b.toNat:Int))=((l.take k).any (fun b=>c == (b.toNat:Int)) || (c == (l[k].toNat:Int))):=by
 rw [List.take_succ_eq_append_getElem hk,List.any_append];simp
theorem in_ (c:Int) (s:ByteArray) (w:World) (hs:s.size≤100):Calls Tryz.prog 216 #[.int .i64 c,.string s] w fun e w'=>e=.returned (.bool (inL c s.data.toList))∧w=w':=by
 have hlen:s.data.toList.length=s.size:=by simp
 go_enter Tryz.func216,Tryz.ntmps216
 go_wp2
 go_loop [5] (fun i=>∃ k:Nat,k≤s.size∧i=.int .i64 k∧Hid ((s.data.toList.take k).any (fun b=>c == (b.toNat:Int))=false)) (fun i=>s.size - (intOf i).toNat)
 case atStart=>exact ⟨0,Nat.zero_le _,rfl,Lib.hid (by simp)⟩
 case round =>
  obtain ⟨k,hk,rfl,HK⟩:=hrel
  by_cases hlt:k < s.size
  ·have hlt2:k < s.data.toList.length:=by omega
   have hsk:s.data.toList[k]=s[k]:=by simp;rfl
   have HS:=Lib.hid (any_snoc' (c:=c) hlt2)
   rw [hsk] at HS
   have hw:wrap64 ((s[k]'hlt).toNat:Int)=((s[k]'hlt).toNat:Int):=by
    have:=(s[k]'hlt).toNat_lt
    unfold wrap64;omega
   have HW:=Lib.hid hw
   clear hw
   cases hb:(c == ((s[k]'hlt).toNat:Int))
   ·have hb':(c == wrap64 ((s[k]'hlt).toNat:Int))=false:=by rw [HW.out];exact hb
    have HB:=Lib.hid hb
    clear hb
    go_wp2
    go_round
    case rel=>exact ⟨k+1,by omega,by go_num,Lib.hid (by rw [HS.out,HK.out,HB.out];rfl)⟩
    case measure=>simp [intOf];omega
   ·have hb':(c == wrap64 ((s[k]'hlt).toNat:Int))=true:=by rw [HW.out];exact hb
    have HR:Hid (inL c s.data.toList=true):=Lib.hid (by
     unfold inL
     rw [List.any_eq_true]
     exact ⟨s.data.toList[k],List.getElem_mem hlt2,by rw [hsk];exact hb⟩)
    clear hb
    go_wp2
    go_ret
    exact ⟨by rw [HR.out];rfl,rfl⟩
  ·have e:k=s.size:=by omega
   subst e
   have HR:Hid (inL c s.data.toList=false):=Lib.hid (by
    have:=HK.out
    rw [List.take_of_length_le (by omega)] at this
    exact this)
   go_wp2
   go_ret
   exact ⟨by rw [HR.out];rfl,rfl⟩
def kindR (c:Int):Int:=if kindL c < 0 then 6 else kindL c
theorem inL_signs (c:Int):inL c [35,48,44,46]=decide (c=35∨c=48∨c=44∨c=46):=by
 unfold inL
 rw [Bool.eq_iff_iff,decide_eq_true_iff]
 simp
theorem inL_wrong (c:Int):inL c [49,50,51,52,53,54,55,56,57,64,42,43,69]=decide ((49≤c∧c≤57)∨c=64∨c=42∨c=43∨c=69):=by
 unfold inL
 rw [Bool.eq_iff_iff,decide_eq_true_iff]
 simp
 omega
theorem kind_ref (c:Int) (w:World):Calls Tryz.prog 197 #[.int .i64 c] w fun e w'=>e=.returned (.int .i64 (kindR c))∧w=w':=by
 by_cases e1:c=164
 ·subst e1;go_enter Tryz.func197,Tryz.ntmps197;go_wp2;go_ret;exact ⟨rfl,rfl⟩
 by_cases e2:c=37
 ·subst e2;go_enter Tryz.func197,Tryz.ntmps197;go_wp2;go_ret;exact ⟨rfl,rfl⟩
 by_cases e3:c=45
 ·subst e3;go_enter Tryz.func197,Tryz.ntmps197;go_wp2;go_ret;exact ⟨rfl,rfl⟩
 have b1:(c == 164)=false:=by simpa using e1
 have b2:(c == 37)=false:=by simpa using e2
 have b3:(c == 45)=false:=by simpa using e3
 have hA:=in_ c ⟨#[35,48,44,46]⟩ w (by decide)
 have hA':Calls Tryz.prog 216 #[.int .i64 c,.string ⟨#[35,48,44,46]⟩] w fun e w'=>e=.returned (.bool (decide (c=35∨c=48∨c=44∨c=46)))∧w=w':=by rw [← inL_signs];exact hA
 have hB:=in_ c ⟨#[49,50,51,52,53,54,55,56,57,64,42,43,69]⟩ w (by decide)
 have hB':Calls Tryz.prog 216 #[.int .i64 c,.string ⟨#[49,50,51,52,53,54,55,56,57,64,42,43,69]⟩] w fun e w'=>e=.returned (.bool (decide ((49≤c∧c≤57)∨c=64∨c=42∨c=43∨c=69)))∧w=w':=by rw [← inL_wrong];exact hB
 have HA:=Lib.hid hA'
 have HB:=Lib.hid hB'
 clear hA hA' hB hB'
 by_cases s1:c=35∨c=48∨c=44∨c=46
 ·have HK:Hid (kindR c=4):=Lib.hid (by
   have hk:kindL c=4:=by unfold kindL;rw [if_neg e1,if_neg e2,if_neg e3,if_neg (by omega),if_pos s1]
   unfold kindR;rw [hk];rfl)
  rw [decide_eq_true s1] at HA
  clear s1 HB
  go_enter Tryz.func197,Tryz.ntmps197
  go_wp2_with fail
  refine HA.out.mono ?_;rintro e w' ⟨rfl,rfl⟩
  go_wp2
  go_ret
  exact ⟨by rw [HK.out];rfl,rfl⟩
 rw [decide_eq_false s1] at HA
 by_cases e4:c=59
 ·subst e4
  clear s1 HB
  go_enter Tryz.func197,Tryz.ntmps197
  go_wp2_with fail
  refine HA.out.mono ?_;rintro e w' ⟨rfl,rfl⟩
  go_wp2
  go_ret
  exact ⟨rfl,rfl⟩
 have b4:(c == 59)=false:=by simpa using e4
 by_cases s2:(49≤c∧c≤57)∨c=64∨c=42∨c=43∨c=69
 ·have HK:Hid (kindR c=6):=Lib.hid (by unfold kindR kindL;rw [if_neg e1,if_neg e2,if_neg e3,if_neg e4,if_neg s1,if_pos s2];rfl)
  rw [decide_eq_true s2] at HB
  clear s1 s2
  go_enter Tryz.func197,Tryz.ntmps197
  go_wp2_with fail
  refine HA.out.mono ?_;rintro e w' ⟨rfl,rfl⟩
  go_wp2_with fail
  refine HB.out.mono ?_;rintro e w' ⟨rfl,rfl⟩
  go_wp2
  go_ret
  exact ⟨by rw [HK.out];rfl,rfl⟩
 ·have HK:Hid (kindR c=0):=Lib.hid (by unfold kindR kindL;rw [if_neg e1,if_neg e2,if_neg e3,if_neg e4,if_neg s1,if_neg s2];rfl)
  rw [decide_eq_false s2] at HB
  clear s1 s2
  go_enter Tryz.func197,Tryz.ntmps197
  go_wp2_with fail
  refine HA.out.mono ?_;rintro e w' ⟨rfl,rfl⟩
  go_wp2_with fail
  refine HB.out.mono ?_;rintro e w' ⟨rfl,rfl⟩
  go_wp2
  go_ret
  exact ⟨by rw [HK.out];rfl,rfl⟩
def restOf (b:Bool) (xs:List Int) (acc l:List Pc):Prop:=∃ r,tokS b false xs=some r∧acc++r=l
theorem rest_quote {b:Bool} {r:List Int} {acc l:List Pc} (h:restOf b (39 :: 39 :: r) acc l):restOf b r (acc++[(0,encB 39)]) l:=by
 obtain ⟨t,ht,hl⟩:=h
 rw [tokS_quote,tokS,if_pos rfl] at ht
 obtain ⟨m,hm,rfl⟩:=Option.map_eq_some_iff.1 ht
 exact ⟨m,hm,by simpa using hl⟩
theorem rest_toggle {b:Bool} {r:List Int} {acc l:List Pc} (h:restOf b (39 :: r) acc l) (hn:noQ r=true):restOf (!b) r acc l:=by
 obtain ⟨t,ht,hl⟩:=h
 rw [tokS_quote,tokS_toggle b r (noQ_ne hn)] at ht
 exact ⟨t,ht,hl⟩
theorem rest_in {c:Int} {r:List Int} {acc l:List Pc} (hc:c ≠ 39) (h:restOf true (c :: r) acc l):restOf true r (acc++[(0,encB c)]) l:=by
 obtain ⟨t,ht,hl⟩:=h
 rw [tokS,if_neg hc,if_pos rfl] at ht
 obtain ⟨m,hm,rfl⟩:=Option.map_eq_some_iff.1 ht
 exact ⟨m,hm,by simpa using hl⟩
theorem rest_out {c:Int} {r:List Int} {acc l:List Pc} (hc:c ≠ 39) (h:restOf false (c :: r) acc l):0≤kindL c∧restOf false r (acc++[(kindL c,encB c)]) l:=by
 obtain ⟨t,ht,hl⟩:=h
 rw [tokS,if_neg hc] at ht
 simp only [Bool.false_eq_true,if_false] at ht
 split at ht
 ·cases ht
 ·obtain ⟨m,hm,rfl⟩:=Option.map_eq_some_iff.1 ht
  exact ⟨by omega,m,hm,by simpa using hl⟩
theorem rest_end {b:Bool} {acc l:List Pc} (h:restOf b [] acc l):b=false∧acc=l:=by
 obtain ⟨t,ht,hl⟩:=h
 cases b <;> simp [tokS] at ht
 subst ht
 exact ⟨rfl,by simpa using hl⟩
theorem str_39:(⟨(encB 39).toArray⟩:ByteArray)=⟨#[39]⟩:=by rw [encB_39]
set_option maxRecDepth 100000
theorem tokens_ref (s:ByteArray) (l:List Pc) (w:World) (hs:s.size≤1000000) (ht:tokL s.data.toList=some l) :
  Calls Tryz.prog 173 #[.string s] w fun e w'=>∃ A c,e=.returned (.tuple #[.slice A l.length c,.bool true])∧Row w' A (pcsV l)∧l.length≤c∧Okc A c∧Ext w w':=by
 go_enter Tryz.func173,Tryz.ntmps173
 go_wp2_with fail
 refine (ref_all s _ (by omega)).mono ?_;rintro e w1 ⟨X,cX,Y,cY,rfl,hrow,hrow2,hx⟩
 have hbd:=charsL_bd s.data.toList
 have hcl:=chars_len s
 have HT:Hid (restOf false (charsL s.data.toList) [] l):=Lib.hid ⟨l,ht,rfl⟩
 clear hrow2 ht
 generalize (startsL s.data.toList).length=ny
 generalize validL s.data.toList=vy
 generalize charsL s.data.toList=xs at *
 have HX:=Lib.hid hx
 have HBD:=Lib.hid hbd
 clear hx hbd
 go_wp2
 go_loopw [7,8,9,10,11] (fun out q i _ _ wr=>∃ (k:Nat) (acc:List Pc) (b:Bool) (A:Option Addr) (c:Nat),k≤xs.length∧i=.int .i64 k∧q=.bool b∧out=.slice A acc.length c∧Acc 221 2 w1 wr A c acc.length (pcsV acc)∧acc.length≤k∧Hid (restOf b (xs.drop k) acc l)) (fun _ _ i _ _ _=>xs.length - (intOf i).toNat)
 case atStart=>exact ⟨0,[],false,none,0,Nat.zero_le _,rfl,rfl,rfl,Acc.start _ _ _,Nat.le_refl _,HT⟩
 case round =>
  obtain ⟨k,acc,b,A,c,hk,rfl,rfl,rfl,hacc,hak,HK⟩:=hrel
  by_cases hlt:k < xs.length
  ·obtain ⟨bX,oX,rfl,hc⟩:=row_int (hacc.keep hrow) hlt
   have hb:=HBD.out _ (List.getElem_mem hlt)
   have HD:Hid (xs.drop k=xs[k] :: xs.drop (k+1)):=Lib.hid (List.drop_eq_getElem_cons hlt)
   have hbig:=hacc.cap
   generalize hv:xs[k]=v at *
   have HV:=Lib.hid hv
   clear hv
   obtain ⟨hb0,hb1⟩:=hb
   by_cases hq:v=39
   ·subst hq
    by_cases h2:k+1 < xs.length
    ·obtain ⟨_,_,e1,hcn⟩:=row_int (hacc.keep hrow) h2
     injection e1 with e1
     injection e1 with e1 e2
     subst e1;subst e2
     have HD2:Hid (xs.drop (k+1)=xs[k+1] :: xs.drop (k+1+1)):=Lib.hid (List.drop_eq_getElem_cons h2)
     generalize hu:xs[k+1]=u at *
     clear hu
     have hmin:min ((k:Int)+1) ((xs.length:Int) - 1)=(k:Int)+1:=by omega
     have hg1:((k:Int)+1) < (xs.length:Int):=by omega
     have hcn':wr.cell? ⟨bX,oX+(k+1),none⟩=some (.int .i64 u):=hcn
     by_cases hq2:u=39
     ·subst hq2
      have HR:Hid (restOf b (xs.drop (k+2)) (acc++[(0,encB 39)]) l):=Lib.hid (rest_quote (by have:=HK.out;rw [HD.out,HD2.out] at this;exact this))
      have hacc2:=hacc.alloc (.cells #[.int .i64 0,.string ⟨#[39]⟩] 221)
      go_wp2_with (at_builtin;refine wp_app ei_b rfl (.tmp 47) (.tmp 49) rfl w1 _ A c acc.length _ rfl hacc [.int .i64 0,.string ⟨#[39]⟩] 1 1 (by rfl) rfl (by simp [Value.oneCell']) (by omega) (by unfold maxLen;omega) ?_;intro A1 c1 w3 hacc3 _ _;clear hacc hacc2)
      refine ⟨?_,by simp [intOf] <;> omega⟩
      exact ⟨k+2,acc++[(0,encB 39)],b,A1,c1,by omega,by go_num,rfl,by simp,by rw [pcsV_app,pcsV_one,str_39];simpa using hacc3,by simp;omega,HR⟩
     ·have hq3:(u == 39)=false:=by simpa using hq2
      have HR:Hid (restOf (!b) (xs.drop (k+1)) acc l):=Lib.hid (rest_toggle (by have:=HK.out;rw [HD.out] at this;exact this) (by rw [HD2.out];simpa [noQ] using hq2))
      go_wp2_with fail
      refine ⟨?_,by simp [intOf] <;> omega⟩
      exact ⟨k+1,acc,!b,A,c,by omega,by go_num,rfl,rfl,hacc,by omega,HR⟩
    ·have hg1:¬ (((k:Int)+1) < (xs.length:Int)):=by omega
     have HR:Hid (restOf (!b) (xs.drop (k+1)) acc l):=Lib.hid (rest_toggle (by have:=HK.out;rw [HD.out] at this;exact this) (by rw [List.drop_of_length_le (by omega)];rfl))
     go_wp2_with fail
     refine ⟨?_,by simp [intOf] <;> omega⟩
     exact ⟨k+1,acc,!b,A,c,by omega,by go_num,rfl,rfl,hacc,by omega,HR⟩
   ·have hq1:(v == 39)=false:=by simpa using hq
    cases b
    ·obtain ⟨hk0,hR⟩:=rest_out hq (by have:=HK.out;rw [HD.out] at this;exact this)
     have HR:=Lib.hid hR
     have HKR:Hid (kindR v=kindL v):=Lib.hid (by unfold kindR;rw [if_neg (by omega)])
     have hkb:=kindL_bd v
     have hk6:(kindL v == 6)=false:=by simp;omega
     clear hR hk0 hkb
     go_wp2_with fail
     refine (kind_ref v _).mono ?_;rintro e w2 ⟨rfl,rfl⟩;rw [HKR.out]
     go_wp2_with fail
     refine (ref_encode v _).mono ?_;rintro e w2 ⟨rfl,hx2⟩
     have hacc2:=hacc.step hx2
     clear hacc
     go_wp2_with (at_builtin;refine wp_app ei_b rfl (.tmp 59) (.tmp 64) rfl w1 _ A c acc.length _ rfl hacc2 [.int .i64 (kindL v),.string ⟨(encB v).toArray⟩] 1 1 (by rfl) rfl (by simp [Value.oneCell']) (by omega) (by unfold maxLen;omega) ?_;intro A1 c1 w3 hacc3 _ _;clear hacc2)
     refine ⟨?_,by simp [intOf] <;> omega⟩
     exact ⟨k+1,acc++[(kindL v,encB v)],false,A1,c1,by omega,by go_num,rfl,by simp,by rw [pcsV_app,pcsV_one];simpa using hacc3,by simp;omega,HR⟩
    ·have HR:=Lib.hid (rest_in hq (by have:=HK.out;rw [HD.out] at this;exact this))
     go_wp2_with fail
     refine (ref_encode v _).mono ?_;rintro e w2 ⟨rfl,hx2⟩
     have hacc2:=hacc.step hx2
     clear hacc
     go_wp2_with (at_builtin;refine wp_app ei_b rfl (.tmp 59) (.tmp 64) rfl w1 _ A c acc.length _ rfl hacc2 [.int .i64 0,.string ⟨(encB v).toArray⟩] 1 1 (by rfl) rfl (by simp [Value.oneCell']) (by omega) (by unfold maxLen;omega) ?_;intro A1 c1 w3 hacc3 _ _;clear hacc2)
     refine ⟨?_,by simp [intOf] <;> omega⟩
     exact ⟨k+1,acc++[(0,encB v)],true,A1,c1,by omega,by go_num,rfl,by simp,by rw [pcsV_app,pcsV_one];simpa using hacc3,by simp;omega,HR⟩
  ·have e:k=xs.length:=by omega
   subst e
   obtain ⟨rfl,rfl⟩:=rest_end (by have:=HK.out;rwa [List.drop_length] at this)
   go_wp2
   go_ret2
   exact ⟨A,c,rfl,hacc.row,hacc.cap.1,Acc.okc hacc,hacc.ext_of HX.out⟩
end Go.Proofs.YtcghgkagpkmpeaaGreatDoor.Pat
namespace Go.Proofs.YtcghgkagpkmpeaaGreatDoor.Pat
open Go.RowKit Go.ChangeShapes Go.WideShapes Utf All Small
theorem i64_of {n:Int} (h:(Lit.int .i64 n).wf=true):i64 n:=⟨(bounds_i64 h).1,(bounds_i64 h).2⟩
theorem open_slice_ints {H:Type} {enc:TypeId × Value→H} {W:World} {fuel:Nat} {v:Value} {x:DataW H × List MemPlace} (h:DataW.trod enc Tryz.prog W 0 (fun _=>true) true fuel 41 [v]=some x) :
  ∃ (A:Option Addr) (cap:Nat) (xs:List Int),v=.slice A xs.length cap∧Row W A (xs.map (Value.int .i64))∧∀ z ∈ xs,i64 z:=by
 rcases open_ints Tryz.underlying41 Tryz.underlying3 (by kernel_rfl) h with ⟨hcs,_⟩ | ⟨a,l,c,zs,hcs,_,hl,hm,hz,_,hcell,hwz⟩
 ·injection hcs with hcs _
  exact ⟨none,0,[],hcs,.inl rfl,by simp⟩
 ·injection hcs with hcs _
  obtain ⟨_,_,xs,hx,hr,hw⟩:=row_of_is (w:=W) (a:=some a) (len:=l) (cap:=c) (zs:=zs) (.inr ⟨a,rfl,hl,hm,by simpa using hz,hcell,hwz⟩)
  exact ⟨some a,c,xs,by rw [hx];exact hcs,hr,fun z hz'=>i64_of (hw z hz')⟩
theorem open_int_cell {H:Type} {enc:TypeId × Value→H} {W:World} {fuel:Nat} {v:Value} {x:DataW H × List MemPlace} (h:DataW.trod enc Tryz.prog W 0 (fun _=>true) true fuel 3 [v]=some x):∃ n,v=.int .i64 n∧i64 n:=by
 obtain ⟨n,hcs,_,hw⟩:=DataW.trod_int Tryz.underlying3 h
 injection hcs with hcs _
 exact ⟨n,hcs,i64_of hw⟩
theorem open_bool_cell {H:Type} {enc:TypeId × Value→H} {W:World} {fuel:Nat} {v:Value} {x:DataW H × List MemPlace} (h:DataW.trod enc Tryz.prog W 0 (fun _=>true) true fuel 4 [v]=some x):∃ b,v=.bool b:=by
 obtain ⟨n,hcs,_⟩:=DataW.trod_bool Tryz.underlying4 h
 injection hcs with hcs _
 exact ⟨n,hcs⟩
theorem some_at {α:Type} {xs:List α} {n:Nat} (h:xs.length=n) {i:Nat} (hi:i < n):∃ y,xs[i]? = some y:=⟨xs[i]'(by omega),List.getElem?_eq_getElem (by omega)⟩
open Go.RowKit Go.ChangeShapes Go.WideShapes Utf All Small Strs Build EncC
theorem infoB:(Tryz.prog.info? 221).map (·.size)=some 2:=by kernel_rfl
theorem few_mk (l:List UInt8) (m:Nat):fewB ⟨l.toArray⟩ m=⟨(l.take m).toArray⟩:=by
 have hsz:(⟨l.toArray⟩:ByteArray).size=l.length:=rfl
 unfold fewB
 rw [hsz]
 split
 ·refine bytes_ext ?_
  simp [ByteArray.data_extract]
 ·rw [List.take_of_length_le (by omega)]
theorem few_l (l:List UInt8) (m:Nat) (w:World) (hs:l.length≤maxLen) (hm:m≤1000000) :
  Calls Tryz.prog 8 #[.string ⟨l.toArray⟩,.int .i64 m] w fun e w'=>e=.returned (.string ⟨(l.take m).toArray⟩)∧w=w':=by
 have:=few ⟨l.toArray⟩ m w hs hm
 rwa [few_mk] at this
theorem tx_at (cur per min:List UInt8) (j:Int) (h1:0 < j) (h2:j < 4):∃ (n:Nat) (t:List UInt8),j=n∧n < 4∧([strV [],strV cur,strV per,strV min]:List Value)[n]? = some (strV t)∧t=(if j=1 then cur else if j=2 then per else if j=3 then min else []):=by
 rcases (by omega:j=1∨j=2∨j=3) with rfl | rfl | rfl
 ·exact ⟨1,cur,rfl,by omega,rfl,rfl⟩
 ·exact ⟨2,per,rfl,by omega,rfl,rfl⟩
 ·exact ⟨3,min,rfl,by omega,rfl,rfl⟩
set_option maxRecDepth 100000
theorem resolve_ref (A:Option Addr) (c:Nat) (cur per min:List UInt8) (l:List Pc) (w:World) (hA:Row w A (pcsV l)) (hl:l.length≤1000) (hc:cur.length≤100000) (hp:per.length≤100000) (hm:min.length≤100000) (hk:∀ p ∈ l,0≤p.1∧p.1 < 4∧p.2.length≤6) :
  Calls Tryz.prog 161 #[.slice A l.length c,.string ⟨cur.toArray⟩,.string ⟨per.toArray⟩,.string ⟨min.toArray⟩] w fun e w'=>e=.returned (.string ⟨(resF cur per min l).toArray⟩)∧Ext w w':=by
 have HK:=Lib.hid hk
 clear hk
 have hbx:=Box.new w 9 [strV [],strV cur,strV per,strV min]
 have hx0:Ext w (w.alloc (.cells [strV [],strV cur,strV per,strV min].toArray 9)):=Ext.alloc_ (Ext.refl w) _
 go_enter Tryz.func161,Tryz.ntmps161
 go_wp2
 change Code.wp _ _ _ _ (w.alloc (.cells [strV [],strV cur,strV per,strV min].toArray 9))
 have HROW:Hid (Row (w.alloc (.cells [strV [],strV cur,strV per,strV min].toArray 9)) (some ⟨w.heap.size,0,none⟩) [strV [],strV cur,strV per,strV min]):=Lib.hid hbx.row
 clear hbx
 generalize w.alloc (.cells [strV [],strV cur,strV per,strV min].toArray 9)=w1 at *
 go_loop [10,11] (fun s i=>∃ k:Nat,k≤l.length∧i=.int .i64 k∧s=.string ⟨(resF cur per min (l.take k)).toArray⟩∧(resF cur per min (l.take k)).length≤100000 * k) (fun _ i=>l.length - (intOf i).toNat)
 case atStart=>exact ⟨0,Nat.zero_le _,rfl,rfl,by simp [resF]⟩
 case round =>
  obtain ⟨k,hk,rfl,rfl,hle⟩:=hrel
  by_cases hlt:k < l.length
  ·obtain ⟨b,off,rfl,hc1,hc2⟩:=row_pc (hA.below hx0 (Nat.le_refl _)) hlt
   have HS:=Lib.hid (resF_snoc cur per min hlt)
   obtain ⟨ht0,ht1,ht2⟩:=HK.out _ (List.getElem_mem hlt)
   generalize l[k]=x at *
   obtain ⟨j,t⟩:=x
   simp only at ht0 ht1 ht2
   generalize resF cur per min (l.take k)=tx at *
   by_cases hj:0 < j
   ·obtain ⟨n,u,rfl,hn4,hnu,hu⟩:=tx_at cur per min j hj ht1
    have hcn:w1.cell? ⟨w.heap.size,n,none⟩=some (.string ⟨u.toArray⟩):=HROW.out.cell00 hnu
    have HV:Hid ((if ((n:Int),t).1=1 then cur else if ((n:Int),t).1=2 then per else if ((n:Int),t).1=3 then min else ((n:Int),t).2)=u):=Lib.hid (by
     rw [hu]
     rcases (by omega:n=1∨n=2∨n=3) with rfl | rfl | rfl <;> rfl)
    have hul:u.length≤100000:=by
     rw [hu]
     (repeat' split) <;> first | assumption | simp
    have hgt:(n:Int) > 0:=hj
    clear hu hnu
    go_wp2
    go_round
    case rel=>exact ⟨k+1,by omega,by go_num,by rw [HS.out,HV.out,app_mk],by rw [HS.out,HV.out,List.length_append];omega⟩
    case measure=>simp [intOf];omega
   ·have e0:j=0:=by omega
    subst e0
    have HV:Hid ((if ((0:Int),t).1=1 then cur else if ((0:Int),t).1=2 then per else if ((0:Int),t).1=3 then min else ((0:Int),t).2)=t):=Lib.hid rfl
    go_wp2
    go_round
    case rel=>exact ⟨k+1,by omega,by go_num,by rw [HS.out,HV.out,app_mk],by rw [HS.out,HV.out,List.length_append];omega⟩
    case measure=>simp [intOf];omega
  ·have e:k=l.length:=by omega
   subst e
   rw [List.take_length]
   go_wp2
   go_ret
   exact ⟨rfl,hx0⟩
set_option maxRecDepth 512
theorem row_of_pcs {w:World} {b off:Nat} {xs:List Pc} (h:∀ i (hi:i < xs.length),w.cell? ⟨b,off+i * 2,none⟩=some (.int .i64 xs[i].1)∧w.cell? ⟨b,off+i * 2+1,none⟩=some (.string ⟨xs[i].2.toArray⟩)):Row w (some ⟨b,off,none⟩) (pcsV xs):=by
 refine .inr ⟨b,off,rfl,fun j v hv=>?_⟩
 have hj:j < 2 * xs.length:=by
  rw [← pcsV_len]
  exact (List.getElem?_eq_some_iff.1 hv).1
 obtain ⟨i,r,hr,rfl⟩:∃ i r,r < 2∧j=i * 2+r:=⟨j / 2,j % 2,Nat.mod_lt _ (by omega),by omega⟩
 have hi:i < xs.length:=by omega
 obtain ⟨p1,p2⟩:=pcs_at xs i hi
 obtain ⟨c1,c2⟩:=h i hi
 rcases (by omega:r=0∨r=1) with rfl | rfl
 ·rw [Nat.add_zero] at hv ⊢
  rw [p1] at hv
  rw [← Option.some.inj hv];exact c1
 ·rw [p2] at hv
  rw [← Option.some.inj hv,← Nat.add_assoc];exact c2
theorem open_pcs {H:Type} {enc:TypeId × Value→H} {W:World} {v:Value} {d:DataW H} {ps:List MemPlace} (hv:∃ a len cap,v=.slice a len cap) (h:DataW.Trod enc Tryz.prog W 0 (fun _=>true) true 27 v d ps) :
  ∃ (A:Option Addr) (cap:Nat) (xs:List Pc),v=.slice A xs.length cap∧xs.length≤cap∧cap≤maxLen∧Row W A (pcsV xs)∧∀ x ∈ xs,i64 x.1∧x.2.length≤maxLen:=by
 obtain ⟨a,len,cap,rfl⟩:=hv
 obtain ⟨fuel,hf⟩:=h
 rcases Deep.open_slice_pairs Tryz.underlying27 Tryz.underlying221 (by kernel_rfl) rfl rfl (by kernel_rfl) (by kernel_rfl) hf with ⟨hcs,_⟩ | ⟨x,l,c,m,n,V0,V1,D0,D1,P0,P1,hcs,_,hl,hm,hmm,_,hcell⟩
 ·simp [Value.cells] at hcs
  obtain ⟨rfl,rfl,rfl⟩:=hcs
  exact ⟨none,0,[],rfl,Nat.le_refl _,Nat.zero_le _,.inl rfl,by simp⟩
 ·simp [Value.cells] at hcs
  obtain ⟨rfl,rfl,rfl⟩:=hcs
  have hmc:m=cap:=by simpa using hmm
  subst hmc
  have each:∀ i,i < m→∃ (n:Int) (t:ByteArray),W.cell? (x.add (i * 2))=some (.int .i64 n)∧W.cell? (x.add (i * 2+1))=some (.string t)∧i64 n∧t.size≤maxLen:=by
   intro i hi
   obtain ⟨e1,e2,e3,e4⟩:=hcell i hi
   obtain ⟨z,hz,_,hw⟩:=DataW.trod_int Tryz.underlying3 e3
   obtain ⟨t,hts,_,hsz⟩:=DataW.trod_string Tryz.underlying9 e4
   injection hz with hz _
   injection hts with hts _
   exact ⟨z,t,by rw [e1,hz],by rw [e2,hts],i64_of hw,hsz⟩
  let f:Nat→Pc:=fun i=>if hi:i < m then ((each i hi).choose,(each i hi).choose_spec.choose.data.toList) else (0,[])
  have hf:∀ i (hi:i < m),W.cell? (x.add (i * 2))=some (.int .i64 (f i).1)∧W.cell? (x.add (i * 2+1))=some (.string ⟨(f i).2.toArray⟩)∧i64 (f i).1∧(f i).2.length≤maxLen:=by
   intro i hi
   have hs:=(each i hi).choose_spec.choose_spec
   have e:f i=((each i hi).choose,(each i hi).choose_spec.choose.data.toList):=dif_pos hi
   rw [e]
   exact ⟨hs.1,hs.2.1,hs.2.2.1,by simpa using hs.2.2.2⟩
  refine ⟨some x,m,(List.range len).map f,by simp,by simpa using hl,hm,?_,?_⟩
  ·by_cases h0:len=0
   ·subst h0;exact .inl rfl
   ·obtain ⟨b,off,sp⟩:=x
    have hsp:sp=none:=by
     have:=World.cell?_spot (hf 0 (by omega)).1
     simpa [Addr.add] using this
    subst hsp
    refine row_of_pcs fun i hi=>?_
    have hi':i < m:=by simp at hi;omega
    have hfi:=hf i hi'
    simp only [List.getElem_map,List.getElem_range]
    have ea:∀ k,(⟨b,off,none⟩:Addr).add k=⟨b,off+k,none⟩:=by
     intro k
     unfold Addr.add
     split
     ·rename_i h;subst h;rfl
     ·rfl
    rw [ea,ea] at hfi
    exact ⟨hfi.1,by rw [Nat.add_assoc];exact hfi.2.1⟩
  ·intro y hy
   obtain ⟨i,hi,rfl⟩:=List.mem_map.1 hy
   exact (hf i (by simp at hi;omega)).2.2
end Go.Proofs.YtcghgkagpkmpeaaGreatDoor.Pat
