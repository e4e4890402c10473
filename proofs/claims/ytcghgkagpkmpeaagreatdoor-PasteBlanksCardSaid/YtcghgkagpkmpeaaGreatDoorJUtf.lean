/- Joined by wip/join.py: Utf Dec Small All Strs. -/
import Derived.Test.YtcghgkagpkmpeaaGreatDoorJBase
import Derived.Test.YtcghgkagpkmpeaaGreatDoorShelf
import Derived.Lib.TrimUEq
import Derived.Deep.RegionWith
import Derived.Lib.IndexLaws
set_option linter.unusedVariables false
set_option linter.unusedSimpArgs false
set_option maxHeartbeats 4000000
namespace Go.Proofs.YtcghgkagpkmpeaaGreatDoor.Utf
open Go.RowKit
def mayC (c:Int):Bool:=decide (0≤c∧c≤1114111∧(c < 55296∨57343 < c))
theorem beq_dec {a:Bool} {p:Prop} [Decidable p] (h:a=true ↔ p):a=decide p:=by rw [Bool.eq_iff_iff,h,decide_eq_true_iff]
theorem ref_may (c:Int) (w:World):Calls Tryz.prog 171 #[.int .i64 c] w fun e w'=>e=.returned (.bool (mayC c))∧w=w':=by
 go_enter Tryz.func171,Tryz.ntmps171
 go_wp2
 all_goals
  go_ret
  refine ⟨ret_bool ?_,rfl⟩
  unfold mayC
  refine beq_dec ?_
  simp
  try omega
def encB (c:Int):List UInt8:=if mayC c then Lib.encodeRune c else []
theorem encB_bad {c:Int} (h:mayC c=false):encB c=[]:=by unfold encB;rw [h];rfl
theorem encB_of {c:Int} (h:mayC c=true) (ns:List Int) (hn:Lib.encodeRuneZ c=ns):encB c=bytesZ ns:=by
 unfold encB
 rw [h,if_pos rfl,Lib.encodeRune,hn]
 rfl
attribute [local go_sem] run_lit1 run_lit2 run_lit3 run_lit4
set_option maxRecDepth 100000
theorem ref_encode (c:Int) (w:World):Calls Tryz.prog 104 #[.int .i64 c] w fun e w'=>e=.returned (.string ⟨(encB c).toArray⟩)∧Ext w w':=by
 cases hm:mayC c
 ·have HF:=Lib.hid (encB_bad hm)
  have HM:=Lib.hid hm
  clear hm
  go_enter Tryz.func104,Tryz.ntmps104
  go_wp2_with fail
  refine (ref_may _ _).mono ?_;rintro e w' ⟨rfl,rfl⟩;rw [HM.out]
  go_wp2
  go_ret
  exact ⟨by rw [HF.out];rfl,Ext.refl _⟩
 ·have hb:0≤c∧c≤1114111∧(c < 55296∨57343 < c):=by unfold mayC at hm;simpa using hm
  obtain ⟨h0,h1,h2⟩:=hb
  by_cases c1:c < 128
  ·have HF:=Lib.hid (encB_of hm _ (Lib.encodeRuneZ_one h0 (by omega)))
   have HM:=Lib.hid hm
   clear hm h1 h2
   go_enter Tryz.func104,Tryz.ntmps104
   go_wp2_with fail
   refine (ref_may _ _).mono ?_;rintro e w' ⟨rfl,rfl⟩;rw [HM.out]
   go_wp2
   go_ret
   exact ⟨by rw [HF.out];rfl,(Ext.refl _).alloc (Nat.le_refl _) _⟩
  by_cases c2:c < 2048
  ·have HF:=Lib.hid (encB_of hm _ (Lib.encodeRuneZ_two (by omega) (by omega)))
   have HM:=Lib.hid hm
   clear hm h1 h2
   go_enter Tryz.func104,Tryz.ntmps104
   go_wp2_with fail
   refine (ref_may _ _).mono ?_;rintro e w' ⟨rfl,rfl⟩;rw [HM.out]
   go_wp2
   go_ret
   exact ⟨by rw [HF.out];rfl,(Ext.refl _).alloc (Nat.le_refl _) _⟩
  by_cases c3:c < 65536
  ·have HF:=Lib.hid (encB_of hm _ (Lib.encodeRuneZ_three (by omega)))
   have HM:=Lib.hid hm
   clear hm h1 h2
   go_enter Tryz.func104,Tryz.ntmps104
   go_wp2_with fail
   refine (ref_may _ _).mono ?_;rintro e w' ⟨rfl,rfl⟩;rw [HM.out]
   go_wp2
   go_ret
   exact ⟨by rw [HF.out];rfl,(Ext.refl _).alloc (Nat.le_refl _) _⟩
  ·have HF:=Lib.hid (encB_of hm _ (Lib.encodeRuneZ_four (by omega) h1))
   have HM:=Lib.hid hm
   clear hm h2
   go_enter Tryz.func104,Tryz.ntmps104
   go_wp2_with fail
   refine (ref_may _ _).mono ?_;rintro e w' ⟨rfl,rfl⟩;rw [HM.out]
   go_wp2
   go_ret
   exact ⟨by rw [HF.out];rfl,(Ext.refl _).alloc (Nat.le_refl _) _⟩
theorem utf_may (c:Int) (w:World):Calls Tryz.prog 157 #[.int .i64 c] w fun e w'=>e=.returned (.bool (mayC c))∧w=w':=by
 by_cases h0:0≤c
 ·by_cases h1:c≤1114111
  ·have hv:Lib.validRune c=mayC c:=by
    rw [Bool.eq_iff_iff];unfold Lib.validRune mayC;simp;omega
   have HV:=Lib.hid hv
   clear hv
   go_enter Tryz.func157,Tryz.ntmps157
   go_wp2_with fail
   refine (Tryz.utf8_ValidRune _ _).mono ?_;rintro e w' ⟨rfl,rfl⟩;rw [HV.out]
   go_wp2
   go_ret
   exact ⟨rfl,rfl⟩
  ·have hm:mayC c=false:=by unfold mayC;simp;omega
   have HM:=Lib.hid hm
   clear hm
   go_enter Tryz.func157,Tryz.ntmps157
   go_wp2
   go_ret
   exact ⟨by rw [HM.out];rfl,rfl⟩
 ·have hm:mayC c=false:=by unfold mayC;simp;omega
  have HM:=Lib.hid hm
  clear hm
  go_enter Tryz.func157,Tryz.ntmps157
  go_wp2
  go_ret
  exact ⟨by rw [HM.out];rfl,rfl⟩
theorem utf_encode (c:Int) (w:World):Calls Tryz.prog 76 #[.int .i64 c] w fun e w'=>e=.returned (.string ⟨(encB c).toArray⟩)∧Ext w w':=by
 cases hm:mayC c
 ·have HF:=Lib.hid (encB_bad hm)
  have HM:=Lib.hid hm
  clear hm
  go_enter Tryz.func76,Tryz.ntmps76
  go_wp2_with fail
  refine (utf_may _ _).mono ?_;rintro e w' ⟨rfl,rfl⟩;rw [HM.out]
  go_wp2
  go_ret
  exact ⟨by rw [HF.out];rfl,Ext.refl _⟩
 ·have hb:0≤c∧c≤1114111∧(c < 55296∨57343 < c):=by unfold mayC at hm;simpa using hm
  obtain ⟨h0,h1,h2⟩:=hb
  have HF:=Lib.hid (encB_of hm _ rfl)
  have HM:=Lib.hid hm
  clear hm h2
  go_enter Tryz.func76,Tryz.ntmps76
  go_wp2_with fail
  refine (utf_may _ _).mono ?_;rintro e w' ⟨rfl,rfl⟩;rw [HM.out]
  go_wp2_with fail
  refine (Tryz.utf8_AppendRune_plain w.heap.size (.slice none 0 0) 0 [] c (by omega) (by omega) _ (World.ownsRow_nil _ _ _ _) (by omega) (Nat.le_refl _)).mono ?_
  rintro e w1 ⟨v,rfl,hown,o,hg⟩
  obtain ⟨A,cp,rfl,hrow⟩:∃ A cp,v=.slice A (Lib.encodeRuneZ c).length cp∧Row w1 A ((Lib.encodeRuneZ c).map (Value.int .u8)):=by
   have hl:0+(Lib.runeCells c).length=(Lib.encodeRuneZ c).length:=by simp [Lib.runeCells]
   rw [hl] at hown
   rcases hown.2 with ⟨hv,hz⟩ | ⟨g,cap,cur,hv,_⟩
   ·have:=(Lib.encodeRuneZ_length c).1;omega
   ·exact ⟨_,_,hv,Row.of_own (hv ▸ hown)⟩
  have hstr:=run_bytes_str w1 A cp _ hrow
  have hb:Ext w w1:=((Below.refl _ _).alloc (Nat.le_refl _) o).grown hg (by simp) (by simp [Value.ownBlock])
  go_wp2
  go_ret
  exact ⟨by rw [HF.out];rfl,hb⟩
end Go.Proofs.YtcghgkagpkmpeaaGreatDoor.Utf
namespace Go.Proofs.YtcghgkagpkmpeaaGreatDoor.Dec
open Go.RowKit Utf
def offZ (n:Nat):Int:=if n=2 then 192 else if n=3 then 224 else if n=4 then 240 else 0
def foldZ (c:Int) (l:List UInt8):Int:=l.foldl (fun c b=>c * 64+b.toNat - 128) c
def valueL (l:List UInt8):Int:=foldZ ((l.getD 0 0).toNat - offZ l.length) l.tail
theorem byte_eq {x:Int} {b:UInt8} (h0:0≤x) (h1:x < 256):UInt8.ofNat x.toNat=b ↔ x=b.toNat:=by
 constructor
 ·intro h
  subst h
  rw [UInt8.toNat_ofNat',Nat.mod_eq_of_lt (by omega)]
  omega
 ·intro h
  subst h
  simp
theorem lt256 (b:UInt8):(b.toNat:Int) < 256∧0≤(b.toNat:Int):=⟨by have:=b.toNat_lt;omega,by omega⟩
theorem enc1 {v:Int} {a:UInt8}:encB v=[a] ↔ (0≤v∧v < 128∧v=a.toNat):=by
 have ha:=lt256 a
 unfold encB Lib.encodeRune Lib.encodeRuneZ
 by_cases hm:mayC v=true
 ·rw [if_pos hm]
  have hm':=hm
  unfold mayC at hm'
  simp only [decide_eq_true_eq] at hm'
  split
  ·simp only [List.map_cons,List.map_nil,List.cons.injEq,and_true]
   rw [byte_eq (by omega) (by omega)]
   omega
  ·repeat' split
   all_goals simp
   all_goals omega
 ·rw [if_neg hm]
  have hm':mayC v=false:=by simpa using hm
  unfold mayC at hm'
  simp only [decide_eq_false_iff_not] at hm'
  simp;omega
theorem enc2 {v:Int} {a b:UInt8}:encB v=[a,b] ↔ (128≤v∧v < 2048∧192+v / 64=a.toNat∧128+v % 64=b.toNat):=by
 have ha:=lt256 a
 have hb:=lt256 b
 unfold encB Lib.encodeRune Lib.encodeRuneZ
 by_cases hm:mayC v=true
 ·rw [if_pos hm]
  have hm':=hm
  unfold mayC at hm'
  simp only [decide_eq_true_eq] at hm'
  split
  ·simp;omega
  ·split
   ·simp only [List.map_cons,List.map_nil,List.cons.injEq,and_true]
    rw [byte_eq (by omega) (by omega),byte_eq (by omega) (by omega)]
    omega
   ·repeat' split
    all_goals simp
    all_goals omega
 ·rw [if_neg hm]
  have hm':mayC v=false:=by simpa using hm
  unfold mayC at hm'
  simp only [decide_eq_false_iff_not] at hm'
  simp;omega
theorem enc3 {v:Int} {a b c:UInt8}:encB v=[a,b,c] ↔ (2048≤v∧v < 65536∧(v < 55296∨57343 < v)∧224+v / 4096=a.toNat∧128+v / 64 % 64=b.toNat∧128+v % 64=c.toNat):=by
 have ha:=lt256 a
 have hb:=lt256 b
 have hc:=lt256 c
 unfold encB Lib.encodeRune Lib.encodeRuneZ
 by_cases hm:mayC v=true
 ·rw [if_pos hm]
  have hm':=hm
  unfold mayC at hm'
  simp only [decide_eq_true_eq] at hm'
  split
  ·simp;omega
  ·split
   ·simp;omega
   ·split
    ·simp only [List.map_cons,List.map_nil,List.cons.injEq,and_true]
     rw [byte_eq (by omega) (by omega),byte_eq (by omega) (by omega),byte_eq (by omega) (by omega)]
     omega
    ·split
     ·simp;omega
     ·exfalso;omega
 ·rw [if_neg hm]
  have hm':mayC v=false:=by simpa using hm
  unfold mayC at hm'
  simp only [decide_eq_false_iff_not] at hm'
  simp;omega
theorem enc4 {v:Int} {a b c d:UInt8}:encB v=[a,b,c,d] ↔ (65536≤v∧v≤1114111∧240+v / 262144=a.toNat∧128+v / 4096 % 64=b.toNat∧128+v / 64 % 64=c.toNat∧128+v % 64=d.toNat):=by
 have ha:=lt256 a
 have hb:=lt256 b
 have hc:=lt256 c
 have hd:=lt256 d
 unfold encB Lib.encodeRune Lib.encodeRuneZ
 by_cases hm:mayC v=true
 ·rw [if_pos hm]
  have hm':=hm
  unfold mayC at hm'
  simp only [decide_eq_true_eq] at hm'
  split
  ·simp;omega
  ·split
   ·simp;omega
   ·split
    ·simp;omega
    ·split
     ·simp only [List.map_cons,List.map_nil,List.cons.injEq,and_true]
      rw [byte_eq (by omega) (by omega),byte_eq (by omega) (by omega),byte_eq (by omega) (by omega),byte_eq (by omega) (by omega)]
      omega
     ·exfalso;omega
 ·rw [if_neg hm]
  have hm':mayC v=false:=by simpa using hm
  unfold mayC at hm'
  simp only [decide_eq_false_iff_not] at hm'
  simp;omega
def isEnc (l:List UInt8) (n:Nat):Bool:=decide (encB (valueL (l.take n))=l.take n)
def dec (l:List UInt8):Int × Nat:=(((Lib.decodeL l).1:Int),(Lib.decodeL l).2)
def okL (l:List UInt8):Bool:=decide (¬ (dec l=(65533,1)))
theorem decodeL_N (l:List UInt8):Lib.decodeL l=Lib.decodeN l.length (l.getD 0 0).toNat (l.getD 1 0).toNat (l.getD 2 0).toNat (l.getD 3 0).toNat:=by
 unfold Lib.decodeL
 rw [Lib.decode_N]
 simp
theorem dec_of_enc (l:List UInt8) (n:Nat) (h1:1≤n) (h4:n≤4) (hl:n≤l.length) (h:isEnc l n=true):dec l=(valueL (l.take n),n)∧okL l=true:=by
 unfold isEnc at h
 simp only [decide_eq_true_eq] at h
 have hmain:Lib.decodeL l=((valueL (l.take n)).toNat,n)∧0≤valueL (l.take n)∧(n=1→valueL (l.take n) < 128):=by
  rw [decodeL_N]
  match n,l,h1,h4,hl,h with
  | 1,a :: l,_,_,_,h =>
   have h:=enc1.1 h
   have e:valueL ((a :: l).take 1)=a.toNat:=by simp [valueL,foldZ,offZ]
   rw [e] at h ⊢
   refine ⟨?_,by omega,by omega⟩
   unfold Lib.decodeN
   rw [if_pos (by simp;omega)]
   simp
  | 2,a :: b :: l,_,_,_,h =>
   have h:=enc2.1 h
   have e:valueL ((a :: b :: l).take 2)=(a.toNat - 192) * 64+b.toNat - 128:=by simp [valueL,foldZ,offZ]
   rw [e] at h ⊢
   have ha:=lt256 a;have hb:=lt256 b
   generalize ha':a.toNat=x at *
   generalize hb':b.toNat=y at *
   refine ⟨?_,by omega,by omega⟩
   simp only [List.getD_cons_zero,List.getD_cons_succ,ha',hb',List.length_cons]
   unfold Lib.decodeN
   rw [if_neg (by omega),if_pos (by omega),if_pos (by omega)]
   simp only [Prod.mk.injEq,and_true]
   omega
  | 3,a :: b :: c :: l,_,_,_,h =>
   have h:=enc3.1 h
   have e:valueL ((a :: b :: c :: l).take 3)=((a.toNat - 224) * 64+b.toNat - 128) * 64+c.toNat - 128:=by simp [valueL,foldZ,offZ]
   rw [e] at h ⊢
   have ha:=lt256 a;have hb:=lt256 b;have hc:=lt256 c
   generalize ha':a.toNat=x at *
   generalize hb':b.toNat=y at *
   generalize hc':c.toNat=z at *
   refine ⟨?_,by omega,by omega⟩
   simp only [List.getD_cons_zero,List.getD_cons_succ,ha',hb',hc',List.length_cons]
   unfold Lib.decodeN
   rw [if_neg (by omega),if_neg (by omega),if_pos (by omega),if_pos (by omega)]
   simp only [Prod.mk.injEq,and_true]
   omega
  | 4,a :: b :: c :: d :: l,_,_,_,h =>
   have h:=enc4.1 h
   have e:valueL ((a :: b :: c :: d :: l).take 4)=(((a.toNat - 240) * 64+b.toNat - 128) * 64+c.toNat - 128) * 64+d.toNat - 128:=by simp [valueL,foldZ,offZ]
   rw [e] at h ⊢
   have ha:=lt256 a;have hb:=lt256 b;have hc:=lt256 c;have hd:=lt256 d
   generalize ha':a.toNat=x at *
   generalize hb':b.toNat=y at *
   generalize hc':c.toNat=z at *
   generalize hd':d.toNat=u at *
   refine ⟨?_,by omega,by omega⟩
   simp only [List.getD_cons_zero,List.getD_cons_succ,ha',hb',hc',hd',List.length_cons]
   unfold Lib.decodeN
   rw [if_neg (by omega),if_neg (by omega),if_neg (by omega),if_pos (by omega),if_pos (by omega)]
   simp only [Prod.mk.injEq,and_true]
   omega
 obtain ⟨hd,h0,h1'⟩:=hmain
 have hdec:dec l=(valueL (l.take n),n):=by
  unfold dec
  rw [hd]
  simp only [Prod.mk.injEq,and_true]
  omega
 refine ⟨hdec,?_⟩
 unfold okL
 rw [hdec]
 simp only [decide_eq_true_eq,Prod.mk.injEq,not_and]
 intro h65 hn
 have:=h1' hn
 omega
theorem dec_of_none (l:List UInt8) (hl:l ≠ []) (h:∀ n,1≤n→n≤4→n≤l.length→isEnc l n=false):dec l=(65533,1)∧okL l=false:=by
 have hmain:Lib.decodeL l=(65533,1):=by
  have h1:¬ (encB (valueL (l.take 1))=l.take 1):=by
   have:=h 1 (by omega) (by omega) (by cases l;exact absurd rfl hl;simp)
   unfold isEnc at this;simpa using this
  have h2:2≤l.length→¬ (encB (valueL (l.take 2))=l.take 2):=fun hh=>by
   have:=h 2 (by omega) (by omega) hh
   unfold isEnc at this;simpa using this
  have h3:3≤l.length→¬ (encB (valueL (l.take 3))=l.take 3):=fun hh=>by
   have:=h 3 (by omega) (by omega) hh
   unfold isEnc at this;simpa using this
  have h4:4≤l.length→¬ (encB (valueL (l.take 4))=l.take 4):=fun hh=>by
   have:=h 4 (by omega) (by omega) hh
   unfold isEnc at this;simpa using this
  clear h
  rw [decodeL_N]
  match l,hl,h1,h2,h3,h4 with
  | [a],_,h1,_,_,_ =>
   have e1:valueL ([a].take 1)=a.toNat:=by simp [valueL,foldZ,offZ]
   rw [e1] at h1
   have h1:=mt enc1.2 h1
   have ha:=lt256 a
   generalize ha':a.toNat=x at *
   simp only [List.getD_cons_zero,ha',List.length_cons,List.length_nil]
   unfold Lib.decodeN
   rw [if_neg (by omega),if_neg (by omega),if_neg (by omega),if_neg (by omega)]
  | [a,b],_,h1,h2,_,_ =>
   have e1:valueL ([a,b].take 1)=a.toNat:=by simp [valueL,foldZ,offZ]
   have e2:valueL ([a,b].take 2)=(a.toNat - 192) * 64+b.toNat - 128:=by simp [valueL,foldZ,offZ]
   have h2:=h2 (by simp)
   rw [e1] at h1
   rw [e2] at h2
   have h1:=mt enc1.2 h1
   have h2:=mt enc2.2 h2
   have ha:=lt256 a;have hb:=lt256 b
   generalize ha':a.toNat=x at *
   generalize hb':b.toNat=y at *
   simp only [List.getD_cons_zero,List.getD_cons_succ,ha',hb',List.length_cons,List.length_nil]
   unfold Lib.decodeN
   rw [if_neg (by omega)]
   by_cases c2:x / 32=6∧(1 < 0+1+1∧y / 64=2)
   ·rw [if_pos c2,if_neg (by omega)]
   ·rw [if_neg c2,if_neg (by omega),if_neg (by omega)]
  | [a,b,c],_,h1,h2,h3,_ =>
   have e1:valueL ([a,b,c].take 1)=a.toNat:=by simp [valueL,foldZ,offZ]
   have e2:valueL ([a,b,c].take 2)=(a.toNat - 192) * 64+b.toNat - 128:=by simp [valueL,foldZ,offZ]
   have e3:valueL ([a,b,c].take 3)=((a.toNat - 224) * 64+b.toNat - 128) * 64+c.toNat - 128:=by simp [valueL,foldZ,offZ]
   have h2:=h2 (by simp)
   have h3:=h3 (by simp)
   rw [e1] at h1
   rw [e2] at h2
   rw [e3] at h3
   have h1:=mt enc1.2 h1
   have h2:=mt enc2.2 h2
   have h3:=mt enc3.2 h3
   have ha:=lt256 a;have hb:=lt256 b;have hc:=lt256 c
   generalize ha':a.toNat=x at *
   generalize hb':b.toNat=y at *
   generalize hc':c.toNat=z at *
   simp only [List.getD_cons_zero,List.getD_cons_succ,ha',hb',hc',List.length_cons,List.length_nil]
   unfold Lib.decodeN
   rw [if_neg (by omega)]
   by_cases c2:x / 32=6∧(1 < 0+1+1+1∧y / 64=2)
   ·rw [if_pos c2,if_neg (by omega)]
   ·rw [if_neg c2]
    by_cases c3:x / 16=14∧(1 < 0+1+1+1∧y / 64=2)∧(2 < 0+1+1+1∧z / 64=2)
    ·rw [if_pos c3,if_neg (by omega)]
    ·rw [if_neg c3,if_neg (by omega)]
  | a :: b :: c :: d :: t,_,h1,h2,h3,h4 =>
   have e1:valueL ((a :: b :: c :: d :: t).take 1)=a.toNat:=by simp [valueL,foldZ,offZ]
   have e2:valueL ((a :: b :: c :: d :: t).take 2)=(a.toNat - 192) * 64+b.toNat - 128:=by simp [valueL,foldZ,offZ]
   have e3:valueL ((a :: b :: c :: d :: t).take 3)=((a.toNat - 224) * 64+b.toNat - 128) * 64+c.toNat - 128:=by simp [valueL,foldZ,offZ]
   have e4:valueL ((a :: b :: c :: d :: t).take 4)=(((a.toNat - 240) * 64+b.toNat - 128) * 64+c.toNat - 128) * 64+d.toNat - 128:=by simp [valueL,foldZ,offZ]
   have h2:=h2 (by simp)
   have h3:=h3 (by simp)
   have h4:=h4 (by simp)
   rw [e1] at h1
   rw [e2] at h2
   rw [e3] at h3
   rw [e4] at h4
   have h1:=mt enc1.2 h1
   have h2:=mt enc2.2 h2
   have h3:=mt enc3.2 h3
   have h4:=mt enc4.2 h4
   have ha:=lt256 a;have hb:=lt256 b;have hc:=lt256 c;have hd:=lt256 d
   generalize ha':a.toNat=x at *
   generalize hb':b.toNat=y at *
   generalize hc':c.toNat=z at *
   generalize hd':d.toNat=u at *
   simp only [List.getD_cons_zero,List.getD_cons_succ,ha',hb',hc',hd',List.length_cons]
   have hn:4≤t.length+1+1+1+1:=by omega
   generalize t.length+1+1+1+1=m at *
   unfold Lib.decodeN
   rw [if_neg (by omega)]
   by_cases c2:x / 32=6∧(1 < m∧y / 64=2)
   ·rw [if_pos c2,if_neg (by omega)]
   ·rw [if_neg c2]
    by_cases c3:x / 16=14∧(1 < m∧y / 64=2)∧(2 < m∧z / 64=2)
    ·rw [if_pos c3,if_neg (by omega)]
    ·rw [if_neg c3]
     by_cases c4:x / 8=30∧(1 < m∧y / 64=2)∧(2 < m∧z / 64=2)∧(3 < m∧u / 64=2)
     ·rw [if_pos c4,if_neg (by omega)]
     ·rw [if_neg c4]
 have hdec:dec l=(65533,1):=by unfold dec;rw [hmain];rfl
 exact ⟨hdec,by unfold okL;rw [hdec];rfl⟩
end Go.Proofs.YtcghgkagpkmpeaaGreatDoor.Dec
namespace Go.Proofs.YtcghgkagpkmpeaaGreatDoor.Small
open Go.RowKit Utf
def aroundF (n m:Int):Int:=(if n < 0 then -(n+1) else n) % m
theorem aroundF_bd (n m:Int) (hm:1≤m):0≤aroundF n m∧aroundF n m < m:=⟨Int.emod_nonneg _ (by omega),Int.emod_lt_of_pos _ (by omega)⟩
theorem around (n m:Int) (w:World) (h1:-9223372036854775808≤n) (h2:n≤9223372036854775807) (hm:1≤m) (hm2:m≤9223372036854775807) :
  Calls Tryz.prog 15 #[.int .i64 n,.int .i64 m] w fun e w'=>e=.returned (.int .i64 (aroundF n m))∧w=w':=by
 by_cases hn:n < 0
 ·go_enter Tryz.func15,Tryz.ntmps15
  go_wp2
  go_ret
  refine ⟨ret_int ?_,rfl⟩
  rw [aroundF,if_pos hn,← Int.neg_tmod]
  exact Int.tmod_eq_emod_of_nonneg (by omega)
 ·have hn':0≤n:=by omega
  go_enter Tryz.func15,Tryz.ntmps15
  go_wp2
  go_ret
  refine ⟨ret_int ?_,rfl⟩
  rw [aroundF,if_neg (by omega)]
def fewB (s:ByteArray) (m:Nat):ByteArray:=if m < s.size then s.extract 0 m else s
theorem few (s:ByteArray) (m:Nat) (w:World) (hs:s.size≤maxLen) (hm:m≤1000000) :
  Calls Tryz.prog 8 #[.string s,.int .i64 m] w fun e w'=>e=.returned (.string (fewB s m))∧w=w':=by
 unfold maxLen at hs
 by_cases h:m < s.size
 ·have hf:fewB s m=s.extract 0 m:=by rw [fewB,if_pos h]
  have HF:=Lib.hid hf
  clear hf
  go_enter Tryz.func8,Tryz.ntmps8
  go_wp2
  go_ret
  exact ⟨by rw [HF.out];rfl,rfl⟩
 ·have hf:fewB s m=s:=by rw [fewB,if_neg h]
  have HF:=Lib.hid hf
  clear hf
  go_enter Tryz.func8,Tryz.ntmps8
  go_wp2
  go_ret
  exact ⟨by rw [HF.out];rfl,rfl⟩
theorem row_int {w:World} {A:Option Addr} {xs:List Int} (h:Row w A (xs.map (Value.int .i64))) {k:Nat} (hk:k < xs.length) :
  ∃ b off,A=some ⟨b,off,none⟩∧w.cell? ⟨b,off+k,none⟩=some (.int .i64 xs[k]):=by
 obtain ⟨b,off,e,hc⟩:=h.at_ (k:=k) (by simpa using hk)
 exact ⟨b,off,e,hc k _ (by simp [hk])⟩
theorem take_ne {xs ys:List Int} {k:Nat} (h1:k < xs.length) (h2:k < ys.length) (h:xs[k] ≠ ys[k]):xs ≠ ys:=by
 rintro rfl;exact h rfl
theorem same_len (A B:Option Addr) (c d n:Nat) (xs ys:List Int) (w:World) (hx:Row w A (xs.map (Value.int .i64))) (hy:Row w B (ys.map (Value.int .i64))) (HX:Hid (xs.length=n)) (HY:Hid (ys.length=n)) (hl:n≤maxLen) :
  Calls Tryz.prog 17 #[.slice A n c,.slice B n d] w fun e w'=>e=.returned (.bool (decide (xs=ys)))∧Ext w w':=by
 unfold maxLen at hl
 go_enter Tryz.func17,Tryz.ntmps17
 go_wp2
 go_loopw [5] (fun i wr=>∃ k:Nat,k≤n∧i=.int .i64 k∧Hid (xs.take k=ys.take k)∧∃ q,wr=w.drewN q) (fun i _=>n - (intOf i).toNat)
 case atStart=>exact ⟨0,Nat.zero_le _,rfl,Lib.hid (by simp),0,rfl⟩
 case round =>
  obtain ⟨k,hk,rfl,HK,q,rfl⟩:=hrel
  by_cases hlt:k < n
  ·have kx:k < xs.length:=by rw [HX.out];exact hlt
   have ky:k < ys.length:=by rw [HY.out];exact hlt
   obtain ⟨b,off,rfl,hc⟩:=row_int hx kx
   obtain ⟨b',off',rfl,hc'⟩:=row_int hy ky
   have HT:=Lib.hid (take_ne kx ky)
   have HS:Hid (xs[k]=ys[k]→xs.take (k+1)=ys.take (k+1)):=Lib.hid (fun h=>by rw [List.take_succ_eq_append_getElem kx,List.take_succ_eq_append_getElem ky,HK.out,h])
   have i1:((k:Int) < (n:Int)):=by omega
   generalize xs[k]=x at *
   generalize ys[k]=y at *
   clear kx ky
   cases hxy:(x != y)
   ·have e:x=y:=by simpa using hxy
    have E:=Lib.hid e
    clear e
    go_wp2
    go_quiet (fail)
    go_wp2
    go_roundw
    case rel=>exact ⟨k+1,by omega,by go_num,Lib.hid (HS.out E.out),_,rfl⟩
    case measure=>simp [intOf];omega
   ·have e:x ≠ y:=by simpa using hxy
    have E:=Lib.hid e
    clear e
    go_wp2
    go_quiet (fail)
    go_wp2
    go_ret
    exact ⟨ret_bool (by simp [HT.out E.out]),⟨rfl,rfl,rfl,Nat.le_refl _,fun _ _=>rfl⟩⟩
  ·have e:k=n:=by omega
   subst e
   have HF:Hid (xs=ys):=by have h:=HK.out;rw [List.take_of_length_le (by rw [HX.out];omega),List.take_of_length_le (by rw [HY.out];omega)] at h;exact Lib.hid h
   go_wp2
   go_ret
   exact ⟨ret_bool (by simp [HF.out]),⟨rfl,rfl,rfl,Nat.le_refl _,fun _ _=>rfl⟩⟩
theorem same (A B:Option Addr) (c d:Nat) (xs ys:List Int) (w:World) (hx:Row w A (xs.map (Value.int .i64))) (hy:Row w B (ys.map (Value.int .i64))) (hl:xs.length≤maxLen) (hl':ys.length≤maxLen) :
  Calls Tryz.prog 17 #[.slice A xs.length c,.slice B ys.length d] w fun e w'=>e=.returned (.bool (decide (xs=ys)))∧Ext w w':=by
 by_cases he:xs.length=ys.length
 ·rw [← he]
  exact same_len A B c d _ xs ys w hx hy (Lib.hid rfl) (Lib.hid he.symm) hl
 ·have hne:((xs.length:Int) != (ys.length:Int))=true:=by simp;omega
  have hxy:xs ≠ ys:=by rintro rfl;exact he rfl
  have HN:=Lib.hid hxy
  clear he hxy
  go_enter Tryz.func17,Tryz.ntmps17
  go_wp2
  go_ret
  exact ⟨ret_bool (by simp [HN.out]),Below.refl _ _⟩
def idxF {α:Type} (p:α→Bool) (xs:List α):Int:=match xs.findIdx? p with | some i=>i | none=>-1
theorem idxF_none {α:Type} (p:α→Bool) (xs:List α) (h:(xs.any p)=false):idxF p xs=-1:=by
 unfold idxF
 have:xs.findIdx? p=none:=by
  rw [List.findIdx?_eq_none_iff];intro x hx
  rw [List.any_eq_false] at h
  simpa using h x hx
 rw [this]
theorem idxF_at {α:Type} (p:α→Bool) (xs:List α) (k:Nat) (hk:k < xs.length) (h:(xs.take k).any p=false) (hp:p xs[k]=true):idxF p xs=k:=by
 unfold idxF
 have:xs.findIdx? p=some k:=by
  rw [List.findIdx?_eq_some_iff_getElem]
  refine ⟨hk,hp,fun j hj=>?_⟩
  rw [List.any_eq_false] at h
  have:=h xs[j] (List.mem_take_iff_getElem.2 ⟨j,by omega,rfl⟩)
  simpa using this
 rw [this]
theorem any_snoc {α:Type} (p:α→Bool) (xs:List α) (k:Nat) (hk:k < xs.length):(xs.take (k+1)).any p=((xs.take k).any p || p xs[k]):=by
 rw [List.take_succ_eq_append_getElem hk,List.any_append];simp
theorem idxF_sign {α:Type} (p:α→Bool) (xs:List α):decide (0≤idxF p xs)=xs.any p:=by
 unfold idxF
 cases h:xs.findIdx? p with
 | none =>
  rw [List.findIdx?_eq_none_iff] at h
  simp
  exact fun x hx=>by simpa using h x hx
 | some i =>
  rw [List.findIdx?_eq_some_iff_getElem] at h
  obtain ⟨hi,hp,_⟩:=h
  simp
  exact ⟨_,List.getElem_mem hi,hp⟩
end Go.Proofs.YtcghgkagpkmpeaaGreatDoor.Small
namespace Go.Proofs.YtcghgkagpkmpeaaGreatDoor.All
open Go.RowKit Utf Small Dec
def bndZ:Nat→Int
 | 0=>0
 | 1=>300
 | k+1=>bndZ k * 64+300
theorem bndZ_le:∀ k:Nat,k≤4→bndZ k≤100000000:=by
 intro k hk
 match k,hk with
 | 0,_=>decide
 | 1,_=>decide
 | 2,_=>decide
 | 3,_=>decide
 | 4,_=>decide
theorem bndZ_succ (k:Nat) (h:1≤k):bndZ (k+1)=bndZ k * 64+300:=by
 match k,h with
 | k+1,_=>rfl
theorem foldZ_snoc (c:Int) (l:List UInt8) (k:Nat) (hk:k < l.length):foldZ c (l.take (k+1))=foldZ c (l.take k) * 64+l[k].toNat - 128:=by
 unfold foldZ
 rw [List.take_succ_eq_append_getElem hk,List.foldl_append];rfl
def partV (l:List UInt8) (k:Nat):Int:=foldZ ((l.getD 0 0).toNat - offZ l.length) (l.tail.take (k - 1))
theorem partV_succ (l:List UInt8) (k:Nat) (h1:1≤k) (hk:k < l.length):partV l (k+1)=partV l k * 64+l[k].toNat - 128:=by
 unfold partV
 match l,k,h1,hk with
 | a :: l,k+1,_,hk =>
  simp only [List.tail_cons,Nat.add_sub_cancel,List.length_cons] at hk ⊢
  rw [foldZ_snoc _ _ k (by omega)]
  rfl
theorem partV_all (l:List UInt8):partV l l.length=valueL l:=by
 unfold partV valueL
 rw [List.take_of_length_le (by simp)]
set_option maxRecDepth 100000
theorem ref_value (s:ByteArray) (w:World) (h1:1≤s.size) (h4:s.size≤4) :
  Calls Tryz.prog 160 #[.string s] w fun e w'=>e=.returned (.int .i64 (valueL s.data.toList))∧w=w':=by
 have hlen:s.data.toList.length=s.size:=Array.length_toList
 have HA:=Lib.hid (partV_all s.data.toList)
 rw [hlen] at HA
 have H1:Hid (partV s.data.toList 1=s[0].toNat - offZ s.size):=Lib.hid (by
  unfold partV;rw [hlen,List.getD_eq_getElem?_getD,List.getElem?_eq_getElem (show 0 < s.data.toList.length by omega)]
  rfl)
 have HS:Hid (∀ k,1≤k→∀ hk:k < s.size,partV s.data.toList (k+1)=partV s.data.toList k * 64+s[k].toNat - 128):=Lib.hid (fun k h hk=>partV_succ _ k h (by rw [hlen];exact hk))
 generalize s.data.toList=l at *
 clear hlen
 have h0:0 < s.size:=by omega
 have hb0:=(s[0]).toNat_lt
 go_enter Tryz.func160,Tryz.ntmps160
 go_wp2
 all_goals
  go_loop [3,4] (fun c i=>∃ k:Nat,1≤k∧k≤s.size∧i=.int .i64 k∧c=.int .i64 (partV l k)∧-bndZ k≤partV l k∧partV l k≤bndZ k) (fun _ i=>s.size - (intOf i).toNat)
  case atStart =>
   have hs2:=‹((s.size:Int) == 2)=_›
   have hs3:=‹((s.size:Int) == 3)=_›
   have hs4:=‹((s.size:Int) == 4)=_›
   have hp:partV l 1=s[0].toNat - offZ s.size:=H1.out
   have ho:0≤offZ s.size∧offZ s.size≤240:=by unfold offZ;repeat' split;all_goals omega
   refine ⟨1,by omega,h1,rfl,?_,by rw [hp];simp only [bndZ];omega,by rw [hp];simp only [bndZ];omega⟩
   rw [hp]
   unfold offZ
   simp only [beq_iff_eq,beq_eq_false_iff_ne] at hs2 hs3 hs4
   repeat' split
   all_goals first | rfl | (exfalso;omega) | go_num
  case round =>
   obtain ⟨k,hk1,hk,rfl,rfl,hlo,hhi⟩:=hrel
   by_cases hlt:k < s.size
   ·have hp:=HS.out k hk1 hlt
    have hbk:=bndZ_succ k hk1
    have hb1:=bndZ_le (k+1) (by omega)
    have hbb:=(s[k]).toNat_lt
    have HP:=Lib.hid hp
    have HB:Hid (-bndZ (k+1)≤partV l k * 64+s[k].toNat - 128∧partV l k * 64+s[k].toNat - 128≤bndZ (k+1)):=Lib.hid (by rw [hbk];omega)
    have hq1:-100000000≤partV l k:=by omega
    have hq2:partV l k≤100000000:=by omega
    clear hp hbk hlo hhi hb1
    generalize partV l k=p at *
    go_wp2
    go_round
    case rel=>exact ⟨k+1,by omega,by omega,by go_num,by rw [HP.out],by rw [HP.out];exact HB.out.1,by rw [HP.out];exact HB.out.2⟩
    case measure=>simp [intOf];omega
   ·have e:k=s.size:=by omega
    subst e
    clear hlo hhi
    go_wp2
    go_ret
    exact ⟨by rw [← HA.out];rfl,rfl⟩
set_option maxRecDepth 512
theorem data_len (s:ByteArray):s.data.toList.length=s.size:=Array.length_toList
theorem data_nil {s:ByteArray} (h:s.size=0):s.data.toList=[]:=List.eq_nil_of_length_eq_zero (by rw [data_len];exact h)
theorem take_data (s:ByteArray) (k:Nat):(s.extract 0 k).data.toList=s.data.toList.take k:=by simp [ByteArray.data_extract]
def firstZ (l:List UInt8):Int × Nat × Bool:=if l=[] then (0,0,false) else ((dec l).1,(dec l).2,okL l)
set_option maxRecDepth 100000
theorem ref_first (s:ByteArray) (w:World) (hs:s.size≤maxLen) :
  Calls Tryz.prog 81 #[.string s] w fun e w'=>e=.returned (.tuple #[.int .i64 (firstZ s.data.toList).1,.int .i64 (firstZ s.data.toList).2.1,.bool (firstZ s.data.toList).2.2])∧Ext w w':=by
 unfold maxLen at hs
 by_cases h0:s.size=0
 ·have HF:Hid (firstZ s.data.toList=(0,0,false)):=Lib.hid (by unfold firstZ;rw [if_pos (data_nil h0)])
  have he:s.toList.isEmpty=true:=by rw [ByteArray.toList_eq,data_nil h0];rfl
  clear h0
  go_enter Tryz.func81,Tryz.ntmps81
  go_wp2
  go_ret3
  exact ⟨by rw [HF.out];rfl,Ext.refl _⟩
 ·have hne:s.data.toList ≠ []:=by intro h;have:=data_len s;rw [h] at this;simp at this;omega
  have he:s.toList.isEmpty=false:=by rw [ByteArray.toList_eq];simpa using hne
  have HF:Hid (firstZ s.data.toList=((dec s.data.toList).1,(dec s.data.toList).2,okL s.data.toList)):=Lib.hid (by unfold firstZ;rw [if_neg hne])
  have HN:=Lib.hid hne
  have HL:=Lib.hid (data_len s)
  clear hne
  have hs0:1≤s.size:=by omega
  clear h0
  go_enter Tryz.func81,Tryz.ntmps81
  go_wp2
  go_loopw [5] (fun i wr=>∃ k:Nat,1≤k∧k≤5∧i=.int .i64 k∧Hid (∀ m,1≤m→m < k→m≤s.data.toList.length→isEnc s.data.toList m=false)∧Ext w wr) (fun i _=>5 - (intOf i).toNat)
  case atStart=>exact ⟨1,by omega,by omega,rfl,Lib.hid (fun m a b=>by omega),Ext.refl _⟩
  case round =>
   obtain ⟨k,hk1,hk5,rfl,HK,hx⟩:=hrel
   by_cases hgo:k≤4∧k≤s.size
   ·obtain ⟨hk4,hks⟩:=hgo
    have hsz:(s.extract 0 k).size=k:=by simp;omega
    have htest:(encB (valueL (s.extract 0 k).data.toList) == (s.extract 0 k).toList)=isEnc s.data.toList k:=by
     rw [ByteArray.toList_eq,take_data]
     unfold isEnc
     rw [Bool.eq_iff_iff,beq_iff_eq,decide_eq_true_iff]
    have HV:Hid (valueL (s.extract 0 k).data.toList=valueL (s.data.toList.take k)):=Lib.hid (by rw [take_data])
    have HR:=ref_value (s.extract 0 k)
    rw [hsz] at HR
    have HR:=Lib.hid HR
    clear hsz
    generalize hv:valueL (s.extract 0 k).data.toList=v at *
    clear hv
    go_wp2_with fail
    refine (HR.out _ hk1 hk4).mono ?_;rintro e w' ⟨rfl,rfl⟩
    cases hi:isEnc s.data.toList k
    ·have HK2:Hid (∀ m,1≤m→m < k+1→m≤s.data.toList.length→isEnc s.data.toList m=false):=Lib.hid (fun m a b c=>by
      rcases Nat.lt_or_ge m k with h | h
      ·exact HK.out m a h c
      ·obtain rfl:m=k:=by omega
       exact hi)
     rw [hi] at htest
     clear hi
     go_wp2
     go_region_with (go_at_call 104;refine (ref_encode _ _).mono ?_;rintro e w2 ⟨rfl,hx2⟩)
     all_goals
      go_wp2
      go_roundw
      case rel=>exact ⟨k+1,by omega,by omega,by go_num,HK2,hx.trans (Ext.trans ((Below.refl _ _).drew) hx2)⟩
      case measure=>simp [intOf];omega
    ·have HD:=dec_of_enc s.data.toList k hk1 hk4 (by rw [HL.out];exact hks) hi
     have HR1:Hid (firstZ s.data.toList=(v,k,true)):=Lib.hid (by rw [HF.out,HD.1,HD.2,HV.out])
     rw [hi] at htest
     clear hi HD
     go_wp2
     go_region_with (go_at_call 104;refine (ref_encode _ _).mono ?_;rintro e w2 ⟨rfl,hx2⟩)
     all_goals
      go_wp2
      go_ret3
      exact ⟨by rw [HR1.out];rfl,hx.trans (Ext.trans ((Below.refl _ _).drew) hx2)⟩
   ·have HD:=dec_of_none s.data.toList HN.out (fun m a b c=>HK.out m a (by
     have:=HL.out
     omega) c)
    have HR1:Hid (firstZ s.data.toList=(65533,1,false)):=Lib.hid (by rw [HF.out,HD.1,HD.2])
    clear HD
    by_cases hk4:k≤4
    ·have hks:s.size < k:=by omega
     clear hgo
     go_wp2
     go_ret3
     exact ⟨by rw [HR1.out];rfl,hx⟩
    ·have hk4':4 < k:=by omega
     clear hgo hk4
     go_wp2
     go_ret3
     exact ⟨by rw [HR1.out];rfl,hx⟩
set_option maxRecDepth 512
abbrev Piece:=Int × Nat × Bool
def piecesN:Nat→List UInt8→List Piece
 | 0,_=>[]
 | n+1,l=>if l=[] then [] else ((dec l).1,(dec l).2,okL l) :: piecesN n (l.drop (dec l).2)
def pieces (l:List UInt8):List Piece:=piecesN l.length l
theorem dec_width {l:List UInt8} (h:l ≠ []):1≤(dec l).2∧(dec l).2≤l.length:=by
 unfold dec
 have h0:0 < l.length:=List.length_pos_iff.2 h
 refine ⟨?_,?_⟩
 ·unfold Lib.decodeL;exact Lib.width_pos _ _
 ·rw [decodeL_N]
  have:Lib.decodeN l.length (l.getD 0 0).toNat (l.getD 1 0).toNat (l.getD 2 0).toNat (l.getD 3 0).toNat=Lib.decodeL l:=(decodeL_N l).symm
  generalize (l.getD 0 0).toNat=a at *
  generalize (l.getD 1 0).toNat=b at *
  generalize (l.getD 2 0).toNat=c at *
  generalize (l.getD 3 0).toNat=d at *
  clear this
  unfold Lib.decodeN
  repeat' split
  all_goals (simp only;omega)
theorem dec_bd (l:List UInt8):0≤(dec l).1∧(dec l).1≤1114111:=by
 unfold dec Lib.decodeL
 have:=Lib.rune_le ⟨l.toArray⟩ 0
 simp only
 omega
theorem piecesN_more:∀ (n m:Nat) (l:List UInt8),l.length≤n→l.length≤m→piecesN n l=piecesN m l
 | 0,m,l,hn,_=>by
  have:l=[]:=List.eq_nil_of_length_eq_zero (by omega)
  subst this
  cases m <;> simp [piecesN]
 | n+1,0,l,_,hm=>by
  have:l=[]:=List.eq_nil_of_length_eq_zero (by omega)
  subst this
  simp [piecesN]
 | n+1,m+1,l,hn,hm=>by
  unfold piecesN
  by_cases h:l=[]
  ·rw [if_pos h,if_pos h]
  ·rw [if_neg h,if_neg h]
   have:=dec_width h
   rw [piecesN_more n m (l.drop (dec l).2) (by rw [List.length_drop];omega) (by rw [List.length_drop];omega)]
theorem pieces_nil:pieces []=[]:=rfl
theorem pieces_cons {l:List UInt8} (h:l ≠ []):pieces l=((dec l).1,(dec l).2,okL l) :: pieces (l.drop (dec l).2):=by
 have hw:=dec_width h
 have h0:l.length=(l.length - 1)+1:=by omega
 have e:piecesN ((l.length - 1)+1) l=((dec l).1,(dec l).2,okL l) :: piecesN (l.length - 1) (l.drop (dec l).2):=by rw [piecesN,if_neg h]
 have e2:=piecesN_more (l.length - 1) (l.drop (dec l).2).length (l.drop (dec l).2) (by rw [List.length_drop];omega) (Nat.le_refl _)
 rw [e2,← h0] at e
 exact e
theorem pieces_len:∀ (n:Nat) (l:List UInt8),l.length≤n→(pieces l).length≤l.length
 | 0,l,h=>by
  have:l=[]:=List.eq_nil_of_length_eq_zero (by omega)
  subst this;simp [pieces_nil]
 | n+1,l,h=>by
  by_cases h0:l=[]
  ·subst h0;simp [pieces_nil]
  ·rw [pieces_cons h0]
   have hw:=dec_width h0
   have:=pieces_len n (l.drop (dec l).2) (by rw [List.length_drop];omega)
   rw [List.length_drop] at this
   simp only [List.length_cons];omega
def charsL (l:List UInt8):List Int:=(pieces l).map (·.1)
def startsP:Int→List Piece→List Int
 | _,[]=>[]
 | p,x :: r=>p :: startsP (p+x.2.1) r
def startsL (l:List UInt8):List Int:=startsP 0 (pieces l)
def validL (l:List UInt8):Bool:=(pieces l).all (·.2.2)
theorem startsP_len:∀ (p:Int) (ps:List Piece),(startsP p ps).length=ps.length
 | _,[]=>rfl
 | p,x :: r=>by simp [startsP,startsP_len]
theorem next_str (w:World) (ty r:Nat) (s:ByteArray) (pos:Nat) (hr:w.heap[r]? = some (.stringIter s pos)) :
  (s.size≤pos∧(Instr.next (.pointer (some ⟨r,0,none⟩)) true ty).run Tryz.prog w=.ok (.tuple #[.bool false]) w) ∨
  (pos < s.size∧∃ w',(Instr.next (.pointer (some ⟨r,0,none⟩)) true ty).run Tryz.prog w=.ok (.tuple #[.bool true,.int .i64 pos,.int .i32 (Utf8.decode s pos).1]) w' ∧
   w'.heap[r]? = some (.stringIter s (pos+(Utf8.decode s pos).2))∧w.grownBy w' (some r)):=by
 by_cases h:pos < s.size
 ·refine .inr ⟨h,{ w with heap:=w.heap.setIfInBounds r (.stringIter s (pos+(Utf8.decode s pos).2)) },?_,?_,?_⟩
  ·simp only [Instr.next,getObj,setObj,Sem.run_bind,Sem.run,hr,Result.andThen,if_pos h]
   rfl
  ·have hlt:r < w.heap.size:=(Array.getElem?_eq_some_iff.1 hr).1
   simp [hlt]
  ·refine ⟨rfl,rfl,rfl,by simp,fun i hi hne=>?_⟩
   have:r ≠ i:=fun e=>hne (by rw [e])
   simp [this]
 ·refine .inl ⟨by omega,?_⟩
  simp only [Instr.next,getObj,Sem.run_bind,Sem.run,hr,Result.andThen,if_neg h]
  rfl
theorem chars_cons {l:List UInt8} (h:l ≠ []):charsL l=(dec l).1 :: charsL (l.drop (dec l).2):=by
 unfold charsL;rw [pieces_cons h];rfl
theorem decode_dec (s:ByteArray) (pos:Nat):(((Utf8.decode s pos).1:Int),(Utf8.decode s pos).2)=dec (s.data.toList.drop pos):=by
 unfold dec;rw [Lib.decodeL_drop]
theorem drop_ne {s:ByteArray} {pos:Nat} (h:pos < s.size):s.data.toList.drop pos ≠ []:=by
 rw [Ne,List.drop_eq_nil_iff,data_len];omega
def posAt (w:World) (r:Nat):Nat:=match w.heap[r]? with | some (.stringIter _ p)=>p | _=>0
theorem posAt_of {w:World} {r:Nat} {s:ByteArray} {p:Nat} (h:w.heap[r]? = some (.stringIter s p)):posAt w r=p:=by unfold posAt;rw [h]
theorem iter_no_cells (s:ByteArray) (p:Nat):∀ cs t f,Obj.stringIter s p ≠ .cells cs t f:=fun _ _ _ h=>by cases h
set_option maxRecDepth 100000
theorem utf_all (s:ByteArray) (w:World) (hs:s.size≤10000000000000) :
  Calls Tryz.prog 88 #[.string s] w fun e w'=>∃ A c,e=.returned (.slice A (charsL s.data.toList).length c)∧Row w' A ((charsL s.data.toList).map (Value.int .i64))∧(charsL s.data.toList).length≤c∧c≤maxLen∧Ext w w':=by
 go_enter Tryz.func88,Tryz.ntmps88
 go_wp2
 go_loopw [3,5] (fun v _ wr=>∃ (p:Nat) (xs:List Int) (A:Option Addr) (c:Nat),p≤s.size∧v=.slice A xs.length c∧wr.heap[w.heap.size]? = some (.stringIter s p)∧Acc 3 1 w wr A c xs.length (xs.map (Value.int .i64))∧xs.length≤p∧Hid (charsL s.data.toList=xs++charsL (s.data.toList.drop p))) (fun _ _ wr=>s.size - posAt wr w.heap.size)
 case atStart=>exact ⟨0,[],none,0,Nat.zero_le _,rfl,heap_alloc_new w _,(Acc.start _ _ _).step ((Below.refl _ _).alloc (Nat.le_refl _) _),Nat.le_refl _,Lib.hid rfl⟩
 case round =>
  obtain ⟨p,xs,A,c,hp,rfl,hr,hacc,hxp,HC⟩:=hrel
  rcases next_str wr 0 w.heap.size s p hr with ⟨hend,hrun⟩ | ⟨hlt,w2,hrun,hr2,hg2⟩
  ·have hnx:∀ ty,(Instr.next (.pointer (some ⟨w.heap.size,0,none⟩)) true ty).run Tryz.prog wr=_:=fun _=>hrun
   have HX:Hid (charsL s.data.toList=xs):=Lib.hid (by
    rw [HC.out,List.drop_of_length_le (by rw [data_len];omega)]
    exact List.append_nil _)
   clear hrun
   go_wp2
   go_ret
   exact ⟨A,c,by rw [HX.out];rfl,by rw [HX.out];exact hacc.row,by rw [HX.out];exact hacc.cap.1,hacc.cap.2,hacc.ext⟩
  ·have hnx:∀ ty,(Instr.next (.pointer (some ⟨w.heap.size,0,none⟩)) true ty).run Tryz.prog wr=_:=fun _=>hrun
   have hne:=hacc.ne_obj hr (iter_no_cells _ _)
   have hacc2:=hacc.turn hg2 hne (Nat.le_refl _)
   have hne2:=hacc2.ne_obj hr2 (iter_no_cells _ _)
   have hwd:=dec_width (drop_ne hlt)
   have hdd:=decode_dec s p
   have hbd:=dec_bd (s.data.toList.drop p)
   have HX:Hid (charsL s.data.toList=(xs++[(dec (s.data.toList.drop p)).1])++charsL (s.data.toList.drop (p+(dec (s.data.toList.drop p)).2))):=Lib.hid (by
    rw [HC.out,chars_cons (drop_ne hlt),List.drop_drop,List.append_assoc]
    rfl)
   rw [← hdd] at HX hwd hbd
   have hl2:(s.data.toList.drop p).length=s.size - p:=by rw [List.length_drop,data_len]
   rw [hl2] at hwd
   have HN1:=Lib.hid hne
   have HN2:=Lib.hid hne2
   clear hrun hdd hacc HC hl2 hne hne2
   generalize (Utf8.decode s p).1=d at *
   generalize (Utf8.decode s p).2=wd at *
   have hd1:(d:Int)≤1114111:=hbd.2
   clear hbd
   obtain ⟨hw1,hw2⟩:=hwd
   go_wp2_with (at_builtin;refine wp_app ei_int rfl _ _ rfl w _ A c xs.length _ rfl hacc2 [.int .i64 d] 1 1 rfl rfl (by simp [Value.oneCell']) (by omega) (by unfold maxLen;omega) ?_;intro A1 c1 w3 hacc3 _ hg3;clear hacc2)
   have hr3:=grown_obj hg3 hr2 HN2.out
   have HP1:=Lib.hid (posAt_of hr3)
   have HP0:=Lib.hid (posAt_of hr)
   go_roundw
   case rel=>exact ⟨p+wd,xs++[(d:Int)],A1,c1,by omega,by simp,hr3,by simpa using hacc3,by simp;omega,HX⟩
   case measure=>rw [HP1.out,HP0.out];omega
set_option maxRecDepth 512
theorem starts_cons {l:List UInt8} (h:l ≠ []) (p:Int):startsP p (pieces l)=p :: startsP (p+(dec l).2) (pieces (l.drop (dec l).2)):=by
 rw [pieces_cons h];rfl
theorem valid_cons {l:List UInt8} (h:l ≠ []):validL l=(okL l && validL (l.drop (dec l).2)):=by
 unfold validL;rw [pieces_cons h];rfl
theorem drop_data (s:ByteArray) (p:Nat):(s.extract p s.size).data.toList=s.data.toList.drop p:=by
 have h:=data_len s
 rw [ByteArray.data_extract]
 simp
 rw [List.take_of_length_le]
 rw [List.length_drop];omega
theorem startsL_len (l:List UInt8):(startsL l).length=(charsL l).length:=by
 unfold startsL charsL;rw [startsP_len,List.length_map]
theorem apart_symm {A B:Option Addr} (h:Apart A B):Apart B A:=fun a b ha hb=>(h b a hb ha).symm
theorem apart_none (B:Option Addr):Apart none B:=fun a b h=>by cases h
set_option maxRecDepth 100000
theorem ref_all (s:ByteArray) (w:World) (hs:s.size≤1000000000000) :
  Calls Tryz.prog 37 #[.string s] w fun e w'=>∃ A c B d,e=.returned (.tuple #[.slice A (charsL s.data.toList).length c,.slice B ((startsL s.data.toList).length+1) d,.bool (validL s.data.toList)]) ∧
   Row w' A ((charsL s.data.toList).map (Value.int .i64))∧Row w' B ((startsL s.data.toList++[(s.size:Int)]).map (Value.int .i64))∧Ext w w':=by
 go_enter Tryz.func37,Tryz.ntmps37
 go_wp2
 go_loopw [5,6,7,8] (fun v u vl at_ wr=>∃ (p:Nat) (xs st:List Int) (b:Bool) (A:Option Addr) (c:Nat) (B:Option Addr) (d:Nat),p≤s.size∧at_=.int .i64 p∧vl=.bool b∧v=.slice A xs.length c∧u=.slice B st.length d ∧
   Acc 3 1 w wr A c xs.length (xs.map (Value.int .i64))∧Acc 3 1 w wr B d st.length (st.map (Value.int .i64))∧Apart A B∧xs.length≤p∧st.length≤p ∧
   Hid (charsL s.data.toList=xs++charsL (s.data.toList.drop p))∧Hid (startsL s.data.toList=st++startsP p (pieces (s.data.toList.drop p)))∧Hid (validL s.data.toList=(b && validL (s.data.toList.drop p)))) (fun _ _ _ at_ _=>s.size - (intOf at_).toNat)
 case atStart=>exact ⟨0,[],[],true,none,0,none,0,Nat.zero_le _,rfl,rfl,rfl,rfl,Acc.start _ _ _,Acc.start _ _ _,apart_none _,Nat.le_refl _,Nat.le_refl _,Lib.hid rfl,Lib.hid rfl,Lib.hid (by simp)⟩
 case round =>
  obtain ⟨p,xs,st,vb,A,c,B,d,hp,rfl,rfl,rfl,rfl,hA,hB,hap,hxp,hsp,HC,HS,HV⟩:=hrel
  by_cases hlt:p < s.size
  ·have hwd:=dec_width (drop_ne hlt)
   have hbd:=dec_bd (s.data.toList.drop p)
   have hl2:(s.data.toList.drop p).length=s.size - p:=by rw [List.length_drop,data_len]
   rw [hl2] at hwd
   have HF:Hid (firstZ (s.extract p s.size).data.toList=((dec (s.data.toList.drop p)).1,(dec (s.data.toList.drop p)).2,okL (s.data.toList.drop p))):=Lib.hid (by rw [drop_data];unfold firstZ;rw [if_neg (drop_ne hlt)])
   have HC2:Hid (charsL s.data.toList=(xs++[(dec (s.data.toList.drop p)).1])++charsL (s.data.toList.drop (p+(dec (s.data.toList.drop p)).2))):=Lib.hid (by
    rw [HC.out,chars_cons (drop_ne hlt),List.drop_drop,List.append_assoc];rfl)
   have HS2:Hid (startsL s.data.toList=(st++[(p:Int)])++startsP ((p+(dec (s.data.toList.drop p)).2:Nat):Int) (pieces (s.data.toList.drop (p+(dec (s.data.toList.drop p)).2)))):=Lib.hid (by
    rw [HS.out,starts_cons (drop_ne hlt),List.drop_drop,List.append_assoc];simp)
   have HV2:Hid (validL s.data.toList=((vb && okL (s.data.toList.drop p)) && validL (s.data.toList.drop (p+(dec (s.data.toList.drop p)).2)))):=Lib.hid (by
    rw [HV.out,valid_cons (drop_ne hlt),List.drop_drop,Bool.and_assoc])
   have hfs:(s.extract p s.size).size≤maxLen:=by unfold maxLen;simp;omega
   have HFS:=Lib.hid hfs
   clear hl2 hfs HC HS HV
   generalize (dec (s.data.toList.drop p)).1=ch at *
   generalize (dec (s.data.toList.drop p)).2=wd at *
   generalize okL (s.data.toList.drop p)=ok at *
   obtain ⟨hw1,hw2⟩:=hwd
   obtain ⟨hb1,hb2⟩:=hbd
   go_wp2_with fail
   refine (ref_first _ _ HFS.out).mono ?_;rintro e w2 ⟨rfl,hx2⟩
   rw [HF.out]
   have hA2:=hA.step hx2
   have hB2:=hB.step hx2
   clear hA hB
   go_wp2_with (first
    | (at_builtin;refine wp_app ei_int rfl (.tmp 24) (.tmp 26) rfl w _ A c xs.length _ rfl hA2 [.int .i64 ch] 1 1 rfl rfl (by simp [Value.oneCell']) (by omega) (by unfold maxLen;omega) ?_;intro A1 c1 w3 hA3 hk3 _;obtain ⟨hB3,hap3⟩:=hk3 _ _ _ _ _ _ hB2 hap;clear hA2 hB2 hk3 hap)
    | (at_builtin;refine wp_app ei_int rfl (.tmp 28) (.tmp 30) rfl w _ B d st.length _ rfl hB3 [.int .i64 p] 1 1 rfl rfl (by simp [Value.oneCell']) (by omega) (by unfold maxLen;omega) ?_;intro B1 d1 w4 hB4 hk4 _;obtain ⟨hA4,hap4⟩:=hk4 _ _ _ _ _ _ hA3 (apart_symm hap3);clear hA3 hB3 hk4 hap3))
   all_goals
    go_roundw
    case rel=>exact ⟨p+wd,xs++[ch],st++[(p:Int)],_,A1,c1,B1,d1,by omega,by go_num,rfl,by simp,by simp,by simpa using hA4,by simpa using hB4,apart_symm hap4,by simp;omega,by simp;omega,HC2,HS2,Lib.hid (by rw [HV2.out];simp_all)⟩
    case measure=>simp [intOf];omega
  ·have e:p=s.size:=by omega
   subst e
   have hd:s.data.toList.drop s.size=[]:=List.drop_of_length_le (by rw [data_len];exact Nat.le_refl _)
   have HC2:Hid (charsL s.data.toList=xs):=Lib.hid (by rw [HC.out,hd];exact List.append_nil _)
   have HS2:Hid (startsL s.data.toList=st):=Lib.hid (by rw [HS.out,hd];exact List.append_nil _)
   have HV2:Hid (validL s.data.toList=vb):=Lib.hid (by rw [HV.out,hd];exact Bool.and_true _)
   clear HC HS HV hd
   go_wp2_with (at_builtin;refine wp_app ei_int rfl _ _ rfl w _ B d st.length _ rfl hB [.int .i64 s.size] 1 1 rfl rfl (by simp [Value.oneCell']) (by omega) (by unfold maxLen;omega) ?_;intro B1 d1 w4 hB4 hk4 _;obtain ⟨hA4,hap4⟩:=hk4 _ _ _ _ _ _ hA (apart_symm hap);clear hA hB hk4 hap)
   go_ret3
   exact ⟨A,c,B1,d1,by rw [HC2.out,HS2.out,HV2.out];rfl,by rw [HC2.out];exact hA4.row,by rw [HS2.out,List.map_append];exact hB4.row,hB4.ext⟩
end Go.Proofs.YtcghgkagpkmpeaaGreatDoor.All
namespace Go.Proofs.YtcghgkagpkmpeaaGreatDoor.Strs
open Go.RowKit
abbrev one (c:UInt8):ByteArray:=⟨#[c]⟩
theorem u8_nat (c:UInt8):((c.toNat:Int).toNat).toUInt8=c:=by simp
theorem idx_one (c:UInt8):Lib.indexByte [c] c=0:=by simp [Lib.indexByte]
set_option maxRecDepth 100000
theorem index_one (s:ByteArray) (c:UInt8) (w:World):Calls Tryz.prog 241 #[.string s,.string (one c)] w fun e w'=>e=.returned (.int .i64 (Lib.indexByte s.data.toList c))∧w=w':=by
 have hb:([c] == s.toList)=decide (one c=s):=by rw [← beq_str];congr 1;rw [ByteArray.toList_eq]
 by_cases e:one c=s
 ·have HE:Hid (Lib.indexByte s.data.toList c=0):=Lib.hid (by rw [← e];exact idx_one c)
  rw [decide_eq_true e] at hb
  clear e
  go_enter Tryz.func241,Tryz.ntmps241
  go_wp2_with fail
  go_ret
  exact ⟨by rw [HE.out];rfl,rfl⟩
 ·rw [decide_eq_false e] at hb
  have HC:Hid (((((one c)[0]'(Nat.zero_lt_one)).toNat:Int).toNat).toUInt8=c):=Lib.hid (u8_nat c)
  clear e
  go_enter Tryz.func241,Tryz.ntmps241
  go_wp2_with fail
  refine (Tryz.stringslite_IndexByte _ _ _).mono ?_;rintro e w' ⟨rfl,rfl⟩
  rw [HC.out]
  go_wp2_with fail
  go_ret
  exact ⟨rfl,rfl⟩
set_option maxRecDepth 512
def cutL (c:UInt8) (l:List UInt8):List UInt8 × List UInt8 × Bool:=if 0≤Lib.indexByte l c then (l.take (Lib.indexByte l c).toNat,l.drop ((Lib.indexByte l c).toNat+1),true) else (l,[],false)
theorem indexByte_lt (l:List UInt8) (c:UInt8) (h:0≤Lib.indexByte l c):(Lib.indexByte l c).toNat < l.length:=by
 have h1:=(Lib.indexByte_some (o:=(Lib.indexByte l c).toNat) (l:=l) (c:=c) (by omega)).1
 exact (List.getElem?_eq_some_iff.1 h1).1
theorem cut_take (s:ByteArray) (c:UInt8) (k:Nat) (h:Lib.indexByte s.data.toList c=k):cutL c s.data.toList=(s.data.toList.take k,s.data.toList.drop (k+1),true):=by
 unfold cutL;rw [h,if_pos (by omega),Int.toNat_natCast]
theorem ext_take (s:ByteArray) (k:Nat):s.extract 0 k=⟨(s.data.toList.take k).toArray⟩:=bytes_ext (by simp [ByteArray.data_extract])
theorem ext_drop (s:ByteArray) (k:Nat):s.extract k s.size=⟨(s.data.toList.drop k).toArray⟩:=bytes_ext (by
 rw [ByteArray.data_extract,Array.toList_extract]
 rw [List.extract_eq_take_drop]
 refine List.take_of_length_le ?_
 rw [List.length_drop,Array.length_toList]
 exact Nat.le_refl _)
set_option maxRecDepth 100000
theorem slcut_one (s:ByteArray) (c:UInt8) (w:World) (hs:s.size≤maxLen):Calls Tryz.prog 218 #[.string s,.string (one c)] w fun e w'=>e=.returned (.tuple #[.string ⟨(cutL c s.data.toList).1.toArray⟩,.string ⟨(cutL c s.data.toList).2.1.toArray⟩,.bool (cutL c s.data.toList).2.2])∧Ext w w':=by
 unfold maxLen at hs
 by_cases h:0≤Lib.indexByte s.data.toList c
 ·have hlt:=indexByte_lt _ _ h
  have hl:s.data.toList.length=s.size:=Array.length_toList
  rw [hl] at hlt
  obtain ⟨k,hk⟩:=Int.eq_ofNat_of_zero_le h
  have HK:=Lib.hid hk
  have HC:=Lib.hid (cut_take s c k hk)
  have hks:k < s.size:=by rw [hk] at hlt;simpa using hlt
  have hk1:k≤s.size:=by omega
  have hk2:k+1≤s.size:=by omega
  have H1:=Lib.hid (ext_take s k)
  have H2:=Lib.hid (ext_drop s (k+1))
  clear h hk hlt hl
  go_enter Tryz.func218,Tryz.ntmps218
  go_wp2_with fail
  refine (index_one _ _ _).mono ?_;rintro e w' ⟨rfl,rfl⟩
  rw [HK.out]
  have k3:IntKind.i64.wrap ((k:Int)+1)=(k:Int)+1:=IntWalk.i64_in _ (by omega)
  have k6:(k:Int)+1≤(s.size:Int):=by omega
  have k4:(0:Int)≤(k:Int)+1:=by omega
  have k5:((k:Int)+1).toNat=k+1:=by omega
  go_wp2_with fail
  go_quiet (fail)
  go_wp2_with fail
  go_ret3
  exact ⟨by rw [HC.out,H1.out,H2.out];rfl,ext_drewN _ _⟩
 ·have HC:Hid (cutL c s.data.toList=(s.data.toList,[],false)):=Lib.hid (by unfold cutL;rw [if_neg h])
  have hn:Lib.indexByte s.data.toList c < 0:=by omega
  have HS:Hid ((⟨s.data.toList.toArray⟩:ByteArray)=s):=Lib.hid rfl
  generalize hi:Lib.indexByte s.data.toList c=i at *
  have HI:=Lib.hid hi
  clear h hi
  go_enter Tryz.func218,Tryz.ntmps218
  go_wp2_with fail
  refine (index_one _ _ _).mono ?_;rintro e w' ⟨rfl,rfl⟩
  rw [HI.out]
  go_wp2_with fail
  go_ret3
  exact ⟨by rw [HC.out];rfl,Below.refl _ _⟩
set_option maxRecDepth 512
theorem cut_one (s:ByteArray) (c:UInt8) (w:World) (hs:s.size≤maxLen):Calls Tryz.prog 202 #[.string s,.string (one c)] w fun e w'=>e=.returned (.tuple #[.string ⟨(cutL c s.data.toList).1.toArray⟩,.string ⟨(cutL c s.data.toList).2.1.toArray⟩,.bool (cutL c s.data.toList).2.2])∧Ext w w':=by
 go_enter Tryz.func202,Tryz.ntmps202
 go_wp2_with fail
 refine (slcut_one _ _ _ hs).mono ?_;rintro e w1 ⟨rfl,hx⟩
 go_wp2_with fail
 go_ret3
 exact ⟨rfl,hx⟩
end Go.Proofs.YtcghgkagpkmpeaaGreatDoor.Strs
