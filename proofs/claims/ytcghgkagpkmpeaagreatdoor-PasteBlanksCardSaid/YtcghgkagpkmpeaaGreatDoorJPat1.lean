/- Joined by wip/join.py: PatP Pat Pat2 Pat3 Pat4 Pat5 Src EncC. -/
import Derived.Test.YtcghgkagpkmpeaaGreatDoorJUtf
import Derived.Test.YtcghgkagpkmpeaaGreatDoorShelf
import Derived.Test.YtcghgkagpkmpeaaGreatDoorJBase
import Derived.Deep.MidRow
import Derived.BigRegion
import Derived.Lib.IndexBytes
import Derived.Laws.OwnMore
import Derived.Deep.RegionHeld3
set_option linter.unusedVariables false
set_option linter.unusedSimpArgs false
set_option maxHeartbeats 4000000
namespace Go.Proofs.YtcghgkagpkmpeaaGreatDoor.Pat
def splitL (c:UInt8):List UInt8→List (List UInt8)
 | []=>[[]]
 | b :: l=>if b=c then [] :: splitL c l else match splitL c l with | g :: gs=>(b :: g) :: gs | []=>[[b]]
theorem splitL_ne (c:UInt8) (l:List UInt8):splitL c l ≠ []:=by
 cases l with
 | nil=>simp [splitL]
 | cons b l =>
  unfold splitL
  split
  ·simp
  ·split <;> simp
theorem splitL_cons_ne {c b:UInt8} {l:List UInt8} (h:b ≠ c):∃ g gs,splitL c l=g :: gs∧splitL c (b :: l)=(b :: g) :: gs:=by
 cases hs:splitL c l with
 | nil=>exact absurd hs (splitL_ne c l)
 | cons g gs=>exact ⟨g,gs,rfl,by rw [splitL,if_neg h,hs]⟩
theorem splitL_cons_eq {c:UInt8} {l:List UInt8}:splitL c (c :: l)=[] :: splitL c l:=by rw [splitL,if_pos rfl]
def runsL (a b:UInt8) (l:List UInt8):Bool:=decide ((l.dropWhile (·=a)).dropWhile (·=b)=[])
open Go.RowKit Utf
abbrev Pc:=Int × List UInt8
def pcV (p:Pc):List Value:=[.int .i64 p.1,.string ⟨p.2.toArray⟩]
def pcsV (l:List Pc):List Value:=l.flatMap pcV
theorem pcsV_nil:pcsV []=[]:=rfl
theorem pcsV_app (l m:List Pc):pcsV (l++m)=pcsV l++pcsV m:=List.flatMap_append
theorem pcsV_len (l:List Pc):(pcsV l).length=2 * l.length:=by
 induction l with
 | nil=>rfl
 | cons p l ih=>simp [pcsV,pcV] at ih ⊢;omega
theorem pcsV_one (p:Pc):pcsV [p]=[.int .i64 p.1,.string ⟨p.2.toArray⟩]:=rfl
def kindL (c:Int):Int:=if c=164 then 1 else if c=37 then 2 else if c=45 then 3 else if c=59 then 5 else if c=35∨c=48∨c=44∨c=46 then 4 else if (49≤c∧c≤57)∨c=64∨c=42∨c=43∨c=69 then -1 else 0
theorem kindL_bd (c:Int):-1≤kindL c∧kindL c≤5:=by unfold kindL;(repeat' split) <;> omega
abbrev refused:Ending:=.panicked [{ v:=.iface 177 (.int .i64 2),recovered:=false }]
theorem must_ok (w:World):Calls Tryz.prog 116 #[.bool true] w fun e w'=>e=.returned (.tuple #[])∧w=w':=by
 go_enter Tryz.func116,Tryz.ntmps116
 go_wp2
 go_end0
 exact ⟨rfl,rfl⟩
theorem must_no (w:World):Calls Tryz.prog 116 #[.bool false] w fun e w'=>e=refused∧w=w':=by
 go_enter Tryz.func116,Tryz.ntmps116
 go_wp2
 exact ⟨rfl,rfl,rfl⟩
theorem signs_of:∀ n:Fin 128,(decide ((0:Int)≤Lib.indexByte [35,48,44,46] (UInt8.ofNat n.val)))=decide (n.val=35∨n.val=48∨n.val=44∨n.val=46):=by decide +kernel
theorem wrong_of:∀ n:Fin 128,(decide ((0:Int)≤Lib.indexByte [49,50,51,52,53,54,55,56,57,64,42,43,69] (UInt8.ofNat n.val)))=decide ((49≤n.val∧n.val≤57)∨n.val=64∨n.val=42∨n.val=43∨n.val=69):=by decide +kernel
set_option maxRecDepth 100000
theorem kind_ (c:Int) (w:World) (h0:0≤c) (h1:c≤1114111):Calls Tryz.prog 177 #[.int .i64 c] w fun e w'=>e=.returned (.int .i64 (kindL c))∧w=w':=by
 by_cases e1:c=164
 ·subst e1;go_enter Tryz.func177,Tryz.ntmps177;go_wp2;go_ret;exact ⟨rfl,rfl⟩
 by_cases e2:c=37
 ·subst e2;go_enter Tryz.func177,Tryz.ntmps177;go_wp2;go_ret;exact ⟨rfl,rfl⟩
 by_cases e3:c=45
 ·subst e3;go_enter Tryz.func177,Tryz.ntmps177;go_wp2;go_ret;exact ⟨rfl,rfl⟩
 by_cases e4:c=59
 ·subst e4;go_enter Tryz.func177,Tryz.ntmps177;go_wp2;go_ret;exact ⟨rfl,rfl⟩
 have b1:(c == 164)=false:=by simpa using e1
 have b2:(c == 37)=false:=by simpa using e2
 have b3:(c == 45)=false:=by simpa using e3
 have b4:(c == 59)=false:=by simpa using e4
 by_cases hc:c < 128
 ·obtain ⟨n,rfl⟩:=Int.eq_ofNat_of_zero_le h0
  have hs:=signs_of ⟨n,by omega⟩
  have hw:=wrong_of ⟨n,by omega⟩
  simp only at hs hw
  have hu:(n:Int).toNat=n:=rfl
  have hwr:IntKind.u8.wrap (n:Int)=n:=by rw [IntKind.wrap_u8];omega
  by_cases s1:n=35∨n=48∨n=44∨n=46
  ·rw [decide_eq_true s1,decide_eq_true_iff] at hs
   have HK:Hid (kindL n=4):=Lib.hid (by unfold kindL;rw [if_neg e1,if_neg e2,if_neg e3,if_neg e4,if_pos (by omega)])
   have HS:=Lib.hid hs
   clear hw hs s1
   go_enter Tryz.func177,Tryz.ntmps177
   go_wp2_with fail
   refine (Tryz.strings_IndexByte _ _ _).mono ?_;rintro e w' ⟨rfl,rfl⟩
   have hs':=HS.out
   go_wp2
   go_ret
   exact ⟨by rw [HK.out];rfl,rfl⟩
  ·rw [decide_eq_false s1,decide_eq_false_iff_not] at hs
   have HS:=Lib.hid (eq_false hs)
   by_cases s2:(49≤n∧n≤57)∨n=64∨n=42∨n=43∨n=69
   ·rw [decide_eq_true s2,decide_eq_true_iff] at hw
    have HK:Hid (kindL n=-1):=Lib.hid (by unfold kindL;rw [if_neg e1,if_neg e2,if_neg e3,if_neg e4,if_neg (by omega),if_pos (by omega)])
    have HW:=Lib.hid hw
    clear hw hs s1 s2
    go_enter Tryz.func177,Tryz.ntmps177
    go_wp2_with fail
    refine (Tryz.strings_IndexByte _ _ _).mono ?_;rintro e w' ⟨rfl,rfl⟩
    have hs':=HS.out
    go_wp2_with fail
    refine (Tryz.strings_IndexByte _ _ _).mono ?_;rintro e w' ⟨rfl,rfl⟩
    have hw':=HW.out
    go_wp2
    go_ret
    exact ⟨by rw [HK.out];rfl,rfl⟩
   ·rw [decide_eq_false s2,decide_eq_false_iff_not] at hw
    have HK:Hid (kindL n=0):=Lib.hid (by unfold kindL;rw [if_neg e1,if_neg e2,if_neg e3,if_neg e4,if_neg (by omega),if_neg (by omega)])
    have HW:=Lib.hid (eq_false hw)
    clear hw hs s1 s2
    go_enter Tryz.func177,Tryz.ntmps177
    go_wp2_with fail
    refine (Tryz.strings_IndexByte _ _ _).mono ?_;rintro e w' ⟨rfl,rfl⟩
    have hs':=HS.out
    go_wp2_with fail
    refine (Tryz.strings_IndexByte _ _ _).mono ?_;rintro e w' ⟨rfl,rfl⟩
    have hw':=HW.out
    go_wp2
    go_ret
    exact ⟨by rw [HK.out];rfl,rfl⟩
 ·have HK:Hid (kindL c=0):=Lib.hid (by unfold kindL;rw [if_neg e1,if_neg e2,if_neg e3,if_neg e4,if_neg (by omega),if_neg (by omega)])
  go_enter Tryz.func177,Tryz.ntmps177
  go_wp2
  go_ret
  exact ⟨by rw [HK.out];rfl,rfl⟩
set_option maxRecDepth 512
def tokS:Bool→Bool→List Int→Option (List Pc)
 | q,true,[]=>if q then some [] else none
 | q,false,[]=>if q then none else some []
 | q,true,c :: r=>if c=39 then (tokS q false r).map ((0,encB 39) :: ·) else if q then (if kindL c < 0 then none else (tokS false false r).map ((kindL c,encB c) :: ·)) else (tokS true false r).map ((0,encB c) :: ·)
 | q,false,c :: r=>if c=39 then tokS q true r else if q then (tokS true false r).map ((0,encB c) :: ·) else if kindL c < 0 then none else (tokS false false r).map ((kindL c,encB c) :: ·)
theorem tokS_quote (q:Bool) (r:List Int):tokS q false (39 :: r)=tokS q true r:=by rw [tokS,if_pos rfl]
theorem tokS_toggle (q:Bool) (r:List Int) (h:∀ c r',r=c :: r'→c ≠ 39):tokS q true r=tokS (!q) false r:=by
 cases r with
 | nil=>cases q <;> rfl
 | cons c r' =>
  have:=h c r' rfl
  rw [tokS,tokS,if_neg this,if_neg this]
  cases q <;> rfl
def tokF (xs:List Int):Option (List Pc):=tokS false false xs
def tokL (s:List UInt8):Option (List Pc):=tokF (All.charsL s)
open Go.RowKit Utf All Small
theorem ei_pc:EI 129 181 2 24:=ei_of (z:=.agg #[.int .i64 0,.string ⟨#[]⟩]) Tryz.underlying129 (by kernel_rfl) rfl (by decide)
theorem charsL_bd (l:List UInt8):∀ x ∈ charsL l,0≤x∧x≤1114111:=by
 have:∀ (n:Nat) (l:List UInt8),∀ x ∈ (piecesN n l).map (·.1),0≤x∧x≤1114111:=by
  intro n
  induction n with
  | zero=>intro l x hx;simp [piecesN] at hx
  | succ n ih =>
   intro l x hx
   unfold piecesN at hx
   split at hx
   ·simp at hx
   ·simp only [List.map_cons,List.mem_cons] at hx
    rcases hx with rfl | hx
    ·exact dec_bd l
    ·exact ih _ _ hx
 exact this _ l
theorem chars_len (s:ByteArray):(charsL s.data.toList).length≤s.size:=by
 unfold charsL
 rw [List.length_map,← data_len s]
 exact pieces_len _ _ (Nat.le_refl _)
def PcsR (n:Nat) (w:World):Option (List Pc)→Ending→World→Prop
 | none,e,w'=>e=refused∧Ext w w'
 | some l,e,w'=>∃ A c,e=.returned (.slice A l.length c)∧Row w' A (pcsV l)∧l.length≤c∧l.length≤n∧c≤maxLen∧(∀ a,A=some a→w.heap.size≤a.block)∧Ext w w'
theorem map_cons_app (acc:List Pc) (p:Pc) (o:Option (List Pc)):(o.map (p :: ·)).map (acc++·)=o.map ((acc++[p])++·):=by cases o <;> simp
theorem slice_new (w:World) (o:Obj) (m c:Nat):Value.slice (some ⟨w.heap.size+1,0,none⟩) m c=.slice (some ⟨(w.alloc o).heap.size,0,none⟩) m c:=by rw [World.size_alloc]
theorem encB_39:encB 39=[39]:=by decide
set_option maxRecDepth 100000
theorem tokens_ (s:ByteArray) (w:World) (hs:s.size≤1000000000) :
  Calls Tryz.prog 113 #[.string s] w fun e w'=>PcsR s.size w (tokL s.data.toList) e w':=by
 go_enter Tryz.func113,Tryz.ntmps113
 go_wp2_with fail
 refine (utf_all s _ (by omega)).mono ?_;rintro e w1 ⟨X,cX,rfl,hrow,hlc,hcm,hx⟩
 have hbd:=charsL_bd s.data.toList
 have hcl:=chars_len s
 have HT:Hid (tokL s.data.toList=tokF (charsL s.data.toList)):=Lib.hid rfl
 generalize charsL s.data.toList=xs at *
 have HX:=Lib.hid hx
 have HBD:=Lib.hid hbd
 clear hx hbd
 go_wp2
 go_loopw [4,5,6] (fun out q i wr=>∃ (k:Nat) (acc:List Pc) (b:Bool) (A:Option Addr) (c:Nat),k≤xs.length∧i=.int .i64 k∧q=.bool b∧out=.slice A acc.length c∧Acc 181 2 w1 wr A c acc.length (pcsV acc)∧acc.length≤k∧Hid (tokF xs=(tokS b false (xs.drop k)).map (acc++·))) (fun _ _ i _=>xs.length - (intOf i).toNat)
 case atStart=>exact ⟨0,[],false,none,0,Nat.zero_le _,rfl,rfl,rfl,Acc.start _ _ _,Nat.le_refl _,Lib.hid (by simp [tokF])⟩
 case round =>
  obtain ⟨k,acc,b,A,c,hk,rfl,rfl,rfl,hacc,hak,HK⟩:=hrel
  by_cases hlt:k < xs.length
  ·obtain ⟨bX,oX,rfl,hc⟩:=row_int (hacc.keep hrow) hlt
   have hb:=HBD.out _ (List.getElem_mem hlt)
   have HD:Hid (xs.drop k=xs[k] :: xs.drop (k+1)):=Lib.hid (List.drop_eq_getElem_cons hlt)
   generalize hv:xs[k]=v at *
   have HV:=Lib.hid hv
   clear hv
   obtain ⟨hb0,hb1⟩:=hb
   by_cases hq:v=39
   ·subst hq
    have hbig:=hacc.cap
    by_cases h2:k+1 < xs.length
    ·obtain ⟨_,_,e1,hcn⟩:=row_int (hacc.keep hrow) h2
     injection e1 with e1
     injection e1 with e1 e2
     subst e1;subst e2
     have HD2:Hid (xs.drop (k+1)=xs[k+1] :: xs.drop (k+1+1)):=Lib.hid (List.drop_eq_getElem_cons h2)
     generalize hu:xs[k+1]=u at *
     have HU:=Lib.hid hu
     clear hu
     have hcn':wr.cell? ⟨bX,oX+(k+1),none⟩=some (.int .i64 u):=hcn
     by_cases hq2:u=39
     ·subst hq2
      have HR:Hid (tokF xs=(tokS b false (xs.drop (k+2))).map ((acc++[(0,encB 39)])++·)):=Lib.hid (by
       rw [HK.out,HD.out,HD2.out,tokS_quote]
       cases b <;> (rw [tokS,if_pos rfl,map_cons_app]))
      clear HK
      go_wp2_with fail
      refine (utf_encode 39 _).mono ?_;rintro e w2 ⟨rfl,hx2⟩
      have hacc2:=(hacc.step hx2).alloc (.cells #[.int .i64 0,.string ⟨(encB 39).toArray⟩] 181)
      have hc2:=Ext.cell_ (Ext.alloc_ (Ext.refl w2) (.cells #[.int .i64 0,.string ⟨(encB 39).toArray⟩] 181)) (Ext.cell_ hx2 hc)
      have hcn2:=Ext.cell_ (Ext.alloc_ (Ext.refl w2) (.cells #[.int .i64 0,.string ⟨(encB 39).toArray⟩] 181)) (Ext.cell_ hx2 hcn')
      clear hacc hc hcn hcn'
      go_wp2_with (at_builtin;refine wp_app ei_pc rfl (.tmp 66) (.tmp 68) rfl w1 _ A c acc.length _ rfl hacc2 [.int .i64 0,.string ⟨(encB 39).toArray⟩] 1 1 (slice_new _ _ _ _) rfl (by simp [Value.oneCell']) (by omega) (by unfold maxLen;omega) ?_;intro A1 c1 w3 hacc3 _ _;clear hacc2)
      go_roundw
      case rel=>exact ⟨k+2,acc++[(0,encB 39)],b,A1,c1,by omega,by go_num,rfl,by simp,by rw [pcsV_app,pcsV_one];simpa using hacc3,by simp;omega,HR⟩
      case measure=>simp [intOf];omega
     ·have hq3:(u == 39)=false:=by simpa using hq2
      have HR:Hid (tokF xs=(tokS (!b) false (xs.drop (k+1))).map (acc++·)):=Lib.hid (by
       rw [HK.out,HD.out,tokS_quote,tokS_toggle]
       rw [HD2.out];intro c r' h;injection h with h;rw [← h];exact hq2)
      clear HK
      go_wp2_with fail
      refine (utf_encode 39 _).mono ?_;rintro e w2 ⟨rfl,hx2⟩
      have hacc2:=(hacc.step hx2).alloc (.cells #[.int .i64 0,.string ⟨(encB 39).toArray⟩] 181)
      have hc2:=Ext.cell_ (Ext.alloc_ (Ext.refl w2) (.cells #[.int .i64 0,.string ⟨(encB 39).toArray⟩] 181)) (Ext.cell_ hx2 hc)
      have hcn2:=Ext.cell_ (Ext.alloc_ (Ext.refl w2) (.cells #[.int .i64 0,.string ⟨(encB 39).toArray⟩] 181)) (Ext.cell_ hx2 hcn')
      clear hacc hc hcn hcn'
      go_wp2
      go_roundw
      case rel=>exact ⟨k+1,acc,!b,A,c,by omega,by go_num,rfl,rfl,hacc2,by omega,HR⟩
      case measure=>simp [intOf];omega
    ·have HR:Hid (tokF xs=(tokS (!b) false (xs.drop (k+1))).map (acc++·)):=Lib.hid (by
      rw [HK.out,HD.out,tokS_quote,tokS_toggle]
      rw [List.drop_of_length_le (by omega)];intro c r' h;cases h)
     clear HK
     go_wp2_with fail
     refine (utf_encode 39 _).mono ?_;rintro e w2 ⟨rfl,hx2⟩
     have hacc2:=(hacc.step hx2).alloc (.cells #[.int .i64 0,.string ⟨(encB 39).toArray⟩] 181)
     have hc2:=Ext.cell_ (Ext.alloc_ (Ext.refl w2) (.cells #[.int .i64 0,.string ⟨(encB 39).toArray⟩] 181)) (Ext.cell_ hx2 hc)
     clear hacc hc
     go_wp2
     go_roundw
     case rel=>exact ⟨k+1,acc,!b,A,c,by omega,by go_num,rfl,rfl,hacc2,by omega,HR⟩
     case measure=>simp [intOf];omega
   ·have hq1:(v == 39)=false:=by simpa using hq
    have hbig:=hacc.cap
    cases b
    ·by_cases hn:kindL v < 0
     ·have HT2:Hid (tokL s.data.toList=none):=Lib.hid (by rw [HT.out,HK.out,HD.out,tokS,if_neg hq,if_neg (by decide),if_pos hn];rfl)
      have HN:Hid (decide (0≤kindL v)=false):=Lib.hid (by simp;omega)
      clear hn HT HK
      go_wp2_with fail
      refine (utf_encode v _).mono ?_;rintro e w2 ⟨rfl,hx2⟩
      have hacc2:=hacc.step hx2
      have hc2:=Ext.cell_ (Ext.alloc_ (Ext.refl w2) (.cells #[.int .i64 0,.string ⟨(encB v).toArray⟩] 181)) (Ext.cell_ hx2 hc)
      clear hacc
      go_wp2_with fail
      refine (kind_ v _ hb0 hb1).mono ?_;rintro e w3 ⟨rfl,rfl⟩
      go_wp2_with fail
      rw [HN.out]
      refine (must_no _).mono ?_;rintro e w3 ⟨rfl,rfl⟩
      go_wp2
      refine ⟨rfl,?_⟩
      rw [HT2.out]
      exact ⟨rfl,Ext.alloc_ (hacc2.ext_of HX.out) _⟩
     ·have HR:Hid (tokF xs=(tokS false false (xs.drop (k+1))).map ((acc++[(kindL v,encB v)])++·)):=Lib.hid (by
       rw [HK.out,HD.out,tokS,if_neg hq,if_neg (by decide),if_neg hn,map_cons_app])
      have HN:Hid (decide (0≤kindL v)=true):=Lib.hid (by simp;omega)
      clear hn HK
      go_wp2_with fail
      refine (utf_encode v _).mono ?_;rintro e w2 ⟨rfl,hx2⟩
      have hacc2:=(hacc.step hx2).alloc (.cells #[.int .i64 (kindL v),.string ⟨(encB v).toArray⟩] 181)
      have hc2:=Ext.cell_ (Ext.alloc_ (Ext.refl w2) (.cells #[.int .i64 0,.string ⟨(encB v).toArray⟩] 181)) (Ext.cell_ hx2 hc)
      clear hacc hc
      go_wp2_with fail
      refine (kind_ v _ hb0 hb1).mono ?_;rintro e w3 ⟨rfl,rfl⟩
      go_wp2_with fail
      rw [HN.out]
      refine (must_ok _).mono ?_;rintro e w3 ⟨rfl,rfl⟩
      clear hc2
      go_wp2_with (at_builtin;refine wp_app ei_pc rfl (.tmp 66) (.tmp 68) rfl w1 _ A c acc.length _ rfl hacc2 [.int .i64 (kindL v),.string ⟨(encB v).toArray⟩] 1 1 (slice_new _ _ _ _) rfl (by simp [Value.oneCell']) (by omega) (by unfold maxLen;omega) ?_;intro A1 c1 w3 hacc3 _ _;clear hacc2)
      go_roundw
      case rel=>exact ⟨k+1,acc++[(kindL v,encB v)],false,A1,c1,by omega,by go_num,rfl,by simp,by rw [pcsV_app,pcsV_one];simpa using hacc3,by simp;omega,HR⟩
      case measure=>simp [intOf];omega
    ·have HR:Hid (tokF xs=(tokS true false (xs.drop (k+1))).map ((acc++[(0,encB v)])++·)):=Lib.hid (by
      rw [HK.out,HD.out,tokS,if_neg hq,if_pos rfl,map_cons_app])
     clear HK
     go_wp2_with fail
     refine (utf_encode v _).mono ?_;rintro e w2 ⟨rfl,hx2⟩
     have hacc2:=(hacc.step hx2).alloc (.cells #[.int .i64 0,.string ⟨(encB v).toArray⟩] 181)
     have hc2:=Ext.cell_ (Ext.alloc_ (Ext.refl w2) (.cells #[.int .i64 0,.string ⟨(encB v).toArray⟩] 181)) (Ext.cell_ hx2 hc)
     clear hacc hc
     go_wp2_with (at_builtin;refine wp_app ei_pc rfl (.tmp 66) (.tmp 68) rfl w1 _ A c acc.length _ rfl hacc2 [.int .i64 0,.string ⟨(encB v).toArray⟩] 1 1 (slice_new _ _ _ _) rfl (by simp [Value.oneCell']) (by omega) (by unfold maxLen;omega) ?_;intro A1 c1 w3 hacc3 _ _;clear hacc2)
     go_roundw
     case rel=>exact ⟨k+1,acc++[(0,encB v)],true,A1,c1,by omega,by go_num,rfl,by simp,by rw [pcsV_app,pcsV_one];simpa using hacc3,by simp;omega,HR⟩
     case measure=>simp [intOf];omega
  ·have e:k=xs.length:=by omega
   subst e
   cases b
   ·have HT2:Hid (tokL s.data.toList=some acc):=Lib.hid (by rw [HT.out,HK.out,List.drop_length];simp [tokS])
    clear HT HK
    go_wp2_with fail
    refine (must_ok _).mono ?_;rintro e w2 ⟨rfl,rfl⟩
    go_wp2
    go_ret
    rw [HT2.out]
    exact ⟨A,c,rfl,hacc.row,hacc.cap.1,by omega,hacc.cap.2,fun a ha=>by subst ha;exact Nat.le_trans HX.out.size (hacc.own.lt a.block rfl).1,hacc.ext_of HX.out⟩
   ·have HT2:Hid (tokL s.data.toList=none):=Lib.hid (by rw [HT.out,HK.out,List.drop_length];simp [tokS])
    clear HT HK
    go_wp2_with fail
    refine (must_no _).mono ?_;rintro e w2 ⟨rfl,rfl⟩
    go_wp2
    refine ⟨rfl,?_⟩
    rw [HT2.out]
    exact ⟨rfl,hacc.ext_of HX.out⟩
set_option maxRecDepth 512
def pcA (p:Pc):Value:=.agg #[.int .i64 p.1,.string ⟨p.2.toArray⟩]
theorem pcs_at (l:List Pc) (k:Nat) (hk:k < l.length):(pcsV l)[k * 2]? = some (.int .i64 l[k].1)∧(pcsV l)[k * 2+1]? = some (.string ⟨l[k].2.toArray⟩):=by
 induction l generalizing k with
 | nil=>simp at hk
 | cons p l ih =>
  have e:pcsV (p :: l)=.int .i64 p.1 :: .string ⟨p.2.toArray⟩ :: pcsV l:=rfl
  cases k with
  | zero=>rw [e];exact ⟨rfl,rfl⟩
  | succ k =>
   have:=ih k (by simpa using hk)
   rw [e]
   simp only [Nat.succ_mul,List.getElem_cons_succ]
   exact this
theorem row_pc {w:World} {A:Option Addr} {l:List Pc} (h:Row w A (pcsV l)) {k:Nat} (hk:k < l.length) :
  ∃ b off,A=some ⟨b,off,none⟩∧w.cell? ⟨b,off+k * 2,none⟩=some (.int .i64 l[k].1)∧w.cell? ⟨b,off+k * 2+1,none⟩=some (.string ⟨l[k].2.toArray⟩):=by
 obtain ⟨b,off,e,hc⟩:=h.at_ (k:=k * 2) (by rw [pcsV_len];omega)
 obtain ⟨h1,h2⟩:=pcs_at l k hk
 exact ⟨b,off,e,hc _ _ h1,by rw [Nat.add_assoc];exact hc _ _ h2⟩
theorem infoPc:(Tryz.prog.info? 181).map (·.size)=some 2:=by kernel_rfl
theorem pc_range {w:World} {b off k:Nat} {x:Pc} (h1:w.cell? ⟨b,off+k * 2,none⟩=some (.int .i64 x.1)) (h2:w.cell? ⟨b,off+k * 2+1,none⟩=some (.string ⟨x.2.toArray⟩)):w.rangeAt b (off+k * 2) [.int .i64 x.1,.string ⟨x.2.toArray⟩]:=by
 intro j v hv
 match j with
 | 0=>simp at hv;subst hv;exact h1
 | 1=>simp at hv;subst hv;exact h2
 | j+2=>simp at hv
def isK (n:Int) (p:Pc):Bool:=p.1 == n
theorem isK_half (x:Pc) (w:World):Calls Tryz.prog 178 #[pcA x] w fun e w'=>e=.returned (.bool (isK 4 x))∧Ext w w':=by
 obtain ⟨k,t⟩:=x
 unfold pcA isK
 go_enter Tryz.func178,Tryz.ntmps178
 go_wp2
 go_ret
 exact ⟨rfl,(Ext.refl _).alloc (Nat.le_refl _) _⟩
theorem index_half (A:Option Addr) (c:Nat) (l:List Pc) (w:World) (hr:Row w A (pcsV l)) (hl:l.length≤10000000000) :
  Calls Tryz.prog 114 #[.slice A l.length c,.func (.func 178) #[] #[]] w fun e w'=>e=.returned (.int .i64 (idxF (isK 4) l))∧Ext w w':=by
 go_enter Tryz.func114,Tryz.ntmps114
 go_wp2
 go_loopw [5,8] (fun _ i wr=>∃ k:Nat,k≤l.length∧i=.int .i64 k∧Ext w wr∧Hid ((l.take k).any (isK 4)=false)) (fun _ i _=>l.length - (intOf i).toNat)
 case atStart=>exact ⟨0,Nat.zero_le _,rfl,Ext.refl _,Lib.hid (by simp)⟩
 case round =>
  obtain ⟨k,hk,rfl,hx,HK⟩:=hrel
  by_cases hlt:k < l.length
  ·obtain ⟨b,off,rfl,hc1,hc2⟩:=row_pc (hr.below hx (Nat.le_refl _)) hlt
   have HA:=Lib.hid (idxF_at (isK 4) l k hlt HK.out)
   have HT:=Lib.hid (any_snoc (isK 4) l k hlt)
   have HR:=Lib.hid (pc_range hc1 hc2)
   have HX:=Lib.hid hx
   clear hx
   generalize l[k]=x at *
   cases hb:isK 4 x
   ·have HB:=Lib.hid hb
    clear hb
    go_wp2_with (first | (refine wpList_load_mid rfl 181 (.tmp 14) rfl b (off+k * 2) rfl [.int .i64 x.1,.string ⟨x.2.toArray⟩] _ HR.out Tryz.underlying181 rfl infoPc ?_) | (refine (isK_half x _).mono ?_;rintro e w2 ⟨rfl,hx2⟩;rw [HB.out]))
    go_roundw
    case rel=>exact ⟨k+1,by omega,by go_num,HX.out.trans hx2,Lib.hid (by rw [HT.out,HK.out,HB.out];rfl)⟩
    case measure=>simp [intOf];omega
   ·have HB:=Lib.hid hb
    clear hb
    go_wp2_with (first | (refine wpList_load_mid rfl 181 (.tmp 14) rfl b (off+k * 2) rfl [.int .i64 x.1,.string ⟨x.2.toArray⟩] _ HR.out Tryz.underlying181 rfl infoPc ?_) | (refine (isK_half x _).mono ?_;rintro e w2 ⟨rfl,hx2⟩;rw [HB.out]))
    go_ret
    exact ⟨by rw [HA.out HB.out];rfl,HX.out.trans hx2⟩
  ·have e:k=l.length:=by omega
   subst e
   rw [List.take_length] at HK
   go_wp2
   go_ret
   exact ⟨by rw [idxF_none _ _ HK.out];rfl,hx⟩
theorem isK_parse (x:Pc) (w:World):Calls Tryz.prog 115 #[pcA x] w fun e w'=>e=.returned (.bool (isK 5 x))∧Ext w w':=by
 obtain ⟨k,t⟩:=x
 unfold pcA isK
 go_enter Tryz.func115,Tryz.ntmps115
 go_wp2
 go_ret
 exact ⟨rfl,(Ext.refl _).alloc (Nat.le_refl _) _⟩
theorem index_parse (A:Option Addr) (c:Nat) (l:List Pc) (w:World) (hr:Row w A (pcsV l)) (hl:l.length≤10000000000) :
  Calls Tryz.prog 114 #[.slice A l.length c,.func (.func 115) #[] #[]] w fun e w'=>e=.returned (.int .i64 (idxF (isK 5) l))∧Ext w w':=by
 go_enter Tryz.func114,Tryz.ntmps114
 go_wp2
 go_loopw [5,8] (fun _ i wr=>∃ k:Nat,k≤l.length∧i=.int .i64 k∧Ext w wr∧Hid ((l.take k).any (isK 5)=false)) (fun _ i _=>l.length - (intOf i).toNat)
 case atStart=>exact ⟨0,Nat.zero_le _,rfl,Ext.refl _,Lib.hid (by simp)⟩
 case round =>
  obtain ⟨k,hk,rfl,hx,HK⟩:=hrel
  by_cases hlt:k < l.length
  ·obtain ⟨b,off,rfl,hc1,hc2⟩:=row_pc (hr.below hx (Nat.le_refl _)) hlt
   have HA:=Lib.hid (idxF_at (isK 5) l k hlt HK.out)
   have HT:=Lib.hid (any_snoc (isK 5) l k hlt)
   have HR:=Lib.hid (pc_range hc1 hc2)
   have HX:=Lib.hid hx
   clear hx
   generalize l[k]=x at *
   cases hb:isK 5 x
   ·have HB:=Lib.hid hb
    clear hb
    go_wp2_with (first | (refine wpList_load_mid rfl 181 (.tmp 14) rfl b (off+k * 2) rfl [.int .i64 x.1,.string ⟨x.2.toArray⟩] _ HR.out Tryz.underlying181 rfl infoPc ?_) | (refine (isK_parse x _).mono ?_;rintro e w2 ⟨rfl,hx2⟩;rw [HB.out]))
    go_roundw
    case rel=>exact ⟨k+1,by omega,by go_num,HX.out.trans hx2,Lib.hid (by rw [HT.out,HK.out,HB.out];rfl)⟩
    case measure=>simp [intOf];omega
   ·have HB:=Lib.hid hb
    clear hb
    go_wp2_with (first | (refine wpList_load_mid rfl 181 (.tmp 14) rfl b (off+k * 2) rfl [.int .i64 x.1,.string ⟨x.2.toArray⟩] _ HR.out Tryz.underlying181 rfl infoPc ?_) | (refine (isK_parse x _).mono ?_;rintro e w2 ⟨rfl,hx2⟩;rw [HB.out]))
    go_ret
    exact ⟨by rw [HA.out HB.out];rfl,HX.out.trans hx2⟩
  ·have e:k=l.length:=by omega
   subst e
   rw [List.take_length] at HK
   go_wp2
   go_ret
   exact ⟨by rw [idxF_none _ _ HK.out];rfl,hx⟩
theorem contains_half (A:Option Addr) (c:Nat) (l:List Pc) (w:World) (hr:Row w A (pcsV l)) (hl:l.length≤10000000000) :
  Calls Tryz.prog 139 #[.slice A l.length c,.func (.func 178) #[] #[]] w fun e w'=>e=.returned (.bool (l.any (isK 4)))∧Ext w w':=by
 have HF:=Lib.hid (idxF_sign (isK 4) l)
 go_enter Tryz.func139,Tryz.ntmps139
 go_wp2_with fail
 refine (index_half _ _ _ _ hr hl).mono ?_;rintro e w' ⟨rfl,hx⟩
 go_wp2
 go_ret
 exact ⟨by rw [← HF.out];rfl,hx⟩
def cntK (n:Int) (l:List Pc):Nat:=l.countP (isK n)
theorem count_ (A:Option Addr) (c:Nat) (l:List Pc) (n:Int) (w:World) (hr:Row w A (pcsV l)) (hl:l.length≤10000000000) :
  Calls Tryz.prog 117 #[.slice A l.length c,.int .i64 n] w fun e w'=>e=.returned (.int .i64 (cntK n l))∧Ext w w':=by
 go_enter Tryz.func117,Tryz.ntmps117
 go_wp2
 go_loopw [5,10] (fun m i wr=>∃ k:Nat,k≤l.length∧i=.int .i64 k∧m=.int .i64 ((cntK n (l.take k):Nat):Int)∧Ext w wr) (fun _ i _=>l.length - (intOf i).toNat)
 case atStart=>exact ⟨0,Nat.zero_le _,rfl,by simp [cntK],Ext.refl _⟩
 case round =>
  obtain ⟨k,hk,rfl,rfl,hx⟩:=hrel
  by_cases hlt:k < l.length
  ·obtain ⟨b,off,rfl,hc1,hc2⟩:=row_pc (hr.below hx (Nat.le_refl _)) hlt
   have hcb:cntK n (l.take k)≤k:=by unfold cntK;exact Nat.le_trans List.countP_le_length (by simp;omega)
   have HT:Hid (cntK n (l.take (k+1))=cntK n (l.take k)+(if isK n l[k] then 1 else 0)):=Lib.hid (by
    unfold cntK;rw [List.take_succ_eq_append_getElem hlt,List.countP_append];simp [List.countP_cons])
   have HR:=Lib.hid (pc_range hc1 hc2)
   have HX:=Lib.hid hx
   clear hx
   generalize cntK n (l.take k)=m at *
   generalize l[k]=x at *
   cases hb:x.1 == n
   ·have HB:Hid (isK n x=false):=Lib.hid hb
    go_wp2_with (refine wpList_load_mid rfl 181 (.tmp 12) rfl b (off+k * 2) rfl [.int .i64 x.1,.string ⟨x.2.toArray⟩] _ HR.out Tryz.underlying181 rfl infoPc ?_)
    go_roundw
    case rel=>exact ⟨k+1,by omega,by go_num,by rw [HT.out,HB.out];rfl,HX.out.alloc_ _⟩
    case measure=>simp [intOf];omega
   ·have HB:Hid (isK n x=true):=Lib.hid hb
    go_wp2_with (refine wpList_load_mid rfl 181 (.tmp 12) rfl b (off+k * 2) rfl [.int .i64 x.1,.string ⟨x.2.toArray⟩] _ HR.out Tryz.underlying181 rfl infoPc ?_)
    go_roundw
    case rel=>exact ⟨k+1,by omega,by go_num,by rw [HT.out,HB.out];go_num,HX.out.alloc_ _⟩
    case measure=>simp [intOf];omega
  ·have e:k=l.length:=by omega
   subst e
   rw [List.take_length]
   go_wp2
   go_ret
   exact ⟨rfl,hx⟩
open Go.RowKit Utf All Small Strs
theorem splitK_cons_ne (b c:UInt8) (l:List UInt8) (k:Nat) (h:b ≠ c):∃ g gs,Lib.splitK [c] 0 k l=g :: gs∧Lib.splitK [c] 0 k (b :: l)=(b :: g) :: gs:=by
 cases k with
 | zero=>exact ⟨l,[],rfl,rfl⟩
 | succ k =>
  have hp:([c].isPrefixOf (b :: l))=false:=by simp [List.isPrefixOf];exact fun e=>absurd e.symm h
  have hi:Lib.index (b :: l) [c]=if Lib.index l [c] == -1 then -1 else Lib.index l [c]+1:=by rw [Lib.index,hp];rfl
  by_cases hm:Lib.index l [c] == -1
  ·rw [if_pos hm] at hi
   exact ⟨l,[],by rw [Lib.splitK,if_pos hm],by rw [Lib.splitK,hi];rfl⟩
  ·rw [if_neg hm] at hi
   have hge:-1≤Lib.index l [c]:=by rw [Lib.index_one];exact Lib.indexByte_ge _ _
   have hne:Lib.index l [c] ≠ -1:=by simpa using hm
   have h2:¬ (Lib.index l [c]+1 == -1)=true:=by simp;omega
   refine ⟨l.take ((Lib.index l [c]).toNat+0),Lib.splitK [c] 0 k (l.drop ((Lib.index l [c]).toNat+[c].length)),by rw [Lib.splitK,if_neg hm],?_⟩
   rw [Lib.splitK,hi,if_neg h2]
   have e:(Lib.index l [c]+1).toNat=(Lib.index l [c]).toNat+1:=by omega
   rw [e]
   simp
theorem splitK_splitL (c:UInt8) (l:List UInt8):Lib.splitK [c] 0 (l.count c) l=splitL c l:=by
 induction l with
 | nil=>rfl
 | cons b l ih =>
  by_cases h:b=c
  ·subst h
   rw [List.count_cons_self,splitL_cons_eq,← ih]
   have hi:Lib.index (b :: l) [b]=0:=by rw [Lib.index_one,Lib.indexByte];simp
   rw [Lib.splitK,hi]
   simp
  ·rw [List.count_cons_of_ne h]
   obtain ⟨g,gs,h1,h2⟩:=splitK_cons_ne b c l (l.count c) h
   obtain ⟨g',gs',h1',h2'⟩:=splitL_cons_ne (l:=l) h
   rw [h2,h2']
   rw [ih,h1'] at h1
   injection h1 with h1 h3
   rw [h1,h3]
theorem splitL_len (c:UInt8) (l:List UInt8):(splitL c l).length=l.count c+1:=by
 induction l with
 | nil=>rfl
 | cons b l ih =>
  by_cases h:b=c
  ·subst h;rw [List.count_cons_self,splitL_cons_eq,List.length_cons,ih]
  ·obtain ⟨g,gs,h1,h2⟩:=splitL_cons_ne (l:=l) h
   rw [List.count_cons_of_ne h,h2,← ih,h1];rfl
theorem splitL_flat (c:UInt8) (l:List UInt8):(splitL c l).flatten=l.filter (· ≠ c):=by
 induction l with
 | nil=>rfl
 | cons b l ih =>
  by_cases h:b=c
  ·subst h;rw [splitL_cons_eq,List.flatten_cons,ih];simp
  ·obtain ⟨g,gs,h1,h2⟩:=splitL_cons_ne (l:=l) h
   rw [h1] at ih
   rw [h2,List.filter_cons,if_pos (by simpa using h),← ih]
   simp
def strV (x:List UInt8):Value:=.string ⟨x.toArray⟩
theorem splitB_splitL (c:UInt8) (s:ByteArray):(Lib.splitB (Strs.one c) 0 (Lib.countB s (Strs.one c)) s).map Value.string=(splitL c s.data.toList).map strV:=by
 have h:=Lib.splitB_data (Strs.one c) 0 (Lib.countB s (Strs.one c)) s
 have h2:Lib.countB s (Strs.one c)=s.data.toList.count c:=Lib.count_one c _
 rw [h2] at h ⊢
 have h3:=splitK_splitL c s.data.toList
 rw [← h3]
 have h4:(Strs.one c).data.toList=[c]:=rfl
 rw [h4] at h
 rw [← h,List.map_map]
 refine List.map_congr_left fun x _=>?_
 show Value.string x=Value.string ⟨x.data.toList.toArray⟩
 rw [Array.toArray_toList]
theorem hi9:(Tryz.prog.info? 9).map (fun i=>(i.zero,i.size,i.bytes))=some (some (.string ByteArray.empty),1,16):=by kernel_rfl
theorem split_one (s:ByteArray) (c:UInt8) (w:World) (hs:s.size < 4294967281) :
  Calls Tryz.prog 203 #[.string s,.string (Strs.one c)] w fun e w'=>e=.returned (.slice (some ⟨w.heap.size,0,none⟩) (splitL c s.data.toList).length (splitL c s.data.toList).length)∧w'=w.alloc (.cells ((splitL c s.data.toList).map strV).toArray 9):=by
 have h1:1≤(Strs.one c).size:=Nat.le_refl _
 have hle:=Lib.countB_le (Strs.one c) h1 s.size s (Nat.le_refl _)
 have hlen:=Lib.splitB_all (Strs.one c) h1 0 _ s rfl
 have h2:Lib.countB s (Strs.one c)=s.data.toList.count c:=Lib.count_one c _
 have hc:=Any.strings_genSplit_core Tryz.lays221 hi9 s (Strs.one c) 0 (-1) (Lib.countB s (Strs.one c)+1) w hs h1 (Nat.zero_le _)
  (fun x cs hx=>(Tryz.strings_Index_one x c _).mono fun e w' ⟨he,hw⟩=>⟨by rw [he,← Lib.index_one],hw⟩)
  ((Tryz.strings_Count_one s c w).mono fun e w' ⟨he,hw⟩=>⟨by rw [he,h2];rfl,hw⟩) (by decide) (by decide) (by rw [if_pos (by decide)];omega)
 rw [Nat.add_sub_cancel,hlen] at hc
 have e2:Lib.cellsOf (Lib.splitB (Strs.one c) 0 (Lib.countB s (Strs.one c)) s) (Lib.countB s (Strs.one c)+1)=((splitL c s.data.toList).map strV).toArray:=by
  rw [← splitB_splitL,← hlen];exact Lib.cellsOf_full _
 rw [e2,h2,← splitL_len] at hc
 have HC:=Lib.hid hc
 clear hc
 go_enter Tryz.func203,Tryz.ntmps203
 go_wp2_with fail
 refine HC.out.mono ?_;rintro e w' ⟨rfl,rfl⟩
 go_wp2
 go_ret
 exact ⟨rfl,rfl⟩
theorem runs_ (s:ByteArray) (a b:UInt8) (ha:a.toNat < 128) (hb:b.toNat < 128) (w:World) :
  Calls Tryz.prog 204 #[.string s,.string (Strs.one a),.string (Strs.one b)] w fun e w'=>e=.returned (.bool (runsL a b s.data.toList))∧w=w':=by
 go_enter Tryz.func204,Tryz.ntmps204
 go_wp2_with fail
 refine (Tryz.strings_TrimLeft_one _ _ ha _).mono ?_;rintro e w' ⟨rfl,rfl⟩
 go_wp2_with fail
 refine (Tryz.strings_TrimLeft_one _ _ hb _).mono ?_;rintro e w' ⟨rfl,rfl⟩
 go_wp2
 go_ret
 refine ⟨ret_bool ?_,rfl⟩
 have e:(Lib.trimLeftB (Lib.trimLeftB s.data.toList a) b)=((s.data.toList.dropWhile (·=a)).dropWhile (·=b)):=rfl
 rw [e]
 unfold runsL
 rw [Bool.eq_iff_iff]
 simp
structure Nums where
 prim:Int
 sec:Int
 minInt:Int
 minFrac:Int
 maxFrac:Int
deriving DecidableEq
def wholeOk (w:List UInt8):Bool:=!((splitL 44 w).contains []) && runsL 35 48 (splitL 44 w).flatten
def restOk (r:List UInt8) (point:Bool):Bool:=!point || (decide (r ≠ []) && runsL 48 35 r)
def numN (w r:List UInt8):Nums where
 prim:=if 1 < (splitL 44 w).length then ((splitL 44 w).getD ((splitL 44 w).length - 1) []).length else 0
 sec:=if 2 < (splitL 44 w).length then ((splitL 44 w).getD ((splitL 44 w).length - 2) []).length else if 1 < (splitL 44 w).length then ((splitL 44 w).getD ((splitL 44 w).length - 1) []).length else 0
 minInt:=w.count 48
 minFrac:=r.count 48
 maxFrac:=r.length
def shortN (w r:List UInt8):Bool:=decide (w.length - ((splitL 44 w).length - 1)≤64) && decide (r.length≤64)
def numP (s:List UInt8):Option (Nums × Bool) :=
 if wholeOk (cutL 46 s).1 then (if restOk (cutL 46 s).2.1 (cutL 46 s).2.2 then some (numN (cutL 46 s).1 (cutL 46 s).2.1,shortN (cutL 46 s).1 (cutL 46 s).2.1) else none) else none
def patC (S1 S2 S3 S4:Value) (n:Nums):List Value:=[S1,S2,S3,S4,.int .i64 n.prim,.int .i64 n.sec,.int .i64 n.minInt,.int .i64 n.minFrac,.int .i64 n.maxFrac]
def zeroN:Nums:=⟨0,0,0,0,0⟩
theorem cutL_len (c:UInt8) (l:List UInt8):(cutL c l).1.length≤l.length∧(cutL c l).2.1.length≤l.length:=by
 unfold cutL;split <;> simp
 exact Nat.min_le_right _ _
structure OnlyB (g:Nat) (w w':World):Prop where
 os:w'.os=w.os
 tape:w'.tape=w.tape
 output:w'.output=w.output
 size:w.heap.size≤w'.heap.size
 block:∀ k,k < w.heap.size→k ≠ g→w'.heap[k]? = w.heap[k]?
theorem OnlyB.of_ext {g:Nat} {w w':World} (h:Ext w w'):OnlyB g w w':=⟨h.os,h.tape,h.output,h.size,fun k hk _=>h.block k hk⟩
theorem OnlyB.setCell {g:Nat} {w w':World} (h:OnlyB g w w') (j:Nat) (v:Value):OnlyB g w (w'.setCell ⟨g,j,none⟩ v) :=
 ⟨h.os,h.tape,h.output,by have:=h.size;simpa using this,fun k hk hne=>(heap_setCell_other w' ⟨g,j,none⟩ k v hne).trans (h.block k hk hne)⟩
theorem OnlyB.drew {g:Nat} {w w':World} (h:OnlyB g w w'):OnlyB g w w'.drew:=⟨h.os,h.tape,h.output,h.size,h.block⟩
theorem OnlyB.box {g k:Nat} {w w':World} {T:TypeId} {cs:List Value} (h:OnlyB g w w') (hb:Box w k T cs) (hne:k ≠ g):Box w' k T cs:=(h.block k hb.lt hne).trans hb
theorem Row.only {g:Nat} {w w':World} {A:Option Addr} {cs:List Value} (hr:Row w A cs) (h:OnlyB g w w') (hne:∀ b off,A=some ⟨b,off,none⟩→b < w.heap.size→b ≠ g):Row w' A cs:=by
 rcases hr with hr | ⟨b,off,rfl,hr⟩
 ·exact .inl hr
 ·refine .inr ⟨b,off,rfl,fun j v hj=>?_⟩
  have hlt:=block_lt (hr j v hj)
  rw [← hr j v hj]
  exact World.cell?_of_block (h.block b hlt (hne b off rfl hlt))
def NumR (g:Nat) (S1 S2 S3 S4:Value) (w:World):Option (Nums × Bool)→Ending→World→Prop
 | none,e,w'=>e=refused∧OnlyB g w w'
 | some (n,b),e,w'=>e=.returned (.bool b)∧Box w' g 131 (patC S1 S2 S3 S4 n)∧OnlyB g w w'
theorem Row.setOther {w:World} {G g j:Nat} {v:Value} {cs:List Value} (h:Row w (some ⟨G,0,none⟩) cs) (hne:G ≠ g):Row (w.setCell ⟨g,j,none⟩ v) (some ⟨G,0,none⟩) cs:=by
 rcases h with h | ⟨b,off,e,h⟩
 ·exact .inl h
 ·refine .inr ⟨b,off,e,fun k u hk=>?_⟩
  injection e with e;injection e with e1 e2
  subst e1;subst e2
  refine (World.cell?_setCell_other w ⟨g,j,none⟩ ⟨G,0+k,none⟩ v (fun e=>?_)).trans (h k u hk)
  injection e with e
  exact hne e.symm
theorem strs_cell {w:World} {b:Nat} {gs:List (List UInt8)} (h:Row w (some ⟨b,0,none⟩) (gs.map strV)) {j:Nat} {x:List UInt8} (hj:gs[j]? = some x):w.cell? ⟨b,j,none⟩=some (strV x) :=
 h.cell00 (by simp [hj])
theorem contains_empty (b c:Nat) (gs:List (List UInt8)) (w:World) (hr:Row w (some ⟨b,0,none⟩) (gs.map strV)) (hl:gs.length≤10000000000) :
  Calls Tryz.prog 131 #[.slice (some ⟨b,0,none⟩) gs.length c,.string ⟨#[]⟩] w fun e w'=>e=.returned (.bool (gs.contains []))∧w'=w:=by
 have h:=Tryz.slices_Contains_string b 0 gs.length c (gs.map fun x=>⟨x.toArray⟩) ⟨#[]⟩ w (by simp) (by omega) (fun j hj=>by
  rw [List.length_map] at hj
  rw [Nat.zero_add,strs_cell hr (List.getElem?_eq_getElem hj)]
  simp [strV,hj])
 refine h.mono fun e w' ⟨he,hw⟩=>⟨?_,hw⟩
 rw [he]
 refine ret_bool ?_
 rw [Bool.eq_iff_iff,Lib.containsS_iff,List.take_of_length_le (by simp)]
 simp
theorem intercalate_nil (gs:List (List UInt8)):Lib.join gs []=gs.flatten:=by
 unfold Lib.join
 induction gs with
 | nil=>rfl
 | cons g gs ih =>
  cases gs with
  | nil=>simp [List.intercalate]
  | cons h gs =>
   have:=ih
   simp [List.intercalate] at this ⊢
   exact this
theorem join_ (b c:Nat) (gs:List (List UInt8)) (w:World) (hr:Row w (some ⟨b,0,none⟩) (gs.map strV)) (hb:b < w.heap.size) (hl:gs.length≤10000000000) (hc:gs.length≤c) (hf:gs.flatten.length≤10000000000) :
  Calls Tryz.prog 205 #[.slice (some ⟨b,0,none⟩) gs.length c,.string ⟨#[]⟩] w fun e w'=>e=.returned (.string ⟨gs.flatten.toArray⟩)∧Ext w w':=by
 have e1:(gs.map fun x=>(⟨x.toArray⟩:ByteArray)).map (·.data.toList)=gs:=by rw [List.map_map];exact (List.map_congr_left fun x _=>rfl).trans (List.map_id _)
 have h:=Tryz.strings_Join b 0 c (gs.map fun x=>⟨x.toArray⟩) ⟨#[]⟩ w (fun j x hj=>by
  rw [List.getElem?_map] at hj
  obtain ⟨y,hy,rfl⟩:=Option.map_eq_some_iff.1 hj
  rw [Nat.zero_add,strs_cell hr hy];rfl) hb (by simp;omega) (by simpa using hc) (by rw [e1,intercalate_nil];omega)
 rw [e1,intercalate_nil,List.length_map] at h
 exact h
set_option maxRecDepth 100000
theorem number_ (g:Nat) (S1 S2 S3 S4:Value) (s:ByteArray) (w:World) (hb:Box w g 131 (patC S1 S2 S3 S4 zeroN)) (hs:s.size≤1000000000) :
  Calls Tryz.prog 180 #[.pointer (some ⟨g,0,none⟩),.string s] w fun e w'=>NumR g S1 S2 S3 S4 w (numP s.data.toList) e w':=by
 have HP:Hid (numP s.data.toList=if wholeOk (cutL 46 s.data.toList).1 then (if restOk (cutL 46 s.data.toList).2.1 (cutL 46 s.data.toList).2.2 then some (numN (cutL 46 s.data.toList).1 (cutL 46 s.data.toList).2.1,shortN (cutL 46 s.data.toList).1 (cutL 46 s.data.toList).2.1) else none) else none):=Lib.hid rfl
 obtain ⟨hl1,hl2⟩:=cutL_len 46 s.data.toList
 rw [data_len] at hl1 hl2
 go_enter Tryz.func180,Tryz.ntmps180
 go_wp2_with fail
 refine (cut_one _ _ _ (by unfold maxLen;omega)).mono ?_;rintro e w1 ⟨rfl,hx1⟩
 generalize (cutL 46 s.data.toList).1=wh at *
 generalize (cutL 46 s.data.toList).2.1=re at *
 generalize (cutL 46 s.data.toList).2.2=pt at *
 go_wp2_with fail
 refine (split_one _ _ _ (by rw [show (⟨wh.toArray⟩:ByteArray).size=wh.length from rfl];omega)).mono ?_;rintro e w2 ⟨rfl,rfl⟩
 have HW:Hid (wholeOk wh=(!((splitL 44 wh).contains []) && runsL 35 48 (splitL 44 wh).flatten)):=Lib.hid rfl
 have hcl:(splitL 44 wh).length≤wh.length+1:=by rw [splitL_len];have:=List.count_le_length (a:=(44:UInt8)) (l:=wh);omega
 have hfl:(splitL 44 wh).flatten.length≤wh.length:=by rw [splitL_flat];exact List.length_filter_le _ _
 have HN:Hid (numN wh re={ prim:=if 1 < (splitL 44 wh).length then ((splitL 44 wh).getD ((splitL 44 wh).length - 1) []).length else 0,sec:=if 2 < (splitL 44 wh).length then ((splitL 44 wh).getD ((splitL 44 wh).length - 2) []).length else if 1 < (splitL 44 wh).length then ((splitL 44 wh).getD ((splitL 44 wh).length - 1) []).length else 0,minInt:=wh.count 48,minFrac:=re.count 48,maxFrac:=re.length }):=Lib.hid rfl
 have HS:Hid (shortN wh re=(decide (wh.length - ((splitL 44 wh).length - 1)≤64) && decide (re.length≤64))):=Lib.hid rfl
 have hG1:1≤(splitL 44 wh).length:=by rw [splitL_len];omega
 rw [show ((⟨wh.toArray⟩:ByteArray).data.toList)=wh from rfl]
 generalize splitL 44 wh=gs at *
 have hrow:=row_new w1 (gs.map strV) 9
 have hx2:=hx1.alloc_ (.cells (gs.map strV).toArray 9)
 have hG:=heap_alloc_new w1 (.cells (gs.map strV).toArray 9)
 have hlt:w1.heap.size < (w1.alloc (.cells (gs.map strV).toArray 9)).heap.size:=by simp
 have hg1:g < w1.heap.size:=Nat.lt_of_lt_of_le hb.lt hx1.size
 have hb2:=hb.ext hx2
 have hg0:g≤w.heap.size:=Nat.le_of_lt hb.lt
 generalize w1.alloc (.cells (gs.map strV).toArray 9)=w2 at *
 generalize w1.heap.size=G at *
 clear hb hx1 hG
 go_wp2_with fail
 refine (contains_empty _ _ _ _ hrow (by omega)).mono ?_;rintro e w3 ⟨rfl,rfl⟩
 cases hc:gs.contains []
 ·have HC:=Lib.hid hc
  clear hc
  go_wp2_with fail
  refine (join_ _ _ _ _ hrow hlt (by omega) (Nat.le_refl _) (by omega)).mono ?_;rintro e w3 ⟨rfl,hx3⟩
  go_wp2_with fail
  refine (runs_ _ _ _ (by decide) (by decide) _).mono ?_;rintro e w4 ⟨rfl,rfl⟩
  rw [show ((⟨gs.flatten.toArray⟩:ByteArray).data.toList)=gs.flatten from rfl]
  cases hr:runsL 35 48 gs.flatten
  ·have H0:Hid (numP s.data.toList=none):=Lib.hid (by rw [HP.out,HW.out,HC.out,hr];rfl)
   clear hr HP HW HC
   go_wp2_with fail
   refine (must_no _).mono ?_;rintro e w4 ⟨rfl,rfl⟩
   go_wp2
   refine ⟨rfl,?_⟩
   rw [H0.out]
   exact ⟨rfl,OnlyB.of_ext (hx2.trans hx3)⟩
  ·have H1:Hid (wholeOk wh=true):=Lib.hid (by rw [HW.out,HC.out,hr];rfl)
   clear hr HW HC
   have hrow3:=hrow.below hx3 (Nat.le_refl _)
   have hb3:=hb2.ext hx3
   have hx4:=hx2.trans hx3
   clear hrow hb2 hx2 hx3 hlt
   go_wp2_with fail
   refine (must_ok _).mono ?_;rintro e w4 ⟨rfl,rfl⟩
   cases pt
   ·have HP1:Hid (numP s.data.toList=some (numN wh re,shortN wh re)):=Lib.hid (by rw [HP.out,H1.out];rfl)
    clear HP H1
    go_wp2_with fail
    refine (must_ok _).mono ?_;rintro e w4 ⟨rfl,rfl⟩
    --TAIL0
    by_cases n1:1 < gs.length
    ·have n1':1 < (gs.length:Int):=by omega
     have hc1:=strs_cell hrow3 (j:=gs.length - 1) (List.getElem?_eq_getElem (by omega))
     have hga:gs.getD (gs.length - 1) []=gs[gs.length - 1]:=by simp [List.getD,List.getElem?_eq_getElem (show gs.length - 1 < gs.length by omega)]
     have HGA:=Lib.hid hga
     generalize gs[gs.length - 1]'(by omega)=ga at *
     have HSA:Hid ((⟨ga.toArray⟩:ByteArray).size=ga.length):=Lib.hid rfl
     have hz1:((gs.length:Int) - 1).toNat=gs.length - 1:=by omega
     have hz2:0≤(gs.length:Int) - 1∧(gs.length:Int) - 1 < gs.length:=by omega
     have hp4:=hb3.cell (j:=4) (v:=.int .i64 0) rfl
     have hp5:=hb3.cell (j:=5) (v:=.int .i64 0) rfl
     have hf4:=hb3.frozen 4
     have hf5:=hb3.frozen 5
     unfold strV at hc1
     clear hga
     go_upto_region 7 with fail
     go_region
     have hb5:Box ((w3.setCell ⟨g,4,none⟩ (.int .i64 ga.length)).setCell ⟨g,5,none⟩ (.int .i64 ga.length)).drew g 131 (patC S1 S2 S3 S4 ⟨ga.length,ga.length,0,0,0⟩):=((hb3.setCell 4 (.int .i64 ga.length)).setCell 5 (.int .i64 ga.length)).drew
     have hrow5:Row ((w3.setCell ⟨g,4,none⟩ (.int .i64 ga.length)).setCell ⟨g,5,none⟩ (.int .i64 ga.length)).drew (some ⟨G,0,none⟩) (gs.map strV):=Row.setOther (Row.setOther hrow3 (by omega)) (by omega)
     have hx5:OnlyB g w ((w3.setCell ⟨g,4,none⟩ (.int .i64 ga.length)).setCell ⟨g,5,none⟩ (.int .i64 ga.length)).drew:=(((OnlyB.of_ext hx4).setCell 4 _).setCell 5 _).drew
     generalize ((w3.setCell ⟨g,4,none⟩ (.int .i64 ga.length)).setCell ⟨g,5,none⟩ (.int .i64 ga.length)).drew=w5 at *
     clear hb3 hrow3 hx4 hp4 hp5 hf4 hf5 hc1 hz1 hz2
     by_cases n2:2 < gs.length
     ·have n2':2 < (gs.length:Int):=by omega
      have hc1:=strs_cell hrow5 (j:=gs.length - 2) (List.getElem?_eq_getElem (by omega))
      have hgb:gs.getD (gs.length - 2) []=gs[gs.length - 2]:=by simp [List.getD,List.getElem?_eq_getElem (show gs.length - 2 < gs.length by omega)]
      have HGB:=Lib.hid hgb
      generalize gs[gs.length - 2]'(by omega)=gb at *
      have HSB:Hid ((⟨gb.toArray⟩:ByteArray).size=gb.length):=Lib.hid rfl
      have HNN:Hid (numN wh re=⟨ga.length,gb.length,wh.count 48,re.count 48,re.length⟩):=Lib.hid (by rw [HN.out];simp only [n1,n2,↓reduceIte,HGA.out,HGB.out])
      have hz1:((gs.length:Int) - 2).toNat=gs.length - 2:=by omega
      have hz2:0≤(gs.length:Int) - 2∧(gs.length:Int) - 2 < gs.length:=by omega
      have hp5:=hb5.cell (j:=5) (v:=.int .i64 ga.length) rfl
      have hf5:=hb5.frozen 5
      unfold strV at hc1
      clear hgb HN HGA HGB
      go_wp2_with fail
      have hb6:Box (w5.setCell ⟨g,5,none⟩ (.int .i64 gb.length)) g 131 (patC S1 S2 S3 S4 ⟨ga.length,gb.length,0,0,0⟩):=hb5.setCell 5 (.int .i64 gb.length)
      have hx6:OnlyB g w (w5.setCell ⟨g,5,none⟩ (.int .i64 gb.length)):=hx5.setCell 5 _
      generalize w5.setCell ⟨g,5,none⟩ (.int .i64 gb.length)=w6 at *
      clear hb5 hrow5 hx5 hp5 hf5 hc1 hz1 hz2
      refine (Tryz.strings_Count_one _ 48 _).mono ?_;rintro e w7 ⟨rfl,rfl⟩
      go_wp2_with fail
      refine (Tryz.strings_Count_one _ 48 _).mono ?_;rintro e w7 ⟨rfl,rfl⟩
      have hq6:=hb6.cell (j:=6) (v:=.int .i64 0) rfl
      have hq7:=hb6.cell (j:=7) (v:=.int .i64 0) rfl
      have hq8:=hb6.cell (j:=8) (v:=.int .i64 0) rfl
      have hr6:=hb6.frozen 6
      have hr7:=hb6.frozen 7
      have hr8:=hb6.frozen 8
      have HSW:Hid ((⟨wh.toArray⟩:ByteArray).size=wh.length):=Lib.hid rfl
      have HSR:Hid ((⟨re.toArray⟩:ByteArray).size=re.length):=Lib.hid rfl
      go_wp2_with fail
      all_goals
       go_ret
       rw [HP1.out,HNN.out]
       refine ⟨ret_bool ?_,((hb6.setCell 6 _).setCell 7 _).setCell 8 _,((hx6.setCell 6 _).setCell 7 _).setCell 8 _⟩
       rw [HS.out,Bool.eq_iff_iff]
       simp
       omega
     ·have n2':¬ 2 < (gs.length:Int):=by omega
      have HNN:Hid (numN wh re=⟨ga.length,ga.length,wh.count 48,re.count 48,re.length⟩):=Lib.hid (by rw [HN.out];simp only [n1,n2,↓reduceIte,HGA.out])
      clear HN HGA hrow5
      have hb6:=hb5
      have hx6:=hx5
      clear hb5 hx5
      go_wp2_with fail
      refine (Tryz.strings_Count_one _ 48 _).mono ?_;rintro e w7 ⟨rfl,rfl⟩
      go_wp2_with fail
      refine (Tryz.strings_Count_one _ 48 _).mono ?_;rintro e w7 ⟨rfl,rfl⟩
      have hq6:=hb6.cell (j:=6) (v:=.int .i64 0) rfl
      have hq7:=hb6.cell (j:=7) (v:=.int .i64 0) rfl
      have hq8:=hb6.cell (j:=8) (v:=.int .i64 0) rfl
      have hr6:=hb6.frozen 6
      have hr7:=hb6.frozen 7
      have hr8:=hb6.frozen 8
      have HSW:Hid ((⟨wh.toArray⟩:ByteArray).size=wh.length):=Lib.hid rfl
      have HSR:Hid ((⟨re.toArray⟩:ByteArray).size=re.length):=Lib.hid rfl
      go_wp2_with fail
      all_goals
       go_ret
       rw [HP1.out,HNN.out]
       refine ⟨ret_bool ?_,((hb6.setCell 6 _).setCell 7 _).setCell 8 _,((hx6.setCell 6 _).setCell 7 _).setCell 8 _⟩
       rw [HS.out,Bool.eq_iff_iff]
       simp
       omega
    ·have n1':¬ 1 < (gs.length:Int):=by omega
     have n2':¬ 2 < (gs.length:Int):=by omega
     have HNN:Hid (numN wh re=⟨0,0,wh.count 48,re.count 48,re.length⟩):=Lib.hid (by rw [HN.out];simp only [n1,show ¬ 2 < gs.length by omega,↓reduceIte])
     clear HN hrow3
     have hb6:Box w3 g 131 (patC S1 S2 S3 S4 ⟨0,0,0,0,0⟩):=hb3
     have hx6:=OnlyB.of_ext (g:=g) hx4
     clear hb3 hx4
     go_wp2_with fail
     refine (Tryz.strings_Count_one _ 48 _).mono ?_;rintro e w7 ⟨rfl,rfl⟩
     go_wp2_with fail
     refine (Tryz.strings_Count_one _ 48 _).mono ?_;rintro e w7 ⟨rfl,rfl⟩
     have hq6:=hb6.cell (j:=6) (v:=.int .i64 0) rfl
     have hq7:=hb6.cell (j:=7) (v:=.int .i64 0) rfl
     have hq8:=hb6.cell (j:=8) (v:=.int .i64 0) rfl
     have hr6:=hb6.frozen 6
     have hr7:=hb6.frozen 7
     have hr8:=hb6.frozen 8
     have HSW:Hid ((⟨wh.toArray⟩:ByteArray).size=wh.length):=Lib.hid rfl
     have HSR:Hid ((⟨re.toArray⟩:ByteArray).size=re.length):=Lib.hid rfl
     go_wp2_with fail
     all_goals
      go_ret
      rw [HP1.out,HNN.out]
      refine ⟨ret_bool ?_,((hb6.setCell 6 _).setCell 7 _).setCell 8 _,((hx6.setCell 6 _).setCell 7 _).setCell 8 _⟩
      rw [HS.out,Bool.eq_iff_iff]
      simp
      omega
    --END0
   ·have HE:Hid (restOk re true=(decide (re ≠ []) && runsL 48 35 re)):=Lib.hid rfl
    have HEE:Hid (decide (re ≠ [])=!re.isEmpty):=Lib.hid (by cases re <;> rfl)
    cases he:re.isEmpty
    ·go_wp2_with fail
     refine (runs_ _ 48 35 (by decide) (by decide) _).mono ?_;rintro e w4 ⟨rfl,rfl⟩
     rw [show ((⟨re.toArray⟩:ByteArray).data.toList)=re from rfl]
     cases hr2:runsL 48 35 re
     ·have H0:Hid (numP s.data.toList=none):=Lib.hid (by rw [HP.out,H1.out,HE.out,HEE.out,he,hr2];rfl)
      clear hr2 HP
      go_wp2_with fail
      refine (must_no _).mono ?_;rintro e w4 ⟨rfl,rfl⟩
      go_wp2
      refine ⟨rfl,?_⟩
      rw [H0.out]
      exact ⟨rfl,OnlyB.of_ext hx4⟩
     ·have HP1:Hid (numP s.data.toList=some (numN wh re,shortN wh re)):=Lib.hid (by rw [HP.out,H1.out,HE.out,HEE.out,he,hr2];rfl)
      clear hr2 HP H1 HE HEE he
      go_wp2_with fail
      refine (must_ok _).mono ?_;rintro e w4 ⟨rfl,rfl⟩
      --TAIL1
      by_cases n1:1 < gs.length
      ·have n1':1 < (gs.length:Int):=by omega
       have hc1:=strs_cell hrow3 (j:=gs.length - 1) (List.getElem?_eq_getElem (by omega))
       have hga:gs.getD (gs.length - 1) []=gs[gs.length - 1]:=by simp [List.getD,List.getElem?_eq_getElem (show gs.length - 1 < gs.length by omega)]
       have HGA:=Lib.hid hga
       generalize gs[gs.length - 1]'(by omega)=ga at *
       have HSA:Hid ((⟨ga.toArray⟩:ByteArray).size=ga.length):=Lib.hid rfl
       have hz1:((gs.length:Int) - 1).toNat=gs.length - 1:=by omega
       have hz2:0≤(gs.length:Int) - 1∧(gs.length:Int) - 1 < gs.length:=by omega
       have hp4:=hb3.cell (j:=4) (v:=.int .i64 0) rfl
       have hp5:=hb3.cell (j:=5) (v:=.int .i64 0) rfl
       have hf4:=hb3.frozen 4
       have hf5:=hb3.frozen 5
       unfold strV at hc1
       clear hga
       go_upto_region 7 with fail
       go_region
       have hb5:Box ((w3.setCell ⟨g,4,none⟩ (.int .i64 ga.length)).setCell ⟨g,5,none⟩ (.int .i64 ga.length)).drew g 131 (patC S1 S2 S3 S4 ⟨ga.length,ga.length,0,0,0⟩):=((hb3.setCell 4 (.int .i64 ga.length)).setCell 5 (.int .i64 ga.length)).drew
       have hrow5:Row ((w3.setCell ⟨g,4,none⟩ (.int .i64 ga.length)).setCell ⟨g,5,none⟩ (.int .i64 ga.length)).drew (some ⟨G,0,none⟩) (gs.map strV):=Row.setOther (Row.setOther hrow3 (by omega)) (by omega)
       have hx5:OnlyB g w ((w3.setCell ⟨g,4,none⟩ (.int .i64 ga.length)).setCell ⟨g,5,none⟩ (.int .i64 ga.length)).drew:=(((OnlyB.of_ext hx4).setCell 4 _).setCell 5 _).drew
       generalize ((w3.setCell ⟨g,4,none⟩ (.int .i64 ga.length)).setCell ⟨g,5,none⟩ (.int .i64 ga.length)).drew=w5 at *
       clear hb3 hrow3 hx4 hp4 hp5 hf4 hf5 hc1 hz1 hz2
       by_cases n2:2 < gs.length
       ·have n2':2 < (gs.length:Int):=by omega
        have hc1:=strs_cell hrow5 (j:=gs.length - 2) (List.getElem?_eq_getElem (by omega))
        have hgb:gs.getD (gs.length - 2) []=gs[gs.length - 2]:=by simp [List.getD,List.getElem?_eq_getElem (show gs.length - 2 < gs.length by omega)]
        have HGB:=Lib.hid hgb
        generalize gs[gs.length - 2]'(by omega)=gb at *
        have HSB:Hid ((⟨gb.toArray⟩:ByteArray).size=gb.length):=Lib.hid rfl
        have HNN:Hid (numN wh re=⟨ga.length,gb.length,wh.count 48,re.count 48,re.length⟩):=Lib.hid (by rw [HN.out];simp only [n1,n2,↓reduceIte,HGA.out,HGB.out])
        have hz1:((gs.length:Int) - 2).toNat=gs.length - 2:=by omega
        have hz2:0≤(gs.length:Int) - 2∧(gs.length:Int) - 2 < gs.length:=by omega
        have hp5:=hb5.cell (j:=5) (v:=.int .i64 ga.length) rfl
        have hf5:=hb5.frozen 5
        unfold strV at hc1
        clear hgb HN HGA HGB
        go_wp2_with fail
        have hb6:Box (w5.setCell ⟨g,5,none⟩ (.int .i64 gb.length)) g 131 (patC S1 S2 S3 S4 ⟨ga.length,gb.length,0,0,0⟩):=hb5.setCell 5 (.int .i64 gb.length)
        have hx6:OnlyB g w (w5.setCell ⟨g,5,none⟩ (.int .i64 gb.length)):=hx5.setCell 5 _
        generalize w5.setCell ⟨g,5,none⟩ (.int .i64 gb.length)=w6 at *
        clear hb5 hrow5 hx5 hp5 hf5 hc1 hz1 hz2
        refine (Tryz.strings_Count_one _ 48 _).mono ?_;rintro e w7 ⟨rfl,rfl⟩
        go_wp2_with fail
        refine (Tryz.strings_Count_one _ 48 _).mono ?_;rintro e w7 ⟨rfl,rfl⟩
        have hq6:=hb6.cell (j:=6) (v:=.int .i64 0) rfl
        have hq7:=hb6.cell (j:=7) (v:=.int .i64 0) rfl
        have hq8:=hb6.cell (j:=8) (v:=.int .i64 0) rfl
        have hr6:=hb6.frozen 6
        have hr7:=hb6.frozen 7
        have hr8:=hb6.frozen 8
        have HSW:Hid ((⟨wh.toArray⟩:ByteArray).size=wh.length):=Lib.hid rfl
        have HSR:Hid ((⟨re.toArray⟩:ByteArray).size=re.length):=Lib.hid rfl
        go_wp2_with fail
        all_goals
         go_ret
         rw [HP1.out,HNN.out]
         refine ⟨ret_bool ?_,((hb6.setCell 6 _).setCell 7 _).setCell 8 _,((hx6.setCell 6 _).setCell 7 _).setCell 8 _⟩
         rw [HS.out,Bool.eq_iff_iff]
         simp
         omega
       ·have n2':¬ 2 < (gs.length:Int):=by omega
        have HNN:Hid (numN wh re=⟨ga.length,ga.length,wh.count 48,re.count 48,re.length⟩):=Lib.hid (by rw [HN.out];simp only [n1,n2,↓reduceIte,HGA.out])
        clear HN HGA hrow5
        have hb6:=hb5
        have hx6:=hx5
        clear hb5 hx5
        go_wp2_with fail
        refine (Tryz.strings_Count_one _ 48 _).mono ?_;rintro e w7 ⟨rfl,rfl⟩
        go_wp2_with fail
        refine (Tryz.strings_Count_one _ 48 _).mono ?_;rintro e w7 ⟨rfl,rfl⟩
        have hq6:=hb6.cell (j:=6) (v:=.int .i64 0) rfl
        have hq7:=hb6.cell (j:=7) (v:=.int .i64 0) rfl
        have hq8:=hb6.cell (j:=8) (v:=.int .i64 0) rfl
        have hr6:=hb6.frozen 6
        have hr7:=hb6.frozen 7
        have hr8:=hb6.frozen 8
        have HSW:Hid ((⟨wh.toArray⟩:ByteArray).size=wh.length):=Lib.hid rfl
        have HSR:Hid ((⟨re.toArray⟩:ByteArray).size=re.length):=Lib.hid rfl
        go_wp2_with fail
        all_goals
         go_ret
         rw [HP1.out,HNN.out]
         refine ⟨ret_bool ?_,((hb6.setCell 6 _).setCell 7 _).setCell 8 _,((hx6.setCell 6 _).setCell 7 _).setCell 8 _⟩
         rw [HS.out,Bool.eq_iff_iff]
         simp
         omega
      ·have n1':¬ 1 < (gs.length:Int):=by omega
       have n2':¬ 2 < (gs.length:Int):=by omega
       have HNN:Hid (numN wh re=⟨0,0,wh.count 48,re.count 48,re.length⟩):=Lib.hid (by rw [HN.out];simp only [n1,show ¬ 2 < gs.length by omega,↓reduceIte])
       clear HN hrow3
       have hb6:Box w3 g 131 (patC S1 S2 S3 S4 ⟨0,0,0,0,0⟩):=hb3
       have hx6:=OnlyB.of_ext (g:=g) hx4
       clear hb3 hx4
       go_wp2_with fail
       refine (Tryz.strings_Count_one _ 48 _).mono ?_;rintro e w7 ⟨rfl,rfl⟩
       go_wp2_with fail
       refine (Tryz.strings_Count_one _ 48 _).mono ?_;rintro e w7 ⟨rfl,rfl⟩
       have hq6:=hb6.cell (j:=6) (v:=.int .i64 0) rfl
       have hq7:=hb6.cell (j:=7) (v:=.int .i64 0) rfl
       have hq8:=hb6.cell (j:=8) (v:=.int .i64 0) rfl
       have hr6:=hb6.frozen 6
       have hr7:=hb6.frozen 7
       have hr8:=hb6.frozen 8
       have HSW:Hid ((⟨wh.toArray⟩:ByteArray).size=wh.length):=Lib.hid rfl
       have HSR:Hid ((⟨re.toArray⟩:ByteArray).size=re.length):=Lib.hid rfl
       go_wp2_with fail
       all_goals
        go_ret
        rw [HP1.out,HNN.out]
        refine ⟨ret_bool ?_,((hb6.setCell 6 _).setCell 7 _).setCell 8 _,((hx6.setCell 6 _).setCell 7 _).setCell 8 _⟩
        rw [HS.out,Bool.eq_iff_iff]
        simp
        omega
      --END1
    ·have H0:Hid (numP s.data.toList=none):=Lib.hid (by rw [HP.out,H1.out,HE.out,HEE.out,he];rfl)
     clear HP
     go_wp2_with fail
     refine (must_no _).mono ?_;rintro e w4 ⟨rfl,rfl⟩
     go_wp2
     refine ⟨rfl,?_⟩
     rw [H0.out]
     exact ⟨rfl,OnlyB.of_ext hx4⟩
 ·have H0:Hid (numP s.data.toList=none):=Lib.hid (by rw [HP.out,HW.out,hc];rfl)
  clear hc HP HW
  go_wp2_with fail
  refine (must_no _).mono ?_;rintro e w4 ⟨rfl,rfl⟩
  go_wp2
  refine ⟨rfl,?_⟩
  rw [H0.out]
  exact ⟨rfl,OnlyB.of_ext hx2⟩
set_option maxRecDepth 512
def joinStep (acc:List Pc) (p:Pc):List Pc :=
 if p.1=0 then (match acc.getLast? with | some q=>if q.1=0 then acc.dropLast++[(0,q.2++p.2)] else acc++[p] | none=>acc++[p]) else acc++[(p.1,[])]
def joinF (l:List Pc):List Pc:=l.foldl joinStep []
theorem joinF_take (l:List Pc) (k:Nat) (hk:k < l.length):joinF (l.take (k+1))=joinStep (joinF (l.take k)) l[k]:=by
 unfold joinF;rw [List.take_succ_eq_append_getElem hk,List.foldl_append];rfl
theorem joinStep_place {acc:List Pc} {p:Pc} (h:p.1 ≠ 0):joinStep acc p=acc++[(p.1,[])]:=by unfold joinStep;rw [if_neg h]
theorem joinStep_nil {p:Pc} (h:p.1=0):joinStep [] p=[p]:=by unfold joinStep;rw [if_pos h];rfl
theorem joinStep_new {acc:List Pc} {p q:Pc} (h:p.1=0) (hq:acc.getLast? = some q) (h2:q.1 ≠ 0):joinStep acc p=acc++[p]:=by unfold joinStep;rw [if_pos h,hq];simp [h2]
theorem joinStep_more {acc:List Pc} {p q:Pc} (h:p.1=0) (hq:acc.getLast? = some q) (h2:q.1=0):joinStep acc p=acc.dropLast++[(0,q.2++p.2)]:=by unfold joinStep;rw [if_pos h,hq];simp [h2]
theorem joinStep_len (acc:List Pc) (p:Pc):(joinStep acc p).length≤acc.length+1:=by
 unfold joinStep
 split
 ·split
  ·split <;> simp
  ·simp
 ·simp
theorem joinF_len (l:List Pc):(joinF l).length≤l.length:=by
 have:∀ (l acc:List Pc),(l.foldl joinStep acc).length≤acc.length+l.length:=by
  intro l
  induction l with
  | nil=>intro acc;exact Nat.le_refl _
  | cons p l ih=>intro acc;have h1:=ih (joinStep acc p);have h2:=joinStep_len acc p;simp only [List.foldl_cons,List.length_cons];omega
 have h:=this l []
 simpa [joinF] using h
def tot (l:List Pc):Nat:=(l.map (·.2.length)).sum
theorem tot_app (l m:List Pc):tot (l++m)=tot l+tot m:=by simp [tot]
theorem tot_one (p:Pc):tot [p]=p.2.length:=by simp [tot]
theorem tot_mem {l:List Pc} {p:Pc} (h:p ∈ l):p.2.length≤tot l:=by
 induction l with
 | nil=>simp at h
 | cons q l ih =>
  have e:tot (q :: l)=q.2.length+tot l:=by simp [tot]
  rcases List.mem_cons.1 h with rfl | h
  ·omega
  ·have:=ih h;omega
theorem tot_take (l:List Pc) (k:Nat):tot (l.take k)≤tot l:=by
 conv=>rhs;rw [← List.take_append_drop k l,tot_app]
 omega
theorem tot_drop (l:List Pc) (k:Nat):tot (l.drop k)≤tot l:=by
 conv=>rhs;rw [← List.take_append_drop k l,tot_app]
 omega
theorem tot_step (acc:List Pc) (p:Pc):tot (joinStep acc p)≤tot acc+p.2.length:=by
 unfold joinStep
 split
 ·split
  ·rename_i q hq
   split
   ·have e:acc=acc.dropLast++[q]:=by
     obtain ⟨ys,h⟩:=List.getLast?_eq_some_iff.1 hq
     rw [h];simp
    have e2:tot acc=tot acc.dropLast+q.2.length:=by conv=>lhs;rw [e,tot_app,tot_one]
    rw [tot_app,tot_one,e2,List.length_append];omega
   ·rw [tot_app,tot_one];omega
  ·rw [tot_app,tot_one];omega
 ·rw [tot_app,tot_one];simp
theorem tot_joinF (l:List Pc):tot (joinF l)≤tot l:=by
 have:∀ (l acc:List Pc),tot (l.foldl joinStep acc)≤tot acc+tot l:=by
  intro l
  induction l with
  | nil=>intro acc;exact Nat.le_add_right _ _
  | cons p l ih =>
   intro acc
   have h1:=ih (joinStep acc p);have h2:=tot_step acc p
   have e:tot (p :: l)=p.2.length+tot l:=by simp [tot]
   simp only [List.foldl_cons];omega
 have h:=this l []
 simpa [joinF,tot] using h
theorem pcsV_set (l:List Pc) (q:Pc) (k:Int) (t:List UInt8):(pcsV (l++[q])).set (l.length * 2+1) (.string ⟨t.toArray⟩)=pcsV (l++[(q.1,t)]):=by
 rw [pcsV_app,pcsV_app,List.set_append_right _ _ (by rw [pcsV_len];omega),pcsV_len]
 have e:l.length * 2+1 - 2 * l.length=1:=by omega
 rw [e];rfl
theorem Acc.set {e sz:Nat} {w0 w:World} {g c n:Nat} {cs:List Value} (h:Acc e sz w0 w (some ⟨g,0,none⟩) c n cs) (j:Nat) (u:Value):Acc e sz w0 (w.setCell ⟨g,j,none⟩ u) (some ⟨g,0,none⟩) c n (cs.set j u):=by
 obtain ⟨h1,h2⟩:=h.own.stored j u
 exact ⟨h1,h.ext.grown h2 h.ext.size (fun k hk=>by injection hk with hk;have:=(h.own.lt g rfl).1;omega)⟩
theorem Acc.head {e sz:Nat} {w0 w:World} {b off c n:Nat} {cs:List Value} (h:Acc e sz w0 w (some ⟨b,off,none⟩) c n cs):off=0:=by
 rcases h.own.2 with ⟨hv,_⟩ | ⟨g,cap,cur,hv,_⟩
 ·simp at hv
 ·simp at hv;exact hv.1.2
def Okc (B:Option Addr) (d:Nat):Prop:=d≤maxLen∧(B=none→d=0)
theorem Acc.okc {e sz:Nat} {w0 w:World} {A:Option Addr} {c n:Nat} {cs:List Value} (h:Acc e sz w0 w A c n cs):Okc A c:=by
 refine ⟨h.cap.2,fun ha=>?_⟩
 rcases h.own.2 with ⟨hv,_⟩ | ⟨g,cap,cur,hv,_⟩
 ·injection hv
 ·rw [ha] at hv;injection hv with h1;cases h1
def Fresh (w:World) (B:Option Addr):Prop:=∀ a,B=some a→w.heap.size≤a.block
theorem Acc.fresh {e sz:Nat} {w0 w:World} {A:Option Addr} {c n:Nat} {cs:List Value} (h:Acc e sz w0 w A c n cs):Fresh w0 A:=fun a ha=>by
 subst ha;exact (h.own.lt a.block rfl).1
set_option maxRecDepth 100000
theorem joined_ (A:Option Addr) (c:Nat) (l:List Pc) (w:World) (hr:Row w A (pcsV l)) (hl:l.length≤1000000000) (ht:tot l≤100000000000) :
  Calls Tryz.prog 179 #[.slice A l.length c] w fun e w'=>∃ B d,e=.returned (.slice B (joinF l).length d)∧Row w' B (pcsV (joinF l))∧(joinF l).length≤d∧Okc B d∧Fresh w B∧Ext w w':=by
 go_enter Tryz.func179,Tryz.ntmps179
 go_wp2
 go_loopw [3,9] (fun out i wr=>∃ (k:Nat) (acc:List Pc) (B:Option Addr) (d:Nat),k≤l.length∧i=.int .i64 k∧out=.slice B acc.length d∧Acc 181 2 w wr B d acc.length (pcsV acc)∧acc.length≤k∧Hid (joinF (l.take k)=acc)) (fun _ i _=>l.length - (intOf i).toNat)
 case atStart=>exact ⟨0,[],none,0,Nat.zero_le _,rfl,rfl,Acc.start _ _ _,Nat.le_refl _,Lib.hid rfl⟩
 case round =>
  obtain ⟨k,acc,B,d,hk,rfl,rfl,hacc,hak,HK⟩:=hrel
  by_cases hlt:k < l.length
  ·obtain ⟨b,off,rfl,hc1,hc2⟩:=row_pc (hacc.keep hr) hlt
   have HJ:Hid (joinF (l.take (k+1))=joinStep acc l[k]):=Lib.hid (by rw [joinF_take l k hlt,HK.out])
   have HR:=Lib.hid (pc_range hc1 hc2)
   have hbig:=hacc.cap
   have htx:l[k].2.length≤tot l:=tot_mem (List.getElem_mem hlt)
   have htq:∀ q ∈ acc,q.2.length≤tot l:=fun q hq=>Nat.le_trans (tot_mem (by rw [HK.out];exact hq)) (Nat.le_trans (tot_joinF _) (tot_take l k))
   have HTQ:=Lib.hid htq
   clear HK htq
   generalize l[k]=x at *
   obtain ⟨xk,xt⟩:=x
   dsimp only at hc1 hc2 HR htx
   by_cases hk0:xk=0
   ·subst hk0
    by_cases hn:acc.length=0
    ·have hnil:=List.eq_nil_of_length_eq_zero hn
     subst hnil
     have HJ2:Hid (joinF (l.take (k+1))=[(0,xt)]):=Lib.hid (by rw [HJ.out,joinStep_nil rfl])
     have hacc2:=hacc.alloc (.cells #[.int .i64 0,.string ⟨xt.toArray⟩] 181)
     clear HJ hacc
     go_wp2_with (first
      | (refine wpList_load_mid rfl 181 (.tmp 11) rfl b (off+k * 2) rfl [.int .i64 0,.string ⟨xt.toArray⟩] _ HR.out Tryz.underlying181 rfl infoPc ?_)
      | (at_builtin;refine wp_app ei_pc rfl (.tmp 16) (.tmp 18) rfl w _ B d 0 _ rfl hacc2 [.int .i64 0,.string ⟨xt.toArray⟩] 1 1 (slice_new _ _ _ _) rfl (by simp [Value.oneCell']) (by omega) (by unfold maxLen;omega) ?_;intro A1 c1 w3 hacc3 _ _;clear hacc2))
     go_roundw
     case rel=>exact ⟨k+1,[(0,xt)],A1,c1,by omega,by go_num,by simp,by simpa [pcsV_one,pcsV_nil] using hacc3,by simp,HJ2⟩
     case measure=>simp [intOf];omega
    ·obtain ⟨init,q,hiq⟩:∃ init q,acc=init++[q]:=by
      rcases List.eq_nil_or_concat acc with h | ⟨i,q,h⟩
      ·subst h;exact absurd rfl hn
      ·exact ⟨i,q,by simpa using h⟩
     have hgl:acc.getLast? = some q:=by rw [hiq];simp
     have hdl:acc.dropLast=init:=by rw [hiq];simp
     have hil:init.length=acc.length - 1:=by rw [hiq];simp
     obtain ⟨g,off',rfl,hq1,hq2⟩:=row_pc hacc.row (k:=acc.length - 1) (by omega)
     have hoff:=Acc.head hacc
     subst hoff
     have hgq:acc[acc.length - 1]'(by omega)=q:=by
      have:=List.getLast?_eq_getElem? (l:=acc)
      rw [hgl,List.getElem?_eq_getElem (by omega)] at this
      exact (Option.some.inj this).symm
     rw [hgq,Nat.zero_add] at hq1 hq2
     have hz0:0≤(acc.length:Int) - 1:=by omega
     have hz1:((acc.length:Int) - 1).toNat=acc.length - 1:=by omega
     have hz2:0≤(acc.length:Int) - 1∧(acc.length:Int) - 1 < acc.length:=by omega
     have hx0:=Ext.alloc_ (Ext.refl wr) (.cells #[.int .i64 0,.string ⟨xt.toArray⟩] 181)
     have hp1:=Ext.cell_ hx0 hq1
     have hp2:=Ext.cell_ hx0 hq2
     have hacc2:=hacc.alloc (.cells #[.int .i64 0,.string ⟨xt.toArray⟩] 181)
     have hfz:=hacc2.own.frozenAt ((acc.length - 1) * 2+1)
     have HSET:Hid ((pcsV acc).set ((acc.length - 1) * 2+1) (.string ⟨(q.2++xt).toArray⟩)=pcsV (init++[(q.1,q.2++xt)])):=Lib.hid (by rw [← hil,hiq];exact pcsV_set init q 0 _)
     have HIL:∀ p:Pc,Hid ((init++[p]).length=acc.length):=fun p=>Lib.hid (by rw [hiq];simp)
     have hqt:=HTQ.out q (by rw [hiq];simp)
     obtain ⟨qk,qt⟩:=q
     dsimp only at hp1 hp2 hq1 hq2 HSET hgl hqt
     have hsum:¬ 9223372036854775807 < qt.length+xt.length:=by omega
     by_cases hqk:qk=0
     ·subst hqk
      have HJ2:Hid (joinF (l.take (k+1))=init++[(0,qt++xt)]):=Lib.hid (by rw [HJ.out,joinStep_more rfl hgl rfl,hdl])
      clear HJ hacc hiq hgl hdl hil hgq hq1 hq2
      go_wp2_with (refine wpList_load_mid rfl 181 (.tmp 11) rfl b (off+k * 2) rfl [.int .i64 0,.string ⟨xt.toArray⟩] _ HR.out Tryz.underlying181 rfl infoPc ?_)
      go_region
      all_goals
       go_wp2
       go_roundw
       case rel=>exact ⟨k+1,init++[(0,qt++xt)],_,d,by omega,by go_num,by rw [(HIL _).out],by
        have h:=(Acc.set hacc2 ((acc.length - 1) * 2+1) (.string ⟨(qt++xt).toArray⟩)).drew
        rw [HSET.out] at h
        rw [(HIL _).out]
        simpa [app_mk] using h,by rw [(HIL _).out];omega,HJ2⟩
       case measure=>simp [intOf];omega
     ·have hqb:(qk == 0)=false:=by simpa using hqk
      have HJ2:Hid (joinF (l.take (k+1))=acc++[(0,xt)]):=Lib.hid (by rw [HJ.out,joinStep_new rfl hgl hqk])
      clear HJ hacc hiq hgl hdl hil hgq hq1 hq2 hp2
      go_wp2_with (first
       | (refine wpList_load_mid rfl 181 (.tmp 11) rfl b (off+k * 2) rfl [.int .i64 0,.string ⟨xt.toArray⟩] _ HR.out Tryz.underlying181 rfl infoPc ?_)
       | (at_builtin;refine wp_app ei_pc rfl (.tmp 16) (.tmp 18) rfl w _ _ d acc.length _ rfl hacc2 [.int .i64 0,.string ⟨xt.toArray⟩] 1 1 (slice_new _ _ _ _) rfl (by simp [Value.oneCell']) (by omega) (by unfold maxLen;omega) ?_;intro A1 c1 w3 hacc3 _ _;clear hacc2))
      go_roundw
      case rel=>exact ⟨k+1,acc++[(0,xt)],A1,c1,by omega,by go_num,by simp,by rw [pcsV_app,pcsV_one];simpa using hacc3,by simp;omega,HJ2⟩
      case measure=>simp [intOf];omega
   ·have hkb:(xk == 0)=false:=by simpa using hk0
    have HJ2:Hid (joinF (l.take (k+1))=acc++[(xk,[])]):=Lib.hid (by rw [HJ.out,joinStep_place hk0])
    have hacc2:=hacc.alloc (.cells #[.int .i64 xk,.string ⟨xt.toArray⟩] 181)
    clear HJ hacc
    go_wp2_with (first
     | (refine wpList_load_mid rfl 181 (.tmp 11) rfl b (off+k * 2) rfl [.int .i64 xk,.string ⟨xt.toArray⟩] _ HR.out Tryz.underlying181 rfl infoPc ?_)
     | (at_builtin;refine wp_app ei_pc rfl (.tmp 24) (.tmp 28) rfl w _ B d acc.length _ rfl hacc2 [.int .i64 xk,.string ⟨#[]⟩] 1 1 (slice_new _ _ _ _) rfl (by simp [Value.oneCell']) (by omega) (by unfold maxLen;omega) ?_;intro A1 c1 w3 hacc3 _ _;clear hacc2))
    go_roundw
    case rel=>exact ⟨k+1,acc++[(xk,[])],A1,c1,by omega,by go_num,by simp,by rw [pcsV_app,pcsV_one];simpa using hacc3,by simp;omega,HJ2⟩
    case measure=>simp [intOf];omega
  ·have e:k=l.length:=by omega
   subst e
   have HK2:Hid (joinF l=acc):=Lib.hid (by rw [← HK.out,List.take_length])
   clear HK
   go_wp2
   go_ret
   exact ⟨B,d,by rw [HK2.out];rfl,by rw [HK2.out];exact hacc.row,by rw [HK2.out];exact hacc.cap.1,Acc.okc hacc,Acc.fresh hacc,hacc.ext⟩
set_option maxRecDepth 512
theorem joined_n (A:Option Addr) (c n:Nat) (l:List Pc) (w:World) (hn:l.length=n) (hr:Row w A (pcsV l)) (hl:l.length≤1000000000) (ht:tot l≤100000000000) :
  Calls Tryz.prog 179 #[.slice A n c] w fun e w'=>∃ B d,e=.returned (.slice B (joinF l).length d)∧Row w' B (pcsV (joinF l))∧(joinF l).length≤d∧Okc B d∧Fresh w B∧Ext w w':=by
 subst hn;exact joined_ A c l w hr hl ht
end Go.Proofs.YtcghgkagpkmpeaaGreatDoor.Pat
namespace Go.Proofs.YtcghgkagpkmpeaaGreatDoor.Pat
open Go.RowKit
set_option maxRecDepth 10000
theorem oper_src {T e sz byt:Nat} (E:EI T e sz byt) {o:Oper} {a:Act} {K':Act→World→Prop} {Q:Exit→Act→World→Prop} (s x:Operand)
  (ho:o.op=.call { callee:=.builtin .append,args:=#[s,x],argTypes:=#[T,T] })
  (w0 wr:World) (A:Option Addr) (c n:Nat) (cs:List Value) (hs:a.eval s=.slice A n c) (hacc:Acc e sz w0 wr A c n cs)
  (A2:Option Addr) (m m':Nat) (news:List Value) (hx:a.eval x=.slice A2 m m') (hrow:Row wr A2 news) (hok:Okc A2 m') (hm:news.length=m * sz) (h1:∀ u ∈ news,u.oneCell'=true)
  (hb:(n+m) * byt≤140737488355328) (hl:n+m≤maxLen)
  (K:∀ A' c' w',Acc e sz w0 w' A' c' (n+m) (cs++news)→wr.grownBy w' (Value.ownBlock (.slice A n c))→K' (a.put o.dst (.slice A' (n+m) c')) w'):o.wp Tryz.prog a wr K' Q:=by
 obtain ⟨i,z,hi,hz,hsize,hby,hzs⟩:=E.hi
 have hsz:=hacc.ext.size
 have hpos:=E.pos
 cases A2 with
 | none =>
  have hn:news=[]:=by
   rcases hrow with h | ⟨b,off,h,_⟩
   ·exact h
   ·cases h
  subst hn
  have hm0:m=0:=by
   rcases Nat.eq_zero_or_pos m with h | h
   ·exact h
   ·have:=Nat.mul_pos h hpos;simp at hm;omega
  subst hm0
  have hm':=hok.2 rfl
  subst hm'
  have hrun:=run_append_owned_none (P:=Tryz.prog) (w:=wr) w0.heap.size T o.type e i sz E.ht hi _ n cs hacc.own
  unfold Oper.wp execOp
  simp only [ho,resolve,invoke,builtin,Sem.run_bind,Sem.run_pure,Result.andThen_ok,List.map_toArray,List.map_cons,List.map_nil,hs,hx,hrun]
  have:=K A c wr (by simpa using hacc) ⟨rfl,rfl,rfl,Nat.le_refl _,fun _ _ _=>rfl⟩
  simp only [Nat.add_zero] at this
  exact this
 | some a2 =>
  have hnews:∀ j u,news[j]? = some u→wr.cell? (a2.add j)=some u:=by
   intro j u hj
   rcases hrow with h | ⟨b,off,h,h2⟩
   ·subst h;simp at hj
   ·injection h with h;subst h
    exact (congrArg wr.cell? (Addr.add_mid b off j)).trans (h2 j u hj)
  obtain ⟨v',w',hrun,hown',hg,_,hat⟩:=run_append_own_at (P:=Tryz.prog) wr w0.heap.size T o.type e i z sz byt E.ht hi hz hsize hby hzs E.pos (.slice A n c) n cs hacc.own
   a2 m m' news hm hnews h1 hl hb hsz
  obtain ⟨A',c',rfl⟩:=own_form hown'
  have hbl:Below w0.heap.size w0 w':=hacc.ext.grown hg hsz (fun k hk=>(hacc.own.lt k hk).1)
  unfold Oper.wp execOp
  simp only [ho,resolve,invoke,builtin,Sem.run_bind,Sem.run_pure,Result.andThen_ok,List.map_toArray,List.map_cons,List.map_nil,hs,hx,hrun]
  exact K A' c' w' ⟨hown',hbl⟩ hg
set_option maxRecDepth 512
theorem wp_src {T e sz byt:Nat} (E:EI T e sz byt) {ops:Array Oper} {rest:List Oper} {o:Oper} {a:Act} {Q:Exit→Act→World→Prop} (hgd:o.guard=none) (s x:Operand)
  (ho:o.op=.call { callee:=.builtin .append,args:=#[s,x],argTypes:=#[T,T] })
  (w0 wr:World) (A:Option Addr) (c n:Nat) (cs:List Value) (hs:a.eval s=.slice A n c) (hacc:Acc e sz w0 wr A c n cs)
  (A2:Option Addr) (m m':Nat) (news:List Value) (hx:a.eval x=.slice A2 m m') (hrow:Row wr A2 news) (hok:Okc A2 m') (hm:news.length=m * sz) (h1:∀ u ∈ news,u.oneCell'=true)
  (hb:(n+m) * byt≤140737488355328) (hl:n+m≤maxLen)
  (K:∀ A' c' w',Acc e sz w0 w' A' c' (n+m) (cs++news)→wr.grownBy w' (Value.ownBlock (.slice A n c))→wpList Tryz.prog ops Q rest (a.put o.dst (.slice A' (n+m) c')) w'):wpList Tryz.prog ops Q (o :: rest) a wr :=
 wpList_plain hgd fun _ hK=>oper_src E s x ho w0 wr A c n cs hs hacc A2 m m' news hx hrow hok hm h1 hb hl fun A' c' w' h2 h3=>hK _ _ (K A' c' w' h2 h3)
theorem step_src {T e sz byt:Nat} (E:EI T e sz byt) {ops:Array Oper} {o:Oper} {a:Act} {K':Act→World→Prop} {Q:Exit→Act→World→Prop} {X:Prop} (hgd:o.guard=none) (s x:Operand)
  (ho:o.op=.call { callee:=.builtin .append,args:=#[s,x],argTypes:=#[T,T] })
  (w0 wr:World) (A:Option Addr) (c n:Nat) (cs:List Value) (hs:a.eval s=.slice A n c) (hacc:Acc e sz w0 wr A c n cs)
  (A2:Option Addr) (m m':Nat) (news:List Value) (hx:a.eval x=.slice A2 m m') (hrow:Row wr A2 news) (hok:Okc A2 m') (hm:news.length=m * sz) (h1:∀ u ∈ news,u.oneCell'=true)
  (hb:(n+m) * byt≤140737488355328) (hl:n+m≤maxLen)
  (K:∀ A' c' w',Acc e sz w0 w' A' c' (n+m) (cs++news)→wr.grownBy w' (Value.ownBlock (.slice A n c))→K' (a.put o.dst (.slice A' (n+m) c')) w'):if Region.wanted o (yielded ops a.tmps)=true then o.wp Tryz.prog a wr K' Q else X:=by
 have hw:Region.wanted o (yielded ops a.tmps)=true:=by simp [Region.wanted,hgd]
 rw [if_pos hw]
 exact oper_src E s x ho w0 wr A c n cs hs hacc A2 m m' news hx hrow hok hm h1 hb hl K
theorem pcs_oneCell (l:List Pc):∀ u ∈ pcsV l,u.oneCell'=true:=by
 intro u hu
 unfold pcsV at hu
 obtain ⟨p,_,hp⟩:=List.mem_flatMap.1 hu
 simp [pcV] at hp
 rcases hp with rfl | rfl <;> rfl
theorem clone_ (A:Option Addr) (c:Nat) (l:List Pc) (w:World) (hr:Row w A (pcsV l)) (hok:Okc A c) (hl:l.length≤1000000000) :
  Calls Tryz.prog 181 #[.slice A l.length c] w fun e w'=>∃ B d,e=.returned (.slice B l.length d)∧Row w' B (pcsV l)∧l.length≤d∧Okc B d∧Fresh w B∧Ext w w':=by
 have q28:∀ (w:World) (a:Option Addr) (n c n' c':Nat),(binOp .eql 129 (.slice a n c) (.slice none n' c')).run Tryz.prog w=.ok (.bool a.isNone) w:=fun w a n c n' c'=>Lib.run_eql_slice_nil w _ _ a n c n' c' Tryz.underlying129
 cases A with
 | none =>
  have hn:l.length=0:=by
   rcases hr with h | ⟨b,off,h,_⟩
   ·have:=congrArg List.length h;rw [pcsV_len] at this;simp only [List.length_nil] at this;omega
   ·cases h
  have hl0:=List.eq_nil_of_length_eq_zero hn
  subst hl0
  go_enter Tryz.func181,Tryz.ntmps181
  go_wp2
  go_ret
  exact ⟨none,0,rfl,Row.nil,Nat.le_refl _,⟨Nat.zero_le _,fun _=>rfl⟩,fun a h=>(by cases h),Ext.refl _⟩
 | some a =>
  have hacc:Acc 181 2 w (w.alloc (.cells #[] 181)) (some ⟨w.heap.size,0,none⟩) 0 0 []:=Acc.lit (Ext.refl w) [] 0 rfl (by decide)
  have hr2:Row (w.alloc (.cells #[] 181)) (some a) (pcsV l):=hr.below (Ext.alloc_ (Ext.refl w) _) (Nat.le_refl _)
  have HL:=Lib.hid (pcsV_len l)
  go_enter Tryz.func181,Tryz.ntmps181
  go_wp2_with (at_builtin;refine wp_src ei_pc rfl (.tmp 5) (.tmp 6) rfl w _ (some ⟨w.heap.size,0,none⟩) 0 0 [] rfl hacc (some a) l.length c (pcsV l) rfl hr2 hok (by rw [HL.out];omega) (pcs_oneCell l) (by omega) (by unfold maxLen;omega) ?_;intro A1 c1 w3 hacc3 _;clear hacc)
  go_ret
  rw [List.nil_append] at hacc3
  exact ⟨A1,c1,by simp,hacc3.row,by have:=hacc3.cap.1;omega,Acc.okc hacc3,Acc.fresh hacc3,hacc3.ext⟩
end Go.Proofs.YtcghgkagpkmpeaaGreatDoor.Pat
namespace Go.Proofs.YtcghgkagpkmpeaaGreatDoor.EncC
open Go.RowKit Utf All Small Dec
theorem ofNat_toNat {x:Int} (h0:0≤x) (h1:x < 256):(((UInt8.ofNat x.toNat).toNat:Nat):Int)=x:=by
 rw [UInt8.toNat_ofNat',Nat.mod_eq_of_lt (by omega)];omega
theorem value_enc {c:Int} (h:mayC c=true):valueL (encB c)=c:=by
 have hm:=h
 unfold mayC at hm
 simp only [decide_eq_true_eq] at hm
 rw [encB_of h _ rfl]
 by_cases h1:c≤127
 ·rw [Lib.encodeRuneZ_one (by omega) h1]
  simp only [bytesZ,List.map_cons,List.map_nil,valueL,foldZ,offZ,List.getD_cons_zero,List.length_cons,List.length_nil,List.tail_cons,List.foldl_nil]
  rw [ofNat_toNat (by omega) (by omega)];simp
 by_cases h2:c≤2047
 ·rw [Lib.encodeRuneZ_two (by omega) h2]
  simp only [bytesZ,List.map_cons,List.map_nil,valueL,foldZ,offZ,List.getD_cons_zero,List.length_cons,List.length_nil,List.tail_cons,List.foldl_cons,List.foldl_nil]
  rw [ofNat_toNat (by omega) (by omega),ofNat_toNat (by omega) (by omega)];simp;omega
 by_cases h3:c≤65535
 ·rw [Lib.encodeRuneZ_three (by omega)]
  simp only [bytesZ,List.map_cons,List.map_nil,valueL,foldZ,offZ,List.getD_cons_zero,List.length_cons,List.length_nil,List.tail_cons,List.foldl_cons,List.foldl_nil]
  rw [ofNat_toNat (by omega) (by omega),ofNat_toNat (by omega) (by omega),ofNat_toNat (by omega) (by omega)];simp;omega
 ·rw [Lib.encodeRuneZ_four (by omega) (by omega)]
  simp only [bytesZ,List.map_cons,List.map_nil,valueL,foldZ,offZ,List.getD_cons_zero,List.length_cons,List.length_nil,List.tail_cons,List.foldl_cons,List.foldl_nil]
  rw [ofNat_toNat (by omega) (by omega),ofNat_toNat (by omega) (by omega),ofNat_toNat (by omega) (by omega),ofNat_toNat (by omega) (by omega)];simp;omega
theorem encB_len {c:Int} (h:mayC c=true):1≤(encB c).length∧(encB c).length≤4:=by
 unfold encB
 rw [if_pos h]
 simpa [Lib.encodeRune] using Lib.encodeRuneZ_length c
theorem dec_enc {c:Int} (h:mayC c=true) (rest:List UInt8):dec (encB c++rest)=(c,(encB c).length)∧okL (encB c++rest)=true:=by
 have hl:=encB_len h
 have ht:(encB c++rest).take (encB c).length=encB c:=by simp
 have:=dec_of_enc (encB c++rest) (encB c).length hl.1 hl.2 (by simp) (by unfold isEnc;rw [ht,value_enc h];simp)
 rw [ht,value_enc h] at this
 exact this
theorem chars_enc {c:Int} (h:mayC c=true) (rest:List UInt8):charsL (encB c++rest)=c :: charsL rest:=by
 have hl:=encB_len h
 rw [chars_cons (by intro e;have:=congrArg List.length e;simp at this;have:=hl.1;simp_all),(dec_enc h rest).1]
 simp
theorem chars_encs:∀ (xs:List Int) (rest:List UInt8),(∀ x ∈ xs,mayC x=true)→charsL (xs.flatMap encB++rest)=xs++charsL rest
 | [],rest,_=>rfl
 | x :: xs,rest,h=>by
  rw [List.flatMap_cons,List.append_assoc,chars_enc (h x (by simp)),chars_encs xs rest (fun y hy=>h y (by simp [hy])),List.cons_append]
theorem dec_may (l:List UInt8):mayC (dec l).1=true:=by
 have h:(dec l).1=((Lib.decodeN l.length (l.getD 0 0).toNat (l.getD 1 0).toNat (l.getD 2 0).toNat (l.getD 3 0).toNat).1:Int):=by rw [← decodeL_N];rfl
 rw [h]
 generalize (l.getD 0 0).toNat=a
 generalize (l.getD 1 0).toNat=b
 generalize (l.getD 2 0).toNat=c
 generalize (l.getD 3 0).toNat=d
 unfold mayC
 rw [decide_eq_true_eq]
 unfold Lib.decodeN
 repeat' split
 all_goals (simp only;omega)
theorem charsL_may (l:List UInt8):∀ x ∈ charsL l,mayC x=true:=by
 have:∀ (n:Nat) (l:List UInt8),∀ x ∈ (piecesN n l).map (·.1),mayC x=true:=by
  intro n
  induction n with
  | zero=>intro l x hx;simp [piecesN] at hx
  | succ n ih =>
   intro l x hx
   unfold piecesN at hx
   split at hx
   ·simp at hx
   ·simp only [List.map_cons,List.mem_cons] at hx
    rcases hx with rfl | hx
    ·exact dec_may l
    ·exact ih _ _ hx
 exact this _ l
end Go.Proofs.YtcghgkagpkmpeaaGreatDoor.EncC
