/- Joined by wip/join.py: Loc1 Loc2 Loc3 Loc4 Loc5 Loc6 LocD Loc11. -/
import Derived.Test.YtcghgkagpkmpeaaGreatDoorJPat4
import Derived.Test.YtcghgkagpkmpeaaGreatDoorJClus
import Derived.Deep.RegionHeld3
import Derived.Test.YtcghgkagpkmpeaaGreatDoorJSys
set_option linter.unusedVariables false
set_option linter.unusedSimpArgs false
set_option maxHeartbeats 4000000
namespace Go.Proofs.YtcghgkagpkmpeaaGreatDoor.Loc
open Go.RowKit Utf All Small Strs Build EncC Pat Cls
structure Rec where
 name:List UInt8
 pattern:List UInt8
 system:List UInt8
 decimal:List UInt8
 group:List UInt8
 minus:List UInt8
 percent:List UInt8
 currency:List UInt8
def sV (l:List UInt8):Value:=.string ⟨l.toArray⟩
def recV (r:Rec):List Value:=[sV r.name,sV r.pattern,sV r.system,sV r.decimal,sV r.group,sV r.minus,sV r.percent,sV r.currency]
structure Loc where
 r:Rec
 p:Pt
 d:List (List UInt8)
def locV (A B C D:Option Addr) (c d a b:Nat) (l:Loc):List Value:=recV l.r++(patC (.slice A l.p.pre.length c) (.slice B l.p.suf.length d) (.slice C l.p.npre.length a) (.slice D l.p.nsuf.length b) l.p.num++l.d.map sV)
def affs (l:Loc):List (List Pc):=[l.p.pre,l.p.suf,l.p.npre,l.p.nsuf]
structure LocB (l:Loc):Prop where
 ten:l.d.length=10
 len:∀ q ∈ affs l,q.length≤1000
 txt:∀ q ∈ affs l,∀ p ∈ q,p.2.length≤1000
 dec:l.r.decimal.length≤1000
 grp:l.r.group.length≤1000
 min:l.r.minus.length≤1000
 per:l.r.percent.length≤1000
 cur:l.r.currency.length≤1000
structure LocR (w:World) (g:Nat) (A B C D:Option Addr) (c d a b:Nat) (l:Loc):Prop where
 box:Box w g 136 (locV A B C D c d a b l)
 pt:PtR w A B C D l.p
section
variable {w w':World} {g:Nat} {A B C D:Option Addr} {c d a b:Nat} {l:Loc}
theorem LocR.ext (h:LocR w g A B C D c d a b l) (hx:Ext w w'):LocR w' g A B C D c d a b l:=⟨h.box.ext hx,h.pt.ext hx⟩
theorem LocR.cell (h:LocR w g A B C D c d a b l) {j:Nat} {v:Value} (hv:(locV A B C D c d a b l)[j]? = some v):w.cell? ⟨g,j,none⟩=some v:=h.box.cell hv
end
def grpZ (l:Loc):Bool:=decide (0 < l.p.num.prim)
theorem groups_ (g:Nat) (A B C D:Option Addr) (c d a b:Nat) (l:Loc) (w:World) (h:LocR w g A B C D c d a b l) :
  Calls Tryz.prog 136 #[.pointer (some ⟨g,0,none⟩)] w fun e w'=>e=.returned (.bool (grpZ l))∧Ext w w':=by
 have k12:=h.cell (j:=12) (v:=.int .i64 l.p.num.prim) rfl
 have HE:Hid (grpZ l=decide (0 < l.p.num.prim)):=Lib.hid rfl
 generalize l.p.num.prim=x at *
 go_enter Tryz.func136,Tryz.ntmps136
 go_wp2
 go_ret
 exact ⟨by rw [HE.out];rfl,Ext.refl _⟩
def affV (A B C D:Option Addr) (c d a b:Nat) (l:Loc):List Value:=[.slice A l.p.pre.length c,.slice B l.p.suf.length d,.slice C l.p.npre.length a,.slice D l.p.nsuf.length b]
set_option maxRecDepth 100000
theorem affixes_ (g:Nat) (A B C D:Option Addr) (c d a b:Nat) (l:Loc) (w:World) (h:LocR w g A B C D c d a b l) :
  Calls Tryz.prog 128 #[.pointer (some ⟨g,0,none⟩)] w fun e w'=>∃ E,e=.returned (.slice E 4 4)∧Row w' E (affV A B C D c d a b l)∧Ext w w':=by
 have k8:=h.cell (j:=8) (v:=.slice A l.p.pre.length c) rfl
 have k9:=h.cell (j:=9) (v:=.slice B l.p.suf.length d) rfl
 have k10:=h.cell (j:=10) (v:=.slice C l.p.npre.length a) rfl
 have k11:=h.cell (j:=11) (v:=.slice D l.p.nsuf.length b) rfl
 have HE:Hid (affV A B C D c d a b l=[.slice A l.p.pre.length c,.slice B l.p.suf.length d,.slice C l.p.npre.length a,.slice D l.p.nsuf.length b]):=Lib.hid rfl
 generalize l.p.pre.length=n1 at *
 generalize l.p.suf.length=n2 at *
 generalize l.p.npre.length=n3 at *
 generalize l.p.nsuf.length=n4 at *
 have hx:=Ext.alloc_ (Ext.refl w) (.cells ([.slice A n1 c,.slice B n2 d,.slice C n3 a,.slice D n4 b]:List Value).toArray 129)
 have hn:=(Box.new w 129 [.slice A n1 c,.slice B n2 d,.slice C n3 a,.slice D n4 b]).row
 clear h
 go_enter Tryz.func128,Tryz.ntmps128
 go_wp2
 go_region_held3 (fun W=>W.cell? ⟨g,8,none⟩=some (.slice A n1 c)∧W.cell? ⟨g,9,none⟩=some (.slice B n2 d)∧W.cell? ⟨g,10,none⟩=some (.slice C n3 a)∧W.cell? ⟨g,11,none⟩=some (.slice D n4 b))
  (first | exact ⟨k8,k9,k10,k11⟩ | exact ⟨Ext.cell_ (Ext.drew_ hx) k8,Ext.cell_ (Ext.drew_ hx) k9,Ext.cell_ (Ext.drew_ hx) k10,Ext.cell_ (Ext.drew_ hx) k11⟩ | assumption) (fail)
 all_goals go_wp2
 all_goals go_ret
 all_goals exact ⟨some ⟨w.heap.size,0,none⟩,rfl,by rw [HE.out];exact hn,Ext.drew_ hx⟩
set_option maxRecDepth 512
def txtL (l:Loc) (q:List Pc):List UInt8:=resF l.r.currency l.r.percent [] q
set_option maxRecDepth 100000
theorem text_l (g:Nat) (A B C D X:Option Addr) (c d a b n k:Nat) (q:List Pc) (l:Loc) (w:World) (h:LocR w g A B C D c d a b l) (hb:LocB l) (hX:Row w X (pcsV q)) (hq:q.length=n) (hl:n≤1000) (ht:∀ p ∈ q,p.2.length≤1000) :
  Calls Tryz.prog 143 #[.pointer (some ⟨g,0,none⟩),.slice X n k] w fun e w'=>e=.returned (.string ⟨(txtL l q).toArray⟩)∧Ext w w':=by
 have k7:=h.cell (j:=7) (v:=.string ⟨l.r.currency.toArray⟩) rfl
 have k6:=h.cell (j:=6) (v:=.string ⟨l.r.percent.toArray⟩) rfl
 have HR:Hid (∀ W,Ext w W→Calls Tryz.prog 186 #[.slice X n k,.string ⟨l.r.currency.toArray⟩,.string ⟨l.r.percent.toArray⟩,.string ⟨#[]⟩] W fun e w'=>e=.returned (.string ⟨(txtL l q).toArray⟩)∧Ext W w'):=Lib.hid fun W hW=>by
  subst hq
  exact resolve_ X k l.r.currency l.r.percent [] q W (hX.below hW (Nat.le_refl _)) hl (by have:=hb.cur;omega) (by have:=hb.per;omega) (by simp) (fun p hp=>by have:=ht p hp;omega)
 generalize txtL l q=t at *
 generalize (⟨l.r.currency.toArray⟩:ByteArray)=s1 at *
 generalize (⟨l.r.percent.toArray⟩:ByteArray)=s2 at *
 clear h hX hb hq
 go_enter Tryz.func143,Tryz.ntmps143
 go_wp2
 go_region_held3 (fun W=>Ext w W∧W.cell? ⟨g,7,none⟩=some (.string s1)∧W.cell? ⟨g,6,none⟩=some (.string s2))
  (first | exact ⟨Ext.drew_ (Ext.refl _),k7,k6⟩ | (refine (fun h=>⟨h,Ext.cell_ h k7,Ext.cell_ h k6⟩) ?_;first | assumption | exact Ext.drew_ (by assumption)))
  (first | (go_at_call 186;with_reducible refine (HR.out _ ?_).mono ?_;(first | assumption | exact Ext.drew_ (Ext.refl _));rintro e w4 ⟨rfl,hx4⟩;have hE:=(Ext.drew_ (Ext.refl w)).trans hx4))
 all_goals go_wp2 
 all_goals go_ret
 all_goals exact ⟨rfl,by assumption⟩
set_option maxRecDepth 512
def cntA (k:Int) (l:Loc):Nat:=cntK k l.p.pre+cntK k l.p.suf+cntK k l.p.npre+cntK k l.p.nsuf
theorem aff_at {w:World} {E A B C D:Option Addr} {c d a b:Nat} {l:Loc} (hE:Row w E (affV A B C D c d a b l)) (hp:PtR w A B C D l.p) {i:Nat} (hi:i < 4) :
  ∃ (q:List Pc) (X:Option Addr) (k:Nat) (e o:Nat),q ∈ affs l∧(affs l)[i]? = some q∧E=some ⟨e,o,none⟩∧w.cell? ⟨e,o+i,none⟩=some (.slice X q.length k)∧Row w X (pcsV q):=by
 obtain ⟨e,o,rfl,hc⟩:=hE.at_ (k:=i) (by simpa [affV] using hi)
 obtain ⟨h1,h2,h3,h4⟩:=hp
 match i,hi with
 | 0,_=>exact ⟨l.p.pre,A,c,e,o,by simp [affs],rfl,rfl,hc 0 _ rfl,h1⟩
 | 1,_=>exact ⟨l.p.suf,B,d,e,o,by simp [affs],rfl,rfl,hc 1 _ rfl,h2⟩
 | 2,_=>exact ⟨l.p.npre,C,a,e,o,by simp [affs],rfl,rfl,hc 2 _ rfl,h3⟩
 | 3,_=>exact ⟨l.p.nsuf,D,b,e,o,by simp [affs],rfl,rfl,hc 3 _ rfl,h4⟩
def cntTo (k:Int) (l:Loc) (i:Nat):Nat:=(((affs l).take i).map (cntK k)).foldl (·+·) 0
theorem cntTo_succ {k:Int} {l:Loc} {i:Nat} {q:List Pc} (h:(affs l)[i]? = some q):cntTo k l (i+1)=cntTo k l i+cntK k q:=by
 unfold cntTo
 rw [List.take_add_one,h]
 simp [List.foldl_append]
theorem cntTo_four (k:Int) (l:Loc):cntTo k l 4=cntA k l:=by
 unfold cntTo affs cntA
 simp
theorem cntK_le (k:Int) (q:List Pc):cntK k q≤q.length:=List.countP_le_length
set_option maxRecDepth 100000
theorem count_l (g:Nat) (A B C D:Option Addr) (c d a b:Nat) (k:Int) (l:Loc) (w:World) (h:LocR w g A B C D c d a b l) (hb:LocB l) :
  Calls Tryz.prog 124 #[.pointer (some ⟨g,0,none⟩),.int .i64 k] w fun e w'=>e=.returned (.int .i64 (cntA k l))∧Ext w w':=by
 have HF:=Lib.hid (cntTo_four k l)
 go_enter Tryz.func124,Tryz.ntmps124
 go_wp2_with fail
 refine (affixes_ g A B C D c d a b l w h).mono ?_
 rintro e w1 ⟨E,rfl,hE,hx1⟩
 have hp1:=h.pt.ext hx1
 clear h
 go_wp2
 go_loopw [5,11] (fun n i wr=>∃ j:Nat,j≤4∧i=.int .i64 j∧n=.int .i64 (cntTo k l j)∧cntTo k l j≤1000 * j∧Ext w1 wr) (fun _ i _=>4 - (intOf i).toNat)
 case atStart=>exact ⟨0,by omega,rfl,rfl,by simp [cntTo],Ext.refl _⟩
 case round =>
  obtain ⟨j,hj,rfl,rfl,hle,hx⟩:=hrel
  by_cases hlt:j < 4
  ·obtain ⟨q,X,cp,e,o,hq,hat,rfl,hc,hX⟩:=aff_at (hE.below hx (Nat.le_refl _)) (hp1.ext hx) hlt
   have HS:=Lib.hid (cntTo_succ (k:=k) hat)
   have hl:=hb.len q hq
   have hck:=cntK_le k q
   have hlt':(j:Int) < 4:=by omega
   clear hE hp1
   go_wp2_with fail
   refine (count_ X cp q k _ hX (by omega)).mono ?_
   rintro e2 w2 ⟨rfl,hx2⟩
   generalize cntK k q=m at *
   generalize cntTo k l j=n at *
   go_wp2
   go_roundw
   case rel=>exact ⟨j+1,by omega,by go_num,by rw [HS.out];go_num,by rw [HS.out];omega,hx.trans hx2⟩
   case measure=>simp [intOf];omega
  ·have e:j=4:=by omega
   subst e
   go_wp2
   go_ret
   exact ⟨by rw [← HF.out];rfl,hx1.trans hx⟩
set_option maxRecDepth 512
def dB (l:Loc):List ByteArray:=l.d.map fun t=>⟨t.toArray⟩
def signZ (l:Loc) (s:ByteArray):Int :=
 if 0≤Lib.idxOfS (dB l) s then Lib.idxOfS (dB l) s else if s=⟨l.r.decimal.toArray⟩ then 10 else if grpZ l=true∧s=⟨l.r.group.toArray⟩ then 11 else if s=⟨l.r.minus.toArray⟩ then 12 else -1
theorem loc_digit {A B C D:Option Addr} {c d a b:Nat} {l:Loc} (j:Nat):(locV A B C D c d a b l)[17+j]? = (l.d.map sV)[j]? := by
 unfold locV
 rw [List.getElem?_append_right (by simp [recV];omega),List.getElem?_append_right (by simp [recV,patC];omega)]
 congr 1
 simp [recV,patC];omega
set_option maxRecDepth 100000
theorem sign_l (g:Nat) (A B C D:Option Addr) (c d a b:Nat) (s:ByteArray) (l:Loc) (w:World) (h:LocR w g A B C D c d a b l) (hb:LocB l) :
  Calls Tryz.prog 73 #[.pointer (some ⟨g,0,none⟩),.string s] w fun e w'=>e=.returned (.int .i64 (signZ l s))∧Ext w w':=by
 have k3:=h.cell (j:=3) (v:=.string ⟨l.r.decimal.toArray⟩) rfl
 have k4:=h.cell (j:=4) (v:=.string ⟨l.r.group.toArray⟩) rfl
 have k5:=h.cell (j:=5) (v:=.string ⟨l.r.minus.toArray⟩) rfl
 have HE:Hid (signZ l s=if 0≤Lib.idxOfS (dB l) s then Lib.idxOfS (dB l) s else if s=⟨l.r.decimal.toArray⟩ then 10 else if grpZ l=true∧s=⟨l.r.group.toArray⟩ then 11 else if s=⟨l.r.minus.toArray⟩ then 12 else -1):=Lib.hid rfl
 have hI:=Tryz.slices_Index_string g 17 10 10 (dB l) s w (by unfold dB;simp [hb.ten]) (by decide) (fun j hj=>by
  have hj':j < l.d.length:=by simpa [dB] using hj
  refine h.cell ?_
  rw [loc_digit,List.getElem?_map,List.getElem?_eq_getElem hj']
  simp [dB,List.getD,hj',sV])
 rw [List.take_of_length_le (by unfold dB;simp [hb.ten])] at hI
 have HI:=Lib.hid hI
 have HG:Hid (∀ W,Ext w W→Calls Tryz.prog 136 #[.pointer (some ⟨g,0,none⟩)] W fun e w'=>e=.returned (.bool (grpZ l))∧Ext W w'):=Lib.hid fun W hW=>groups_ g A B C D c d a b l W (h.ext hW)
 clear h hI
 generalize Lib.idxOfS (dB l) s=ix at *
 generalize (⟨l.r.decimal.toArray⟩:ByteArray)=s1 at *
 generalize (⟨l.r.group.toArray⟩:ByteArray)=s2 at *
 generalize (⟨l.r.minus.toArray⟩:ByteArray)=s3 at *
 generalize grpZ l=gz at *
 go_enter Tryz.func73,Tryz.ntmps73
 have b1:=beq_str s s1
 have b2:=beq_str s s2
 have b3:=beq_str s s3
 by_cases h0:0≤ix
 ·go_wp2_with (go_at_call 155;with_reducible refine HI.out.mono ?_;rintro e w1 ⟨rfl,rfl⟩)
  go_ret
  exact ⟨by rw [HE.out,if_pos h0];rfl,Ext.refl _⟩
 ·rw [if_neg h0] at HE
  by_cases h1:s=s1
  ·rw [decide_eq_true h1] at b1
   rw [if_pos h1] at HE
   clear h1 b2 b3
   go_wp2_with (go_at_call 155;with_reducible refine HI.out.mono ?_;rintro e w1 ⟨rfl,rfl⟩)
   go_ret
   exact ⟨by rw [HE.out];rfl,Ext.refl _⟩
  ·rw [decide_eq_false h1] at b1
   rw [if_neg h1] at HE
   clear h1
   cases gz
   ·rw [if_neg (by simp)] at HE
    clear b2
    by_cases h3:s=s3
    ·rw [decide_eq_true h3] at b3
     rw [if_pos h3] at HE
     clear h3
     go_wp2_with (first | (go_at_call 155;with_reducible refine HI.out.mono ?_;rintro e w1 ⟨rfl,rfl⟩) | (go_at_call 136;with_reducible refine (HG.out _ (Ext.refl _)).mono ?_;rintro e w2 ⟨rfl,hx2⟩;have k5:=Ext.cell_ hx2 k5))
     go_ret
     exact ⟨by rw [HE.out];rfl,hx2⟩
    ·rw [decide_eq_false h3] at b3
     rw [if_neg h3] at HE
     clear h3
     go_wp2_with (first | (go_at_call 155;with_reducible refine HI.out.mono ?_;rintro e w1 ⟨rfl,rfl⟩) | (go_at_call 136;with_reducible refine (HG.out _ (Ext.refl _)).mono ?_;rintro e w2 ⟨rfl,hx2⟩;have k5:=Ext.cell_ hx2 k5))
     go_ret
     exact ⟨by rw [HE.out];rfl,hx2⟩
   ·by_cases h2:s=s2
    ·rw [decide_eq_true h2] at b2
     rw [if_pos ⟨rfl,h2⟩] at HE
     clear h2 b3
     go_wp2_with (first | (go_at_call 155;with_reducible refine HI.out.mono ?_;rintro e w1 ⟨rfl,rfl⟩) | (go_at_call 136;with_reducible refine (HG.out _ (Ext.refl _)).mono ?_;rintro e w2 ⟨rfl,hx2⟩;have k4:=Ext.cell_ hx2 k4))
     go_ret
     exact ⟨by rw [HE.out];rfl,hx2⟩
    ·rw [decide_eq_false h2] at b2
     rw [if_neg (fun h=>h2 h.2)] at HE
     clear h2
     by_cases h3:s=s3
     ·rw [decide_eq_true h3] at b3
      rw [if_pos h3] at HE
      clear h3
      go_wp2_with (first | (go_at_call 155;with_reducible refine HI.out.mono ?_;rintro e w1 ⟨rfl,rfl⟩) | (go_at_call 136;with_reducible refine (HG.out _ (Ext.refl _)).mono ?_;rintro e w2 ⟨rfl,hx2⟩;have k4:=Ext.cell_ hx2 k4;have k5:=Ext.cell_ hx2 k5))
      go_ret
      exact ⟨by rw [HE.out];rfl,hx2⟩
     ·rw [decide_eq_false h3] at b3
      rw [if_neg h3] at HE
      clear h3
      go_wp2_with (first | (go_at_call 155;with_reducible refine HI.out.mono ?_;rintro e w1 ⟨rfl,rfl⟩) | (go_at_call 136;with_reducible refine (HG.out _ (Ext.refl _)).mono ?_;rintro e w2 ⟨rfl,hx2⟩;have k4:=Ext.cell_ hx2 k4;have k5:=Ext.cell_ hx2 k5))
      go_ret
      exact ⟨by rw [HE.out];rfl,hx2⟩
set_option maxRecDepth 512
abbrev idB:Bool→Bool:=fun b=>b
theorem idx_hit {bs:List Bool} {k:Nat} (hk:k < bs.length) (h:(bs.take k).any idB=false) (hp:bs[k]=true):idxF idB bs=k:=idxF_at idB bs k hk h hp
theorem infoPc:(Tryz.prog.info? 181).map (·.size)=some 2:=by kernel_rfl
theorem a8_idx (E:Option Addr) (cE n:Nat) (vs:List Value) (bs:List Bool)  (w:World) (hE:Row w E vs) (hn:vs.length=n) (hb:bs.length=n) (hl:n≤1000000)
  (HF:Hid (∀ (i:Nat) v b W,vs[i]? = some v→bs[i]? = some b→Ext w W→Calls Tryz.prog 138 #[v] W fun e w'=>e=.returned (.bool b)∧Ext W w')) :
  Calls Tryz.prog 183 #[.slice E n cE,.func (.func 138) #[] #[]] w fun e w'=>e=.returned (.int .i64 (idxF idB bs))∧Ext w w':=by
 have HN:=Lib.hid hn
 go_enter Tryz.func183,Tryz.ntmps183
 go_wp2
 go_loopw [5,8] (fun _ i wr=>∃ k:Nat,k≤n∧i=.int .i64 k∧Hid ((bs.take k).any idB=false)∧Ext w wr) (fun _ i _=>n - (intOf i).toNat)
 case atStart=>exact ⟨0,Nat.zero_le _,rfl,Lib.hid (by simp),Ext.refl _⟩
 case round =>
  obtain ⟨k,hk,rfl,HK,hx⟩:=hrel
  by_cases hlt:k < n
  ·have hkb:k < bs.length:=by omega
   have HA:=Lib.hid (fun h=>idx_hit hkb HK.out h)
   have HT:=Lib.hid (any_snoc idB bs k hkb)
   have hkv:k < vs.length:=by have:=HN.out;omega
   obtain ⟨e0,o0,rfl,hcs⟩:=(hE.below hx (Nat.le_refl _)).at_ hkv
   have hc:=hcs k _ (List.getElem?_eq_getElem hkv)
   have HBK:=Lib.hid (HF.out k _ _ wr (List.getElem?_eq_getElem hkv) (List.getElem?_eq_getElem hkb) hx)
   generalize vs[k]=v at *
   generalize bs[k]=bk at *
   clear hcs
   cases bk
   ·go_wp2_with (go_at_call 138;with_reducible refine HBK.out.mono ?_;rintro e w' ⟨rfl,hx'⟩)
    go_roundw
    case rel=>exact ⟨k+1,by omega,by go_num,Lib.hid (by rw [HT.out,HK.out];rfl),hx.trans hx'⟩
    case measure=>simp [intOf];omega
   ·have HA2:=Lib.hid (HA.out rfl)
    clear HA
    go_wp2_with (go_at_call 138;with_reducible refine HBK.out.mono ?_;rintro e w' ⟨rfl,hx'⟩)
    go_ret
    exact ⟨by rw [HA2.out];rfl,hx.trans hx'⟩
  ·have e:k=n:=by omega
   subst e
   have hb':bs.length=k:=by omega
   rw [← hb',List.take_length] at HK
   go_wp2
   go_ret
   exact ⟨by rw [idxF_none _ _ HK.out];rfl,hx⟩
theorem a8_has (E:Option Addr) (cE n:Nat) (vs:List Value) (bs:List Bool)  (w:World) (hE:Row w E vs) (hn:vs.length=n) (hb:bs.length=n) (hl:n≤1000000)
  (HF:Hid (∀ (i:Nat) v b W,vs[i]? = some v→bs[i]? = some b→Ext w W→Calls Tryz.prog 138 #[v] W fun e w'=>e=.returned (.bool b)∧Ext W w')) :
  Calls Tryz.prog 127 #[.slice E n cE,.func (.func 138) #[] #[]] w fun e w'=>e=.returned (.bool (bs.any idB))∧Ext w w':=by
 have HS:=Lib.hid (idxF_sign idB bs)
 go_enter Tryz.func127,Tryz.ntmps127
 go_wp2_with fail
 refine (a8_idx E cE n vs bs  w hE hn hb hl HF).mono ?_;rintro e w' ⟨rfl,hx⟩
 go_wp2
 go_ret
 exact ⟨by rw [← HS.out];rfl,hx⟩
theorem a9_idx (E:Option Addr) (cE n:Nat) (vs:List Value) (bs:List Bool) (b0:Nat) (w:World) (hE:Row w E vs) (hn:vs.length=n) (hb:bs.length=n) (hl:n≤1000000)
  (HF:Hid (∀ (i:Nat) v b W,vs[i]? = some v→bs[i]? = some b→Ext w W→Calls Tryz.prog 142 #[v,.pointer (some ⟨b0,0,none⟩)] W fun e w'=>e=.returned (.bool b)∧Ext W w')) :
  Calls Tryz.prog 183 #[.slice E n cE,.func (.func 142) #[] #[.pointer (some ⟨b0,0,none⟩)]] w fun e w'=>e=.returned (.int .i64 (idxF idB bs))∧Ext w w':=by
 have HN:=Lib.hid hn
 go_enter Tryz.func183,Tryz.ntmps183
 go_wp2
 go_loopw [5,8] (fun _ i wr=>∃ k:Nat,k≤n∧i=.int .i64 k∧Hid ((bs.take k).any idB=false)∧Ext w wr) (fun _ i _=>n - (intOf i).toNat)
 case atStart=>exact ⟨0,Nat.zero_le _,rfl,Lib.hid (by simp),Ext.refl _⟩
 case round =>
  obtain ⟨k,hk,rfl,HK,hx⟩:=hrel
  by_cases hlt:k < n
  ·have hkb:k < bs.length:=by omega
   have HA:=Lib.hid (fun h=>idx_hit hkb HK.out h)
   have HT:=Lib.hid (any_snoc idB bs k hkb)
   have hkv:k < vs.length:=by have:=HN.out;omega
   obtain ⟨e0,o0,rfl,hcs⟩:=(hE.below hx (Nat.le_refl _)).at_ hkv
   have hc:=hcs k _ (List.getElem?_eq_getElem hkv)
   have HBK:=Lib.hid (HF.out k _ _ wr (List.getElem?_eq_getElem hkv) (List.getElem?_eq_getElem hkb) hx)
   generalize vs[k]=v at *
   generalize bs[k]=bk at *
   clear hcs
   cases bk
   ·go_wp2_with (go_at_call 142;with_reducible refine HBK.out.mono ?_;rintro e w' ⟨rfl,hx'⟩)
    go_roundw
    case rel=>exact ⟨k+1,by omega,by go_num,Lib.hid (by rw [HT.out,HK.out];rfl),hx.trans hx'⟩
    case measure=>simp [intOf];omega
   ·have HA2:=Lib.hid (HA.out rfl)
    clear HA
    go_wp2_with (go_at_call 142;with_reducible refine HBK.out.mono ?_;rintro e w' ⟨rfl,hx'⟩)
    go_ret
    exact ⟨by rw [HA2.out];rfl,hx.trans hx'⟩
  ·have e:k=n:=by omega
   subst e
   have hb':bs.length=k:=by omega
   rw [← hb',List.take_length] at HK
   go_wp2
   go_ret
   exact ⟨by rw [idxF_none _ _ HK.out];rfl,hx⟩
theorem a9_has (E:Option Addr) (cE n:Nat) (vs:List Value) (bs:List Bool) (b0:Nat) (w:World) (hE:Row w E vs) (hn:vs.length=n) (hb:bs.length=n) (hl:n≤1000000)
  (HF:Hid (∀ (i:Nat) v b W,vs[i]? = some v→bs[i]? = some b→Ext w W→Calls Tryz.prog 142 #[v,.pointer (some ⟨b0,0,none⟩)] W fun e w'=>e=.returned (.bool b)∧Ext W w')) :
  Calls Tryz.prog 127 #[.slice E n cE,.func (.func 142) #[] #[.pointer (some ⟨b0,0,none⟩)]] w fun e w'=>e=.returned (.bool (bs.any idB))∧Ext w w':=by
 have HS:=Lib.hid (idxF_sign idB bs)
 go_enter Tryz.func127,Tryz.ntmps127
 go_wp2_with fail
 refine (a9_idx E cE n vs bs b0 w hE hn hb hl HF).mono ?_;rintro e w' ⟨rfl,hx⟩
 go_wp2
 go_ret
 exact ⟨by rw [← HS.out];rfl,hx⟩
theorem a13_idx (E:Option Addr) (cE n:Nat) (vs:List Value) (bs:List Bool) (b0:Nat) (w:World) (hE:Row w E vs) (hn:vs.length=n) (hb:bs.length=n) (hl:n≤1000000)
  (HF:Hid (∀ (i:Nat) v b W,vs[i]? = some v→bs[i]? = some b→Ext w W→Calls Tryz.prog 148 #[v,.pointer (some ⟨b0,0,none⟩)] W fun e w'=>e=.returned (.bool b)∧Ext W w')) :
  Calls Tryz.prog 183 #[.slice E n cE,.func (.func 148) #[] #[.pointer (some ⟨b0,0,none⟩)]] w fun e w'=>e=.returned (.int .i64 (idxF idB bs))∧Ext w w':=by
 have HN:=Lib.hid hn
 go_enter Tryz.func183,Tryz.ntmps183
 go_wp2
 go_loopw [5,8] (fun _ i wr=>∃ k:Nat,k≤n∧i=.int .i64 k∧Hid ((bs.take k).any idB=false)∧Ext w wr) (fun _ i _=>n - (intOf i).toNat)
 case atStart=>exact ⟨0,Nat.zero_le _,rfl,Lib.hid (by simp),Ext.refl _⟩
 case round =>
  obtain ⟨k,hk,rfl,HK,hx⟩:=hrel
  by_cases hlt:k < n
  ·have hkb:k < bs.length:=by omega
   have HA:=Lib.hid (fun h=>idx_hit hkb HK.out h)
   have HT:=Lib.hid (any_snoc idB bs k hkb)
   have hkv:k < vs.length:=by have:=HN.out;omega
   obtain ⟨e0,o0,rfl,hcs⟩:=(hE.below hx (Nat.le_refl _)).at_ hkv
   have hc:=hcs k _ (List.getElem?_eq_getElem hkv)
   have HBK:=Lib.hid (HF.out k _ _ wr (List.getElem?_eq_getElem hkv) (List.getElem?_eq_getElem hkb) hx)
   generalize vs[k]=v at *
   generalize bs[k]=bk at *
   clear hcs
   cases bk
   ·go_wp2_with (go_at_call 148;with_reducible refine HBK.out.mono ?_;rintro e w' ⟨rfl,hx'⟩)
    go_roundw
    case rel=>exact ⟨k+1,by omega,by go_num,Lib.hid (by rw [HT.out,HK.out];rfl),hx.trans hx'⟩
    case measure=>simp [intOf];omega
   ·have HA2:=Lib.hid (HA.out rfl)
    clear HA
    go_wp2_with (go_at_call 148;with_reducible refine HBK.out.mono ?_;rintro e w' ⟨rfl,hx'⟩)
    go_ret
    exact ⟨by rw [HA2.out];rfl,hx.trans hx'⟩
  ·have e:k=n:=by omega
   subst e
   have hb':bs.length=k:=by omega
   rw [← hb',List.take_length] at HK
   go_wp2
   go_ret
   exact ⟨by rw [idxF_none _ _ HK.out];rfl,hx⟩
theorem a13_has (E:Option Addr) (cE n:Nat) (vs:List Value) (bs:List Bool) (b0:Nat) (w:World) (hE:Row w E vs) (hn:vs.length=n) (hb:bs.length=n) (hl:n≤1000000)
  (HF:Hid (∀ (i:Nat) v b W,vs[i]? = some v→bs[i]? = some b→Ext w W→Calls Tryz.prog 148 #[v,.pointer (some ⟨b0,0,none⟩)] W fun e w'=>e=.returned (.bool b)∧Ext W w')) :
  Calls Tryz.prog 127 #[.slice E n cE,.func (.func 148) #[] #[.pointer (some ⟨b0,0,none⟩)]] w fun e w'=>e=.returned (.bool (bs.any idB))∧Ext w w':=by
 have HS:=Lib.hid (idxF_sign idB bs)
 go_enter Tryz.func127,Tryz.ntmps127
 go_wp2_with fail
 refine (a13_idx E cE n vs bs b0 w hE hn hb hl HF).mono ?_;rintro e w' ⟨rfl,hx⟩
 go_wp2
 go_ret
 exact ⟨by rw [← HS.out];rfl,hx⟩
theorem ax_idx (E:Option Addr) (cE n:Nat) (vs:List Value) (bs:List Bool) (b0:Nat) (b1:Nat) (w:World) (hE:Row w E vs) (hn:vs.length=n) (hb:bs.length=n) (hl:n≤1000000)
  (HF:Hid (∀ (i:Nat) v b W,vs[i]? = some v→bs[i]? = some b→Ext w W→Calls Tryz.prog 159 #[v,.pointer (some ⟨b0,0,none⟩),.pointer (some ⟨b1,0,none⟩)] W fun e w'=>e=.returned (.bool b)∧Ext W w')) :
  Calls Tryz.prog 183 #[.slice E n cE,.func (.func 159) #[] #[.pointer (some ⟨b0,0,none⟩),.pointer (some ⟨b1,0,none⟩)]] w fun e w'=>e=.returned (.int .i64 (idxF idB bs))∧Ext w w':=by
 have HN:=Lib.hid hn
 go_enter Tryz.func183,Tryz.ntmps183
 go_wp2
 go_loopw [5,8] (fun _ i wr=>∃ k:Nat,k≤n∧i=.int .i64 k∧Hid ((bs.take k).any idB=false)∧Ext w wr) (fun _ i _=>n - (intOf i).toNat)
 case atStart=>exact ⟨0,Nat.zero_le _,rfl,Lib.hid (by simp),Ext.refl _⟩
 case round =>
  obtain ⟨k,hk,rfl,HK,hx⟩:=hrel
  by_cases hlt:k < n
  ·have hkb:k < bs.length:=by omega
   have HA:=Lib.hid (fun h=>idx_hit hkb HK.out h)
   have HT:=Lib.hid (any_snoc idB bs k hkb)
   have hkv:k < vs.length:=by have:=HN.out;omega
   obtain ⟨e0,o0,rfl,hcs⟩:=(hE.below hx (Nat.le_refl _)).at_ hkv
   have hc:=hcs k _ (List.getElem?_eq_getElem hkv)
   have HBK:=Lib.hid (HF.out k _ _ wr (List.getElem?_eq_getElem hkv) (List.getElem?_eq_getElem hkb) hx)
   generalize vs[k]=v at *
   generalize bs[k]=bk at *
   clear hcs
   cases bk
   ·go_wp2_with (go_at_call 159;with_reducible refine HBK.out.mono ?_;rintro e w' ⟨rfl,hx'⟩)
    go_roundw
    case rel=>exact ⟨k+1,by omega,by go_num,Lib.hid (by rw [HT.out,HK.out];rfl),hx.trans hx'⟩
    case measure=>simp [intOf];omega
   ·have HA2:=Lib.hid (HA.out rfl)
    clear HA
    go_wp2_with (go_at_call 159;with_reducible refine HBK.out.mono ?_;rintro e w' ⟨rfl,hx'⟩)
    go_ret
    exact ⟨by rw [HA2.out];rfl,hx.trans hx'⟩
  ·have e:k=n:=by omega
   subst e
   have hb':bs.length=k:=by omega
   rw [← hb',List.take_length] at HK
   go_wp2
   go_ret
   exact ⟨by rw [idxF_none _ _ HK.out];rfl,hx⟩
theorem ax_has (E:Option Addr) (cE n:Nat) (vs:List Value) (bs:List Bool) (b0:Nat) (b1:Nat) (w:World) (hE:Row w E vs) (hn:vs.length=n) (hb:bs.length=n) (hl:n≤1000000)
  (HF:Hid (∀ (i:Nat) v b W,vs[i]? = some v→bs[i]? = some b→Ext w W→Calls Tryz.prog 159 #[v,.pointer (some ⟨b0,0,none⟩),.pointer (some ⟨b1,0,none⟩)] W fun e w'=>e=.returned (.bool b)∧Ext W w')) :
  Calls Tryz.prog 127 #[.slice E n cE,.func (.func 159) #[] #[.pointer (some ⟨b0,0,none⟩),.pointer (some ⟨b1,0,none⟩)]] w fun e w'=>e=.returned (.bool (bs.any idB))∧Ext w w':=by
 have HS:=Lib.hid (idxF_sign idB bs)
 go_enter Tryz.func127,Tryz.ntmps127
 go_wp2_with fail
 refine (ax_idx E cE n vs bs b0 b1 w hE hn hb hl HF).mono ?_;rintro e w' ⟨rfl,hx⟩
 go_wp2
 go_ret
 exact ⟨by rw [← HS.out];rfl,hx⟩
theorem p8_idx (E:Option Addr) (cE n:Nat) (xs:List Pc) (p:Pc→Bool)  (w:World) (hE:Row w E (pcsV xs)) (hn:xs.length=n) (hl:n≤1000000)
  (HF:Hid (∀ x ∈ xs,∀ b W,p x=b→Ext w W→Calls Tryz.prog 140 #[.agg #[.int .i64 x.1,.string ⟨x.2.toArray⟩]] W fun e w'=>e=.returned (.bool b)∧Ext W w')) :
  Calls Tryz.prog 114 #[.slice E n cE,.func (.func 140) #[] #[]] w fun e w'=>e=.returned (.int .i64 (idxF idB (xs.map p)))∧Ext w w':=by
 have HLB:(xs.map p).length=n:=by simpa using hn
 have HN:=Lib.hid hn
 go_enter Tryz.func114,Tryz.ntmps114
 go_wp2
 go_loopw [5,8] (fun _ i wr=>∃ k:Nat,k≤n∧i=.int .i64 k∧Hid (((xs.map p).take k).any idB=false)∧Ext w wr) (fun _ i _=>n - (intOf i).toNat)
 case atStart=>exact ⟨0,Nat.zero_le _,rfl,Lib.hid (by simp),Ext.refl _⟩
 case round =>
  obtain ⟨k,hk,rfl,HK,hx⟩:=hrel
  by_cases hlt:k < n
  ·have hkb:k < (xs.map p).length:=by omega
   have HA:=Lib.hid (fun h=>idx_hit hkb HK.out h)
   have HT:=Lib.hid (any_snoc idB (xs.map p) k hkb)
   have hkx:k < xs.length:=by have:=HN.out;omega
   have HMP:Hid ((xs.map p)[k]=p xs[k]):=Lib.hid (by simp)
   have HM:Hid (xs[k] ∈ xs):=Lib.hid (List.getElem_mem hkx)
   obtain ⟨b,off,rfl,hc1,hc2⟩:=row_pc (hE.below hx (Nat.le_refl _)) hkx
   have HRG:=Lib.hid (pc_range hc1 hc2)
   have HBK:=Lib.hid (HF.out _ HM.out _ wr rfl hx)
   rw [HMP.out] at HA HT
   generalize xs[k]=x at *
   generalize p x=bk at *
   clear hc1 hc2
   cases bk
   ·go_wp2_with (first | (refine wpList_load_mid rfl 181 (.tmp 14) rfl b (off+k * 2) rfl [.int .i64 x.1,.string ⟨x.2.toArray⟩] _ HRG.out Tryz.underlying181 rfl infoPc ?_) | (go_at_call 140;with_reducible refine HBK.out.mono ?_;rintro e w' ⟨rfl,hx'⟩))
    go_roundw
    case rel=>exact ⟨k+1,by omega,by go_num,Lib.hid (by rw [HT.out,HK.out];rfl),hx.trans hx'⟩
    case measure=>simp [intOf];omega
   ·have HA2:=Lib.hid (HA.out rfl)
    clear HA
    go_wp2_with (first | (refine wpList_load_mid rfl 181 (.tmp 14) rfl b (off+k * 2) rfl [.int .i64 x.1,.string ⟨x.2.toArray⟩] _ HRG.out Tryz.underlying181 rfl infoPc ?_) | (go_at_call 140;with_reducible refine HBK.out.mono ?_;rintro e w' ⟨rfl,hx'⟩))
    go_ret
    exact ⟨by rw [HA2.out];rfl,hx.trans hx'⟩
  ·have e:k=n:=by omega
   subst e
   have hb':(xs.map p).length=k:=by omega
   rw [← hb',List.take_length] at HK
   go_wp2
   go_ret
   exact ⟨by rw [idxF_none _ _ HK.out];rfl,hx⟩
theorem p8_has (E:Option Addr) (cE n:Nat) (xs:List Pc) (p:Pc→Bool)  (w:World) (hE:Row w E (pcsV xs)) (hn:xs.length=n) (hl:n≤1000000)
  (HF:Hid (∀ x ∈ xs,∀ b W,p x=b→Ext w W→Calls Tryz.prog 140 #[.agg #[.int .i64 x.1,.string ⟨x.2.toArray⟩]] W fun e w'=>e=.returned (.bool b)∧Ext W w')) :
  Calls Tryz.prog 139 #[.slice E n cE,.func (.func 140) #[] #[]] w fun e w'=>e=.returned (.bool ((xs.map p).any idB))∧Ext w w':=by
 have HS:=Lib.hid (idxF_sign idB (xs.map p))
 go_enter Tryz.func139,Tryz.ntmps139
 go_wp2_with fail
 refine (p8_idx E cE n xs p  w hE hn hl HF).mono ?_;rintro e w' ⟨rfl,hx⟩
 go_wp2
 go_ret
 exact ⟨by rw [← HS.out];rfl,hx⟩
theorem s13_idx (E:Option Addr) (cE n:Nat) (vs:List Value) (bs:List Bool) (b0:Nat) (w:World) (hE:Row w E vs) (hn:vs.length=n) (hb:bs.length=n) (hl:n≤1000000)
  (HF:Hid (∀ (i:Nat) v b W,vs[i]? = some v→bs[i]? = some b→Ext w W→Calls Tryz.prog 150 #[v,.pointer (some ⟨b0,0,none⟩)] W fun e w'=>e=.returned (.bool b)∧Ext W w')) :
  Calls Tryz.prog 187 #[.slice E n cE,.func (.func 150) #[] #[.pointer (some ⟨b0,0,none⟩)]] w fun e w'=>e=.returned (.int .i64 (idxF idB bs))∧Ext w w':=by
 have HN:=Lib.hid hn
 go_enter Tryz.func187,Tryz.ntmps187
 go_wp2
 go_loopw [5,8] (fun _ i wr=>∃ k:Nat,k≤n∧i=.int .i64 k∧Hid ((bs.take k).any idB=false)∧Ext w wr) (fun _ i _=>n - (intOf i).toNat)
 case atStart=>exact ⟨0,Nat.zero_le _,rfl,Lib.hid (by simp),Ext.refl _⟩
 case round =>
  obtain ⟨k,hk,rfl,HK,hx⟩:=hrel
  by_cases hlt:k < n
  ·have hkb:k < bs.length:=by omega
   have HA:=Lib.hid (fun h=>idx_hit hkb HK.out h)
   have HT:=Lib.hid (any_snoc idB bs k hkb)
   have hkv:k < vs.length:=by have:=HN.out;omega
   obtain ⟨e0,o0,rfl,hcs⟩:=(hE.below hx (Nat.le_refl _)).at_ hkv
   have hc:=hcs k _ (List.getElem?_eq_getElem hkv)
   have HBK:=Lib.hid (HF.out k _ _ wr (List.getElem?_eq_getElem hkv) (List.getElem?_eq_getElem hkb) hx)
   generalize vs[k]=v at *
   generalize bs[k]=bk at *
   clear hcs
   cases bk
   ·go_wp2_with (go_at_call 150;with_reducible refine HBK.out.mono ?_;rintro e w' ⟨rfl,hx'⟩)
    go_roundw
    case rel=>exact ⟨k+1,by omega,by go_num,Lib.hid (by rw [HT.out,HK.out];rfl),hx.trans hx'⟩
    case measure=>simp [intOf];omega
   ·have HA2:=Lib.hid (HA.out rfl)
    clear HA
    go_wp2_with (go_at_call 150;with_reducible refine HBK.out.mono ?_;rintro e w' ⟨rfl,hx'⟩)
    go_ret
    exact ⟨by rw [HA2.out];rfl,hx.trans hx'⟩
  ·have e:k=n:=by omega
   subst e
   have hb':bs.length=k:=by omega
   rw [← hb',List.take_length] at HK
   go_wp2
   go_ret
   exact ⟨by rw [idxF_none _ _ HK.out];rfl,hx⟩
theorem s13_has (E:Option Addr) (cE n:Nat) (vs:List Value) (bs:List Bool) (b0:Nat) (w:World) (hE:Row w E vs) (hn:vs.length=n) (hb:bs.length=n) (hl:n≤1000000)
  (HF:Hid (∀ (i:Nat) v b W,vs[i]? = some v→bs[i]? = some b→Ext w W→Calls Tryz.prog 150 #[v,.pointer (some ⟨b0,0,none⟩)] W fun e w'=>e=.returned (.bool b)∧Ext W w')) :
  Calls Tryz.prog 149 #[.slice E n cE,.func (.func 150) #[] #[.pointer (some ⟨b0,0,none⟩)]] w fun e w'=>e=.returned (.bool (bs.any idB))∧Ext w w':=by
 have HS:=Lib.hid (idxF_sign idB bs)
 go_enter Tryz.func149,Tryz.ntmps149
 go_wp2_with fail
 refine (s13_idx E cE n vs bs b0 w hE hn hb hl HF).mono ?_;rintro e w' ⟨rfl,hx⟩
 go_wp2
 go_ret
 exact ⟨by rw [← HS.out];rfl,hx⟩
open Go.RowKit Utf All Small Strs Build EncC Pat Cls Go.Proofs.YtcghgkagpkmpeaaGreatDoor.Sys
structure MayL (l:Loc):Prop where
 b:LocB l
 s0:cntK 3 l.p.pre=0
 s1:cntK 3 l.p.suf=0
 s2:cntA 3 l=1
 sys:(⟨l.r.system.toArray⟩:ByteArray) ∈ names
 dec:symL l.r.decimal=true
 grp:if grpZ l then symL l.r.group=true else l.r.group=[]
 min:symL l.r.minus=true
 per:wordL l.r.percent=true∨(l.r.percent=[]∧cntA 2 l=0)
 cur:wordL l.r.currency=true∨(l.r.currency=[]∧cntA 1 l=0)
 lit:∀ q ∈ affs l,∀ p ∈ q,p.1=0→plainL (charsL p.2)=true
 aff:∀ q ∈ affs l,(txtL l q).length≤64
 decT:¬ (0≤signZ l ⟨l.r.decimal.toArray⟩∧signZ l ⟨l.r.decimal.toArray⟩ < 10)
 grpT:grpZ l=true→¬ (0≤signZ l ⟨l.r.group.toArray⟩∧signZ l ⟨l.r.group.toArray⟩ < 11)
 minT:¬ (0≤signZ l ⟨l.r.minus.toArray⟩∧signZ l ⟨l.r.minus.toArray⟩ < 12)
 affT:∀ q ∈ affs l,∀ t ∈ splitS (txtL l q),signZ l ⟨t.toArray⟩=-1
structure RuleR (w:World) (g bl br:Nat) (A B C D:Option Addr) (c d a b:Nat) (l:Loc):Prop where
 loc:LocR w g A B C D c d a b l
 lp:w.cell? ⟨bl,0,none⟩=some (.pointer (some ⟨g,0,none⟩))
 rcd:∀ j v,(recV l.r)[j]? = some v→w.cell? ⟨br,j,none⟩=some v
 tab:Tabs w
section
variable {w w':World} {g bl br:Nat} {A B C D:Option Addr} {c d a b:Nat} {l:Loc}
theorem RuleR.ext (h:RuleR w g bl br A B C D c d a b l) (hx:Ext w w'):RuleR w' g bl br A B C D c d a b l :=
 ⟨h.loc.ext hx,Ext.cell_ hx h.lp,fun j v hv=>Ext.cell_ hx (h.rcd j v hv),h.tab.ext hx⟩
end
theorem sizeL (t:List UInt8):(⟨t.toArray⟩:ByteArray).size=t.length:=by simp [ByteArray.size]
theorem within_l (g:Nat) (A B C D:Option Addr) (c d a b:Nat) (s:ByteArray) (m:Int) (l:Loc) (w:World) (h:LocR w g A B C D c d a b l) (hb:LocB l) (hm:¬ (0≤signZ l s∧signZ l s < m)) :
  Calls Tryz.prog 145 #[.pointer (some ⟨g,0,none⟩),.string s,.int .i64 m] w fun e w'=>e=.returned (.bool false)∧Ext w w':=by
 have HS:Hid (Calls Tryz.prog 73 #[.pointer (some ⟨g,0,none⟩),.string s] w fun e w'=>e=.returned (.int .i64 (signZ l s))∧Ext w w'):=Lib.hid (sign_l g A B C D c d a b s l w h hb)
 clear h
 generalize signZ l s=x at *
 go_enter Tryz.func145,Tryz.ntmps145
 by_cases h0:0≤x
 ·have h1:¬ x < m:=fun h=>hm ⟨h0,h⟩
  clear hm
  go_wp2_with (go_at_call 73;with_reducible refine HS.out.mono ?_;rintro e w1 ⟨rfl,hx1⟩)
  go_ret
  exact ⟨ret_bool (by simp [h1]),hx1⟩
 ·clear hm
  go_wp2_with (go_at_call 73;with_reducible refine HS.out.mono ?_;rintro e w1 ⟨rfl,hx1⟩)
  go_ret
  exact ⟨rfl,hx1⟩
set_option maxRecDepth 100000
theorem rule3 (g bl br:Nat) (A B C D:Option Addr) (c d a b:Nat) (l:Loc) (w:World) (h:RuleR w g bl br A B C D c d a b l) (M:MayL l) :
  Calls Tryz.prog 129 #[.pointer (some ⟨bl,0,none⟩)] w fun e w'=>e=.returned (.bool false)∧Ext w w':=by
 have k0:=h.lp
 have k8:=h.loc.cell (j:=8) (v:=.slice A l.p.pre.length c) rfl
 have k9:=h.loc.cell (j:=9) (v:=.slice B l.p.suf.length d) rfl
 have H1:Hid (∀ W,Ext w W→Calls Tryz.prog 117 #[.slice A l.p.pre.length c,.int .i64 3] W fun e w'=>e=.returned (.int .i64 0)∧Ext W w'):=Lib.hid fun W hW=>by
  have:=count_ A c l.p.pre 3 W (h.loc.ext hW).pt.1 (by have:=M.b.len l.p.pre (by simp [affs]);omega)
  rw [M.s0] at this;exact this
 have H2:Hid (∀ W,Ext w W→Calls Tryz.prog 117 #[.slice B l.p.suf.length d,.int .i64 3] W fun e w'=>e=.returned (.int .i64 0)∧Ext W w'):=Lib.hid fun W hW=>by
  have:=count_ B d l.p.suf 3 W (h.loc.ext hW).pt.2.1 (by have:=M.b.len l.p.suf (by simp [affs]);omega)
  rw [M.s1] at this;exact this
 have H3:Hid (∀ W,Ext w W→Calls Tryz.prog 124 #[.pointer (some ⟨g,0,none⟩),.int .i64 3] W fun e w'=>e=.returned (.int .i64 1)∧Ext W w'):=Lib.hid fun W hW=>by
  have:=count_l g A B C D c d a b 3 l W (h.loc.ext hW) M.b
  rw [M.s2] at this;exact this
 clear h M
 generalize l.p.pre.length=n1 at *
 generalize l.p.suf.length=n2 at *
 have w0:IntKind.i64.wrap (0+0)=0:=by decide
 have w1:IntKind.i64.wrap 0=0:=by decide
 go_enter Tryz.func129,Tryz.ntmps129
 go_wp2
 go_region_held3 (fun W=>Ext w W∧W.cell? ⟨bl,0,none⟩=some (.pointer (some ⟨g,0,none⟩))∧W.cell? ⟨g,8,none⟩=some (.slice A n1 c)∧W.cell? ⟨g,9,none⟩=some (.slice B n2 d))
  (first | exact ⟨Ext.drew_ (Ext.refl _),k0,k8,k9⟩ | (refine (fun h=>⟨h,Ext.cell_ h k0,Ext.cell_ h k8,Ext.cell_ h k9⟩) ?_;first | assumption | exact Ext.drew_ (by assumption)))
  (first
   | (go_at_call 117;with_reducible refine (H1.out _ ?_).mono ?_;(first | assumption | exact Ext.drew_ (Ext.refl _));rintro e w4 ⟨rfl,hx4⟩;(first | (have hE4:=(Ext.drew_ (Ext.refl w)).trans hx4) | (rename Ext w _=>hEo;have hE4:=hEo.trans hx4)))
   | (go_at_call 117;with_reducible refine (H2.out _ ?_).mono ?_;(first | assumption | exact Ext.drew_ (Ext.refl _));rintro e w4 ⟨rfl,hx4⟩;(first | (have hE4:=(Ext.drew_ (Ext.refl w)).trans hx4) | (rename Ext w _=>hEo;have hE4:=hEo.trans hx4)))
   | (go_at_call 124;with_reducible refine (H3.out _ ?_).mono ?_;(first | assumption | exact Ext.drew_ (Ext.refl _));rintro e w4 ⟨rfl,hx4⟩;(first | (have hE4:=(Ext.drew_ (Ext.refl w)).trans hx4) | (rename Ext w _=>hEo;have hE4:=hEo.trans hx4))))
 all_goals go_wp2
 all_goals go_ret
 all_goals exact ⟨rfl,by assumption⟩
set_option maxRecDepth 512
theorem row_names {W:World} {E:Option Addr} (hr:Row W E (names.map Value.string)):∃ b off,E=some ⟨b,off,none⟩∧∀ j,j < names.length→W.cell? ⟨b,off+j,none⟩=some (.string (names.getD j ByteArray.empty)):=by
 obtain ⟨b,off,e,hc⟩:=hr.at_ (k:=0) (by decide)
 refine ⟨b,off,e,fun j hj=>hc j _ ?_⟩
 rw [List.getElem?_map,List.getElem?_eq_getElem hj,List.getD_eq_getElem?_getD,List.getElem?_eq_getElem hj];rfl
theorem has_name (E:Option Addr) (cE:Nat) (s:ByteArray) (hs:s ∈ names) (W:World) (hr:Row W E (names.map Value.string)) :
  Calls Tryz.prog 131 #[.slice E 20 cE,.string s] W fun e w'=>e=.returned (.bool true)∧w'=W:=by
 obtain ⟨b,off,rfl,hc⟩:=row_names hr
 have h:=Tryz.slices_Contains_string b off 20 cE names s W (by decide) (by decide) hc
 have ht:Lib.containsS (names.take 20) s=true:=by
  rw [Lib.containsS_iff,List.take_of_length_le (by decide)];exact hs
 rw [ht] at h;exact h
set_option maxRecDepth 100000
theorem rule4 (g bl br:Nat) (A B C D:Option Addr) (c d a b:Nat) (l:Loc) (w:World) (h:RuleR w g bl br A B C D c d a b l) (M:MayL l) :
  Calls Tryz.prog 130 #[.pointer (some ⟨br,0,none⟩)] w fun e w'=>e=.returned (.bool false)∧Ext w w':=by
 have k2:=h.rcd 2 (.string ⟨l.r.system.toArray⟩) rfl
 have HC:Hid (∀ E cE W,Row W E (names.map Value.string)→Calls Tryz.prog 131 #[.slice E 20 cE,.string ⟨l.r.system.toArray⟩] W fun e w'=>e=.returned (.bool true)∧w'=W):=Lib.hid fun E cE W hr=>has_name E cE _ M.sys W hr
 clear h M
 generalize (⟨l.r.system.toArray⟩:ByteArray)=s at *
 go_enter Tryz.func130,Tryz.ntmps130
 go_wp2
 go_region_held3 (fun W=>Ext w W∧W.cell? ⟨br,2,none⟩=some (.string s))
  (first | exact ⟨Ext.drew_ (Ext.refl _),k2⟩ | (refine (fun h=>⟨h,Ext.cell_ h k2⟩) ?_;first | assumption | exact Ext.drew_ (by assumption)))
  (first
   | (go_at_call 132;with_reducible refine (sys_names _).mono ?_;rintro e w4 ⟨E,cE,rfl,hr4,hx4⟩;have hE4:=(Ext.drew_ (Ext.refl w)).trans hx4)
   | (go_at_call 131;with_reducible refine (HC.out _ _ _ ?_).mono ?_;assumption;rintro e w5 ⟨rfl,rfl⟩))
 all_goals go_wp2
 all_goals go_ret
 all_goals exact ⟨rfl,by assumption⟩
set_option maxRecDepth 512
theorem rule5 (g bl br:Nat) (A B C D:Option Addr) (c d a b:Nat) (l:Loc) (w:World) (h:RuleR w g bl br A B C D c d a b l) (M:MayL l) :
  Calls Tryz.prog 133 #[.pointer (some ⟨br,0,none⟩)] w fun e w'=>e=.returned (.bool false)∧Ext w w':=by
 have k3:=h.rcd 3 (.string ⟨l.r.decimal.toArray⟩) rfl
 have HS:Hid (Calls Tryz.prog 134 #[.string ⟨l.r.decimal.toArray⟩] w fun e w'=>e=.returned (.bool true)∧Ext w w'):=Lib.hid (by
  have:=symbol_ ⟨l.r.decimal.toArray⟩ w (by rw [sizeL];have:=M.b.dec;omega) h.tab
  rwa [show (⟨l.r.decimal.toArray⟩:ByteArray).data.toList=l.r.decimal by simp,M.dec] at this)
 clear h M
 generalize (⟨l.r.decimal.toArray⟩:ByteArray)=s at *
 go_enter Tryz.func133,Tryz.ntmps133
 go_wp2_with (go_at_call 134;with_reducible refine HS.out.mono ?_;rintro e w1 ⟨rfl,hx1⟩)
 go_ret
 exact ⟨rfl,hx1⟩
theorem rule7 (g bl br:Nat) (A B C D:Option Addr) (c d a b:Nat) (l:Loc) (w:World) (h:RuleR w g bl br A B C D c d a b l) (M:MayL l) :
  Calls Tryz.prog 137 #[.pointer (some ⟨br,0,none⟩)] w fun e w'=>e=.returned (.bool false)∧Ext w w':=by
 have k5:=h.rcd 5 (.string ⟨l.r.minus.toArray⟩) rfl
 have HS:Hid (Calls Tryz.prog 134 #[.string ⟨l.r.minus.toArray⟩] w fun e w'=>e=.returned (.bool true)∧Ext w w'):=Lib.hid (by
  have:=symbol_ ⟨l.r.minus.toArray⟩ w (by rw [sizeL];have:=M.b.min;omega) h.tab
  rwa [show (⟨l.r.minus.toArray⟩:ByteArray).data.toList=l.r.minus by simp,M.min] at this)
 clear h M
 generalize (⟨l.r.minus.toArray⟩:ByteArray)=s at *
 go_enter Tryz.func137,Tryz.ntmps137
 go_wp2_with (go_at_call 134;with_reducible refine HS.out.mono ?_;rintro e w1 ⟨rfl,hx1⟩)
 go_ret
 exact ⟨rfl,hx1⟩
theorem rule6 (g bl br:Nat) (A B C D:Option Addr) (c d a b:Nat) (l:Loc) (w:World) (h:RuleR w g bl br A B C D c d a b l) (M:MayL l) :
  Calls Tryz.prog 135 #[.pointer (some ⟨bl,0,none⟩),.pointer (some ⟨br,0,none⟩)] w fun e w'=>e=.returned (.bool false)∧Ext w w':=by
 have k0:=h.lp
 have k4:=h.rcd 4 (.string ⟨l.r.group.toArray⟩) rfl
 have HG:Hid (∀ W,Ext w W→Calls Tryz.prog 136 #[.pointer (some ⟨g,0,none⟩)] W fun e w'=>e=.returned (.bool (grpZ l))∧Ext W w'):=Lib.hid fun W hW=>groups_ g A B C D c d a b l W (h.loc.ext hW)
 have hgr:=M.grp
 cases hz:grpZ l
 ·rw [hz] at hgr HG
  have he:l.r.group=[]:=hgr
  rw [he] at k4
  clear h M hgr hz
  go_enter Tryz.func135,Tryz.ntmps135
  go_wp2_with (first
   | (go_at_call 136;with_reducible refine (HG.out _ (Ext.refl _)).mono ?_;rintro e w1 ⟨rfl,hx1⟩;have k0:=Ext.cell_ hx1 k0;have k4:=Ext.cell_ hx1 k4)
   | (go_at_call 136;with_reducible refine (HG.out _ hx1).mono ?_;rintro e w2 ⟨rfl,hx2⟩;have k0:=Ext.cell_ hx2 k0;have k4:=Ext.cell_ hx2 k4;have hx3:=hx1.trans hx2))
  go_ret
  exact ⟨rfl,hx3⟩
 ·rw [hz] at hgr HG
  have hy:symL l.r.group=true:=hgr
  have HS:Hid (∀ W,Ext w W→Calls Tryz.prog 134 #[.string ⟨l.r.group.toArray⟩] W fun e w'=>e=.returned (.bool true)∧Ext W w'):=Lib.hid fun W hW=>by
   have:=symbol_ ⟨l.r.group.toArray⟩ W (by rw [sizeL];have:=M.b.grp;omega) (h.tab.ext hW)
   rwa [show (⟨l.r.group.toArray⟩:ByteArray).data.toList=l.r.group by simp,hy] at this
  clear h M hgr hz
  generalize (⟨l.r.group.toArray⟩:ByteArray)=s at *
  go_enter Tryz.func135,Tryz.ntmps135
  go_wp2_with (first
   | (go_at_call 136;with_reducible refine (HG.out _ (Ext.refl _)).mono ?_;rintro e w1 ⟨rfl,hx1⟩;have k0:=Ext.cell_ hx1 k0;have k4:=Ext.cell_ hx1 k4)
   | (go_at_call 134;with_reducible refine (HS.out _ hx1).mono ?_;rintro e w2 ⟨rfl,hx2⟩;have k0:=Ext.cell_ hx2 k0;have hx3:=hx1.trans hx2)
   | (go_at_call 136;with_reducible refine (HG.out _ hx3).mono ?_;rintro e w3 ⟨rfl,hx4⟩;have hx5:=hx3.trans hx4))
  go_ret
  exact ⟨rfl,hx5⟩
theorem spare_ (t:List UInt8) (kd:Int) (bl:Nat) (w:World) :
  Calls Tryz.prog 121 #[.string ⟨t.toArray⟩,.int .i64 kd,.pointer (some ⟨bl,0,none⟩)] w fun e w'=>∃ bs bk,e=.returned (.func (.func 122) #[] #[.pointer (some ⟨bs,0,none⟩),.pointer (some ⟨bl,0,none⟩),.pointer (some ⟨bk,0,none⟩)])∧w'.cell? ⟨bs,0,none⟩=some (.string ⟨t.toArray⟩)∧w'.cell? ⟨bk,0,none⟩=some (.int .i64 kd)∧Ext w w':=by
 go_enter Tryz.func121,Tryz.ntmps121
 go_wp2
 go_ret
 refine ⟨w.heap.size,w.heap.size+1,by simp,?_,?_,Ext.alloc_ (Ext.alloc_ (Ext.refl w) _) _⟩
 ·exact (((Box.newN rfl).alloc _:Box _ w.heap.size 9 [.string ⟨t.toArray⟩])).cell (j:=0) rfl
 ·exact (Box.newN (by simp):Box _ (w.heap.size+1) 3 [.int .i64 kd]).cell (j:=0) rfl
theorem spare1 (g bl br bs bk:Nat) (A B C D:Option Addr) (c d a b:Nat) (l:Loc) (t:List UInt8) (kd:Int) (w:World) (h:RuleR w g bl br A B C D c d a b l) (hb:LocB l) (ht:t.length≤1000)
  (hs:w.cell? ⟨bs,0,none⟩=some (.string ⟨t.toArray⟩)) (hk:w.cell? ⟨bk,0,none⟩=some (.int .i64 kd)) (hc:wordL t=true∨(t=[]∧cntA kd l=0)) :
  Calls Tryz.prog 122 #[.pointer (some ⟨bs,0,none⟩),.pointer (some ⟨bl,0,none⟩),.pointer (some ⟨bk,0,none⟩)] w fun e w'=>e=.returned (.bool false)∧Ext w w':=by
 have k0:=h.lp
 have HW:Hid (Calls Tryz.prog 123 #[.string ⟨t.toArray⟩] w fun e w'=>e=.returned (.bool (wordL t))∧Ext w w'):=Lib.hid (by
  have:=word_ ⟨t.toArray⟩ w (by rw [sizeL];omega) h.tab
  rwa [show (⟨t.toArray⟩:ByteArray).data.toList=t by simp] at this)
 have HC:Hid (∀ W,Ext w W→Calls Tryz.prog 124 #[.pointer (some ⟨g,0,none⟩),.int .i64 kd] W fun e w'=>e=.returned (.int .i64 (cntA kd l))∧Ext W w'):=Lib.hid fun W hW=>count_l g A B C D c d a b kd l W (h.loc.ext hW) hb
 clear h
 cases hw:wordL t
 ·rw [hw] at HW hc
  obtain ⟨rfl,h0⟩:=hc.resolve_left (by simp)
  rw [h0] at HC
  clear hc hw h0
  go_enter Tryz.func122,Tryz.ntmps122
  go_wp2_with (first
   | (go_at_call 123;with_reducible refine HW.out.mono ?_;rintro e w1 ⟨rfl,hx1⟩;have k0:=Ext.cell_ hx1 k0;have hs:=Ext.cell_ hx1 hs;have hk:=Ext.cell_ hx1 hk)
   | (go_at_call 124;with_reducible refine (HC.out _ hx1).mono ?_;rintro e w2 ⟨rfl,hx2⟩))
  go_ret
  exact ⟨rfl,hx1.trans hx2⟩
 ·rw [hw] at HW
  clear hc hw
  generalize (⟨t.toArray⟩:ByteArray)=s at *
  go_enter Tryz.func122,Tryz.ntmps122
  go_wp2_with (go_at_call 123;with_reducible refine HW.out.mono ?_;rintro e w1 ⟨rfl,hx1⟩)
  go_ret
  exact ⟨rfl,hx1⟩
theorem any_false {n:Nat}:(List.replicate n false).any idB=false:=by
 rw [List.any_eq_false];intro x hx;rw [List.eq_of_mem_replicate hx];simp
theorem aff_el {w:World} {A B C D:Option Addr} {c d a b:Nat} {l:Loc} (hp:PtR w A B C D l.p) {i:Nat} {v:Value} (hv:(affV A B C D c d a b l)[i]? = some v):∃ q X k,q ∈ affs l∧v=.slice X q.length k∧Row w X (pcsV q):=by
 obtain ⟨h1,h2,h3,h4⟩:=hp
 match i,hv with
 | 0,hv=>cases hv;exact ⟨l.p.pre,A,c,by simp [affs],rfl,h1⟩
 | 1,hv=>cases hv;exact ⟨l.p.suf,B,d,by simp [affs],rfl,h2⟩
 | 2,hv=>cases hv;exact ⟨l.p.npre,C,a,by simp [affs],rfl,h3⟩
 | 3,hv=>cases hv;exact ⟨l.p.nsuf,D,b,by simp [affs],rfl,h4⟩
 | i+4,hv=>simp [affV] at hv
theorem some_ (f:Nat) (cs:Array Value) (bl:Nat) (w:World) :
  Calls Tryz.prog 125 #[.func (.func f) #[] cs,.pointer (some ⟨bl,0,none⟩)] w fun e w'=>∃ bo,e=.returned (.func (.func 126) #[] #[.pointer (some ⟨bl,0,none⟩),.pointer (some ⟨bo,0,none⟩)])∧w'.cell? ⟨bo,0,none⟩=some (.func (.func f) #[] cs)∧Ext w w':=by
 go_enter Tryz.func125,Tryz.ntmps125
 go_wp2
 go_ret
 exact ⟨w.heap.size,rfl,(Box.newN rfl:Box _ w.heap.size _ [.func (.func f) #[] cs]).cell (j:=0) rfl,Ext.alloc_ (Ext.refl w) _⟩
theorem odd8p (x:Pc) (w:World) (hx:x.2.length≤1000) :
  Calls Tryz.prog 140 #[.agg #[.int .i64 x.1,.string ⟨x.2.toArray⟩]] w fun e w'=>e=.returned (.bool (x.1 == 0 && !plainL (charsL x.2)))∧Ext w w':=by
 obtain ⟨k,t⟩:=x
 have hb:=Box.new w 181 [.int .i64 k,.string ⟨t.toArray⟩]
 have hx1:Ext w (w.alloc (.cells ([.int .i64 k,.string ⟨t.toArray⟩]:List Value).toArray 181)):=Ext.alloc_ (Ext.refl w) _
 have k0:=hb.cell (j:=0) rfl
 have k1:=hb.cell (j:=1) rfl
 have hd:(⟨t.toArray⟩:ByteArray).data.toList=t:=by simp
 have hcl:=chars_len_le t
 have hx':t.length≤1000:=hx
 have HA:Hid (∀ W,Calls Tryz.prog 88 #[.string ⟨t.toArray⟩] W fun e w'=>∃ A c,e=.returned (.slice A (charsL t).length c)∧Row w' A ((charsL t).map (Value.int .i64))∧(charsL t).length≤c∧c≤maxLen∧Ext W w'):=Lib.hid fun W=>by
  have:=utf_all ⟨t.toArray⟩ W (by rw [sizeL];omega)
  rwa [hd] at this
 go_enter Tryz.func140,Tryz.ntmps140
 by_cases h0:k=0
 ·subst h0
  go_wp2_with fail
  refine (HA.out _).mono ?_
  rintro e w2 ⟨A,c,rfl,hr,_,_,hx2⟩
  go_wp2_with fail
  refine (plain_ _ _ _ _ hr (by unfold maxLen;omega)).mono ?_
  rintro e w3 ⟨rfl,hx3⟩
  go_wp2
  go_ret
  exact ⟨rfl,(hx1.trans hx2).trans hx3⟩
 ·have h0':(k == 0)=false:=by simp [h0]
  go_wp2
  go_ret
  exact ⟨rfl,hx1⟩
theorem odd8 (X:Option Addr) (cp n:Nat) (q:List Pc) (w:World) (hX:Row w X (pcsV q)) (hn:q.length=n) (hl:n≤1000) (ht:∀ p ∈ q,p.2.length≤1000) (hp:∀ p ∈ q,p.1=0→plainL (charsL p.2)=true) :
  Calls Tryz.prog 138 #[.slice X n cp] w fun e w'=>e=.returned (.bool false)∧Ext w w':=by
 have HP:=Lib.hid (p8_has X cp n q (fun x=>x.1 == 0 && !plainL (charsL x.2)) w hX hn (by omega) (Lib.hid fun x hx b W e _=>by rw [← e];exact odd8p x W (ht x hx)))
 have HF:Hid ((q.map fun x=>x.1 == 0 && !plainL (charsL x.2)).any idB=false):=Lib.hid (by
  rw [List.any_eq_false]
  intro b hb
  obtain ⟨x,hx,rfl⟩:=List.mem_map.1 hb
  by_cases h0:x.1=0
  ·simp [hp x hx h0]
  ·simp [h0])
 rw [HF.out] at HP
 clear hX HF
 go_enter Tryz.func138,Tryz.ntmps138
 go_wp2_with (go_at_call 139;with_reducible refine HP.out.mono ?_;rintro e w1 ⟨rfl,hx1⟩)
 go_ret
 exact ⟨rfl,hx1⟩
theorem odd9 (g bl br:Nat) (A B C D X:Option Addr) (c d a b cp n:Nat) (l:Loc) (q:List Pc) (w:World) (h:RuleR w g bl br A B C D c d a b l) (M:MayL l) (hX:Row w X (pcsV q)) (hn:q.length=n) (hq:q ∈ affs l) :
  Calls Tryz.prog 142 #[.slice X n cp,.pointer (some ⟨bl,0,none⟩)] w fun e w'=>e=.returned (.bool false)∧Ext w w':=by
 have k0:=h.lp
 have HT:=Lib.hid (text_l g A B C D X c d a b n cp q l w h.loc M.b hX hn (by have:=M.b.len q hq;omega) (M.b.txt q hq))
 have hl:=M.aff q hq
 have hsz:((⟨(txtL l q).toArray⟩:ByteArray).size:Int)≤64:=by rw [sizeL];omega
 clear h hX M
 generalize (⟨(txtL l q).toArray⟩:ByteArray)=s at *
 have h64:¬ (s.size:Int) > 64:=by omega
 go_enter Tryz.func142,Tryz.ntmps142
 go_wp2_with (go_at_call 143;with_reducible refine HT.out.mono ?_;rintro e w1 ⟨rfl,hx1⟩)
 go_ret
 exact ⟨ret_bool (by simp;omega),hx1⟩
theorem odd13s (g bl br:Nat) (A B C D:Option Addr) (c d a b:Nat) (l:Loc) (s:ByteArray) (w:World) (h:RuleR w g bl br A B C D c d a b l) (hb:LocB l) (hs:signZ l s=-1) :
  Calls Tryz.prog 150 #[.string s,.pointer (some ⟨bl,0,none⟩)] w fun e w'=>e=.returned (.bool false)∧Ext w w':=by
 have k0:=h.lp
 have HS:=Lib.hid (sign_l g A B C D c d a b s l w h.loc hb)
 rw [hs] at HS
 clear h
 go_enter Tryz.func150,Tryz.ntmps150
 go_wp2_with (go_at_call 73;with_reducible refine HS.out.mono ?_;rintro e w1 ⟨rfl,hx1⟩)
 go_ret
 exact ⟨rfl,hx1⟩
theorem odd13 (g bl br:Nat) (A B C D X:Option Addr) (c d a b cp n:Nat) (l:Loc) (q:List Pc) (w:World) (h:RuleR w g bl br A B C D c d a b l) (M:MayL l) (hX:Row w X (pcsV q)) (hn:q.length=n) (hq:q ∈ affs l) :
  Calls Tryz.prog 148 #[.slice X n cp,.pointer (some ⟨bl,0,none⟩)] w fun e w'=>e=.returned (.bool false)∧Ext w w':=by
 have k0:=h.lp
 have HT:=Lib.hid (text_l g A B C D X c d a b n cp q l w h.loc M.b hX hn (by have:=M.b.len q hq;omega) (M.b.txt q hq))
 have hl:=M.aff q hq
 have HSP:Hid (∀ W,Calls Tryz.prog 43 #[.string ⟨(txtL l q).toArray⟩] W fun e w'=>∃ A c,e=.returned (.slice A (splitS (txtL l q)).length c)∧Row w' A (strsV (splitS (txtL l q)))∧Ext W w'):=Lib.hid fun W=>by
  have:=split_ ⟨(txtL l q).toArray⟩ W (by rw [sizeL];omega)
  rwa [show (⟨(txtL l q).toArray⟩:ByteArray).data.toList=txtL l q by simp] at this
 have hsl:(splitS (txtL l q)).length≤1000000:=by
  unfold splitS;rw [cuts_len];have:=starts_len_le (txtL l q);omega
 have HS:Hid (∀ E cE n W,Ext w W→n=(splitS (txtL l q)).length→Row W E (strsV (splitS (txtL l q)))→Calls Tryz.prog 149 #[.slice E n cE,.func (.func 150) #[] #[.pointer (some ⟨bl,0,none⟩)]] W fun e w'=>e=.returned (.bool false)∧Ext W w'):=Lib.hid fun E cE n W hW hn hr=>by
  subst hn
  have:=s13_has E cE _ (strsV (splitS (txtL l q))) (List.replicate (splitS (txtL l q)).length false) bl W hr (by unfold strsV;simp) (by simp) hsl (Lib.hid fun i v bb W' hv hbb hW'=>by
   have hbf:bb=false:=List.eq_of_mem_replicate (List.mem_of_getElem? hbb)
   subst hbf
   unfold strsV at hv
   rw [List.getElem?_map] at hv
   obtain ⟨t,ht,rfl⟩:=Option.map_eq_some_iff.1 hv
   exact odd13s g bl br A B C D c d a b l ⟨t.toArray⟩ W' (h.ext (hW.trans hW')) M.b (M.affT q hq t (List.mem_of_getElem? ht)))
  rwa [any_false] at this
 clear h hX M hl
 go_enter Tryz.func148,Tryz.ntmps148
 go_wp2_with (go_at_call 143;with_reducible refine HT.out.mono ?_;rintro e w1 ⟨rfl,hx1⟩)
 refine (HSP.out _).mono ?_
 rintro e w2 ⟨E,cE,rfl,hr2,hx2⟩
 go_wp2_with (go_at_call 149;with_reducible refine (HS.out _ _ _ _ (hx1.trans hx2) ?_ hr2).mono ?_;rfl;rintro e w3 ⟨rfl,hx3⟩)
 go_ret
 exact ⟨rfl,(hx1.trans hx2).trans hx3⟩
theorem some8 (g bl br bo:Nat) (A B C D:Option Addr) (c d a b:Nat) (l:Loc) (w:World) (h:RuleR w g bl br A B C D c d a b l) (M:MayL l) (ho:w.cell? ⟨bo,0,none⟩=some (.func (.func 138) #[] #[])) :
  Calls Tryz.prog 126 #[.pointer (some ⟨bl,0,none⟩),.pointer (some ⟨bo,0,none⟩)] w fun e w'=>e=.returned (.bool false)∧Ext w w':=by
 have k0:=h.lp
 have HA:Hid (∀ W,Ext w W→Calls Tryz.prog 128 #[.pointer (some ⟨g,0,none⟩)] W fun e w'=>∃ E,e=.returned (.slice E 4 4)∧Row w' E (affV A B C D c d a b l)∧Ext W w'):=Lib.hid fun W hW=>affixes_ g A B C D c d a b l W (h.loc.ext hW)
 have HC:Hid (∀ E W,Ext w W→Row W E (affV A B C D c d a b l)→Calls Tryz.prog 127 #[.slice E 4 4,.func (.func 138) #[] #[]] W fun e w'=>e=.returned (.bool false)∧Ext W w'):=Lib.hid fun E W hW hr=>by
  have:=a8_has E 4 4 (affV A B C D c d a b l) (List.replicate 4 false) W hr rfl rfl (by decide) (Lib.hid fun i v bb W' hv hbb hW'=>by
   have hbf:bb=false:=List.eq_of_mem_replicate (List.mem_of_getElem? hbb)
   subst hbf
   obtain ⟨q,X,k,hq,rfl,hX⟩:=aff_el (h.loc.ext (hW.trans hW')).pt hv
   exact odd8 X k q.length q W' hX rfl (M.b.len q hq) (M.b.txt q hq) (M.lit q hq))
  rwa [any_false] at this
 clear h M
 go_enter Tryz.func126,Tryz.ntmps126
 go_wp2
 go_region_held3 (fun W=>Ext w W∧W.cell? ⟨bl,0,none⟩=some (.pointer (some ⟨g,0,none⟩))∧W.cell? ⟨bo,0,none⟩=some (.func (.func 138) #[] #[]))
  (first | exact ⟨Ext.drew_ (Ext.refl _),k0,ho⟩ | (refine (fun h=>⟨h,Ext.cell_ h k0,Ext.cell_ h ho⟩) ?_;first | assumption | exact Ext.drew_ (by assumption)))
  (first
   | (go_at_call 128;with_reducible refine (HA.out _ ?_).mono ?_;(first | assumption | exact Ext.drew_ (Ext.refl _));rintro e w4 ⟨E,rfl,hr4,hx4⟩;have hE4:=(Ext.drew_ (Ext.refl w)).trans hx4)
   | (go_at_call 127;with_reducible refine (HC.out _ _ ?_ ?_).mono ?_;assumption;assumption;rintro e w5 ⟨rfl,hx5⟩;have hE5:=hE4.trans hx5))
 all_goals go_wp2
 all_goals go_ret
 all_goals exact ⟨rfl,by assumption⟩
theorem some9 (g bl br bo:Nat) (A B C D:Option Addr) (c d a b:Nat) (l:Loc) (w:World) (h:RuleR w g bl br A B C D c d a b l) (M:MayL l) (ho:w.cell? ⟨bo,0,none⟩=some (.func (.func 142) #[] #[.pointer (some ⟨bl,0,none⟩)])) :
  Calls Tryz.prog 126 #[.pointer (some ⟨bl,0,none⟩),.pointer (some ⟨bo,0,none⟩)] w fun e w'=>e=.returned (.bool false)∧Ext w w':=by
 have k0:=h.lp
 have HA:Hid (∀ W,Ext w W→Calls Tryz.prog 128 #[.pointer (some ⟨g,0,none⟩)] W fun e w'=>∃ E,e=.returned (.slice E 4 4)∧Row w' E (affV A B C D c d a b l)∧Ext W w'):=Lib.hid fun W hW=>affixes_ g A B C D c d a b l W (h.loc.ext hW)
 have HC:Hid (∀ E W,Ext w W→Row W E (affV A B C D c d a b l)→Calls Tryz.prog 127 #[.slice E 4 4,.func (.func 142) #[] #[.pointer (some ⟨bl,0,none⟩)]] W fun e w'=>e=.returned (.bool false)∧Ext W w'):=Lib.hid fun E W hW hr=>by
  have:=a9_has E 4 4 (affV A B C D c d a b l) (List.replicate 4 false) bl W hr rfl rfl (by decide) (Lib.hid fun i v bb W' hv hbb hW'=>by
   have hbf:bb=false:=List.eq_of_mem_replicate (List.mem_of_getElem? hbb)
   subst hbf
   obtain ⟨q,X,k,hq,rfl,hX⟩:=aff_el (h.loc.ext (hW.trans hW')).pt hv
   exact odd9 g bl br A B C D X c d a b k q.length l q W' (h.ext (hW.trans hW')) M hX rfl hq)
  rwa [any_false] at this
 clear h M
 go_enter Tryz.func126,Tryz.ntmps126
 go_wp2
 go_region_held3 (fun W=>Ext w W∧W.cell? ⟨bl,0,none⟩=some (.pointer (some ⟨g,0,none⟩))∧W.cell? ⟨bo,0,none⟩=some (.func (.func 142) #[] #[.pointer (some ⟨bl,0,none⟩)]))
  (first | exact ⟨Ext.drew_ (Ext.refl _),k0,ho⟩ | (refine (fun h=>⟨h,Ext.cell_ h k0,Ext.cell_ h ho⟩) ?_;first | assumption | exact Ext.drew_ (by assumption)))
  (first
   | (go_at_call 128;with_reducible refine (HA.out _ ?_).mono ?_;(first | assumption | exact Ext.drew_ (Ext.refl _));rintro e w4 ⟨E,rfl,hr4,hx4⟩;have hE4:=(Ext.drew_ (Ext.refl w)).trans hx4)
   | (go_at_call 127;with_reducible refine (HC.out _ _ ?_ ?_).mono ?_;assumption;assumption;rintro e w5 ⟨rfl,hx5⟩;have hE5:=hE4.trans hx5))
 all_goals go_wp2
 all_goals go_ret
 all_goals exact ⟨rfl,by assumption⟩
theorem some13 (g bl br bo:Nat) (A B C D:Option Addr) (c d a b:Nat) (l:Loc) (w:World) (h:RuleR w g bl br A B C D c d a b l) (M:MayL l) (ho:w.cell? ⟨bo,0,none⟩=some (.func (.func 148) #[] #[.pointer (some ⟨bl,0,none⟩)])) :
  Calls Tryz.prog 126 #[.pointer (some ⟨bl,0,none⟩),.pointer (some ⟨bo,0,none⟩)] w fun e w'=>e=.returned (.bool false)∧Ext w w':=by
 have k0:=h.lp
 have HA:Hid (∀ W,Ext w W→Calls Tryz.prog 128 #[.pointer (some ⟨g,0,none⟩)] W fun e w'=>∃ E,e=.returned (.slice E 4 4)∧Row w' E (affV A B C D c d a b l)∧Ext W w'):=Lib.hid fun W hW=>affixes_ g A B C D c d a b l W (h.loc.ext hW)
 have HC:Hid (∀ E W,Ext w W→Row W E (affV A B C D c d a b l)→Calls Tryz.prog 127 #[.slice E 4 4,.func (.func 148) #[] #[.pointer (some ⟨bl,0,none⟩)]] W fun e w'=>e=.returned (.bool false)∧Ext W w'):=Lib.hid fun E W hW hr=>by
  have:=a13_has E 4 4 (affV A B C D c d a b l) (List.replicate 4 false) bl W hr rfl rfl (by decide) (Lib.hid fun i v bb W' hv hbb hW'=>by
   have hbf:bb=false:=List.eq_of_mem_replicate (List.mem_of_getElem? hbb)
   subst hbf
   obtain ⟨q,X,k,hq,rfl,hX⟩:=aff_el (h.loc.ext (hW.trans hW')).pt hv
   exact odd13 g bl br A B C D X c d a b k q.length l q W' (h.ext (hW.trans hW')) M hX rfl hq)
  rwa [any_false] at this
 clear h M
 go_enter Tryz.func126,Tryz.ntmps126
 go_wp2
 go_region_held3 (fun W=>Ext w W∧W.cell? ⟨bl,0,none⟩=some (.pointer (some ⟨g,0,none⟩))∧W.cell? ⟨bo,0,none⟩=some (.func (.func 148) #[] #[.pointer (some ⟨bl,0,none⟩)]))
  (first | exact ⟨Ext.drew_ (Ext.refl _),k0,ho⟩ | (refine (fun h=>⟨h,Ext.cell_ h k0,Ext.cell_ h ho⟩) ?_;first | assumption | exact Ext.drew_ (by assumption)))
  (first
   | (go_at_call 128;with_reducible refine (HA.out _ ?_).mono ?_;(first | assumption | exact Ext.drew_ (Ext.refl _));rintro e w4 ⟨E,rfl,hr4,hx4⟩;have hE4:=(Ext.drew_ (Ext.refl w)).trans hx4)
   | (go_at_call 127;with_reducible refine (HC.out _ _ ?_ ?_).mono ?_;assumption;assumption;rintro e w5 ⟨rfl,hx5⟩;have hE5:=hE4.trans hx5))
 all_goals go_wp2
 all_goals go_ret
 all_goals exact ⟨rfl,by assumption⟩
theorem rule10 (g bl br:Nat) (A B C D:Option Addr) (c d a b:Nat) (l:Loc) (w:World) (h:RuleR w g bl br A B C D c d a b l) (M:MayL l) :
  Calls Tryz.prog 144 #[.pointer (some ⟨bl,0,none⟩),.pointer (some ⟨br,0,none⟩)] w fun e w'=>e=.returned (.bool false)∧Ext w w':=by
 have k0:=h.lp
 have k1:=h.rcd 3 (.string ⟨l.r.decimal.toArray⟩) rfl
 have HW:=Lib.hid (within_l g A B C D c d a b ⟨l.r.decimal.toArray⟩ 10 l w h.loc M.b M.decT)
 clear h M
 generalize (⟨l.r.decimal.toArray⟩:ByteArray)=s at *
 go_enter Tryz.func144,Tryz.ntmps144
 go_wp2_with (go_at_call 145;with_reducible refine HW.out.mono ?_;rintro e w1 ⟨rfl,hx1⟩)
 go_ret
 exact ⟨rfl,hx1⟩
theorem rule12 (g bl br:Nat) (A B C D:Option Addr) (c d a b:Nat) (l:Loc) (w:World) (h:RuleR w g bl br A B C D c d a b l) (M:MayL l) :
  Calls Tryz.prog 147 #[.pointer (some ⟨bl,0,none⟩),.pointer (some ⟨br,0,none⟩)] w fun e w'=>e=.returned (.bool false)∧Ext w w':=by
 have k0:=h.lp
 have k1:=h.rcd 5 (.string ⟨l.r.minus.toArray⟩) rfl
 have HW:=Lib.hid (within_l g A B C D c d a b ⟨l.r.minus.toArray⟩ 12 l w h.loc M.b M.minT)
 clear h M
 generalize (⟨l.r.minus.toArray⟩:ByteArray)=s at *
 go_enter Tryz.func147,Tryz.ntmps147
 go_wp2_with (go_at_call 145;with_reducible refine HW.out.mono ?_;rintro e w1 ⟨rfl,hx1⟩)
 go_ret
 exact ⟨rfl,hx1⟩
theorem rule11 (g bl br:Nat) (A B C D:Option Addr) (c d a b:Nat) (l:Loc) (w:World) (h:RuleR w g bl br A B C D c d a b l) (M:MayL l) :
  Calls Tryz.prog 146 #[.pointer (some ⟨bl,0,none⟩),.pointer (some ⟨br,0,none⟩)] w fun e w'=>e=.returned (.bool false)∧Ext w w':=by
 have k0:=h.lp
 have k4:=h.rcd 4 (.string ⟨l.r.group.toArray⟩) rfl
 have HG:=Lib.hid (groups_ g A B C D c d a b l w h.loc)
 cases hz:grpZ l
 ·rw [hz] at HG
  clear h M hz
  go_enter Tryz.func146,Tryz.ntmps146
  go_wp2_with (go_at_call 136;with_reducible refine HG.out.mono ?_;rintro e w1 ⟨rfl,hx1⟩)
  go_ret
  exact ⟨rfl,hx1⟩
 ·rw [hz] at HG
  have HW:Hid (∀ W,Ext w W→Calls Tryz.prog 145 #[.pointer (some ⟨g,0,none⟩),.string ⟨l.r.group.toArray⟩,.int .i64 11] W fun e w'=>e=.returned (.bool false)∧Ext W w'):=Lib.hid fun W hW=>within_l g A B C D c d a b ⟨l.r.group.toArray⟩ 11 l W (h.loc.ext hW) M.b (M.grpT hz)
  clear h M hz
  generalize (⟨l.r.group.toArray⟩:ByteArray)=s at *
  go_enter Tryz.func146,Tryz.ntmps146
  go_wp2_with (first
   | (go_at_call 136;with_reducible refine HG.out.mono ?_;rintro e w1 ⟨rfl,hx1⟩;have k0:=Ext.cell_ hx1 k0;have k4:=Ext.cell_ hx1 k4)
   | (go_at_call 145;with_reducible refine (HW.out _ hx1).mono ?_;rintro e w2 ⟨rfl,hx2⟩))
  go_ret
  exact ⟨rfl,hx1.trans hx2⟩
theorem infoRec:(Tryz.prog.info? 84).map (·.size)=some 8:=by kernel_rfl
theorem rec_one (r:Rec):(recV r).toArray.all (·.oneCell')=true:=by simp [recV,sV,Value.oneCell']
def spareV (bs bl bk:Nat):Value:=.func (.func 122) #[] #[.pointer (some ⟨bs,0,none⟩),.pointer (some ⟨bl,0,none⟩),.pointer (some ⟨bk,0,none⟩)]
def someV (bl bo:Nat):Value:=.func (.func 126) #[] #[.pointer (some ⟨bl,0,none⟩),.pointer (some ⟨bo,0,none⟩)]
def isSpare (bl:Nat) (t:List UInt8) (kd:Int) (v:Value) (W:World):Prop:=∃ bs bk,v=spareV bs bl bk∧W.cell? ⟨bs,0,none⟩=some (.string ⟨t.toArray⟩)∧W.cell? ⟨bk,0,none⟩=some (.int .i64 kd)
def isSome (bl:Nat) (F:Value) (v:Value) (W:World):Prop:=∃ bo,v=someV bl bo∧W.cell? ⟨bo,0,none⟩=some F
theorem isSpare.ext {bl:Nat} {t:List UInt8} {kd:Int} {v:Value} {w w':World} (hx:Ext w w'):isSpare bl t kd v w→isSpare bl t kd v w':=fun ⟨bs,bk,e,h1,h2⟩=>⟨bs,bk,e,Ext.cell_ hx h1,Ext.cell_ hx h2⟩
theorem isSome.ext {bl:Nat} {F:Value} {v:Value} {w w':World} (hx:Ext w w'):isSome bl F v w→isSome bl F v w':=fun ⟨bo,e,h1⟩=>⟨bo,e,Ext.cell_ hx h1⟩
def F8:Value:=.func (.func 138) #[] #[]
def F9 (bl:Nat):Value:=.func (.func 142) #[] #[.pointer (some ⟨bl,0,none⟩)]
def F13 (bl:Nat):Value:=.func (.func 148) #[] #[.pointer (some ⟨bl,0,none⟩)]
def entV (s:List UInt8) (e:Int) (f:Value):List Value:=[sV s,.int .i64 e,f]
def fn1 (f:Nat) (b:Nat):Value:=.func (.func f) #[] #[.pointer (some ⟨b,0,none⟩)]
def fn2 (f:Nat) (b c:Nat):Value:=.func (.func f) #[] #[.pointer (some ⟨b,0,none⟩),.pointer (some ⟨c,0,none⟩)]
def fnsV (bl br:Nat) (u5 u6 u7 u8 u12:Value):List Value:=[fn1 129 bl,fn1 130 br,fn1 133 br,fn2 135 bl br,fn1 137 br,u5,u6,u7,u8,fn2 144 bl br,fn2 146 bl br,fn2 147 bl br,u12]
def wheres:List (List UInt8 × Int):=[([112,97,116,116,101,114,110],5),([115,121,115,116,101,109],7),([100,101,99,105,109,97,108],2),([103,114,111,117,112],2),([109,105,110,117,115],2),([112,101,114,99,101,110,116],2),([99,117,114,114,101,110,99,121],2),([97,102,102,105,120],2),([97,102,102,105,120],3),([100,101,99,105,109,97,108],6),([103,114,111,117,112],6),([109,105,110,117,115],6),([97,102,102,105,120],6)]
def rulesV (fs:List Value):List Value:=(wheres.zip fs).flatMap fun x=>entV x.1.1 x.1.2 x.2
open Go.RowKit Utf All Small Strs Build EncC Pat Cls Dec Go.Proofs.YtcghgkagpkmpeaaGreatDoor.Sys
def digs (r:Rec):List (List UInt8):=(List.range 10).map fun (d:Nat)=>digB ⟨r.system.toArray⟩ (d:Int)
def digsTo (r:Rec) (k:Nat):List (List UInt8):=(digs r).take k++List.replicate (10 - k) []
theorem digs_len (r:Rec):(digs r).length=10:=by simp [digs]
theorem digsTo_len (r:Rec) {k:Nat} (h:k≤10):(digsTo r k).length=10:=by unfold digsTo;simp [digs_len];omega
theorem digs_at (r:Rec) {k:Nat} (h:k < 10):(digs r)[k]'(by rw [digs_len];exact h)=digB ⟨r.system.toArray⟩ (k:Int):=by simp [digs]
theorem digsTo_succ (r:Rec) {k:Nat} (h:k < 10):(digsTo r k).set k (digB ⟨r.system.toArray⟩ (k:Int))=digsTo r (k+1):=by
 have hk:k < (digs r).length:=by rw [digs_len];exact h
 have h1:((digs r).take k).length=k:=by simp;omega
 unfold digsTo
 rw [List.set_append_right _ _ (by omega),h1,Nat.sub_self,List.take_succ_eq_append_getElem hk,digs_at r h,List.append_assoc]
 congr 1
 obtain ⟨m,hm⟩:∃ m,10 - k=m+1:=⟨9 - k,by omega⟩
 rw [hm,List.replicate_succ,show 10 - (k+1)=m by omega]
 rfl
theorem digsTo_ten (r:Rec):digsTo r 10=digs r:=by unfold digsTo;rw [List.take_of_length_le (by rw [digs_len];exact Nat.le_refl _)];simp
def locB (l:Loc):Bool:=decide (l.d.length=10) && (affs l).all (fun q=>decide (q.length≤1000) && q.all fun p=>decide (p.2.length≤1000)) &&
 decide (l.r.decimal.length≤1000) && decide (l.r.group.length≤1000) && decide (l.r.minus.length≤1000) && decide (l.r.percent.length≤1000) && decide (l.r.currency.length≤1000)
theorem locB_of {l:Loc} (h:locB l=true):LocB l:=by
 unfold locB at h
 simp only [Bool.and_eq_true,decide_eq_true_eq,List.all_eq_true] at h
 obtain ⟨⟨⟨⟨⟨⟨h1,h2⟩,h3⟩,h4⟩,h5⟩,h6⟩,h7⟩:=h
 exact ⟨h1,fun q hq=>(h2 q hq).1,fun q hq p hp=>(h2 q hq).2 p hp,h3,h4,h5,h6,h7⟩
def outB (n m:Int):Bool:=!(decide (0≤n) && decide (n < m))
theorem outB_of {n m:Int} (h:outB n m=true):¬ (0≤n∧n < m):=by
 unfold outB at h
 simp only [Bool.not_eq_true',Bool.and_eq_false_imp,decide_eq_true_eq,decide_eq_false_iff_not] at h
 exact fun ⟨h1,h2⟩=>h h1 h2
def mayB (l:Loc):Bool:=locB l && decide (cntK 3 l.p.pre=0) && decide (cntK 3 l.p.suf=0) && decide (cntA 3 l=1) && names.any (fun n=>decide (n.data.toList=l.r.system)) && symL l.r.decimal &&
 (if grpZ l then symL l.r.group else l.r.group.isEmpty) && symL l.r.minus && (wordL l.r.percent || (l.r.percent.isEmpty && decide (cntA 2 l=0))) && (wordL l.r.currency || (l.r.currency.isEmpty && decide (cntA 1 l=0))) &&
 (affs l).all (fun q=>(q.all fun p=>!decide (p.1=0) || plainL (charsL p.2)) && decide ((txtL l q).length≤64) && (splitS (txtL l q)).all fun t=>decide (signZ l ⟨t.toArray⟩=-1)) &&
 outB (signZ l ⟨l.r.decimal.toArray⟩) 10 && (!grpZ l || outB (signZ l ⟨l.r.group.toArray⟩) 11) && outB (signZ l ⟨l.r.minus.toArray⟩) 12
theorem may_of {l:Loc} (h:mayB l=true):MayL l:=by
 unfold mayB at h
 simp only [Bool.and_eq_true,Bool.or_eq_true,decide_eq_true_eq,List.all_eq_true,List.any_eq_true,List.isEmpty_iff,Bool.not_eq_true',decide_eq_false_iff_not] at h
 obtain ⟨⟨⟨⟨⟨⟨⟨⟨⟨⟨⟨⟨⟨hb,h0⟩,h1⟩,h2⟩,h3⟩,h4⟩,h5⟩,h6⟩,h7⟩,h8⟩,h9⟩,h10⟩,h11⟩,h12⟩:=h
 refine ⟨locB_of hb,h0,h1,h2,?_,h4,?_,h6,h7,h8,fun q hq p hp h=>?_,fun q hq=>(h9 q hq).1.2,outB_of h10,fun hg=>?_,outB_of h12,fun q hq t ht=>(h9 q hq).2 t ht⟩
 ·obtain ⟨n,hn,he⟩:=h3
  have:(⟨l.r.system.toArray⟩:ByteArray)=n:=bytes_ext (by rw [← he])
  rw [this];exact hn
 ·cases hz:grpZ l
  ·rw [hz] at h5;simpa using h5
  ·rw [hz] at h5;simpa using h5
 ·rcases (h9 q hq).1.1 p hp with h' | h'
  ·exact absurd h h'
  ·exact h'
 ·rcases h11 with h' | h'
  ·rw [hg] at h';cases h'
  ·exact outB_of h'
end Go.Proofs.YtcghgkagpkmpeaaGreatDoor.Loc
