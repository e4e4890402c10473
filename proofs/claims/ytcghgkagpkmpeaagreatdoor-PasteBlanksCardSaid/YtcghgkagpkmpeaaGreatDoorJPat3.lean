/- Joined by wip/join.py: PatT PatE PatF PatG PatH PatL PatS. -/
import Derived.Test.YtcghgkagpkmpeaaGreatDoorJPat2
import Derived.Test.YtcghgkagpkmpeaaGreatDoorJPat1
import Derived.Test.YtcghgkagpkmpeaaGreatDoorJBuild
import Derived.Laws.StructEq
import Derived.Deep.MidRow
import Derived.Deep.RegionHeld3
import Derived.Deep.RegionWith
import Derived.Deep.DeepCutAuto
set_option linter.unusedVariables false
set_option linter.unusedSimpArgs false
set_option maxHeartbeats 4000000
namespace Go.Proofs.YtcghgkagpkmpeaaGreatDoor.Pat
open Go.RowKit Utf All Small EncC
def noQ:List Int→Bool
 | []=>true
 | c :: _=>c != 39
theorem noQ_ne {ys:List Int} (h:noQ ys=true):∀ c r',ys=c :: r'→c ≠ 39:=by
 intro c r' e;subst e;simpa [noQ] using h
end Go.Proofs.YtcghgkagpkmpeaaGreatDoor.Pat
namespace Go.Proofs.YtcghgkagpkmpeaaGreatDoor.Pat
open Go.RowKit Utf All Small Strs Build
theorem countB_le (l:List UInt8):Lib.countB ⟨l.toArray⟩ ⟨#[39]⟩≤l.length:=by
 have:Lib.countB ⟨l.toArray⟩ ⟨#[39]⟩=l.count 39:=Lib.count_one 39 _
 rw [this];exact List.count_le_length
abbrev isBp (b:Nat) (p:Value):Prop:=p=.pointer none∨p=.pointer (some ⟨b,0,none⟩)
theorem ButS.on {S S':Nat→Prop} {w1 w w':World} (h:ButS S w1 w) (k:ButS S' w w') (hs:∀ k,k < w1.heap.size→S' k→S k):ButS S w1 w' :=
 ⟨k.os.trans h.os,k.tape.trans h.tape,k.output.trans h.output,Nat.le_trans h.size k.size,fun i hi hn=>(k.block i (Nat.lt_of_lt_of_le hi h.size) (fun e=>hn (hs i hi e))).trans (h.block i hi hn)⟩
abbrev Two (b:Nat):Nat→Prop:=fun k=>k=b∨k=b+1
structure EscR (b:Nat) (w1 w:World) (out run:List UInt8):Prop where
 ex:∃ p v q u base,w.heap[b]? = some (.cells #[p,v] 214 (0,0))∧isBp b p∧w.ownsRow w1.heap.size 5 1 v out.length (Lib.byteCells out) ∧
  w.heap[b+1]? = some (.cells #[q,u] 214 (0,0))∧isBp (b+1) q∧w.ownsRow base 5 1 u run.length (Lib.byteCells run) ∧
  (∀ k,v.ownBlock=some k→k < base)∧w1.heap.size≤base∧base≤w.heap.size∧(run=[]→u=.slice none 0 0)
 lt:b+1 < w1.heap.size
 but:ButS (Two b) w1 w
theorem strCells_l (l:List UInt8):Lib.strCells ⟨l.toArray⟩=Lib.byteCells l:=Lib.strCells_eq _
theorem cells_app (l m:List UInt8):Lib.byteCells l++Lib.byteCells m=Lib.byteCells (l++m):=(Lib.byteCells_append l m).symm
def Mid (b:Nat) (w1 w:World) (out:List UInt8):Prop:=∃ p v q u,w.heap[b]? = some (.cells #[p,v] 214 (0,0))∧isBp b p∧w.ownsRow w1.heap.size 5 1 v out.length (Lib.byteCells out) ∧
   w.heap[b+1]? = some (.cells #[q,u] 214 (0,0))∧b+1 < w1.heap.size∧ButS (Two b) w1 w
theorem Mid.ext {b:Nat} {w1 w w':World} {out:List UInt8} (h:Mid b w1 w out) (hx:Ext w w'):Mid b w1 w' out:=by
 obtain ⟨p,v,q,u,hb,hp,hv,hr,hl,hbut⟩:=h
 exact ⟨p,v,q,u,(hx.block _ (heap_lt hb)).trans hb,hp,own_move hv fun k hk=>hx.block k (hv.lt k hk).2,(hx.block _ (heap_lt hr)).trans hr,hl,ButS.on hbut (ButS.of_ext (S:=fun _=>False) hx) fun _ _ e=>e.elim⟩
open Go.RowKit Utf All Small Strs Build EncC
theorem Row.but {b:Nat} {v w:World} {A:Option Addr} {cs:List Value} (h:Row v A cs) (hb:ButS (Two b) v w) (hf:∀ g off,A=some ⟨g,off,none⟩→cs ≠ []→g ≠ b∧g ≠ b+1):Row w A cs:=by
 rcases h with h | ⟨g,off,rfl,h⟩
 ·exact .inl h
 ·refine .inr ⟨g,off,rfl,fun j u hj=>?_⟩
  have hg:=block_lt (h j u hj)
  have:=hf g off rfl (by rintro rfl;simp at hj)
  exact (World.cell?_of_block (hb.block g hg (by rintro (e | e) <;> simp_all))).trans (h j u hj)
theorem EscR.ext {b:Nat} {w1 w w':World} {out run:List UInt8} (h:EscR b w1 w out run) (hx:Ext w w'):EscR b w1 w' out run:=by
 obtain ⟨⟨p,v,q,u,base,hb,hp,hv,hr,hq,hu,hlt,hb2,hbw,hn⟩,hl1,hbut⟩:=h
 exact ⟨⟨p,v,q,u,base,(hx.block _ (heap_lt hb)).trans hb,hp,own_move hv fun k hk=>hx.block k (hv.lt k hk).2,(hx.block _ (heap_lt hr)).trans hr,hq,own_move hu fun k hk=>hx.block k (hu.lt k hk).2,hlt,hb2,Nat.le_trans hbw hx.size,hn⟩,hl1,
  ButS.on hbut (ButS.of_ext (S:=fun _=>False) hx) fun _ _ e=>e.elim⟩
theorem pos_of {w:World} (HM:∃ m,w.cell? ⟨2,0,none⟩=some (.int .i64 m)):2 < w.heap.size:=by
 obtain ⟨m,hm⟩:=HM
 exact block_lt hm
theorem parse_ok {s:ByteArray} {p:Pt} (hp:parseF s.data.toList=.ok p) (w:World) (hs:s.size≤100000000) :
  Calls Tryz.prog 65 #[.string s] w fun e w'=>∃ A c B d C a D b,e=.returned (.tuple #[.agg (patC (.slice A p.pre.length c) (.slice B p.suf.length d) (.slice C p.npre.length a) (.slice D p.nsuf.length b) p.num).toArray,.int .i64 0]) ∧
   Row w' A (pcsV p.pre)∧Row w' B (pcsV p.suf)∧Row w' C (pcsV p.npre)∧Row w' D (pcsV p.nsuf)∧Okc A c∧Okc B d∧Okc C a∧Okc D b∧Ext w w' :=
 (parse_ s w hs).mono fun e w' h=>by rw [hp] at h;exact h
def lives1:Pt:=⟨[],[(0,[32,120])],[(3,[])],[(0,[32,120])],⟨3,3,1,2,2⟩⟩
def PtR (w:World) (A B C D:Option Addr) (p:Pt):Prop:=Row w A (pcsV p.pre)∧Row w B (pcsV p.suf)∧Row w C (pcsV p.npre)∧Row w D (pcsV p.nsuf)
theorem PtR.ext {w w':World} {A B C D:Option Addr} {p:Pt} (h:PtR w A B C D p) (hx:Ext w w'):PtR w' A B C D p:=⟨h.1.below hx (Nat.le_refl _),h.2.1.below hx (Nat.le_refl _),h.2.2.1.below hx (Nat.le_refl _),h.2.2.2.below hx (Nat.le_refl _)⟩
def resF (cur per min:List UInt8) (l:List Pc):List UInt8:=l.flatMap fun p=>if p.1=1 then cur else if p.1=2 then per else if p.1=3 then min else p.2
theorem resF_snoc (cur per min:List UInt8) {l:List Pc} {k:Nat} (hk:k < l.length):resF cur per min (l.take (k+1))=resF cur per min (l.take k)++(if l[k].1=1 then cur else if l[k].1=2 then per else if l[k].1=3 then min else l[k].2):=by
 unfold resF;rw [List.take_succ_eq_append_getElem hk,List.flatMap_append];simp
set_option maxRecDepth 100000
theorem resolve_ (A:Option Addr) (c:Nat) (cur per min:List UInt8) (l:List Pc) (w:World) (hA:Row w A (pcsV l)) (hl:l.length≤1000) (hc:cur.length≤100000) (hp:per.length≤100000) (hm:min.length≤100000) (hk:∀ p ∈ l,p.2.length≤100000) :
  Calls Tryz.prog 186 #[.slice A l.length c,.string ⟨cur.toArray⟩,.string ⟨per.toArray⟩,.string ⟨min.toArray⟩] w fun e w'=>e=.returned (.string ⟨(resF cur per min l).toArray⟩)∧Ext w w':=by
 have HK:=Lib.hid hk
 clear hk
 go_enter Tryz.func186,Tryz.ntmps186
 go_wp2
 go_loopw [9,14] (fun s i wr=>∃ k:Nat,k≤l.length∧i=.int .i64 k∧Ext w wr∧s=.string ⟨(resF cur per min (l.take k)).toArray⟩∧(resF cur per min (l.take k)).length≤100000 * k) (fun _ i _=>l.length - (intOf i).toNat)
 case atStart=>exact ⟨0,Nat.zero_le _,rfl,Ext.refl _,rfl,by simp [resF]⟩
 case round =>
  obtain ⟨k,hk,rfl,hx,rfl,hle⟩:=hrel
  by_cases hlt:k < l.length
  ·obtain ⟨b,off,rfl,hc1,hc2⟩:=row_pc (hA.below hx (Nat.le_refl _)) hlt
   have HR:=Lib.hid (pc_range hc1 hc2)
   have HS:=Lib.hid (resF_snoc cur per min hlt)
   have ht:=HK.out _ (List.getElem_mem hlt)
   generalize l[k]=x at *
   obtain ⟨j,t⟩:=x
   simp only at ht
   have hbx:=Box.new wr 181 [.int .i64 j,.string ⟨t.toArray⟩]
   have HX:Hid (Ext w (wr.alloc (.cells #[.int .i64 j,.string ⟨t.toArray⟩] 181))):=Lib.hid (Ext.alloc_ hx _)
   clear hx
   by_cases h1:j=1
   ·have HV:Hid ((if (j,t).1=1 then cur else if (j,t).1=2 then per else if (j,t).1=3 then min else (j,t).2)=cur):=Lib.hid (by simp only;rw [if_pos h1])
    have hb1:(j == 1)=true:=by simpa using h1
    clear h1
    go_wp2_with (first | (refine wpList_load_mid rfl 181 (.tmp 16) rfl b (off+k * 2) rfl [.int .i64 j,.string ⟨t.toArray⟩] _ HR.out Tryz.underlying181 rfl infoPc ?_))
    go_roundw
    case rel=>exact ⟨k+1,by omega,by go_num,HX.out,by rw [HS.out,HV.out,app_mk],by rw [HS.out,HV.out,List.length_append];omega⟩
    case measure=>simp [intOf];omega
   by_cases h2:j=2
   ·have HV:Hid ((if (j,t).1=1 then cur else if (j,t).1=2 then per else if (j,t).1=3 then min else (j,t).2)=per):=Lib.hid (by simp only;rw [if_neg h1,if_pos h2])
    have hb1:(j == 1)=false:=by simpa using h1
    have hb2:(j == 2)=true:=by simpa using h2
    clear h1 h2
    go_wp2_with (first | (refine wpList_load_mid rfl 181 (.tmp 16) rfl b (off+k * 2) rfl [.int .i64 j,.string ⟨t.toArray⟩] _ HR.out Tryz.underlying181 rfl infoPc ?_))
    go_roundw
    case rel=>exact ⟨k+1,by omega,by go_num,HX.out,by rw [HS.out,HV.out,app_mk],by rw [HS.out,HV.out,List.length_append];omega⟩
    case measure=>simp [intOf];omega
   by_cases h3:j=3
   ·have HV:Hid ((if (j,t).1=1 then cur else if (j,t).1=2 then per else if (j,t).1=3 then min else (j,t).2)=min):=Lib.hid (by simp only;rw [if_neg h1,if_neg h2,if_pos h3])
    have hb1:(j == 1)=false:=by simpa using h1
    have hb2:(j == 2)=false:=by simpa using h2
    have hb3:(j == 3)=true:=by simpa using h3
    clear h1 h2 h3
    go_wp2_with (first | (refine wpList_load_mid rfl 181 (.tmp 16) rfl b (off+k * 2) rfl [.int .i64 j,.string ⟨t.toArray⟩] _ HR.out Tryz.underlying181 rfl infoPc ?_))
    go_roundw
    case rel=>exact ⟨k+1,by omega,by go_num,HX.out,by rw [HS.out,HV.out,app_mk],by rw [HS.out,HV.out,List.length_append];omega⟩
    case measure=>simp [intOf];omega
   have HV:Hid ((if (j,t).1=1 then cur else if (j,t).1=2 then per else if (j,t).1=3 then min else (j,t).2)=t):=Lib.hid (by simp only;rw [if_neg h1,if_neg h2,if_neg h3])
   have hb1:(j == 1)=false:=by simpa using h1
   have hb2:(j == 2)=false:=by simpa using h2
   have hb3:(j == 3)=false:=by simpa using h3
   clear h1 h2 h3
   go_wp2_with (first | (refine wpList_load_mid rfl 181 (.tmp 16) rfl b (off+k * 2) rfl [.int .i64 j,.string ⟨t.toArray⟩] _ HR.out Tryz.underlying181 rfl infoPc ?_))
   go_roundw
   case rel=>exact ⟨k+1,by omega,by go_num,HX.out,by rw [HS.out,HV.out,app_mk],by rw [HS.out,HV.out,List.length_append];omega⟩
   case measure=>simp [intOf];omega
  ·have e:k=l.length:=by omega
   subst e
   rw [List.take_length]
   go_wp2
   go_ret
   exact ⟨rfl,hx⟩
end Go.Proofs.YtcghgkagpkmpeaaGreatDoor.Pat
