/- Joined by wip/join.py: Base Acc Acc2 Box. -/
import Derived.Test.YtcghgkagpkmpeaaGreatDoorRows
import Derived.WalkKit
import Derived.WalkLawsBesides
import Derived.Handy
import Derived.BigQuiet
import Derived.Deep.QuietTactic
import Derived.Lib.Hide
import Derived.Maps.AppendAt
import Derived.Deep.MidRow
import Derived.Laws.CopyOwn
set_option linter.unusedVariables false
set_option linter.unusedSimpArgs false
namespace Go.Proofs.YtcghgkagpkmpeaaGreatDoor
open Go.RowKit
theorem ret_int {k:IntKind} {a b:Int} (h:a=b):Ending.returned (.int k a)=.returned (.int k b):=by rw [h]
theorem ret_bool {a b:Bool} (h:a=b):Ending.returned (.bool a)=.returned (.bool b):=by rw [h]
def Row (w:World) (A:Option Addr) (cs:List Value):Prop :=
 cs=[]∨∃ b off,A=some ⟨b,off,none⟩∧∀ j v,cs[j]? = some v→w.cell? ⟨b,off+j,none⟩=some v
section
variable {w w':World} {A:Option Addr} {cs:List Value}
theorem Row.nil:Row w A []:=.inl rfl
theorem Row.at_ {k:Nat} (h:Row w A cs) (hk:k < cs.length):∃ b off,A=some ⟨b,off,none⟩∧∀ j v,cs[j]? = some v→w.cell? ⟨b,off+j,none⟩=some v:=by
 rcases h with rfl | h
 ·simp at hk
 ·exact h
theorem block_lt {b off:Nat} {v:Value} (h:w.cell? ⟨b,off,none⟩=some v):b < w.heap.size:=by
 rcases Nat.lt_or_ge b w.heap.size with hl | hl
 ·exact hl
 ·simp [World.cell?, Array.getElem?_eq_none hl] at h
theorem Row.keep (h:Row w A cs) (hk:∀ b off,b < w.heap.size→w'.cell? ⟨b,off,none⟩=w.cell? ⟨b,off,none⟩):Row w' A cs:=by
 rcases h with rfl | ⟨b,off,e,hc⟩
 ·exact .inl rfl
 ·exact .inr ⟨b,off,e,fun j v hv=>(hk _ _ (block_lt (hc j v hv))).trans (hc j v hv)⟩
theorem Row.below {B:Nat} (h:Row w A cs) (hb:Below B w w') (hB:w.heap.size≤B):Row w' A cs :=
 h.keep fun b off hl=>hb.cell (p:=⟨b,off,none⟩) (Nat.lt_of_lt_of_le hl hB)
theorem Row.drop {k:Nat} (h:Row w A cs):Row w (A.map fun a=>⟨a.block,a.off+k,a.spot⟩) (cs.drop k):=by
 rcases h with rfl | ⟨b,off,e,hc⟩
 ·exact .inl (by simp)
 ·refine .inr ⟨b,off+k,by rw [e];rfl,fun j v hv=>?_⟩
  rw [Nat.add_assoc]
  exact hc _ v (by rw [← hv,List.getElem?_drop])
theorem Row.take {k:Nat} (h:Row w A cs):Row w A (cs.take k):=by
 rcases h with rfl | ⟨b,off,e,hc⟩
 ·exact .inl (by simp)
 ·exact .inr ⟨b,off,e,fun j v hv=>hc j v (by rw [List.getElem?_take] at hv;split at hv;exact hv;cases hv)⟩
theorem Row.of_own {base n:Nat} {e:TypeId} {size c:Nat} (h:w.ownsRow base e size (.slice A n c) n cs):Row w A cs:=by
 rcases h.2 with ⟨hv,hc⟩ | ⟨g,cap,cur,hv,_⟩
 ·refine .inl (List.eq_nil_of_length_eq_zero ?_);rw [h.1,hc,Nat.zero_mul]
 ·refine .inr ⟨g,0,by injection hv,fun j v hj=>?_⟩
  have:=h.cells (g:=g) (by rw [hv];rfl) j v hj
  unfold Addr.add at this
  split at this
  ·rename_i h0;rw [Nat.zero_add,h0];exact this
  ·exact this
end
theorem Row.cell0 {w:World} {b off:Nat} {cs:List Value} {k:Nat} {v:Value} (h:Row w (some ⟨b,off,none⟩) cs) (hv:cs[k]? = some v):w.cell? ⟨b,off+k,none⟩=some v:=by
 rcases h with rfl | ⟨b',off',e,hc⟩
 ·simp at hv
 ·injection e with e
  injection e with e1 e2
  subst e1;subst e2
  exact hc k v hv
theorem Row.cell00 {w:World} {b:Nat} {cs:List Value} {k:Nat} {v:Value} (h:Row w (some ⟨b,0,none⟩) cs) (hv:cs[k]? = some v):w.cell? ⟨b,k,none⟩=some v:=by
 have:=h.cell0 hv
 rwa [Nat.zero_add] at this
theorem Ext.cell_ {w w':World} (h:Below w.heap.size w w') {b off:Nat} {v:Value} (hc:w.cell? ⟨b,off,none⟩=some v):w'.cell? ⟨b,off,none⟩=some v :=
 (h.cell (p:=⟨b,off,none⟩) (block_lt hc)).trans hc
abbrev Ext (w w':World):Prop:=Below w.heap.size w w'
theorem ext_drewN (w:World) (n:Nat):Below w.heap.size w (w.drewN n):=⟨rfl,rfl,rfl,Nat.le_refl _,fun _ _=>rfl⟩
theorem Ext.refl (w:World):Ext w w:=Below.refl _ _
theorem Ext.trans {a b c:World} (h:Ext a b) (k:Ext b c):Ext a c:=Below.trans h (k.mono h.size)
theorem bytes_ext {x s:ByteArray} (h:x.data.toList=s.data.toList):x=s:=by
 cases x;cases s;congr;exact Array.toList_inj.1 h
theorem beq_str (x s:ByteArray):(x.toList == s.toList)=decide (x=s):=by
 rw [Bool.eq_iff_iff,beq_iff_eq,decide_eq_true_iff,ByteArray.toList_eq,ByteArray.toList_eq]
 exact ⟨bytes_ext,fun h=>by rw [h]⟩
theorem beq_strL (x s:ByteArray):(x.toList == s.toList)=decide (x.data.toList=s.data.toList):=by
 rw [Bool.eq_iff_iff,beq_iff_eq,decide_eq_true_iff,ByteArray.toList_eq,ByteArray.toList_eq]
theorem app_mk (l m:List UInt8):(⟨l.toArray⟩:ByteArray)++⟨m.toArray⟩=⟨(l++m).toArray⟩:=by
 apply bytes_ext
 simp [ByteArray.data_append]
def bytesZ (ns:List Int):List UInt8:=ns.map fun n=>UInt8.ofNat n.toNat
theorem foldl_push (ns:List Int):∀ s:ByteArray,ns.foldl (fun r n=>r.push (UInt8.ofNat n.toNat)) s=⟨(s.data.toList++bytesZ ns).toArray⟩:=by
 induction ns with
 | nil=>intro s;simp [bytesZ]
 | cons n ns ih =>
  intro s
  rw [List.foldl_cons,ih]
  simp [bytesZ,ByteArray.push]
theorem run_bytes_str (w:World) (A:Option Addr) (c:Nat) (ns:List Int) (h:Row w A (ns.map (Value.int .u8))) :
  (convert 208 9 (.slice A ns.length c)).run Tryz.prog w=.ok (.string ⟨(bytesZ ns).toArray⟩) w:=by
 rw [run_convert_bytes_string w _ _ _ A ns.length c Tryz.underlying208 Tryz.underlying5 Tryz.underlying9]
 rcases A with _ | a
 ·rcases h with h | ⟨b,off,h,_⟩
  ·simp at h;subst h;rfl
  ·cases h
 ·rw [run_bytesToString w a ns.length c ns,foldl_push]
  ·rfl
  ·have hl:ns.length=(ns.map (Value.int .u8)).length:=by simp
   rw [hl]
   refine run_loadCells_list w a _ ?_
   intro j v hv
   rcases h with h | ⟨b,off,h,hc⟩
   ·rw [h] at hv;simp at hv
   ·injection h with h
    subst h
    have:=hc j v hv
    unfold Addr.add
    split
    ·rename_i h0;subst h0;exact this
    ·exact this
theorem row_new (w:World) (cs:List Value) (e:TypeId):Row (w.alloc (.cells cs.toArray e)) (some ⟨w.heap.size,0,none⟩) cs :=
 .inr ⟨_,_,rfl,fun j v hv=>by simp [hv]⟩
theorem run_lit1 (w:World) (a:Int):(convert 208 9 (.slice (some ⟨w.heap.size,0,none⟩) 1 1)).run Tryz.prog (w.alloc (.cells #[.int .u8 a] 5))=.ok (.string ⟨(bytesZ [a]).toArray⟩) (w.alloc (.cells #[.int .u8 a] 5)) :=
 run_bytes_str _ _ 1 [a] (row_new w [.int .u8 a] _)
theorem run_lit2 (w:World) (a b:Int):(convert 208 9 (.slice (some ⟨w.heap.size,0,none⟩) 2 2)).run Tryz.prog (w.alloc (.cells #[.int .u8 a,.int .u8 b] 5))=.ok (.string ⟨(bytesZ [a,b]).toArray⟩) (w.alloc (.cells #[.int .u8 a,.int .u8 b] 5)) :=
 run_bytes_str _ _ 2 [a,b] (row_new w [.int .u8 a,.int .u8 b] _)
theorem run_lit3 (w:World) (a b c:Int):(convert 208 9 (.slice (some ⟨w.heap.size,0,none⟩) 3 3)).run Tryz.prog (w.alloc (.cells #[.int .u8 a,.int .u8 b,.int .u8 c] 5))=.ok (.string ⟨(bytesZ [a,b,c]).toArray⟩) (w.alloc (.cells #[.int .u8 a,.int .u8 b,.int .u8 c] 5)) :=
 run_bytes_str _ _ 3 [a,b,c] (row_new w [.int .u8 a,.int .u8 b,.int .u8 c] _)
theorem run_lit4 (w:World) (a b c d:Int):(convert 208 9 (.slice (some ⟨w.heap.size,0,none⟩) 4 4)).run Tryz.prog (w.alloc (.cells #[.int .u8 a,.int .u8 b,.int .u8 c,.int .u8 d] 5))=.ok (.string ⟨(bytesZ [a,b,c,d]).toArray⟩) (w.alloc (.cells #[.int .u8 a,.int .u8 b,.int .u8 c,.int .u8 d] 5)) :=
 run_bytes_str _ _ 4 [a,b,c,d] (row_new w [.int .u8 a,.int .u8 b,.int .u8 c,.int .u8 d] _)
theorem row_of_is {k:IntKind} {w:World} {a:Option Addr} {len cap:Nat} {zs:List Int}
  (h:(a=none∧len=0∧cap=0∧zs=[])∨∃ x,a=some x∧len≤cap∧cap≤maxLen∧zs.length=cap∧(∀ i,i < zs.length→w.cell? (x.add i)=some (.int k (zs.getD i 0)))∧∀ n ∈ zs,(Lit.int k n).wf=true) :
  len≤cap∧cap≤maxLen∧∃ xs:List Int,xs.length=len∧Row w a (xs.map (Value.int k))∧∀ n ∈ xs,(Lit.int k n).wf=true:=by
 rcases h with ⟨rfl,rfl,rfl,rfl⟩ | ⟨x,rfl,hl,hm,hz,hc,hw⟩
 ·exact ⟨Nat.le_refl _,Nat.zero_le _,[],rfl,.inl rfl,by simp⟩
 ·refine ⟨hl,hm,zs.take len,by simp;omega,?_,fun n hn=>hw n (List.mem_of_mem_take hn)⟩
  by_cases h0:zs.length=0
  ·have:zs=[]:=List.eq_nil_of_length_eq_zero h0
   subst this
   exact .inl (by simp)
  ·have hs:=World.cell?_spot (hc 0 (by omega))
   obtain ⟨b,off,spot⟩:=x
   have hsp:spot=none:=by simpa [Addr.add] using hs
   subst hsp
   refine .inr ⟨b,off,rfl,fun j v hv=>?_⟩
   rw [List.getElem?_map,List.getElem?_take] at hv
   split at hv
   ·cases hj:zs[j]? with
    | none=>rw [hj] at hv;cases hv
    | some n =>
     rw [hj] at hv
     have hlt:j < zs.length:=by
      rcases Nat.lt_or_ge j zs.length with h | h
      ·exact h
      ·rw [List.getElem?_eq_none h] at hj;cases hj
     have hcj:=hc j hlt
     have hg:zs.getD j 0=n:=by rw [List.getD_eq_getElem?_getD,hj];rfl
     rw [hg] at hcj
     have hv':v=.int k n:=by simpa using hv.symm
     rw [hv']
     unfold Addr.add at hcj
     split at hcj
     ·rename_i h0;subst h0;exact hcj
     ·exact hcj
   ·cases hv
structure EI (T e sz byt:Nat):Prop where
 ht:Tryz.prog.underlying T=some (.slice e)
 hi:∃ i z,Tryz.prog.info? e=some i∧i.zero=some z∧i.size=sz∧i.bytes=byt∧z.cells.size=sz
 pos:0 < sz
theorem ei_of {T e sz byt:Nat} {z:Value} (ht:Tryz.prog.underlying T=some (.slice e)) (h:(Tryz.prog.info? e).map (fun i=>(i.zero,i.size,i.bytes))=some (some z,sz,byt)) (hz:z.cells.size=sz) (hp:0 < sz):EI T e sz byt:=by
 refine ⟨ht,?_,hp⟩
 cases hi:Tryz.prog.info? e with
 | none=>rw [hi] at h;cases h
 | some i =>
  rw [hi] at h
  simp only [Option.map_some,Option.some.injEq,Prod.mk.injEq] at h
  exact ⟨i,z,rfl,h.1,h.2.1,h.2.2,hz⟩
theorem ei_int:EI 41 3 1 8:=ei_of (z:=.int .i64 0) Tryz.underlying41 (by kernel_rfl) rfl (by decide)
theorem ei_str:EI 35 9 1 16:=ei_of (z:=.string ⟨#[]⟩) Tryz.underlying35 (by kernel_rfl) rfl (by decide)
structure Acc (e sz:Nat) (w0 w:World) (A:Option Addr) (c n:Nat) (cs:List Value):Prop where
 own:w.ownsRow w0.heap.size e sz (.slice A n c) n cs
 ext:Below w0.heap.size w0 w
section
variable {e sz:Nat} {w0 w w':World} {A:Option Addr} {c n:Nat} {cs:List Value}
theorem Acc.start (e sz:Nat) (w:World):Acc e sz w w none 0 0 []:=⟨World.ownsRow_nil _ _ _ _,Below.refl _ _⟩
theorem Acc.start_of (e sz:Nat) (h:Ext w0 w):Acc e sz w0 w none 0 0 []:=⟨World.ownsRow_nil _ _ _ _,h⟩
theorem Acc.row (h:Acc e sz w0 w A c n cs):Row w A cs:=Row.of_own h.own
theorem grown_of_ext (h:Ext w w') (row:Option Nat):w.grownBy w' row:=⟨h.os,h.tape,h.output,h.size,fun i hi _=>h.block i hi⟩
theorem Acc.step (h:Acc e sz w0 w A c n cs) (hx:Ext w w'):Acc e sz w0 w' A c n cs:=by
 refine ⟨h.own.kept (grown_of_ext hx none) ?_,h.ext.trans (hx.mono h.ext.size)⟩
 cases A with
 | none=>exact .inl rfl
 | some a=>exact .inr (by simp [Value.ownBlock])
theorem Acc.alloc (h:Acc e sz w0 w A c n cs) (o:Obj):Acc e sz w0 (w.alloc o) A c n cs:=h.step ((Below.refl _ _).alloc (Nat.le_refl _) o)
theorem Acc.drew (h:Acc e sz w0 w A c n cs):Acc e sz w0 w.drew A c n cs:=h.step (Below.refl _ _).drew
theorem Acc.len (h:Acc e sz w0 w A c n cs):cs.length=n * sz:=h.own.1
theorem Acc.cap (h:Acc e sz w0 w A c n cs):n≤c∧c≤maxLen:=by
 rcases h.own.2 with ⟨hv,hn⟩ | ⟨g,cap,cur,hv,_,_,h1,h2,_⟩
 ·injection hv with _ _ hc;subst hn;subst hc;exact ⟨Nat.le_refl _,Nat.zero_le _⟩
 ·injection hv with _ _ hc;subst hc;exact ⟨h1,h2⟩
theorem Acc.keep (h:Acc e sz w0 w A c n cs) {B:Option Addr} {ds:List Value} (hr:Row w0 B ds):Row w B ds:=hr.below h.ext (Nat.le_refl _)
theorem Acc.ext_of (h:Acc e sz w0 w A c n cs) {v:World} (hx:Ext v w0):Ext v w:=hx.trans (h.ext)
end
theorem own_form {w:World} {base e sz n:Nat} {v:Value} {cs:List Value} (h:w.ownsRow base e sz v n cs):∃ A c,v=.slice A n c:=by
 rcases h.2 with ⟨hv,hn⟩ | ⟨g,cap,cur,hv,_⟩
 ·exact ⟨none,0,by rw [hv,hn]⟩
 ·exact ⟨_,_,hv⟩
theorem Acc.ne_obj {e sz:Nat} {w0 w:World} {A:Option Addr} {c n:Nat} {cs:List Value} (h:Acc e sz w0 w A c n cs) {r:Nat} {o:Obj} (hr:w.heap[r]? = some o) (ho:∀ cs t f,o ≠ .cells cs t f):some r ≠ Value.ownBlock (.slice A n c):=by
 intro he
 rcases h.own.2 with ⟨hv,_⟩ | ⟨g,cap,cur,hv,_,hg,_⟩
 ·rw [hv] at he;simp [Value.ownBlock] at he
 ·rw [hv] at he
  simp [Value.ownBlock] at he
  subst he
  rw [hr] at hg
  injection hg with hg
  exact ho _ _ _ hg
theorem Acc.turn {e sz:Nat} {w0 w w':World} {A:Option Addr} {c n r:Nat} {cs:List Value} (h:Acc e sz w0 w A c n cs) (hg:w.grownBy w' (some r)) (hne:some r ≠ Value.ownBlock (.slice A n c)) (hr:w0.heap.size≤r):Acc e sz w0 w' A c n cs :=
 ⟨h.own.kept hg (.inr (Ne.symm hne)),h.ext.grown hg h.ext.size (fun k hk=>by injection hk with hk;omega)⟩
theorem grown_obj {w w':World} {row:Option Nat} (hg:w.grownBy w' row) {r:Nat} {o:Obj} (hr:w.heap[r]? = some o) (hne:some r ≠ row):w'.heap[r]? = some o:=by
 have hlt:r < w.heap.size:=(Array.getElem?_eq_some_iff.1 hr).1
 exact (hg.block r hlt hne).trans hr
def Apart (A B:Option Addr):Prop:=∀ a b:Addr,A=some a→B=some b→a.block ≠ b.block
theorem oper_app {T e sz byt:Nat} (E:EI T e sz byt) {o:Oper} {a:Act} {K':Act→World→Prop} {Q:Exit→Act→World→Prop} (s x:Operand)
  (ho:o.op=.call { callee:=.builtin .append,args:=#[s,x],argTypes:=#[T,T] })
  (w0 wr:World) (A:Option Addr) (c n:Nat) (cs:List Value) (hs:a.eval s=.slice A n c) (hacc:Acc e sz w0 wr A c n cs)
  (news:List Value) (m m':Nat) (hx:a.eval x=.slice (some ⟨wr.heap.size,0,none⟩) m m') (hm:news.length=m * sz) (h1:∀ u ∈ news,u.oneCell'=true)
  (hb:(n+m) * byt≤140737488355328) (hl:n+m≤maxLen)
  (K:∀ A' c' w',Acc e sz w0 w' A' c' (n+m) (cs++news)→(∀ e2 sz2,∀ B:Option Addr,∀ cB nB csB,Acc e2 sz2 w0 wr B cB nB csB→Apart A B→Acc e2 sz2 w0 w' B cB nB csB∧Apart A' B)→wr.grownBy w' (Value.ownBlock (.slice A n c)) →
   K' (a.put o.dst (.slice A' (n+m) c')) w'):o.wp Tryz.prog a (wr.alloc (.cells news.toArray e)) K' Q:=by
 obtain ⟨i,z,hi,hz,hsize,hby,hzs⟩:=E.hi
 have hown:=hacc.own.alloc (.cells news.toArray e)
 have hsz:=hacc.ext.size
 obtain ⟨v',w',hrun,hown',hg,_,hat⟩:=run_append_own_at (P:=Tryz.prog) (wr.alloc (.cells news.toArray e)) w0.heap.size T o.type e i z sz byt E.ht hi hz hsize hby hzs E.pos (.slice A n c) n cs hown
  ⟨wr.heap.size,0,none⟩ m m' news hm (by intro j u hu;simp [Addr.add];split <;> simp_all) h1 hl hb (by simp;omega)
 obtain ⟨A',c',rfl⟩:=own_form hown'
 have hbl:Below w0.heap.size w0 w':=((hacc.ext.alloc hsz _).grown hg (by simp;omega) (fun k hk=>by
  have:=(hown.lt k hk).1;exact this))
 unfold Oper.wp execOp
 simp only [ho,resolve,invoke,builtin,Sem.run_bind,Sem.run_pure,Result.andThen_ok,List.map_toArray,List.map_cons,List.map_nil,hs,hx,hrun]
 refine K A' c' w' ⟨hown',hbl⟩ ?_ ⟨hg.os,hg.tape,hg.output,Nat.le_trans (by simp) hg.size,fun i hi hne=>(hg.block i (by simp;omega) hne).trans (Below.heap_alloc _ _ _ hi)⟩
 intro e2 sz2 B cB nB csB hB hap
 have hBlt:∀ b:Addr,B=some b→b.block < wr.heap.size:=fun b hb=>(hB.own.lt b.block (by rw [hb];rfl)).2
 refine ⟨⟨(hB.own.alloc _).kept hg ?_,hbl⟩,?_⟩
 ·cases B with
  | none=>exact .inl rfl
  | some b=>
   refine .inr ?_
   cases A with
   | none=>simp [Value.ownBlock]
   | some a=>simpa [Value.ownBlock] using (hap a b rfl rfl).symm
 ·intro a' b ha hb
  subst ha;subst hb
  rcases hat with h | h
  ·cases A with
   | none=>simp [Value.ownBlock] at h
   | some a0 =>
    have e0:a'.block=a0.block:=by simpa [Value.ownBlock] using h
    rw [e0];exact hap a0 b rfl rfl
  ·have e0:a'.block=wr.heap.size+1:=by simpa [Value.ownBlock] using h
   have:=hBlt b rfl
   omega
theorem wp_app {T e sz byt:Nat} (E:EI T e sz byt) {ops:Array Oper} {rest:List Oper} {o:Oper} {a:Act} {Q:Exit→Act→World→Prop} (hgd:o.guard=none) (s x:Operand)
  (ho:o.op=.call { callee:=.builtin .append,args:=#[s,x],argTypes:=#[T,T] })
  (w0 wr:World) (A:Option Addr) (c n:Nat) (cs:List Value) (hs:a.eval s=.slice A n c) (hacc:Acc e sz w0 wr A c n cs)
  (news:List Value) (m m':Nat) (hx:a.eval x=.slice (some ⟨wr.heap.size,0,none⟩) m m') (hm:news.length=m * sz) (h1:∀ u ∈ news,u.oneCell'=true)
  (hb:(n+m) * byt≤140737488355328) (hl:n+m≤maxLen)
  (K:∀ A' c' w',Acc e sz w0 w' A' c' (n+m) (cs++news)→(∀ e2 sz2,∀ B:Option Addr,∀ cB nB csB,Acc e2 sz2 w0 wr B cB nB csB→Apart A B→Acc e2 sz2 w0 w' B cB nB csB∧Apart A' B)→wr.grownBy w' (Value.ownBlock (.slice A n c)) →
   wpList Tryz.prog ops Q rest (a.put o.dst (.slice A' (n+m) c')) w'):wpList Tryz.prog ops Q (o :: rest) a (wr.alloc (.cells news.toArray e)) :=
 wpList_plain hgd fun _ hK=>oper_app E s x ho w0 wr A c n cs hs hacc news m m' hx hm h1 hb hl fun A' c' w' h2 h3 h4=>hK _ _ (K A' c' w' h2 h3 h4)
theorem step_app {T e sz byt:Nat} (E:EI T e sz byt) {ops:Array Oper} {o:Oper} {a:Act} {K':Act→World→Prop} {Q:Exit→Act→World→Prop} {X:Prop} (hgd:o.guard=none) (s x:Operand)
  (ho:o.op=.call { callee:=.builtin .append,args:=#[s,x],argTypes:=#[T,T] })
  (w0 wr:World) (A:Option Addr) (c n:Nat) (cs:List Value) (hs:a.eval s=.slice A n c) (hacc:Acc e sz w0 wr A c n cs)
  (news:List Value) (m m':Nat) (hx:a.eval x=.slice (some ⟨wr.heap.size,0,none⟩) m m') (hm:news.length=m * sz) (h1:∀ u ∈ news,u.oneCell'=true)
  (hb:(n+m) * byt≤140737488355328) (hl:n+m≤maxLen)
  (K:∀ A' c' w',Acc e sz w0 w' A' c' (n+m) (cs++news)→(∀ e2 sz2,∀ B:Option Addr,∀ cB nB csB,Acc e2 sz2 w0 wr B cB nB csB→Apart A B→Acc e2 sz2 w0 w' B cB nB csB∧Apart A' B)→wr.grownBy w' (Value.ownBlock (.slice A n c)) →
   K' (a.put o.dst (.slice A' (n+m) c')) w'):if Region.wanted o (yielded ops a.tmps)=true then o.wp Tryz.prog a (wr.alloc (.cells news.toArray e)) K' Q else X:=by
 have hw:Region.wanted o (yielded ops a.tmps)=true:=by simp [Region.wanted,hgd]
 rw [if_pos hw]
 exact oper_app E s x ho w0 wr A c n cs hs hacc news m m' hx hm h1 hb hl K
theorem Acc.lit {e sz:Nat} {w0 w:World} (hx:Ext w0 w) (cs:List Value) (n:Nat) (hl:cs.length=n * sz) (hm:n≤maxLen):Acc e sz w0 (w.alloc (.cells cs.toArray e)) (some ⟨w.heap.size,0,none⟩) n n cs :=
 ⟨World.ownsRow_lit w cs.toArray n hx.size hm (by simpa using hl),hx.alloc hx.size _⟩
theorem step_app_drew {T e sz byt:Nat} (E:EI T e sz byt) {ops:Array Oper} {o:Oper} {a:Act} {K':Act→World→Prop} {Q:Exit→Act→World→Prop} {X:Prop} (hgd:o.guard=none) (s x:Operand)
  (ho:o.op=.call { callee:=.builtin .append,args:=#[s,x],argTypes:=#[T,T] })
  (w0 wr:World) (A:Option Addr) (c n:Nat) (cs:List Value) (hs:a.eval s=.slice A n c) (hacc:Acc e sz w0 wr A c n cs)
  (news:List Value) (m m' N:Nat) (hx:a.eval x=.slice (some ⟨N,0,none⟩) m m') (hN:N=wr.heap.size) (hm:news.length=m * sz) (h1:∀ u ∈ news,u.oneCell'=true)
  (hb:(n+m) * byt≤140737488355328) (hl:n+m≤maxLen)
  (K:∀ A' c' w',Acc e sz w0 w' A' c' (n+m) (cs++news)→(∀ e2 sz2,∀ B:Option Addr,∀ cB nB csB,Acc e2 sz2 w0 wr B cB nB csB→Apart A B→Acc e2 sz2 w0 w' B cB nB csB∧Apart A' B)→wr.grownBy w' (Value.ownBlock (.slice A n c)) →
   K' (a.put o.dst (.slice A' (n+m) c')) w'):if Region.wanted o (yielded ops a.tmps)=true then o.wp Tryz.prog a (wr.alloc (.cells news.toArray e)).drew K' Q else X:=by
 subst hN
 have hd:(wr.alloc (.cells news.toArray e)).drew=wr.drew.alloc (.cells news.toArray e):=rfl
 rw [hd]
 exact step_app E hgd s x ho w0 wr.drew A c n cs hs hacc.drew news m m' hx hm h1 hb hl fun A' c' w' h2 h3 h4=>K A' c' w' h2 (fun e2 sz2 B cB nB csB hB hap=>h3 e2 sz2 B cB nB csB hB.drew hap) ⟨h4.os,h4.tape,h4.output,h4.size,h4.block⟩
def Box (w:World) (g:Nat) (T:TypeId) (cs:List Value):Prop:=w.heap[g]? = some (.cells cs.toArray T (0,0))
section
variable {w w':World} {g:Nat} {T:TypeId} {cs:List Value}
theorem Box.lt (h:Box w g T cs):g < w.heap.size:=(Array.getElem?_eq_some_iff.1 h).1
theorem Box.new (w:World) (T:TypeId) (cs:List Value):Box (w.alloc (.cells cs.toArray T)) w.heap.size T cs:=heap_alloc_new w _
theorem Box.cell {j:Nat} {v:Value} (h:Box w g T cs) (hv:cs[j]? = some v):w.cell? ⟨g,j,none⟩=some v:=by
 rw [cell_of_row w g j _ T (0,0) h];simpa using hv
theorem Box.frozen (h:Box w g T cs) (j:Nat):w.frozen? ⟨g,j,none⟩=false:=frozen_of_row w g j _ T h
theorem Box.below {B:Nat} (h:Box w g T cs) (hb:Below B w w') (hg:g < B):Box w' g T cs:=(hb.block g hg).trans h
theorem Box.ext (h:Box w g T cs) (hx:Ext w w'):Box w' g T cs:=h.below hx h.lt
theorem Box.set (h:Box w g T cs) (ds:Array Value):Box (w.setRow g ds) g T ds.toList:=by
 unfold Box;rw [Array.toArray_toList];exact setRow_heap w g _ ds T (0,0) h
theorem Box.other {k:Nat} (h:Box w g T cs) (hne:g ≠ k) (ds:Array Value):Box (w.setRow k ds) g T cs:=(setRow_other w k g ds hne).trans h
theorem Box.alloc (h:Box w g T cs) (o:Obj):Box (w.alloc o) g T cs:=(heap_alloc_old w o h.lt).trans h
theorem Box.drew (h:Box w g T cs):Box w.drew g T cs:=h
theorem Box.row (h:Box w g T cs):Row w (some ⟨g,0,none⟩) cs:=.inr ⟨g,0,rfl,fun j v hv=>by rw [Nat.zero_add];exact h.cell hv⟩
theorem Box.range (h:Box w g T cs):w.rangeAt g 0 cs:=fun j v hv=>by rw [Nat.zero_add];exact h.cell hv
theorem Box.setCell1 (h:Box w g T cs) (k:Nat) (v:Value) (hk:k ≠ g) (j:Nat):Box (w.setCell ⟨k,j,none⟩ v) g T cs:=(heap_setCell_other w _ g v (fun e=>hk e.symm)).trans h
theorem Box.setCell (h:Box w g T cs) (j:Nat) (v:Value):Box (w.setCell ⟨g,j,none⟩ v) g T (cs.set j v):=by
 unfold Box
 rw [heap_setCell_same w g j _ T v h]
 simp
theorem Ext.setRow {w0:World} (h:Ext w0 w) (hg:w0.heap.size≤g) (ds:Array Value):Ext w0 (w.setRow g ds):=below_setRow h hg ds
theorem Ext.alloc_ {w0:World} (h:Ext w0 w) (o:Obj):Ext w0 (w.alloc o):=Below.alloc h h.size o
theorem Ext.setCell_ {w0:World} (h:Ext w0 w) (hg:w0.heap.size≤g) (j:Nat) (v:Value):Ext w0 (w.setCell ⟨g,j,none⟩ v):=Below.setCell h (p:=⟨g,j,none⟩) hg v
theorem Ext.drew_ {w0:World} (h:Ext w0 w):Ext w0 w.drew:=Below.drew h
theorem Row.range {b off n:Nat} (h:Row w (some ⟨b,off,none⟩) cs) (k:Nat):w.rangeAt b (off+k) ((cs.drop k).take n):=fun j v hv=>by
 rw [Nat.add_assoc]
 refine h.cell0 ?_
 rw [List.getElem?_take] at hv
 split at hv
 ·rw [List.getElem?_drop] at hv;exact hv
 ·cases hv
end
end Go.Proofs.YtcghgkagpkmpeaaGreatDoor
