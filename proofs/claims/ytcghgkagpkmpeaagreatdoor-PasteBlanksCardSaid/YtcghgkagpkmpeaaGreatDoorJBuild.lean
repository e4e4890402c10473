/- Joined by wip/join.py: Build Build2 Build3. -/
import Derived.Test.YtcghgkagpkmpeaaGreatDoorJBase
import Derived.Test.YtcghgkagpkmpeaaGreatDoorShelf
import Derived.Test.YtcghgkagpkmpeaaGreatDoorJUtf
import Derived.BigQuiet
import Derived.Deep.QuietTactic
set_option linter.unusedVariables false
set_option linter.unusedSimpArgs false
set_option maxHeartbeats 1000000
namespace Go.Proofs.YtcghgkagpkmpeaaGreatDoor.Build
open Go.RowKit Small
theorem sizeBuilder:(Tryz.prog.info? 214).map (fun i=>i.size)=some 2:=by kernel_rfl
theorem liesBuilder:liesAt Tryz.prog Tryz.prog.depth 214 (2 / Tryz.prog.cellsOf 214) 0 214 1=true:=by kernel_rfl
abbrev IsB (B b:Nat) (l:List UInt8) (w:World):Prop:=Lib.IsBuilder 214 5 B b (Lib.byteCells l) w
abbrev Used (B b:Nat) (bs:List Value) (w:World):Prop:=Lib.BuilderAt 214 5 B b (.pointer (some ⟨b,0,none⟩)) bs w
set_option maxRecDepth 100000
theorem check_used (b:Nat) (w:World) (h0:w.cell? ⟨b,0,none⟩=some (.pointer (some ⟨b,0,none⟩))) :
  Calls Tryz.prog 194 #[.pointer (some ⟨b,0,none⟩)] w fun e w'=>e=.returned (.tuple #[])∧w'=w:=by
 obtain ⟨j,hj,_⟩:=Option.map_eq_some_iff.1 sizeBuilder
 go_enter Tryz.func194,Tryz.ntmps194
 go_wp2
 rw [Lib.run_neq_ptr_same w _ Tryz.underlying212 hj]
 go_wp2
 go_end0
 exact ⟨rfl,rfl⟩
theorem check_fresh (b:Nat) (w:World) (h0:w.cell? ⟨b,0,none⟩=some (.pointer none)) (hsh:w.shape? b=some (214,2)) (hfz:w.frozen? ⟨b,0,none⟩=false) :
  Calls Tryz.prog 194 #[.pointer (some ⟨b,0,none⟩)] w fun e w'=>e=.returned (.tuple #[])∧w'=w.setCell ⟨b,0,none⟩ (.pointer (some ⟨b,0,none⟩)):=by
 obtain ⟨j,hj,hjs⟩:=Option.map_eq_some_iff.1 sizeBuilder
 go_enter Tryz.func194,Tryz.ntmps194
 go_wp2
 rw [Lib.run_to_unsafe w ⟨b,0,none⟩ Tryz.underlying212 Tryz.underlying265 hj (by rw [hjs];decide) hsh (Nat.zero_lt_succ 1)]
 simp only [Result.andThen]
 rw [Oper.upon_value]
 go_wp2
 rw [run_callFunc_extern Tryz.func213 (by kernel_rfl) (by kernel_rfl) (by kernel_rfl) (e:=Extern.AbiNoEscape.same) (by kernel_rfl)]
 rw [Lib.run_noEscape]
 simp only [Result.andThen]
 rw [Oper.upon_value]
 go_wp2
 rw [Lib.run_from_unsafe w ⟨b,0,none⟩ Tryz.underlying265 Tryz.underlying212 hj hsh liesBuilder]
 simp only [Result.andThen]
 rw [Oper.upon_value]
 go_wp2
 go_end0
 exact ⟨rfl,rfl⟩
set_option maxRecDepth 512
theorem check_any (B b:Nat) (bs:List Value) (w:World) (h:Lib.IsBuilder 214 5 B b bs w) :
  Calls Tryz.prog 194 #[.pointer (some ⟨b,0,none⟩)] w fun e w'=>e=.returned (.tuple #[])∧(Used B b bs w'∧Below B w w'):=by
 rcases h with h | h
 ·refine (check_fresh b w h.cell0 h.shape h.frozen0).mono ?_
  rintro e w' ⟨rfl,rfl⟩
  exact ⟨rfl,h.used _,(Below.refl B w).setCell (p:=⟨b,0,none⟩) h.1 _⟩
 ·refine (check_used b w h.cell0).mono ?_
  rintro e w' ⟨rfl,rfl⟩
  exact ⟨rfl,h,Below.refl B _⟩
set_option maxRecDepth 100000
theorem write_rune (B b:Nat) (bs:List Value) (r:Int) (w:World) (h:Lib.IsBuilder 214 5 B b bs w) (hr0:-2147483648≤r) (hr1:r≤2147483647) (hlen:bs.length+4≤140737488355328) (hBw:B≤w.heap.size) :
  Calls Tryz.prog 164 #[.pointer (some ⟨b,0,none⟩),.int .i32 r] w fun e w'=>e=.returned (.tuple #[.int .i64 (Lib.runeCells r).length,.nilIface])∧(Used B b (bs++Lib.runeCells r) w'∧Below B w w'):=by
 have hk4:=Lib.runeCells_le r
 go_enter Tryz.func164,Tryz.ntmps164
 go_wp2_with fail
 refine (check_any B b bs _ h).mono ?_
 rintro e w1 ⟨rfl,h1,hb1⟩
 obtain ⟨hB,v,hbk,hown,hne⟩:=h1
 obtain ⟨ao,cap,rfl⟩:=own_form hown
 have c0:w1.cell? ⟨b,0,none⟩=some (.pointer (some ⟨b,0,none⟩)):=by rw [Lib.cell_of_heap hbk];rfl
 have c1:w1.cell? ⟨b,1,none⟩=some (.slice ao bs.length cap):=by rw [Lib.cell_of_heap hbk];rfl
 go_wp2_with fail
 refine (Tryz.utf8_AppendRune_plain B _ bs.length bs r hr0 hr1 _ hown hlen (by have:=hb1.size;omega)).mono ?_
 rintro e w2 ⟨v',rfl,hown',o,hgrow⟩
 have hlt:b < w1.heap.size:=by
  rcases Nat.lt_or_ge b w1.heap.size with h' | h'
  ·exact h'
  ·simp [Array.getElem?_eq_none h'] at hbk
 have hb2:w2.heap[b]? = some (.cells #[.pointer (some ⟨b,0,none⟩),.slice ao bs.length cap] 214 (0,0)):=by
  rw [hgrow.block b (by simp;omega) (fun e=>hne e.symm),Lib.alloc_old w1 _ b hlt]
  exact hbk
 have d0:w2.cell? ⟨b,0,none⟩=some (.pointer (some ⟨b,0,none⟩)):=by rw [Lib.cell_of_heap hb2];rfl
 have d1:w2.cell? ⟨b,1,none⟩=some (.slice ao bs.length cap):=by rw [Lib.cell_of_heap hb2];rfl
 have f1:w2.frozen? ⟨b,1,none⟩=false:=Lib.frozen_of_heap hb2 1
 obtain ⟨g,cap',rfl⟩:∃ g cap',v'=.slice (some ⟨g,0,none⟩) (bs.length+(Lib.runeCells r).length) cap':=by
  rcases hown'.2 with ⟨_,h0⟩ | ⟨g,cap',cur,hv,_⟩
  ·omega
  ·exact ⟨g,cap',hv⟩
 go_wp2
 go_ret2
 refine ⟨?_,?_,?_⟩
 ·have e:((bs.length:Int)+((Lib.runeCells r).length:Int) - (bs.length:Int))=((Lib.runeCells r).length:Int):=by omega
  simp [e]
 ·exact Lib.BuilderAt.put (T:=214) (e:=5) hB hb2 (bs':=bs++Lib.runeCells r) (by simpa using hown') (by decide)
 ·exact ((hb1.alloc (by have:=hb1.size;omega) _).grown hgrow (by have:=hb1.size;simp;omega) (fun k hk=>(hown.lt k hk).1)).setCell (p:=⟨b,1,none⟩) hB _
set_option maxRecDepth 512
def joinL (xs:List Int):List UInt8:=xs.flatMap fun c=>Lib.encodeRune (if Utf.mayC c then c else 65533)
theorem joinL_le (xs:List Int):(joinL xs).length≤4 * xs.length:=by
 induction xs with
 | nil=>simp [joinL]
 | cons c xs ih =>
  have:=(Lib.encodeRuneZ_length (if Utf.mayC c then c else 65533)).2
  simp only [joinL,List.flatMap_cons,List.length_append,List.length_cons] at ih ⊢
  simp only [Lib.encodeRune,List.length_map] at ih ⊢
  omega
theorem joinL_snoc (xs:List Int) (k:Nat) (hk:k < xs.length):joinL (xs.take (k+1))=joinL (xs.take k)++Lib.encodeRune (if Utf.mayC xs[k] then xs[k] else 65533):=by
 rw [List.take_succ_eq_append_getElem hk];simp only [joinL,List.flatMap_append,List.flatMap_cons,List.flatMap_nil,List.append_nil]
set_option maxRecDepth 100000
theorem utf_join (A:Option Addr) (c:Nat) (xs:List Int) (w:World) (hr:Row w A (xs.map (Value.int .i64))) (hl:xs.length≤10000000000000) :
  Calls Tryz.prog 87 #[.slice A xs.length c] w fun e w'=>e=.returned (.string ⟨(joinL xs).toArray⟩)∧Ext w w':=by
 go_enter Tryz.func87,Tryz.ntmps87
 go_wp2
 go_loopw [5,8] (fun _ i wr=>∃ k:Nat,k≤xs.length∧i=.int .i64 k∧IsB w.heap.size w.heap.size (joinL (xs.take k)) wr∧Below w.heap.size w wr) (fun _ i _=>xs.length - (intOf i).toNat)
 case atStart=>exact ⟨0,Nat.zero_le _,rfl,Lib.fresh_isBuilder _ _ _,(Below.refl _ _).alloc (Nat.le_refl _) _⟩
 case round =>
  obtain ⟨k,hk,rfl,hB,hbl⟩:=hrel
  by_cases hlt:k < xs.length
  ·obtain ⟨b,off,rfl,hc⟩:=row_int (hr.below hbl (Nat.le_refl _)) hlt
   have HT:=Lib.hid (joinL_snoc xs k hlt)
   have hle:=joinL_le (xs.take k)
   rw [List.length_take_of_le hk] at hle
   generalize xs[k]=x at *
   generalize joinL (xs.take k)=l at *
   cases hm:Utf.mayC x
   ·have HM:=Lib.hid hm
    clear hm
    go_wp2_with fail
    refine (Utf.utf_may _ _).mono ?_;rintro e w' ⟨rfl,rfl⟩;rw [HM.out]
    go_wp2_with fail
    refine (write_rune _ _ _ _ _ hB (by decide) (by decide) (by simp [Lib.byteCells];omega) (by have:=hbl.size;omega)).mono ?_
    rintro e w2 ⟨rfl,hu,hb2⟩
    go_wp2
    go_roundw
    case rel=>exact ⟨k+1,by omega,by go_num,.inr (by rw [HT.out,HM.out,Lib.byteCells_append,Lib.byteCells_encodeRune];exact hu),hbl.trans hb2⟩
    case measure=>simp [intOf];omega
   ·have hx:0≤x∧x≤1114111:=by unfold Utf.mayC at hm;simp at hm;omega
    have HM:=Lib.hid hm
    clear hm
    obtain ⟨hx0,hx1⟩:=hx
    go_wp2_with fail
    refine (Utf.utf_may _ _).mono ?_;rintro e w' ⟨rfl,rfl⟩;rw [HM.out]
    go_wp2_with fail
    refine (write_rune _ _ _ _ _ hB (by omega) (by omega) (by simp [Lib.byteCells];omega) (by have:=hbl.size;omega)).mono ?_
    rintro e w2 ⟨rfl,hu,hb2⟩
    go_wp2
    go_roundw
    case rel=>exact ⟨k+1,by omega,by go_num,.inr (by rw [HT.out,HM.out,Lib.byteCells_append,Lib.byteCells_encodeRune];exact hu),hbl.trans hb2⟩
    case measure=>simp [intOf];omega
  ·have e:k=xs.length:=by omega
   subst e
   rw [List.take_length] at hB
   go_wp2_with fail
   refine (Tryz.Builder_String_any _ _ _ _ hB (by have:=hbl.size;omega)).mono ?_
   rintro e w2 ⟨rfl,hb2⟩
   go_wp2
   go_ret
   exact ⟨rfl,hbl.trans hb2⟩
end Go.Proofs.YtcghgkagpkmpeaaGreatDoor.Build
namespace Go.Proofs.YtcghgkagpkmpeaaGreatDoor.Build
open Go.RowKit
theorem infoByte:(Tryz.prog.info? 5).map (fun i=>(i.zero,i.size,i.bytes))=some (some (.int .u8 0),1,1):=by kernel_rfl
set_option maxRecDepth 100000
theorem write_string (B b:Nat) (bs:List Value) (s:ByteArray) (w:World) (h:Lib.IsBuilder 214 5 B b bs w) (hlen:bs.length+s.size≤140737488355328) (hBw:B≤w.heap.size) :
  Calls Tryz.prog 222 #[.pointer (some ⟨b,0,none⟩),.string s] w fun e w'=>e=.returned (.tuple #[.int .i64 s.size,.nilIface])∧(Used B b (bs++Lib.strCells s) w'∧Below B w w'):=by
 obtain ⟨i0,hi,hz0,hz1,hz2⟩:=info_parts infoByte
 go_enter Tryz.func222,Tryz.ntmps222
 go_wp2_with fail
 refine (check_any B b bs _ h).mono ?_
 rintro e w1 ⟨rfl,h1,hb1⟩
 obtain ⟨hB,v,hbk,hown,hne⟩:=h1
 have c0:w1.cell? ⟨b,0,none⟩=some (.pointer (some ⟨b,0,none⟩)):=by rw [Lib.cell_of_heap hbk];rfl
 have c1:w1.cell? ⟨b,1,none⟩=some v:=by rw [Lib.cell_of_heap hbk];rfl
 go_wp2_with (at_builtin;refine Lib.wpList_append_own_string _ rfl _ _ 208 9 rfl B 5 i0 Tryz.underlying208 Tryz.underlying9 hi hz0 hz1 hz2 _ _ _ rfl hown s rfl ?c3 ?c4 ?c5 ?_)
 case c3=>unfold maxLen;omega
 case c4=>omega
 case c5=>have:=hb1.size;omega
 intro v' w2 hown' hgrow _
 have hlt:b < w1.heap.size:=by
  rcases Nat.lt_or_ge b w1.heap.size with h' | h'
  ·exact h'
  ·simp [Array.getElem?_eq_none h'] at hbk
 have hb2:w2.heap[b]? = some (.cells #[.pointer (some ⟨b,0,none⟩),v] 214 (0,0)):=by
  rw [hgrow.block b hlt (fun e=>hne e.symm)]
  exact hbk
 have d0:w2.cell? ⟨b,0,none⟩=some (.pointer (some ⟨b,0,none⟩)):=by rw [Lib.cell_of_heap hb2];rfl
 have d1:w2.cell? ⟨b,1,none⟩=some v:=by rw [Lib.cell_of_heap hb2];rfl
 have f1:w2.frozen? ⟨b,1,none⟩=false:=Lib.frozen_of_heap hb2 1
 obtain ⟨ao,n',cap,rfl⟩:∃ ao n' cap,v'=.slice ao n' cap:=by
  rcases hown'.2 with ⟨hv,_⟩ | ⟨g,cap,cur,hv,_⟩
  ·exact ⟨_,_,_,hv⟩
  ·exact ⟨_,_,_,hv⟩
 go_wp2
 go_ret2
 refine ⟨rfl,?_,?_⟩
 ·exact Lib.BuilderAt.put (T:=214) (e:=5) hB hb2 (bs':=bs++Lib.strCells s) (by simpa [Lib.strCells_length] using hown') (by decide)
 ·exact (hb1.grown hgrow (by have:=hb1.size;omega) (fun k hk=>(hown.lt k hk).1)).setCell (p:=⟨b,1,none⟩) hB _
set_option maxRecDepth 512
structure ButS (S:Nat→Prop) (w w':World):Prop where
 os:w'.os=w.os
 tape:w'.tape=w.tape
 output:w'.output=w.output
 size:w.heap.size≤w'.heap.size
 block:∀ k,k < w.heap.size→¬ S k→w'.heap[k]? = w.heap[k]?
theorem ButS.refl (S:Nat→Prop) (w:World):ButS S w w:=⟨rfl,rfl,rfl,Nat.le_refl _,fun _ _ _=>rfl⟩
theorem ButS.trans {S:Nat→Prop} {a b c:World} (h:ButS S a b) (k:ButS S b c):ButS S a c :=
 ⟨k.os.trans h.os,k.tape.trans h.tape,k.output.trans h.output,Nat.le_trans h.size k.size,fun i hi hs=>(k.block i (Nat.lt_of_lt_of_le hi h.size) hs).trans (h.block i hi hs)⟩
theorem ButS.mono {S S':Nat→Prop} {w w':World} (h:ButS S w w') (hs:∀ k,k < w.heap.size→S k→S' k):ButS S' w w':=⟨h.os,h.tape,h.output,h.size,fun k hk hn=>h.block k hk fun hh=>hn (hs k hk hh)⟩
theorem ButS.of_ext {S:Nat→Prop} {w w':World} (h:Ext w w'):ButS S w w':=⟨h.os,h.tape,h.output,h.size,fun k hk _=>h.block k hk⟩
theorem ButS.below {S:Nat→Prop} {w w':World} {B:Nat} (h:ButS S w w') (hB:B≤w.heap.size) (hs:∀ k,S k→B≤k):Below B w w' :=
 ⟨h.os,h.tape,h.output,h.size,fun k hk=>h.block k (by omega) fun hh=>by have:=hs k hh;omega⟩
theorem ButS.grown {w w':World} {row:Option Nat} (h:w.grownBy w' row):ButS (fun k=>row=some k) w w' :=
 ⟨h.os,h.tape,h.output,h.size,fun k hk hn=>h.block k hk fun e=>hn e.symm⟩
theorem ButS.setCell {w:World} (b j:Nat) (v:Value):ButS (fun k=>k=b) w (w.setCell ⟨b,j,none⟩ v) :=
 ⟨rfl,rfl,rfl,by simp,fun k hk hn=>heap_setCell_other w ⟨b,j,none⟩ k v hn⟩
theorem own_move {base e n:Nat} {v:Value} {xs:List Value} {w w':World} (h:w.ownsRow base e 1 v n xs) (hk:∀ k,v.ownBlock=some k→w'.heap[k]? = w.heap[k]?):w'.ownsRow base e 1 v n xs:=by
 refine ⟨h.1,?_⟩
 rcases h.2 with hn | ⟨g,cap,cur,hv,hb,hg,rest⟩
 ·exact .inl hn
 ·exact .inr ⟨g,cap,cur,hv,hb,(hk g (by rw [hv];rfl)).trans hg,rest⟩
theorem heap_lt {w:World} {b:Nat} {o:Obj} (h:w.heap[b]? = some o):b < w.heap.size:=(Array.getElem?_eq_some_iff.1 h).1
end Go.Proofs.YtcghgkagpkmpeaaGreatDoor.Build
