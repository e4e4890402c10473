/- Joined by wip/join.py: Sys Sys2 Sys3 SysN. -/
import Derived.Test.YtcghgkagpkmpeaaGreatDoorJBuild
import Derived.Maps.Own
import Derived.Laws.IdiomRangeMap
import Derived.Test.YtcghgkagpkmpeaaGreatDoorJUtf
import Derived.Test.YtcghgkagpkmpeaaGreatDoorShelf
import Derived.Sort.OwnSorted
import Derived.Sort.KeysCollected
import Derived.Maps.RangeRun
set_option linter.unusedVariables false
set_option linter.unusedSimpArgs false
set_option maxHeartbeats 2000000
namespace Go.Proofs.YtcghgkagpkmpeaaGreatDoor.Sys
open Go.RowKit Utf Small Build
def names:List ByteArray:=[⟨#[97,114,97,98]⟩,⟨#[97,114,97,98,101,120,116]⟩,⟨#[98,101,110,103]⟩,⟨#[100,101,118,97]⟩,⟨#[102,117,108,108,119,105,100,101]⟩,⟨#[103,117,106,114]⟩,⟨#[103,117,114,117]⟩,⟨#[107,104,109,114]⟩,⟨#[107,110,100,97]⟩,⟨#[108,97,111,111]⟩,⟨#[108,97,116,110]⟩,⟨#[109,97,116,104,115,97,110,98]⟩,⟨#[109,108,121,109]⟩,⟨#[109,111,110,103]⟩,⟨#[109,121,109,114]⟩,⟨#[111,114,121,97]⟩,⟨#[116,97,109,108,100,101,99]⟩,⟨#[116,101,108,117]⟩,⟨#[116,104,97,105]⟩,⟨#[116,105,98,116]⟩]
def zerosL:List Int:=[1632,1776,2534,2406,65296,2790,2662,6112,3302,3792,48,120812,3430,6160,4160,2918,3046,3174,3664,3872]
def zeroZ (s:ByteArray):Int:=match names.findIdx? (fun n=>decide (n=s)) with | some i=>zerosL.getD i 0 | none=>-1
theorem ref_names (w:World):Calls Tryz.prog 82 #[] w fun e w'=>∃ A,e=.returned (.slice A 20 20)∧Row w' A (names.map Value.string)∧Ext w w':=by
 go_enter Tryz.func82,Tryz.ntmps82
 go_wp2
 go_ret
 exact ⟨_,rfl,row_new w (names.map Value.string) 9,(Below.refl _ _).alloc (Nat.le_refl _) _⟩
theorem ref_noughts (w:World):Calls Tryz.prog 172 #[] w fun e w'=>∃ A,e=.returned (.slice A 20 20)∧Row w' A (zerosL.map (Value.int .i64))∧Ext w w':=by
 go_enter Tryz.func172,Tryz.ntmps172
 go_wp2
 go_ret
 exact ⟨_,rfl,row_new w (zerosL.map (Value.int .i64)) 3,(Below.refl _ _).alloc (Nat.le_refl _) _⟩
theorem row_str {w:World} {A:Option Addr} {xs:List ByteArray} (h:Row w A (xs.map Value.string)) {k:Nat} (hk:k < xs.length) :
  ∃ b off,A=some ⟨b,off,none⟩∧w.cell? ⟨b,off+k,none⟩=some (.string xs[k]):=by
 obtain ⟨b,off,e,hc⟩:=h.at_ (k:=k) (by simpa using hk)
 exact ⟨b,off,e,hc k _ (by simp [hk])⟩
theorem zeroZ_at (s:ByteArray) (k:Nat) (hk:k < 20) (h:(names.take k).any (fun n=>decide (n=s))=false) (hp:decide (names[k]'hk=s)=true):zeroZ s=zerosL[k]'hk:=by
 unfold zeroZ
 have:names.findIdx? (fun n=>decide (n=s))=some k:=by
  rw [List.findIdx?_eq_some_iff_getElem]
  refine ⟨hk,hp,fun j hj=>?_⟩
  rw [List.any_eq_false] at h
  have hn:names.length=20:=rfl
  have:=h (names[j]'(by omega)) (List.mem_take_iff_getElem.2 ⟨j,by omega,rfl⟩)
  simpa using this
 rw [this]
 have hz:zerosL.length=20:=rfl
 show zerosL.getD k 0=_
 rw [List.getD_eq_getElem?_getD,List.getElem?_eq_getElem (show k < zerosL.length by omega)]
 rfl
theorem zeroZ_none (s:ByteArray) (h:names.any (fun n=>decide (n=s))=false):zeroZ s=-1:=by
 unfold zeroZ
 have:names.findIdx? (fun n=>decide (n=s))=none:=by
  rw [List.findIdx?_eq_none_iff];intro x hx
  rw [List.any_eq_false] at h
  simpa using h x hx
 rw [this]
theorem zeroZ_bd (s:ByteArray):-1≤zeroZ s∧zeroZ s≤120812:=by
 unfold zeroZ
 split
 ·rename_i i hi
  rw [List.findIdx?_eq_some_iff_getElem] at hi
  obtain ⟨hl,_⟩:=hi
  have:∀ i:Fin 20,-1≤zerosL.getD i.1 0∧zerosL.getD i.1 0≤120812:=by decide
  exact this ⟨i,hl⟩
 ·omega
theorem ref_zero (s:ByteArray) (w:World):Calls Tryz.prog 105 #[.string s] w fun e w'=>e=.returned (.int .i64 (zeroZ s))∧Ext w w':=by
 go_enter Tryz.func105,Tryz.ntmps105
 go_wp2_with fail
 refine (ref_names _).mono ?_
 rintro e w1 ⟨A,rfl,hrow,hx⟩
 go_wp2
 go_loop [4] (fun i=>∃ k:Nat,k≤20∧i=.int .i64 k∧Hid ((names.take k).any (fun n=>decide (n=s))=false)) (fun i=>20 - (intOf i).toNat)
 case atStart=>exact ⟨0,Nat.zero_le _,rfl,Lib.hid rfl⟩
 case round =>
  obtain ⟨k,hk,rfl,HK⟩:=hrel
  by_cases hlt:k < 20
  ·obtain ⟨b,off,rfl,hc⟩:=row_str hrow (show k < names.length from hlt)
   have HA:=Lib.hid (zeroZ_at s k hlt HK.out)
   have HT:=Lib.hid (any_snoc (fun n=>decide (n=s)) names k hlt)
   have hb:=zeroZ_bd s
   generalize names[k]=x at *
   cases hb:x.toList == s.toList
   ·have HB:=Lib.hid ((beq_str x s).symm.trans hb)
    go_wp2
    go_round
    case rel=>exact ⟨k+1,by omega,by go_num,Lib.hid (by rw [HT.out,HK.out,HB.out];rfl)⟩
    case measure=>simp [intOf];omega
   ·have HB:=Lib.hid ((beq_str x s).symm.trans hb)
    go_wp2_with fail
    refine (ref_noughts _).mono ?_
    rintro e w2 ⟨A,rfl,hrow2,hx2⟩
    obtain ⟨b2,off2,rfl,hc2⟩:=row_int hrow2 (show k < zerosL.length from hlt)
    have HZ:Hid (zeroZ s=zerosL[k]):=Lib.hid (HA.out HB.out)
    generalize zerosL[k]=z at *
    go_wp2
    go_ret
    exact ⟨by rw [HZ.out];rfl,hx.trans hx2⟩
  ·have e:k=20:=by omega
   subst e
   have HZ:=Lib.hid (zeroZ_none s HK.out)
   go_wp2
   go_ret
   exact ⟨by rw [HZ.out];rfl,hx⟩
def nameAt (k:Nat):ByteArray:=names.getD k ⟨#[]⟩
def nameOf (n:Int):ByteArray:=nameAt (aroundF n 20).toNat
theorem names_at {k:Nat} (h:k < names.length):names[k]=nameAt k:=by unfold nameAt;rw [List.getD_eq_getElem?_getD,List.getElem?_eq_getElem h];rfl
theorem ref_name (n:Int) (w:World) (h1:-9223372036854775808≤n) (h2:n≤9223372036854775807) :
  Calls Tryz.prog 107 #[.int .i64 n] w fun e w'=>e=.returned (.string (nameOf n))∧Ext w w':=by
 have hb:=aroundF_bd n 20 (by omega)
 have HF:Hid (nameOf n=nameAt (aroundF n 20).toNat):=Lib.hid rfl
 go_enter Tryz.func107,Tryz.ntmps107
 go_wp2_with fail
 refine (ref_names _).mono ?_
 rintro e w1 ⟨A,rfl,hrow,hx⟩
 go_wp2_with fail
 refine (around _ _ _ h1 h2 (by omega) (by omega)).mono ?_;rintro e w2 ⟨rfl,rfl⟩
 generalize aroundF n 20=k at *
 obtain ⟨k,rfl⟩:=Int.eq_ofNat_of_zero_le hb.1
 have hk:k < 20:=by omega
 clear hb
 obtain ⟨b,off,rfl,hc⟩:=row_str hrow (show k < names.length from hk)
 rw [names_at] at hc
 rw [Int.toNat_natCast] at HF
 generalize nameAt k=s at *
 go_wp2
 go_ret
 exact ⟨by rw [HF.out];rfl,hx⟩
theorem ref_digit (s:ByteArray) (d:Int) (w:World) (h0:0≤d) (h9:d≤9) :
  Calls Tryz.prog 57 #[.string s,.int .i64 d] w fun e w'=>e=.returned (.string ⟨(encB (zeroZ s+d)).toArray⟩)∧Ext w w':=by
 have hb:=zeroZ_bd s
 go_enter Tryz.func57,Tryz.ntmps57
 go_wp2_with fail
 refine (ref_zero _ _).mono ?_
 rintro e w1 ⟨rfl,hx⟩
 generalize hz:zeroZ s=z at *
 have HZ:=Lib.hid hz
 clear hz
 go_wp2_with fail
 refine (ref_encode _ _).mono ?_
 rintro e w2 ⟨rfl,hx2⟩
 go_wp2
 go_ret
 exact ⟨by rw [HZ.out];rfl,hx.trans hx2⟩
def valZ (z c:Int):Int:=if z < 0∨c < z∨z+9 < c then -1 else c - z
theorem ref_value (s:ByteArray) (c:Int) (w:World) :
  Calls Tryz.prog 83 #[.string s,.int .i64 c] w fun e w'=>e=.returned (.int .i64 (valZ (zeroZ s) c))∧Ext w w':=by
 have hb:=zeroZ_bd s
 go_enter Tryz.func83,Tryz.ntmps83
 go_wp2_with fail
 refine (ref_zero _ _).mono ?_
 rintro e w1 ⟨rfl,hx⟩
 generalize hz:zeroZ s=z at *
 have HZ:=Lib.hid hz
 clear hz
 by_cases h0:z < 0
 ·go_wp2
  go_ret
  exact ⟨ret_int (by rw [HZ.out];unfold valZ;rw [if_pos (by omega)]),hx⟩
 by_cases h1:c < z
 ·go_wp2
  go_ret
  exact ⟨ret_int (by rw [HZ.out];unfold valZ;rw [if_pos (by omega)]),hx⟩
 by_cases h2:z+9 < c
 ·go_wp2
  go_ret
  exact ⟨ret_int (by rw [HZ.out];unfold valZ;rw [if_pos (by omega)]),hx⟩
 ·have h0':0≤z:=by omega
  have h1':z≤c:=by omega
  have h2':c≤z+9:=by omega
  clear h0 h1 h2
  go_wp2
  go_ret
  exact ⟨ret_int (by rw [HZ.out];unfold valZ;rw [if_neg (by omega)]),hx⟩
def goodL (xs:List Int) (m:Nat):List Int:=(xs.take m).map fun x=>aroundF x 10
theorem goodL_snoc (xs:List Int) (k:Nat) (hk:k < xs.length):(goodL xs (k+1)).map (Value.int .i64)=(goodL xs k).map (Value.int .i64)++[.int .i64 (aroundF xs[k] 10)]:=by
 unfold goodL
 rw [List.take_succ_eq_append_getElem hk,List.map_append,List.map_append];rfl
theorem ref05_good (A:Option Addr) (c:Nat) (xs:List Int) (m:Nat) (w:World) (hr:Row w A (xs.map (Value.int .i64))) (hl:xs.length≤maxLen) (hm:m≤1000000)
  (hz:∀ x ∈ xs,-9223372036854775808≤x∧x≤9223372036854775807) :
  Calls Tryz.prog 41 #[.slice A xs.length c,.int .i64 m] w fun e w'=>∃ A c,e=.returned (.slice A (min xs.length m) c)∧Row w' A ((goodL xs m).map (Value.int .i64))∧Ext w w':=by
 unfold maxLen at hl
 go_enter Tryz.func41,Tryz.ntmps41
 go_wp2
 go_loopw [5,6] (fun v i wr=>∃ k:Nat,k≤xs.length∧k≤m∧i=.int .i64 k∧∃ A c,v=.slice A k c∧Acc 3 1 w wr A c k ((goodL xs k).map (Value.int .i64))) (fun _ i _=>xs.length - (intOf i).toNat)
 case atStart=>exact ⟨0,Nat.zero_le _,Nat.zero_le _,rfl,none,0,rfl,Acc.start _ _ _⟩
 case round =>
  obtain ⟨k,hk,hkm,rfl,A',c',rfl,hacc⟩:=hrel
  by_cases hlt:k < xs.length
  ·by_cases hlm:k < m
   ·obtain ⟨b,off,rfl,hc⟩:=row_int (hacc.keep hr) hlt
    have HS:=Lib.hid (goodL_snoc xs k hlt)
    have hzx:=hz xs[k] (List.getElem_mem hlt)
    generalize xs[k]=x at *
    go_wp2_with fail
    refine (around _ _ _ hzx.1 hzx.2 (by omega) (by omega)).mono ?_;rintro e w2 ⟨rfl,rfl⟩
    generalize aroundF x 10=y at *
    go_wp2_with (at_builtin;refine wp_app ei_int rfl _ _ rfl w _ A' c' k _ rfl hacc [.int .i64 y] 1 1 rfl rfl (by simp [Value.oneCell']) (by omega) (by unfold maxLen;omega) ?_;intro A1 c1 w1 hacc1 _ _;clear hacc)
    go_roundw
    case rel=>exact ⟨k+1,by omega,by omega,by go_num,A1,c1,rfl,by rw [HS.out];exact hacc1⟩
    case measure=>simp [intOf];omega
   ·have e:k=m:=by omega
    subst e
    have HM:Hid (min xs.length k=k):=Lib.hid (by omega)
    go_wp2
    go_ret
    exact ⟨A',c',by rw [HM.out];rfl,hacc.row,hacc.ext⟩
  ·have e:k=xs.length:=by omega
   subst e
   have HM:Hid (min xs.length m=xs.length):=Lib.hid (by omega)
   have HG:Hid (goodL xs m=goodL xs xs.length):=Lib.hid (by unfold goodL;rw [List.take_of_length_le (by omega),List.take_of_length_le (by omega)])
   go_wp2
   go_ret
   exact ⟨A',c',by rw [HM.out];rfl,by rw [HG.out];exact hacc.row,hacc.ext⟩
theorem encB_le (c:Int):(encB c).length≤4:=by
 unfold encB
 split
 ·simpa [Lib.encodeRune] using (Lib.encodeRuneZ_length c).2
 ·simp
def ofP (c:Int) (n:ByteArray):Bool:=decide (0≤valZ (zeroZ n) c)
def ofZ (c:Int):ByteArray × Int:=match names.findIdx? (ofP c) with | some i=>(nameAt i,valZ (zeroZ (nameAt i)) c) | none=>(⟨#[]⟩,-1)
theorem ofZ_none (c:Int) (h:names.any (ofP c)=false):ofZ c=(⟨#[]⟩,-1):=by
 have:=idxF_none (ofP c) names h
 unfold idxF at this
 unfold ofZ
 cases hh:names.findIdx? (ofP c) with
 | none=>rfl
 | some i=>rw [hh] at this;dsimp only at this;omega
theorem ofZ_at (c:Int) (k:Nat) (hk:k < names.length) (h:(names.take k).any (ofP c)=false) (hp:ofP c names[k]=true):ofZ c=(names[k],valZ (zeroZ names[k]) c):=by
 have:=idxF_at (ofP c) names k hk h hp
 unfold idxF at this
 unfold ofZ
 cases hh:names.findIdx? (ofP c) with
 | none=>rw [hh] at this;dsimp only at this;omega
 | some i =>
       rw [hh] at this;dsimp only at this;obtain rfl:i=k:=by omega
       rw [names_at hk]
theorem ref_of (c:Int) (w:World):Calls Tryz.prog 38 #[.int .i64 c] w fun e w'=>e=.returned (.tuple #[.string (ofZ c).1,.int .i64 (ofZ c).2])∧Ext w w':=by
 go_enter Tryz.func38,Tryz.ntmps38
 go_wp2_with fail
 refine (ref_names _).mono ?_
 rintro e w1 ⟨A,rfl,hrow,hx⟩
 go_wp2
 go_loopw [5] (fun i wr=>∃ k:Nat,k≤20∧i=.int .i64 k∧Hid ((names.take k).any (ofP c)=false)∧Ext w1 wr) (fun i _=>20 - (intOf i).toNat)
 case atStart=>exact ⟨0,Nat.zero_le _,rfl,Lib.hid rfl,Ext.refl _⟩
 case round =>
  obtain ⟨k,hk,rfl,HK,hxr⟩:=hrel
  by_cases hlt:k < 20
  ·obtain ⟨b,off,rfl,hc⟩:=row_str (hrow.below hxr (Nat.le_refl _)) (show k < names.length from hlt)
   have HA:=Lib.hid (ofZ_at c k hlt HK.out)
   have HT:=Lib.hid (any_snoc (ofP c) names k hlt)
   generalize names[k]=x at *
   go_wp2_with fail
   refine (ref_value _ _ _).mono ?_
   rintro e w2 ⟨rfl,hx2⟩
   have hc2:w2.cell? ⟨b,off+k,none⟩=some (.string x):=(hx2.cell (p:=⟨b,off+k,none⟩) (block_lt hc)).trans hc
   have HP:Hid (ofP c x=decide (0≤valZ (zeroZ x) c)):=Lib.hid rfl
   generalize valZ (zeroZ x) c=v at *
   by_cases hv:0≤v
   ·have HV:Hid (ofZ c=(x,v)):=Lib.hid (HA.out (by rw [HP.out];simpa using hv))
    go_wp2
    go_ret2
    exact ⟨by rw [HV.out];rfl,(hx.trans hxr).trans hx2⟩
   ·have hv':v < 0:=by omega
    clear hv
    go_wp2
    go_roundw
    case rel=>exact ⟨k+1,by omega,by go_num,Lib.hid (by rw [HT.out,HK.out,HP.out];simpa using hv'),hxr.trans hx2⟩
    case measure=>simp [intOf];omega
  ·have e:k=20:=by omega
   subst e
   have HZ:=Lib.hid (ofZ_none c HK.out)
   go_wp2
   go_ret2
   exact ⟨by rw [HZ.out];rfl,hx.trans hxr⟩
def ent (k:Nat):MapEntry:={ key:=.string (nameAt k),val:=.int .i64 (zerosL.getD k 0),born:=k }
def zes (k:Nat):Array MapEntry:=((List.range k).map ent).toArray
theorem zes_push (k:Nat):(zes k).push (ent k)=zes (k+1):=by
 unfold zes;rw [List.range_succ,List.map_append];simp
theorem set_push {α:Type} (a:Array α) (x y:α):(a.push x).setIfInBounds a.size y=a.push y:=by
 apply Array.ext_getElem?
 intro i
 simp only [Array.getElem?_setIfInBounds,Array.getElem?_push,Array.size_push]
 by_cases h:i=a.size
 ·subst h;simp
 ·simp [h,Ne.symm h]
theorem run_ins (w:World) (es:Array MapEntry) (clock:Nat) (s:ByteArray) (v:Value) (h:Instr.findNow .string (.string s) es.toList 0=some none) :
  (Instr.mapUpdate 206 (.map (some w.heap.size)) (.string s) v).run Tryz.prog (w.alloc (.map es clock))=.ok () (w.alloc (.map (es.push { key:=.string s,val:=v,born:=clock }) (clock+1))):=by
 have hb:(w.alloc (.map es clock)).heap[w.heap.size]? = some (.map es clock):=heap_alloc_new w _
 unfold Instr.mapUpdate
 simp only [Sem.run_bind,run_underlying (P:=Tryz.prog) Tryz.underlying206,Result.andThen_ok,MapKept.run_getObj_map hb,MapKept.run_checkKey (P:=Tryz.prog) (d:=.string) Tryz.underlying9 (k:=.string s) trivial,MapKept.run_findKey (P:=Tryz.prog) Tryz.underlying9 h,MapKept.run_setObj_map _ hb]
 show Result.ok () ({ w with heap:=(w.heap.push _).setIfInBounds w.heap.size _ }:World)=_
 rw [set_push]
 rfl
theorem run_insN (w:World) (k:Nat) (h:(Instr.findNow .string (.string (nameAt k)) (zes k).toList 0 matches some none)=true) :
  (Instr.mapUpdate 206 (.map (some w.heap.size)) (.string (nameAt k)) (.int .i64 (zerosL.getD k 0))).run Tryz.prog (w.alloc (.map (zes k) k))=.ok () (w.alloc (.map (zes (k+1)) (k+1))):=by
 rw [run_ins w (zes k) k (nameAt k) _ (by split at h <;> simp_all)]
 rw [← zes_push];rfl
set_option maxRecDepth 100000
theorem sys_zeros (w:World):Calls Tryz.prog 156 #[] w fun e w'=>e=.returned (.map (some w.heap.size))∧w'=w.alloc (.map (zes 20) 20):=by
 have hmm:=@run_makeMap Tryz.prog
 have h0:∀ w:World,(Instr.mapUpdate 206 (.map (some w.heap.size)) (.string ⟨#[97,114,97,98]⟩) (.int .i64 1632)).run Tryz.prog (w.alloc (.map #[] 0))=.ok () (w.alloc (.map (zes 1) 1)):=fun w=>run_insN w 0 (by decide +kernel)
 have h1:∀ w:World,(Instr.mapUpdate 206 (.map (some w.heap.size)) (.string ⟨#[97,114,97,98,101,120,116]⟩) (.int .i64 1776)).run Tryz.prog (w.alloc (.map (zes 1) 1))=.ok () (w.alloc (.map (zes 2) 2)):=fun w=>run_insN w 1 (by decide +kernel)
 have h2:∀ w:World,(Instr.mapUpdate 206 (.map (some w.heap.size)) (.string ⟨#[98,101,110,103]⟩) (.int .i64 2534)).run Tryz.prog (w.alloc (.map (zes 2) 2))=.ok () (w.alloc (.map (zes 3) 3)):=fun w=>run_insN w 2 (by decide +kernel)
 have h3:∀ w:World,(Instr.mapUpdate 206 (.map (some w.heap.size)) (.string ⟨#[100,101,118,97]⟩) (.int .i64 2406)).run Tryz.prog (w.alloc (.map (zes 3) 3))=.ok () (w.alloc (.map (zes 4) 4)):=fun w=>run_insN w 3 (by decide +kernel)
 have h4:∀ w:World,(Instr.mapUpdate 206 (.map (some w.heap.size)) (.string ⟨#[102,117,108,108,119,105,100,101]⟩) (.int .i64 65296)).run Tryz.prog (w.alloc (.map (zes 4) 4))=.ok () (w.alloc (.map (zes 5) 5)):=fun w=>run_insN w 4 (by decide +kernel)
 have h5:∀ w:World,(Instr.mapUpdate 206 (.map (some w.heap.size)) (.string ⟨#[103,117,106,114]⟩) (.int .i64 2790)).run Tryz.prog (w.alloc (.map (zes 5) 5))=.ok () (w.alloc (.map (zes 6) 6)):=fun w=>run_insN w 5 (by decide +kernel)
 have h6:∀ w:World,(Instr.mapUpdate 206 (.map (some w.heap.size)) (.string ⟨#[103,117,114,117]⟩) (.int .i64 2662)).run Tryz.prog (w.alloc (.map (zes 6) 6))=.ok () (w.alloc (.map (zes 7) 7)):=fun w=>run_insN w 6 (by decide +kernel)
 have h7:∀ w:World,(Instr.mapUpdate 206 (.map (some w.heap.size)) (.string ⟨#[107,104,109,114]⟩) (.int .i64 6112)).run Tryz.prog (w.alloc (.map (zes 7) 7))=.ok () (w.alloc (.map (zes 8) 8)):=fun w=>run_insN w 7 (by decide +kernel)
 have h8:∀ w:World,(Instr.mapUpdate 206 (.map (some w.heap.size)) (.string ⟨#[107,110,100,97]⟩) (.int .i64 3302)).run Tryz.prog (w.alloc (.map (zes 8) 8))=.ok () (w.alloc (.map (zes 9) 9)):=fun w=>run_insN w 8 (by decide +kernel)
 have h9:∀ w:World,(Instr.mapUpdate 206 (.map (some w.heap.size)) (.string ⟨#[108,97,111,111]⟩) (.int .i64 3792)).run Tryz.prog (w.alloc (.map (zes 9) 9))=.ok () (w.alloc (.map (zes 10) 10)):=fun w=>run_insN w 9 (by decide +kernel)
 have h10:∀ w:World,(Instr.mapUpdate 206 (.map (some w.heap.size)) (.string ⟨#[108,97,116,110]⟩) (.int .i64 48)).run Tryz.prog (w.alloc (.map (zes 10) 10))=.ok () (w.alloc (.map (zes 11) 11)):=fun w=>run_insN w 10 (by decide +kernel)
 have h11:∀ w:World,(Instr.mapUpdate 206 (.map (some w.heap.size)) (.string ⟨#[109,97,116,104,115,97,110,98]⟩) (.int .i64 120812)).run Tryz.prog (w.alloc (.map (zes 11) 11))=.ok () (w.alloc (.map (zes 12) 12)):=fun w=>run_insN w 11 (by decide +kernel)
 have h12:∀ w:World,(Instr.mapUpdate 206 (.map (some w.heap.size)) (.string ⟨#[109,108,121,109]⟩) (.int .i64 3430)).run Tryz.prog (w.alloc (.map (zes 12) 12))=.ok () (w.alloc (.map (zes 13) 13)):=fun w=>run_insN w 12 (by decide +kernel)
 have h13:∀ w:World,(Instr.mapUpdate 206 (.map (some w.heap.size)) (.string ⟨#[109,111,110,103]⟩) (.int .i64 6160)).run Tryz.prog (w.alloc (.map (zes 13) 13))=.ok () (w.alloc (.map (zes 14) 14)):=fun w=>run_insN w 13 (by decide +kernel)
 have h14:∀ w:World,(Instr.mapUpdate 206 (.map (some w.heap.size)) (.string ⟨#[109,121,109,114]⟩) (.int .i64 4160)).run Tryz.prog (w.alloc (.map (zes 14) 14))=.ok () (w.alloc (.map (zes 15) 15)):=fun w=>run_insN w 14 (by decide +kernel)
 have h15:∀ w:World,(Instr.mapUpdate 206 (.map (some w.heap.size)) (.string ⟨#[111,114,121,97]⟩) (.int .i64 2918)).run Tryz.prog (w.alloc (.map (zes 15) 15))=.ok () (w.alloc (.map (zes 16) 16)):=fun w=>run_insN w 15 (by decide +kernel)
 have h16:∀ w:World,(Instr.mapUpdate 206 (.map (some w.heap.size)) (.string ⟨#[116,97,109,108,100,101,99]⟩) (.int .i64 3046)).run Tryz.prog (w.alloc (.map (zes 16) 16))=.ok () (w.alloc (.map (zes 17) 17)):=fun w=>run_insN w 16 (by decide +kernel)
 have h17:∀ w:World,(Instr.mapUpdate 206 (.map (some w.heap.size)) (.string ⟨#[116,101,108,117]⟩) (.int .i64 3174)).run Tryz.prog (w.alloc (.map (zes 17) 17))=.ok () (w.alloc (.map (zes 18) 18)):=fun w=>run_insN w 17 (by decide +kernel)
 have h18:∀ w:World,(Instr.mapUpdate 206 (.map (some w.heap.size)) (.string ⟨#[116,104,97,105]⟩) (.int .i64 3664)).run Tryz.prog (w.alloc (.map (zes 18) 18))=.ok () (w.alloc (.map (zes 19) 19)):=fun w=>run_insN w 18 (by decide +kernel)
 have h19:∀ w:World,(Instr.mapUpdate 206 (.map (some w.heap.size)) (.string ⟨#[116,105,98,116]⟩) (.int .i64 3872)).run Tryz.prog (w.alloc (.map (zes 19) 19))=.ok () (w.alloc (.map (zes 20) 20)):=fun w=>run_insN w 19 (by decide +kernel)
 go_enter Tryz.func156,Tryz.ntmps156
 go_wp2
 go_ret
 exact ⟨rfl,rfl⟩
set_option maxRecDepth 512
theorem findNow_names (s:ByteArray):∀ (l:List Nat) (i:Nat),Instr.findNow .string (.string s) (l.map ent) i=some ((l.findIdx? (fun k=>decide (nameAt k=s))).map (fun j=>(i+j,(ent (l.getD j 0)).val)))
 | [],i=>rfl
 | k :: l,i=>by
  have ih:=findNow_names s l (i+1)
  have hk:Instr.sameNow .string (.string s) (ent k).key=some (s == nameAt k):=rfl
  rw [List.map_cons,Instr.findNow,hk,List.findIdx?_cons]
  by_cases h:nameAt k=s
  ·have hb:(s == nameAt k)=true:=(MapKept.bytes_beq _ _).2 h.symm
   rw [hb,decide_eq_true h]
   rfl
  ·have hb:(s == nameAt k)=false:=by
    rw [← Bool.not_eq_true,MapKept.bytes_beq];exact fun e=>h e.symm
   rw [hb,decide_eq_false h]
   dsimp only
   rw [ih]
   cases hf:l.findIdx? (fun k=>decide (nameAt k=s)) with
   | none=>simp
   | some j=>simp;omega
theorem names_range:names=(List.range 20).map nameAt:=by decide +kernel
theorem zerosL_pos:∀ i:Fin 20,0≤zerosL.getD i.1 0:=by decide
theorem find_zes (s:ByteArray):(0≤zeroZ s∧∃ j,Instr.findNow .string (.string s) (zes 20).toList 0=some (some (j,.int .i64 (zeroZ s))))∨(zeroZ s=-1∧Instr.findNow .string (.string s) (zes 20).toList 0=some none):=by
 have h:=findNow_names s (List.range 20) 0
 have hz:(zes 20).toList=(List.range 20).map ent:=rfl
 rw [hz,h]
 have hn:names.findIdx? (fun n=>decide (n=s))=(List.range 20).findIdx? (fun k=>decide (nameAt k=s)):=by
  rw [names_range,List.findIdx?_map];rfl
 unfold zeroZ
 rw [hn]
 cases hf:(List.range 20).findIdx? (fun k=>decide (nameAt k=s)) with
 | none=>exact .inr ⟨rfl,rfl⟩
 | some j =>
  rw [List.findIdx?_eq_some_iff_getElem] at hf
  obtain ⟨hj,_⟩:=hf
  have hj':j < 20:=by simpa using hj
  refine .inl ⟨zerosL_pos ⟨j,hj'⟩,0+j,?_⟩
  have:(List.range 20).getD j 0=j:=by
   rw [List.getD_eq_getElem?_getD,List.getElem?_range hj'];rfl
  show some (some (0+j,(ent ((List.range 20).getD j 0)).val))=_
  rw [this];rfl
theorem run_look (w:World) (b:Nat) (s:ByteArray) (hb:w.heap[b]? = some (.map (zes 20) 20)) :
  (Instr.lookup 206 (.map (some b)) (.string s) true).run Tryz.prog w=.ok (.tuple #[.int .i64 (max (zeroZ s) 0),.bool (decide (0≤zeroZ s))]) w:=by
 have hz:(zeroValue 3).run Tryz.prog w=.ok (.int .i64 0) w:=by kernel_rfl
 unfold Instr.lookup
 rcases find_zes s with ⟨h0,j,hf⟩ | ⟨h0,hf⟩
 ·simp only [Sem.run_bind,run_underlying (P:=Tryz.prog) Tryz.underlying206,Result.andThen_ok,MapKept.run_getObj_map hb,MapKept.run_checkKey (P:=Tryz.prog) (d:=.string) Tryz.underlying9 (k:=.string s) trivial,MapKept.run_findKey (P:=Tryz.prog) Tryz.underlying9 hf,Sem.run_pure]
  rw [decide_eq_true h0,show max (zeroZ s) 0=zeroZ s by omega]
  rfl
 ·simp only [Sem.run_bind,run_underlying (P:=Tryz.prog) Tryz.underlying206,Result.andThen_ok,MapKept.run_getObj_map hb,MapKept.run_checkKey (P:=Tryz.prog) (d:=.string) Tryz.underlying9 (k:=.string s) trivial,MapKept.run_findKey (P:=Tryz.prog) Tryz.underlying9 hf,Sem.run_pure,hz]
  rw [h0]
  rfl
def noneE (s:ByteArray):Int:=if 0≤zeroZ s then 0 else 7
theorem sys_zero (s:ByteArray) (w:World):Calls Tryz.prog 120 #[.string s] w fun e w'=>e=.returned (.tuple #[.int .i64 (max (zeroZ s) 0),.int .i64 (noneE s)])∧Ext w w':=by
 have hlk:=fun (w:World)=>run_look (w.alloc (.map (zes 20) 20)) w.heap.size s (heap_alloc_new w _)
 by_cases h:0≤zeroZ s
 ·have HE:Hid (noneE s=0):=Lib.hid (by unfold noneE;rw [if_pos h])
  have HD:Hid (decide (0≤zeroZ s)=true):=Lib.hid (by simpa using h)
  rw [HD.out] at hlk
  clear h HD
  generalize max (zeroZ s) 0=m at *
  go_enter Tryz.func120,Tryz.ntmps120
  go_wp2_with fail
  refine (sys_zeros _).mono ?_
  rintro e w1 ⟨rfl,rfl⟩
  go_wp2
  go_ret2
  exact ⟨by rw [HE.out];rfl,(Below.refl _ _).alloc (Nat.le_refl _) _⟩
 ·have HE:Hid (noneE s=7):=Lib.hid (by unfold noneE;rw [if_neg h])
  have HD:Hid (decide (0≤zeroZ s)=false):=Lib.hid (by simpa using h)
  have HM:Hid (max (zeroZ s) 0=0):=Lib.hid (by omega)
  rw [HD.out] at hlk
  clear h HD
  generalize max (zeroZ s) 0=m at *
  go_enter Tryz.func120,Tryz.ntmps120
  go_wp2_with fail
  refine (sys_zeros _).mono ?_
  rintro e w1 ⟨rfl,rfl⟩
  go_wp2
  go_ret2
  exact ⟨by rw [HE.out,HM.out];rfl,(Below.refl _ _).alloc (Nat.le_refl _) _⟩
def digE (s:ByteArray) (d:Int):Int:=if zeroZ s < 0 then 7 else if d < 0∨10≤d then 3 else 0
def digB (s:ByteArray) (d:Int):List UInt8:=if digE s d=0 then encB (zeroZ s+d) else []
theorem noneE_cases (s:ByteArray):(zeroZ s=-1∧noneE s=7∧max (zeroZ s) 0=0)∨(0≤zeroZ s∧zeroZ s≤120812∧noneE s=0∧max (zeroZ s) 0=zeroZ s):=by
 have:=zeroZ_bd s
 unfold noneE
 by_cases h:0≤zeroZ s
 ·exact .inr ⟨h,this.2,if_pos h,by omega⟩
 ·exact .inl ⟨by omega,if_neg h,by omega⟩
theorem sys_digit (s:ByteArray) (d:Int) (w:World):Calls Tryz.prog 66 #[.string s,.int .i64 d] w fun e w'=>e=.returned (.tuple #[.string ⟨(digB s d).toArray⟩,.int .i64 (digE s d)])∧Ext w w':=by
 rcases noneE_cases s with ⟨hz,hn,hm⟩ | ⟨hz,hz2,hn,hm⟩
 ·have HF:Hid (digE s d=7∧digB s d=[]):=Lib.hid (by
   have:digE s d=7:=by unfold digE;rw [if_pos (by omega)]
   exact ⟨this,by unfold digB;rw [this];rfl⟩)
  have HZ:=sys_zero s
  rw [hn,hm] at HZ
  have HZ':=Lib.hid HZ
  clear HZ hz hn hm
  go_enter Tryz.func66,Tryz.ntmps66
  go_wp2_with fail
  refine (HZ'.out _).mono ?_
  rintro e w1 ⟨rfl,hx⟩
  go_wp2
  go_ret2
  exact ⟨by rw [HF.out.1,HF.out.2];rfl,hx⟩
 ·have HZ:=sys_zero s
  rw [hn,hm] at HZ
  have HZ':=Lib.hid HZ
  have HE:Hid (digE s d=if d < 0∨10≤d then 3 else 0):=Lib.hid (by unfold digE;rw [if_neg (by omega)])
  have HB:Hid (digB s d=if digE s d=0 then encB (zeroZ s+d) else []):=Lib.hid rfl
  clear HZ hn hm
  generalize zeroZ s=z at *
  by_cases h0:d < 0
  ·have HE':Hid (digE s d=3):=Lib.hid (by rw [HE.out,if_pos (by omega)])
   go_enter Tryz.func66,Tryz.ntmps66
   go_wp2_with fail
   refine (HZ'.out _).mono ?_
   rintro e w1 ⟨rfl,hx⟩
   go_wp2
   go_ret2
   exact ⟨by rw [HB.out,HE'.out];rfl,hx⟩
  by_cases h1:10≤d
  ·have HE':Hid (digE s d=3):=Lib.hid (by rw [HE.out,if_pos (by omega)])
   go_enter Tryz.func66,Tryz.ntmps66
   go_wp2_with fail
   refine (HZ'.out _).mono ?_
   rintro e w1 ⟨rfl,hx⟩
   go_wp2
   go_ret2
   exact ⟨by rw [HB.out,HE'.out];rfl,hx⟩
  ·have HE':Hid (digE s d=0):=Lib.hid (by rw [HE.out,if_neg (by omega)])
   have h0':0≤d:=by omega
   have h1':d < 10:=by omega
   clear h0 h1
   go_enter Tryz.func66,Tryz.ntmps66
   go_wp2_with fail
   refine (HZ'.out _).mono ?_
   rintro e w1 ⟨rfl,hx⟩
   go_wp2_with fail
   refine (utf_encode _ _).mono ?_
   rintro e w2 ⟨rfl,hx2⟩
   go_wp2
   go_ret2
   exact ⟨by rw [HB.out,HE'.out];rfl,hx.trans hx2⟩
theorem valZ_in {z c:Int} (h0:0≤z) (h1:z≤c) (h2:c < z+10):valZ z c=c - z:=by unfold valZ;rw [if_neg (by omega)]
theorem valZ_out {z c:Int} (h:z < 0∨c < z∨z+10≤c):valZ z c=-1:=by unfold valZ;rw [if_pos (by omega)]
theorem zeroZ_nameAt:∀ k:Fin 20,zeroZ (nameAt k.1)=zerosL.getD k.1 0:=by decide +kernel
theorem zeros_apart:∀ i j:Fin 20,i=j∨zerosL.getD i.1 0+9 < zerosL.getD j.1 0∨zerosL.getD j.1 0+9 < zerosL.getD i.1 0:=by decide +kernel
theorem of_hit (c:Int) (k:Nat) (hk:k < 20) (h0:zerosL.getD k 0≤c) (h1:c < zerosL.getD k 0+10):ofZ c=(nameAt k,c - zerosL.getD k 0):=by
 have hz:∀ i:Nat,i < 20→zeroZ (nameAt i)=zerosL.getD i 0:=fun i hi=>zeroZ_nameAt ⟨i,hi⟩
 have hp:=zerosL_pos ⟨k,hk⟩
 have hn:nameAt k=names[k]'hk:=(names_at (show k < names.length from hk)).symm
 rw [hn]
 have hv:valZ (zeroZ (names[k]'hk)) c=c - zerosL.getD k 0:=by rw [← hn,hz k hk];exact valZ_in hp h0 h1
 rw [← hv]
 refine ofZ_at c k hk ?_ (by unfold ofP;rw [hv];exact decide_eq_true (by omega))
 rw [List.any_eq_false]
 intro x hx
 obtain ⟨i,hi,rfl⟩:=List.mem_take_iff_getElem.1 hx
 have hi20:i < 20:=by omega
 have hx2:names[i]=nameAt i:=names_at (show i < names.length from hi20)
 rw [Bool.not_eq_true]
 refine (congrArg (ofP c) hx2).trans ?_
 unfold ofP
 rw [hz i hi20]
 rcases zeros_apart ⟨i,hi20⟩ ⟨k,hk⟩ with h | h | h
 ·have:i=k:=congrArg Fin.val h
  omega
 ·have h':zerosL.getD i 0+9 < zerosL.getD k 0:=h
  rw [valZ_out (by omega)];decide
 ·have h':zerosL.getD k 0+9 < zerosL.getD i 0:=h
  rw [valZ_out (by omega)];decide
theorem of_miss (c:Int) (h:∀ k,k < 20→¬ (zerosL.getD k 0≤c∧c < zerosL.getD k 0+10)):ofZ c=(⟨#[]⟩,-1):=by
 refine ofZ_none c ?_
 rw [List.any_eq_false]
 intro x hx
 obtain ⟨i,hi,rfl⟩:=List.mem_iff_getElem.1 hx
 have hi20:i < 20:=hi
 rw [names_at hi]
 unfold ofP
 rw [show zeroZ (nameAt i)=zerosL.getD i 0 from zeroZ_nameAt ⟨i,hi20⟩]
 have:=h i hi20
 rw [valZ_out (by omega)];decide
theorem mem_zes {e:MapEntry} (h:e ∈ (zes 20).toList):∃ k,k < 20∧e=ent k:=by
 have:(zes 20).toList=(List.range 20).map ent:=rfl
 rw [this] at h
 obtain ⟨k,hk,rfl⟩:=List.mem_map.1 h
 exact ⟨k,by simpa using hk,rfl⟩
theorem ent_mem {k:Nat} (h:k < 20):ent k ∈ (zes 20).toList:=by
 have:(zes 20).toList=(List.range 20).map ent:=rfl
 rw [this]
 exact List.mem_map.2 ⟨k,by simpa using h,rfl⟩
theorem zes_born:∀ x ∈ (zes 20).toList,x.born < 20:=fun x hx=>by
 obtain ⟨k,hk,rfl⟩:=mem_zes hx;exact hk
theorem zes_nodup:((zes 20).toList.map (·.born)).Nodup:=by
 have:(zes 20).toList.map (·.born)=List.range 20:=rfl
 rw [this];exact List.nodup_range
theorem zeros_any (w:World):Calls Tryz.prog 156 #[] w fun e w'=>∃ b,e=.returned (.map (some b))∧w'.heap[b]? = some (.map (zes 20) 20)∧Ext w w' :=
 (sys_zeros w).mono fun e w' ⟨he,hw⟩=>⟨_,he,by rw [hw];exact heap_alloc_new w _,by rw [hw];exact (Below.refl _ _).alloc (Nat.le_refl _) _⟩
theorem next_map (w:World) (ty:TypeId) (bm clock:Nat) (seen:Array Nat) (es:Array MapEntry) (hb:w.heap[bm]? = some (.map es clock)) (hold:∀ x ∈ es.toList,x.born < clock) :
  ((leftOf es seen).size=0∧(Instr.next (.pointer (some ⟨w.heap.size,0,none⟩)) false ty).run Tryz.prog (w.alloc (.mapIter (some bm) clock seen clock))=.ok (.tuple #[.bool false]) (w.alloc (.mapIter (some bm) clock seen clock))) ∨
  ∃ e ∈ (leftOf es seen).toList,∃ n:Nat,(Instr.next (.pointer (some ⟨w.heap.size,0,none⟩)) false ty).run Tryz.prog (w.alloc (.mapIter (some bm) clock seen clock))=.ok (.tuple #[.bool true,e.key,e.val]) ((w.drewN n).alloc (.mapIter (some bm) clock (seen.push e.born) clock)):=by
 have hlt:bm < w.heap.size:=by
  rcases Nat.lt_or_ge bm w.heap.size with h | h
  ·exact h
  ·simp [Array.getElem?_eq_none h] at hb
 have hb':(w.alloc (.mapIter (some bm) clock seen clock)).heap[bm]? = some (.map es clock):=by rw [heap_alloc_old w _ hlt,hb]
 simp only [Instr.next,getObj,Sem.run_bind,Sem.run,heap_alloc_new,hb',Result.andThen,next_test_false seen es clock clock hold (Nat.le_refl _),Bool.false_eq_true,if_false]
 unfold leftOf
 have hmem:∀ x ∈ (Array.filter (fun e=>!seen.contains e.born) es).toList,x.born < clock:=fun x hx=>hold x (by simp at hx ⊢;exact hx.1)
 generalize Array.filter (fun e=>!seen.contains e.born) es=L at hmem ⊢
 have e1:L.filter (fun x=>decide (x.born < clock))=L:=Array.filter_eq_self.2 (fun x hx=>by simpa using hmem x (by simpa using hx))
 have e2:L.filter (fun x=>decide (x.born ≥ clock))=#[]:=Array.filter_eq_empty_iff.2 (fun x hx=>by have:=hmem x (by simpa using hx);simp;omega)
 simp only [e1,e2,Array.append_empty]
 by_cases h0:L.size=0
 ·have:L=#[]:=Array.eq_empty_of_size_eq_zero h0
  subst this
  exact .inl ⟨rfl,by simp [choose,Sem.run,Question.forced]⟩
 ·have hne:L.isEmpty=false:=by simp [Array.isEmpty,h0]
  simp only [hne,Bool.false_eq_true,if_false,Array.empty_append,Array.size_map]
  obtain ⟨j,n,hj,hrun⟩:∃ (j n:Nat),j < L.size∧(choose (Question.mapNext L.size)).run Tryz.prog (w.alloc (.mapIter (some bm) clock seen clock))=.ok j ((w.drewN n).alloc (.mapIter (some bm) clock seen clock)):=by
   by_cases hf:L.size≤1
   ·exact ⟨0,0,by omega,by simp [choose,Sem.run,Question.forced,hf];rfl⟩
   ·exact ⟨_,1,Nat.mod_lt _ (by omega),by
     simp only [choose,Sem.run,Question.forced,decide_eq_true_eq,hf,if_false,Question.cut]
     rfl⟩
  refine .inr ⟨L[j],by simp,n,?_⟩
  have hset:∀ (o':Obj),(setObj w.heap.size o').run Tryz.prog ((w.drewN n).alloc (.mapIter (some bm) clock seen clock))=.ok () ((w.drewN n).alloc o'):=fun o'=>by
   simp only [setObj,Sem.run]
   have hh:((w.drewN n).alloc (.mapIter (some bm) clock seen clock)).heap[w.heap.size]? = some (.mapIter (some bm) clock seen clock):=heap_alloc_new (w.drewN n) _
   rw [hh]
   show Result.ok () ({ (w.drewN n).alloc (.mapIter (some bm) clock seen clock) with heap:=(w.heap.push (.mapIter (some bm) clock seen clock)).setIfInBounds w.heap.size o' }:World)=_
   rw [set_push]
   rfl
  simp only [hrun,Array.getElem?_map,Array.getElem?_eq_getElem hj,Option.map_some,Sem.run_bind,hset,Result.andThen]
  rfl
set_option maxRecDepth 1000000
theorem sys_of (c:Int) (W:World):Calls Tryz.prog 75 #[.int .i64 c] W fun e w'=>e=.returned (.tuple #[.string (ofZ c).1,.int .i64 (ofZ c).2])∧Ext W w':=by
 go_enter Tryz.func75,Tryz.ntmps75
 go_wp2_with fail
 refine (zeros_any _).mono ?_
 rintro e w ⟨bm,rfl,hb,hxt⟩
 have hrg:=run_range_map (P:=Tryz.prog) w 206 9 3 bm (zes 20) 20 Tryz.underlying206 hb
 go_wp2
 go_loopw [] (fun w'=>∃ (n:Nat) (seen:Array Nat),w'=(w.drewN n).alloc (.mapIter (some bm) 20 seen 20)∧Hid (∀ k,k < 20→seen.contains k=true→¬ (zerosL.getD k 0≤c∧c < zerosL.getD k 0+10))) (fun w'=>(leftOf (zes 20) (w'.iterSeen w.heap.size)).size)
 case atStart=>exact ⟨0,#[],rfl,Lib.hid fun x _ h=>by simp at h⟩
 case round =>
  obtain ⟨n,seen,rfl,hno⟩:=hrel
  have hxn:∀ n o,Ext w ((w.drewN n).alloc o):=fun n o=>Below.alloc (a:=w) (w:=w.drewN n) ⟨rfl,rfl,rfl,Nat.le_refl _,fun _ _=>rfl⟩ (Nat.le_refl _) o
  have law:=next_map (w.drewN n) 0 bm 20 seen (zes 20) hb zes_born
  rcases law with ⟨h0,hrun⟩ | ⟨e,he,m,hrun⟩
  ·have hnx:∀ ty,(Instr.next (.pointer (some ⟨w.heap.size,0,none⟩)) false ty).run Tryz.prog ((w.drewN n).alloc (.mapIter (some bm) 20 seen 20))=_:=fun _=>hrun
   have HM:Hid (ofZ c=(⟨#[]⟩,-1)):=Lib.hid (of_miss c fun k hk=>hno.out k hk (all_seen (zes 20) seen h0 _ (ent_mem hk)))
   go_wp2
   go_ret2
   exact ⟨by rw [HM.out];rfl,hxt.trans (hxn _ _)⟩
  ·obtain ⟨hmem,hns⟩:=mem_left he
   obtain ⟨k,hk,rfl⟩:=mem_zes hmem
   rw [World.drewN_drewN] at hrun
   have hnx:∀ ty,(Instr.next (.pointer (some ⟨w.heap.size,0,none⟩)) false ty).run Tryz.prog ((w.drewN n).alloc (.mapIter (some bm) 20 seen 20))=.ok (.tuple #[.bool true,.string (nameAt k),.int .i64 (zerosL.getD k 0)]) ((w.drewN (n+m)).alloc (.mapIter (some bm) 20 (seen.push k) 20)):=fun _=>hrun
   have hen:(Instr.entry (.pointer (some ⟨w.heap.size,0,none⟩))).run Tryz.prog ((w.drewN (n+m)).alloc (.mapIter (some bm) 20 (seen.push k) 20))=.ok (.tuple #[.string (nameAt k),.int .i64 (zerosL.getD k 0)]) ((w.drewN (n+m)).alloc (.mapIter (some bm) 20 (seen.push k) 20)):=run_entry_map (P:=Tryz.prog) (w.drewN (n+m)) bm 20 seen (zes 20) 20 (ent k) hb hmem zes_nodup
   have HH:=Lib.hid (of_hit c k hk)
   have hz0:0≤zerosL.getD k 0:=zerosL_pos ⟨k,hk⟩
   have hzb:zerosL.getD k 0≤120812:=by
    have:∀ i:Fin 20,zerosL.getD i.1 0≤120812:=by decide
    exact this ⟨k,hk⟩
   have HL:Hid ((leftOf (zes 20) (seen.push k)).size < (leftOf (zes 20) seen).size):=Lib.hid (left_shrinks (zes 20) seen (ent k) he)
   have E1:Hid (((w.drewN (n+m)).alloc (.mapIter (some bm) 20 (seen.push k) 20)).iterSeen w.heap.size=seen.push k):=Lib.hid (World.iterSeen_alloc (w.drewN (n+m)) _ _ _ _)
   have E2:Hid (((w.drewN n).alloc (.mapIter (some bm) 20 seen 20)).iterSeen w.heap.size=seen):=Lib.hid (World.iterSeen_alloc (w.drewN n) _ _ _ _)
   have HZ:∃ z,Hid (zerosL.getD k 0=z)∧zerosL.getD k 0=z:=⟨_,Lib.hid rfl,rfl⟩
   obtain ⟨z,HZ,hz⟩:=HZ
   rw [hz] at hnx hen HH hz0 hzb
   clear hz hrun hns
   generalize nameAt k=nm at *
   by_cases h1:z≤c
   ·by_cases h2:c < z+10
    ·have HO:Hid (ofZ c=(nm,c - z)):=Lib.hid (HH.out h1 h2)
     go_wp2
     go_ret2
     exact ⟨by rw [HO.out];rfl,hxt.trans (hxn _ _)⟩
    ·have HN:Hid (¬ (z≤c∧c < z+10)):=Lib.hid (by omega)
     go_wp2
     go_roundw
     case rel =>
      refine ⟨n+m,seen.push k,rfl,Lib.hid fun x hx hc=>?_⟩
      rw [contains_push] at hc
      rcases Bool.or_eq_true _ _ ▸ hc with h | h
      ·exact hno.out x hx h
      ·obtain rfl:x=k:=beq_iff_eq.1 h
       rw [HZ.out];exact HN.out
     case measure=>rw [E1.out,E2.out];exact HL.out
   ·have HN:Hid (¬ (z≤c∧c < z+10)):=Lib.hid (by omega)
    go_wp2
    go_roundw
    case rel =>
     refine ⟨n+m,seen.push k,rfl,Lib.hid fun x hx hc=>?_⟩
     rw [contains_push] at hc
     rcases Bool.or_eq_true _ _ ▸ hc with h | h
     ·exact hno.out x hx h
     ·obtain rfl:x=k:=beq_iff_eq.1 h
      rw [HZ.out];exact HN.out
    case measure=>rw [E1.out,E2.out];exact HL.out
open Go.RowKit Utf Small Build All Dec
set_option maxRecDepth 512
theorem sort_acc {w0 w:World} {A:Option Addr} {c n:Nat} {ss:List (List UInt8)} (h:Acc 9 1 w0 w A c n (ss.map encStr)) (h1:1≤n) (h9:n≤1000000) :
  Calls Tryz.prog 184 #[.slice A n c] w fun e w'=>e=.returned (.tuple #[])∧Acc 9 1 w0 w' A c n ((ss.mergeSort fun x y=>decide (x≤y)).map encStr):=by
 have hx:=h.ext
 have hl:ss.length=n:=by have:=h.own.1;simpa using this
 subst hl
 rcases h.own.2 with ⟨hv,hn⟩ | ⟨g,cap,cur,hv,hbase,hb,h2,h3,h4,h5⟩
 ·omega
 ·injection hv with hA _ hc
  subst hA;subst hc
  refine (Tryz.slices_Sort_string g 0 c ss w (holds_of_block hb (by simpa using h5)) (Array.getElem?_eq_some_iff.1 hb).1 (by omega)).mono ?_
  rintro e w' ⟨rfl,m,os,rfl⟩
  exact ⟨rfl,ownsRow_sorted (by simp) hbase hb h2 h3 h4,hx.grown (grownBy_sorted _) hx.size (fun k hk=>by injection hk with hk;omega)⟩
def bytesAt (k:Nat):List UInt8:=(nameAt k).data.toList
theorem enc_bytes (k:Nat):encStr (bytesAt k)=.string (nameAt k):=by simp [encStr,bytesAt]
theorem sorted_names {l:List Nat} (h:l.Perm (List.range 20)):((l.map bytesAt).mergeSort fun x y=>decide (x≤y)).map encStr=names.map Value.string:=by
 have e1:(l.map bytesAt).mergeSort (fun x y=>decide (x≤y))=((List.range 20).map bytesAt).mergeSort (fun x y=>decide (x≤y)):=mergeSort_of_perm (h.map _)
 have e2:((List.range 20).map bytesAt).mergeSort (fun x y=>decide (x≤y))=(List.range 20).map bytesAt:=List.mergeSort_of_pairwise (by decide +kernel)
 rw [e1,e2]
 rfl
theorem perm_range {l:List Nat} (hn:l.Nodup) (h:∀ k,k ∈ l ↔ k < 20):l.Perm (List.range 20) :=
 (List.perm_ext_iff_of_nodup hn List.nodup_range).2 fun k=>by rw [h k,List.mem_range]
theorem iter_at {w:World} {r bm since cl:Nat} {seen:Array Nat} (h:w.heap[r]? = some (.mapIter (some bm) since seen cl)):w.iterSeen r=seen:=by
 unfold World.iterSeen;rw [h]
theorem next_zes (w:World) (r bm:Nat) (seen:Array Nat) (hr:w.heap[r]? = some (.mapIter (some bm) 20 seen 20)) (hb:w.heap[bm]? = some (.map (zes 20) 20)) (hne:r ≠ bm) :
  ((leftOf (zes 20) seen).size=0∧∀ ty,(Instr.next (.pointer (some ⟨r,0,none⟩)) false ty).run Tryz.prog w=.ok (.tuple #[.bool false]) w) ∨
  ∃ k,k < 20∧ent k ∈ (leftOf (zes 20) seen).toList∧∃ w':World,(∀ ty,(Instr.next (.pointer (some ⟨r,0,none⟩)) false ty).run Tryz.prog w=.ok (.tuple #[.bool true,.string (nameAt k),.int .i64 (zerosL.getD k 0)]) w') ∧
   (Instr.entry (.pointer (some ⟨r,0,none⟩))).run Tryz.prog w'=.ok (.tuple #[.string (nameAt k),.int .i64 (zerosL.getD k 0)]) w' ∧
   w'.heap[r]? = some (.mapIter (some bm) 20 (seen.push k) 20)∧w.grownBy w' (some r):=by
 rcases run_next_at (P:=Tryz.prog) w 0 r bm 20 20 seen (zes 20) 20 hr hb zes_born (Nat.le_refl _) with ⟨h0,hrun⟩ | ⟨e,he,w1,hw1,hrun⟩
 ·exact .inl ⟨h0,fun _=>hrun⟩
 ·obtain ⟨hmem,hns⟩:=mem_left he
  obtain ⟨k,hk,rfl⟩:=mem_zes hmem
  have hlt:r < w1.heap.size:=by
   have:=(Array.getElem?_eq_some_iff.1 hr).1
   rcases hw1 with rfl | rfl <;> exact this
  have hb1:w1.heap[bm]? = some (.map (zes 20) 20):=by rcases hw1 with rfl | rfl <;> exact hb
  have hr2:(Go.ChangeMaps.setBlock w1 r (.mapIter (some bm) 20 (seen.push k) 20)).heap[r]? = some (.mapIter (some bm) 20 (seen.push k) 20):=by
   simp [Go.ChangeMaps.setBlock,hlt]
  have hb2:(Go.ChangeMaps.setBlock w1 r (.mapIter (some bm) 20 (seen.push k) 20)).heap[bm]? = some (.map (zes 20) 20):=by
   simp [Go.ChangeMaps.setBlock,hne,hb1]
  refine .inr ⟨k,hk,he,_,fun _=>hrun,run_entry_at (P:=Tryz.prog) _ r bm 20 seen (zes 20) 20 (ent k) hr2 hb2 hmem zes_nodup,hr2,?_⟩
  have hp:w1.os=w.os∧w1.tape=w.tape∧w1.output=w.output∧w1.heap=w.heap:=by
   rcases hw1 with h | h
   ·rw [h];exact ⟨rfl,rfl,rfl,rfl⟩
   ·rw [h];exact ⟨rfl,rfl,rfl,rfl⟩
  refine ⟨hp.1,hp.2.1,hp.2.2.1,?_,fun i hi hne=>?_⟩
  ·show w.heap.size≤(w1.heap.setIfInBounds r _).size
   rw [hp.2.2.2];simp
  ·have:r ≠ i:=fun e=>hne (by rw [e])
   show (w1.heap.setIfInBounds r _)[i]? = w.heap[i]?
   rw [hp.2.2.2];simp [this]
theorem miter_no_cells (b:Option Nat) (s:Nat) (seen:Array Nat) (n:Nat):∀ cs t f,Obj.mapIter b s seen n ≠ .cells cs t f:=fun _ _ _ h=>by cases h
theorem seen_snoc (seen:Array Nat) (k:Nat):((seen.push k).toList.map bytesAt).map encStr=(seen.toList.map bytesAt).map encStr++[.string (nameAt k)]:=by
 simp [enc_bytes,encStr,bytesAt]
set_option maxRecDepth 100000
theorem sys_names (W:World):Calls Tryz.prog 132 #[] W fun e w'=>∃ A c,e=.returned (.slice A 20 c)∧Row w' A (names.map Value.string)∧Ext W w':=by
 go_enter Tryz.func132,Tryz.ntmps132
 go_wp2_with fail
 refine (zeros_any _).mono ?_
 rintro e w ⟨bm,rfl,hb,hxt⟩
 have hbl:bm < w.heap.size:=(Array.getElem?_eq_some_iff.1 hb).1
 have hrg:=run_range_map (P:=Tryz.prog) w 206 9 3 bm (zes 20) 20 Tryz.underlying206 hb
 go_wp2
 go_loopw [1] (fun v wr=>∃ (seen:Array Nat) (A:Option Addr) (c:Nat),v=.slice A seen.size c∧wr.heap[w.heap.size]? = some (.mapIter (some bm) 20 seen 20)∧Acc 9 1 w wr A c seen.size ((seen.toList.map bytesAt).map encStr)∧Hid (seen.toList.Nodup)∧Hid (∀ k ∈ seen.toList,k < 20)∧Hid (seen.size+(leftOf (zes 20) seen).size≤20)) (fun _ wr=>(leftOf (zes 20) (wr.iterSeen w.heap.size)).size)
 case atStart=>exact ⟨#[],none,0,rfl,heap_alloc_new w _,(Acc.start _ _ _).step ((Below.refl _ _).alloc (Nat.le_refl _) _),Lib.hid (by simp),Lib.hid (by simp),Lib.hid (by decide +kernel)⟩
 case round =>
  obtain ⟨seen,A,c,rfl,hr,hacc,HN,HB,HS⟩:=hrel
  have hb':wr.heap[bm]? = some (.map (zes 20) 20):=(hacc.ext.block bm hbl).trans hb
  rcases next_zes wr w.heap.size bm seen hr hb' (by omega) with ⟨h0,hnx⟩ | ⟨k,hk,he,w2,hnx,hen,hr2,hg2⟩
  ·have hall:=all_seen (zes 20) seen h0
   have hmem:∀ k,k ∈ seen.toList ↔ k < 20:=fun k=>⟨HB.out k,fun hk=>by have:=hall _ (ent_mem hk);simpa [ent] using this⟩
   have hperm:=perm_range HN.out hmem
   have hsz:seen.size=20:=by have:=hperm.length_eq;simpa using this
   have HP:=Lib.hid (sorted_names hperm)
   rw [hsz] at hacc
   clear hall hmem hperm h0
   rw [hsz]
   go_wp2_with fail
   refine (sort_acc hacc (by decide) (by decide)).mono ?_
   rintro e w9 ⟨rfl,hacc9⟩
   have hrow:=hacc9.row
   rw [HP.out] at hrow
   go_wp2
   go_ret
   exact ⟨A,c,rfl,hrow,hacc9.ext_of hxt⟩
  ·have hne:=hacc.ne_obj hr (miter_no_cells _ _ _ _)
   have hacc2:=hacc.turn hg2 hne (Nat.le_refl _)
   have HN2:=Lib.hid (hacc2.ne_obj hr2 (miter_no_cells _ _ _ _))
   have HL:=Lib.hid (left_shrinks (zes 20) seen (ent k) he)
   have HNS:=Lib.hid (mem_left he).2
   have HSN:=Lib.hid (seen_snoc seen k)
   have hs20:seen.size≤20:=by have:=HS.out;omega
   have HE0:=Lib.hid (iter_at hr)
   have HPS:Hid ((seen.push k).size=seen.size+1):=Lib.hid (by simp)
   generalize nameAt k=nm at *
   clear hr hb' he hacc hne
   go_wp2_with (at_builtin;refine wp_app ei_str rfl _ _ rfl w _ A c seen.size _ rfl hacc2 [.string nm] 1 1 rfl rfl (by simp [Value.oneCell']) (by omega) (by unfold maxLen;omega) ?_;intro A1 c1 w3 hacc3 _ hg3;clear hacc2)
   have hr3:=grown_obj hg3 hr2 HN2.out
   have HE1:=Lib.hid (iter_at hr3)
   go_roundw
   case rel =>
    refine ⟨seen.push k,A1,c1,by rw [HPS.out],hr3,by rw [HPS.out,HSN.out];exact hacc3,Lib.hid ?_,Lib.hid ?_,Lib.hid ?_⟩
    ·rw [Array.toList_push,List.nodup_append]
     refine ⟨HN.out,by simp,fun a ha b hb e=>?_⟩
     obtain rfl:b=k:=by simpa using hb
     subst e
     have h1:seen.contains a=false:=HNS.out
     have h2:seen.contains a=true:=by simpa using ha
     rw [h1] at h2;cases h2
    ·intro x hx
     rw [Array.toList_push,List.mem_append] at hx
     rcases hx with h | h
     ·exact HB.out x h
     ·obtain rfl:x=k:=by simpa using h
      exact hk
    ·have h1:=HS.out
     have h2:(leftOf (zes 20) (seen.push k)).size < (leftOf (zes 20) seen).size:=HL.out
     rw [HPS.out];omega
   case measure=>rw [HE1.out,HE0.out];exact HL.out
end Go.Proofs.YtcghgkagpkmpeaaGreatDoor.Sys
