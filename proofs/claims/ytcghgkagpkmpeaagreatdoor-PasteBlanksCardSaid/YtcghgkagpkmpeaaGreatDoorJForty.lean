/- Joined by wip/join.py: FortyD Forty Forty2 Forty3 Forty4 Forty5 Forty6 Forty7 QTail Forty8 Forty9n. -/
import Derived.Test.YtcghgkagpkmpeaaGreatDoorJBase
import Derived.Deep.DeepCutAuto
import Derived.Test.YtcghgkagpkmpeaaGreatDoorJUtf
import Derived.RangeFuncNested
import Derived.RangeFuncBound
import Derived.RangeFuncCalls
import Derived.RangeFuncLeaves
import Derived.RangeFuncBox
import Derived.Shelf.Abstract
import Derived.Shelf.RegionOpen
import Derived.WalkKit
import Derived.OwnWalkIn
import Derived.TacticsInMore
import Derived.LoopNIn
import Derived.LoopIn
import Derived.Maps.AppendAt
import Derived.Deep.WholeRow
import Derived.StillTail
import Derived.Deep.Quiet
import Derived.Deep.QuietTactic
import Derived.BigQuiet
import Derived.Deep.RegionLaw
set_option linter.unusedVariables false
set_option linter.unusedSimpArgs false
set_option maxHeartbeats 4000000
namespace Go.Proofs.YtcghgkagpkmpeaaGreatDoor.Forty
open Go.RowKit
set_option maxRecDepth 100000
def recs:List (List ByteArray):=[
 [⟨#[97,114,45,69,71]⟩,⟨#[194,164,35,44,35,35,48,46,48,48]⟩,⟨#[97,114,97,98]⟩,⟨#[217,171]⟩,⟨#[217,172]⟩,⟨#[45]⟩,⟨#[217,170]⟩,⟨#[69,71,80]⟩],
 [⟨#[98,103,45,66,71]⟩,⟨#[48,46,48,48,194,160,194,164]⟩,⟨#[108,97,116,110]⟩,⟨#[44]⟩,⟨#[]⟩,⟨#[45]⟩,⟨#[37]⟩,⟨#[66,71,78]⟩],
 [⟨#[98,110,45,66,68]⟩,⟨#[35,44,35,35,44,35,35,48,46,48,48,194,164]⟩,⟨#[98,101,110,103]⟩,⟨#[46]⟩,⟨#[44]⟩,⟨#[45]⟩,⟨#[37]⟩,⟨#[224,167,179]⟩],
 [⟨#[99,115,45,67,90]⟩,⟨#[35,44,35,35,48,46,48,48,194,160,194,164]⟩,⟨#[108,97,116,110]⟩,⟨#[44]⟩,⟨#[226,128,175]⟩,⟨#[45]⟩,⟨#[37]⟩,⟨#[75,196,141]⟩],
 [⟨#[100,97,45,68,75]⟩,⟨#[35,44,35,35,48,46,48,48,194,160,194,164]⟩,⟨#[108,97,116,110]⟩,⟨#[44]⟩,⟨#[46]⟩,⟨#[45]⟩,⟨#[37]⟩,⟨#[107,114]⟩],
 [⟨#[100,101,45,65,84]⟩,⟨#[194,164,194,160,35,44,35,35,48,46,48,48]⟩,⟨#[108,97,116,110]⟩,⟨#[44]⟩,⟨#[46]⟩,⟨#[45]⟩,⟨#[37]⟩,⟨#[226,130,172]⟩],
 [⟨#[100,101,45,67,72]⟩,⟨#[194,164,194,160,35,44,35,35,48,46,48,48,59,194,164,45,35,44,35,35,48,46,48,48]⟩,⟨#[108,97,116,110]⟩,⟨#[46]⟩,⟨#[226,128,153]⟩,⟨#[45]⟩,⟨#[37]⟩,⟨#[67,72,70]⟩],
 [⟨#[100,101,45,68,69]⟩,⟨#[35,44,35,35,48,46,48,48,194,160,194,164]⟩,⟨#[108,97,116,110]⟩,⟨#[44]⟩,⟨#[46]⟩,⟨#[45]⟩,⟨#[37]⟩,⟨#[226,130,172]⟩],
 [⟨#[100,122,45,66,84]⟩,⟨#[194,164,35,44,35,35,44,35,35,48,46,48,48]⟩,⟨#[116,105,98,116]⟩,⟨#[46]⟩,⟨#[44]⟩,⟨#[45]⟩,⟨#[37]⟩,⟨#[78,117]⟩],
 [⟨#[101,108,45,71,82]⟩,⟨#[35,44,35,35,48,46,48,48,194,160,194,164]⟩,⟨#[108,97,116,110]⟩,⟨#[44]⟩,⟨#[46]⟩,⟨#[45]⟩,⟨#[37]⟩,⟨#[226,130,172]⟩],
 [⟨#[101,110,45,71,66]⟩,⟨#[194,164,35,44,35,35,48,46,48,48]⟩,⟨#[108,97,116,110]⟩,⟨#[46]⟩,⟨#[44]⟩,⟨#[45]⟩,⟨#[37]⟩,⟨#[194,163]⟩],
 [⟨#[101,110,45,73,78]⟩,⟨#[194,164,35,44,35,35,44,35,35,48,46,48,48]⟩,⟨#[108,97,116,110]⟩,⟨#[46]⟩,⟨#[44]⟩,⟨#[45]⟩,⟨#[37]⟩,⟨#[226,130,185]⟩],
 [⟨#[101,110,45,85,83]⟩,⟨#[194,164,35,44,35,35,48,46,48,48]⟩,⟨#[108,97,116,110]⟩,⟨#[46]⟩,⟨#[44]⟩,⟨#[45]⟩,⟨#[37]⟩,⟨#[36]⟩],
 [⟨#[101,115,45,69,83]⟩,⟨#[35,44,35,35,48,46,48,48,194,160,194,164]⟩,⟨#[108,97,116,110]⟩,⟨#[44]⟩,⟨#[46]⟩,⟨#[45]⟩,⟨#[37]⟩,⟨#[226,130,172]⟩],
 [⟨#[101,116,45,69,69]⟩,⟨#[35,44,35,35,48,46,48,48,194,160,194,164]⟩,⟨#[108,97,116,110]⟩,⟨#[44]⟩,⟨#[226,128,175]⟩,⟨#[226,136,146]⟩,⟨#[37]⟩,⟨#[226,130,172]⟩],
 [⟨#[102,97,45,73,82]⟩,⟨#[35,44,35,35,48,46,48,48]⟩,⟨#[97,114,97,98,101,120,116]⟩,⟨#[217,171]⟩,⟨#[217,172]⟩,⟨#[226,136,146]⟩,⟨#[217,170]⟩,⟨#[]⟩],
 [⟨#[102,105,45,70,73]⟩,⟨#[35,44,35,35,48,46,48,48,194,160,194,164]⟩,⟨#[108,97,116,110]⟩,⟨#[44]⟩,⟨#[226,128,175]⟩,⟨#[226,136,146]⟩,⟨#[37]⟩,⟨#[226,130,172]⟩],
 [⟨#[102,114,45,67,65]⟩,⟨#[35,44,35,35,48,46,48,48,194,160,194,164]⟩,⟨#[108,97,116,110]⟩,⟨#[44]⟩,⟨#[226,128,175]⟩,⟨#[45]⟩,⟨#[37]⟩,⟨#[36]⟩],
 [⟨#[102,114,45,70,82]⟩,⟨#[35,44,35,35,48,46,48,48,194,160,194,164]⟩,⟨#[108,97,116,110]⟩,⟨#[44]⟩,⟨#[226,128,175]⟩,⟨#[45]⟩,⟨#[37]⟩,⟨#[226,130,172]⟩],
 [⟨#[103,117,45,73,78]⟩,⟨#[194,164,35,44,35,35,44,35,35,48,46,48,48]⟩,⟨#[103,117,106,114]⟩,⟨#[46]⟩,⟨#[44]⟩,⟨#[45]⟩,⟨#[37]⟩,⟨#[226,130,185]⟩],
 [⟨#[104,101,45,73,76]⟩,⟨#[35,44,35,35,48,46,48,48,194,160,194,164]⟩,⟨#[108,97,116,110]⟩,⟨#[46]⟩,⟨#[44]⟩,⟨#[45]⟩,⟨#[37]⟩,⟨#[226,130,170]⟩],
 [⟨#[104,105,45,73,78]⟩,⟨#[194,164,35,44,35,35,44,35,35,48,46,48,48]⟩,⟨#[100,101,118,97]⟩,⟨#[46]⟩,⟨#[44]⟩,⟨#[45]⟩,⟨#[37]⟩,⟨#[226,130,185]⟩],
 [⟨#[104,117,45,72,85]⟩,⟨#[35,44,35,35,48,46,48,48,194,160,194,164]⟩,⟨#[108,97,116,110]⟩,⟨#[44]⟩,⟨#[226,128,175]⟩,⟨#[45]⟩,⟨#[37]⟩,⟨#[70,116]⟩],
 [⟨#[105,100,45,73,68]⟩,⟨#[194,164,194,160,35,44,35,35,48,46,48,48]⟩,⟨#[108,97,116,110]⟩,⟨#[44]⟩,⟨#[46]⟩,⟨#[45]⟩,⟨#[37]⟩,⟨#[82,112]⟩],
 [⟨#[106,97,45,74,80]⟩,⟨#[194,164,35,44,35,35,48]⟩,⟨#[108,97,116,110]⟩,⟨#[46]⟩,⟨#[44]⟩,⟨#[45]⟩,⟨#[37]⟩,⟨#[239,191,165]⟩],
 [⟨#[107,109,45,75,72]⟩,⟨#[35,44,35,35,48,46,48,48,194,164]⟩,⟨#[107,104,109,114]⟩,⟨#[44]⟩,⟨#[46]⟩,⟨#[45]⟩,⟨#[37]⟩,⟨#[225,159,155]⟩],
 [⟨#[107,110,45,73,78]⟩,⟨#[194,164,35,44,35,35,44,35,35,48,46,48,48]⟩,⟨#[107,110,100,97]⟩,⟨#[46]⟩,⟨#[44]⟩,⟨#[45]⟩,⟨#[37]⟩,⟨#[226,130,185]⟩],
 [⟨#[107,111,45,75,82]⟩,⟨#[194,164,35,44,35,35,48]⟩,⟨#[108,97,116,110]⟩,⟨#[46]⟩,⟨#[44]⟩,⟨#[45]⟩,⟨#[37]⟩,⟨#[226,130,169]⟩],
 [⟨#[108,111,45,76,65]⟩,⟨#[194,164,35,44,35,35,48,46,48,48,59,194,164,45,35,44,35,35,48,46,48,48]⟩,⟨#[108,97,111,111]⟩,⟨#[44]⟩,⟨#[46]⟩,⟨#[45]⟩,⟨#[37]⟩,⟨#[226,130,173]⟩],
 [⟨#[109,114,45,73,78]⟩,⟨#[194,164,35,44,35,35,44,35,35,48,46,48,48]⟩,⟨#[100,101,118,97]⟩,⟨#[46]⟩,⟨#[44]⟩,⟨#[45]⟩,⟨#[37]⟩,⟨#[226,130,185]⟩],
 [⟨#[109,121,45,77,77]⟩,⟨#[35,44,35,35,48,46,48,48,194,160,194,164]⟩,⟨#[109,121,109,114]⟩,⟨#[46]⟩,⟨#[44]⟩,⟨#[45]⟩,⟨#[37]⟩,⟨#[75]⟩],
 [⟨#[110,98,45,78,79]⟩,⟨#[194,164,194,160,35,44,35,35,48,46,48,48,59,194,164,194,160,45,35,44,35,35,48,46,48,48]⟩,⟨#[108,97,116,110]⟩,⟨#[44]⟩,⟨#[226,128,175]⟩,⟨#[226,136,146]⟩,⟨#[37]⟩,⟨#[107,114]⟩],
 [⟨#[110,108,45,78,76]⟩,⟨#[194,164,194,160,35,44,35,35,48,46,48,48,59,194,164,194,160,45,35,44,35,35,48,46,48,48]⟩,⟨#[108,97,116,110]⟩,⟨#[44]⟩,⟨#[46]⟩,⟨#[45]⟩,⟨#[37]⟩,⟨#[226,130,172]⟩],
 [⟨#[112,108,45,80,76]⟩,⟨#[35,44,35,35,48,46,48,48,194,160,194,164]⟩,⟨#[108,97,116,110]⟩,⟨#[44]⟩,⟨#[226,128,175]⟩,⟨#[45]⟩,⟨#[37]⟩,⟨#[122,197,130]⟩],
 [⟨#[112,116,45,66,82]⟩,⟨#[194,164,194,160,35,44,35,35,48,46,48,48]⟩,⟨#[108,97,116,110]⟩,⟨#[44]⟩,⟨#[46]⟩,⟨#[45]⟩,⟨#[37]⟩,⟨#[82,36]⟩],
 [⟨#[114,117,45,82,85]⟩,⟨#[35,44,35,35,48,46,48,48,194,160,194,164]⟩,⟨#[108,97,116,110]⟩,⟨#[44]⟩,⟨#[226,128,175]⟩,⟨#[45]⟩,⟨#[37]⟩,⟨#[226,130,189]⟩],
 [⟨#[115,108,45,83,73]⟩,⟨#[35,44,35,35,48,46,35,35,37]⟩,⟨#[108,97,116,110]⟩,⟨#[44]⟩,⟨#[46]⟩,⟨#[226,136,146]⟩,⟨#[37]⟩,⟨#[]⟩],
 [⟨#[116,97,45,73,78]⟩,⟨#[194,164,194,160,35,44,35,35,44,35,35,48,46,48,48]⟩,⟨#[116,97,109,108,100,101,99]⟩,⟨#[46]⟩,⟨#[44]⟩,⟨#[45]⟩,⟨#[37]⟩,⟨#[226,130,185]⟩],
 [⟨#[116,104,45,84,72]⟩,⟨#[194,164,35,44,35,35,48,46,48,48]⟩,⟨#[116,104,97,105]⟩,⟨#[46]⟩,⟨#[44]⟩,⟨#[45]⟩,⟨#[37]⟩,⟨#[224,184,191]⟩],
 [⟨#[122,104,45,67,78]⟩,⟨#[194,164,35,44,35,35,48,46,48,48]⟩,⟨#[108,97,116,110]⟩,⟨#[46]⟩,⟨#[44]⟩,⟨#[45]⟩,⟨#[37]⟩,⟨#[194,165]⟩]]
def recAt (k:Nat):List ByteArray:=recs.getD k []
def fldAt (k j:Nat):ByteArray:=(recAt k).getD j ⟨#[]⟩
def nameAt (k:Nat):ByteArray:=fldAt k 0
def recV (k:Nat):Value:=.agg #[.string (fldAt k 0),.string (fldAt k 1),.string (fldAt k 2),.string (fldAt k 3),.string (fldAt k 4),.string (fldAt k 5),.string (fldAt k 6),.string (fldAt k 7)]
def cells40:List Value:=recs.flatten.map Value.string
theorem flat_at:∀ k:Fin 40,∀ j:Fin 8,recs.flatten[8 * k.1+j.1]? = some (fldAt k.1 j.1):=by decide +kernel
theorem cells_at {k j:Nat} (hk:k < 40) (hj:j < 8):cells40[8 * k+j]? = some (.string (fldAt k j)):=by
 unfold cells40
 rw [List.getElem?_map,flat_at ⟨k,hk⟩ ⟨j,hj⟩];rfl
def stepV (P:Program):List Oper→Act→World→Option (Act × World)
 | [],a,w=>some (a,w)
 | o :: l,a,w=>match o.guard with
  | some _=>none
  | none=>match (execOp a.eval o).run P w with
   | .ok (.value v) w'=>stepV P l (a.put o.dst v) w'
   | .ok .skip w'=>stepV P l (a.put o.dst undef) w'
   | _=>none
theorem wpList_stepV {P:Program} {ops:Array Oper} {Q:Exit→Act→World→Prop}:∀ (l:List Oper) (a:Act) (w:World) (a':Act) (w':World),stepV P l a w=some (a',w')→Q .normal a' w'→wpList P ops Q l a w
 | [],a,w,a',w',h,hq=>by simp only [stepV,Option.some.injEq,Prod.mk.injEq] at h;rw [wpList,h.1,h.2];exact hq
 | o :: l,a,w,a',w',h,hq=>by
  unfold stepV at h
  cases hg:o.guard with
  | some g=>rw [hg] at h;cases h
  | none =>
   rw [hg] at h
   refine wpList_plain hg fun K hK=>?_
   unfold Oper.wp
   dsimp only at h
   split at h
   ·rename_i v w1 hr
    rw [hr,Oper.upon_value]
    exact hK _ _ (wpList_stepV l _ _ _ _ h hq)
   ·rename_i w1 hr
    rw [hr,Oper.upon_skip]
    exact hK _ _ (wpList_stepV l _ _ _ _ h hq)
   ·cases h
theorem cells40_row (w:World) (e:TypeId):Row (w.alloc (.cells cells40.toArray e)) (some ⟨w.heap.size,0,none⟩) cells40:=row_new w cells40 e
def slots40 (v:Value):Array Value:=#[v]++((List.range 40).map recV).toArray++#[v]
theorem slots40_0 (v:Value):(slots40 v)[0]?.getD undef=v:=by simp [slots40]
set_option maxRecDepth 1000000
theorem ref_records (w:World):Calls Tryz.prog 109 #[] w fun e w'=>∃ A,e=.returned (.slice A 40 40)∧Row w' A cells40∧Ext w w':=by
 go_enter Tryz.func109,Tryz.ntmps109
 go_upto_region 1 with fail
 have hr:=cells40_row w 26
 have hx:Ext w (w.alloc (.cells cells40.toArray 26)):=(Below.refl _ _).alloc (Nat.le_refl _) _
 refine wp_region_lit (wpList_stepV _ _ _ ⟨slots40 (.slice (some ⟨w.heap.size,0,none⟩) 40 40),[]⟩ (w.alloc (.cells cells40.toArray 26)) (by kernel_rfl) ?_)
 have HT:=slots40_0 (.slice (some ⟨w.heap.size,0,none⟩) 40 40)
 generalize slots40 (.slice (some ⟨w.heap.size,0,none⟩) 40 40)=T at *
 generalize w.alloc (.cells cells40.toArray 26)=w1 at *
 go_wp2_with fail
 refine bodyPost_ret (v:=.slice (some ⟨w.heap.size,0,none⟩) 40 40) (by simp [results,Tryz.results109,go_sem,HT]) rfl ?_
 exact ⟨_,rfl,hr,hx⟩
open Go.RowKit Small
set_option maxRecDepth 512
def recL (k:Nat):List Value:=[.string (fldAt k 0),.string (fldAt k 1),.string (fldAt k 2),.string (fldAt k 3),.string (fldAt k 4),.string (fldAt k 5),.string (fldAt k 6),.string (fldAt k 7)]
theorem recV_L (k:Nat):recV k=.agg (recL k).toArray:=rfl
theorem rec_cell {w:World} {b off:Nat} (h:Row w (some ⟨b,off,none⟩) cells40) {k:Nat} (hk:k < 40) {j:Nat} (hj:j < 8):w.cell? ⟨b,off+k * 8+j,none⟩=some (.string (fldAt k j)):=by
 have:=h.cell0 (cells_at hk hj)
 rwa [Nat.mul_comm 8 k,← Nat.add_assoc] at this
theorem recL_at {k j:Nat} {v:Value} (h:(recL k)[j]? = some v):j < 8∧v=.string (fldAt k j):=by
 have hj:j < 8:=by have:=(List.getElem?_eq_some_iff.1 h).1;simpa [recL] using this
 refine ⟨hj,?_⟩
 match j,hj with
 | 0,_ | 1,_ | 2,_ | 3,_ | 4,_ | 5,_ | 6,_ | 7,_=>simpa [recL] using h.symm
theorem rec_range {w:World} {b off:Nat} (h:Row w (some ⟨b,off,none⟩) cells40) {k:Nat} (hk:k < 40):w.rangeAt b (off+k * 8) (recL k):=fun j v hv=>by
 obtain ⟨hj,rfl⟩:=recL_at hv
 exact rec_cell h hk hj
def zero8:List Value:=[.string ⟨#[]⟩,.string ⟨#[]⟩,.string ⟨#[]⟩,.string ⟨#[]⟩,.string ⟨#[]⟩,.string ⟨#[]⟩,.string ⟨#[]⟩,.string ⟨#[]⟩]
theorem infoR:(Tryz.prog.info? 26).map (·.size)=some 8:=by kernel_rfl
theorem cells40_len:cells40.length=320:=by decide +kernel
theorem recL_one (k:Nat):(recL k).toArray.all (·.oneCell')=true:=by simp [recL,Value.oneCell']
theorem ref_one (n:Int) (w:World) (h1:-9223372036854775808≤n) (h2:n≤9223372036854775807) :
  Calls Tryz.prog 61 #[.int .i64 n] w fun e w'=>e=.returned (recV (aroundF n 40).toNat)∧Ext w w':=by
 have hb:=aroundF_bd n 40 (by omega)
 have HF:Hid (aroundF n 40=((aroundF n 40).toNat:Int)):=Lib.hid (by omega)
 have hk:(aroundF n 40).toNat < 40:=by omega
 generalize hkk:(aroundF n 40).toNat=k at *
 clear hkk hb
 have hb0:Box (w.alloc (.cells zero8.toArray 26)) w.heap.size 26 zero8:=Box.new _ _ _
 have HB0:=Lib.hid hb0
 clear hb0
 go_enter Tryz.func61,Tryz.ntmps61
 go_wp2_with fail
 refine (ref_records _).mono ?_;rintro e w1 ⟨A,rfl,hrow,hx⟩
 go_wp2_with fail
 refine (around _ _ _ h1 h2 (by omega) (by omega)).mono ?_;rintro e w2 ⟨rfl,rfl⟩
 rw [HF.out]
 obtain ⟨b,off,rfl,-⟩:=hrow.at_ (k:=0) (by rw [cells40_len];omega)
 have HB1:=Lib.hid (HB0.out.ext hx)
 have HX:=Lib.hid hx
 have HR:=Lib.hid (rec_range hrow hk)
 clear hx hrow HB0
 go_wp2_with (first
  | (refine wpList_load_mid rfl 26 (.tmp 6) rfl b (off+k * 8) rfl (recL k) _ HR.out Tryz.underlying26 rfl infoR ?_)
  | (refine wpList_store_row rfl 26 (.tmp 2) (.tmp 7) rfl w.heap.size (recL k).toArray rfl rfl _ _ HB1.out infoR rfl (recL_one k) ?_))
 have hb2:=HB1.out.set (recL k).toArray
 refine bodyPost_ret (v:=recV k) (results_cell_row rfl _ _ w.heap.size _ _ _ _ rfl hb2 Tryz.underlying26 rfl infoR) rfl ⟨rfl,?_⟩
 exact Ext.setRow (((Below.refl _ _).alloc (Nat.le_refl _) _).trans (HX.out.mono (by simp))) (Nat.le_refl _) _
def findZ (s:ByteArray):Int:=idxF (fun k=>decide (nameAt k=s)) (List.range 40)
open Go.RowKit Go.Shelf Small
attribute [local go_sem] Oper.semAt_some
def KeepsR (W W':World):Prop:=∀ (i:Nat) (cs:Array Value) (fz:Nat × Nat),W.heap[i]? = some (Obj.cells cs 84 fz)→W'.heap[i]? = some (Obj.cells cs 84 fz)
theorem KeepsR.refl (W:World):KeepsR W W:=fun _ _ _ h=>h
theorem KeepsR.trans {A B C:World} (h:KeepsR A B) (k:KeepsR B C):KeepsR A C:=fun i cs fz hi=>k i cs fz (h i cs fz hi)
theorem KeepsR.box {W W':World} {g:Nat} {cs:List Value} (h:KeepsR W W') (hb:Box W g 84 cs):Box W' g 84 cs:=h g _ _ hb
attribute [local go_sem] Oper.semAt_some
theorem KeepsR.grown {W W':World} {row:Option Nat} (hg:W.grownBy W' row) (h:∀ (r:Nat) (cs:Array Value) (fz:Nat × Nat),row=some r→W.heap[r]? ≠ some (Obj.cells cs 84 fz)):KeepsR W W':=fun i cs fz hi=>by
 have hlt:i < W.heap.size:=(Array.getElem?_eq_some_iff.1 hi).1
 exact (hg.block i hlt (fun e=>h i cs fz e.symm hi)).trans hi
theorem KeepsR.alloc (W:World) (o:Obj):KeepsR W (W.alloc o):=.grown (World.grownBy_alloc W o none) (fun r cs fz e=>by cases e)
theorem KeepsR.setCell {W:World} {B:Nat} {cs:Array Value} {t:TypeId} {fz:Nat × Nat} (h:W.heap[B]? = some (Obj.cells cs t fz)) (ht:t ≠ 84) (j:Nat) (v:Value):KeepsR W (W.setCell ⟨B,j,none⟩ v):=fun i cs' fz' hi=>by
 by_cases e:i=B
 ·subst e;rw [h] at hi;injection hi with hi;injection hi with _ h2 _;exact absurd h2 ht
 ·exact (heap_setCell_other W _ i v e).trans hi
attribute [local go_sem] Oper.semAt_some
theorem Box.kept {W W':World} {row:Option Nat} {g:Nat} {T:TypeId} {cs:List Value} (h:Box W g T cs) (hg:W.grownBy W' row) (hne:some g ≠ row):Box W' g T cs:=(hg.block g h.lt hne).trans h
def recR (s:ByteArray):List Value:=if 0≤findZ s then recL (findZ s).toNat else zero8
open Go.RowKit Go.Shelf Small Strs
attribute [local go_sem] Oper.semAt_some
theorem results_two {fn:Func} (h:fn.results=#[.cell 2 9,.cell 3 49]) (tmps:Array Value) (w:World) (g k:Nat) (u v:Value)
  (h2:tmps.getD 2 undef=.pointer (some ⟨g,0,none⟩)) (h3:tmps.getD 3 undef=.pointer (some ⟨k,0,none⟩)) (hb:Box w g 9 [u]) (hk:Box w k 49 [v]) :
  (results fn tmps).run Tryz.prog w=.ok (.tuple #[u,v]) w:=by
 have h2':tmps[2]?.getD undef=.pointer (some ⟨g,0,none⟩):=by simpa using h2
 have h3':tmps[3]?.getD undef=.pointer (some ⟨k,0,none⟩):=by simpa using h3
 have hb':=hb.cell (j:=0) rfl
 have hc:=hk.cell (j:=0) rfl
 have e1:(loadVar 9 ⟨g,0,none⟩).run Tryz.prog w=.ok u w:=by simp [go_sem,hb']
 have e2:(loadVar 49 ⟨k,0,none⟩).run Tryz.prog w=.ok v w:=by simp [go_sem,hc]
 simp [results,h,h2',h3',asAddr,e1,e2]
end Go.Proofs.YtcghgkagpkmpeaaGreatDoor.Forty
namespace Go.Proofs.YtcghgkagpkmpeaaGreatDoor
open Go Go.RowKit
section
variable {P:Program} {ops:Array Oper} {C:World→Prop}
end
structure ExtW (w0:World) where
 w:World
 h:Below w0.heap.size w0 w
instance (w0:World):Nonempty (ExtW w0):=⟨⟨w0,Below.refl _ _⟩⟩
theorem ext_of {P:Program} {f:FuncId} {args:Array Value} {w0:World} {x:ExtW w0} {v:Value} (h:Calls P f args x.w fun e w'=>e=.returned v∧Below x.w.heap.size x.w w'):Calls P f args x.w fun e w''=>e=.returned v∧∃ y:ExtW w0,w''=y.w :=
 h.mono fun _ w'' ⟨he,hx⟩=>⟨he,⟨w'',x.h.trans (hx.mono x.h.size)⟩,rfl⟩
theorem ExtW.cell {w0:World} {b off:Nat} {v:Value} (h:w0.cell? ⟨b,off,none⟩=some v) (x:ExtW w0):x.w.cell? ⟨b,off,none⟩=some v:=Ext.cell_ x.h h
end Go.Proofs.YtcghgkagpkmpeaaGreatDoor
namespace Go.Proofs.YtcghgkagpkmpeaaGreatDoor.Forty
open Go.RowKit Small Strs
theorem idxF_lt {α:Type} (p:α→Bool) (xs:List α) (h:0≤idxF p xs):∃ k:Nat,∃ hk:k < xs.length,idxF p xs=k∧p xs[k]=true:=by
 unfold idxF at *
 cases hf:xs.findIdx? p with
 | none=>rw [hf] at h;simp at h
 | some i =>
  rw [List.findIdx?_eq_some_iff_getElem] at hf
  obtain ⟨hi,hp,_⟩:=hf
  exact ⟨i,hi,rfl,hp⟩
end Go.Proofs.YtcghgkagpkmpeaaGreatDoor.Forty
namespace Go.Proofs.YtcghgkagpkmpeaaGreatDoor.Forty
open Go.RowKit Small
end Go.Proofs.YtcghgkagpkmpeaaGreatDoor.Forty
