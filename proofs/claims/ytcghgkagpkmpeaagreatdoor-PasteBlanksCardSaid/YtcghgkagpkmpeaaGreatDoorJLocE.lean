/- Joined by wip/join.py: LReg2 LRef2 LTell LAff LRef4 LRef5 LSym LTabs LRef3 LRef3b. -/
import Derived.Test.YtcghgkagpkmpeaaGreatDoorJLocB
import Derived.Deep.MidRow
import Derived.Test.YtcghgkagpkmpeaaGreatDoorJLocD
import Derived.Test.YtcghgkagpkmpeaaGreatDoorJPat4
import Derived.Deep.RegionHeld3
import Derived.Test.YtcghgkagpkmpeaaGreatDoorJLocC
import Derived.Test.YtcghgkagpkmpeaaGreatDoorJClus
import Derived.Lib.LaidU8T
import Derived.WideShapes
import Derived.RowKit
import Derived.ChangeSlices
set_option linter.unusedVariables false
set_option linter.unusedSimpArgs false
set_option maxHeartbeats 8000000
namespace Go.Proofs.YtcghgkagpkmpeaaGreatDoor.Loc
open Go.RowKit
theorem takeRow_ {P:Program} {l:List Oper} {Q:Exit→Act→World→Prop} {md:Region.Mode} {S:World→Prop} {oi:Oper} {fuel:Nat} {listed:Array Bool} {a:Act} {w:World}
  (i:Nat) (hi:l[i]? = some oi) (hs:Region.noSelect l.toArray=true) (hf:Region.free md l.toArray listed i=true) (hr:(Region.ready md l.toArray listed).contains i=true)
  {cs:List Value} (hQ:∀ c a w,Q (.panic c) (a.put oi.dst (.agg cs.toArray)) w→Q (.panic c) a w) (hS:S w) (hw:Region.wanted oi (yielded l.toArray a.tmps)=true)
  (ty:TypeId) (x:Operand) (ho:oi.op=.load ty x) (b o:Nat) (hx:a.eval x=.pointer (some ⟨b,o,none⟩)) (d:TypeDesc) (hc:∀ w,S w→w.rangeAt b o cs)
  (hu:P.underlying ty=some d) (hd:d.isRow=true) (hz:(P.info? ty).map (·.size)=some cs.length)
  (h:wpAnyH P md l.toArray Q S fuel (listed.setIfInBounds i true) (a.put oi.dst (.agg cs.toArray)) w):wpAnyH P md l.toArray Q S (fuel+1) listed a w :=
 wpAnyH_take (i:=i) (by rw [List.getElem?_toArray];exact hi) hs hf hr hQ (yieldsIf_load_mid hw ty x ho b o hx cs d hc hu hd hz) hS h
theorem tr_ {P:Program} {l:List Oper} {Q:Exit→Act→World→Prop} {md:Region.Mode} {S:World→Prop} {oi:Oper} {fuel:Nat} {listed:Array Bool} {a:Act} {w:World}
  (i:Nat) {cs:List Value} (hS:S w) (ty:TypeId) (x:Operand) (b o:Nat) {d:TypeDesc} (hc:∀ w,S w→w.rangeAt b o cs) (hu:P.underlying ty=some d) (hz:(P.info? ty).map (·.size)=some cs.length)
  (h:wpAnyH P md l.toArray Q S fuel (listed.setIfInBounds i true) (a.put oi.dst (.agg cs.toArray)) w)
  (hi:l[i]? = some oi:=by rfl) (hs:Region.noSelect l.toArray=true:=by kernel_rfl) (hf:Region.free md l.toArray listed i=true:=by kernel_rfl) (hr:(Region.ready md l.toArray listed).contains i=true:=by kernel_rfl)
  (hQ:∀ c a w,Q (.panic c) (a.put oi.dst (.agg cs.toArray)) w→Q (.panic c) a w:=by exact fun _ _ _ h=>h) (hw:Region.wanted oi (yielded l.toArray a.tmps)=true:=by rfl)
  (ho:oi.op=.load ty x:=by rfl) (hx:a.eval x=.pointer (some ⟨b,o,none⟩):=by rfl) (hd:d.isRow=true:=by rfl):wpAnyH P md l.toArray Q S (fuel+1) listed a w :=
 takeRow_ i hi hs hf hr hQ hS hw ty x ho b o hx d hc hu hd hz h
theorem Ext.range_ {w w':World} (h:Ext w w') {b o:Nat} {cs:List Value} (hc:w.rangeAt b o cs):w'.rangeAt b o cs:=fun j v hv=>Ext.cell_ h (hc j v hv)
open Go.RowKit Utf All Small Strs Build EncC Pat Cls Dec Go.Proofs.YtcghgkagpkmpeaaGreatDoor.Sys
def refLV (A B C D:Option Addr) (c d a b:Nat) (r:Rec) (p:Pt):List Value:=recV r++patC (.slice A p.pre.length c) (.slice B p.suf.length d) (.slice C p.npre.length a) (.slice D p.nsuf.length b) p.num
def zero17:List Value:=[sV [],sV [],sV [],sV [],sV [],sV [],sV [],sV [],.slice none 0 0,.slice none 0 0,.slice none 0 0,.slice none 0 0,.int .i64 0,.int .i64 0,.int .i64 0,.int .i64 0,.int .i64 0]
def isInt:Value→Bool
 | .int _ _=>true
 | _=>false
def isStr:Value→Bool
 | .string _=>true
 | _=>false
theorem zero17_no:∀ k:Fin 17,((zero17[k.val]?.any isInt) && (zero17[k.val+1]?.any isStr))=false:=by decide
theorem pcs_setRow {w:World} {b:Nat} {T:TypeId} {A:Option Addr} {q:List Pc} (hb:Box w b T zero17) (hr:Row w A (pcsV q)) (ds:Array Value):Row (w.setRow b ds) A (pcsV q):=by
 rcases hr with h | ⟨b',off,rfl,hc⟩
 ·exact .inl h
 ·cases q with
  | nil=>exact .inl rfl
  | cons x r =>
   have hne:b' ≠ b:=by
    intro e
    subst e
    have h0:=hc 0 (.int .i64 x.1) rfl
    have h1:=hc 1 (.string ⟨x.2.toArray⟩) rfl
    rw [cell_of_row w b' _ _ T (0,0) hb,List.getElem?_toArray] at h0 h1
    rw [Nat.add_zero] at h0
    have hlt:off < 17:=(List.getElem?_eq_some_iff.1 h0).1
    have hk:=zero17_no ⟨off,hlt⟩
    simp only at hk
    rw [h0,h1] at hk
    simp [isInt,isStr] at hk
   exact .inr ⟨b',off,rfl,fun j v hv=>(World.cell?_of_block (setRow_other w b b' ds hne)).trans (hc j v hv)⟩
theorem pt_setRow {w:World} {b:Nat} {T:TypeId} {A B C D:Option Addr} {p:Pt} (hb:Box w b T zero17) (h:PtR w A B C D p) (ds:Array Value):PtR (w.setRow b ds) A B C D p :=
 ⟨pcs_setRow hb h.1 ds,pcs_setRow hb h.2.1 ds,pcs_setRow hb h.2.2.1 ds,pcs_setRow hb h.2.2.2 ds⟩
theorem infoRL:(Tryz.prog.info? 31).map (·.size)=some 17:=by kernel_rfl
theorem refL_one (A B C D:Option Addr) (c d a b:Nat) (r:Rec) (p:Pt):(refLV A B C D c d a b r p).toArray.all (·.oneCell')=true:=by simp [refLV,recV,sV,patC,Value.oneCell']
set_option maxRecDepth 100000
theorem ref_new (r:Rec) (p:Pt) (w:World) (h:Both r p) :
  Calls Tryz.prog 59 #[.agg (recV r).toArray] w fun e w'=>∃ A B C D c d a b,e=.returned (.agg (refLV A B C D c d a b r p).toArray)∧PtR w' A B C D p∧CapR p c d a b∧Ext w w':=by
 have b1:=(Box.new w 26 (recV r)).alloc (.cells zero17.toArray 31)
 have c1:=Box.new (w.alloc (.cells (recV r).toArray 26)) 31 zero17
 have hx1:Ext w ((w.alloc (.cells (recV r).toArray 26)).alloc (.cells zero17.toArray 31)):=Ext.alloc_ (Ext.alloc_ (Ext.refl w) _) _
 have hs1:(w.alloc (.cells (recV r).toArray 26)).heap.size=w.heap.size+1:=by simp
 rw [hs1] at c1
 clear hs1
 have HP:=Lib.hid (fun W=>refP_ok h.ref (by have:=h.plen;omega) W)
 have k1:=b1.cell (j:=1) (v:=.string ⟨r.pattern.toArray⟩) rfl
 have HB1:=Lib.hid b1
 have HC1:=Lib.hid c1
 have HX1:=Lib.hid hx1
 clear b1 c1 hx1 h
 go_enter Tryz.func59,Tryz.ntmps59
 go_upto_region 1 with fail
 change Code.wp _ _ _ _ ((w.alloc (.cells (recV r).toArray 26)).alloc (.cells zero17.toArray 31))
 generalize (w.alloc (.cells (recV r).toArray 26)).alloc (.cells zero17.toArray 31)=w1 at *
 go_upto_region 2 with (first
  | (go_at_call 106;refine (HP.out _).mono ?_;rintro e w3 ⟨A,c,B,d,C,a,D,b,rfl,hpt,hcap,hx⟩)
  | (refine wpList_store_fresh rfl 29 (.tmp 3) (.tmp 9) rfl (patC (.slice A p.pre.length c) (.slice B p.suf.length d) (.slice C p.npre.length a) (.slice D p.nsuf.length b) p.num).toArray 29 _ rfl rfl infoP rfl (by simp [patC,Value.oneCell']) ?_))
 have hb2:=HB1.out.ext hx
 have hb3:=hb2.alloc (.cells (patC (.slice A p.pre.length c) (.slice B p.suf.length d) (.slice C p.npre.length a) (.slice D p.nsuf.length b) p.num).toArray 29)
 have hc3:=(HC1.out.ext hx).alloc (.cells (patC (.slice A p.pre.length c) (.slice B p.suf.length d) (.slice C p.npre.length a) (.slice D p.nsuf.length b) p.num).toArray 29)
 have hd3:=Box.new w3 29 (patC (.slice A p.pre.length c) (.slice B p.suf.length d) (.slice C p.npre.length a) (.slice D p.nsuf.length b) p.num)
 have hx4:Ext w3 (w3.alloc (.cells (patC (.slice A p.pre.length c) (.slice B p.suf.length d) (.slice C p.npre.length a) (.slice D p.nsuf.length b) p.num).toArray 29)):=Ext.alloc_ (Ext.refl _) _
 have hpt4:=hpt.ext hx4
 have hr1:(w3.alloc (.cells (patC (.slice A p.pre.length c) (.slice B p.suf.length d) (.slice C p.npre.length a) (.slice D p.nsuf.length b) p.num).toArray 29)).rangeAt w.heap.size 0 [.string ⟨r.name.toArray⟩,.string ⟨r.pattern.toArray⟩,.string ⟨r.system.toArray⟩,.string ⟨r.decimal.toArray⟩,.string ⟨r.group.toArray⟩,.string ⟨r.minus.toArray⟩,.string ⟨r.percent.toArray⟩,.string ⟨r.currency.toArray⟩]:=hb3.range
 have hr2:(w3.alloc (.cells (patC (.slice A p.pre.length c) (.slice B p.suf.length d) (.slice C p.npre.length a) (.slice D p.nsuf.length b) p.num).toArray 29)).rangeAt w3.heap.size 0 [.slice A p.pre.length c,.slice B p.suf.length d,.slice C p.npre.length a,.slice D p.nsuf.length b,.int .i64 p.num.prim,.int .i64 p.num.sec,.int .i64 p.num.minInt,.int .i64 p.num.minFrac,.int .i64 p.num.maxFrac]:=hd3.range
 have HR1:=Lib.hid hr1
 have HR2:=Lib.hid hr2
 have HC3:=Lib.hid hc3
 have HX4:=Lib.hid ((HX1.out.trans hx).trans hx4)
 have HPT4:=Lib.hid hpt4
 clear hb2 hb3 hc3 hd3 hx4 hpt4 hr1 hr2 hpt hx HB1 HC1 k1
 generalize w3.alloc (.cells (patC (.slice A p.pre.length c) (.slice B p.suf.length d) (.slice C p.npre.length a) (.slice D p.nsuf.length b) p.num).toArray 29)=w4 at *
 go_wp2_with (first
  | (refine wpList_load_mid rfl 26 (.tmp 1) rfl w.heap.size 0 rfl _ _ HR1.out Tryz.underlying26 rfl infoR ?_)
  | (refine wpList_load_mid rfl 29 (.tmp 3) rfl w3.heap.size 0 rfl _ _ HR2.out Tryz.underlying29 rfl infoP ?_)
  | (refine wpList_store_row rfl 31 (.tmp 2) (.tmp 13) rfl (w.heap.size+1) (refLV A B C D c d a b r p).toArray rfl rfl _ _ HC3.out infoRL rfl (refL_one A B C D c d a b r p) ?_))
 have hb5:=HC3.out.set (refLV A B C D c d a b r p).toArray
 have hle:w.heap.size≤w.heap.size+1:=Nat.le_succ _
 refine bodyPost_ret (v:=.agg (refLV A B C D c d a b r p).toArray) (results_cell_row rfl _ _ (w.heap.size+1) _ _ _ _ rfl hb5 Tryz.underlying31 rfl infoRL) rfl ⟨A,B,C,D,c,d,a,b,rfl,pt_setRow HC3.out HPT4.out _,hcap,Ext.setRow HX4.out hle _⟩
theorem ref_text (X:Option Addr) (n k:Nat) (q:List Pc) (r:Rec) (w:World) (hX:Row w X (pcsV q)) (hq:q.length=n) (hl:n≤1000) (hc:r.currency.length≤1000) (hp:r.percent.length≤1000) (hk:∀ x ∈ q,0≤x.1∧x.1 < 4∧x.2.length≤6) :
  Calls Tryz.prog 85 #[.agg (recV r).toArray,.slice X n k] w fun e w'=>e=.returned (.string ⟨(resF r.currency r.percent [] q).toArray⟩)∧Ext w w':=by
 have b1:=Box.new w 26 (recV r)
 have hx1:Ext w (w.alloc (.cells (recV r).toArray 26)):=Ext.alloc_ (Ext.refl w) _
 have k7:=b1.cell (j:=7) (v:=.string ⟨r.currency.toArray⟩) rfl
 have k6:=b1.cell (j:=6) (v:=.string ⟨r.percent.toArray⟩) rfl
 have HR:Hid (∀ W,Ext w W→Calls Tryz.prog 161 #[.slice X n k,.string ⟨r.currency.toArray⟩,.string ⟨r.percent.toArray⟩,.string ⟨#[]⟩] W fun e w'=>e=.returned (.string ⟨(resF r.currency r.percent [] q).toArray⟩)∧Ext W w'):=Lib.hid fun W hW=>by
  subst hq
  exact resolve_ref X k r.currency r.percent [] q W (hX.below hW (Nat.le_refl _)) hl (by omega) (by omega) (by simp) hk
 have HX1:=Lib.hid hx1
 clear hX hk b1 hx1
 generalize resF r.currency r.percent [] q=t at *
 go_enter Tryz.func85,Tryz.ntmps85
 go_upto_region 1 with fail
 change Code.wp _ _ _ _ (w.alloc (.cells (recV r).toArray 26))
 generalize w.alloc (.cells (recV r).toArray 26)=w1 at *
 generalize (⟨r.currency.toArray⟩:ByteArray)=s1 at *
 generalize (⟨r.percent.toArray⟩:ByteArray)=s2 at *
 go_wp2_with (go_at_call 161;with_reducible refine (HR.out _ HX1.out).mono ?_;rintro e w2 ⟨rfl,hx2⟩)
 go_ret
 exact ⟨rfl,HX1.out.trans hx2⟩
theorem ref_affixes (A B C D:Option Addr) (c d a b:Nat) (r:Rec) (p:Pt) (w:World) :
  Calls Tryz.prog 84 #[.agg (patC (.slice A p.pre.length c) (.slice B p.suf.length d) (.slice C p.npre.length a) (.slice D p.nsuf.length b) p.num).toArray] w fun e w'=>∃ E,e=.returned (.slice E 4 4)∧Row w' E (affV A B C D c d a b (locOf r p))∧Ext w w':=by
 have HE:Hid (affV A B C D c d a b (locOf r p)=[.slice A p.pre.length c,.slice B p.suf.length d,.slice C p.npre.length a,.slice D p.nsuf.length b]):=Lib.hid rfl
 have b1:=Box.new w 29 (patC (.slice A p.pre.length c) (.slice B p.suf.length d) (.slice C p.npre.length a) (.slice D p.nsuf.length b) p.num)
 have hx1:Ext w (w.alloc (.cells (patC (.slice A p.pre.length c) (.slice B p.suf.length d) (.slice C p.npre.length a) (.slice D p.nsuf.length b) p.num).toArray 29)):=Ext.alloc_ (Ext.refl w) _
 have k0:=b1.cell (j:=0) (v:=.slice A p.pre.length c) rfl
 have k1:=b1.cell (j:=1) (v:=.slice B p.suf.length d) rfl
 have k2:=b1.cell (j:=2) (v:=.slice C p.npre.length a) rfl
 have k3:=b1.cell (j:=3) (v:=.slice D p.nsuf.length b) rfl
 clear b1
 go_enter Tryz.func84,Tryz.ntmps84
 go_upto_region 1 with fail
 change Code.wp _ _ _ _ (w.alloc (.cells (patC (.slice A p.pre.length c) (.slice B p.suf.length d) (.slice C p.npre.length a) (.slice D p.nsuf.length b) p.num).toArray 29))
 generalize w.alloc (.cells (patC (.slice A p.pre.length c) (.slice B p.suf.length d) (.slice C p.npre.length a) (.slice D p.nsuf.length b) p.num).toArray 29)=w1 at *
 generalize p.pre.length=n1 at *
 generalize p.suf.length=n2 at *
 generalize p.npre.length=n3 at *
 generalize p.nsuf.length=n4 at *
 have hx2:=Ext.alloc_ hx1 (.cells ([.slice A n1 c,.slice B n2 d,.slice C n3 a,.slice D n4 b]:List Value).toArray 27)
 have hn:=(Box.new w1 27 [.slice A n1 c,.slice B n2 d,.slice C n3 a,.slice D n4 b]).row
 go_wp2
 go_ret
 exact ⟨some ⟨w1.heap.size,0,none⟩,rfl,by rw [HE.out];exact hn,hx2⟩
set_option maxRecDepth 512
theorem ei_t:EI 119 166 2 24:=ei_of (z:=.agg #[.bool false,.string ⟨#[]⟩]) Tryz.underlying119 (by kernel_rfl) rfl (by decide)
theorem stR_bd (l:Loc) (hb:LocB l):∀ (q:List Pc),(∀ x ∈ q,x.2.length≤1000)→(stR l q).1.length≤2 * q.length∧(stR l q).2.length≤1000 * q.length:=by
 have key:∀ (q:List Pc) (st:List Prt × List UInt8),(∀ x ∈ q,x.2.length≤1000)→(q.foldl (stepR l) st).1.length≤st.1.length+2 * q.length∧(q.foldl (stepR l) st).2.length≤st.2.length+1000 * q.length:=by
  intro q
  induction q with
  | nil=>intro st _;simp
  | cons x r ih =>
   intro st hx
   have h1:=ih (stepR l st x) (fun y hy=>hx y (List.mem_cons_of_mem _ hy))
   have h3:=txt_one l hb x (hx x List.mem_cons_self)
   have h2:(stepR l st x).1.length≤st.1.length+2∧(stepR l st x).2.length≤st.2.length+1000:=by
    unfold stepR
    split
    ·split <;> simp
    ·simp;omega
   simp only [List.foldl_cons,List.length_cons];omega
 intro q hx
 have:=key q ([],[]) hx
 simpa [stR] using this
theorem refL_rec {W:World} {lb:Nat} {A B C D:Option Addr} {c d a b:Nat} {r:Rec} {p:Pt} (h:W.rangeAt lb 0 (refLV A B C D c d a b r p)):W.rangeAt lb 0 (recV r):=fun j v hv=>h j v (by
 unfold refLV;rw [List.getElem?_append_left (List.getElem?_eq_some_iff.1 hv).1];exact hv)
theorem refL_pat {W:World} {lb:Nat} {A B C D:Option Addr} {c d a b:Nat} {r:Rec} {p:Pt} (h:W.rangeAt lb 0 (refLV A B C D c d a b r p)):W.rangeAt lb 8 (patC (.slice A p.pre.length c) (.slice B p.suf.length d) (.slice C p.npre.length a) (.slice D p.nsuf.length b) p.num):=fun j v hv=>by
 have:=h (8+j) v (by unfold refLV;rw [List.getElem?_append_right (by simp [recV]),show 8+j - (recV r).length=j by simp [recV]];exact hv)
 rwa [Nat.zero_add] at this
def zero8:List Value:=[sV [],sV [],sV [],sV [],sV [],sV [],sV [],sV []]
theorem recs_one (r:Rec):(recV r).toArray.all (·.oneCell')=true:=by simp [recV,sV,Value.oneCell']
theorem infoG:(Tryz.prog.info? 23).map (·.size)=some 6:=by kernel_rfl
section
variable {w:World} {g:Nat} {A B C D:Option Addr} {c d a b:Nat} {l:Loc}
theorem LocR.recR (h:LocR w g A B C D c d a b l):w.rangeAt g 0 (recV l.r):=fun j v hv=>by
 rw [Nat.zero_add]
 refine h.box.cell ?_
 unfold locV
 rw [List.getElem?_append_left (List.getElem?_eq_some_iff.1 hv).1];exact hv
theorem LocR.dig (h:LocR w g A B C D c d a b l) {k:Nat} (hk:k < l.d.length):w.cell? ⟨g,17+k,none⟩=some (.string ⟨(l.d.getD k []).toArray⟩):=by
 refine h.cell ?_
 rw [loc_digit,List.getElem?_map,List.getElem?_eq_getElem hk,List.getD_eq_getElem?_getD,List.getElem?_eq_getElem hk];rfl
end
theorem record_l (g:Nat) (A B C D:Option Addr) (c d a b:Nat) (l:Loc) (w:World) (h:LocR w g A B C D c d a b l) :
  Calls Tryz.prog 92 #[.pointer (some ⟨g,0,none⟩)] w fun e w'=>e=.returned (.agg (recV l.r).toArray)∧Ext w w':=by
 have c1:=Box.new w 84 zero8
 have hx1:Ext w (w.alloc (.cells zero8.toArray 84)):=Ext.alloc_ (Ext.refl w) _
 have h1:=h.ext hx1
 have HR:Hid ((w.alloc (.cells zero8.toArray 84)).rangeAt g 0 [.string ⟨l.r.name.toArray⟩,.string ⟨l.r.pattern.toArray⟩,.string ⟨l.r.system.toArray⟩,.string ⟨l.r.decimal.toArray⟩,.string ⟨l.r.group.toArray⟩,.string ⟨l.r.minus.toArray⟩,.string ⟨l.r.percent.toArray⟩,.string ⟨l.r.currency.toArray⟩]):=Lib.hid h1.recR
 have k0:=h1.cell (j:=0) (v:=.string ⟨l.r.name.toArray⟩) rfl
 have HC:=Lib.hid c1
 have HX:=Lib.hid hx1
 clear c1 hx1 h1 h
 go_enter Tryz.func92,Tryz.ntmps92
 go_upto_region 1 with fail
 change Code.wp _ _ _ _ (w.alloc (.cells zero8.toArray 84))
 generalize w.alloc (.cells zero8.toArray 84)=w1 at *
 go_wp2_with (first
  | (refine wpList_load_mid rfl 84 (.tmp 5) rfl g 0 rfl _ _ HR.out Tryz.underlying84 rfl infoRec ?_)
  | (refine wpList_store_row rfl 84 (.tmp 2) (.tmp 6) rfl w.heap.size (recV l.r).toArray rfl rfl _ _ HC.out infoRec rfl (recs_one l.r) ?_))
 have hb5:=HC.out.set (recV l.r).toArray
 exact bodyPost_ret (v:=.agg (recV l.r).toArray) (results_cell_row rfl _ _ w.heap.size _ _ _ _ rfl hb5 Tryz.underlying84 rfl infoRec) rfl ⟨rfl,Ext.setRow HX.out (Nat.le_refl _) _⟩
def digZ (l:Loc) (d:Int):List UInt8:=if 0≤d∧d < 10 then l.d.getD d.toNat [] else []
theorem digit_l (g:Nat) (A B C D:Option Addr) (c d a b:Nat) (k:Int) (l:Loc) (w:World) (h:LocR w g A B C D c d a b l) (h10:l.d.length=10) :
  Calls Tryz.prog 102 #[.pointer (some ⟨g,0,none⟩),.int .i64 k] w fun e w'=>e=.returned (.string ⟨(digZ l k).toArray⟩)∧Ext w w':=by
 have HF:Hid (digZ l k=if 0≤k∧k < 10 then l.d.getD k.toNat [] else []):=Lib.hid rfl
 generalize digZ l k=t at *
 by_cases h0:k < 0
 ·have HE:Hid (t=[]):=Lib.hid (by rw [HF.out,if_neg (by omega)])
  go_enter Tryz.func102,Tryz.ntmps102
  go_wp2
  go_ret
  exact ⟨by rw [HE.out];rfl,Ext.refl _⟩
 ·by_cases h9:10≤k
  ·have HE:Hid (t=[]):=Lib.hid (by rw [HF.out,if_neg (by omega)])
   have i1:k ≥ 10:=h9
   go_enter Tryz.func102,Tryz.ntmps102
   go_wp2
   go_ret
   exact ⟨by rw [HE.out];rfl,Ext.refl _⟩
  ·obtain ⟨n,rfl⟩:=Int.eq_ofNat_of_zero_le (by omega:0≤k)
   have HE:Hid (t=l.d.getD n []):=Lib.hid (by rw [HF.out,if_pos (by omega)];rfl)
   have hc:=h.dig (k:=n) (by omega)
   have i1:¬ ((n:Int) ≥ 10):=by omega
   have i2:(n:Int) < 10:=by omega
   have i3:(0:Int)≤(n:Int):=by omega
   have k0:=h.cell (j:=0) (v:=.string ⟨l.r.name.toArray⟩) rfl
   generalize l.d.getD n []=u at *
   clear h h10
   go_enter Tryz.func102,Tryz.ntmps102
   go_wp2
   go_ret
   exact ⟨by rw [HE.out];rfl,Ext.refl _⟩
def affQ (l:Loc) (s:ByteArray) (q:List Pc):Bool:=(splitS (txtL l q)).any fun t=>decide ((⟨t.toArray⟩:ByteArray)=s)
def affB (l:Loc) (s:ByteArray):Bool:=(affs l).any (affQ l s)
theorem split_len_le (s:List UInt8):(splitS s).length≤s.length:=by
 have h1:=cuts_len s (cstL s)
 have h2:=starts_len_le s
 unfold splitS;omega
theorem contains_strs (A:Option Addr) (c:Nat) (ts:List (List UInt8)) (s:ByteArray) (W:World) (hr:Row W A (strsV ts)) (hl:ts.length≤1000000) :
  Calls Tryz.prog 131 #[.slice A ts.length c,.string s] W fun e w'=>e=.returned (.bool (ts.any fun t=>decide ((⟨t.toArray⟩:ByteArray)=s)))∧w'=W:=by
 cases ts with
 | nil=>exact Tryz.slices_Contains_string_empty A c s W
 | cons t0 r =>
  generalize hts:t0 :: r=ts at *
  obtain ⟨b,off,rfl,hc⟩:=hr.at_ (k:=0) (by rw [← hts];simp [strsV])
  have h:=Tryz.slices_Contains_string b off ts.length c (ts.map fun t=>(⟨t.toArray⟩:ByteArray)) s W (by simp) (by omega) (fun j hj=>by
   have hj':j < ts.length:=by simpa using hj
   refine hc j _ ?_
   unfold strsV
   rw [List.getElem?_map,List.getElem?_eq_getElem hj',List.getD_eq_getElem?_getD,List.getElem?_map,List.getElem?_eq_getElem hj'];rfl)
  rw [List.take_of_length_le (by simp)] at h
  have he:Lib.containsS (ts.map fun t=>(⟨t.toArray⟩:ByteArray)) s=ts.any fun t=>decide ((⟨t.toArray⟩:ByteArray)=s):=by
   rw [Bool.eq_iff_iff,List.any_eq_true]
   unfold Lib.containsS
   rw [decide_eq_true_iff,Lib.idxOfS_nonneg_iff,List.mem_map]
   simp
  rwa [he] at h
set_option maxRecDepth 100000
theorem affix1_ (g b0 b1:Nat) (A B C D X:Option Addr) (c d a b k:Nat) (q:List Pc) (s:ByteArray) (l:Loc) (w:World) (h:LocR w g A B C D c d a b l) (hb:LocB l) (hX:Row w X (pcsV q)) (hq:q ∈ affs l) (ht:(txtL l q).length≤64)
  (h0:w.cell? ⟨b0,0,none⟩=some (.pointer (some ⟨g,0,none⟩))) (h1:w.cell? ⟨b1,0,none⟩=some (.string s)) :
  Calls Tryz.prog 159 #[.slice X q.length k,.pointer (some ⟨b0,0,none⟩),.pointer (some ⟨b1,0,none⟩)] w fun e w'=>e=.returned (.bool (affQ l s q))∧Ext w w':=by
 have H1:Hid (∀ W,Ext w W→Calls Tryz.prog 143 #[.pointer (some ⟨g,0,none⟩),.slice X q.length k] W fun e w'=>e=.returned (.string ⟨(txtL l q).toArray⟩)∧Ext W w'):=Lib.hid fun W hW =>
  text_l g A B C D X c d a b q.length k q l W (h.ext hW) hb (hX.below hW (Nat.le_refl _)) rfl (hb.len q hq) (hb.txt q hq)
 have H2:Hid (∀ W,Calls Tryz.prog 43 #[.string ⟨(txtL l q).toArray⟩] W fun e w'=>∃ E cE,e=.returned (.slice E (splitS (txtL l q)).length cE)∧Row w' E (strsV (splitS (txtL l q)))∧Ext W w'):=Lib.hid fun W=>by
  have:=split_ ⟨(txtL l q).toArray⟩ W (by rw [sizeL];omega)
  have hd:(⟨(txtL l q).toArray⟩:ByteArray).data.toList=txtL l q:=by simp
  rwa [hd] at this
 have hsl:(splitS (txtL l q)).length≤1000000:=by
  have:=split_len_le (txtL l q);omega
 have H3:Hid (∀ E cE W,Row W E (strsV (splitS (txtL l q)))→Calls Tryz.prog 131 #[.slice E (splitS (txtL l q)).length cE,.string s] W fun e w'=>e=.returned (.bool (affQ l s q))∧w'=W):=Lib.hid fun E cE W hr =>
  contains_strs E cE _ s W hr hsl
 clear h hX hsl
 generalize affQ l s q=r at *
 generalize (⟨(txtL l q).toArray⟩:ByteArray)=tx at *
 generalize splitS (txtL l q)=sp at *
 generalize q.length=n at *
 have hE0:=Ext.refl w
 go_enter Tryz.func159,Tryz.ntmps159
 go_upto_region 1 with fail
 refine rg_ (S:=fun W=>Ext w W∧W.cell? ⟨b0,0,none⟩=some (.pointer (some ⟨g,0,none⟩))∧W.cell? ⟨b1,0,none⟩=some (.string s)) (⟨Ext.drew_ (Ext.refl _),h0,h1⟩) (fun hHeld=>?_)
 refine tk_ 0 hHeld ?_
 try simp only [Act.put,sA,sZ,sS]
 refine tk_ 1 hHeld ?_
 try simp only [Act.put,sA,sZ,sS]
 refine tk_ 4 hHeld ?_
 try simp only [Act.put,sA,sZ,sS]
 refine on_ 2 (fun K1 hK1=>?_)
 go_simp
 go_at_call 143
 refine (H1.out _ hHeld.1).mono ?_
 rintro e w2 ⟨rfl,hx2⟩
 refine hK1.out _ _ (⟨hHeld.1.trans hx2,Ext.cell_ hx2 hHeld.2.1,Ext.cell_ hx2 hHeld.2.2⟩) (fun hHeld=>?_)
 clear hK1
 try simp only [Act.put,sA,sZ,sS]
 refine on_ 3 (fun K1 hK1=>?_)
 go_simp
 go_at_call 43
 refine (H2.out _).mono ?_
 rintro e w3 ⟨E,cE,rfl,hr3,hx3⟩
 refine hK1.out _ _ (⟨hHeld.1.trans hx3,Ext.cell_ hx3 hHeld.2.1,Ext.cell_ hx3 hHeld.2.2⟩) (fun hHeld=>?_)
 clear hK1
 try simp only [Act.put,sA,sZ,sS]
 refine on_ 5 (fun K1 hK1=>?_)
 go_simp
 go_at_call 131
 refine (H3.out _ _ _ hr3).mono ?_
 rintro e w4 ⟨rfl,rfl⟩
 refine hK1.out _ _ (hHeld) (fun hHeld=>?_)
 clear hK1
 try simp only [Act.put,sA,sZ,sS]
 refine tk_ 6 hHeld ?_
 try simp only [Act.put,sA,sZ,sS]
 refine dn_ ?_
 go_wp2
 go_ret
 exact ⟨rfl,hHeld.1⟩
theorem affix_l (g:Nat) (A B C D:Option Addr) (c d a b:Nat) (s:ByteArray) (l:Loc) (w:World) (h:LocR w g A B C D c d a b l) (M:MayL l) :
  Calls Tryz.prog 80 #[.pointer (some ⟨g,0,none⟩),.string s] w fun e w'=>e=.returned (.bool (affB l s))∧Ext w w':=by
 have b1:=(Box.new w 24 [.pointer (some ⟨g,0,none⟩)]).alloc (.cells ([.string s]:List Value).toArray 9)
 have c1:=Box.new (w.alloc (.cells ([.pointer (some ⟨g,0,none⟩)]:List Value).toArray 24)) 9 [.string s]
 have hs1:(w.alloc (.cells ([.pointer (some ⟨g,0,none⟩)]:List Value).toArray 24)).heap.size=w.heap.size+1:=by simp
 rw [hs1] at c1
 clear hs1
 have hx1:Ext w ((w.alloc (.cells ([.pointer (some ⟨g,0,none⟩)]:List Value).toArray 24)).alloc (.cells ([.string s]:List Value).toArray 9)):=Ext.alloc_ (Ext.alloc_ (Ext.refl w) _) _
 have k0:=b1.cell (j:=0) (v:=.pointer (some ⟨g,0,none⟩)) rfl
 have k1:=c1.cell (j:=0) (v:=.string s) rfl
 clear b1 c1
 go_enter Tryz.func80,Tryz.ntmps80
 go_upto_region 1 with fail
 change Code.wp _ _ _ _ ((w.alloc (.cells ([.pointer (some ⟨g,0,none⟩)]:List Value).toArray 24)).alloc (.cells ([.string s]:List Value).toArray 9))
 generalize (w.alloc (.cells ([.pointer (some ⟨g,0,none⟩)]:List Value).toArray 24)).alloc (.cells ([.string s]:List Value).toArray 9)=w1 at *
 have HA:Hid (∀ W,Ext w1 W→Calls Tryz.prog 128 #[.pointer (some ⟨g,0,none⟩)] W fun e w'=>∃ E,e=.returned (.slice E 4 4)∧Row w' E (affV A B C D c d a b l)∧Ext W w'):=Lib.hid fun W hW=>affixes_ g A B C D c d a b l W (h.ext (hx1.trans hW))
 have HC:Hid (∀ E W,Ext w1 W→Row W E (affV A B C D c d a b l)→Calls Tryz.prog 127 #[.slice E 4 4,.func (.func 159) #[] #[.pointer (some ⟨w.heap.size,0,none⟩),.pointer (some ⟨w.heap.size+1,0,none⟩)]] W fun e w'=>e=.returned (.bool (affB l s))∧Ext W w'):=Lib.hid fun E W hW hr=>by
  have:=ax_has E 4 4 (affV A B C D c d a b l) ((affs l).map (affQ l s)) w.heap.size (w.heap.size+1) W hr rfl rfl (by decide) (Lib.hid fun i v bb W' hv hbb hW'=>by
   obtain ⟨q,hqi,rfl⟩:∃ q,(affs l)[i]? = some q∧affQ l s q=bb:=by
    rw [List.getElem?_map] at hbb
    cases hq:(affs l)[i]? with
    | none=>rw [hq] at hbb;cases hbb
    | some q=>rw [hq] at hbb;exact ⟨q,rfl,Option.some.inj hbb⟩
   have hp:=(h.ext (hx1.trans (hW.trans hW'))).pt
   have hx2:=hW.trans hW'
   have hi4:i < 4:=(List.getElem?_eq_some_iff.1 hqi).1
   obtain ⟨X,k,rfl,hX⟩:∃ X k,v=.slice X q.length k∧Row W' X (pcsV q):=by
    obtain ⟨p1,p2,p3,p4⟩:=hp
    match i,hi4 with
    | 0,_=>simp [affs] at hqi;simp [affV] at hv;subst hqi;exact ⟨A,c,hv.symm,p1⟩
    | 1,_=>simp [affs] at hqi;simp [affV] at hv;subst hqi;exact ⟨B,d,hv.symm,p2⟩
    | 2,_=>simp [affs] at hqi;simp [affV] at hv;subst hqi;exact ⟨C,a,hv.symm,p3⟩
    | 3,_=>simp [affs] at hqi;simp [affV] at hv;subst hqi;exact ⟨D,b,hv.symm,p4⟩
   have hqm:=List.mem_of_getElem? hqi
   exact affix1_ g w.heap.size (w.heap.size+1) A B C D X c d a b k q s l W' (h.ext (hx1.trans hx2)) M.b hX hqm (M.aff q hqm) (Ext.cell_ hx2 k0) (Ext.cell_ hx2 k1))
  have he:((affs l).map (affQ l s)).any idB=affB l s:=by
   unfold affB
   rw [List.any_map];rfl
  rwa [he] at this
 clear h M
 go_wp2_with (first
  | (go_at_call 128;with_reducible refine (HA.out _ (Ext.refl _)).mono ?_;rintro e w4 ⟨E,rfl,hr4,hx4⟩)
  | (go_at_call 127;with_reducible refine (HC.out _ _ hx4 hr4).mono ?_;rintro e w5 ⟨rfl,hx5⟩))
 go_ret
 exact ⟨rfl,hx1.trans (hx4.trans hx5)⟩
set_option maxRecDepth 512
theorem zero_names:∀ s ∈ names,0≤zeroZ s:=by decide +kernel
theorem dig_eq {s:ByteArray} (h:s ∈ names) {d:Int} (h0:0≤d) (h9:d < 10):digB s d=encB (zeroZ s+d):=by
 have hz:=zero_names s h
 unfold digB digE
 rw [if_neg (show ¬ zeroZ s < 0 by omega),if_neg (show ¬ (d < 0∨10≤d) by omega),if_pos rfl]
theorem dB_at (r:Rec) (p:Pt) {k:Nat} (h:k < 10):(dB (locOf r p)).getD k ByteArray.empty=⟨(digB ⟨r.system.toArray⟩ (k:Int)).toArray⟩:=by
 unfold dB
 rw [List.getD_eq_getElem?_getD,List.getElem?_map]
 show ((digs r)[k]?.map _).getD _=_
 rw [List.getElem?_eq_getElem (by rw [digs_len];exact h),digs_at r h];rfl
theorem dB_len (r:Rec) (p:Pt):(dB (locOf r p)).length=10:=by unfold dB;rw [List.length_map];exact digs_len r
set_option maxRecDepth 100000
theorem ref_sign (A B C D:Option Addr) (c d a b:Nat) (r:Rec) (p:Pt) (s:ByteArray) (w:World) (h:Both r p) :
  Calls Tryz.prog 36 #[.agg (refLV A B C D c d a b r p).toArray,.string s] w fun e w'=>e=.returned (.int .i64 (signZ (locOf r p) s))∧Ext w w':=by
 have hsys:=h.may.sys
 have HD:Hid (∀ k:Nat,k < 10→∀ W,Calls Tryz.prog 57 #[.string ⟨r.system.toArray⟩,.int .i64 (k:Int)] W fun e w'=>e=.returned (.string ((dB (locOf r p)).getD k ByteArray.empty))∧Ext W w'):=Lib.hid fun k hk W=>by
  have hd:=ref_digit ⟨r.system.toArray⟩ (k:Int) W (by omega) (by omega)
  rw [dB_at r p hk,dig_eq hsys (by omega) (by omega)];exact hd
 have HE:Hid (signZ (locOf r p) s=if 0≤Lib.idxOfS (dB (locOf r p)) s then Lib.idxOfS (dB (locOf r p)) s else if s=⟨r.decimal.toArray⟩ then 10 else if grpZ (locOf r p)=true∧s=⟨r.group.toArray⟩ then 11 else if s=⟨r.minus.toArray⟩ then 12 else -1):=Lib.hid rfl
 have HG:Hid (grpZ (locOf r p)=decide (0 < p.num.prim)):=Lib.hid rfl
 have HT:Hid ((dB (locOf r p)).take 10=dB (locOf r p)):=Lib.hid (List.take_of_length_le (by rw [dB_len];exact Nat.le_refl _))
 have HL:=Lib.hid (dB_len r p)
 have b1:=Box.new w 31 (refLV A B C D c d a b r p)
 have hx1:Ext w (w.alloc (.cells (refLV A B C D c d a b r p).toArray 31)):=Ext.alloc_ (Ext.refl w) _
 have c2:=b1.cell (j:=2) (v:=.string ⟨r.system.toArray⟩) rfl
 have c3:=b1.cell (j:=3) (v:=.string ⟨r.decimal.toArray⟩) rfl
 have c4:=b1.cell (j:=4) (v:=.string ⟨r.group.toArray⟩) rfl
 have c5:=b1.cell (j:=5) (v:=.string ⟨r.minus.toArray⟩) rfl
 have c12:=b1.cell (j:=12) (v:=.int .i64 p.num.prim) rfl
 have HX1:=Lib.hid hx1
 clear b1 hx1 h hsys
 generalize signZ (locOf r p) s=sg at *
 go_enter Tryz.func36,Tryz.ntmps36
 go_upto_region 1 with fail
 change Code.wp _ _ _ _ (w.alloc (.cells (refLV A B C D c d a b r p).toArray 31))
 generalize w.alloc (.cells (refLV A B C D c d a b r p).toArray 31)=w1 at *
 generalize hlb:w.heap.size=lb at *
 clear hlb
 generalize grpZ (locOf r p)=gz at *
 generalize dB (locOf r p)=DS at *
 generalize (⟨r.system.toArray⟩:ByteArray)=sy at *
 generalize (⟨r.decimal.toArray⟩:ByteArray)=s1 at *
 generalize (⟨r.group.toArray⟩:ByteArray)=s2 at *
 generalize (⟨r.minus.toArray⟩:ByteArray)=s3 at *
 generalize p.num.prim=pr at *
 go_wp2
 go_loopw [5] (fun i wr=>∃ k:Nat,k≤10∧i=.int .i64 k∧Ext w1 wr∧Hid (∀ j,j < k→DS.getD j ByteArray.empty ≠ s)) (fun i _=>10 - (intOf i).toNat)
 case atStart=>exact ⟨0,by omega,rfl,Ext.refl _,Lib.hid (fun j hj=>absurd hj (Nat.not_lt_zero _))⟩
 case round =>
  obtain ⟨k,hk,rfl,hx,HK⟩:=hrel
  by_cases hlt:k < 10
  ·have i1:(k:Int) < 10:=by omega
   have c2:=Ext.cell_ hx c2
   have hb:=beq_str (DS.getD k ByteArray.empty) s
   have HC:=Lib.hid (HD.out k hlt wr)
   have HU:Hid (DS.getD k ByteArray.empty=s→sg=(k:Int)):=Lib.hid fun he=>by
    have hi:=Lib.idxOfS_hit DS 10 k s hlt (by rw [HL.out];exact Nat.le_refl _) he HK.out
    rw [HT.out] at hi
    rw [HE.out,hi,if_pos (by omega)]
   have HV:Hid (DS.getD k ByteArray.empty ≠ s→∀ j,j < k+1→DS.getD j ByteArray.empty ≠ s):=Lib.hid fun hne j hj=>by
    rcases (by omega:j < k∨j=k) with h | rfl
    ·exact HK.out j h
    ·exact hne
   generalize DS.getD k ByteArray.empty=u at *
   have HX:=Lib.hid hx
   clear hx
   by_cases he:u=s
   ·rw [decide_eq_true he] at hb
    have HS:=Lib.hid (HU.out he)
    clear he HU HV
    go_wp2_with (go_at_call 57;with_reducible refine HC.out.mono ?_;rintro e w2 ⟨rfl,hx2⟩)
    go_ret
    exact ⟨by rw [HS.out];rfl,HX1.out.trans (HX.out.trans hx2)⟩
   ·rw [decide_eq_false he] at hb
    have HN:=Lib.hid (HV.out he)
    clear he HU HV
    go_wp2_with (go_at_call 57;with_reducible refine HC.out.mono ?_;rintro e w2 ⟨rfl,hx2⟩)
    go_roundw
    case rel=>exact ⟨k+1,by omega,by go_num,HX.out.trans hx2,HN⟩
    case measure=>simp [intOf];omega
  ·have e:k=10:=by omega
   subst e
   have i1:¬ ((10:Int) < 10):=by omega
   have hmiss:=Lib.idxOfS_miss DS 10 s HK.out
   rw [HT.out] at hmiss
   have HE2:Hid (sg=if s=s1 then 10 else if gz=true∧s=s2 then 11 else if s=s3 then 12 else -1):=Lib.hid (by rw [HE.out,hmiss,if_neg (by omega)])
   have c3:=Ext.cell_ hx c3
   have c4:=Ext.cell_ hx c4
   have c5:=Ext.cell_ hx c5
   have c12:=Ext.cell_ hx c12
   have b1:=beq_str s s1
   have b2:=beq_str s s2
   have b3:=beq_str s s3
   have HX:=Lib.hid (HX1.out.trans hx)
   have hgz:=HG.out
   clear HE HT HL HD hmiss hx HK c2 HG
   by_cases h1:s=s1
   ·rw [decide_eq_true h1] at b1
    have HS:Hid (sg=10):=Lib.hid (by rw [HE2.out,if_pos h1])
    clear h1 b2 b3
    go_wp2
    go_ret
    exact ⟨by rw [HS.out];rfl,HX.out⟩
   ·rw [decide_eq_false h1] at b1
    have HE3:Hid (sg=if gz=true∧s=s2 then 11 else if s=s3 then 12 else -1):=Lib.hid (by rw [HE2.out,if_neg h1])
    clear h1 HE2
    by_cases hp:0 < pr
    ·have hgt:pr > 0:=hp
     rw [decide_eq_true hp] at hgz
     subst hgz
     by_cases h2:s=s2
     ·rw [decide_eq_true h2] at b2
      have HS:Hid (sg=11):=Lib.hid (by rw [HE3.out,if_pos ⟨rfl,h2⟩])
      clear h2 b3
      go_wp2
      go_ret
      exact ⟨by rw [HS.out];rfl,HX.out⟩
     ·rw [decide_eq_false h2] at b2
      have HE4:Hid (sg=if s=s3 then 12 else -1):=Lib.hid (by rw [HE3.out,if_neg (fun h=>h2 h.2)])
      clear h2 HE3
      by_cases h3:s=s3
      ·rw [decide_eq_true h3] at b3
       have HS:Hid (sg=12):=Lib.hid (by rw [HE4.out,if_pos h3])
       clear h3
       go_wp2
       go_ret
       exact ⟨by rw [HS.out];rfl,HX.out⟩
      ·rw [decide_eq_false h3] at b3
       have HS:Hid (sg=-1):=Lib.hid (by rw [HE4.out,if_neg h3])
       clear h3
       go_wp2
       go_ret
       exact ⟨by rw [HS.out];rfl,HX.out⟩
    ·have hgt:¬ pr > 0:=hp
     rw [decide_eq_false hp] at hgz
     subst hgz
     have HE4:Hid (sg=if s=s3 then 12 else -1):=Lib.hid (by rw [HE3.out,if_neg (fun h=>by cases h.1)])
     clear HE3 b2
     by_cases h3:s=s3
     ·rw [decide_eq_true h3] at b3
      have HS:Hid (sg=12):=Lib.hid (by rw [HE4.out,if_pos h3])
      clear h3
      go_wp2
      go_ret
      exact ⟨by rw [HS.out];rfl,HX.out⟩
     ·rw [decide_eq_false h3] at b3
      have HS:Hid (sg=-1):=Lib.hid (by rw [HE4.out,if_neg h3])
      clear h3
      go_wp2
      go_ret
      exact ⟨by rw [HS.out];rfl,HX.out⟩
set_option maxRecDepth 512
theorem str_at {W:World} {E:Option Addr} {ts:List (List UInt8)} (hr:Row W E (strsV ts)) {m:Nat} (hm:m < ts.length):∃ b o,E=some ⟨b,o,none⟩∧W.cell? ⟨b,o+m,none⟩=some (.string ⟨ts[m].toArray⟩):=by
 obtain ⟨b,o,rfl,hc⟩:=hr.at_ (k:=m) (by rw [strsV_len];exact hm)
 exact ⟨b,o,rfl,hc m _ (by unfold strsV;rw [List.getElem?_map,List.getElem?_eq_getElem hm];rfl)⟩
set_option maxRecDepth 100000
theorem ref_affix (A B C D:Option Addr) (c d a b:Nat) (r:Rec) (p:Pt) (s:ByteArray) (w:World) (h:Both r p) (hpt:PtR w A B C D p) :
  Calls Tryz.prog 40 #[.agg (refLV A B C D c d a b r p).toArray,.string s] w fun e w'=>e=.returned (.bool (affB (locOf r p) s))∧Ext w w':=by
 have HPT:=Lib.hid hpt
 have HBT:=Lib.hid h
 have b1:=Box.new w 31 (refLV A B C D c d a b r p)
 have hx1:Ext w (w.alloc (.cells (refLV A B C D c d a b r p).toArray 31)):=Ext.alloc_ (Ext.refl w) _
 have HRG:Hid ((w.alloc (.cells (refLV A B C D c d a b r p).toArray 31)).rangeAt w.heap.size 0 [.string ⟨r.name.toArray⟩,.string ⟨r.pattern.toArray⟩,.string ⟨r.system.toArray⟩,.string ⟨r.decimal.toArray⟩,.string ⟨r.group.toArray⟩,.string ⟨r.minus.toArray⟩,.string ⟨r.percent.toArray⟩,.string ⟨r.currency.toArray⟩]):=Lib.hid (refL_rec b1.range)
 have HRP:Hid ((w.alloc (.cells (refLV A B C D c d a b r p).toArray 31)).rangeAt w.heap.size 8 [.slice A p.pre.length c,.slice B p.suf.length d,.slice C p.npre.length a,.slice D p.nsuf.length b,.int .i64 p.num.prim,.int .i64 p.num.sec,.int .i64 p.num.minInt,.int .i64 p.num.minFrac,.int .i64 p.num.maxFrac]):=Lib.hid (refL_pat b1.range)
 have HX1:=Lib.hid hx1
 have HAF:=Lib.hid (ref_affixes A B C D c d a b r p)
 have HFIN:Hid ((affs (locOf r p)).take 4=affs (locOf r p)):=Lib.hid rfl
 clear hpt h b1 hx1
 have HABD:Hid (affB (locOf r p) s=(affs (locOf r p)).any (affQ (locOf r p) s)):=Lib.hid rfl
 generalize affB (locOf r p) s=ab at *
 go_enter Tryz.func40,Tryz.ntmps40
 go_upto_region 1 with fail
 change Code.wp _ _ _ _ (w.alloc (.cells (refLV A B C D c d a b r p).toArray 31))
 generalize w.alloc (.cells (refLV A B C D c d a b r p).toArray 31)=w1 at *
 generalize hlb:w.heap.size=lb at *
 clear hlb
 go_wp2_with (first
  | (refine wpList_load_mid rfl 29 (.tmp 9) rfl lb 8 rfl _ _ HRP.out Tryz.underlying29 rfl infoP ?_)
  | (go_at_call 84;refine (HAF.out w1).mono ?_;rintro e w2 ⟨E,rfl,hE,hx2⟩))
 have HEE:=Lib.hid hE
 have HX2:=Lib.hid (HX1.out.trans hx2)
 have HRG2:=Lib.hid (Ext.range_ hx2 HRG.out)
 clear hE hx2
 go_loopw [6,7,8] (fun i _ _ wr=>∃ n:Nat,n≤4∧i=.int .i64 n∧Ext w2 wr∧Hid (((affs (locOf r p)).take n).any (affQ (locOf r p) s)=false)) (fun i _ _ _=>4 - (intOf i).toNat)
 case atStart=>exact ⟨0,by omega,rfl,Ext.refl _,Lib.hid rfl⟩
 case round =>
  obtain ⟨n,hn,rfl,hx,HN⟩:=hrel
  by_cases hlt:n < 4
  ·obtain ⟨q,X,k,e0,o0,hq,hqi,rfl,hc,hX⟩:=aff_at (l:=locOf r p) (HEE.out.below hx (Nat.le_refl _)) (HPT.out.ext (HX2.out.trans hx)) hlt
   have HAB:Hid (affQ (locOf r p) s q=true→ab=true):=Lib.hid fun ha=>by
    rw [HABD.out];exact List.any_eq_true.2 ⟨q,hq,ha⟩
   have HNX:Hid (affQ (locOf r p) s q=false→((affs (locOf r p)).take (n+1)).any (affQ (locOf r p) s)=false):=Lib.hid fun ha=>by
    rw [List.take_add_one,hqi,List.any_append,HN.out]
    simp [ha]
   have HQD:Hid (affQ (locOf r p) s q=(splitS (txtL (locOf r p) q)).any fun t=>decide ((⟨t.toArray⟩:ByteArray)=s)):=Lib.hid rfl
   have haf:(txtL (locOf r p) q).length≤64:=HBT.out.may.aff q hq
   have HT:Hid (∀ W,Ext wr W→Calls Tryz.prog 85 #[.agg (recV r).toArray,.slice X q.length k] W fun e w'=>e=.returned (.string ⟨(txtL (locOf r p) q).toArray⟩)∧Ext W w'):=Lib.hid fun W hW =>
    ref_text X q.length k q r W (hX.below hW (Nat.le_refl _)) rfl (HBT.out.may.b.len q hq) HBT.out.may.b.cur HBT.out.may.b.per (HBT.out.pcs q hq)
   have HSP:Hid (∀ W,Calls Tryz.prog 9 #[.string ⟨(txtL (locOf r p) q).toArray⟩] W fun e w'=>∃ FE fc,e=.returned (.slice FE (splitS (txtL (locOf r p) q)).length fc)∧Row w' FE (strsV (splitS (txtL (locOf r p) q)))∧Ext W w'):=Lib.hid fun W=>by
    have:=split_ref ⟨(txtL (locOf r p) q).toArray⟩ W (by rw [sizeL];omega)
    have hd:(⟨(txtL (locOf r p) q).toArray⟩:ByteArray).data.toList=txtL (locOf r p) q:=by simp
    rwa [hd] at this
   have hsl:(splitS (txtL (locOf r p) q)).length≤64:=Nat.le_trans (split_len_le _) haf
   have hrw:=Ext.range_ hx HRG2.out
   have HX:=Lib.hid hx
   have i1:(n:Int) < 4:=by omega
   have i2:(0:Int)≤(n:Int):=by omega
   clear hX hx haf hqi hq
   generalize affQ (locOf r p) s q=aq at *
   generalize (⟨(txtL (locOf r p) q).toArray⟩:ByteArray)=tx at *
   generalize splitS (txtL (locOf r p) q)=sp at *
   generalize q.length=ql at *
   go_upto_region 5 with fail
   refine rg_ (S:=fun W=>Ext wr W∧W.rangeAt lb 0 [.string ⟨r.name.toArray⟩,.string ⟨r.pattern.toArray⟩,.string ⟨r.system.toArray⟩,.string ⟨r.decimal.toArray⟩,.string ⟨r.group.toArray⟩,.string ⟨r.minus.toArray⟩,.string ⟨r.percent.toArray⟩,.string ⟨r.currency.toArray⟩]∧W.cell? ⟨e0,o0+n,none⟩=some (.slice X ql k)) (⟨Ext.drew_ (Ext.refl _),hrw,hc⟩) (fun hHeld=>?_)
   refine tk_ 0 hHeld ?_
   try simp only [Act.put,sA,sZ,sS]
   refine tr_ (cs:=[.string ⟨r.name.toArray⟩,.string ⟨r.pattern.toArray⟩,.string ⟨r.system.toArray⟩,.string ⟨r.decimal.toArray⟩,.string ⟨r.group.toArray⟩,.string ⟨r.minus.toArray⟩,.string ⟨r.percent.toArray⟩,.string ⟨r.currency.toArray⟩]) 1 hHeld 26 ((.tmp 16)) lb (0) (fun _ h=>h.2.1) Tryz.underlying26 infoR ?_
   try simp only [Act.put,sA,sZ,sS]
   refine tk_ 2 hHeld ?_
   try simp only [Act.put,sA,sZ,sS]
   refine tk_ 3 hHeld ?_
   try simp only [Act.put,sA,sZ,sS]
   refine tk_ 4 hHeld ?_
   try simp only [Act.put,sA,sZ,sS]
   refine tk_ 5 hHeld ?_
   try simp only [Act.put,sA,sZ,sS]
   refine on_ 6 (fun K1 hK1=>?_)
   go_simp
   go_at_call 85
   refine (HT.out _ hHeld.1).mono ?_
   rintro e w4 ⟨rfl,hx4⟩
   refine hK1.out _ _ (⟨hHeld.1.trans hx4,Ext.range_ hx4 hHeld.2.1,Ext.cell_ hx4 hHeld.2.2⟩) (fun hHeld=>?_)
   clear hK1
   try simp only [Act.put,sA,sZ,sS]
   refine on_ 7 (fun K1 hK1=>?_)
   go_simp
   go_at_call 9
   refine (HSP.out _).mono ?_
   rintro e w5 ⟨FE,fc,rfl,hr5,hx5⟩
   refine hK1.out _ _ (⟨hHeld.1.trans hx5,Ext.range_ hx5 hHeld.2.1,Ext.cell_ hx5 hHeld.2.2⟩) (fun hHeld=>?_)
   clear hK1
   try simp only [Act.put,sA,sZ,sS]
   refine tk_ 8 hHeld ?_
   try simp only [Act.put,sA,sZ,sS]
   refine dn_ ?_
   have HX5:=Lib.hid (HX.out.trans hHeld.1)
   have HR5:=Lib.hid hr5
   clear hr5 hHeld hx4 hx5 HT HSP hrw hc
   go_wp2
   go_loopw [8] (fun i wz=>∃ m:Nat,m≤sp.length∧i=.int .i64 m∧Ext w5 wz∧Hid ((sp.take m).any (fun t=>decide ((⟨t.toArray⟩:ByteArray)=s))=false)) (fun i _=>sp.length - (intOf i).toNat)
   case atStart=>exact ⟨0,by omega,rfl,Ext.refl _,Lib.hid rfl⟩
   case round =>
    rename_i wz
    obtain ⟨m,hm,rfl,hxz,HM⟩:=hrel
    by_cases hlm:m < sp.length
    ·obtain ⟨bb,oo,rfl,hcz⟩:=str_at (HR5.out.below hxz (Nat.le_refl _)) hlm
     have HA:=Lib.hid (any_snoc (fun t=>decide ((⟨t.toArray⟩:ByteArray)=s)) sp m hlm)
     have HMEM:Hid (decide ((⟨(sp[m]).toArray⟩:ByteArray)=s)=true→sp.any (fun t=>decide ((⟨t.toArray⟩:ByteArray)=s))=true):=Lib.hid fun hd=>List.any_eq_true.2 ⟨sp[m],List.getElem_mem hlm,hd⟩
     generalize (⟨(sp[m]).toArray⟩:ByteArray)=u at *
     have hb:=beq_str u s
     have j1:(m:Int) < (sp.length:Int):=by omega
     cases hd:decide (u=s)
     ·rw [hd] at hb HA
      have HM2:Hid ((sp.take (m+1)).any (fun t=>decide ((⟨t.toArray⟩:ByteArray)=s))=false):=Lib.hid (by rw [HA.out,HM.out];rfl)
      clear hd HA HMEM
      go_wp2
      go_roundw
      case rel=>exact ⟨m+1,by omega,by go_num,hxz,HM2⟩
      case measure=>simp [intOf];omega
     ·rw [hd] at hb
      have HT1:Hid (ab=true):=Lib.hid (HAB.out (by rw [HQD.out];exact HMEM.out hd))
      clear hd HA HMEM
      go_wp2
      go_ret
      exact ⟨by rw [HT1.out];rfl,HX2.out.trans (HX5.out.trans hxz)⟩
    ·have e:m=sp.length:=by omega
     subst e
     have HF:Hid (aq=false):=Lib.hid (by rw [HQD.out,← List.take_length (l:=sp)];exact HM.out)
     have HN2:=Lib.hid (HNX.out HF.out)
     have j1:¬ ((sp.length:Int) < (sp.length:Int)):=by omega
     go_wp2
     go_roundw
     case rel=>exact ⟨n+1,by omega,by go_num,HX5.out.trans hxz,HN2⟩
     case measure=>simp [intOf];omega
  ·have e:n=4:=by omega
   subst e
   have i1:¬ ((4:Int) < 4):=by omega
   have HF:Hid (ab=false):=Lib.hid (by rw [HABD.out];have:=HN.out;rw [HFIN.out] at this;exact this)
   go_wp2
   go_ret
   exact ⟨by rw [HF.out];rfl,HX2.out.trans hx⟩
set_option maxRecDepth 512
theorem digs_ne:∀ s ∈ names,∀ k:Fin 10,encB (zeroZ s+(k.val:Int)) ≠ []:=by decide +kernel
theorem dig_k {r:Rec} {p:Pt} (h:Both r p) {k:Nat} (hk:k < 10):digZ (locOf r p) (k:Int)=encB (zeroZ ⟨r.system.toArray⟩+(k:Int)):=by
 unfold digZ
 rw [if_pos (by omega),Int.toNat_natCast]
 show (digs r).getD k []=_
 rw [List.getD_eq_getElem?_getD,List.getElem?_eq_getElem (by rw [digs_len];exact hk),digs_at r hk]
 exact dig_eq h.may.sys (by omega) (by omega)
def symX (r:Rec) (n:Nat):List UInt8:=if n≤9 then encB (zeroZ ⟨r.system.toArray⟩+(n:Int)) else if n=10 then r.decimal else if n=11 then r.group else r.minus
theorem digs_apart:∀ s ∈ names,∀ j:Fin 10,∀ k:Fin 10,j ≠ k→encB (zeroZ s+(j.val:Int)) ≠ encB (zeroZ s+(k.val:Int)):=by decide +kernel
theorem digs_one:∀ s ∈ names,∀ k:Fin 10,(splitS (encB (zeroZ s+(k.val:Int)))).length=1:=by decide +kernel
theorem sym_ne {t:List UInt8} (h:symL t=true):t ≠ []:=by
 rintro rfl;revert h;decide
section
variable {r:Rec} {p:Pt}
theorem dB_sym (h:Both r p) {k:Nat} (hk:k < 10):(dB (locOf r p)).getD k ByteArray.empty=⟨(symX r k).toArray⟩:=by
 rw [dB_at r p hk,dig_eq h.may.sys (by omega) (by omega)]
 unfold symX;rw [if_pos (by omega)]
theorem d_mem (h:Both r p) {t:List UInt8} (ht:t ∈ (locOf r p).d):∃ k,k < 10∧t=symX r k:=by
 obtain ⟨k,hk,he⟩:=List.getElem_of_mem ht
 have hk':k < 10:=by rw [show (locOf r p).d.length=10 from digs_len r] at hk;exact hk
 refine ⟨k,hk',?_⟩
 have e1:(locOf r p).d[k]=digB ⟨r.system.toArray⟩ (k:Int):=digs_at r hk'
 rw [dig_eq h.may.sys (by omega) (by omega)] at e1
 exact (he.symm.trans e1).trans (by unfold symX;rw [if_pos (by omega)])
theorem sign_digit_ (h:Both r p) {n:Nat} (hn:n < 10):signZ (locOf r p) ⟨(symX r n).toArray⟩=n:=by
 have hl:=dB_len r p
 have hi:=Lib.idxOfS_hit (dB (locOf r p)) 10 n ⟨(symX r n).toArray⟩ hn (by rw [hl];exact Nat.le_refl _) (dB_sym h hn) (fun j hj=>by
  rw [dB_sym h (by omega)]
  intro e
  have e':=ba_inj e
  unfold symX at e'
  rw [if_pos (by omega),if_pos (by omega)] at e'
  exact digs_apart _ h.may.sys ⟨j,by omega⟩ ⟨n,hn⟩ (fun e=>by injection e with e;omega) e')
 rw [List.take_of_length_le (by rw [hl];exact Nat.le_refl _)] at hi
 unfold signZ
 rw [hi,if_pos (by omega)]
theorem idx_range (h:Both r p) {t:List UInt8} (ht:t ∈ (locOf r p).d):0≤signZ (locOf r p) ⟨t.toArray⟩∧signZ (locOf r p) ⟨t.toArray⟩ < 10:=by
 obtain ⟨k,hk,rfl⟩:=d_mem h ht
 rw [sign_digit_ h hk];omega
theorem sign_sym (h:Both r p) {n:Nat} (hn:n≤12) (hg:n=11→grpZ (locOf r p)=true):signZ (locOf r p) ⟨(symX r n).toArray⟩=n:=by
 by_cases h9:n < 10
 ·exact sign_digit_ h h9
 ·have hdo:r.decimal ∉ (locOf r p).d:=fun hm=>h.may.decT (idx_range h hm)
  have hmo:r.minus ∉ (locOf r p).d:=fun hm=>h.may.minT (show 0≤signZ (locOf r p) ⟨r.minus.toArray⟩∧signZ (locOf r p) ⟨r.minus.toArray⟩ < 12 from ⟨(idx_range h hm).1,by have:=(idx_range h hm).2;omega⟩)
  have hmd:r.minus ≠ r.decimal:=fun e=>h.may.minT (by
   have e2:signZ (locOf r p) ⟨r.minus.toArray⟩=10:=by rw [e];exact sign_dec hdo
   show 0≤signZ (locOf r p) ⟨r.minus.toArray⟩∧signZ (locOf r p) ⟨r.minus.toArray⟩ < 12
   omega)
  rcases (by omega:n=10∨n=11∨n=12) with rfl | rfl | rfl
  ·exact sign_dec hdo
  ·have hz:=hg rfl
   have hgo:r.group ∉ (locOf r p).d:=fun hm=>h.may.grpT hz (show 0≤signZ (locOf r p) ⟨r.group.toArray⟩∧signZ (locOf r p) ⟨r.group.toArray⟩ < 11 from ⟨(idx_range h hm).1,by have:=(idx_range h hm).2;omega⟩)
   have hgd:r.group ≠ r.decimal:=fun e=>h.may.grpT hz (by
    have e2:signZ (locOf r p) ⟨r.group.toArray⟩=10:=by rw [e];exact sign_dec hdo
    show 0≤signZ (locOf r p) ⟨r.group.toArray⟩∧signZ (locOf r p) ⟨r.group.toArray⟩ < 11
    omega)
   exact sign_grp hgo hgd hz
  ·refine sign_min hmo hmd fun hz e=>h.may.minT ?_
   have hgo:r.group ∉ (locOf r p).d:=fun hm=>h.may.grpT hz (show 0≤signZ (locOf r p) ⟨r.group.toArray⟩∧signZ (locOf r p) ⟨r.group.toArray⟩ < 11 from ⟨(idx_range h hm).1,by have:=(idx_range h hm).2;omega⟩)
   have hgd:r.group ≠ r.decimal:=fun e=>h.may.grpT hz (by
    have e2:signZ (locOf r p) ⟨r.group.toArray⟩=10:=by rw [e];exact sign_dec hdo
    show 0≤signZ (locOf r p) ⟨r.group.toArray⟩∧signZ (locOf r p) ⟨r.group.toArray⟩ < 11
    omega)
   have e2:signZ (locOf r p) ⟨r.minus.toArray⟩=11:=by
    have e':r.minus=r.group:=e
    rw [e'];exact sign_grp hgo hgd hz
   show 0≤signZ (locOf r p) ⟨r.minus.toArray⟩∧signZ (locOf r p) ⟨r.minus.toArray⟩ < 12
   omega
theorem one_sym (h:Both r p) {n:Nat} (hn:n≤12) (hg:n=11→grpZ (locOf r p)=true):(splitS (symX r n)).length=1∧symX r n ≠ []:=by
 have hs:∀ t,symL t=true→(splitS t).length=1∧t ≠ []:=fun t ht=>⟨by
  unfold symL at ht
  simp only [Bool.and_eq_true,decide_eq_true_eq] at ht
  exact ht.2,sym_ne ht⟩
 by_cases h9:n≤9
 ·unfold symX
  rw [if_pos h9]
  exact ⟨digs_one _ h.may.sys ⟨n,by omega⟩,digs_ne _ h.may.sys ⟨n,by omega⟩⟩
 ·unfold symX
  rw [if_neg h9]
  rcases (by omega:n=10∨n=11∨n=12) with rfl | rfl | rfl
  ·exact hs _ h.may.dec
  ·have hz:=hg rfl
   have hgr:if grpZ (locOf r p)=true then symL r.group=true else r.group=[]:=h.may.grp
   rw [if_pos hz] at hgr
   exact hs _ hgr
  ·exact hs _ h.may.min
end
end Go.Proofs.YtcghgkagpkmpeaaGreatDoor.Loc
namespace Go.Proofs.YtcghgkagpkmpeaaGreatDoor.Loc
open Go.RowKit Utf All Small Strs Build Pat Cls Go.ChangeShapes Go.WideShapes
theorem tabs_in {W : World} {l : List (String × DataW Unit)} (hL : laidMet Tryz.prog l W) (h1 : ("unicode/utf8.first", Lib.firstData) ∈ l) (h2 : ("unicode/utf8.acceptRanges", Lib.acceptData) ∈ l) : Tabs W :=
 utf8Tabs_of_readsT (U8Types.of196 Tryz.laysValid) ⟨by kernel_rfl,by kernel_rfl,by kernel_rfl,by kernel_rfl,by kernel_rfl,by kernel_rfl,by kernel_rfl⟩ (Lib.laidMet.reads hL h1) (Lib.laidMet.reads hL h2)
set_option maxRecDepth 100000
theorem open_g {H:Type} {enc:TypeId × Value→H} {W:World} {r:Reach} {base:Nat} {v:Value} {d:DataW H} {ps:List MemPlace} (hv:Value.okWide Tryz.prog W r base 23 v) (h:DataW.Trod enc Tryz.prog W 0 (fun _=>true) true 23 v d ps) :
  ∃ (v0 v1 v2 v3 v4 v5:Int),v=.agg #[.int .i64 v0,.int .i64 v1,.int .i64 v2,.int .i64 v3,.int .i64 v4,.int .i64 v5]∧i64 v0∧i64 v1∧i64 v2∧i64 v3∧i64 v4∧i64 v5:=by
 obtain ⟨cs,rfl,hsz⟩:=okWide_struct Tryz.underlying23 hv
 have h6:Tryz.prog.cellsOf 23=6:=by kernel_rfl
 have c1:Tryz.prog.cellsOf 3=1:=by kernel_rfl
 rw [h6] at hsz
 obtain ⟨fuel,hf⟩:=h
 obtain ⟨xs,n,_,_,_,hxl,hfld⟩:=DataW.trod_struct Tryz.underlying23 hf
 have hcs:(Value.agg cs).cells.toList=cs.toList:=rfl
 rw [hcs] at hfld
 obtain ⟨l⟩:=cs
 have hl:l.length=6:=hsz
 match l,hl with
 | [w0,w1,w2,w3,w4,w5],_ =>
  obtain ⟨y0,e0⟩:=some_at hxl (i:=0) (by decide)
  obtain ⟨y1,e1⟩:=some_at hxl (i:=1) (by decide)
  obtain ⟨y2,e2⟩:=some_at hxl (i:=2) (by decide)
  obtain ⟨y3,e3⟩:=some_at hxl (i:=3) (by decide)
  obtain ⟨y4,e4⟩:=some_at hxl (i:=4) (by decide)
  obtain ⟨y5,e5⟩:=some_at hxl (i:=5) (by decide)
  have f0:=(hfld 0 _ rfl).trans e0
  have f1:=(hfld 1 _ rfl).trans e1
  have f2:=(hfld 2 _ rfl).trans e2
  have f3:=(hfld 3 _ rfl).trans e3
  have f4:=(hfld 4 _ rfl).trans e4
  have f5:=(hfld 5 _ rfl).trans e5
  simp only [c1,List.drop_succ_cons,List.drop_zero,List.take_succ_cons,List.take_zero] at f0 f1 f2 f3 f4 f5
  obtain ⟨n0,rfl,b0⟩:=open_int_cell f0
  obtain ⟨n1,rfl,b1⟩:=open_int_cell f1
  obtain ⟨n2,rfl,b2⟩:=open_int_cell f2
  obtain ⟨n3,rfl,b3⟩:=open_int_cell f3
  obtain ⟨n4,rfl,b4⟩:=open_int_cell f4
  obtain ⟨n5,rfl,b5⟩:=open_int_cell f5
  exact ⟨n0,n1,n2,n3,n4,n5,rfl,b0,b1,b2,b3,b4,b5⟩
end Go.Proofs.YtcghgkagpkmpeaaGreatDoor.Loc
namespace Go.Proofs.YtcghgkagpkmpeaaGreatDoor.Loc
open Go.RowKit Utf All Small Strs Build EncC Pat Cls Dec Go.Proofs.YtcghgkagpkmpeaaGreatDoor.Sys
theorem row_sub {w:World} {X:Option Addr} {q:List Pc} {k:Nat} (h:Row w X (pcsV q)) (hk:k < q.length):∃ b off,X=some ⟨b,off,none⟩∧Row w (some ⟨b,off+k * 2,none⟩) (pcsV [q[k]]):=by
 obtain ⟨b,off,rfl,h1,h2⟩:=row_pc h hk
 refine ⟨b,off,rfl,.inr ⟨b,off+k * 2,rfl,fun j v hv=>?_⟩⟩
 have hj:j < 2:=by have:=(List.getElem?_eq_some_iff.1 hv).1;simpa [pcsV,pcV] using this
 match j,hj with
 | 0,_=>simp [pcsV,pcV] at hv;subst hv;exact h1
 | 1,_=>simp [pcsV,pcV] at hv;subst hv;exact h2
set_option maxRecDepth 100000
theorem ref_parts (A B C D X:Option Addr) (c d a b' n k0:Nat) (q:List Pc) (r:Rec) (p:Pt) (w:World) (hb:LocB (locOf r p)) (hX:Row w X (pcsV q)) (hq:q.length=n) (hn0:n≤k0) (hl:n≤1000) (hk:∀ x ∈ q,0≤x.1∧x.1 < 4∧x.2.length≤6) :
  Calls Tryz.prog 103 #[.agg (refLV A B C D c d a b' r p).toArray,.slice X n k0] w fun e w'=>∃ E c',e=.returned (.slice E (partsF (locOf r p) q).length c')∧Row w' E (prtV (partsF (locOf r p) q))∧Okc E c'∧Ext w w':=by
 have HK:=Lib.hid hk
 have HLB:=Lib.hid hb
 have HXR:=Lib.hid hX
 have HQ:=Lib.hid hq
 have HBD:Hid (∀ k,(stR (locOf r p) (q.take k)).1.length≤2 * k∧(stR (locOf r p) (q.take k)).2.length≤1000 * k):=Lib.hid fun k=>by
  have h:=stR_bd (locOf r p) hb (q.take k) (fun x hx=>by have:=(hk x (List.mem_of_mem_take hx)).2.2;omega)
  have hlk:(q.take k).length≤k:=by rw [List.length_take];omega
  omega
 have HALL:Hid (partsF (locOf r p) q=finR (stR (locOf r p) (q.take n))):=Lib.hid (by rw [parts_fin,List.take_of_length_le (by omega)])
 have b1:=Box.new w 31 (refLV A B C D c d a b' r p)
 have hx1:Ext w (w.alloc (.cells (refLV A B C D c d a b' r p).toArray 31)):=Ext.alloc_ (Ext.refl w) _
 have HRG:Hid ((w.alloc (.cells (refLV A B C D c d a b' r p).toArray 31)).rangeAt w.heap.size 0 [.string ⟨r.name.toArray⟩,.string ⟨r.pattern.toArray⟩,.string ⟨r.system.toArray⟩,.string ⟨r.decimal.toArray⟩,.string ⟨r.group.toArray⟩,.string ⟨r.minus.toArray⟩,.string ⟨r.percent.toArray⟩,.string ⟨r.currency.toArray⟩]):=Lib.hid (refL_rec b1.range)
 have HX1:=Lib.hid hx1
 clear hk hb hX b1 hx1
 go_enter Tryz.func103,Tryz.ntmps103
 go_upto_region 1 with fail
 change Code.wp _ _ _ _ (w.alloc (.cells (refLV A B C D c d a b' r p).toArray 31))
 generalize w.alloc (.cells (refLV A B C D c d a b' r p).toArray 31)=w1 at *
 generalize hlb:w.heap.size=lb at *
 clear hlb
 go_wp2
 go_loopw [5,6,7] (fun v s i wr=>∃ (k:Nat) (E:Option Addr) (c':Nat) (out:List Prt) (t:List UInt8),k≤n∧i=.int .i64 k∧v=.slice E out.length c'∧s=.string ⟨t.toArray⟩∧Hid (stR (locOf r p) (q.take k)=(out,t))∧Acc 166 2 w1 wr E c' out.length (prtV out)) (fun _ _ i _=>n - (intOf i).toNat)
 case atStart=>exact ⟨0,none,0,[],[],Nat.zero_le _,rfl,rfl,rfl,Lib.hid (by simp [stR]),Acc.start _ _ _⟩
 case round =>
  obtain ⟨k,E,c',out,t,hkn,rfl,rfl,rfl,HST,hacc⟩:=hrel
  have hbd:=HBD.out k
  rw [HST.out] at hbd
  obtain ⟨hbo,hbt⟩:=hbd
  simp only at hbo hbt
  have HA:=Lib.hid hacc
  by_cases hlt:k < n
  ·have hkq:k < q.length:=by have:=HQ.out;omega
   have hwr:Ext w wr:=HX1.out.trans hacc.ext
   obtain ⟨bx,ox,rfl,hc1,hc2⟩:=row_pc (HXR.out.below hwr (Nat.le_refl _)) hkq
   have HSN:Hid (stR (locOf r p) (q.take (k+1))=stepR (locOf r p) (out,t) q[k]):=Lib.hid (by rw [stR_snoc _ hkq,HST.out])
   have hkx:=HK.out _ (List.getElem_mem hkq)
   have HSUB:Hid (∀ W,Ext wr W→Row W (some ⟨bx,ox+k * 2,none⟩) (pcsV [q[k]])):=Lib.hid fun W hW=>by
    obtain ⟨b2,o2,he,hr2⟩:=row_sub (HXR.out.below (hwr.trans hW) (Nat.le_refl _)) hkq
    injection he with he;injection he with he1 he2
    subst he1;subst he2;exact hr2
   have HTB:=Lib.hid (txt_one (locOf r p) HLB.out q[k] (by omega))
   have i1:(k:Int) < (n:Int):=by omega
   clear hacc hwr
   generalize q[k]=x at *
   obtain ⟨kd,tx0⟩:=x
   simp only at hc1 hc2 hkx
   by_cases h3:kd=3
   ·subst h3
    have hb3:((3:Int) != 3)=false:=rfl
    by_cases ht:t=[]
    ·subst ht
     have HS2:Hid (stR (locOf r p) (q.take (k+1))=(out++[(true,[])],[])):=Lib.hid (by rw [HSN.out];rfl)
     go_wp2_with (at_builtin;refine wp_app ei_t rfl (.tmp 37) (.tmp 39) rfl w1 _ E c' out.length _ rfl HA.out [.bool true,.string ⟨#[]⟩] 1 1 rfl rfl (by simp [Value.oneCell']) (by omega) (by unfold maxLen;omega) ?_;intro A1 c1 w5 hA5 _ _)
     exact ⟨⟨k+1,A1,c1,out++[(true,[])],[],by omega,by go_num,by rw [List.length_append];rfl,rfl,HS2,by rw [List.length_append,prt_app];exact hA5⟩,by simp [intOf];omega⟩
    ·have HS2:Hid (stR (locOf r p) (q.take (k+1))=((out++[(false,t)])++[(true,[])],[])):=Lib.hid (by rw [HSN.out];unfold stepR;simp [ht])
     have hie:t.isEmpty=false:=by simpa using ht
     go_wp2_with (first
      | (at_builtin;refine wp_app ei_t rfl (.tmp 32) (.tmp 35) rfl w1 _ E c' out.length _ rfl HA.out [.bool false,.string ⟨t.toArray⟩] 1 1 rfl rfl (by simp [Value.oneCell']) (by omega) (by unfold maxLen;omega) ?_;intro A1 c1 w5 hA5 _ _)
      | (at_builtin;refine wp_app ei_t rfl (.tmp 37) (.tmp 39) rfl w1 _ A1 c1 (out.length+1) _ rfl hA5 [.bool true,.string ⟨#[]⟩] 1 1 rfl rfl (by simp [Value.oneCell']) (by omega) (by unfold maxLen;omega) ?_;intro A2 c2 w6 hA6 _ _))
     exact ⟨⟨k+1,A2,c2,(out++[(false,t)])++[(true,[])],[],by omega,by go_num,by rw [List.length_append,List.length_append];rfl,rfl,HS2,by rw [List.length_append,List.length_append,prt_app,prt_app];exact hA6⟩,by simp [intOf];omega⟩
   ·have hb3:(kd != 3)=true:=by simp [h3]
    have HS2:Hid (stR (locOf r p) (q.take (k+1))=(out,t++txtL (locOf r p) [(kd,tx0)])):=Lib.hid (by rw [HSN.out];unfold stepR;simp [h3])
    have HTX:Hid (∀ W,Ext wr W→Calls Tryz.prog 85 #[.agg (recV r).toArray,.slice (some ⟨bx,ox+k * 2,none⟩) 1 (k0 - k)] W fun e w'=>e=.returned (.string ⟨(txtL (locOf r p) [(kd,tx0)]).toArray⟩)∧Ext W w'):=Lib.hid fun W hW=>by
     have h:=ref_text (some ⟨bx,ox+k * 2,none⟩) 1 (k0 - k) [(kd,tx0)] r W (HSUB.out W hW) rfl (by decide) HLB.out.cur HLB.out.per (by simpa using hkx)
     exact h
    have htl:=HTB.out
    generalize txtL (locOf r p) [(kd,tx0)]=tx at *
    have q1:(9223372036854775807 < t.length+tx.length)=False:=eq_false (by omega)
    have hap:=app_mk t tx
    have j1:IntKind.i64.wrap ((k:Int)+1)=(k:Int)+1:=by rw [IntKind.wrap_i64];omega
    have j2:(0:Int)≤(k:Int):=by omega
    have j6:(k0=k)=False:=eq_false (by omega)
    have j3:(k:Int)≤(k:Int)+1:=by omega
    have j4:(k:Int)+1≤(k0:Int):=by omega
    have j5:((k:Int)+1).toNat=k+1:=by omega
    have HRW:=Lib.hid (Ext.range_ HA.out.ext HRG.out)
    go_upto_region 7 with fail
    refine rg_ (S:=fun W=>Ext wr W∧W.rangeAt lb 0 [.string ⟨r.name.toArray⟩,.string ⟨r.pattern.toArray⟩,.string ⟨r.system.toArray⟩,.string ⟨r.decimal.toArray⟩,.string ⟨r.group.toArray⟩,.string ⟨r.minus.toArray⟩,.string ⟨r.percent.toArray⟩,.string ⟨r.currency.toArray⟩]) (⟨Ext.drew_ (Ext.refl _),HRW.out⟩) (fun hHeld=>?_)
    refine tk_ 0 hHeld ?_
    try simp only [Act.put,sA,sZ,sS]
    refine tk_ 1 hHeld ?_
    try simp only [Act.put,sA,sZ,sS]
    refine tr_ (cs:=[.string ⟨r.name.toArray⟩,.string ⟨r.pattern.toArray⟩,.string ⟨r.system.toArray⟩,.string ⟨r.decimal.toArray⟩,.string ⟨r.group.toArray⟩,.string ⟨r.minus.toArray⟩,.string ⟨r.percent.toArray⟩,.string ⟨r.currency.toArray⟩]) 2 hHeld 26 ((.tmp 21)) lb (0) (fun _ h=>h.2) Tryz.underlying26 infoR ?_
    try simp only [Act.put,sA,sZ,sS]
    refine tk_ 3 hHeld ?_
    try simp only [Act.put,sA,sZ,sS]
    refine tk_ 4 hHeld ?_
    try simp only [Act.put,sA,sZ,sS]
    refine tk_ 5 hHeld ?_
    try simp only [Act.put,sA,sZ,sS]
    refine tk_ 6 hHeld ?_
    try simp only [Act.put,sA,sZ,sS]
    refine tk_ 7 hHeld ?_
    try simp only [Act.put,sA,sZ,sS]
    refine on_ 8 (fun K1 hK1=>?_)
    go_simp
    go_at_call 85
    refine (HTX.out _ hHeld.1).mono ?_
    rintro e w7 ⟨rfl,hx7⟩
    refine hK1.out _ _ (⟨hHeld.1.trans hx7,Ext.range_ hx7 hHeld.2⟩) (fun hHeld=>?_)
    clear hK1
    try simp only [Act.put,sA,sZ,sS]
    refine tk_ 9 hHeld ?_
    try simp only [Act.put,sA,sZ,sS]
    refine tk_ 10 hHeld ?_
    try simp only [Act.put,sA,sZ,sS]
    refine dn_ ?_
    have HA7:=Lib.hid (HA.out.step hHeld.1)
    clear hHeld
    go_wp2
    go_roundw
    case rel=>exact ⟨k+1,E,c',out,t++tx,by omega,by go_num,rfl,by first | rfl | rw [hap],HS2,HA7.out⟩
    case measure=>simp [intOf];omega
  ·have e:k=n:=by omega
   subst e
   have i1:¬ ((k:Int) < (k:Int)):=by omega
   have HP:Hid (partsF (locOf r p) q=finR (out,t)):=Lib.hid (by rw [HALL.out,HST.out])
   by_cases ht:t=[]
   ·subst ht
    have HP2:Hid (partsF (locOf r p) q=out):=Lib.hid HP.out
    go_wp2
    go_ret
    exact ⟨E,c',by rw [HP2.out];rfl,by rw [HP2.out];exact HA.out.row,Acc.okc HA.out,HX1.out.trans HA.out.ext⟩
   ·have HP2:Hid (partsF (locOf r p) q=out++[(false,t)]):=Lib.hid (by rw [HP.out];unfold finR;simp [ht])
    have hie:t.isEmpty=false:=by simpa using ht
    go_wp2_with (at_builtin;refine wp_app ei_t rfl (.tmp 43) (.tmp 46) rfl w1 _ E c' out.length _ rfl HA.out [.bool false,.string ⟨t.toArray⟩] 1 1 rfl rfl (by simp [Value.oneCell']) (by omega) (by unfold maxLen;omega) ?_;intro A1 c1 w5 hA5 _ _)
    go_ret
    exact ⟨A1,c1,by rw [HP2.out,List.length_append];rfl,by rw [HP2.out,prt_app];exact hA5.row,Acc.okc hA5,HX1.out.trans hA5.ext⟩
theorem ref_around_true (A B C D:Option Addr) (c d a b:Nat) (r:Rec) (p:Pt) (w:World) (h:Both r p) (hpt:PtR w A B C D p) (hcap:CapR p c d a b) :
  Calls Tryz.prog 55 #[.agg (refLV A B C D c d a b r p).toArray,.bool true] w fun e w'=>∃ E c1 F c2,e=.returned (.tuple #[.slice E (ahead (locOf r p) true).length c1,.slice F (behind (locOf r p) true).length c2])∧Row w' E (prtV (ahead (locOf r p) true))∧Row w' F (prtV (behind (locOf r p) true))∧Okc E c1∧Okc F c2∧Ext w w':=by
 have b1:=Box.new w 31 (refLV A B C D c d a b r p)
 have hx1:Ext w (w.alloc (.cells (refLV A B C D c d a b r p).toArray 31)):=Ext.alloc_ (Ext.refl w) _
 have hr1:(w.alloc (.cells (refLV A B C D c d a b r p).toArray 31)).rangeAt w.heap.size 0 [.string ⟨r.name.toArray⟩,.string ⟨r.pattern.toArray⟩,.string ⟨r.system.toArray⟩,.string ⟨r.decimal.toArray⟩,.string ⟨r.group.toArray⟩,.string ⟨r.minus.toArray⟩,.string ⟨r.percent.toArray⟩,.string ⟨r.currency.toArray⟩,.slice A p.pre.length c,.slice B p.suf.length d,.slice C p.npre.length a,.slice D p.nsuf.length b,.int .i64 p.num.prim,.int .i64 p.num.sec,.int .i64 p.num.minInt,.int .i64 p.num.minFrac,.int .i64 p.num.maxFrac]:=b1.range
 have c10:=b1.cell (j:=10) (v:=.slice C p.npre.length a) rfl
 have c11:=b1.cell (j:=11) (v:=.slice D p.nsuf.length b) rfl
 have H1:Hid (∀ W,Ext w W→Calls Tryz.prog 103 #[.agg ([.string ⟨r.name.toArray⟩,.string ⟨r.pattern.toArray⟩,.string ⟨r.system.toArray⟩,.string ⟨r.decimal.toArray⟩,.string ⟨r.group.toArray⟩,.string ⟨r.minus.toArray⟩,.string ⟨r.percent.toArray⟩,.string ⟨r.currency.toArray⟩,.slice A p.pre.length c,.slice B p.suf.length d,.slice C p.npre.length a,.slice D p.nsuf.length b,.int .i64 p.num.prim,.int .i64 p.num.sec,.int .i64 p.num.minInt,.int .i64 p.num.minFrac,.int .i64 p.num.maxFrac]:List Value).toArray,.slice C p.npre.length a] W fun e w'=>∃ E c',e=.returned (.slice E (ahead (locOf r p) true).length c')∧Row w' E (prtV (ahead (locOf r p) true))∧Okc E c'∧Ext W w'):=Lib.hid fun W hW =>
  ref_parts A B C D C c d a b _ a p.npre r p W h.may.b (hpt.ext hW).2.2.1 rfl hcap.2.2.1 (h.may.b.len _ (by simp [affs])) (h.pcs _ (by simp [affsP]))
 have H2:Hid (∀ W,Ext w W→Calls Tryz.prog 103 #[.agg ([.string ⟨r.name.toArray⟩,.string ⟨r.pattern.toArray⟩,.string ⟨r.system.toArray⟩,.string ⟨r.decimal.toArray⟩,.string ⟨r.group.toArray⟩,.string ⟨r.minus.toArray⟩,.string ⟨r.percent.toArray⟩,.string ⟨r.currency.toArray⟩,.slice A p.pre.length c,.slice B p.suf.length d,.slice C p.npre.length a,.slice D p.nsuf.length b,.int .i64 p.num.prim,.int .i64 p.num.sec,.int .i64 p.num.minInt,.int .i64 p.num.minFrac,.int .i64 p.num.maxFrac]:List Value).toArray,.slice D p.nsuf.length b] W fun e w'=>∃ E c',e=.returned (.slice E (behind (locOf r p) true).length c')∧Row w' E (prtV (behind (locOf r p) true))∧Okc E c'∧Ext W w'):=Lib.hid fun W hW =>
  ref_parts A B C D D c d a b _ b p.nsuf r p W h.may.b (hpt.ext hW).2.2.2 rfl hcap.2.2.2 (h.may.b.len _ (by simp [affs])) (h.pcs _ (by simp [affsP]))
 have HX1:=Lib.hid hx1
 clear b1 hx1 h hpt hcap
 generalize ahead (locOf r p) true=L1 at *
 generalize behind (locOf r p) true=L2 at *
 go_enter Tryz.func55,Tryz.ntmps55
 go_upto_region 1 with fail
 change Code.wp _ _ _ _ (w.alloc (.cells (refLV A B C D c d a b r p).toArray 31))
 generalize w.alloc (.cells (refLV A B C D c d a b r p).toArray 31)=w1 at *
 generalize hlb:w.heap.size=lb at *
 clear hlb
 go_upto_region 2 with fail
 refine rg_ (S:=fun W=>Ext w1 W∧W.rangeAt lb 0 [.string ⟨r.name.toArray⟩,.string ⟨r.pattern.toArray⟩,.string ⟨r.system.toArray⟩,.string ⟨r.decimal.toArray⟩,.string ⟨r.group.toArray⟩,.string ⟨r.minus.toArray⟩,.string ⟨r.percent.toArray⟩,.string ⟨r.currency.toArray⟩,.slice A p.pre.length c,.slice B p.suf.length d,.slice C p.npre.length a,.slice D p.nsuf.length b,.int .i64 p.num.prim,.int .i64 p.num.sec,.int .i64 p.num.minInt,.int .i64 p.num.minFrac,.int .i64 p.num.maxFrac]∧W.cell? ⟨lb,10,none⟩=some (.slice C p.npre.length a)∧W.cell? ⟨lb,11,none⟩=some (.slice D p.nsuf.length b)) (⟨Ext.drew_ (Ext.refl _),hr1,c10,c11⟩) (fun hHeld=>?_)
 refine tr_ (cs:=[.string ⟨r.name.toArray⟩,.string ⟨r.pattern.toArray⟩,.string ⟨r.system.toArray⟩,.string ⟨r.decimal.toArray⟩,.string ⟨r.group.toArray⟩,.string ⟨r.minus.toArray⟩,.string ⟨r.percent.toArray⟩,.string ⟨r.currency.toArray⟩,.slice A p.pre.length c,.slice B p.suf.length d,.slice C p.npre.length a,.slice D p.nsuf.length b,.int .i64 p.num.prim,.int .i64 p.num.sec,.int .i64 p.num.minInt,.int .i64 p.num.minFrac,.int .i64 p.num.maxFrac]) 0 hHeld 31 ((.tmp 2)) lb (0) (fun _ h=>h.2.1) Tryz.underlying31 infoRL ?_
 try simp only [Act.put,sA,sZ,sS]
 refine tk_ 1 hHeld ?_
 try simp only [Act.put,sA,sZ,sS]
 refine tk_ 2 hHeld ?_
 try simp only [Act.put,sA,sZ,sS]
 refine tk_ 3 hHeld ?_
 try simp only [Act.put,sA,sZ,sS]
 refine tr_ (cs:=[.string ⟨r.name.toArray⟩,.string ⟨r.pattern.toArray⟩,.string ⟨r.system.toArray⟩,.string ⟨r.decimal.toArray⟩,.string ⟨r.group.toArray⟩,.string ⟨r.minus.toArray⟩,.string ⟨r.percent.toArray⟩,.string ⟨r.currency.toArray⟩,.slice A p.pre.length c,.slice B p.suf.length d,.slice C p.npre.length a,.slice D p.nsuf.length b,.int .i64 p.num.prim,.int .i64 p.num.sec,.int .i64 p.num.minInt,.int .i64 p.num.minFrac,.int .i64 p.num.maxFrac]) 5 hHeld 31 ((.tmp 2)) lb (0) (fun _ h=>h.2.1) Tryz.underlying31 infoRL ?_
 try simp only [Act.put,sA,sZ,sS]
 refine tk_ 6 hHeld ?_
 try simp only [Act.put,sA,sZ,sS]
 refine tk_ 7 hHeld ?_
 try simp only [Act.put,sA,sZ,sS]
 refine tk_ 8 hHeld ?_
 try simp only [Act.put,sA,sZ,sS]
 refine on_ 4 (fun K1 hK1=>?_)
 go_simp
 go_at_call 103
 refine (H1.out _ (HX1.out.trans hHeld.1)).mono ?_
 rintro e w4 ⟨E,c1,rfl,hr4,ho4,hx4⟩
 have HR4:=Lib.hid hr4
 refine hK1.out _ _ (⟨hHeld.1.trans hx4,Ext.range_ hx4 hHeld.2.1,Ext.cell_ hx4 hHeld.2.2.1,Ext.cell_ hx4 hHeld.2.2.2⟩) (fun hHeld=>?_)
 clear hK1
 try simp only [Act.put,sA,sZ,sS]
 refine on_ 9 (fun K1 hK1=>?_)
 go_simp
 go_at_call 103
 refine (H2.out _ (HX1.out.trans hHeld.1)).mono ?_
 rintro e w5 ⟨F,c2,rfl,hr5,ho5,hx5⟩
 have hr4':=HR4.out.below hx5 (Nat.le_refl _)
 refine hK1.out _ _ (⟨hHeld.1.trans hx5,Ext.range_ hx5 hHeld.2.1,Ext.cell_ hx5 hHeld.2.2.1,Ext.cell_ hx5 hHeld.2.2.2⟩) (fun hHeld=>?_)
 clear hK1
 try simp only [Act.put,sA,sZ,sS]
 refine tk_ 10 hHeld ?_
 try simp only [Act.put,sA,sZ,sS]
 refine tk_ 11 hHeld ?_
 try simp only [Act.put,sA,sZ,sS]
 refine dn_ ?_
 have HH:=Lib.hid hHeld.1
 clear hHeld
 go_wp2
 go_ret2
 exact ⟨E,c1,F,c2,rfl,hr4',hr5,ho4,ho5,HX1.out.trans HH.out⟩
theorem ref_around_false (A B C D:Option Addr) (c d a b:Nat) (r:Rec) (p:Pt) (w:World) (h:Both r p) (hpt:PtR w A B C D p) (hcap:CapR p c d a b) :
  Calls Tryz.prog 55 #[.agg (refLV A B C D c d a b r p).toArray,.bool false] w fun e w'=>∃ E c1 F c2,e=.returned (.tuple #[.slice E (ahead (locOf r p) false).length c1,.slice F (behind (locOf r p) false).length c2])∧Row w' E (prtV (ahead (locOf r p) false))∧Row w' F (prtV (behind (locOf r p) false))∧Okc E c1∧Okc F c2∧Ext w w':=by
 have b1:=Box.new w 31 (refLV A B C D c d a b r p)
 have hx1:Ext w (w.alloc (.cells (refLV A B C D c d a b r p).toArray 31)):=Ext.alloc_ (Ext.refl w) _
 have hr1:(w.alloc (.cells (refLV A B C D c d a b r p).toArray 31)).rangeAt w.heap.size 0 [.string ⟨r.name.toArray⟩,.string ⟨r.pattern.toArray⟩,.string ⟨r.system.toArray⟩,.string ⟨r.decimal.toArray⟩,.string ⟨r.group.toArray⟩,.string ⟨r.minus.toArray⟩,.string ⟨r.percent.toArray⟩,.string ⟨r.currency.toArray⟩,.slice A p.pre.length c,.slice B p.suf.length d,.slice C p.npre.length a,.slice D p.nsuf.length b,.int .i64 p.num.prim,.int .i64 p.num.sec,.int .i64 p.num.minInt,.int .i64 p.num.minFrac,.int .i64 p.num.maxFrac]:=b1.range
 have c10:=b1.cell (j:=8) (v:=.slice A p.pre.length c) rfl
 have c11:=b1.cell (j:=9) (v:=.slice B p.suf.length d) rfl
 have H1:Hid (∀ W,Ext w W→Calls Tryz.prog 103 #[.agg ([.string ⟨r.name.toArray⟩,.string ⟨r.pattern.toArray⟩,.string ⟨r.system.toArray⟩,.string ⟨r.decimal.toArray⟩,.string ⟨r.group.toArray⟩,.string ⟨r.minus.toArray⟩,.string ⟨r.percent.toArray⟩,.string ⟨r.currency.toArray⟩,.slice A p.pre.length c,.slice B p.suf.length d,.slice C p.npre.length a,.slice D p.nsuf.length b,.int .i64 p.num.prim,.int .i64 p.num.sec,.int .i64 p.num.minInt,.int .i64 p.num.minFrac,.int .i64 p.num.maxFrac]:List Value).toArray,.slice A p.pre.length c] W fun e w'=>∃ E c',e=.returned (.slice E (ahead (locOf r p) false).length c')∧Row w' E (prtV (ahead (locOf r p) false))∧Okc E c'∧Ext W w'):=Lib.hid fun W hW =>
  ref_parts A B C D A c d a b _ c p.pre r p W h.may.b (hpt.ext hW).1 rfl hcap.1 (h.may.b.len _ (by simp [affs])) (h.pcs _ (by simp [affsP]))
 have H2:Hid (∀ W,Ext w W→Calls Tryz.prog 103 #[.agg ([.string ⟨r.name.toArray⟩,.string ⟨r.pattern.toArray⟩,.string ⟨r.system.toArray⟩,.string ⟨r.decimal.toArray⟩,.string ⟨r.group.toArray⟩,.string ⟨r.minus.toArray⟩,.string ⟨r.percent.toArray⟩,.string ⟨r.currency.toArray⟩,.slice A p.pre.length c,.slice B p.suf.length d,.slice C p.npre.length a,.slice D p.nsuf.length b,.int .i64 p.num.prim,.int .i64 p.num.sec,.int .i64 p.num.minInt,.int .i64 p.num.minFrac,.int .i64 p.num.maxFrac]:List Value).toArray,.slice B p.suf.length d] W fun e w'=>∃ E c',e=.returned (.slice E (behind (locOf r p) false).length c')∧Row w' E (prtV (behind (locOf r p) false))∧Okc E c'∧Ext W w'):=Lib.hid fun W hW =>
  ref_parts A B C D B c d a b _ d p.suf r p W h.may.b (hpt.ext hW).2.1 rfl hcap.2.1 (h.may.b.len _ (by simp [affs])) (h.pcs _ (by simp [affsP]))
 have HX1:=Lib.hid hx1
 clear b1 hx1 h hpt hcap
 generalize ahead (locOf r p) false=L1 at *
 generalize behind (locOf r p) false=L2 at *
 go_enter Tryz.func55,Tryz.ntmps55
 go_upto_region 1 with fail
 change Code.wp _ _ _ _ (w.alloc (.cells (refLV A B C D c d a b r p).toArray 31))
 generalize w.alloc (.cells (refLV A B C D c d a b r p).toArray 31)=w1 at *
 generalize hlb:w.heap.size=lb at *
 clear hlb
 go_upto_region 3 with fail
 refine rg_ (S:=fun W=>Ext w1 W∧W.rangeAt lb 0 [.string ⟨r.name.toArray⟩,.string ⟨r.pattern.toArray⟩,.string ⟨r.system.toArray⟩,.string ⟨r.decimal.toArray⟩,.string ⟨r.group.toArray⟩,.string ⟨r.minus.toArray⟩,.string ⟨r.percent.toArray⟩,.string ⟨r.currency.toArray⟩,.slice A p.pre.length c,.slice B p.suf.length d,.slice C p.npre.length a,.slice D p.nsuf.length b,.int .i64 p.num.prim,.int .i64 p.num.sec,.int .i64 p.num.minInt,.int .i64 p.num.minFrac,.int .i64 p.num.maxFrac]∧W.cell? ⟨lb,8,none⟩=some (.slice A p.pre.length c)∧W.cell? ⟨lb,9,none⟩=some (.slice B p.suf.length d)) (⟨Ext.drew_ (Ext.refl _),hr1,c10,c11⟩) (fun hHeld=>?_)
 refine tr_ (cs:=[.string ⟨r.name.toArray⟩,.string ⟨r.pattern.toArray⟩,.string ⟨r.system.toArray⟩,.string ⟨r.decimal.toArray⟩,.string ⟨r.group.toArray⟩,.string ⟨r.minus.toArray⟩,.string ⟨r.percent.toArray⟩,.string ⟨r.currency.toArray⟩,.slice A p.pre.length c,.slice B p.suf.length d,.slice C p.npre.length a,.slice D p.nsuf.length b,.int .i64 p.num.prim,.int .i64 p.num.sec,.int .i64 p.num.minInt,.int .i64 p.num.minFrac,.int .i64 p.num.maxFrac]) 0 hHeld 31 ((.tmp 2)) lb (0) (fun _ h=>h.2.1) Tryz.underlying31 infoRL ?_
 try simp only [Act.put,sA,sZ,sS]
 refine tk_ 1 hHeld ?_
 try simp only [Act.put,sA,sZ,sS]
 refine tk_ 2 hHeld ?_
 try simp only [Act.put,sA,sZ,sS]
 refine tk_ 3 hHeld ?_
 try simp only [Act.put,sA,sZ,sS]
 refine tr_ (cs:=[.string ⟨r.name.toArray⟩,.string ⟨r.pattern.toArray⟩,.string ⟨r.system.toArray⟩,.string ⟨r.decimal.toArray⟩,.string ⟨r.group.toArray⟩,.string ⟨r.minus.toArray⟩,.string ⟨r.percent.toArray⟩,.string ⟨r.currency.toArray⟩,.slice A p.pre.length c,.slice B p.suf.length d,.slice C p.npre.length a,.slice D p.nsuf.length b,.int .i64 p.num.prim,.int .i64 p.num.sec,.int .i64 p.num.minInt,.int .i64 p.num.minFrac,.int .i64 p.num.maxFrac]) 5 hHeld 31 ((.tmp 2)) lb (0) (fun _ h=>h.2.1) Tryz.underlying31 infoRL ?_
 try simp only [Act.put,sA,sZ,sS]
 refine tk_ 6 hHeld ?_
 try simp only [Act.put,sA,sZ,sS]
 refine tk_ 7 hHeld ?_
 try simp only [Act.put,sA,sZ,sS]
 refine tk_ 8 hHeld ?_
 try simp only [Act.put,sA,sZ,sS]
 refine on_ 4 (fun K1 hK1=>?_)
 go_simp
 go_at_call 103
 refine (H1.out _ (HX1.out.trans hHeld.1)).mono ?_
 rintro e w4 ⟨E,c1,rfl,hr4,ho4,hx4⟩
 have HR4:=Lib.hid hr4
 refine hK1.out _ _ (⟨hHeld.1.trans hx4,Ext.range_ hx4 hHeld.2.1,Ext.cell_ hx4 hHeld.2.2.1,Ext.cell_ hx4 hHeld.2.2.2⟩) (fun hHeld=>?_)
 clear hK1
 try simp only [Act.put,sA,sZ,sS]
 refine on_ 9 (fun K1 hK1=>?_)
 go_simp
 go_at_call 103
 refine (H2.out _ (HX1.out.trans hHeld.1)).mono ?_
 rintro e w5 ⟨F,c2,rfl,hr5,ho5,hx5⟩
 have hr4':=HR4.out.below hx5 (Nat.le_refl _)
 refine hK1.out _ _ (⟨hHeld.1.trans hx5,Ext.range_ hx5 hHeld.2.1,Ext.cell_ hx5 hHeld.2.2.1,Ext.cell_ hx5 hHeld.2.2.2⟩) (fun hHeld=>?_)
 clear hK1
 try simp only [Act.put,sA,sZ,sS]
 refine tk_ 10 hHeld ?_
 try simp only [Act.put,sA,sZ,sS]
 refine tk_ 11 hHeld ?_
 try simp only [Act.put,sA,sZ,sS]
 refine dn_ ?_
 have HH:=Lib.hid hHeld.1
 clear hHeld
 go_wp2
 go_ret2
 exact ⟨E,c1,F,c2,rfl,hr4',hr5,ho4,ho5,HX1.out.trans HH.out⟩
set_option maxRecDepth 512
theorem ref_around (A B C D:Option Addr) (c d a b:Nat) (neg:Bool) (r:Rec) (p:Pt) (w:World) (h:Both r p) (hpt:PtR w A B C D p) (hcap:CapR p c d a b) :
  Calls Tryz.prog 55 #[.agg (refLV A B C D c d a b r p).toArray,.bool neg] w fun e w'=>∃ E c1 F c2,e=.returned (.tuple #[.slice E (ahead (locOf r p) neg).length c1,.slice F (behind (locOf r p) neg).length c2])∧Row w' E (prtV (ahead (locOf r p) neg))∧Row w' F (prtV (behind (locOf r p) neg))∧Okc E c1∧Okc F c2∧Ext w w':=by
 cases neg
 ·exact ref_around_false A B C D c d a b r p w h hpt hcap
 ·exact ref_around_true A B C D c d a b r p w h hpt hcap
end Go.Proofs.YtcghgkagpkmpeaaGreatDoor.Loc
