/- Joined by wip/join.py: Loc9 Loc10 Loc12 Loc13. -/
import Derived.Test.YtcghgkagpkmpeaaGreatDoorJLocA
import Derived.Test.YtcghgkagpkmpeaaGreatDoorJPat4
import Derived.Deep.DeepCutAuto
import Derived.RegionTactic
import Derived.Test.YtcghgkagpkmpeaaGreatDoorJLocB
set_option linter.unusedVariables false
set_option linter.unusedSimpArgs false
set_option maxHeartbeats 8000000
namespace Go.Proofs.YtcghgkagpkmpeaaGreatDoor.Loc
open Go.RowKit Utf All Small Strs Build EncC Pat Cls
abbrev Prt:=Bool × List UInt8
def prV (p:Prt):List Value:=[.bool p.1,.string ⟨p.2.toArray⟩]
def prtV (l:List Prt):List Value:=l.flatMap prV
def oneP (l:Loc) (x:Pc):Prt:=(decide (x.1=3),txtL l [x])
def stepP (out:List Prt) (one:Prt):List Prt:=if one=(false,[]) then out else match out.getLast? with
 | some q=>if !one.1 && !q.1 then out.dropLast++[(false,q.2++one.2)] else out++[one]
 | none=>out++[one]
def partsF (l:Loc) (q:List Pc):List Prt:=q.foldl (fun out x=>stepP out (oneP l x)) []
theorem parts_snoc (l:Loc) {q:List Pc} {k:Nat} (h:k < q.length):partsF l (q.take (k+1))=stepP (partsF l (q.take k)) (oneP l q[k]):=by
 unfold partsF
 rw [List.take_succ_eq_append_getElem h,List.foldl_append];rfl
theorem prt_len (l:List Prt):(prtV l).length=l.length * 2:=flat_len prV 2 (fun _=>rfl) l
theorem prt_app (l m:List Prt):prtV (l++m)=prtV l++prtV m:=by unfold prtV;rw [List.flatMap_append]
theorem ei_prt:EI 107 157 2 24:=ei_of (z:=.agg #[.bool false,.string ⟨#[]⟩]) Tryz.underlying107 (by kernel_rfl) rfl (by decide)
theorem infoPc':(Tryz.prog.info? 181).map (·.size)=some 2:=by kernel_rfl
theorem infoPrt:(Tryz.prog.info? 157).map (·.size)=some 2:=by kernel_rfl
theorem step_len (out:List Prt) (one:Prt):(stepP out one).length≤out.length+1:=by
 unfold stepP
 split
 ·omega
 ·cases h:out.getLast? with
  | none=>simp
  | some q =>
   have hne:out ≠ []:=by rintro rfl;simp at h
   have:0 < out.length:=List.length_pos_iff.2 hne
   simp only []
   split
   ·simp <;> omega
   ·simp
theorem parts_len (l:Loc):∀ (q:List Pc),(partsF l q).length≤q.length:=by
 have key:∀ (q:List Pc) (out:List Prt),(q.foldl (fun out x=>stepP out (oneP l x)) out).length≤out.length+q.length:=by
  intro q
  induction q with
  | nil=>intro out;simp
  | cons x r ih =>
   intro out
   have h1:=ih (stepP out (oneP l x))
   have h2:=step_len out (oneP l x)
   simp only [List.foldl_cons,List.length_cons];omega
 intro q;simpa [partsF] using key q []
def totP (l:List Prt):Nat:=(l.map (·.2.length)).foldr (·+·) 0
theorem totP_app (l m:List Prt):totP (l++m)=totP l+totP m:=by
 unfold totP
 induction l with
 | nil=>simp
 | cons x r ih=>simp only [List.cons_append,List.map_cons,List.foldr_cons,ih];omega
theorem totP_mem {l:List Prt} {p:Prt} (h:p ∈ l):p.2.length≤totP l:=by
 induction l with
 | nil=>cases h
 | cons x r ih =>
  unfold totP
  simp only [List.map_cons,List.foldr_cons]
  rcases List.mem_cons.1 h with rfl | h
  ·omega
  ·have:=ih h;unfold totP at this;omega
theorem last_split {out:List Prt} {q:Prt} (h:out.getLast? = some q):out=out.dropLast++[q]:=by
 have hne:out ≠ []:=by rintro rfl;simp at h
 rw [List.getLast?_eq_some_getLast hne] at h
 cases h
 exact (List.dropLast_concat_getLast hne).symm
theorem step_tot (out:List Prt) (one:Prt):totP (stepP out one)≤totP out+one.2.length:=by
 unfold stepP
 split
 ·omega
 ·cases h:out.getLast? with
  | none=>simp only [];rw [totP_app];simp [totP]
  | some q =>
   simp only []
   split
   ·have hs:=last_split h
    have h1:totP out=totP out.dropLast+q.2.length:=by
     conv=>lhs;rw [hs]
     rw [totP_app];simp [totP]
    rw [totP_app,h1];simp [totP];omega
   ·rw [totP_app];simp [totP]
theorem txt_one (l:Loc) (hb:LocB l) (x:Pc) (hx:x.2.length≤1000):(txtL l [x]).length≤1000:=by
 unfold txtL resF
 have h1:=hb.cur
 have h2:=hb.per
 simp only [List.flatMap_cons,List.flatMap_nil,List.append_nil]
 repeat' split
 all_goals first | omega | simp
theorem parts_tot (l:Loc) (hb:LocB l):∀ (q:List Pc),(∀ x ∈ q,x.2.length≤1000)→totP (partsF l q)≤1000 * q.length:=by
 have key:∀ (q:List Pc) (out:List Prt),(∀ x ∈ q,x.2.length≤1000)→totP (q.foldl (fun out x=>stepP out (oneP l x)) out)≤totP out+1000 * q.length:=by
  intro q
  induction q with
  | nil=>intro out _;simp
  | cons x r ih =>
   intro out hx
   have h1:=ih (stepP out (oneP l x)) (fun y hy=>hx y (List.mem_cons_of_mem _ hy))
   have h2:=step_tot out (oneP l x)
   have h3:=txt_one l hb x (hx x List.mem_cons_self)
   have h4:(oneP l x).2.length≤1000:=h3
   simp only [List.foldl_cons,List.length_cons];omega
 intro q hx
 have:=key q [] hx
 simpa [partsF,totP] using this
theorem prStruct:Tryz.prog.underlying 157=some (.struct (Tryz.prog.fieldsOf 157)):=by kernel_rfl
theorem prHeld:Tryz.prog.stoodInHeld 157=false:=by kernel_rfl
theorem prGuard:Tryz.prog.eqGuardType Tryz.prog.depth 157=false:=by kernel_rfl
theorem eq_pr (x y:Prt) (w:World):(binOp .eql 157 (.agg #[.bool x.1,.string ⟨x.2.toArray⟩]) (.agg #[.bool y.1,.string ⟨y.2.toArray⟩])).run Tryz.prog w=.ok (.bool (decide (x=y))) w:=by
 have u3:=Tryz.underlying4
 have a3:=Tryz.isAgg4
 have z3:=Tryz.sizeOf4
 have u9:=Tryz.underlying9
 have a9:=Tryz.isAgg9
 have z9:=Tryz.sizeOf9
 obtain ⟨k,t⟩:=x
 obtain ⟨j,u⟩:=y
 rw [run_eql_struct,show (10000:Nat)=9999+1 from rfl,run_equalIn_agg w 9999 157 _ _ prStruct prHeld]
 simp only [Program.fieldsOf,Tryz.underlying157]
 have hb:=beq_strL ⟨t.toArray⟩ ⟨u.toArray⟩
 have hd:(⟨t.toArray⟩:ByteArray).data.toList=t:=rfl
 have hd2:(⟨u.toArray⟩:ByteArray).data.toList=u:=rfl
 rw [hd,hd2] at hb
 go_simp
 by_cases h1:k=j <;> by_cases h2:t=u <;> simp [h1,h2,hb]
theorem fresh_two {w w4:World} {O:Obj} {T:TypeId} {cs:List Value} (hx:Ext ((w.alloc O).alloc (.cells cs.toArray T)).drew w4):Box w4 (w.heap.size+1) T cs:=Box.ext (Box.drew (Box.newN (w:=w.alloc O) (by simp))) hx
theorem fresh_one {w w4:World} {O:Obj} {T:TypeId} {cs:List Value} (hx:Ext ((w.alloc (.cells cs.toArray T)).alloc O).drew w4):Box w4 w.heap.size T cs:=Box.ext (Box.drew (Box.alloc (Box.new w T cs) O)) hx
theorem row_two {w:World} {O:Obj} {T:TypeId} {cs:List Value}:Row ((w.alloc O).alloc (.cells cs.toArray T)).drew (some ⟨w.heap.size+1,0,none⟩) cs:=Box.row (Box.drew (Box.newN (w:=w.alloc O) (by simp)))
theorem row_one {w:World} {O:Obj} {T:TypeId} {cs:List Value}:Row ((w.alloc (.cells cs.toArray T)).alloc O).drew (some ⟨w.heap.size,0,none⟩) cs:=Box.row (Box.drew (Box.alloc (Box.new w T cs) O))
theorem row_zero {w:World} {T:TypeId} {cs:List Value}:Row (w.alloc (.cells cs.toArray T)).drew (some ⟨w.heap.size,0,none⟩) cs:=Box.row (Box.drew (Box.new w T cs))
theorem rowx_zero (w:World) (x:Pc):Row (w.alloc (Obj.cells #[.int .i64 x.1,.string ⟨x.2.toArray⟩] 181)).drew (some ⟨w.heap.size,0,none⟩) (pcsV [x]):=by
 have h:=row_zero (w:=w) (T:=181) (cs:=pcsV [x])
 exact h
theorem rowx_one (w:World) (x:Pc) (O:Obj):Row ((w.alloc (Obj.cells #[.int .i64 x.1,.string ⟨x.2.toArray⟩] 181)).alloc O).drew (some ⟨w.heap.size,0,none⟩) (pcsV [x]):=by
 have h:=row_one (w:=w) (O:=O) (T:=181) (cs:=pcsV [x])
 exact h
theorem rowx_two (w:World) (x:Pc) (O:Obj):Row ((w.alloc O).alloc (Obj.cells #[.int .i64 x.1,.string ⟨x.2.toArray⟩] 181)).drew (some ⟨w.heap.size+1,0,none⟩) (pcsV [x]):=by
 have h:=row_two (w:=w) (O:=O) (T:=181) (cs:=pcsV [x])
 exact h
theorem freshx_two {w w4:World} {O:Obj} (hx:Ext ((w.alloc O).alloc (Obj.cells #[.bool false,.string ⟨#[]⟩] 157)).drew w4):Box w4 (w.heap.size+1) 157 [.bool false,.string ⟨#[]⟩]:=fresh_two (cs:=[.bool false,.string ⟨#[]⟩]) hx
theorem freshx_one {w w4:World} {O:Obj} (hx:Ext ((w.alloc (Obj.cells #[.bool false,.string ⟨#[]⟩] 157)).alloc O).drew w4):Box w4 w.heap.size 157 [.bool false,.string ⟨#[]⟩]:=fresh_one (cs:=[.bool false,.string ⟨#[]⟩]) hx
theorem freshx_cells {w:World} {b:Nat} (h:Box w b 157 [.bool false,.string ⟨#[]⟩]):w.cell? ⟨b,0,none⟩=some (.bool false)∧w.cell? ⟨b,1,none⟩=some (.string ⟨#[]⟩)∧w.frozen? ⟨b,0,none⟩=false∧w.frozen? ⟨b,1,none⟩=false:=⟨h.cell (j:=0) rfl,h.cell (j:=1) rfl,h.frozen 0,h.frozen 1⟩
theorem Acc.stored {e sz:Nat} {w0 w:World} {g c n:Nat} {cs:List Value} (h:Acc e sz w0 w (some ⟨g,0,none⟩) c n cs) (j:Nat) (u:Value):Acc e sz w0 (w.setCell ⟨g,j,none⟩ u) (some ⟨g,0,none⟩) c n (cs.set j u) :=
 ⟨(h.own.stored j u).1,h.ext.grown (h.own.stored j u).2 h.ext.size (fun k hk=>by injection hk with hk;subst hk;exact (h.own.lt g rfl).1)⟩
theorem prt_set {init:List Prt} {s:Bool} {t u:List UInt8} {m:Nat} (hm:init.length=m):(prtV (init++[(s,t)])).set (m * 2+1) (.string ⟨u.toArray⟩)=prtV (init++[(s,u)]):=by
 have hl:=prt_len init
 rw [prt_app,prt_app,List.set_append_right _ _ (by omega),hl,hm,Nat.add_sub_cancel_left]
 rfl
set_option maxRecDepth 100000
theorem parts_ (g:Nat) (A B C D X:Option Addr) (c d a b' n k0:Nat) (q:List Pc) (l:Loc) (w:World) (h:LocR w g A B C D c d a b' l) (hb:LocB l) (hX:Row w X (pcsV q)) (hq:q.length=n) (hl:n≤1000) (ht:∀ p ∈ q,p.2.length≤1000) :
  Calls Tryz.prog 90 #[.pointer (some ⟨g,0,none⟩),.slice X n k0] w fun e w'=>∃ E c',e=.returned (.slice E (partsF l q).length c')∧Row w' E (prtV (partsF l q))∧Okc E c'∧Ext w w':=by
 have HT:=Lib.hid ht
 have HLB:=Lib.hid hb
 have HLR:=Lib.hid h
 have HXR:=Lib.hid hX
 have HQ:=Lib.hid hq
 have HALL:Hid (partsF l (q.take n)=partsF l q):=Lib.hid (by rw [List.take_of_length_le (by omega)])
 clear ht hb h hX
 go_enter Tryz.func90,Tryz.ntmps90
 go_wp2
 go_loopw [5,12] (fun v i wr=>∃ (k:Nat) (E:Option Addr) (c':Nat),k≤n∧i=.int .i64 k∧v=.slice E (partsF l (q.take k)).length c'∧Acc 157 2 w wr E c' (partsF l (q.take k)).length (prtV (partsF l (q.take k)))) (fun _ i _=>n - (intOf i).toNat)
 case atStart=>exact ⟨0,none,0,Nat.zero_le _,rfl,rfl,Acc.start _ _ _⟩
 case round =>
  obtain ⟨k,E,c',hk,rfl,rfl,hacc⟩:=hrel
  by_cases hlt:k < n
  ·have hkq:k < q.length:=by have:=HQ.out;omega
   have HS:=Lib.hid (parts_snoc l hkq)
   obtain ⟨bx,ox,rfl,hc1,hc2⟩:=row_pc (HXR.out.below hacc.ext (Nat.le_refl _)) hkq
   have HRG:=Lib.hid (pc_range hc1 hc2)
   have hmx:=HT.out _ (List.getElem_mem hkq)
   have HXT:Hid (oneP l q[k]=(decide (q[k].1=3),txtL l [q[k]])):=Lib.hid rfl
   have HTL:=Lib.hid (txt_one l HLB.out q[k] hmx)
   have hpl:=parts_len l (q.take k)
   have hpt:=parts_tot l HLB.out (q.take k) (fun x hx=>HT.out x (List.mem_of_mem_take hx))
   have hlk:(q.take k).length=k:=by simp;omega
   rw [hlk] at hpl hpt
   clear hc1 hc2 hlk
   have HA:=Lib.hid hacc
   generalize partsF l (q.take k)=out at *
   generalize q[k]=x at *
   have hp7:=Box.new wr 181 [.int .i64 x.1,.string ⟨x.2.toArray⟩]
   have hx7:Ext wr (wr.alloc (.cells ([.int .i64 x.1,.string ⟨x.2.toArray⟩]:List Value).toArray 181)):=Ext.alloc_ (Ext.refl _) _
   go_upto_region 5 with (first
    | (refine wpList_load_mid rfl 181 (.tmp 14) rfl bx (ox+k * 2) rfl [.int .i64 x.1,.string ⟨x.2.toArray⟩] _ HRG.out Tryz.underlying181 rfl infoPc' ?_)
    | (refine wpList_store_fresh rfl 181 (.tmp 7) (.tmp 15) rfl ([.int .i64 x.1,.string ⟨x.2.toArray⟩]:List Value).toArray 181 _ rfl rfl infoPc' rfl (by simp [Value.oneCell']) ?_))
   generalize wr.alloc (.cells ([.int .i64 x.1,.string ⟨x.2.toArray⟩]:List Value).toArray 181)=w7 at *
   have c0:=hp7.cell (j:=0) (v:=.int .i64 x.1) rfl
   have c1:=hp7.cell (j:=1) (v:=.string ⟨x.2.toArray⟩) rfl
   have HX7:=Lib.hid hx7
   have HTX:Hid (∀ W b,Ext w7 W→Row W (some ⟨b,0,none⟩) (pcsV [x])→Calls Tryz.prog 143 #[.pointer (some ⟨g,0,none⟩),.slice (some ⟨b,0,none⟩) 1 1] W fun e w'=>e=.returned (.string ⟨(txtL l [x]).toArray⟩)∧Ext W w'):=Lib.hid fun W b hW hr=>by
    have hxw:Ext w W:=Ext.trans (Ext.trans HA.out.ext HX7.out) hW
    exact text_l g A B C D (some ⟨b,0,none⟩) c d a b' 1 1 [x] l W (HLR.out.ext hxw) HLB.out hr rfl (by decide) (by simpa using hmx)
   clear hp7 hx7
   generalize hz7:wr.heap.size=p7 at *
   generalize (txtL l [x])=tx at *
   simp only [Act.put,List.setIfInBounds_toArray,List.set_cons_zero,List.set_cons_succ]
   go_cut [8] (fun v wx=>∃ p8,v=.pointer (some ⟨p8,0,none⟩)∧Box wx p8 157 [.bool (x.1 == 3),.string ⟨tx.toArray⟩]∧Ext w7 wx)
   case first =>
    go_region_held3 (fun W=>Ext w7 W∧W.cell? ⟨p7,0,none⟩=some (.int .i64 x.1)∧W.cell? ⟨p7,1,none⟩=some (.string ⟨x.2.toArray⟩))
     ((refine (fun h=>⟨h,Ext.cell_ h c0,Ext.cell_ h c1⟩) ?_;first
      | with_reducible assumption
      | with_reducible exact Ext.drew_ (Ext.refl _)
      | with_reducible exact Ext.drew_ (Ext.alloc_ (Ext.refl _) _)
      | with_reducible exact Ext.drew_ (Ext.alloc_ (Ext.alloc_ (Ext.refl _) _) _)
      | with_reducible exact Ext.alloc_ (by assumption) _
      | exact Ext.setCell_ (Ext.setCell_ hE4 hsz _ _) hsz _ _
      | exact Ext.setCell_ (Ext.setCell_ (Ext.alloc_ hE4 _) hE4.size _ _) hE4.size _ _))
     (first
      | (go_at_call 143;with_reducible refine (HTX.out ((w7.alloc (Obj.cells #[.int .i64 x.1,.string ⟨x.2.toArray⟩] 181)).alloc (Obj.cells #[.bool false,.string ⟨#[]⟩] 157)).drew w7.heap.size (Ext.drew_ (Ext.alloc_ (Ext.alloc_ (Ext.refl _) _) _)) ?_).mono ?_;exact rowx_one w7 x _;rintro e w4 ⟨rfl,hx4⟩;have hE4:=(Ext.drew_ (Ext.alloc_ (Ext.alloc_ (Ext.refl w7) (Obj.cells #[.int .i64 x.1,.string ⟨x.2.toArray⟩] 181)) (Obj.cells #[.bool false,.string ⟨#[]⟩] 157))).trans hx4;have hz:=freshx_two hx4;obtain ⟨z0,z1,f0,f1⟩:=freshx_cells hz;have hsz:w7.heap.size≤w7.heap.size+1:=Nat.le_succ _)
      | (go_at_call 143;with_reducible refine (HTX.out (w7.alloc (Obj.cells #[.int .i64 x.1,.string ⟨x.2.toArray⟩] 181)).drew w7.heap.size (Ext.drew_ (Ext.alloc_ (Ext.refl _) _)) ?_).mono ?_;exact rowx_zero w7 x;rintro e w4 ⟨rfl,hx4⟩;have hE4:=(Ext.drew_ (Ext.alloc_ (Ext.refl w7) (Obj.cells #[.int .i64 x.1,.string ⟨x.2.toArray⟩] 181))).trans hx4)
      | (go_at_call 143;with_reducible refine (HTX.out ((w7.alloc (Obj.cells #[.bool false,.string ⟨#[]⟩] 157)).alloc (Obj.cells #[.int .i64 x.1,.string ⟨x.2.toArray⟩] 181)).drew (w7.heap.size+1) (Ext.drew_ (Ext.alloc_ (Ext.alloc_ (Ext.refl _) _) _)) ?_).mono ?_;exact rowx_two w7 x _;rintro e w4 ⟨rfl,hx4⟩;have hE4:=(Ext.drew_ (Ext.alloc_ (Ext.alloc_ (Ext.refl w7) (Obj.cells #[.bool false,.string ⟨#[]⟩] 157)) (Obj.cells #[.int .i64 x.1,.string ⟨x.2.toArray⟩] 181))).trans hx4;have hz:=freshx_one hx4;obtain ⟨z0,z1,f0,f1⟩:=freshx_cells hz;have hsz:w7.heap.size≤w7.heap.size:=Nat.le_refl _))
    all_goals go_wp2_with fail
    all_goals go_meet
    ·exact ⟨_,rfl,Box.new w4 157 [.bool (x.1 == 3),.string ⟨tx.toArray⟩],Ext.alloc_ hE4 _⟩
    ·exact ⟨_,rfl,(hz.setCell 0 (.bool (x.1 == 3))).setCell 1 (.string ⟨tx.toArray⟩),Ext.setCell_ (Ext.setCell_ hE4 hsz _ _) hsz _ _⟩
    ·exact ⟨_,rfl,(hz.setCell 0 (.bool (x.1 == 3))).setCell 1 (.string ⟨tx.toArray⟩),Ext.setCell_ (Ext.setCell_ hE4 hsz _ _) hsz _ _⟩
   case rest =>
    obtain ⟨p8,rfl,hb8,hx8⟩:=hcut
    have hA8:=HA.out.step (Ext.trans HX7.out hx8)
    have HA8:=Lib.hid hA8
    have HB8:=Lib.hid hb8
    have hbx:(x.1 == 3)=decide (x.1=3):=rfl
    clear hA8 hx8 hacc HTX c0 c1 HA HX7
    have s0:=hb8.cell (j:=0) (v:=.bool (x.1 == 3)) rfl
    have s1:=hb8.cell (j:=1) (v:=.string ⟨tx.toArray⟩) rfl
    clear hb8
    have hgd:∀ (x y:Prt) (o1 o2:Operand) (w:World),(eqGuard .eql 157 o1 o2 (.agg #[.bool x.1,.string ⟨x.2.toArray⟩]) (.agg #[.bool y.1,.string ⟨y.2.toArray⟩])).run Tryz.prog w=.ok () w:=fun _ _ _ _ w=>run_eqGuard_agg w .eql 157 _ _ _ _ prGuard
    have hgd0:=fun o1 o2 w=>hgd (x.1 == 3,tx) (false,[]) o1 o2 w
    have hnp:=fun w=>eq_pr (x.1 == 3,tx) (false,[]) w
    have HS2:Hid (partsF l (q.take (k+1))=stepP out (x.1 == 3,tx)):=Lib.hid (by rw [HS.out,HXT.out];rfl)
    clear hgd HS HXT hbx
    generalize (x.1 == 3)=sg at *
    simp only at hgd0 hnp
    by_cases he:sg=false∧tx=[]
    ·obtain ⟨rfl,rfl⟩:=he
     have HST:Hid (partsF l (q.take (k+1))=out):=Lib.hid (by rw [HS2.out];unfold stepP;rw [if_pos rfl])
     clear HS2
     go_wp2_with fail
     exact ⟨⟨k+1,E,c',by omega,by go_num,by rw [HST.out],by rw [HST.out];exact HA8.out⟩,by simp [intOf];omega⟩
    ·have hdf:decide (((sg,tx):Prt)=(false,[]))=false:=by
      rw [decide_eq_false_iff_not]
      intro e;injection e with e1 e2;exact he ⟨e1,e2⟩
     have hne':¬ ((sg,tx):Prt)=(false,[]):=by simpa using hdf
     rw [hdf] at hnp
     clear hdf he
     cases hg:out.getLast? with
     | none =>
      have hz:out=[]:=List.getLast?_eq_none_iff.1 hg
      have HST:Hid (partsF l (q.take (k+1))=out++[(sg,tx)]):=Lib.hid (by rw [HS2.out];unfold stepP;rw [if_neg hne',hg])
      have hlen:(out.length:Int)=0:=by rw [hz];rfl
      have w0:IntKind.i64.wrap ((out.length:Int) - 1)=-1:=by rw [hlen];decide
      clear HS2 hne' hg hz hlen
      go_wp2_with (at_builtin;refine wp_app ei_prt rfl (.tmp 27) (.tmp 29) rfl w _ E c' out.length _ rfl HA8.out [.bool sg,.string ⟨tx.toArray⟩] 1 1 rfl rfl (by simp [Value.oneCell']) (by omega) (by unfold maxLen;omega) ?_;intro A1 c1 w5 hA5 _ _)
      exact ⟨⟨k+1,A1,c1,by omega,by go_num,by rw [HST.out,List.length_append];rfl,by rw [HST.out,List.length_append,prt_app];exact hA5⟩,by simp [intOf];omega⟩
     | some p =>
      have hsp:=last_split hg
      have HST0:Hid (partsF l (q.take (k+1))=if !sg && !p.1 then out.dropLast++[(false,p.2++tx)] else out++[(sg,tx)]):=Lib.hid (by rw [HS2.out];unfold stepP;rw [if_neg hne',hg])
      have hpt2:p.2.length≤totP out:=totP_mem (by rw [hsp];simp)
      have hm:out.length=out.dropLast.length+1:=by have h:=congrArg List.length hsp;rw [List.length_append] at h;exact h
      have hcl:(prtV out)[out.dropLast.length * 2]? = some (.bool p.1)∧(prtV out)[out.dropLast.length * 2+1]? = some (.string ⟨p.2.toArray⟩):=by
       have hl:=prt_len out.dropLast
       have hpo:prtV out=prtV out.dropLast++prtV [p]:=by rw [← prt_app,← hsp]
       rw [hpo]
       constructor
       ·rw [List.getElem?_append_right (by omega),hl,Nat.sub_self];rfl
       ·rw [List.getElem?_append_right (by omega),hl,Nat.add_sub_cancel_left];rfl
      obtain ⟨e,cap,hee,hbe⟩:∃ e cap,Value.slice E out.length c'=.slice (some ⟨e,0,none⟩) out.length cap∧w.heap.size≤e:=by
       rcases HA8.out.own.2 with ⟨_,h0⟩ | ⟨e,cap,cur,hee,hbe,_⟩
       ·omega
       ·exact ⟨e,cap,hee,hbe⟩
      injection hee with he1 _ _
      subst he1
      have r0:=HA8.out.row.cell00 hcl.1
      have r1:=HA8.out.row.cell00 hcl.2
      clear HS2 hne' hg hcl
      have HSP:=Lib.hid hsp
      have HM:=Lib.hid hm
      generalize hmm:out.dropLast.length=m at *
      have HMM:=Lib.hid hmm
      have w0:IntKind.i64.wrap ((out.length:Int) - 1)=(m:Int):=by rw [IntKind.wrap_i64];omega
      have w1:(0:Int)≤(m:Int):=by omega
      have w2:(m:Int) < (out.length:Int):=by omega
      clear hsp hm hmm
      obtain ⟨ps,pt⟩:=p
      simp only at r0 r1 hpt2
      cases sg
      ·cases ps
       ·have HST:Hid (partsF l (q.take (k+1))=out.dropLast++[(false,pt++tx)]):=Lib.hid (by rw [HST0.out];rfl)
        have fz:=HA8.out.own.frozenAt (m * 2+1)
        have htl:=HTL.out
        have q1:(9223372036854775807 < pt.length+tx.length)=False:=eq_false (by omega)
        have hap:=app_mk pt tx
        go_upto_region 10 with fail
        go_region
        all_goals go_wp2_with fail
        all_goals
         have h:=(Acc.stored HA8.out (m * 2+1) (.string ⟨(pt++tx).toArray⟩)).drew
         have hps:prtV out=prtV (out.dropLast++[(false,pt)]):=congrArg prtV HSP.out
         rw [hps,prt_set HMM.out] at h
         have hn:(out.dropLast++[((false,pt++tx):Prt)]).length=out.length:=by rw [List.length_append,HMM.out,HM.out];rfl
         exact ⟨⟨k+1,some ⟨e,0,none⟩,c',by omega,by go_num,by rw [HST.out,hn],by rw [HST.out,hn];exact h⟩,by simp [intOf];omega⟩
       ·have HST:Hid (partsF l (q.take (k+1))=out++[(false,tx)]):=Lib.hid (by rw [HST0.out];rfl)
        clear HST0
        go_wp2_with (at_builtin;refine wp_app ei_prt rfl (.tmp 27) (.tmp 29) rfl w _ (some ⟨e,0,none⟩) c' out.length _ rfl HA8.out [.bool false,.string ⟨tx.toArray⟩] 1 1 rfl rfl (by simp [Value.oneCell']) (by omega) (by unfold maxLen;omega) ?_;intro A1 c1 w5 hA5 _ _)
        exact ⟨⟨k+1,A1,c1,by omega,by go_num,by rw [HST.out,List.length_append];rfl,by rw [HST.out,List.length_append,prt_app];exact hA5⟩,by simp [intOf];omega⟩
      ·have HST:Hid (partsF l (q.take (k+1))=out++[(true,tx)]):=Lib.hid (by rw [HST0.out];rfl)
       clear HST0
       go_wp2_with (at_builtin;refine wp_app ei_prt rfl (.tmp 27) (.tmp 29) rfl w _ (some ⟨e,0,none⟩) c' out.length _ rfl HA8.out [.bool true,.string ⟨tx.toArray⟩] 1 1 rfl rfl (by simp [Value.oneCell']) (by omega) (by unfold maxLen;omega) ?_;intro A1 c1 w5 hA5 _ _)
       exact ⟨⟨k+1,A1,c1,by omega,by go_num,by rw [HST.out,List.length_append];rfl,by rw [HST.out,List.length_append,prt_app];exact hA5⟩,by simp [intOf];omega⟩
  ·have e:k=n:=by omega
   subst e
   rw [HALL.out] at hacc
   go_wp2
   go_ret
   exact ⟨E,c',by rw [HALL.out];rfl,hacc.row,Acc.okc hacc,hacc.ext⟩
set_option maxRecDepth 512
def ahead (l:Loc) (neg:Bool):List Prt:=partsF l (if neg then l.p.npre else l.p.pre)
def behind (l:Loc) (neg:Bool):List Prt:=partsF l (if neg then l.p.nsuf else l.p.suf)
set_option maxRecDepth 100000
theorem around_true (g:Nat) (A B C D:Option Addr) (c d a b:Nat) (l:Loc) (w:World) (h:LocR w g A B C D c d a b l) (hb:LocB l) :
  Calls Tryz.prog 46 #[.pointer (some ⟨g,0,none⟩),.bool true] w fun e w'=>∃ E c1 F c2,e=.returned (.tuple #[.slice E (ahead l true).length c1,.slice F (behind l true).length c2])∧Row w' E (prtV (ahead l true))∧Row w' F (prtV (behind l true))∧Okc E c1∧Okc F c2∧Ext w w':=by
 have k1:=h.cell (j:=10) (v:=.slice C l.p.npre.length a) rfl
 have k2:=h.cell (j:=11) (v:=.slice D l.p.nsuf.length b) rfl
 have H1:Hid (∀ W,Ext w W→Calls Tryz.prog 90 #[.pointer (some ⟨g,0,none⟩),.slice C l.p.npre.length a] W fun e w'=>∃ E c',e=.returned (.slice E (ahead l true).length c')∧Row w' E (prtV (ahead l true))∧Okc E c'∧Ext W w'):=Lib.hid fun W hW =>
  parts_ g A B C D C c d a b _ a l.p.npre l W (h.ext hW) hb (h.ext hW).pt.2.2.1 rfl (hb.len _ (by simp [affs])) (hb.txt _ (by simp [affs]))
 have H2:Hid (∀ W,Ext w W→Calls Tryz.prog 90 #[.pointer (some ⟨g,0,none⟩),.slice D l.p.nsuf.length b] W fun e w'=>∃ E c',e=.returned (.slice E (behind l true).length c')∧Row w' E (prtV (behind l true))∧Okc E c'∧Ext W w'):=Lib.hid fun W hW =>
  parts_ g A B C D D c d a b _ b l.p.nsuf l W (h.ext hW) hb (h.ext hW).pt.2.2.2 rfl (hb.len _ (by simp [affs])) (hb.txt _ (by simp [affs]))
 clear h hb
 generalize l.p.npre.length=n1 at *
 generalize l.p.nsuf.length=n2 at *
 have HA1:Hid (ahead l true=ahead l true):=Lib.hid rfl
 generalize ha:ahead l true=L1 at *
 generalize hb:behind l true=L2 at *
 have HA:=Lib.hid ha
 have HB:=Lib.hid hb
 clear ha hb
 go_enter Tryz.func46,Tryz.ntmps46
 go_wp2
 go_region_held3 (fun W=>Ext w W∧W.cell? ⟨g,10,none⟩=some (.slice C n1 a)∧W.cell? ⟨g,11,none⟩=some (.slice D n2 b))
  ((refine (fun h=>⟨h,Ext.cell_ h k1,Ext.cell_ h k2⟩) ?_;first | with_reducible assumption | with_reducible exact Ext.drew_ (Ext.refl _) | with_reducible exact Ext.drew_ (by assumption)))
  (first
   | (go_at_call 90;with_reducible refine (H1.out _ ?_).mono ?_;(first | with_reducible assumption | exact Ext.drew_ (Ext.refl _));rintro e w4 ⟨E,c1,rfl,hr4,ho4,hx4⟩;have hE4:=(Ext.drew_ (Ext.refl w)).trans hx4)
   | (go_at_call 90;with_reducible refine (H2.out _ ?_).mono ?_;with_reducible assumption;rintro e w5 ⟨F,c2,rfl,hr5,ho5,hx5⟩;have hE5:=hE4.trans hx5))
 all_goals go_wp2_with fail
 all_goals go_ret2
 all_goals exact ⟨E,c1,F,c2,rfl,hr4.below hx5 (Nat.le_refl _),hr5,ho4,ho5,hE5⟩
theorem around_false (g:Nat) (A B C D:Option Addr) (c d a b:Nat) (l:Loc) (w:World) (h:LocR w g A B C D c d a b l) (hb:LocB l) :
  Calls Tryz.prog 46 #[.pointer (some ⟨g,0,none⟩),.bool false] w fun e w'=>∃ E c1 F c2,e=.returned (.tuple #[.slice E (ahead l false).length c1,.slice F (behind l false).length c2])∧Row w' E (prtV (ahead l false))∧Row w' F (prtV (behind l false))∧Okc E c1∧Okc F c2∧Ext w w':=by
 have k1:=h.cell (j:=8) (v:=.slice A l.p.pre.length c) rfl
 have k2:=h.cell (j:=9) (v:=.slice B l.p.suf.length d) rfl
 have H1:Hid (∀ W,Ext w W→Calls Tryz.prog 90 #[.pointer (some ⟨g,0,none⟩),.slice A l.p.pre.length c] W fun e w'=>∃ E c',e=.returned (.slice E (ahead l false).length c')∧Row w' E (prtV (ahead l false))∧Okc E c'∧Ext W w'):=Lib.hid fun W hW =>
  parts_ g A B C D A c d a b _ c l.p.pre l W (h.ext hW) hb (h.ext hW).pt.1 rfl (hb.len _ (by simp [affs])) (hb.txt _ (by simp [affs]))
 have H2:Hid (∀ W,Ext w W→Calls Tryz.prog 90 #[.pointer (some ⟨g,0,none⟩),.slice B l.p.suf.length d] W fun e w'=>∃ E c',e=.returned (.slice E (behind l false).length c')∧Row w' E (prtV (behind l false))∧Okc E c'∧Ext W w'):=Lib.hid fun W hW =>
  parts_ g A B C D B c d a b _ d l.p.suf l W (h.ext hW) hb (h.ext hW).pt.2.1 rfl (hb.len _ (by simp [affs])) (hb.txt _ (by simp [affs]))
 clear h hb
 generalize l.p.pre.length=n1 at *
 generalize l.p.suf.length=n2 at *
 have HA1:Hid (ahead l false=ahead l false):=Lib.hid rfl
 generalize ha:ahead l false=L1 at *
 generalize hb:behind l false=L2 at *
 have HA:=Lib.hid ha
 have HB:=Lib.hid hb
 clear ha hb
 go_enter Tryz.func46,Tryz.ntmps46
 go_wp2
 go_region_held3 (fun W=>Ext w W∧W.cell? ⟨g,8,none⟩=some (.slice A n1 c)∧W.cell? ⟨g,9,none⟩=some (.slice B n2 d))
  ((refine (fun h=>⟨h,Ext.cell_ h k1,Ext.cell_ h k2⟩) ?_;first | with_reducible assumption | with_reducible exact Ext.drew_ (Ext.refl _) | with_reducible exact Ext.drew_ (by assumption)))
  (first
   | (go_at_call 90;with_reducible refine (H1.out _ ?_).mono ?_;(first | with_reducible assumption | exact Ext.drew_ (Ext.refl _));rintro e w4 ⟨E,c1,rfl,hr4,ho4,hx4⟩;have hE4:=(Ext.drew_ (Ext.refl w)).trans hx4)
   | (go_at_call 90;with_reducible refine (H2.out _ ?_).mono ?_;with_reducible assumption;rintro e w5 ⟨F,c2,rfl,hr5,ho5,hx5⟩;have hE5:=hE4.trans hx5))
 all_goals go_wp2_with fail
 all_goals go_ret2
 all_goals exact ⟨E,c1,F,c2,rfl,hr4.below hx5 (Nat.le_refl _),hr5,ho4,ho5,hE5⟩
set_option maxRecDepth 512
theorem around_l (g:Nat) (A B C D:Option Addr) (c d a b:Nat) (neg:Bool) (l:Loc) (w:World) (h:LocR w g A B C D c d a b l) (hb:LocB l) :
  Calls Tryz.prog 46 #[.pointer (some ⟨g,0,none⟩),.bool neg] w fun e w'=>∃ E c1 F c2,e=.returned (.tuple #[.slice E (ahead l neg).length c1,.slice F (behind l neg).length c2])∧Row w' E (prtV (ahead l neg))∧Row w' F (prtV (behind l neg))∧Okc E c1∧Okc F c2∧Ext w w':=by
 cases neg
 ·exact around_false g A B C D c d a b l w h hb
 ·exact around_true g A B C D c d a b l w h hb
theorem sizes_l (g:Nat) (A B C D:Option Addr) (c d a b:Nat) (l:Loc) (w:World) (h:LocR w g A B C D c d a b l) :
  Calls Tryz.prog 94 #[.pointer (some ⟨g,0,none⟩)] w fun e w'=>e=.returned (.tuple #[.int .i64 l.p.num.prim,.int .i64 l.p.num.sec])∧Ext w w':=by
 have k12:=h.cell (j:=12) (v:=.int .i64 l.p.num.prim) rfl
 have k13:=h.cell (j:=13) (v:=.int .i64 l.p.num.sec) rfl
 go_enter Tryz.func94,Tryz.ntmps94
 go_wp2
 first
  | (go_ret2;exact ⟨rfl,Ext.refl _⟩)
  | (
    go_region_held3 (fun W=>W.cell? ⟨g,12,none⟩=some (.int .i64 l.p.num.prim)∧W.cell? ⟨g,13,none⟩=some (.int .i64 l.p.num.sec)) (first | exact ⟨k12,k13⟩ | assumption) (fail)
    all_goals go_wp2
    all_goals go_ret2
    all_goals exact ⟨rfl,Ext.drew_ (Ext.refl _)⟩)
open Go.RowKit Utf All Small Strs Build EncC Pat Cls Dec Go.Proofs.YtcghgkagpkmpeaaGreatDoor.Sys
end Go.Proofs.YtcghgkagpkmpeaaGreatDoor.Loc
