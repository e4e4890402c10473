/- Blanks put in between clusters. Plain: no program. (Out of PaP6, PaP7.) -/
import Derived.Test.YtcghgkagpkmpeaaGreatDoorJPaW
set_option linter.unusedVariables false
set_option linter.unusedSimpArgs false
namespace Go.Proofs.YtcghgkagpkmpeaaGreatDoor.Loc
open Go.RowKit Utf All Small Strs Build EncC Pat Cls Dec Go.Proofs.YtcghgkagpkmpeaaGreatDoor.Sys
section
variable {r:Rec} {p:Pt}
theorem blanks_cl (h:Both r p) (ho:Outs r p) {d:Dr} (hd:DrOk d) {ts:List (List UInt8)} (ht:(ts.filter fun t=>decide (t ≠ [9]))=splitS (textI (itemsF (locOf r p) d))) (hl:ts.flatten.length≤4096) (hn:(atomsF d).length ≠ 0):clF (locOf r p) ts.flatten=.ok (d.neg,atomsF d):=by
 obtain ⟨lt,hr⟩:=blanks_clip h ho hd ht
 have:=cl_of hr hl
 rw [this,if_neg (fun hq=>hn hq.2)]
end
def tabAt (ones:List (List UInt8)) (i k:Int) (j:Nat):List (List UInt8):=(if (j:Int)=i∨(j:Int)=k then [[9]] else [])++(if j < ones.length then [ones.getD j []] else [])
def tabsTo (ones:List (List UInt8)) (i k:Int) (m:Nat):List (List UInt8):=(List.range m).flatMap (tabAt ones i k)
theorem tabs_succ (ones:List (List UInt8)) (i k:Int) (m:Nat):tabsTo ones i k (m+1)=tabsTo ones i k m++tabAt ones i k m:=by
 unfold tabsTo
 rw [List.range_succ,List.flatMap_append];simp
theorem tabs_flat (ones:List (List UInt8)) (i k:Int) (m:Nat):(tabsTo ones i k (m+1)).flatten=(tabsTo ones i k m).flatten++((if (m:Int)=i∨(m:Int)=k then [9] else [])++(if m < ones.length then ones.getD m [] else [])):=by
 rw [tabs_succ,List.flatten_append]
 congr 1
 unfold tabAt
 rw [List.flatten_append]
 congr 1
 ·split <;> simp
 ·split <;> simp
theorem tabs_filter {ones:List (List UInt8)} (h:∀ t ∈ ones,t ≠ [9]) (i k:Int):∀ m,(tabsTo ones i k m).filter (fun t=>decide (t ≠ [9]))=ones.take m
 | 0=>by simp [tabsTo]
 | m+1=>by
  rw [tabs_succ,List.filter_append,tabs_filter h i k m]
  unfold tabAt
  rw [List.filter_append]
  have e1:(if (m:Int)=i∨(m:Int)=k then ([[9]]:List (List UInt8)) else []).filter (fun t=>decide (t ≠ [9]))=[]:=by split <;> simp
  rw [e1,List.nil_append]
  by_cases hm:m < ones.length
  ·rw [if_pos hm,List.take_succ_eq_append_getElem hm]
   have hne:=h _ (List.getElem_mem hm)
   have e:ones.getD m []=ones[m]:=by rw [List.getD_eq_getElem?_getD,List.getElem?_eq_getElem hm];rfl
   rw [e,List.filter_cons,if_pos (by simpa using hne)];rfl
  ·rw [if_neg hm,List.take_of_length_le (show ones.length≤m by omega),List.take_of_length_le (show ones.length≤m+1 by omega)];simp
theorem tabs_len (ones:List (List UInt8)) (i k:Int):∀ m,(tabsTo ones i k m).flatten.length≤(ones.take m).flatten.length+m
 | 0=>by simp [tabsTo]
 | m+1=>by
  have ih:=tabs_len ones i k m
  rw [tabs_flat,List.length_append,List.length_append]
  have h1:(if (m:Int)=i∨(m:Int)=k then ([9]:List UInt8) else []).length≤1:=by split <;> simp
  by_cases hm:m < ones.length
  ·rw [if_pos hm,List.take_succ_eq_append_getElem hm,List.flatten_append,List.length_append]
   have e:ones.getD m []=ones[m]:=by rw [List.getD_eq_getElem?_getD,List.getElem?_eq_getElem hm];rfl
   rw [e]
   simp only [List.flatten_cons,List.flatten_nil,List.append_nil]
   omega
  ·rw [if_neg hm]
   rw [List.take_of_length_le (show ones.length≤m by omega)] at ih
   rw [List.take_of_length_le (show ones.length≤m+1 by omega)]
   simp only [List.length_nil]
   omega
theorem pln_no9 {s:List UInt8} (h:Pln s):∀ t ∈ splitS s,t ≠ [9]:=by
 rintro t ht rfl
 exact ctl_pln.1 (pln_unt h ht).pln.1
theorem tabs_cl {r:Rec} {p:Pt} (h:Both r p) (ho:Outs r p) {d:Dr} (hd:DrOk d) (hn:(atomsF d).length ≠ 0) (i k:Int) (hl:(textI (itemsF (locOf r p) d)).length≤2000) (hs:(splitS (textI (itemsF (locOf r p) d))).length≤2000) :
  clF (locOf r p) (tabsTo (splitS (textI (itemsF (locOf r p) d))) i k ((splitS (textI (itemsF (locOf r p) d))).length+1)).flatten=.ok (d.neg,atomsF d):=by
 obtain ⟨_,_,_,_,hp⟩:=shown_kinds h ho hd
 have hf:=tabs_filter (pln_no9 hp) i k ((splitS (textI (itemsF (locOf r p) d))).length+1)
 have hlen:=tabs_len (splitS (textI (itemsF (locOf r p) d))) i k ((splitS (textI (itemsF (locOf r p) d))).length+1)
 rw [List.take_of_length_le (by omega)] at hf hlen
 rw [split_join] at hlen
 exact blanks_cl h ho hd hf (by omega) hn
end Go.Proofs.YtcghgkagpkmpeaaGreatDoor.Loc
