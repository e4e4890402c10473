/- A draft's number, plain laws: noughts taken off ahead and behind. No program. -/
import Derived.Test.YtcghgkagpkmpeaaGreatDoorRows
set_option linter.unusedVariables false
set_option linter.unusedSimpArgs false
namespace Go.Proofs.YtcghgkagpkmpeaaGreatDoor.Loc
def zerosF:List Int→Nat
 | []=>0
 | x :: l=>if x=0 then zerosF l+1 else 0
theorem zerosF_le:∀ l:List Int,zerosF l≤l.length
 | []=>Nat.le_refl _
 | x :: l=>by
  have:=zerosF_le l
  unfold zerosF
  rw [List.length_cons]
  split <;> omega
theorem zerosF_lt:∀ (l:List Int) (i:Nat),i < zerosF l→l.getD i 0=0
 | [],i,h=>by cases h
 | x :: l,i,h=>by
  unfold zerosF at h
  split at h
  ·rename_i hx
   cases i with
   | zero=>rw [hx];rfl
   | succ i=>exact zerosF_lt l i (by omega)
  ·omega
theorem zerosF_at:∀ (l:List Int),zerosF l < l.length→l.getD (zerosF l) 0 ≠ 0
 | [],h=>by cases h
 | x :: l,h=>by
  unfold zerosF at h ⊢
  split
  ·rename_i hx
   rw [if_pos hx,List.length_cons] at h
   exact zerosF_at l (by omega)
  ·rename_i hx
   exact hx
theorem zerosF_eq {l:List Int} {k:Nat} (hk:k≤l.length) (h:∀ i,i < k→l.getD i 0=0) (h2:k < l.length→l.getD k 0 ≠ 0):zerosF l=k:=by
 rcases Nat.lt_trichotomy (zerosF l) k with hlt | e | hgt
 ·exact absurd (h _ hlt) (zerosF_at l (by omega))
 ·exact e
 ·exact absurd (zerosF_lt l k hgt) (h2 (by have:=zerosF_le l;omega))
def leadF (l:List Int):List Int:=l.drop (zerosF l)
theorem leadF_head {l:List Int} {x:Int} {r:List Int} (h:leadF l=x :: r):x ≠ 0:=by
 unfold leadF at h
 have hl:zerosF l < l.length:=by
  have e:=congrArg List.length h
  rw [List.length_drop,List.length_cons] at e;omega
 have h1:=zerosF_at l hl
 have h2:l.getD (zerosF l) 0=x:=by
  rw [List.getD_eq_getElem?_getD,← List.head?_drop,h];rfl
 rwa [h2] at h1
def tailF:Nat→List Int→List Int × Nat
 | 0,l=>(l,0)
 | n+1,l=>if l.getLast? = some 0 then tailF n l.dropLast else (l,n+1)
theorem tailF_le:∀ (n:Nat) (l:List Int),(tailF n l).2≤n∧(tailF n l).1.length≤l.length
 | 0,l=>⟨Nat.le_refl _,Nat.le_refl _⟩
 | n+1,l=>by
  unfold tailF
  split
  ·have:=tailF_le n l.dropLast
   rw [List.length_dropLast] at this
   omega
  ·exact ⟨Nat.le_refl _,Nat.le_refl _⟩
theorem tailF_ne:∀ (n:Nat) (x:Int) (r:List Int),x ≠ 0→∃ r',(tailF n (x :: r)).1=x :: r'
 | 0,x,r,_=>⟨r,rfl⟩
 | n+1,x,r,hx=>by
  unfold tailF
  split
  ·rename_i h
   cases r with
   | nil=>simp at h;exact absurd h hx
   | cons y r =>
    rw [List.dropLast_cons_cons]
    exact tailF_ne n x _ hx
  ·exact ⟨r,rfl⟩
theorem tailF_stop {n:Nat} {l:List Int} (h:¬ (0 < n∧l.getLast? = some 0)):tailF n l=(l,n):=by
 cases n with
 | zero=>rfl
 | succ n =>
  unfold tailF
  rw [if_neg (fun e=>h ⟨by omega,e⟩)]
theorem tailF_go {n:Nat} {l:List Int} (h0:0 < n) (h:l.getLast? = some 0):tailF n l=tailF (n - 1) l.dropLast:=by
 obtain ⟨m,rfl⟩:∃ m,n=m+1:=⟨n - 1,by omega⟩
 show tailF (m+1) l=tailF m l.dropLast
 have e:tailF (m+1) l=if l.getLast? = some 0 then tailF m l.dropLast else (l,m+1):=rfl
 rw [e,if_pos h]
def trimF (neg:Bool) (l:List Int) (n:Nat):Bool × List Int × Nat :=
 if leadF l=[] then (false,[],0) else (neg,(tailF n (leadF l)).1,(tailF n (leadF l)).2)
theorem trim_ne (n:Nat) {l:List Int} (h:leadF l ≠ []):(tailF n (leadF l)).1 ≠ []:=by
 cases hl:leadF l with
 | nil=>exact absurd hl h
 | cons x r =>
  obtain ⟨r',e⟩:=tailF_ne n x r (leadF_head hl)
  rw [e];simp
end Go.Proofs.YtcghgkagpkmpeaaGreatDoor.Loc
