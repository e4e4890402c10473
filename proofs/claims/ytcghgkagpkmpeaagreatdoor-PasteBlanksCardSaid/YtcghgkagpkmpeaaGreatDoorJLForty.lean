/- Joined by wip/join.py: LForty LGet. -/
import Derived.Test.YtcghgkagpkmpeaaGreatDoorJLocD
import Derived.Test.YtcghgkagpkmpeaaGreatDoorJLocB
import Derived.Test.YtcghgkagpkmpeaaGreatDoorJForty
import Derived.Test.YtcghgkagpkmpeaaGreatDoorJLocE
set_option linter.unusedVariables false
set_option linter.unusedSimpArgs false
namespace Go.Proofs.YtcghgkagpkmpeaaGreatDoor.Loc
open Go.RowKit Utf All Small Strs Build EncC Pat Cls Dec Go.Proofs.YtcghgkagpkmpeaaGreatDoor.Sys
def fL (k j:Nat):List UInt8:=(Forty.fldAt k j).data.toList
def rec40 (k:Nat):Rec:=⟨fL k 0,fL k 1,fL k 2,fL k 3,fL k 4,fL k 5,fL k 6,fL k 7⟩
theorem sV_fL (k j:Nat):sV (fL k j)=.string (Forty.fldAt k j):=by
 unfold sV fL;congr 1
theorem rec40_V (k:Nat):recV (rec40 k)=Forty.recL k:=by
 show [sV (fL k 0),sV (fL k 1),sV (fL k 2),sV (fL k 3),sV (fL k 4),sV (fL k 5),sV (fL k 6),sV (fL k 7)]=_
 simp only [sV_fL];rfl
def pat40 (k:Nat):Pt:=(refP (rec40 k).pattern).getD lives1
def pcsB (p:Pt):Bool:=decide (0≤p.num.prim) && (affsP p).all fun q=>q.all fun x=>decide (0≤x.1) && decide (x.1 < 4) && decide (x.2.length≤6)
def small40 (k:Nat):Bool:=decide ((rec40 k).pattern.length≤1000) && nameZ (rec40 k).name && pcsB (pat40 k)
theorem small_40:∀ k:Fin 40,small40 k.val=true:=by decide +kernel
def ptEq (p q:Pt):Bool:=decide (p.pre=q.pre) && decide (p.suf=q.suf) && decide (p.npre=q.npre) && decide (p.nsuf=q.nsuf) && decide (p.num.prim=q.num.prim) && decide (p.num.sec=q.num.sec) && decide (p.num.minInt=q.num.minInt) && decide (p.num.minFrac=q.num.minFrac) && decide (p.num.maxFrac=q.num.maxFrac)
theorem ptEq_eq {p q:Pt} (h:ptEq p q=true):p=q:=by
 obtain ⟨a,b,c,d,⟨e,f,g,i,j⟩⟩:=p
 obtain ⟨a',b',c',d',⟨e',f',g',i',j'⟩⟩:=q
 unfold ptEq at h
 simp only [Bool.and_eq_true,decide_eq_true_eq] at h
 obtain ⟨⟨⟨⟨⟨⟨⟨⟨rfl,rfl⟩,rfl⟩,rfl⟩,rfl⟩,rfl⟩,rfl⟩,rfl⟩,rfl⟩:=h
 rfl
def okB (x:Except Int Pt) (p:Pt):Bool:=match x with
 | .ok q=>ptEq q p
 | .error _=>false
theorem okB_eq {x:Except Int Pt} {p:Pt} (h:okB x p=true):x=.ok p:=by
 cases x with
 | error e=>cases h
 | ok q=>rw [ptEq_eq h]
theorem ref_40b:∀ k:Fin 40,((refP (rec40 k.val).pattern).isSome && okB (parseF (rec40 k.val).pattern) (pat40 k.val))=true:=by decide +kernel
theorem ref_40 (k:Fin 40):refP (rec40 k.val).pattern=some (pat40 k.val)∧parseF (rec40 k.val).pattern=.ok (pat40 k.val):=by
 have h:=ref_40b k
 rw [Bool.and_eq_true] at h
 refine ⟨?_,okB_eq h.2⟩
 unfold pat40
 cases hr:refP (rec40 k.val).pattern with
 | none=>rw [hr] at h;cases h.1
 | some p=>rfl
theorem may_40:∀ k:Fin 40,mayB (locOf (rec40 k.val) (pat40 k.val))=true:=by decide +kernel
theorem vals_40:∀ k:Fin 40,valOk (pat40 k.val)=true:=by decide +kernel
theorem both_40 {k:Nat} (hk:k < 40):Both (rec40 k) (pat40 k):=by
 have hs:=small_40 ⟨k,hk⟩
 unfold small40 pcsB at hs
 simp only [Bool.and_eq_true,decide_eq_true_eq,List.all_eq_true] at hs
 exact ⟨(ref_40 ⟨k,hk⟩).2,(ref_40 ⟨k,hk⟩).1,hs.1.1,hs.1.2,may_of (may_40 ⟨k,hk⟩),hs.2.1,fun q hq x hx=>⟨((hs.2.2 q hq) x hx).1.1,((hs.2.2 q hq) x hx).1.2,((hs.2.2 q hq) x hx).2⟩,valOk_of (vals_40 ⟨k,hk⟩)⟩
end Go.Proofs.YtcghgkagpkmpeaaGreatDoor.Loc
