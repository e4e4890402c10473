/- The document's example records: the walk of abacistref11.Good. (Printed by wip/gen/lgood.py.) -/
import Derived.Test.YtdkjkbbibdppoaaGreatDoorLGood
namespace Go.Proofs.YtdkjkbbibdppoaaGreatDoor.Loc
open Go.RowKit Utf All Small Strs Build EncC Pat Go.Proofs.YtdkjkbbibdppoaaGreatDoor.Sys
set_option linter.unusedVariables false
set_option linter.unusedSimpArgs false

def decs : List (List UInt8) := [[46], [44], [217, 171], [101, 204, 129]]
def mins : List (List UInt8) := [[45], [226, 136, 146], [226, 128, 144], [45, 204, 129]]
def pcts : List (List UInt8) := [[37], [217, 170]]
def curs : List (List UInt8) := [[36], [226, 130, 172], [67, 72, 70], [107, 204, 129, 114]]
def grps : List (List UInt8) := [[39], [194, 160], [226, 128, 175], [95], [46], [44]]
theorem pick_pat (i : Int) : ∃ j : Fin 10, pickL pats i = pats.getD j.val [] ∧ (aroundF i 10).toNat = j.val := by
  have hb := aroundF_bd i 10 (by omega)
  exact ⟨⟨(aroundF i 10).toNat, by omega⟩, rfl, rfl⟩
def goodGrp (v2 v3 : Int) (p : Pt) : List UInt8 := if p.num.prim > 0 then (if pickL grps v3 = pickL decs v2 then [32] else pickL grps v3) else []
def goodR (v0 v1 v2 v3 v4 v5 : Int) : Rec := ⟨[120, 120], pickL pats v1, (nameOf v0).data.toList, pickL decs v2, goodGrp v2 v3 (patAt (aroundF v1 10).toNat), pickL mins v4, pickL pcts v5, pickL curs v5⟩
theorem infoP : (Tryz.prog.info? 35).map (·.size) = some 9 := by kernel_rfl
theorem infoR : (Tryz.prog.info? 45).map (·.size) = some 8 := by kernel_rfl
set_option maxHeartbeats 4000000 in
set_option maxRecDepth 100000 in
theorem good_ (v0 v1 v2 v3 v4 v5 : Int) (w : World) (h0 : i64 v0) (h1 : i64 v1) (h2 : i64 v2) (h3 : i64 v3) (h4 : i64 v4) (h5 : i64 v5) :
    Calls Tryz.prog 17 #[.agg #[.int .i64 v0, .int .i64 v1, .int .i64 v2, .int .i64 v3, .int .i64 v4, .int .i64 v5]] w fun e w' => e = .returned (.agg (recV (goodR v0 v1 v2 v3 v4 v5)).toArray) ∧ Ext w w' := by
  have b1 := (Box.new w 43 [.int .i64 v0, .int .i64 v1, .int .i64 v2, .int .i64 v3, .int .i64 v4, .int .i64 v5]).alloc (.cells ([sV [], sV [], sV [], sV [], sV [], sV [], sV [], sV []] : List Value).toArray 45)
  have c1 := Box.new (w.alloc (.cells ([.int .i64 v0, .int .i64 v1, .int .i64 v2, .int .i64 v3, .int .i64 v4, .int .i64 v5] : List Value).toArray 43)) 45 [sV [], sV [], sV [], sV [], sV [], sV [], sV [], sV []]
  have hx1 : Ext w ((w.alloc (.cells ([.int .i64 v0, .int .i64 v1, .int .i64 v2, .int .i64 v3, .int .i64 v4, .int .i64 v5] : List Value).toArray 43)).alloc (.cells ([sV [], sV [], sV [], sV [], sV [], sV [], sV [], sV []] : List Value).toArray 45)) := Ext.alloc_ (Ext.alloc_ (Ext.refl w) _) _
  have hs1 : (w.alloc (.cells ([.int .i64 v0, .int .i64 v1, .int .i64 v2, .int .i64 v3, .int .i64 v4, .int .i64 v5] : List Value).toArray 43)).heap.size = w.heap.size + 1 := by simp
  rw [hs1] at c1
  clear hs1
  have hge : w.heap.size ≤ w.heap.size + 1 := by omega
  have HGE := Lib.hid hge
  have HX1 := Lib.hid hx1
  clear hge hx1
  have e0 := b1.cell (j := 0) rfl
  have e1 := b1.cell (j := 1) rfl
  have HB1 := Lib.hid b1
  have HC1 := Lib.hid c1
  clear b1 c1
  have HN := Lib.hid (fun W => ref_name v0 W h0.1 h0.2)
  go_enter Tryz.func17, Tryz.ntmps17
  go_upto_region 1 with fail
  change Code.wp _ _ _ _ ((w.alloc (.cells ([.int .i64 v0, .int .i64 v1, .int .i64 v2, .int .i64 v3, .int .i64 v4, .int .i64 v5] : List Value).toArray 43)).alloc (.cells ([sV [], sV [], sV [], sV [], sV [], sV [], sV [], sV []] : List Value).toArray 45))
  generalize (w.alloc (.cells ([.int .i64 v0, .int .i64 v1, .int .i64 v2, .int .i64 v3, .int .i64 v4, .int .i64 v5] : List Value).toArray 43)).alloc (.cells ([sV [], sV [], sV [], sV [], sV [], sV [], sV [], sV []] : List Value).toArray 45) = w1 at *
  go_upto_region 2 with (first
    | (go_at_call 61; with_reducible refine (HN.out _).mono ?_; rintro e w3 ⟨rfl, hx3⟩)
    | (refine wpList_store_fresh rfl 45 (.tmp 3) (.tmp 9) rfl ([sV [120, 120], sV [], .string (nameOf v0), sV [], sV [], sV [], sV [], sV []] : List Value).toArray 45 _ rfl rfl infoR rfl (by simp [Value.oneCell', sV]) ?_))
  have b2 := (HB1.out.ext hx3).alloc (.cells ([sV [120, 120], sV [], .string (nameOf v0), sV [], sV [], sV [], sV [], sV []] : List Value).toArray 45)
  have c2 := (HC1.out.ext hx3).alloc (.cells ([sV [120, 120], sV [], .string (nameOf v0), sV [], sV [], sV [], sV [], sV []] : List Value).toArray 45)
  have d2 := Box.new w3 45 [sV [120, 120], sV [], .string (nameOf v0), sV [], sV [], sV [], sV [], sV []]
  have x2 := Ext.alloc_ (HX1.out.trans hx3) (.cells ([sV [120, 120], sV [], .string (nameOf v0), sV [], sV [], sV [], sV [], sV []] : List Value).toArray 45)
  have hg := (HX1.out.trans hx3).size
  have hn1 : w3.heap.size ≠ w.heap.size := by have := (HB1.out.ext hx3).lt; omega
  have hn2 : w3.heap.size ≠ w.heap.size + 1 := by have := (HC1.out.ext hx3).lt; omega
  have HD := Lib.hid d2
  have HB := Lib.hid b2
  have HC := Lib.hid c2
  have HX := Lib.hid x2
  have HG := Lib.hid hg
  have HT := Lib.hid (Nat.le_add_right w.heap.size 1)
  have HN1 := Lib.hid hn1
  have HN2 := Lib.hid hn2
  clear b2 c2 d2 x2 hx3 HB1 HC1 HX1 hg e0 e1 HGE hn1 hn2 HN
  generalize w3.alloc (.cells ([sV [120, 120], sV [], .string (nameOf v0), sV [], sV [], sV [], sV [], sV []] : List Value).toArray 45) = w2 at *
  generalize w3.heap.size = rb at *
  generalize w.heap.size + 1 = tb at *
  generalize hgb : w.heap.size = gb at *
  have HGB := Lib.hid hgb
  clear hgb
  have q1 := ((HB.out.alloc (.cells ([.string ⟨#[35, 44, 35, 35, 48, 46, 48, 48]⟩, .string ⟨#[48, 46, 35, 35]⟩, .string ⟨#[35, 44, 35, 35, 44, 35, 35, 48, 46, 35, 35, 35]⟩, .string ⟨#[194, 164, 35, 44, 35, 35, 48, 46, 48, 48]⟩, .string ⟨#[35, 44, 35, 35, 48, 46, 48, 48, 120, 194, 164]⟩, .string ⟨#[194, 164, 120, 35, 44, 35, 35, 48, 46, 48, 48, 59, 40, 194, 164, 120, 45, 35, 41]⟩, .string ⟨#[35, 44, 35, 35, 48, 37]⟩, .string ⟨#[48, 46, 48, 59, 48, 46, 48, 45]⟩, .string ⟨#[35, 44, 35, 35, 35, 48, 46, 48, 48, 121, 59, 121, 35, 44, 35, 35, 48, 46, 48, 48, 45, 121]⟩, .string ⟨#[35, 44, 35, 35, 44, 35, 48, 46, 35, 59, 39, 35, 39, 35, 45, 39, 35, 39]⟩] : List Value).toArray 9)).cell (j := 1) rfl)
  have q2 := (HD.out.alloc (.cells ([.string ⟨#[35, 44, 35, 35, 48, 46, 48, 48]⟩, .string ⟨#[48, 46, 35, 35]⟩, .string ⟨#[35, 44, 35, 35, 44, 35, 35, 48, 46, 35, 35, 35]⟩, .string ⟨#[194, 164, 35, 44, 35, 35, 48, 46, 48, 48]⟩, .string ⟨#[35, 44, 35, 35, 48, 46, 48, 48, 120, 194, 164]⟩, .string ⟨#[194, 164, 120, 35, 44, 35, 35, 48, 46, 48, 48, 59, 40, 194, 164, 120, 45, 35, 41]⟩, .string ⟨#[35, 44, 35, 35, 48, 37]⟩, .string ⟨#[48, 46, 48, 59, 48, 46, 48, 45]⟩, .string ⟨#[35, 44, 35, 35, 35, 48, 46, 48, 48, 121, 59, 121, 35, 44, 35, 35, 48, 46, 48, 48, 45, 121]⟩, .string ⟨#[35, 44, 35, 35, 44, 35, 48, 46, 35, 59, 39, 35, 39, 35, 45, 39, 35, 39]⟩] : List Value).toArray 9)).cell (j := 1) rfl
  have q3 := (HD.out.alloc (.cells ([.string ⟨#[35, 44, 35, 35, 48, 46, 48, 48]⟩, .string ⟨#[48, 46, 35, 35]⟩, .string ⟨#[35, 44, 35, 35, 44, 35, 35, 48, 46, 35, 35, 35]⟩, .string ⟨#[194, 164, 35, 44, 35, 35, 48, 46, 48, 48]⟩, .string ⟨#[35, 44, 35, 35, 48, 46, 48, 48, 120, 194, 164]⟩, .string ⟨#[194, 164, 120, 35, 44, 35, 35, 48, 46, 48, 48, 59, 40, 194, 164, 120, 45, 35, 41]⟩, .string ⟨#[35, 44, 35, 35, 48, 37]⟩, .string ⟨#[48, 46, 48, 59, 48, 46, 48, 45]⟩, .string ⟨#[35, 44, 35, 35, 35, 48, 46, 48, 48, 121, 59, 121, 35, 44, 35, 35, 48, 46, 48, 48, 45, 121]⟩, .string ⟨#[35, 44, 35, 35, 44, 35, 48, 46, 35, 59, 39, 35, 39, 35, 45, 39, 35, 39]⟩] : List Value).toArray 9)).frozen 1
  have HP : Hid (Calls Tryz.prog 62 #[.slice (some ⟨w2.heap.size, 0, none⟩) 10 10, .int .i64 v1] (w2.alloc (.cells ([.string ⟨#[35, 44, 35, 35, 48, 46, 48, 48]⟩, .string ⟨#[48, 46, 35, 35]⟩, .string ⟨#[35, 44, 35, 35, 44, 35, 35, 48, 46, 35, 35, 35]⟩, .string ⟨#[194, 164, 35, 44, 35, 35, 48, 46, 48, 48]⟩, .string ⟨#[35, 44, 35, 35, 48, 46, 48, 48, 120, 194, 164]⟩, .string ⟨#[194, 164, 120, 35, 44, 35, 35, 48, 46, 48, 48, 59, 40, 194, 164, 120, 45, 35, 41]⟩, .string ⟨#[35, 44, 35, 35, 48, 37]⟩, .string ⟨#[48, 46, 48, 59, 48, 46, 48, 45]⟩, .string ⟨#[35, 44, 35, 35, 35, 48, 46, 48, 48, 121, 59, 121, 35, 44, 35, 35, 48, 46, 48, 48, 45, 121]⟩, .string ⟨#[35, 44, 35, 35, 44, 35, 48, 46, 35, 59, 39, 35, 39, 35, 45, 39, 35, 39]⟩] : List Value).toArray 9)) fun e w' => e = .returned (.string ⟨(pickL pats v1).toArray⟩) ∧ (w2.alloc (.cells ([.string ⟨#[35, 44, 35, 35, 48, 46, 48, 48]⟩, .string ⟨#[48, 46, 35, 35]⟩, .string ⟨#[35, 44, 35, 35, 44, 35, 35, 48, 46, 35, 35, 35]⟩, .string ⟨#[194, 164, 35, 44, 35, 35, 48, 46, 48, 48]⟩, .string ⟨#[35, 44, 35, 35, 48, 46, 48, 48, 120, 194, 164]⟩, .string ⟨#[194, 164, 120, 35, 44, 35, 35, 48, 46, 48, 48, 59, 40, 194, 164, 120, 45, 35, 41]⟩, .string ⟨#[35, 44, 35, 35, 48, 37]⟩, .string ⟨#[48, 46, 48, 59, 48, 46, 48, 45]⟩, .string ⟨#[35, 44, 35, 35, 35, 48, 46, 48, 48, 121, 59, 121, 35, 44, 35, 35, 48, 46, 48, 48, 45, 121]⟩, .string ⟨#[35, 44, 35, 35, 44, 35, 48, 46, 35, 59, 39, 35, 39, 35, 45, 39, 35, 39]⟩] : List Value).toArray 9)) = w') :=
    Lib.hid (pick_ _ _ _ pats v1 _ rfl (by decide) (by decide) h1.1 h1.2 (Box.new w2 9 ([.string ⟨#[35, 44, 35, 35, 48, 46, 48, 48]⟩, .string ⟨#[48, 46, 35, 35]⟩, .string ⟨#[35, 44, 35, 35, 44, 35, 35, 48, 46, 35, 35, 35]⟩, .string ⟨#[194, 164, 35, 44, 35, 35, 48, 46, 48, 48]⟩, .string ⟨#[35, 44, 35, 35, 48, 46, 48, 48, 120, 194, 164]⟩, .string ⟨#[194, 164, 120, 35, 44, 35, 35, 48, 46, 48, 48, 59, 40, 194, 164, 120, 45, 35, 41]⟩, .string ⟨#[35, 44, 35, 35, 48, 37]⟩, .string ⟨#[48, 46, 48, 59, 48, 46, 48, 45]⟩, .string ⟨#[35, 44, 35, 35, 35, 48, 46, 48, 48, 121, 59, 121, 35, 44, 35, 35, 48, 46, 48, 48, 45, 121]⟩, .string ⟨#[35, 44, 35, 35, 44, 35, 48, 46, 35, 59, 39, 35, 39, 35, 45, 39, 35, 39]⟩] : List Value)).row)
  go_upto_region 3 with (first
    | (go_at_call 62; refine HP.out.mono ?_; rintro e w' ⟨rfl, rfl⟩))
  change Code.wp _ _ _ _ ((w2.alloc (.cells ([.string ⟨#[35, 44, 35, 35, 48, 46, 48, 48]⟩, .string ⟨#[48, 46, 35, 35]⟩, .string ⟨#[35, 44, 35, 35, 44, 35, 35, 48, 46, 35, 35, 35]⟩, .string ⟨#[194, 164, 35, 44, 35, 35, 48, 46, 48, 48]⟩, .string ⟨#[35, 44, 35, 35, 48, 46, 48, 48, 120, 194, 164]⟩, .string ⟨#[194, 164, 120, 35, 44, 35, 35, 48, 46, 48, 48, 59, 40, 194, 164, 120, 45, 35, 41]⟩, .string ⟨#[35, 44, 35, 35, 48, 37]⟩, .string ⟨#[48, 46, 48, 59, 48, 46, 48, 45]⟩, .string ⟨#[35, 44, 35, 35, 35, 48, 46, 48, 48, 121, 59, 121, 35, 44, 35, 35, 48, 46, 48, 48, 45, 121]⟩, .string ⟨#[35, 44, 35, 35, 44, 35, 48, 46, 35, 59, 39, 35, 39, 35, 45, 39, 35, 39]⟩] : List Value).toArray 9)).setCell ⟨rb, 1, none⟩ (sV (pickL pats v1)))
  have b2 := (HB.out.alloc (.cells ([.string ⟨#[35, 44, 35, 35, 48, 46, 48, 48]⟩, .string ⟨#[48, 46, 35, 35]⟩, .string ⟨#[35, 44, 35, 35, 44, 35, 35, 48, 46, 35, 35, 35]⟩, .string ⟨#[194, 164, 35, 44, 35, 35, 48, 46, 48, 48]⟩, .string ⟨#[35, 44, 35, 35, 48, 46, 48, 48, 120, 194, 164]⟩, .string ⟨#[194, 164, 120, 35, 44, 35, 35, 48, 46, 48, 48, 59, 40, 194, 164, 120, 45, 35, 41]⟩, .string ⟨#[35, 44, 35, 35, 48, 37]⟩, .string ⟨#[48, 46, 48, 59, 48, 46, 48, 45]⟩, .string ⟨#[35, 44, 35, 35, 35, 48, 46, 48, 48, 121, 59, 121, 35, 44, 35, 35, 48, 46, 48, 48, 45, 121]⟩, .string ⟨#[35, 44, 35, 35, 44, 35, 48, 46, 35, 59, 39, 35, 39, 35, 45, 39, 35, 39]⟩] : List Value).toArray 9)).setCell1 rb (sV (pickL pats v1)) HN1.out 1
  have c2 := (HC.out.alloc (.cells ([.string ⟨#[35, 44, 35, 35, 48, 46, 48, 48]⟩, .string ⟨#[48, 46, 35, 35]⟩, .string ⟨#[35, 44, 35, 35, 44, 35, 35, 48, 46, 35, 35, 35]⟩, .string ⟨#[194, 164, 35, 44, 35, 35, 48, 46, 48, 48]⟩, .string ⟨#[35, 44, 35, 35, 48, 46, 48, 48, 120, 194, 164]⟩, .string ⟨#[194, 164, 120, 35, 44, 35, 35, 48, 46, 48, 48, 59, 40, 194, 164, 120, 45, 35, 41]⟩, .string ⟨#[35, 44, 35, 35, 48, 37]⟩, .string ⟨#[48, 46, 48, 59, 48, 46, 48, 45]⟩, .string ⟨#[35, 44, 35, 35, 35, 48, 46, 48, 48, 121, 59, 121, 35, 44, 35, 35, 48, 46, 48, 48, 45, 121]⟩, .string ⟨#[35, 44, 35, 35, 44, 35, 48, 46, 35, 59, 39, 35, 39, 35, 45, 39, 35, 39]⟩] : List Value).toArray 9)).setCell1 rb (sV (pickL pats v1)) HN2.out 1
  have d2 : Box ((w2.alloc (.cells ([.string ⟨#[35, 44, 35, 35, 48, 46, 48, 48]⟩, .string ⟨#[48, 46, 35, 35]⟩, .string ⟨#[35, 44, 35, 35, 44, 35, 35, 48, 46, 35, 35, 35]⟩, .string ⟨#[194, 164, 35, 44, 35, 35, 48, 46, 48, 48]⟩, .string ⟨#[35, 44, 35, 35, 48, 46, 48, 48, 120, 194, 164]⟩, .string ⟨#[194, 164, 120, 35, 44, 35, 35, 48, 46, 48, 48, 59, 40, 194, 164, 120, 45, 35, 41]⟩, .string ⟨#[35, 44, 35, 35, 48, 37]⟩, .string ⟨#[48, 46, 48, 59, 48, 46, 48, 45]⟩, .string ⟨#[35, 44, 35, 35, 35, 48, 46, 48, 48, 121, 59, 121, 35, 44, 35, 35, 48, 46, 48, 48, 45, 121]⟩, .string ⟨#[35, 44, 35, 35, 44, 35, 48, 46, 35, 59, 39, 35, 39, 35, 45, 39, 35, 39]⟩] : List Value).toArray 9)).setCell ⟨rb, 1, none⟩ (sV (pickL pats v1))) rb 45 [sV [120, 120], sV (pickL pats v1), .string (nameOf v0), sV [], sV [], sV [], sV [], sV []] := (HD.out.alloc (.cells ([.string ⟨#[35, 44, 35, 35, 48, 46, 48, 48]⟩, .string ⟨#[48, 46, 35, 35]⟩, .string ⟨#[35, 44, 35, 35, 44, 35, 35, 48, 46, 35, 35, 35]⟩, .string ⟨#[194, 164, 35, 44, 35, 35, 48, 46, 48, 48]⟩, .string ⟨#[35, 44, 35, 35, 48, 46, 48, 48, 120, 194, 164]⟩, .string ⟨#[194, 164, 120, 35, 44, 35, 35, 48, 46, 48, 48, 59, 40, 194, 164, 120, 45, 35, 41]⟩, .string ⟨#[35, 44, 35, 35, 48, 37]⟩, .string ⟨#[48, 46, 48, 59, 48, 46, 48, 45]⟩, .string ⟨#[35, 44, 35, 35, 35, 48, 46, 48, 48, 121, 59, 121, 35, 44, 35, 35, 48, 46, 48, 48, 45, 121]⟩, .string ⟨#[35, 44, 35, 35, 44, 35, 48, 46, 35, 59, 39, 35, 39, 35, 45, 39, 35, 39]⟩] : List Value).toArray 9)).setCell 1 (sV (pickL pats v1))
  have x2 := Ext.setCell_ (Ext.alloc_ HX.out (.cells ([.string ⟨#[35, 44, 35, 35, 48, 46, 48, 48]⟩, .string ⟨#[48, 46, 35, 35]⟩, .string ⟨#[35, 44, 35, 35, 44, 35, 35, 48, 46, 35, 35, 35]⟩, .string ⟨#[194, 164, 35, 44, 35, 35, 48, 46, 48, 48]⟩, .string ⟨#[35, 44, 35, 35, 48, 46, 48, 48, 120, 194, 164]⟩, .string ⟨#[194, 164, 120, 35, 44, 35, 35, 48, 46, 48, 48, 59, 40, 194, 164, 120, 45, 35, 41]⟩, .string ⟨#[35, 44, 35, 35, 48, 37]⟩, .string ⟨#[48, 46, 48, 59, 48, 46, 48, 45]⟩, .string ⟨#[35, 44, 35, 35, 35, 48, 46, 48, 48, 121, 59, 121, 35, 44, 35, 35, 48, 46, 48, 48, 45, 121]⟩, .string ⟨#[35, 44, 35, 35, 44, 35, 48, 46, 35, 59, 39, 35, 39, 35, 45, 39, 35, 39]⟩] : List Value).toArray 9)) (by rw [HGB.out]; exact HG.out) 1 (sV (pickL pats v1))
  clear q1 q2 q3 HP HB HC HD HX
  have HB := Lib.hid b2
  have HC := Lib.hid c2
  have HD := Lib.hid d2
  have HX := Lib.hid x2
  clear b2 c2 d2 x2
  generalize (w2.alloc (.cells ([.string ⟨#[35, 44, 35, 35, 48, 46, 48, 48]⟩, .string ⟨#[48, 46, 35, 35]⟩, .string ⟨#[35, 44, 35, 35, 44, 35, 35, 48, 46, 35, 35, 35]⟩, .string ⟨#[194, 164, 35, 44, 35, 35, 48, 46, 48, 48]⟩, .string ⟨#[35, 44, 35, 35, 48, 46, 48, 48, 120, 194, 164]⟩, .string ⟨#[194, 164, 120, 35, 44, 35, 35, 48, 46, 48, 48, 59, 40, 194, 164, 120, 45, 35, 41]⟩, .string ⟨#[35, 44, 35, 35, 48, 37]⟩, .string ⟨#[48, 46, 48, 59, 48, 46, 48, 45]⟩, .string ⟨#[35, 44, 35, 35, 35, 48, 46, 48, 48, 121, 59, 121, 35, 44, 35, 35, 48, 46, 48, 48, 45, 121]⟩, .string ⟨#[35, 44, 35, 35, 44, 35, 48, 46, 35, 59, 39, 35, 39, 35, 45, 39, 35, 39]⟩] : List Value).toArray 9)).setCell ⟨rb, 1, none⟩ (sV (pickL pats v1)) = w4 at *
  have q1 := ((HB.out.alloc (.cells ([.string ⟨#[46]⟩, .string ⟨#[44]⟩, .string ⟨#[217, 171]⟩, .string ⟨#[101, 204, 129]⟩] : List Value).toArray 9)).cell (j := 2) rfl)
  have q2 := (HD.out.alloc (.cells ([.string ⟨#[46]⟩, .string ⟨#[44]⟩, .string ⟨#[217, 171]⟩, .string ⟨#[101, 204, 129]⟩] : List Value).toArray 9)).cell (j := 3) rfl
  have q3 := (HD.out.alloc (.cells ([.string ⟨#[46]⟩, .string ⟨#[44]⟩, .string ⟨#[217, 171]⟩, .string ⟨#[101, 204, 129]⟩] : List Value).toArray 9)).frozen 3
  have HP : Hid (Calls Tryz.prog 62 #[.slice (some ⟨w4.heap.size, 0, none⟩) 4 4, .int .i64 v2] (w4.alloc (.cells ([.string ⟨#[46]⟩, .string ⟨#[44]⟩, .string ⟨#[217, 171]⟩, .string ⟨#[101, 204, 129]⟩] : List Value).toArray 9)) fun e w' => e = .returned (.string ⟨(pickL decs v2).toArray⟩) ∧ (w4.alloc (.cells ([.string ⟨#[46]⟩, .string ⟨#[44]⟩, .string ⟨#[217, 171]⟩, .string ⟨#[101, 204, 129]⟩] : List Value).toArray 9)) = w') :=
    Lib.hid (pick_ _ _ _ decs v2 _ rfl (by decide) (by decide) h2.1 h2.2 (Box.new w4 9 ([.string ⟨#[46]⟩, .string ⟨#[44]⟩, .string ⟨#[217, 171]⟩, .string ⟨#[101, 204, 129]⟩] : List Value)).row)
  go_upto_region 4 with (first
    | (go_at_call 62; refine HP.out.mono ?_; rintro e w' ⟨rfl, rfl⟩))
  change Code.wp _ _ _ _ ((w4.alloc (.cells ([.string ⟨#[46]⟩, .string ⟨#[44]⟩, .string ⟨#[217, 171]⟩, .string ⟨#[101, 204, 129]⟩] : List Value).toArray 9)).setCell ⟨rb, 3, none⟩ (sV (pickL decs v2)))
  have b2 := (HB.out.alloc (.cells ([.string ⟨#[46]⟩, .string ⟨#[44]⟩, .string ⟨#[217, 171]⟩, .string ⟨#[101, 204, 129]⟩] : List Value).toArray 9)).setCell1 rb (sV (pickL decs v2)) HN1.out 3
  have c2 := (HC.out.alloc (.cells ([.string ⟨#[46]⟩, .string ⟨#[44]⟩, .string ⟨#[217, 171]⟩, .string ⟨#[101, 204, 129]⟩] : List Value).toArray 9)).setCell1 rb (sV (pickL decs v2)) HN2.out 3
  have d2 : Box ((w4.alloc (.cells ([.string ⟨#[46]⟩, .string ⟨#[44]⟩, .string ⟨#[217, 171]⟩, .string ⟨#[101, 204, 129]⟩] : List Value).toArray 9)).setCell ⟨rb, 3, none⟩ (sV (pickL decs v2))) rb 45 [sV [120, 120], sV (pickL pats v1), .string (nameOf v0), sV (pickL decs v2), sV [], sV [], sV [], sV []] := (HD.out.alloc (.cells ([.string ⟨#[46]⟩, .string ⟨#[44]⟩, .string ⟨#[217, 171]⟩, .string ⟨#[101, 204, 129]⟩] : List Value).toArray 9)).setCell 3 (sV (pickL decs v2))
  have x2 := Ext.setCell_ (Ext.alloc_ HX.out (.cells ([.string ⟨#[46]⟩, .string ⟨#[44]⟩, .string ⟨#[217, 171]⟩, .string ⟨#[101, 204, 129]⟩] : List Value).toArray 9)) (by rw [HGB.out]; exact HG.out) 3 (sV (pickL decs v2))
  clear q1 q2 q3 HP HB HC HD HX
  have HB := Lib.hid b2
  have HC := Lib.hid c2
  have HD := Lib.hid d2
  have HX := Lib.hid x2
  clear b2 c2 d2 x2
  generalize (w4.alloc (.cells ([.string ⟨#[46]⟩, .string ⟨#[44]⟩, .string ⟨#[217, 171]⟩, .string ⟨#[101, 204, 129]⟩] : List Value).toArray 9)).setCell ⟨rb, 3, none⟩ (sV (pickL decs v2)) = w5 at *
  have q1 := ((HB.out.alloc (.cells ([.string ⟨#[45]⟩, .string ⟨#[226, 136, 146]⟩, .string ⟨#[226, 128, 144]⟩, .string ⟨#[45, 204, 129]⟩] : List Value).toArray 9)).cell (j := 4) rfl)
  have q2 := (HD.out.alloc (.cells ([.string ⟨#[45]⟩, .string ⟨#[226, 136, 146]⟩, .string ⟨#[226, 128, 144]⟩, .string ⟨#[45, 204, 129]⟩] : List Value).toArray 9)).cell (j := 5) rfl
  have q3 := (HD.out.alloc (.cells ([.string ⟨#[45]⟩, .string ⟨#[226, 136, 146]⟩, .string ⟨#[226, 128, 144]⟩, .string ⟨#[45, 204, 129]⟩] : List Value).toArray 9)).frozen 5
  have HP : Hid (Calls Tryz.prog 62 #[.slice (some ⟨w5.heap.size, 0, none⟩) 4 4, .int .i64 v4] (w5.alloc (.cells ([.string ⟨#[45]⟩, .string ⟨#[226, 136, 146]⟩, .string ⟨#[226, 128, 144]⟩, .string ⟨#[45, 204, 129]⟩] : List Value).toArray 9)) fun e w' => e = .returned (.string ⟨(pickL mins v4).toArray⟩) ∧ (w5.alloc (.cells ([.string ⟨#[45]⟩, .string ⟨#[226, 136, 146]⟩, .string ⟨#[226, 128, 144]⟩, .string ⟨#[45, 204, 129]⟩] : List Value).toArray 9)) = w') :=
    Lib.hid (pick_ _ _ _ mins v4 _ rfl (by decide) (by decide) h4.1 h4.2 (Box.new w5 9 ([.string ⟨#[45]⟩, .string ⟨#[226, 136, 146]⟩, .string ⟨#[226, 128, 144]⟩, .string ⟨#[45, 204, 129]⟩] : List Value)).row)
  go_upto_region 5 with (first
    | (go_at_call 62; refine HP.out.mono ?_; rintro e w' ⟨rfl, rfl⟩))
  change Code.wp _ _ _ _ ((w5.alloc (.cells ([.string ⟨#[45]⟩, .string ⟨#[226, 136, 146]⟩, .string ⟨#[226, 128, 144]⟩, .string ⟨#[45, 204, 129]⟩] : List Value).toArray 9)).setCell ⟨rb, 5, none⟩ (sV (pickL mins v4)))
  have b2 := (HB.out.alloc (.cells ([.string ⟨#[45]⟩, .string ⟨#[226, 136, 146]⟩, .string ⟨#[226, 128, 144]⟩, .string ⟨#[45, 204, 129]⟩] : List Value).toArray 9)).setCell1 rb (sV (pickL mins v4)) HN1.out 5
  have c2 := (HC.out.alloc (.cells ([.string ⟨#[45]⟩, .string ⟨#[226, 136, 146]⟩, .string ⟨#[226, 128, 144]⟩, .string ⟨#[45, 204, 129]⟩] : List Value).toArray 9)).setCell1 rb (sV (pickL mins v4)) HN2.out 5
  have d2 : Box ((w5.alloc (.cells ([.string ⟨#[45]⟩, .string ⟨#[226, 136, 146]⟩, .string ⟨#[226, 128, 144]⟩, .string ⟨#[45, 204, 129]⟩] : List Value).toArray 9)).setCell ⟨rb, 5, none⟩ (sV (pickL mins v4))) rb 45 [sV [120, 120], sV (pickL pats v1), .string (nameOf v0), sV (pickL decs v2), sV [], sV (pickL mins v4), sV [], sV []] := (HD.out.alloc (.cells ([.string ⟨#[45]⟩, .string ⟨#[226, 136, 146]⟩, .string ⟨#[226, 128, 144]⟩, .string ⟨#[45, 204, 129]⟩] : List Value).toArray 9)).setCell 5 (sV (pickL mins v4))
  have x2 := Ext.setCell_ (Ext.alloc_ HX.out (.cells ([.string ⟨#[45]⟩, .string ⟨#[226, 136, 146]⟩, .string ⟨#[226, 128, 144]⟩, .string ⟨#[45, 204, 129]⟩] : List Value).toArray 9)) (by rw [HGB.out]; exact HG.out) 5 (sV (pickL mins v4))
  clear q1 q2 q3 HP HB HC HD HX
  have HB := Lib.hid b2
  have HC := Lib.hid c2
  have HD := Lib.hid d2
  have HX := Lib.hid x2
  clear b2 c2 d2 x2
  generalize (w5.alloc (.cells ([.string ⟨#[45]⟩, .string ⟨#[226, 136, 146]⟩, .string ⟨#[226, 128, 144]⟩, .string ⟨#[45, 204, 129]⟩] : List Value).toArray 9)).setCell ⟨rb, 5, none⟩ (sV (pickL mins v4)) = w6 at *
  have q1 := ((HB.out.alloc (.cells ([.string ⟨#[37]⟩, .string ⟨#[217, 170]⟩] : List Value).toArray 9)).cell (j := 5) rfl)
  have q2 := (HD.out.alloc (.cells ([.string ⟨#[37]⟩, .string ⟨#[217, 170]⟩] : List Value).toArray 9)).cell (j := 6) rfl
  have q3 := (HD.out.alloc (.cells ([.string ⟨#[37]⟩, .string ⟨#[217, 170]⟩] : List Value).toArray 9)).frozen 6
  have HP : Hid (Calls Tryz.prog 62 #[.slice (some ⟨w6.heap.size, 0, none⟩) 2 2, .int .i64 v5] (w6.alloc (.cells ([.string ⟨#[37]⟩, .string ⟨#[217, 170]⟩] : List Value).toArray 9)) fun e w' => e = .returned (.string ⟨(pickL pcts v5).toArray⟩) ∧ (w6.alloc (.cells ([.string ⟨#[37]⟩, .string ⟨#[217, 170]⟩] : List Value).toArray 9)) = w') :=
    Lib.hid (pick_ _ _ _ pcts v5 _ rfl (by decide) (by decide) h5.1 h5.2 (Box.new w6 9 ([.string ⟨#[37]⟩, .string ⟨#[217, 170]⟩] : List Value)).row)
  go_upto_region 6 with (first
    | (go_at_call 62; refine HP.out.mono ?_; rintro e w' ⟨rfl, rfl⟩))
  change Code.wp _ _ _ _ ((w6.alloc (.cells ([.string ⟨#[37]⟩, .string ⟨#[217, 170]⟩] : List Value).toArray 9)).setCell ⟨rb, 6, none⟩ (sV (pickL pcts v5)))
  have b2 := (HB.out.alloc (.cells ([.string ⟨#[37]⟩, .string ⟨#[217, 170]⟩] : List Value).toArray 9)).setCell1 rb (sV (pickL pcts v5)) HN1.out 6
  have c2 := (HC.out.alloc (.cells ([.string ⟨#[37]⟩, .string ⟨#[217, 170]⟩] : List Value).toArray 9)).setCell1 rb (sV (pickL pcts v5)) HN2.out 6
  have d2 : Box ((w6.alloc (.cells ([.string ⟨#[37]⟩, .string ⟨#[217, 170]⟩] : List Value).toArray 9)).setCell ⟨rb, 6, none⟩ (sV (pickL pcts v5))) rb 45 [sV [120, 120], sV (pickL pats v1), .string (nameOf v0), sV (pickL decs v2), sV [], sV (pickL mins v4), sV (pickL pcts v5), sV []] := (HD.out.alloc (.cells ([.string ⟨#[37]⟩, .string ⟨#[217, 170]⟩] : List Value).toArray 9)).setCell 6 (sV (pickL pcts v5))
  have x2 := Ext.setCell_ (Ext.alloc_ HX.out (.cells ([.string ⟨#[37]⟩, .string ⟨#[217, 170]⟩] : List Value).toArray 9)) (by rw [HGB.out]; exact HG.out) 6 (sV (pickL pcts v5))
  clear q1 q2 q3 HP HB HC HD HX
  have HB := Lib.hid b2
  have HC := Lib.hid c2
  have HD := Lib.hid d2
  have HX := Lib.hid x2
  clear b2 c2 d2 x2
  generalize (w6.alloc (.cells ([.string ⟨#[37]⟩, .string ⟨#[217, 170]⟩] : List Value).toArray 9)).setCell ⟨rb, 6, none⟩ (sV (pickL pcts v5)) = w7 at *
  have q1 := ((HB.out.alloc (.cells ([.string ⟨#[36]⟩, .string ⟨#[226, 130, 172]⟩, .string ⟨#[67, 72, 70]⟩, .string ⟨#[107, 204, 129, 114]⟩] : List Value).toArray 9)).cell (j := 5) rfl)
  have q2 := (HD.out.alloc (.cells ([.string ⟨#[36]⟩, .string ⟨#[226, 130, 172]⟩, .string ⟨#[67, 72, 70]⟩, .string ⟨#[107, 204, 129, 114]⟩] : List Value).toArray 9)).cell (j := 7) rfl
  have q3 := (HD.out.alloc (.cells ([.string ⟨#[36]⟩, .string ⟨#[226, 130, 172]⟩, .string ⟨#[67, 72, 70]⟩, .string ⟨#[107, 204, 129, 114]⟩] : List Value).toArray 9)).frozen 7
  have HP : Hid (Calls Tryz.prog 62 #[.slice (some ⟨w7.heap.size, 0, none⟩) 4 4, .int .i64 v5] (w7.alloc (.cells ([.string ⟨#[36]⟩, .string ⟨#[226, 130, 172]⟩, .string ⟨#[67, 72, 70]⟩, .string ⟨#[107, 204, 129, 114]⟩] : List Value).toArray 9)) fun e w' => e = .returned (.string ⟨(pickL curs v5).toArray⟩) ∧ (w7.alloc (.cells ([.string ⟨#[36]⟩, .string ⟨#[226, 130, 172]⟩, .string ⟨#[67, 72, 70]⟩, .string ⟨#[107, 204, 129, 114]⟩] : List Value).toArray 9)) = w') :=
    Lib.hid (pick_ _ _ _ curs v5 _ rfl (by decide) (by decide) h5.1 h5.2 (Box.new w7 9 ([.string ⟨#[36]⟩, .string ⟨#[226, 130, 172]⟩, .string ⟨#[67, 72, 70]⟩, .string ⟨#[107, 204, 129, 114]⟩] : List Value)).row)
  go_upto_region 7 with (first
    | (go_at_call 62; refine HP.out.mono ?_; rintro e w' ⟨rfl, rfl⟩))
  change Code.wp _ _ _ _ ((w7.alloc (.cells ([.string ⟨#[36]⟩, .string ⟨#[226, 130, 172]⟩, .string ⟨#[67, 72, 70]⟩, .string ⟨#[107, 204, 129, 114]⟩] : List Value).toArray 9)).setCell ⟨rb, 7, none⟩ (sV (pickL curs v5)))
  have b2 := (HB.out.alloc (.cells ([.string ⟨#[36]⟩, .string ⟨#[226, 130, 172]⟩, .string ⟨#[67, 72, 70]⟩, .string ⟨#[107, 204, 129, 114]⟩] : List Value).toArray 9)).setCell1 rb (sV (pickL curs v5)) HN1.out 7
  have c2 := (HC.out.alloc (.cells ([.string ⟨#[36]⟩, .string ⟨#[226, 130, 172]⟩, .string ⟨#[67, 72, 70]⟩, .string ⟨#[107, 204, 129, 114]⟩] : List Value).toArray 9)).setCell1 rb (sV (pickL curs v5)) HN2.out 7
  have d2 : Box ((w7.alloc (.cells ([.string ⟨#[36]⟩, .string ⟨#[226, 130, 172]⟩, .string ⟨#[67, 72, 70]⟩, .string ⟨#[107, 204, 129, 114]⟩] : List Value).toArray 9)).setCell ⟨rb, 7, none⟩ (sV (pickL curs v5))) rb 45 [sV [120, 120], sV (pickL pats v1), .string (nameOf v0), sV (pickL decs v2), sV [], sV (pickL mins v4), sV (pickL pcts v5), sV (pickL curs v5)] := (HD.out.alloc (.cells ([.string ⟨#[36]⟩, .string ⟨#[226, 130, 172]⟩, .string ⟨#[67, 72, 70]⟩, .string ⟨#[107, 204, 129, 114]⟩] : List Value).toArray 9)).setCell 7 (sV (pickL curs v5))
  have x2 := Ext.setCell_ (Ext.alloc_ HX.out (.cells ([.string ⟨#[36]⟩, .string ⟨#[226, 130, 172]⟩, .string ⟨#[67, 72, 70]⟩, .string ⟨#[107, 204, 129, 114]⟩] : List Value).toArray 9)) (by rw [HGB.out]; exact HG.out) 7 (sV (pickL curs v5))
  clear q1 q2 q3 HP HB HC HD HX
  have HB := Lib.hid b2
  have HC := Lib.hid c2
  have HD := Lib.hid d2
  have HX := Lib.hid x2
  clear b2 c2 d2 x2
  generalize (w7.alloc (.cells ([.string ⟨#[36]⟩, .string ⟨#[226, 130, 172]⟩, .string ⟨#[67, 72, 70]⟩, .string ⟨#[107, 204, 129, 114]⟩] : List Value).toArray 9)).setCell ⟨rb, 7, none⟩ (sV (pickL curs v5)) = w8 at *
  have hP : refP (pickL pats v1) = some (patAt (aroundF v1 10).toNat) := by
    obtain ⟨j, hj, hk⟩ := pick_pat v1
    rw [hj, hk]
    exact (pats_all j).1
  have hl : (pickL pats v1).length ≤ 1000000 := by
    obtain ⟨j, hj, hk⟩ := pick_pat v1
    rw [hj]
    exact (show ∀ j : Fin 10, (pats.getD j.val []).length ≤ 1000000 by decide) j
  have HP := Lib.hid (refP_ok hP hl w8)
  have q1 := HD.out.cell (j := 1) rfl
  clear hP hl
  go_upto_region 7 with fail
  generalize hpp : patAt (aroundF v1 10).toNat = p at *
  have HPP := Lib.hid hpp
  clear hpp
  go_upto_region 8 with (first
    | (go_at_call 13; refine HP.out.mono ?_; rintro e w' ⟨A, c, B, d, C, a, D, b, rfl, hpt, _, hx⟩)
    | (refine wpList_store_fresh rfl 35 (.tmp 4) (.tmp 39) rfl (patC (.slice A p.pre.length c) (.slice B p.suf.length d) (.slice C p.npre.length a) (.slice D p.nsuf.length b) p.num).toArray 35 _ rfl rfl infoP rfl (by simp [patC, Value.oneCell']) ?_))
  have b9 := (HB.out.ext hx).alloc (.cells ((patC (.slice A p.pre.length c) (.slice B p.suf.length d) (.slice C p.npre.length a) (.slice D p.nsuf.length b) p.num) : List Value).toArray 35)
  have c9 := (HC.out.ext hx).alloc (.cells ((patC (.slice A p.pre.length c) (.slice B p.suf.length d) (.slice C p.npre.length a) (.slice D p.nsuf.length b) p.num) : List Value).toArray 35)
  have d9 := (HD.out.ext hx).alloc (.cells ((patC (.slice A p.pre.length c) (.slice B p.suf.length d) (.slice C p.npre.length a) (.slice D p.nsuf.length b) p.num) : List Value).toArray 35)
  have p9 := (Box.new w' 35 (patC (.slice A p.pre.length c) (.slice B p.suf.length d) (.slice C p.npre.length a) (.slice D p.nsuf.length b) p.num)).cell (j := 4) (v := .int .i64 p.num.prim) rfl
  have x9 := Ext.alloc_ (HX.out.trans hx) (.cells ((patC (.slice A p.pre.length c) (.slice B p.suf.length d) (.slice C p.npre.length a) (.slice D p.nsuf.length b) p.num) : List Value).toArray 35)
  have hne : w'.heap.size ≠ rb := by have := (HD.out.ext hx).lt; omega
  clear HB HC HD HX HP q1 hpt hx
  have HB := Lib.hid b9
  have HC := Lib.hid c9
  have HD := Lib.hid d9
  have HX := Lib.hid x9
  have HNE := Lib.hid hne
  clear b9 c9 d9 x9 hne
  generalize w'.alloc (.cells ((patC (.slice A p.pre.length c) (.slice B p.suf.length d) (.slice C p.npre.length a) (.slice D p.nsuf.length b) p.num) : List Value).toArray 35) = w9 at *
  generalize w'.heap.size = pb at *
  by_cases hg : p.num.prim > 0
  · have hgi : (0 : Int) < p.num.prim := hg
    have q1 := ((HB.out.alloc (.cells ([.string ⟨#[39]⟩, .string ⟨#[194, 160]⟩, .string ⟨#[226, 128, 175]⟩, .string ⟨#[95]⟩, .string ⟨#[46]⟩, .string ⟨#[44]⟩] : List Value).toArray 9)).cell (j := 3) rfl)
    have q2 := (HD.out.alloc (.cells ([.string ⟨#[39]⟩, .string ⟨#[194, 160]⟩, .string ⟨#[226, 128, 175]⟩, .string ⟨#[95]⟩, .string ⟨#[46]⟩, .string ⟨#[44]⟩] : List Value).toArray 9)).cell (j := 4) rfl
    have q3 := (HD.out.alloc (.cells ([.string ⟨#[39]⟩, .string ⟨#[194, 160]⟩, .string ⟨#[226, 128, 175]⟩, .string ⟨#[95]⟩, .string ⟨#[46]⟩, .string ⟨#[44]⟩] : List Value).toArray 9)).frozen 4
    have HP : Hid (Calls Tryz.prog 62 #[.slice (some ⟨w9.heap.size, 0, none⟩) 6 6, .int .i64 v3] (w9.alloc (.cells ([.string ⟨#[39]⟩, .string ⟨#[194, 160]⟩, .string ⟨#[226, 128, 175]⟩, .string ⟨#[95]⟩, .string ⟨#[46]⟩, .string ⟨#[44]⟩] : List Value).toArray 9)) fun e w' => e = .returned (.string ⟨(pickL grps v3).toArray⟩) ∧ (w9.alloc (.cells ([.string ⟨#[39]⟩, .string ⟨#[194, 160]⟩, .string ⟨#[226, 128, 175]⟩, .string ⟨#[95]⟩, .string ⟨#[46]⟩, .string ⟨#[44]⟩] : List Value).toArray 9)) = w') :=
      Lib.hid (pick_ _ _ _ grps v3 _ rfl (by decide) (by decide) h3.1 h3.2 (Box.new w9 9 ([.string ⟨#[39]⟩, .string ⟨#[194, 160]⟩, .string ⟨#[226, 128, 175]⟩, .string ⟨#[95]⟩, .string ⟨#[46]⟩, .string ⟨#[44]⟩] : List Value)).row)
    go_upto_region 10 with (first
      | (go_at_call 62; refine HP.out.mono ?_; rintro e w' ⟨rfl, rfl⟩))
    change Code.wp _ _ _ _ ((w9.alloc (.cells ([.string ⟨#[39]⟩, .string ⟨#[194, 160]⟩, .string ⟨#[226, 128, 175]⟩, .string ⟨#[95]⟩, .string ⟨#[46]⟩, .string ⟨#[44]⟩] : List Value).toArray 9)).setCell ⟨rb, 4, none⟩ (sV (pickL grps v3)))
    have b2 := (HB.out.alloc (.cells ([.string ⟨#[39]⟩, .string ⟨#[194, 160]⟩, .string ⟨#[226, 128, 175]⟩, .string ⟨#[95]⟩, .string ⟨#[46]⟩, .string ⟨#[44]⟩] : List Value).toArray 9)).setCell1 rb (sV (pickL grps v3)) HN1.out 4
    have c2 := (HC.out.alloc (.cells ([.string ⟨#[39]⟩, .string ⟨#[194, 160]⟩, .string ⟨#[226, 128, 175]⟩, .string ⟨#[95]⟩, .string ⟨#[46]⟩, .string ⟨#[44]⟩] : List Value).toArray 9)).setCell1 rb (sV (pickL grps v3)) HN2.out 4
    have d2 : Box ((w9.alloc (.cells ([.string ⟨#[39]⟩, .string ⟨#[194, 160]⟩, .string ⟨#[226, 128, 175]⟩, .string ⟨#[95]⟩, .string ⟨#[46]⟩, .string ⟨#[44]⟩] : List Value).toArray 9)).setCell ⟨rb, 4, none⟩ (sV (pickL grps v3))) rb 45 [sV [120, 120], sV (pickL pats v1), .string (nameOf v0), sV (pickL decs v2), sV (pickL grps v3), sV (pickL mins v4), sV (pickL pcts v5), sV (pickL curs v5)] := (HD.out.alloc (.cells ([.string ⟨#[39]⟩, .string ⟨#[194, 160]⟩, .string ⟨#[226, 128, 175]⟩, .string ⟨#[95]⟩, .string ⟨#[46]⟩, .string ⟨#[44]⟩] : List Value).toArray 9)).setCell 4 (sV (pickL grps v3))
    have x2 := Ext.setCell_ (Ext.alloc_ HX.out (.cells ([.string ⟨#[39]⟩, .string ⟨#[194, 160]⟩, .string ⟨#[226, 128, 175]⟩, .string ⟨#[95]⟩, .string ⟨#[46]⟩, .string ⟨#[44]⟩] : List Value).toArray 9)) (by rw [HGB.out]; exact HG.out) 4 (sV (pickL grps v3))
    clear q1 q2 q3 HP HB HC HD HX p9
    have HB := Lib.hid b2
    have HC := Lib.hid c2
    have HD := Lib.hid d2
    have HX := Lib.hid x2
    clear b2 c2 d2 x2
    generalize (w9.alloc (.cells ([.string ⟨#[39]⟩, .string ⟨#[194, 160]⟩, .string ⟨#[226, 128, 175]⟩, .string ⟨#[95]⟩, .string ⟨#[46]⟩, .string ⟨#[44]⟩] : List Value).toArray 9)).setCell ⟨rb, 4, none⟩ (sV (pickL grps v3)) = w10 at *
    have q4 := HD.out.cell (j := 4) (v := .string ⟨(pickL grps v3).toArray⟩) rfl
    have q5 := HD.out.cell (j := 3) (v := .string ⟨(pickL decs v2).toArray⟩) rfl
    have q6 := HD.out.frozen 4
    by_cases he : pickL grps v3 = pickL decs v2
    · have hd : (pickL grps v3 == pickL decs v2) = true := by rw [he]; simp
      have c3 := HC.out.setCell1 rb (.string ⟨#[32]⟩) HN2.out 4
      have d3 : Box (w10.setCell ⟨rb, 4, none⟩ (.string ⟨#[32]⟩)) rb 45 [sV [120, 120], sV (pickL pats v1), .string (nameOf v0), sV (pickL decs v2), .string ⟨#[32]⟩, sV (pickL mins v4), sV (pickL pcts v5), sV (pickL curs v5)] := HD.out.setCell 4 (.string ⟨#[32]⟩)
      have x3 := Ext.setCell_ HX.out (by rw [HGB.out]; exact HG.out) 4 (.string ⟨#[32]⟩)
      have HC3 := Lib.hid c3
      have HD3 := Lib.hid d3
      have HX3 := Lib.hid x3
      clear c3 d3 x3
      go_upto_region 12 with fail
      change Code.wp _ _ _ _ (w10.setCell ⟨rb, 4, none⟩ (.string ⟨#[32]⟩))
      generalize w10.setCell ⟨rb, 4, none⟩ (.string ⟨#[32]⟩) = w11 at *
      go_wp2_with (first
        | (refine wpList_load_mid rfl 45 (.tmp 3) rfl rb 0 rfl [sV [120, 120], sV (pickL pats v1), .string (nameOf v0), sV (pickL decs v2), .string ⟨#[32]⟩, sV (pickL mins v4), sV (pickL pcts v5), sV (pickL curs v5)] _ HD3.out.range Tryz.underlying45 rfl infoR ?_)
        | (refine wpList_store_row rfl 45 (.tmp 2) (.tmp 55) rfl tb ([sV [120, 120], sV (pickL pats v1), .string (nameOf v0), sV (pickL decs v2), .string ⟨#[32]⟩, sV (pickL mins v4), sV (pickL pcts v5), sV (pickL curs v5)] : List Value).toArray rfl rfl _ _ HC3.out infoR rfl (by simp [Value.oneCell', sV]) ?_))
      have hb2 := HC3.out.set ([sV [120, 120], sV (pickL pats v1), .string (nameOf v0), sV (pickL decs v2), .string ⟨#[32]⟩, sV (pickL mins v4), sV (pickL pcts v5), sV (pickL curs v5)] : List Value).toArray
      refine bodyPost_ret (v := .agg ([sV [120, 120], sV (pickL pats v1), .string (nameOf v0), sV (pickL decs v2), .string ⟨#[32]⟩, sV (pickL mins v4), sV (pickL pcts v5), sV (pickL curs v5)] : List Value).toArray) (results_cell_row rfl _ _ tb _ _ _ _ rfl hb2 Tryz.underlying45 rfl infoR) rfl ⟨?_, Ext.setRow HX3.out (by rw [HGB.out]; exact HT.out) _⟩
      have hgr : goodGrp v2 v3 (patAt (aroundF v1 10).toNat) = [32] := by unfold goodGrp; rw [HPP.out, if_pos hg, if_pos he]
      simp [goodR, recV, hgr, sV]
    · have hd : (pickL grps v3 == pickL decs v2) = false := by simpa using he
      go_wp2_with (first
        | (refine wpList_load_mid rfl 45 (.tmp 3) rfl rb 0 rfl [sV [120, 120], sV (pickL pats v1), .string (nameOf v0), sV (pickL decs v2), sV (pickL grps v3), sV (pickL mins v4), sV (pickL pcts v5), sV (pickL curs v5)] _ HD.out.range Tryz.underlying45 rfl infoR ?_)
        | (refine wpList_store_row rfl 45 (.tmp 2) (.tmp 55) rfl tb ([sV [120, 120], sV (pickL pats v1), .string (nameOf v0), sV (pickL decs v2), sV (pickL grps v3), sV (pickL mins v4), sV (pickL pcts v5), sV (pickL curs v5)] : List Value).toArray rfl rfl _ _ HC.out infoR rfl (by simp [Value.oneCell', sV]) ?_))
      have hb2 := HC.out.set ([sV [120, 120], sV (pickL pats v1), .string (nameOf v0), sV (pickL decs v2), sV (pickL grps v3), sV (pickL mins v4), sV (pickL pcts v5), sV (pickL curs v5)] : List Value).toArray
      refine bodyPost_ret (v := .agg ([sV [120, 120], sV (pickL pats v1), .string (nameOf v0), sV (pickL decs v2), sV (pickL grps v3), sV (pickL mins v4), sV (pickL pcts v5), sV (pickL curs v5)] : List Value).toArray) (results_cell_row rfl _ _ tb _ _ _ _ rfl hb2 Tryz.underlying45 rfl infoR) rfl ⟨?_, Ext.setRow HX.out (by rw [HGB.out]; exact HT.out) _⟩
      have hgr : goodGrp v2 v3 (patAt (aroundF v1 10).toNat) = pickL grps v3 := by unfold goodGrp; rw [HPP.out, if_pos hg, if_neg he]
      simp [goodR, recV, hgr, sV]
  · have hgi : ¬ (0 : Int) < p.num.prim := hg
    go_wp2_with (first
      | (refine wpList_load_mid rfl 45 (.tmp 3) rfl rb 0 rfl [sV [120, 120], sV (pickL pats v1), .string (nameOf v0), sV (pickL decs v2), sV [], sV (pickL mins v4), sV (pickL pcts v5), sV (pickL curs v5)] _ HD.out.range Tryz.underlying45 rfl infoR ?_)
      | (refine wpList_store_row rfl 45 (.tmp 2) (.tmp 55) rfl tb ([sV [120, 120], sV (pickL pats v1), .string (nameOf v0), sV (pickL decs v2), sV [], sV (pickL mins v4), sV (pickL pcts v5), sV (pickL curs v5)] : List Value).toArray rfl rfl _ _ HC.out infoR rfl (by simp [Value.oneCell', sV]) ?_))
    have hb2 := HC.out.set ([sV [120, 120], sV (pickL pats v1), .string (nameOf v0), sV (pickL decs v2), sV [], sV (pickL mins v4), sV (pickL pcts v5), sV (pickL curs v5)] : List Value).toArray
    refine bodyPost_ret (v := .agg ([sV [120, 120], sV (pickL pats v1), .string (nameOf v0), sV (pickL decs v2), sV [], sV (pickL mins v4), sV (pickL pcts v5), sV (pickL curs v5)] : List Value).toArray) (results_cell_row rfl _ _ tb _ _ _ _ rfl hb2 Tryz.underlying45 rfl infoR) rfl ⟨?_, Ext.setRow HX.out (by rw [HGB.out]; exact HT.out) _⟩
    have hgr : goodGrp v2 v3 (patAt (aroundF v1 10).toNat) = [] := by unfold goodGrp; rw [HPP.out, if_neg (by omega)]
    simp [goodR, recV, hgr, sV]
end Go.Proofs.YtdkjkbbibdppoaaGreatDoor.Loc
