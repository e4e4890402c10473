/- The law PatternLong: a number of more than 64 signs is refused. -/
import Derived.Test.YtbnlbkmihemicaaDoorPatL
namespace Go.Proofs.YtbnlbkmihemicaaDoor.Pat
open Go.RowKit Utf All Small Strs Build EncC
set_option linter.unusedVariables false
set_option linter.unusedSimpArgs false

/-- the error that a text's reading tells -/
def errN : Except Int Pt → Int
  | .ok _ => 0
  | .error x => x
theorem parse_code (s : ByteArray) (w : World) (hs : s.size ≤ 100000000) :
    Calls Tryd.prog 14 #[.string s] w fun e w' => ∃ A n c B m d C o a D q b x, e = .returned (.tuple #[.agg (patC (.slice A n c) (.slice B m d) (.slice C o a) (.slice D q b) x).toArray, .int .i64 (errN (parseF s.data.toList))]) ∧ Ext w w' :=
  (parse_ s w hs).mono fun e w' h => by
    cases hp : parseF s.data.toList with
    | error x => rw [hp] at h; exact ⟨none, 0, 0, none, 0, 0, none, 0, 0, none, 0, 0, zeroN, h.1, h.2⟩
    | ok p =>
      rw [hp] at h
      obtain ⟨A, c, B, d, C, a, D, b, rfl, _, _, _, _, _, _, _, _, hx⟩ := h
      exact ⟨A, _, c, B, _, d, C, _, a, D, _, b, p.num, rfl, hx⟩
theorem parse_codeL (t : List UInt8) (w : World) (hs : t.length ≤ 100000000) :
    Calls Tryd.prog 14 #[.string ⟨t.toArray⟩] w fun e w' => ∃ A n c B m d C o a D q b x, e = .returned (.tuple #[.agg (patC (.slice A n c) (.slice B m d) (.slice C o a) (.slice D q b) x).toArray, .int .i64 (errN (parseF t))]) ∧ Ext w w' :=
  parse_code ⟨t.toArray⟩ w hs
def zs (k : Nat) : List UInt8 := List.replicate k 48
theorem zs_len (k : Nat) : (zs k).length ≤ k := by simp [zs]
theorem zs_succ (k : Nat) : (⟨(zs k).toArray⟩ : ByteArray) ++ ⟨#[48]⟩ = ⟨(zs (k + 1)).toArray⟩ := by
  have : (⟨#[48]⟩ : ByteArray) = ⟨([48] : List UInt8).toArray⟩ := rfl
  rw [this, app_mk]
  congr 2
  unfold zs
  rw [List.replicate_succ']
def txs (k : Nat) : List (List UInt8) := [zs k, [48, 46] ++ zs k, [35, 59] ++ zs k, [35, 59, 48, 46] ++ zs k]
def wantN (k : Nat) : Int := if 64 < k then 3 else 0
theorem long_all : ∀ j : Fin 10, (txs (60 + j.val)).all (fun t => decide (errN (parseF t) = wantN (60 + j.val)) && decide (errN (parseF (t ++ [39])) = 2) && decide (t.length ≤ 100)) = true := by decide +kernel
theorem long_of {j : Nat} (hj : j < 10) {i : Nat} {t : List UInt8} (hi : (txs (60 + j))[i]? = some t) : errN (parseF t) = wantN (60 + j) ∧ errN (parseF (t ++ [39])) = 2 ∧ t.length ≤ 100 := by
  have := List.all_eq_true.1 (long_all ⟨j, hj⟩) t (List.mem_of_getElem? hi)
  simpa [and_assoc] using this
theorem long_at (k i : Nat) (hi : i < 4) : ∃ t, (txs k)[i]? = some t := by
  match i, hi with
  | 0, _ => exact ⟨_, rfl⟩
  | 1, _ => exact ⟨_, rfl⟩
  | 2, _ => exact ⟨_, rfl⟩
  | 3, _ => exact ⟨_, rfl⟩
set_option maxHeartbeats 4000000 in
set_option maxRecDepth 100000 in
theorem law_PatternLong (n : Int) (w : World) (h1 : -9223372036854775808 ≤ n) (h2 : n ≤ 9223372036854775807) (h0 : 0 < w.heap.size) (HM : ∃ m, w.cell? ⟨0, 0, none⟩ = some (.int .i64 m)) :
    Calls Tryd.prog 4 #[.int .i64 n] w fun e w' => e = .returned (.bool true) ∧ Below w.heap.size w w' := by
  obtain ⟨j, hj, hjn⟩ : ∃ j : Nat, j < 10 ∧ aroundF n 10 = j := by
    have := aroundF_bd n 10 (by omega)
    exact ⟨(aroundF n 10).toNat, by omega, by omega⟩
  have HJ := Lib.hid hjn
  clear hjn
  go_enter Tryd.func4, Tryd.ntmps4
  go_wp2_with fail
  refine (around n 10 w h1 h2 (by decide) (by decide)).mono ?_; rintro e w' ⟨rfl, rfl⟩; rw [HJ.out]
  go_wp2
  go_loop [4, 5] (fun s i => ∃ k : Nat, k ≤ 60 + j ∧ i = .int .i64 k ∧ s = .string ⟨(zs k).toArray⟩) (fun _ i => 60 + j - (intOf i).toNat)
  case atStart => exact ⟨0, Nat.zero_le _, rfl, rfl⟩
  case round =>
    obtain ⟨k, hk, rfl, rfl⟩ := hrel
    have hz := zs_len k
    by_cases hlt : k < 60 + j
    · have HZ := Lib.hid (zs_succ k)
      have hlt' : (k : Int) < 60 + (j : Int) := by omega
      go_wp2
      go_round
      case rel => exact ⟨k + 1, by omega, by go_num, by rw [HZ.out]⟩
      case measure => simp [intOf]; omega
    · have e : k = 60 + j := by omega
      have hlt' : ¬ ((k : Int) < 60 + (j : Int)) := by omega
      have HE := Lib.hid e
      have hb := Box.new w 9 ((txs k).map strV)
      have hx := Ext.alloc_ (Ext.refl w) (.cells ((txs k).map strV).toArray 9)
      have HB : Hid (Row (w.alloc (.cells ((txs k).map strV).toArray 9)) (some ⟨w.heap.size, 0, none⟩) ((txs k).map strV)) := Lib.hid hb.row
      clear e
      have ea1 : (⟨#[48, 46]⟩ : ByteArray) ++ ⟨(zs k).toArray⟩ = ⟨([48, 46] ++ zs k).toArray⟩ := app_mk [48, 46] (zs k)
      have ea2 : (⟨#[35, 59]⟩ : ByteArray) ++ ⟨(zs k).toArray⟩ = ⟨([35, 59] ++ zs k).toArray⟩ := app_mk [35, 59] (zs k)
      have ea3 : (⟨#[35, 59, 48, 46]⟩ : ByteArray) ++ ⟨(zs k).toArray⟩ = ⟨([35, 59, 48, 46] ++ zs k).toArray⟩ := app_mk [35, 59, 48, 46] (zs k)
      have ea39 : ∀ t : List UInt8, (⟨t.toArray⟩ : ByteArray) ++ ⟨#[39]⟩ = ⟨(t ++ [39]).toArray⟩ := fun t => app_mk t [39]
      have EA1 := Lib.hid ea1
      have EA2 := Lib.hid ea2
      have EA3 := Lib.hid ea3
      have EA39 := Lib.hid ea39
      clear ea1 ea2 ea3 ea39
      by_cases h64 : 64 < k
      · have HW : Hid (wantN (60 + j) = 3) := Lib.hid (by unfold wantN; rw [if_pos (by have := HE.out; omega)])
        have h64' : (60 : Int) + (j : Int) > 64 := by have := HE.out; omega
        go_wp2
        rw [EA1.out, EA2.out, EA3.out]
        change Code.wp _ _ _ _ (w.alloc (.cells ((txs k).map strV).toArray 9))
        generalize w.alloc (.cells ((txs k).map strV).toArray 9) = w1 at *
        go_loopw [8] (fun i wr => ∃ i' : Nat, i' ≤ 4 ∧ i = .int .i64 i' ∧ Ext w1 wr) (fun i _ => 4 - (intOf i).toNat)
        case atStart => exact ⟨0, by omega, rfl, Ext.refl _⟩
        case round =>
          obtain ⟨i, hi, rfl, hxr⟩ := hrel
          by_cases hlt4 : i < 4
          · obtain ⟨t, ht⟩ := long_at k i hlt4
            obtain ⟨e1, e2, e3⟩ := long_of hj (by rw [← HE.out]; exact ht)
            have E1 : Hid (errN (parseF t) = 3) := Lib.hid (e1.trans HW.out)
            have E2 := Lib.hid e2
            have HT := Lib.hid ht
            have hc : wr.cell? ⟨w.heap.size, i, none⟩ = some (.string ⟨t.toArray⟩) := Ext.cell_ hxr (HB.out.cell00 (by rw [List.getElem?_map, HT.out]; rfl))
            have HXR := Lib.hid hxr
            clear e1 e2 ht hxr
            go_wp2_with fail
            refine (parse_codeL t _ (by omega)).mono ?_; rintro e w2 ⟨A, na, ca, B, nb, cb, C, nc, cc, D, nd, cd, x, rfl, hx2⟩; rw [E1.out]
            have hx3 : Ext w1 (w2.alloc (.cells (patC (.slice A na ca) (.slice B nb cb) (.slice C nc cc) (.slice D nd cd) x).toArray 37)) := Ext.alloc_ (HXR.out.trans hx2) _
            have hc2 : (w2.alloc (.cells (patC (.slice A na ca) (.slice B nb cb) (.slice C nc cc) (.slice D nd cd) x).toArray 37)).cell? ⟨w.heap.size, i, none⟩ = some (.string ⟨t.toArray⟩) := Ext.cell_ hx3 (HB.out.cell00 (by rw [List.getElem?_map, HT.out]; rfl))
            have HX3 := Lib.hid hx3
            clear hx3
            go_wp2_with (refine wpList_store_fresh rfl 37 (.tmp 9) (.tmp 43) rfl (patC (.slice A na ca) (.slice B nb cb) (.slice C nc cc) (.slice D nd cd) x).toArray 37 _ rfl rfl infoPat rfl pat_one ?_)
            rw [EA39.out t]
            refine (parse_codeL (t ++ [39]) _ (by simp; omega)).mono ?_; rintro e w4 ⟨A', na', ca', B', nb', cb', C', nc', cc', D', nd', cd', x', rfl, hx4⟩; rw [E2.out]
            go_wp2_with (refine wpList_store_fresh rfl 37 (.tmp 11) (.tmp 52) rfl (patC (.slice A' na' ca') (.slice B' nb' cb') (.slice C' nc' cc') (.slice D' nd' cd') x').toArray 37 _ rfl rfl infoPat rfl pat_one ?_)
            refine ⟨?_, ?measure⟩
            case measure => simp [intOf]; omega
            iterate 34 (apply Exists.intro)
            exact ⟨⟨i + 1, by omega, by go_num, Ext.alloc_ (HX3.out.trans hx4) _⟩, rfl⟩
          · have e4 : i = 4 := by omega
            subst e4
            have hxw := Ext.trans hx hxr
            have HXW := Lib.hid hxw
            have h0r : 0 < wr.heap.size := by have := hxw.size; omega
            have HMr : ∃ m, wr.cell? ⟨0, 0, none⟩ = some (.int .i64 m) := by
              obtain ⟨m, hm⟩ := HM
              exact ⟨m, Ext.cell_ hxw hm⟩
            clear hxw
            go_wp2_with fail
            refine (lives_ wr h0r HMr).mono ?_; rintro e w5 ⟨rfl, hx5⟩
            go_wp2
            go_ret
            exact ⟨rfl, HXW.out.trans hx5⟩
      · have HW : Hid (wantN (60 + j) = 0) := Lib.hid (by unfold wantN; rw [if_neg (by have := HE.out; omega)])
        have h64' : ¬ ((60 : Int) + (j : Int) > 64) := by have := HE.out; omega
        go_wp2
        rw [EA1.out, EA2.out, EA3.out]
        change Code.wp _ _ _ _ (w.alloc (.cells ((txs k).map strV).toArray 9))
        generalize w.alloc (.cells ((txs k).map strV).toArray 9) = w1 at *
        go_loopw [8] (fun i wr => ∃ i' : Nat, i' ≤ 4 ∧ i = .int .i64 i' ∧ Ext w1 wr) (fun i _ => 4 - (intOf i).toNat)
        case atStart => exact ⟨0, by omega, rfl, Ext.refl _⟩
        case round =>
          obtain ⟨i, hi, rfl, hxr⟩ := hrel
          by_cases hlt4 : i < 4
          · obtain ⟨t, ht⟩ := long_at k i hlt4
            obtain ⟨e1, e2, e3⟩ := long_of hj (by rw [← HE.out]; exact ht)
            have E1 : Hid (errN (parseF t) = 0) := Lib.hid (e1.trans HW.out)
            have E2 := Lib.hid e2
            have HT := Lib.hid ht
            have hc : wr.cell? ⟨w.heap.size, i, none⟩ = some (.string ⟨t.toArray⟩) := Ext.cell_ hxr (HB.out.cell00 (by rw [List.getElem?_map, HT.out]; rfl))
            have HXR := Lib.hid hxr
            clear e1 e2 ht hxr
            go_wp2_with fail
            refine (parse_codeL t _ (by omega)).mono ?_; rintro e w2 ⟨A, na, ca, B, nb, cb, C, nc, cc, D, nd, cd, x, rfl, hx2⟩; rw [E1.out]
            have hx3 : Ext w1 (w2.alloc (.cells (patC (.slice A na ca) (.slice B nb cb) (.slice C nc cc) (.slice D nd cd) x).toArray 37)) := Ext.alloc_ (HXR.out.trans hx2) _
            have hc2 : (w2.alloc (.cells (patC (.slice A na ca) (.slice B nb cb) (.slice C nc cc) (.slice D nd cd) x).toArray 37)).cell? ⟨w.heap.size, i, none⟩ = some (.string ⟨t.toArray⟩) := Ext.cell_ hx3 (HB.out.cell00 (by rw [List.getElem?_map, HT.out]; rfl))
            have HX3 := Lib.hid hx3
            clear hx3
            go_wp2_with (refine wpList_store_fresh rfl 37 (.tmp 9) (.tmp 43) rfl (patC (.slice A na ca) (.slice B nb cb) (.slice C nc cc) (.slice D nd cd) x).toArray 37 _ rfl rfl infoPat rfl pat_one ?_)
            rw [EA39.out t]
            refine (parse_codeL (t ++ [39]) _ (by simp; omega)).mono ?_; rintro e w4 ⟨A', na', ca', B', nb', cb', C', nc', cc', D', nd', cd', x', rfl, hx4⟩; rw [E2.out]
            go_wp2_with (refine wpList_store_fresh rfl 37 (.tmp 11) (.tmp 52) rfl (patC (.slice A' na' ca') (.slice B' nb' cb') (.slice C' nc' cc') (.slice D' nd' cd') x').toArray 37 _ rfl rfl infoPat rfl pat_one ?_)
            refine ⟨?_, ?measure⟩
            case measure => simp [intOf]; omega
            iterate 34 (apply Exists.intro)
            exact ⟨⟨i + 1, by omega, by go_num, Ext.alloc_ (HX3.out.trans hx4) _⟩, rfl⟩
          · have e4 : i = 4 := by omega
            subst e4
            have hxw := Ext.trans hx hxr
            have HXW := Lib.hid hxw
            have h0r : 0 < wr.heap.size := by have := hxw.size; omega
            have HMr : ∃ m, wr.cell? ⟨0, 0, none⟩ = some (.int .i64 m) := by
              obtain ⟨m, hm⟩ := HM
              exact ⟨m, Ext.cell_ hxw hm⟩
            clear hxw
            go_wp2_with fail
            refine (lives_ wr h0r HMr).mono ?_; rintro e w5 ⟨rfl, hx5⟩
            go_wp2
            go_ret
            exact ⟨rfl, HXW.out.trans hx5⟩
end Go.Proofs.YtbnlbkmihemicaaDoor.Pat
