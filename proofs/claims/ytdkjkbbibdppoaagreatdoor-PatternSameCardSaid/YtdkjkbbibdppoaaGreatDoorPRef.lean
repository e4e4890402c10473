/- The document's own reading of patterns: what a character is; pieces of a text. -/
import Derived.Test.YtdkjkbbibdppoaaGreatDoorPatZ
import Derived.Deep.DeepCutAuto
import Derived.Deep.RegionHeld3
import Derived.Deep.RegionWith
namespace Go.Proofs.YtdkjkbbibdppoaaGreatDoor.Pat
open Go.RowKit Utf All Small Strs Build EncC
set_option linter.unusedVariables false
set_option linter.unusedSimpArgs false

theorem ei_b : EI 33 106 2 24 := ei_of (z := .agg #[.int .i64 0, .string ⟨#[]⟩]) Tryz.underlying33 (by kernel_rfl) rfl (by decide)
/-- is a character one of few bytes? -/
def inL (c : Int) (l : List UInt8) : Bool := l.any fun b => c == (b.toNat : Int)
theorem any_snoc' {c : Int} {l : List UInt8} {k : Nat} (hk : k < l.length) : (l.take (k + 1)).any (fun b => c == (b.toNat : Int)) = ((l.take k).any (fun b => c == (b.toNat : Int)) || (c == (l[k].toNat : Int))) := by
  rw [List.take_succ_eq_append_getElem hk, List.any_append]; simp
set_option maxHeartbeats 1000000 in
theorem in_ (c : Int) (s : ByteArray) (w : World) (hs : s.size ≤ 100) : Calls Tryz.prog 151 #[.int .i64 c, .string s] w fun e w' => e = .returned (.bool (inL c s.data.toList)) ∧ w = w' := by
  have hlen : s.data.toList.length = s.size := by simp
  go_enter Tryz.func151, Tryz.ntmps151
  go_wp2
  go_loop [5] (fun i => ∃ k : Nat, k ≤ s.size ∧ i = .int .i64 k ∧ Hid ((s.data.toList.take k).any (fun b => c == (b.toNat : Int)) = false)) (fun i => s.size - (intOf i).toNat)
  case atStart => exact ⟨0, Nat.zero_le _, rfl, Lib.hid (by simp)⟩
  case round =>
    obtain ⟨k, hk, rfl, HK⟩ := hrel
    by_cases hlt : k < s.size
    · have hlt2 : k < s.data.toList.length := by omega
      have hsk : s.data.toList[k] = s[k] := by simp; rfl
      have HS := Lib.hid (any_snoc' (c := c) hlt2)
      rw [hsk] at HS
      have hw : wrap64 ((s[k]'hlt).toNat : Int) = ((s[k]'hlt).toNat : Int) := by
        have := (s[k]'hlt).toNat_lt
        unfold wrap64; omega
      have HW := Lib.hid hw
      clear hw
      cases hb : (c == ((s[k]'hlt).toNat : Int))
      · have hb' : (c == wrap64 ((s[k]'hlt).toNat : Int)) = false := by rw [HW.out]; exact hb
        have HB := Lib.hid hb
        clear hb
        go_wp2
        go_round
        case rel => exact ⟨k + 1, by omega, by go_num, Lib.hid (by rw [HS.out, HK.out, HB.out]; rfl)⟩
        case measure => simp [intOf]; omega
      · have hb' : (c == wrap64 ((s[k]'hlt).toNat : Int)) = true := by rw [HW.out]; exact hb
        have HR : Hid (inL c s.data.toList = true) := Lib.hid (by
          unfold inL
          rw [List.any_eq_true]
          exact ⟨s.data.toList[k], List.getElem_mem hlt2, by rw [hsk]; exact hb⟩)
        clear hb
        go_wp2
        go_ret
        exact ⟨by rw [HR.out]; rfl, rfl⟩
    · have e : k = s.size := by omega
      subst e
      have HR : Hid (inL c s.data.toList = false) := Lib.hid (by
        have := HK.out
        rw [List.take_of_length_le (by omega)] at this
        exact this)
      go_wp2
      go_ret
      exact ⟨by rw [HR.out]; rfl, rfl⟩
/-- what a character is, as the document has it -/
def kindR (c : Int) : Int := if kindL c < 0 then 6 else kindL c
theorem inL_signs (c : Int) : inL c [35, 48, 44, 46] = decide (c = 35 ∨ c = 48 ∨ c = 44 ∨ c = 46) := by
  unfold inL
  rw [Bool.eq_iff_iff, decide_eq_true_iff]
  simp
theorem inL_wrong (c : Int) : inL c [49, 50, 51, 52, 53, 54, 55, 56, 57, 64, 42, 43, 69] = decide ((49 ≤ c ∧ c ≤ 57) ∨ c = 64 ∨ c = 42 ∨ c = 43 ∨ c = 69) := by
  unfold inL
  rw [Bool.eq_iff_iff, decide_eq_true_iff]
  simp
  omega
set_option maxHeartbeats 1000000 in
theorem kind_ref (c : Int) (w : World) : Calls Tryz.prog 99 #[.int .i64 c] w fun e w' => e = .returned (.int .i64 (kindR c)) ∧ w = w' := by
  by_cases e1 : c = 164
  · subst e1; go_enter Tryz.func99, Tryz.ntmps99; go_wp2; go_ret; exact ⟨rfl, rfl⟩
  by_cases e2 : c = 37
  · subst e2; go_enter Tryz.func99, Tryz.ntmps99; go_wp2; go_ret; exact ⟨rfl, rfl⟩
  by_cases e3 : c = 45
  · subst e3; go_enter Tryz.func99, Tryz.ntmps99; go_wp2; go_ret; exact ⟨rfl, rfl⟩
  have b1 : (c == 164) = false := by simpa using e1
  have b2 : (c == 37) = false := by simpa using e2
  have b3 : (c == 45) = false := by simpa using e3
  have hA := in_ c ⟨#[35, 48, 44, 46]⟩ w (by decide)
  have hA' : Calls Tryz.prog 151 #[.int .i64 c, .string ⟨#[35, 48, 44, 46]⟩] w fun e w' => e = .returned (.bool (decide (c = 35 ∨ c = 48 ∨ c = 44 ∨ c = 46))) ∧ w = w' := by rw [← inL_signs]; exact hA
  have hB := in_ c ⟨#[49, 50, 51, 52, 53, 54, 55, 56, 57, 64, 42, 43, 69]⟩ w (by decide)
  have hB' : Calls Tryz.prog 151 #[.int .i64 c, .string ⟨#[49, 50, 51, 52, 53, 54, 55, 56, 57, 64, 42, 43, 69]⟩] w fun e w' => e = .returned (.bool (decide ((49 ≤ c ∧ c ≤ 57) ∨ c = 64 ∨ c = 42 ∨ c = 43 ∨ c = 69))) ∧ w = w' := by rw [← inL_wrong]; exact hB
  have HA := Lib.hid hA'
  have HB := Lib.hid hB'
  clear hA hA' hB hB'
  by_cases s1 : c = 35 ∨ c = 48 ∨ c = 44 ∨ c = 46
  · have HK : Hid (kindR c = 4) := Lib.hid (by
      have hk : kindL c = 4 := by unfold kindL; rw [if_neg e1, if_neg e2, if_neg e3, if_neg (by omega), if_pos s1]
      unfold kindR; rw [hk]; rfl)
    rw [decide_eq_true s1] at HA
    clear s1 HB
    go_enter Tryz.func99, Tryz.ntmps99
    go_wp2_with fail
    refine HA.out.mono ?_; rintro e w' ⟨rfl, rfl⟩
    go_wp2
    go_ret
    exact ⟨by rw [HK.out]; rfl, rfl⟩
  rw [decide_eq_false s1] at HA
  by_cases e4 : c = 59
  · subst e4
    clear s1 HB
    go_enter Tryz.func99, Tryz.ntmps99
    go_wp2_with fail
    refine HA.out.mono ?_; rintro e w' ⟨rfl, rfl⟩
    go_wp2
    go_ret
    exact ⟨rfl, rfl⟩
  have b4 : (c == 59) = false := by simpa using e4
  by_cases s2 : (49 ≤ c ∧ c ≤ 57) ∨ c = 64 ∨ c = 42 ∨ c = 43 ∨ c = 69
  · have HK : Hid (kindR c = 6) := Lib.hid (by unfold kindR kindL; rw [if_neg e1, if_neg e2, if_neg e3, if_neg e4, if_neg s1, if_pos s2]; rfl)
    rw [decide_eq_true s2] at HB
    clear s1 s2
    go_enter Tryz.func99, Tryz.ntmps99
    go_wp2_with fail
    refine HA.out.mono ?_; rintro e w' ⟨rfl, rfl⟩
    go_wp2_with fail
    refine HB.out.mono ?_; rintro e w' ⟨rfl, rfl⟩
    go_wp2
    go_ret
    exact ⟨by rw [HK.out]; rfl, rfl⟩
  · have HK : Hid (kindR c = 0) := Lib.hid (by unfold kindR kindL; rw [if_neg e1, if_neg e2, if_neg e3, if_neg e4, if_neg s1, if_neg s2]; rfl)
    rw [decide_eq_false s2] at HB
    clear s1 s2
    go_enter Tryz.func99, Tryz.ntmps99
    go_wp2_with fail
    refine HA.out.mono ?_; rintro e w' ⟨rfl, rfl⟩
    go_wp2_with fail
    refine HB.out.mono ?_; rintro e w' ⟨rfl, rfl⟩
    go_wp2
    go_ret
    exact ⟨by rw [HK.out]; rfl, rfl⟩

def restOf (b : Bool) (xs : List Int) (acc l : List Pc) : Prop := ∃ r, tokS b false xs = some r ∧ acc ++ r = l
theorem rest_quote {b : Bool} {r : List Int} {acc l : List Pc} (h : restOf b (39 :: 39 :: r) acc l) : restOf b r (acc ++ [(0, encB 39)]) l := by
  obtain ⟨t, ht, hl⟩ := h
  rw [tokS_quote, tokS, if_pos rfl] at ht
  obtain ⟨m, hm, rfl⟩ := Option.map_eq_some_iff.1 ht
  exact ⟨m, hm, by simpa using hl⟩
theorem rest_toggle {b : Bool} {r : List Int} {acc l : List Pc} (h : restOf b (39 :: r) acc l) (hn : noQ r = true) : restOf (!b) r acc l := by
  obtain ⟨t, ht, hl⟩ := h
  rw [tokS_quote, tokS_toggle b r (noQ_ne hn)] at ht
  exact ⟨t, ht, hl⟩
theorem rest_in {c : Int} {r : List Int} {acc l : List Pc} (hc : c ≠ 39) (h : restOf true (c :: r) acc l) : restOf true r (acc ++ [(0, encB c)]) l := by
  obtain ⟨t, ht, hl⟩ := h
  rw [tokS, if_neg hc, if_pos rfl] at ht
  obtain ⟨m, hm, rfl⟩ := Option.map_eq_some_iff.1 ht
  exact ⟨m, hm, by simpa using hl⟩
theorem rest_out {c : Int} {r : List Int} {acc l : List Pc} (hc : c ≠ 39) (h : restOf false (c :: r) acc l) : 0 ≤ kindL c ∧ restOf false r (acc ++ [(kindL c, encB c)]) l := by
  obtain ⟨t, ht, hl⟩ := h
  rw [tokS, if_neg hc] at ht
  simp only [Bool.false_eq_true, if_false] at ht
  split at ht
  · cases ht
  · obtain ⟨m, hm, rfl⟩ := Option.map_eq_some_iff.1 ht
    exact ⟨by omega, m, hm, by simpa using hl⟩
theorem rest_end {b : Bool} {acc l : List Pc} (h : restOf b [] acc l) : b = false ∧ acc = l := by
  obtain ⟨t, ht, hl⟩ := h
  cases b <;> simp [tokS] at ht
  subst ht
  exact ⟨rfl, by simpa using hl⟩
theorem str_39 : (⟨(encB 39).toArray⟩ : ByteArray) = ⟨#[39]⟩ := by rw [encB_39]
set_option maxRecDepth 100000 in
set_option maxHeartbeats 4000000 in
theorem tokens_ref (s : ByteArray) (l : List Pc) (w : World) (hs : s.size ≤ 1000000) (ht : tokL s.data.toList = some l) :
    Calls Tryz.prog 55 #[.string s] w fun e w' => ∃ A c, e = .returned (.tuple #[.slice A l.length c, .bool true]) ∧ Row w' A (pcsV l) ∧ l.length ≤ c ∧ Okc A c ∧ Ext w w' := by
  go_enter Tryz.func55, Tryz.ntmps55
  go_wp2_with fail
  refine (ref_all s _ (by omega)).mono ?_; rintro e w1 ⟨X, cX, Y, cY, rfl, hrow, hrow2, hx⟩
  have hbd := charsL_bd s.data.toList
  have hcl := chars_len s
  have HT : Hid (restOf false (charsL s.data.toList) [] l) := Lib.hid ⟨l, ht, rfl⟩
  clear hrow2 ht
  generalize (startsL s.data.toList).length = ny
  generalize validL s.data.toList = vy
  generalize charsL s.data.toList = xs at *
  have HX := Lib.hid hx
  have HBD := Lib.hid hbd
  clear hx hbd
  go_wp2
  go_loopw [7, 8, 9, 10, 11] (fun out q i _ _ wr => ∃ (k : Nat) (acc : List Pc) (b : Bool) (A : Option Addr) (c : Nat), k ≤ xs.length ∧ i = .int .i64 k ∧ q = .bool b ∧ out = .slice A acc.length c ∧ Acc 106 2 w1 wr A c acc.length (pcsV acc) ∧ acc.length ≤ k ∧ Hid (restOf b (xs.drop k) acc l)) (fun _ _ i _ _ _ => xs.length - (intOf i).toNat)
  case atStart => exact ⟨0, [], false, none, 0, Nat.zero_le _, rfl, rfl, rfl, Acc.start _ _ _, Nat.le_refl _, HT⟩
  case round =>
    obtain ⟨k, acc, b, A, c, hk, rfl, rfl, rfl, hacc, hak, HK⟩ := hrel
    by_cases hlt : k < xs.length
    · obtain ⟨bX, oX, rfl, hc⟩ := row_int (hacc.keep hrow) hlt
      have hb := HBD.out _ (List.getElem_mem hlt)
      have HD : Hid (xs.drop k = xs[k] :: xs.drop (k + 1)) := Lib.hid (List.drop_eq_getElem_cons hlt)
      have hbig := hacc.cap
      generalize hv : xs[k] = v at *
      have HV := Lib.hid hv
      clear hv
      obtain ⟨hb0, hb1⟩ := hb
      by_cases hq : v = 39
      · subst hq
        by_cases h2 : k + 1 < xs.length
        · obtain ⟨_, _, e1, hcn⟩ := row_int (hacc.keep hrow) h2
          injection e1 with e1
          injection e1 with e1 e2
          subst e1; subst e2
          have HD2 : Hid (xs.drop (k + 1) = xs[k + 1] :: xs.drop (k + 1 + 1)) := Lib.hid (List.drop_eq_getElem_cons h2)
          generalize hu : xs[k + 1] = u at *
          clear hu
          have hmin : min ((k : Int) + 1) ((xs.length : Int) - 1) = (k : Int) + 1 := by omega
          have hg1 : ((k : Int) + 1) < (xs.length : Int) := by omega
          have hcn' : wr.cell? ⟨bX, oX + (k + 1), none⟩ = some (.int .i64 u) := hcn
          by_cases hq2 : u = 39
          · subst hq2
            have HR : Hid (restOf b (xs.drop (k + 2)) (acc ++ [(0, encB 39)]) l) := Lib.hid (rest_quote (by have := HK.out; rw [HD.out, HD2.out] at this; exact this))
            have hacc2 := hacc.alloc (.cells #[.int .i64 0, .string ⟨#[39]⟩] 106)
            go_wp2_with (at_builtin; refine wp_app ei_b rfl (.tmp 47) (.tmp 49) rfl w1 _ A c acc.length _ rfl hacc [.int .i64 0, .string ⟨#[39]⟩] 1 1 (by rfl) rfl (by simp [Value.oneCell']) (by omega) (by unfold maxLen; omega) ?_; intro A1 c1 w3 hacc3 _ _; clear hacc hacc2)
            refine ⟨?_, by simp [intOf] <;> omega⟩
            exact ⟨k + 2, acc ++ [(0, encB 39)], b, A1, c1, by omega, by go_num, rfl, by simp, by rw [pcsV_app, pcsV_one, str_39]; simpa using hacc3, by simp; omega, HR⟩
          · have hq3 : (u == 39) = false := by simpa using hq2
            have HR : Hid (restOf (!b) (xs.drop (k + 1)) acc l) := Lib.hid (rest_toggle (by have := HK.out; rw [HD.out] at this; exact this) (by rw [HD2.out]; simpa [noQ] using hq2))
            go_wp2_with fail
            refine ⟨?_, by simp [intOf] <;> omega⟩
            exact ⟨k + 1, acc, !b, A, c, by omega, by go_num, rfl, rfl, hacc, by omega, HR⟩
        · have hg1 : ¬ (((k : Int) + 1) < (xs.length : Int)) := by omega
          have HR : Hid (restOf (!b) (xs.drop (k + 1)) acc l) := Lib.hid (rest_toggle (by have := HK.out; rw [HD.out] at this; exact this) (by rw [List.drop_of_length_le (by omega)]; rfl))
          go_wp2_with fail
          refine ⟨?_, by simp [intOf] <;> omega⟩
          exact ⟨k + 1, acc, !b, A, c, by omega, by go_num, rfl, rfl, hacc, by omega, HR⟩
      · have hq1 : (v == 39) = false := by simpa using hq
        cases b
        · obtain ⟨hk0, hR⟩ := rest_out hq (by have := HK.out; rw [HD.out] at this; exact this)
          have HR := Lib.hid hR
          have HKR : Hid (kindR v = kindL v) := Lib.hid (by unfold kindR; rw [if_neg (by omega)])
          have hkb := kindL_bd v
          have hk6 : (kindL v == 6) = false := by simp; omega
          clear hR hk0 hkb
          go_wp2_with fail
          refine (kind_ref v _).mono ?_; rintro e w2 ⟨rfl, rfl⟩; rw [HKR.out]
          go_wp2_with fail
          refine (ref_encode v _).mono ?_; rintro e w2 ⟨rfl, hx2⟩
          have hacc2 := hacc.step hx2
          clear hacc
          go_wp2_with (at_builtin; refine wp_app ei_b rfl (.tmp 59) (.tmp 64) rfl w1 _ A c acc.length _ rfl hacc2 [.int .i64 (kindL v), .string ⟨(encB v).toArray⟩] 1 1 (by rfl) rfl (by simp [Value.oneCell']) (by omega) (by unfold maxLen; omega) ?_; intro A1 c1 w3 hacc3 _ _; clear hacc2)
          refine ⟨?_, by simp [intOf] <;> omega⟩
          exact ⟨k + 1, acc ++ [(kindL v, encB v)], false, A1, c1, by omega, by go_num, rfl, by simp, by rw [pcsV_app, pcsV_one]; simpa using hacc3, by simp; omega, HR⟩
        · have HR := Lib.hid (rest_in hq (by have := HK.out; rw [HD.out] at this; exact this))
          go_wp2_with fail
          refine (ref_encode v _).mono ?_; rintro e w2 ⟨rfl, hx2⟩
          have hacc2 := hacc.step hx2
          clear hacc
          go_wp2_with (at_builtin; refine wp_app ei_b rfl (.tmp 59) (.tmp 64) rfl w1 _ A c acc.length _ rfl hacc2 [.int .i64 0, .string ⟨(encB v).toArray⟩] 1 1 (by rfl) rfl (by simp [Value.oneCell']) (by omega) (by unfold maxLen; omega) ?_; intro A1 c1 w3 hacc3 _ _; clear hacc2)
          refine ⟨?_, by simp [intOf] <;> omega⟩
          exact ⟨k + 1, acc ++ [(0, encB v)], true, A1, c1, by omega, by go_num, rfl, by simp, by rw [pcsV_app, pcsV_one]; simpa using hacc3, by simp; omega, HR⟩
    · have e : k = xs.length := by omega
      subst e
      obtain ⟨rfl, rfl⟩ := rest_end (by have := HK.out; rwa [List.drop_length] at this)
      go_wp2
      go_ret2
      exact ⟨A, c, rfl, hacc.row, hacc.cap.1, Acc.okc hacc, hacc.ext_of HX.out⟩
end Go.Proofs.YtdkjkbbibdppoaaGreatDoor.Pat
