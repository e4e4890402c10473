/- Patterns of numbers: the walk of tokens. -/
import Derived.Test.YtdkjkbbibdppoaaGreatDoorPat
import Derived.Test.YtdkjkbbibdppoaaGreatDoorAcc2
namespace Go.Proofs.YtdkjkbbibdppoaaGreatDoor.Pat
open Go.RowKit Utf All Small
set_option linter.unusedVariables false
set_option linter.unusedSimpArgs false

theorem ei_pc : EI 26 96 2 24 := ei_of (z := .agg #[.int .i64 0, .string ⟨#[]⟩]) Tryz.underlying26 (by kernel_rfl) rfl (by decide)
theorem charsL_bd (l : List UInt8) : ∀ x ∈ charsL l, 0 ≤ x ∧ x ≤ 1114111 := by
  have : ∀ (n : Nat) (l : List UInt8), ∀ x ∈ (piecesN n l).map (·.1), 0 ≤ x ∧ x ≤ 1114111 := by
    intro n
    induction n with
    | zero => intro l x hx; simp [piecesN] at hx
    | succ n ih =>
      intro l x hx
      unfold piecesN at hx
      split at hx
      · simp at hx
      · simp only [List.map_cons, List.mem_cons] at hx
        rcases hx with rfl | hx
        · exact dec_bd l
        · exact ih _ _ hx
  exact this _ l
theorem chars_len (s : ByteArray) : (charsL s.data.toList).length ≤ s.size := by
  unfold charsL
  rw [List.length_map, ← data_len s]
  exact pieces_len _ _ (Nat.le_refl _)

/-- pieces handed back, or a refusal -/
def PcsR (n : Nat) (w : World) : Option (List Pc) → Ending → World → Prop
  | none, e, w' => e = refused ∧ Ext w w'
  | some l, e, w' => ∃ A c, e = .returned (.slice A l.length c) ∧ Row w' A (pcsV l) ∧ l.length ≤ c ∧ l.length ≤ n ∧ c ≤ maxLen ∧ (∀ a, A = some a → w.heap.size ≤ a.block) ∧ Ext w w'
theorem map_cons_app (acc : List Pc) (p : Pc) (o : Option (List Pc)) : (o.map (p :: ·)).map (acc ++ ·) = o.map ((acc ++ [p]) ++ ·) := by cases o <;> simp
theorem slice_new (w : World) (o : Obj) (m c : Nat) : Value.slice (some ⟨w.heap.size + 1, 0, none⟩) m c = .slice (some ⟨(w.alloc o).heap.size, 0, none⟩) m c := by rw [World.size_alloc]
theorem encB_39 : encB 39 = [39] := by decide
theorem agg_pc (k : Int) (l : List UInt8) : (Value.agg #[.int .i64 k, .string ⟨l.toArray⟩]).cells = #[.int .i64 k, .string ⟨l.toArray⟩] := rfl

set_option maxRecDepth 100000 in
set_option maxHeartbeats 2000000 in
theorem tokens_ (s : ByteArray) (w : World) (hs : s.size ≤ 1000000000) :
    Calls Tryz.prog 47 #[.string s] w fun e w' => PcsR s.size w (tokL s.data.toList) e w' := by
  go_enter Tryz.func47, Tryz.ntmps47
  go_wp2_with fail
  refine (utf_all s _ (by omega)).mono ?_; rintro e w1 ⟨X, cX, rfl, hrow, hlc, hcm, hx⟩
  have hbd := charsL_bd s.data.toList
  have hcl := chars_len s
  have HT : Hid (tokL s.data.toList = tokF (charsL s.data.toList)) := Lib.hid rfl
  generalize charsL s.data.toList = xs at *
  have HX := Lib.hid hx
  have HBD := Lib.hid hbd
  clear hx hbd
  go_wp2
  go_loopw [4, 5, 6] (fun out q i wr => ∃ (k : Nat) (acc : List Pc) (b : Bool) (A : Option Addr) (c : Nat), k ≤ xs.length ∧ i = .int .i64 k ∧ q = .bool b ∧ out = .slice A acc.length c ∧ Acc 96 2 w1 wr A c acc.length (pcsV acc) ∧ acc.length ≤ k ∧ Hid (tokF xs = (tokS b false (xs.drop k)).map (acc ++ ·))) (fun _ _ i _ => xs.length - (intOf i).toNat)
  case atStart => exact ⟨0, [], false, none, 0, Nat.zero_le _, rfl, rfl, rfl, Acc.start _ _ _, Nat.le_refl _, Lib.hid (by simp [tokF])⟩
  case round =>
    obtain ⟨k, acc, b, A, c, hk, rfl, rfl, rfl, hacc, hak, HK⟩ := hrel
    by_cases hlt : k < xs.length
    · obtain ⟨bX, oX, rfl, hc⟩ := row_int (hacc.keep hrow) hlt
      have hb := HBD.out _ (List.getElem_mem hlt)
      have HD : Hid (xs.drop k = xs[k] :: xs.drop (k + 1)) := Lib.hid (List.drop_eq_getElem_cons hlt)
      generalize hv : xs[k] = v at *
      have HV := Lib.hid hv
      clear hv
      obtain ⟨hb0, hb1⟩ := hb
      by_cases hq : v = 39
      · subst hq
        have hbig := hacc.cap
        by_cases h2 : k + 1 < xs.length
        · obtain ⟨_, _, e1, hcn⟩ := row_int (hacc.keep hrow) h2
          injection e1 with e1
          injection e1 with e1 e2
          subst e1; subst e2
          have HD2 : Hid (xs.drop (k + 1) = xs[k + 1] :: xs.drop (k + 1 + 1)) := Lib.hid (List.drop_eq_getElem_cons h2)
          generalize hu : xs[k + 1] = u at *
          have HU := Lib.hid hu
          clear hu
          have hcn' : wr.cell? ⟨bX, oX + (k + 1), none⟩ = some (.int .i64 u) := hcn
          by_cases hq2 : u = 39
          · subst hq2
            have HR : Hid (tokF xs = (tokS b false (xs.drop (k + 2))).map ((acc ++ [(0, encB 39)]) ++ ·)) := Lib.hid (by
              rw [HK.out, HD.out, HD2.out, tokS_quote]
              cases b <;> (rw [tokS, if_pos rfl, map_cons_app]))
            clear HK
            go_wp2_with fail
            refine (utf_encode 39 _).mono ?_; rintro e w2 ⟨rfl, hx2⟩
            have hacc2 := (hacc.step hx2).alloc (.cells #[.int .i64 0, .string ⟨(encB 39).toArray⟩] 96)
            have hc2 := Ext.cell_ (Ext.alloc_ (Ext.refl w2) (.cells #[.int .i64 0, .string ⟨(encB 39).toArray⟩] 96)) (Ext.cell_ hx2 hc)
            have hcn2 := Ext.cell_ (Ext.alloc_ (Ext.refl w2) (.cells #[.int .i64 0, .string ⟨(encB 39).toArray⟩] 96)) (Ext.cell_ hx2 hcn')
            clear hacc hc hcn hcn'
            go_wp2_with (at_builtin; refine wp_app ei_pc rfl (.tmp 66) (.tmp 68) rfl w1 _ A c acc.length _ rfl hacc2 [.int .i64 0, .string ⟨(encB 39).toArray⟩] 1 1 (slice_new _ _ _ _) rfl (by simp [Value.oneCell']) (by omega) (by unfold maxLen; omega) ?_; intro A1 c1 w3 hacc3 _ _; clear hacc2)
            go_roundw
            case rel => exact ⟨k + 2, acc ++ [(0, encB 39)], b, A1, c1, by omega, by go_num, rfl, by simp, by rw [pcsV_app, pcsV_one]; simpa using hacc3, by simp; omega, HR⟩
            case measure => simp [intOf]; omega
          · have hq3 : (u == 39) = false := by simpa using hq2
            have HR : Hid (tokF xs = (tokS (!b) false (xs.drop (k + 1))).map (acc ++ ·)) := Lib.hid (by
              rw [HK.out, HD.out, tokS_quote, tokS_toggle]
              rw [HD2.out]; intro c r' h; injection h with h; rw [← h]; exact hq2)
            clear HK
            go_wp2_with fail
            refine (utf_encode 39 _).mono ?_; rintro e w2 ⟨rfl, hx2⟩
            have hacc2 := (hacc.step hx2).alloc (.cells #[.int .i64 0, .string ⟨(encB 39).toArray⟩] 96)
            have hc2 := Ext.cell_ (Ext.alloc_ (Ext.refl w2) (.cells #[.int .i64 0, .string ⟨(encB 39).toArray⟩] 96)) (Ext.cell_ hx2 hc)
            have hcn2 := Ext.cell_ (Ext.alloc_ (Ext.refl w2) (.cells #[.int .i64 0, .string ⟨(encB 39).toArray⟩] 96)) (Ext.cell_ hx2 hcn')
            clear hacc hc hcn hcn'
            go_wp2
            go_roundw
            case rel => exact ⟨k + 1, acc, !b, A, c, by omega, by go_num, rfl, rfl, hacc2, by omega, HR⟩
            case measure => simp [intOf]; omega
        · have HR : Hid (tokF xs = (tokS (!b) false (xs.drop (k + 1))).map (acc ++ ·)) := Lib.hid (by
            rw [HK.out, HD.out, tokS_quote, tokS_toggle]
            rw [List.drop_of_length_le (by omega)]; intro c r' h; cases h)
          clear HK
          go_wp2_with fail
          refine (utf_encode 39 _).mono ?_; rintro e w2 ⟨rfl, hx2⟩
          have hacc2 := (hacc.step hx2).alloc (.cells #[.int .i64 0, .string ⟨(encB 39).toArray⟩] 96)
          have hc2 := Ext.cell_ (Ext.alloc_ (Ext.refl w2) (.cells #[.int .i64 0, .string ⟨(encB 39).toArray⟩] 96)) (Ext.cell_ hx2 hc)
          clear hacc hc
          go_wp2
          go_roundw
          case rel => exact ⟨k + 1, acc, !b, A, c, by omega, by go_num, rfl, rfl, hacc2, by omega, HR⟩
          case measure => simp [intOf]; omega
      · have hq1 : (v == 39) = false := by simpa using hq
        have hbig := hacc.cap
        cases b
        · by_cases hn : kindL v < 0
          · have HT2 : Hid (tokL s.data.toList = none) := Lib.hid (by rw [HT.out, HK.out, HD.out, tokS, if_neg hq, if_neg (by decide), if_pos hn]; rfl)
            have HN : Hid (decide (0 ≤ kindL v) = false) := Lib.hid (by simp; omega)
            clear hn HT HK
            go_wp2_with fail
            refine (utf_encode v _).mono ?_; rintro e w2 ⟨rfl, hx2⟩
            have hacc2 := hacc.step hx2
            have hc2 := Ext.cell_ (Ext.alloc_ (Ext.refl w2) (.cells #[.int .i64 0, .string ⟨(encB v).toArray⟩] 96)) (Ext.cell_ hx2 hc)
            clear hacc
            go_wp2_with fail
            refine (kind_ v _ hb0 hb1).mono ?_; rintro e w3 ⟨rfl, rfl⟩
            go_wp2_with fail
            rw [HN.out]
            refine (must_no _).mono ?_; rintro e w3 ⟨rfl, rfl⟩
            go_wp2
            refine ⟨rfl, ?_⟩
            rw [HT2.out]
            exact ⟨rfl, Ext.alloc_ (hacc2.ext_of HX.out) _⟩
          · have HR : Hid (tokF xs = (tokS false false (xs.drop (k + 1))).map ((acc ++ [(kindL v, encB v)]) ++ ·)) := Lib.hid (by
              rw [HK.out, HD.out, tokS, if_neg hq, if_neg (by decide), if_neg hn, map_cons_app])
            have HN : Hid (decide (0 ≤ kindL v) = true) := Lib.hid (by simp; omega)
            clear hn HK
            go_wp2_with fail
            refine (utf_encode v _).mono ?_; rintro e w2 ⟨rfl, hx2⟩
            have hacc2 := (hacc.step hx2).alloc (.cells #[.int .i64 (kindL v), .string ⟨(encB v).toArray⟩] 96)
            have hc2 := Ext.cell_ (Ext.alloc_ (Ext.refl w2) (.cells #[.int .i64 0, .string ⟨(encB v).toArray⟩] 96)) (Ext.cell_ hx2 hc)
            clear hacc hc
            go_wp2_with fail
            refine (kind_ v _ hb0 hb1).mono ?_; rintro e w3 ⟨rfl, rfl⟩
            go_wp2_with fail
            rw [HN.out]
            refine (must_ok _).mono ?_; rintro e w3 ⟨rfl, rfl⟩
            clear hc2
            go_wp2_with (at_builtin; refine wp_app ei_pc rfl (.tmp 66) (.tmp 68) rfl w1 _ A c acc.length _ rfl hacc2 [.int .i64 (kindL v), .string ⟨(encB v).toArray⟩] 1 1 (slice_new _ _ _ _) rfl (by simp [Value.oneCell']) (by omega) (by unfold maxLen; omega) ?_; intro A1 c1 w3 hacc3 _ _; clear hacc2)
            go_roundw
            case rel => exact ⟨k + 1, acc ++ [(kindL v, encB v)], false, A1, c1, by omega, by go_num, rfl, by simp, by rw [pcsV_app, pcsV_one]; simpa using hacc3, by simp; omega, HR⟩
            case measure => simp [intOf]; omega
        · have HR : Hid (tokF xs = (tokS true false (xs.drop (k + 1))).map ((acc ++ [(0, encB v)]) ++ ·)) := Lib.hid (by
            rw [HK.out, HD.out, tokS, if_neg hq, if_pos rfl, map_cons_app])
          clear HK
          go_wp2_with fail
          refine (utf_encode v _).mono ?_; rintro e w2 ⟨rfl, hx2⟩
          have hacc2 := (hacc.step hx2).alloc (.cells #[.int .i64 0, .string ⟨(encB v).toArray⟩] 96)
          have hc2 := Ext.cell_ (Ext.alloc_ (Ext.refl w2) (.cells #[.int .i64 0, .string ⟨(encB v).toArray⟩] 96)) (Ext.cell_ hx2 hc)
          clear hacc hc
          go_wp2_with (at_builtin; refine wp_app ei_pc rfl (.tmp 66) (.tmp 68) rfl w1 _ A c acc.length _ rfl hacc2 [.int .i64 0, .string ⟨(encB v).toArray⟩] 1 1 (slice_new _ _ _ _) rfl (by simp [Value.oneCell']) (by omega) (by unfold maxLen; omega) ?_; intro A1 c1 w3 hacc3 _ _; clear hacc2)
          go_roundw
          case rel => exact ⟨k + 1, acc ++ [(0, encB v)], true, A1, c1, by omega, by go_num, rfl, by simp, by rw [pcsV_app, pcsV_one]; simpa using hacc3, by simp; omega, HR⟩
          case measure => simp [intOf]; omega
    · have e : k = xs.length := by omega
      subst e
      cases b
      · have HT2 : Hid (tokL s.data.toList = some acc) := Lib.hid (by rw [HT.out, HK.out, List.drop_length]; simp [tokS])
        clear HT HK
        go_wp2_with fail
        refine (must_ok _).mono ?_; rintro e w2 ⟨rfl, rfl⟩
        go_wp2
        go_ret
        rw [HT2.out]
        exact ⟨A, c, rfl, hacc.row, hacc.cap.1, by omega, hacc.cap.2, fun a ha => by subst ha; exact Nat.le_trans HX.out.size (hacc.own.lt a.block rfl).1, hacc.ext_of HX.out⟩
      · have HT2 : Hid (tokL s.data.toList = none) := Lib.hid (by rw [HT.out, HK.out, List.drop_length]; simp [tokS])
        clear HT HK
        go_wp2_with fail
        refine (must_no _).mono ?_; rintro e w2 ⟨rfl, rfl⟩
        go_wp2
        refine ⟨rfl, ?_⟩
        rw [HT2.out]
        exact ⟨rfl, hacc.ext_of HX.out⟩
end Go.Proofs.YtdkjkbbibdppoaaGreatDoor.Pat
