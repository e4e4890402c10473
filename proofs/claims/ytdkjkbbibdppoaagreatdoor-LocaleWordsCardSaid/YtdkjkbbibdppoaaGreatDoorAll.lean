/- Walks: the characters of a text. -/
import Derived.Test.YtdkjkbbibdppoaaGreatDoorDec
import Derived.Test.YtdkjkbbibdppoaaGreatDoorAcc
import Derived.Test.YtdkjkbbibdppoaaGreatDoorSmall
import Derived.Deep.RegionWith
namespace Go.Proofs.YtdkjkbbibdppoaaGreatDoor.All
open Go.RowKit Utf Small Dec
set_option linter.unusedVariables false
set_option linter.unusedSimpArgs false

def bndZ : Nat → Int
  | 0 => 0
  | 1 => 300
  | k + 1 => bndZ k * 64 + 300
theorem bndZ_le : ∀ k : Nat, k ≤ 4 → bndZ k ≤ 100000000 := by
  intro k hk
  match k, hk with
  | 0, _ => decide
  | 1, _ => decide
  | 2, _ => decide
  | 3, _ => decide
  | 4, _ => decide
theorem bndZ_succ (k : Nat) (h : 1 ≤ k) : bndZ (k + 1) = bndZ k * 64 + 300 := by
  match k, h with
  | k + 1, _ => rfl

theorem foldZ_snoc (c : Int) (l : List UInt8) (k : Nat) (hk : k < l.length) : foldZ c (l.take (k + 1)) = foldZ c (l.take k) * 64 + l[k].toNat - 128 := by
  unfold foldZ
  rw [List.take_succ_eq_append_getElem hk, List.foldl_append]; rfl

/-- the value while it is read: behind k bytes -/
def partV (l : List UInt8) (k : Nat) : Int := foldZ ((l.getD 0 0).toNat - offZ l.length) (l.tail.take (k - 1))
theorem partV_succ (l : List UInt8) (k : Nat) (h1 : 1 ≤ k) (hk : k < l.length) : partV l (k + 1) = partV l k * 64 + l[k].toNat - 128 := by
  unfold partV
  match l, k, h1, hk with
  | a :: l, k + 1, _, hk =>
    simp only [List.tail_cons, Nat.add_sub_cancel, List.length_cons] at hk ⊢
    rw [foldZ_snoc _ _ k (by omega)]
    rfl
theorem partV_all (l : List UInt8) : partV l l.length = valueL l := by
  unfold partV valueL
  rw [List.take_of_length_le (by simp)]
theorem get_data (s : ByteArray) (k : Nat) (h : k < s.size) : s[k] = (s.data.toList)[k]'(by simpa using h) := rfl

set_option maxHeartbeats 1000000 in
set_option maxRecDepth 100000 in
theorem ref_value (s : ByteArray) (w : World) (h1 : 1 ≤ s.size) (h4 : s.size ≤ 4) :
    Calls Tryz.prog 159 #[.string s] w fun e w' => e = .returned (.int .i64 (valueL s.data.toList)) ∧ w = w' := by
  have hlen : s.data.toList.length = s.size := Array.length_toList
  have HA := Lib.hid (partV_all s.data.toList)
  rw [hlen] at HA
  have H1 : Hid (partV s.data.toList 1 = s[0].toNat - offZ s.size) := Lib.hid (by
    unfold partV; rw [hlen, List.getD_eq_getElem?_getD, List.getElem?_eq_getElem (show 0 < s.data.toList.length by omega)]
    rfl)
  have HS : Hid (∀ k, 1 ≤ k → ∀ hk : k < s.size, partV s.data.toList (k + 1) = partV s.data.toList k * 64 + s[k].toNat - 128) := Lib.hid (fun k h hk => partV_succ _ k h (by rw [hlen]; exact hk))
  generalize s.data.toList = l at *
  clear hlen
  have h0 : 0 < s.size := by omega
  have hb0 := (s[0]).toNat_lt
  go_enter Tryz.func159, Tryz.ntmps159
  go_wp2
  all_goals
    go_loop [3, 4] (fun c i => ∃ k : Nat, 1 ≤ k ∧ k ≤ s.size ∧ i = .int .i64 k ∧ c = .int .i64 (partV l k) ∧ -bndZ k ≤ partV l k ∧ partV l k ≤ bndZ k) (fun _ i => s.size - (intOf i).toNat)
    case atStart =>
      have hs2 := ‹((s.size : Int) == 2) = _›
      have hs3 := ‹((s.size : Int) == 3) = _›
      have hs4 := ‹((s.size : Int) == 4) = _›
      have hp : partV l 1 = s[0].toNat - offZ s.size := H1.out
      have ho : 0 ≤ offZ s.size ∧ offZ s.size ≤ 240 := by unfold offZ; repeat' split; all_goals omega
      refine ⟨1, by omega, h1, rfl, ?_, by rw [hp]; simp only [bndZ]; omega, by rw [hp]; simp only [bndZ]; omega⟩
      rw [hp]
      unfold offZ
      simp only [beq_iff_eq, beq_eq_false_iff_ne] at hs2 hs3 hs4
      repeat' split
      all_goals first | rfl | (exfalso; omega) | go_num
    case round =>
      obtain ⟨k, hk1, hk, rfl, rfl, hlo, hhi⟩ := hrel
      by_cases hlt : k < s.size
      · have hp := HS.out k hk1 hlt
        have hbk := bndZ_succ k hk1
        have hb1 := bndZ_le (k + 1) (by omega)
        have hbb := (s[k]).toNat_lt
        have HP := Lib.hid hp
        have HB : Hid (-bndZ (k + 1) ≤ partV l k * 64 + s[k].toNat - 128 ∧ partV l k * 64 + s[k].toNat - 128 ≤ bndZ (k + 1)) := Lib.hid (by rw [hbk]; omega)
        have hq1 : -100000000 ≤ partV l k := by omega
        have hq2 : partV l k ≤ 100000000 := by omega
        clear hp hbk hlo hhi hb1
        generalize partV l k = p at *
        go_wp2
        go_round
        case rel => exact ⟨k + 1, by omega, by omega, by go_num, by rw [HP.out], by rw [HP.out]; exact HB.out.1, by rw [HP.out]; exact HB.out.2⟩
        case measure => simp [intOf]; omega
      · have e : k = s.size := by omega
        subst e
        clear hlo hhi
        go_wp2
        go_ret
        exact ⟨by rw [← HA.out]; rfl, rfl⟩

theorem data_len (s : ByteArray) : s.data.toList.length = s.size := Array.length_toList
theorem data_nil {s : ByteArray} (h : s.size = 0) : s.data.toList = [] := List.eq_nil_of_length_eq_zero (by rw [data_len]; exact h)
theorem take_data (s : ByteArray) (k : Nat) : (s.extract 0 k).data.toList = s.data.toList.take k := by simp [ByteArray.data_extract]

/-- the first character, as the document has it -/
def firstZ (l : List UInt8) : Int × Nat × Bool := if l = [] then (0, 0, false) else ((dec l).1, (dec l).2, okL l)

set_option maxHeartbeats 2000000 in
set_option maxRecDepth 100000 in
theorem ref_first (s : ByteArray) (w : World) (hs : s.size ≤ maxLen) :
    Calls Tryz.prog 130 #[.string s] w fun e w' => e = .returned (.tuple #[.int .i64 (firstZ s.data.toList).1, .int .i64 (firstZ s.data.toList).2.1, .bool (firstZ s.data.toList).2.2]) ∧ Ext w w' := by
  unfold maxLen at hs
  by_cases h0 : s.size = 0
  · have HF : Hid (firstZ s.data.toList = (0, 0, false)) := Lib.hid (by unfold firstZ; rw [if_pos (data_nil h0)])
    have he : s.toList.isEmpty = true := by rw [ByteArray.toList_eq, data_nil h0]; rfl
    clear h0
    go_enter Tryz.func130, Tryz.ntmps130
    go_wp2
    go_ret3
    exact ⟨by rw [HF.out]; rfl, Ext.refl _⟩
  · have hne : s.data.toList ≠ [] := by intro h; have := data_len s; rw [h] at this; simp at this; omega
    have he : s.toList.isEmpty = false := by rw [ByteArray.toList_eq]; simpa using hne
    have HF : Hid (firstZ s.data.toList = ((dec s.data.toList).1, (dec s.data.toList).2, okL s.data.toList)) := Lib.hid (by unfold firstZ; rw [if_neg hne])
    have HN := Lib.hid hne
    have HL := Lib.hid (data_len s)
    clear hne
    have hs0 : 1 ≤ s.size := by omega
    clear h0
    go_enter Tryz.func130, Tryz.ntmps130
    go_wp2
    go_loopw [5] (fun i wr => ∃ k : Nat, 1 ≤ k ∧ k ≤ 5 ∧ i = .int .i64 k ∧ Hid (∀ m, 1 ≤ m → m < k → m ≤ s.data.toList.length → isEnc s.data.toList m = false) ∧ Ext w wr) (fun i _ => 5 - (intOf i).toNat)
    case atStart => exact ⟨1, by omega, by omega, rfl, Lib.hid (fun m a b => by omega), Ext.refl _⟩
    case round =>
      obtain ⟨k, hk1, hk5, rfl, HK, hx⟩ := hrel
      by_cases hgo : k ≤ 4 ∧ k ≤ s.size
      · obtain ⟨hk4, hks⟩ := hgo
        have hsz : (s.extract 0 k).size = k := by simp; omega
        have htest : (encB (valueL (s.extract 0 k).data.toList) == (s.extract 0 k).toList) = isEnc s.data.toList k := by
          rw [ByteArray.toList_eq, take_data]
          unfold isEnc
          rw [Bool.eq_iff_iff, beq_iff_eq, decide_eq_true_iff]
        have HV : Hid (valueL (s.extract 0 k).data.toList = valueL (s.data.toList.take k)) := Lib.hid (by rw [take_data])
        have HR := ref_value (s.extract 0 k)
        rw [hsz] at HR
        have HR := Lib.hid HR
        clear hsz
        generalize hv : valueL (s.extract 0 k).data.toList = v at *
        clear hv
        go_wp2_with fail
        refine (HR.out _ hk1 hk4).mono ?_; rintro e w' ⟨rfl, rfl⟩
        cases hi : isEnc s.data.toList k
        · have HK2 : Hid (∀ m, 1 ≤ m → m < k + 1 → m ≤ s.data.toList.length → isEnc s.data.toList m = false) := Lib.hid (fun m a b c => by
            rcases Nat.lt_or_ge m k with h | h
            · exact HK.out m a h c
            · obtain rfl : m = k := by omega
              exact hi)
          rw [hi] at htest
          clear hi
          go_wp2
          go_region_with (go_at_call 70; refine (ref_encode _ _).mono ?_; rintro e w2 ⟨rfl, hx2⟩)
          all_goals
            go_wp2
            go_roundw
            case rel => exact ⟨k + 1, by omega, by omega, by go_num, HK2, hx.trans (Ext.trans ((Below.refl _ _).drew) hx2)⟩
            case measure => simp [intOf]; omega
        · have HD := dec_of_enc s.data.toList k hk1 hk4 (by rw [HL.out]; exact hks) hi
          have HR1 : Hid (firstZ s.data.toList = (v, k, true)) := Lib.hid (by rw [HF.out, HD.1, HD.2, HV.out])
          rw [hi] at htest
          clear hi HD
          go_wp2
          go_region_with (go_at_call 70; refine (ref_encode _ _).mono ?_; rintro e w2 ⟨rfl, hx2⟩)
          all_goals
            go_wp2
            go_ret3
            exact ⟨by rw [HR1.out]; rfl, hx.trans (Ext.trans ((Below.refl _ _).drew) hx2)⟩
      · have HD := dec_of_none s.data.toList HN.out (fun m a b c => HK.out m a (by
          have := HL.out
          omega) c)
        have HR1 : Hid (firstZ s.data.toList = (65533, 1, false)) := Lib.hid (by rw [HF.out, HD.1, HD.2])
        clear HD
        by_cases hk4 : k ≤ 4
        · have hks : s.size < k := by omega
          clear hgo
          go_wp2
          go_ret3
          exact ⟨by rw [HR1.out]; rfl, hx⟩
        · have hk4' : 4 < k := by omega
          clear hgo hk4
          go_wp2
          go_ret3
          exact ⟨by rw [HR1.out]; rfl, hx⟩

/-! ### all characters -/
abbrev Piece := Int × Nat × Bool
def piecesN : Nat → List UInt8 → List Piece
  | 0, _ => []
  | n + 1, l => if l = [] then [] else ((dec l).1, (dec l).2, okL l) :: piecesN n (l.drop (dec l).2)
def pieces (l : List UInt8) : List Piece := piecesN l.length l
theorem dec_width {l : List UInt8} (h : l ≠ []) : 1 ≤ (dec l).2 ∧ (dec l).2 ≤ l.length := by
  unfold dec
  have h0 : 0 < l.length := List.length_pos_iff.2 h
  refine ⟨?_, ?_⟩
  · unfold Lib.decodeL; exact Lib.width_pos _ _
  · rw [decodeL_N]
    have : Lib.decodeN l.length (l.getD 0 0).toNat (l.getD 1 0).toNat (l.getD 2 0).toNat (l.getD 3 0).toNat = Lib.decodeL l := (decodeL_N l).symm
    generalize (l.getD 0 0).toNat = a at *
    generalize (l.getD 1 0).toNat = b at *
    generalize (l.getD 2 0).toNat = c at *
    generalize (l.getD 3 0).toNat = d at *
    clear this
    unfold Lib.decodeN
    repeat' split
    all_goals (simp only; omega)
theorem dec_bd (l : List UInt8) : 0 ≤ (dec l).1 ∧ (dec l).1 ≤ 1114111 := by
  unfold dec Lib.decodeL
  have := Lib.rune_le ⟨l.toArray⟩ 0
  simp only
  omega
theorem piecesN_more : ∀ (n m : Nat) (l : List UInt8), l.length ≤ n → l.length ≤ m → piecesN n l = piecesN m l
  | 0, m, l, hn, _ => by
    have : l = [] := List.eq_nil_of_length_eq_zero (by omega)
    subst this
    cases m <;> simp [piecesN]
  | n + 1, 0, l, _, hm => by
    have : l = [] := List.eq_nil_of_length_eq_zero (by omega)
    subst this
    simp [piecesN]
  | n + 1, m + 1, l, hn, hm => by
    unfold piecesN
    by_cases h : l = []
    · rw [if_pos h, if_pos h]
    · rw [if_neg h, if_neg h]
      have := dec_width h
      rw [piecesN_more n m (l.drop (dec l).2) (by rw [List.length_drop]; omega) (by rw [List.length_drop]; omega)]
theorem pieces_nil : pieces [] = [] := rfl
theorem pieces_cons {l : List UInt8} (h : l ≠ []) : pieces l = ((dec l).1, (dec l).2, okL l) :: pieces (l.drop (dec l).2) := by
  have hw := dec_width h
  have h0 : l.length = (l.length - 1) + 1 := by omega
  have e : piecesN ((l.length - 1) + 1) l = ((dec l).1, (dec l).2, okL l) :: piecesN (l.length - 1) (l.drop (dec l).2) := by rw [piecesN, if_neg h]
  have e2 := piecesN_more (l.length - 1) (l.drop (dec l).2).length (l.drop (dec l).2) (by rw [List.length_drop]; omega) (Nat.le_refl _)
  rw [e2, ← h0] at e
  exact e
theorem pieces_len : ∀ (n : Nat) (l : List UInt8), l.length ≤ n → (pieces l).length ≤ l.length
  | 0, l, h => by
    have : l = [] := List.eq_nil_of_length_eq_zero (by omega)
    subst this; simp [pieces_nil]
  | n + 1, l, h => by
    by_cases h0 : l = []
    · subst h0; simp [pieces_nil]
    · rw [pieces_cons h0]
      have hw := dec_width h0
      have := pieces_len n (l.drop (dec l).2) (by rw [List.length_drop]; omega)
      rw [List.length_drop] at this
      simp only [List.length_cons]; omega

def charsL (l : List UInt8) : List Int := (pieces l).map (·.1)
def startsP : Int → List Piece → List Int
  | _, [] => []
  | p, x :: r => p :: startsP (p + x.2.1) r
def startsL (l : List UInt8) : List Int := startsP 0 (pieces l)
def validL (l : List UInt8) : Bool := (pieces l).all (·.2.2)
theorem startsP_len : ∀ (p : Int) (ps : List Piece), (startsP p ps).length = ps.length
  | _, [] => rfl
  | p, x :: r => by simp [startsP, startsP_len]

/-- a step of the range over a text -/
theorem next_str (w : World) (ty r : Nat) (s : ByteArray) (pos : Nat) (hr : w.heap[r]? = some (.stringIter s pos)) :
    (s.size ≤ pos ∧ (Instr.next (.pointer (some ⟨r, 0, none⟩)) true ty).run Tryz.prog w = .ok (.tuple #[.bool false]) w) ∨
    (pos < s.size ∧ ∃ w', (Instr.next (.pointer (some ⟨r, 0, none⟩)) true ty).run Tryz.prog w = .ok (.tuple #[.bool true, .int .i64 pos, .int .i32 (Utf8.decode s pos).1]) w' ∧
      w'.heap[r]? = some (.stringIter s (pos + (Utf8.decode s pos).2)) ∧ w.grownBy w' (some r)) := by
  by_cases h : pos < s.size
  · refine .inr ⟨h, { w with heap := w.heap.setIfInBounds r (.stringIter s (pos + (Utf8.decode s pos).2)) }, ?_, ?_, ?_⟩
    · simp only [Instr.next, getObj, setObj, Sem.run_bind, Sem.run, hr, Result.andThen, if_pos h]
      rfl
    · have hlt : r < w.heap.size := (Array.getElem?_eq_some_iff.1 hr).1
      simp [hlt]
    · refine ⟨rfl, rfl, rfl, by simp, fun i hi hne => ?_⟩
      have : r ≠ i := fun e => hne (by rw [e])
      simp [this]
  · refine .inl ⟨by omega, ?_⟩
    simp only [Instr.next, getObj, Sem.run_bind, Sem.run, hr, Result.andThen, if_neg h]
    rfl

theorem chars_cons {l : List UInt8} (h : l ≠ []) : charsL l = (dec l).1 :: charsL (l.drop (dec l).2) := by
  unfold charsL; rw [pieces_cons h]; rfl
theorem decode_dec (s : ByteArray) (pos : Nat) : (((Utf8.decode s pos).1 : Int), (Utf8.decode s pos).2) = dec (s.data.toList.drop pos) := by
  unfold dec; rw [Lib.decodeL_drop]
theorem drop_ne {s : ByteArray} {pos : Nat} (h : pos < s.size) : s.data.toList.drop pos ≠ [] := by
  rw [Ne, List.drop_eq_nil_iff, data_len]; omega

/-- where an iterator over a text stands -/
def posAt (w : World) (r : Nat) : Nat := match w.heap[r]? with | some (.stringIter _ p) => p | _ => 0
theorem posAt_of {w : World} {r : Nat} {s : ByteArray} {p : Nat} (h : w.heap[r]? = some (.stringIter s p)) : posAt w r = p := by unfold posAt; rw [h]
theorem iter_no_cells (s : ByteArray) (p : Nat) : ∀ cs t f, Obj.stringIter s p ≠ .cells cs t f := fun _ _ _ h => by cases h

set_option maxHeartbeats 2000000 in
set_option maxRecDepth 100000 in
theorem utf_all (s : ByteArray) (w : World) (hs : s.size ≤ 10000000000000) :
    Calls Tryz.prog 75 #[.string s] w fun e w' => ∃ A c, e = .returned (.slice A (charsL s.data.toList).length c) ∧ Row w' A ((charsL s.data.toList).map (Value.int .i64)) ∧ (charsL s.data.toList).length ≤ c ∧ c ≤ maxLen ∧ Ext w w' := by
  go_enter Tryz.func75, Tryz.ntmps75
  go_wp2
  go_loopw [3, 5] (fun v _ wr => ∃ (p : Nat) (xs : List Int) (A : Option Addr) (c : Nat), p ≤ s.size ∧ v = .slice A xs.length c ∧ wr.heap[w.heap.size]? = some (.stringIter s p) ∧ Acc 3 1 w wr A c xs.length (xs.map (Value.int .i64)) ∧ xs.length ≤ p ∧ Hid (charsL s.data.toList = xs ++ charsL (s.data.toList.drop p))) (fun _ _ wr => s.size - posAt wr w.heap.size)
  case atStart => exact ⟨0, [], none, 0, Nat.zero_le _, rfl, heap_alloc_new w _, (Acc.start _ _ _).step ((Below.refl _ _).alloc (Nat.le_refl _) _), Nat.le_refl _, Lib.hid rfl⟩
  case round =>
    obtain ⟨p, xs, A, c, hp, rfl, hr, hacc, hxp, HC⟩ := hrel
    rcases next_str wr 0 w.heap.size s p hr with ⟨hend, hrun⟩ | ⟨hlt, w2, hrun, hr2, hg2⟩
    · have hnx : ∀ ty, (Instr.next (.pointer (some ⟨w.heap.size, 0, none⟩)) true ty).run Tryz.prog wr = _ := fun _ => hrun
      have HX : Hid (charsL s.data.toList = xs) := Lib.hid (by
        rw [HC.out, List.drop_of_length_le (by rw [data_len]; omega)]
        exact List.append_nil _)
      clear hrun
      go_wp2
      go_ret
      exact ⟨A, c, by rw [HX.out]; rfl, by rw [HX.out]; exact hacc.row, by rw [HX.out]; exact hacc.cap.1, hacc.cap.2, hacc.ext⟩
    · have hnx : ∀ ty, (Instr.next (.pointer (some ⟨w.heap.size, 0, none⟩)) true ty).run Tryz.prog wr = _ := fun _ => hrun
      have hne := hacc.ne_obj hr (iter_no_cells _ _)
      have hacc2 := hacc.turn hg2 hne (Nat.le_refl _)
      have hne2 := hacc2.ne_obj hr2 (iter_no_cells _ _)
      have hwd := dec_width (drop_ne hlt)
      have hdd := decode_dec s p
      have hbd := dec_bd (s.data.toList.drop p)
      have HX : Hid (charsL s.data.toList = (xs ++ [(dec (s.data.toList.drop p)).1]) ++ charsL (s.data.toList.drop (p + (dec (s.data.toList.drop p)).2))) := Lib.hid (by
        rw [HC.out, chars_cons (drop_ne hlt), List.drop_drop, List.append_assoc]
        rfl)
      rw [← hdd] at HX hwd hbd
      have hl2 : (s.data.toList.drop p).length = s.size - p := by rw [List.length_drop, data_len]
      rw [hl2] at hwd
      have HN1 := Lib.hid hne
      have HN2 := Lib.hid hne2
      clear hrun hdd hacc HC hl2 hne hne2
      generalize (Utf8.decode s p).1 = d at *
      generalize (Utf8.decode s p).2 = wd at *
      have hd1 : (d : Int) ≤ 1114111 := hbd.2
      clear hbd
      obtain ⟨hw1, hw2⟩ := hwd
      go_wp2_with (at_builtin; refine wp_app ei_int rfl _ _ rfl w _ A c xs.length _ rfl hacc2 [.int .i64 d] 1 1 rfl rfl (by simp [Value.oneCell']) (by omega) (by unfold maxLen; omega) ?_; intro A1 c1 w3 hacc3 _ hg3; clear hacc2)
      have hr3 := grown_obj hg3 hr2 HN2.out
      have HP1 := Lib.hid (posAt_of hr3)
      have HP0 := Lib.hid (posAt_of hr)
      go_roundw
      case rel => exact ⟨p + wd, xs ++ [(d : Int)], A1, c1, by omega, by simp, hr3, by simpa using hacc3, by simp; omega, HX⟩
      case measure => rw [HP1.out, HP0.out]; omega

theorem starts_cons {l : List UInt8} (h : l ≠ []) (p : Int) : startsP p (pieces l) = p :: startsP (p + (dec l).2) (pieces (l.drop (dec l).2)) := by
  rw [pieces_cons h]; rfl
theorem valid_cons {l : List UInt8} (h : l ≠ []) : validL l = (okL l && validL (l.drop (dec l).2)) := by
  unfold validL; rw [pieces_cons h]; rfl
theorem drop_data (s : ByteArray) (p : Nat) : (s.extract p s.size).data.toList = s.data.toList.drop p := by
  have h := data_len s
  rw [ByteArray.data_extract]
  simp
  rw [List.take_of_length_le]
  rw [List.length_drop]; omega
theorem startsL_len (l : List UInt8) : (startsL l).length = (charsL l).length := by
  unfold startsL charsL; rw [startsP_len, List.length_map]
theorem apart_symm {A B : Option Addr} (h : Apart A B) : Apart B A := fun a b ha hb => (h b a hb ha).symm
theorem apart_none (B : Option Addr) : Apart none B := fun a b h => by cases h

set_option maxHeartbeats 4000000 in
set_option maxRecDepth 100000 in
theorem ref_all (s : ByteArray) (w : World) (hs : s.size ≤ 1000000000000) :
    Calls Tryz.prog 71 #[.string s] w fun e w' => ∃ A c B d, e = .returned (.tuple #[.slice A (charsL s.data.toList).length c, .slice B ((startsL s.data.toList).length + 1) d, .bool (validL s.data.toList)]) ∧
      Row w' A ((charsL s.data.toList).map (Value.int .i64)) ∧ Row w' B ((startsL s.data.toList ++ [(s.size : Int)]).map (Value.int .i64)) ∧ Ext w w' := by
  go_enter Tryz.func71, Tryz.ntmps71
  go_wp2
  go_loopw [5, 6, 7, 8] (fun v u vl at_ wr => ∃ (p : Nat) (xs st : List Int) (b : Bool) (A : Option Addr) (c : Nat) (B : Option Addr) (d : Nat), p ≤ s.size ∧ at_ = .int .i64 p ∧ vl = .bool b ∧ v = .slice A xs.length c ∧ u = .slice B st.length d ∧
      Acc 3 1 w wr A c xs.length (xs.map (Value.int .i64)) ∧ Acc 3 1 w wr B d st.length (st.map (Value.int .i64)) ∧ Apart A B ∧ xs.length ≤ p ∧ st.length ≤ p ∧
      Hid (charsL s.data.toList = xs ++ charsL (s.data.toList.drop p)) ∧ Hid (startsL s.data.toList = st ++ startsP p (pieces (s.data.toList.drop p))) ∧ Hid (validL s.data.toList = (b && validL (s.data.toList.drop p)))) (fun _ _ _ at_ _ => s.size - (intOf at_).toNat)
  case atStart => exact ⟨0, [], [], true, none, 0, none, 0, Nat.zero_le _, rfl, rfl, rfl, rfl, Acc.start _ _ _, Acc.start _ _ _, apart_none _, Nat.le_refl _, Nat.le_refl _, Lib.hid rfl, Lib.hid rfl, Lib.hid (by simp)⟩
  case round =>
    obtain ⟨p, xs, st, vb, A, c, B, d, hp, rfl, rfl, rfl, rfl, hA, hB, hap, hxp, hsp, HC, HS, HV⟩ := hrel
    by_cases hlt : p < s.size
    · have hwd := dec_width (drop_ne hlt)
      have hbd := dec_bd (s.data.toList.drop p)
      have hl2 : (s.data.toList.drop p).length = s.size - p := by rw [List.length_drop, data_len]
      rw [hl2] at hwd
      have HF : Hid (firstZ (s.extract p s.size).data.toList = ((dec (s.data.toList.drop p)).1, (dec (s.data.toList.drop p)).2, okL (s.data.toList.drop p))) := Lib.hid (by rw [drop_data]; unfold firstZ; rw [if_neg (drop_ne hlt)])
      have HC2 : Hid (charsL s.data.toList = (xs ++ [(dec (s.data.toList.drop p)).1]) ++ charsL (s.data.toList.drop (p + (dec (s.data.toList.drop p)).2))) := Lib.hid (by
        rw [HC.out, chars_cons (drop_ne hlt), List.drop_drop, List.append_assoc]; rfl)
      have HS2 : Hid (startsL s.data.toList = (st ++ [(p : Int)]) ++ startsP ((p + (dec (s.data.toList.drop p)).2 : Nat) : Int) (pieces (s.data.toList.drop (p + (dec (s.data.toList.drop p)).2)))) := Lib.hid (by
        rw [HS.out, starts_cons (drop_ne hlt), List.drop_drop, List.append_assoc]; simp)
      have HV2 : Hid (validL s.data.toList = ((vb && okL (s.data.toList.drop p)) && validL (s.data.toList.drop (p + (dec (s.data.toList.drop p)).2)))) := Lib.hid (by
        rw [HV.out, valid_cons (drop_ne hlt), List.drop_drop, Bool.and_assoc])
      have hfs : (s.extract p s.size).size ≤ maxLen := by unfold maxLen; simp; omega
      have HFS := Lib.hid hfs
      clear hl2 hfs HC HS HV
      generalize (dec (s.data.toList.drop p)).1 = ch at *
      generalize (dec (s.data.toList.drop p)).2 = wd at *
      generalize okL (s.data.toList.drop p) = ok at *
      obtain ⟨hw1, hw2⟩ := hwd
      obtain ⟨hb1, hb2⟩ := hbd
      go_wp2_with fail
      refine (ref_first _ _ HFS.out).mono ?_; rintro e w2 ⟨rfl, hx2⟩
      rw [HF.out]
      have hA2 := hA.step hx2
      have hB2 := hB.step hx2
      clear hA hB
      go_wp2_with (first
        | (at_builtin; refine wp_app ei_int rfl (.tmp 24) (.tmp 26) rfl w _ A c xs.length _ rfl hA2 [.int .i64 ch] 1 1 rfl rfl (by simp [Value.oneCell']) (by omega) (by unfold maxLen; omega) ?_; intro A1 c1 w3 hA3 hk3 _; obtain ⟨hB3, hap3⟩ := hk3 _ _ _ _ _ _ hB2 hap; clear hA2 hB2 hk3 hap)
        | (at_builtin; refine wp_app ei_int rfl (.tmp 28) (.tmp 30) rfl w _ B d st.length _ rfl hB3 [.int .i64 p] 1 1 rfl rfl (by simp [Value.oneCell']) (by omega) (by unfold maxLen; omega) ?_; intro B1 d1 w4 hB4 hk4 _; obtain ⟨hA4, hap4⟩ := hk4 _ _ _ _ _ _ hA3 (apart_symm hap3); clear hA3 hB3 hk4 hap3))
      all_goals
        go_roundw
        case rel => exact ⟨p + wd, xs ++ [ch], st ++ [(p : Int)], _, A1, c1, B1, d1, by omega, by go_num, rfl, by simp, by simp, by simpa using hA4, by simpa using hB4, apart_symm hap4, by simp; omega, by simp; omega, HC2, HS2, Lib.hid (by rw [HV2.out]; simp_all)⟩
        case measure => simp [intOf]; omega
    · have e : p = s.size := by omega
      subst e
      have hd : s.data.toList.drop s.size = [] := List.drop_of_length_le (by rw [data_len]; exact Nat.le_refl _)
      have HC2 : Hid (charsL s.data.toList = xs) := Lib.hid (by rw [HC.out, hd]; exact List.append_nil _)
      have HS2 : Hid (startsL s.data.toList = st) := Lib.hid (by rw [HS.out, hd]; exact List.append_nil _)
      have HV2 : Hid (validL s.data.toList = vb) := Lib.hid (by rw [HV.out, hd]; exact Bool.and_true _)
      clear HC HS HV hd
      go_wp2_with (at_builtin; refine wp_app ei_int rfl _ _ rfl w _ B d st.length _ rfl hB [.int .i64 s.size] 1 1 rfl rfl (by simp [Value.oneCell']) (by omega) (by unfold maxLen; omega) ?_; intro B1 d1 w4 hB4 hk4 _; obtain ⟨hA4, hap4⟩ := hk4 _ _ _ _ _ _ hA (apart_symm hap); clear hA hB hk4 hap)
      go_ret3
      exact ⟨A, c, B1, d1, by rw [HC2.out, HS2.out, HV2.out]; rfl, by rw [HC2.out]; exact hA4.row, by rw [HS2.out, List.map_append]; exact hB4.row, hB4.ext⟩
end Go.Proofs.YtdkjkbbibdppoaaGreatDoor.All
