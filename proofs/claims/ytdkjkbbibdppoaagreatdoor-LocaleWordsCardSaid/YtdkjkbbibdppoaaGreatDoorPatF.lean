/- Patterns of numbers: a literal's text as it is printed: the walk of escaped. -/
import Derived.Test.YtdkjkbbibdppoaaGreatDoorPatE
namespace Go.Proofs.YtdkjkbbibdppoaaGreatDoor.Pat
open Go.RowKit Utf All Small Strs Build EncC
set_option linter.unusedVariables false
set_option linter.unusedSimpArgs false

/-- does a character mean something? -/
def special (c : Int) : Bool := decide (c = 39) || decide (kindL c ≠ 0)
def escF : List Int → List UInt8 → List UInt8 → List UInt8
  | [], out, run => out ++ escRun run
  | c :: r, out, run => if special c then escF r out (run ++ encB c) else escF r (out ++ escRun run ++ encB c) []
def escL (s : List UInt8) : List UInt8 := escF (charsL s) [] []
theorem escR_start (w v : World) (hx : Ext ((w.alloc (.cells #[.pointer none, .slice none 0 0] 214)).alloc (.cells #[.pointer none, .slice none 0 0] 214)) v) :
    EscR w.heap.size v v [] [] := by
  have h1 : v.heap[w.heap.size]? = some (.cells #[.pointer none, .slice none 0 0] 214 (0, 0)) := by
    rw [hx.block _ (by simp; omega), Lib.alloc_old _ _ _ (by simp)]; exact heap_alloc_new w _
  have h2 : v.heap[w.heap.size + 1]? = some (.cells #[.pointer none, .slice none 0 0] 214 (0, 0)) := by
    rw [hx.block _ (by simp)]
    have := heap_alloc_new (w.alloc (.cells #[.pointer none, .slice none 0 0] 214)) (.cells #[.pointer none, .slice none 0 0] 214)
    rwa [World.size_alloc] at this
  have h3 := hx.size
  simp at h3
  exact ⟨⟨_, _, _, _, v.heap.size, h1, .inl rfl, World.ownsRow_nil _ _ _ _, h2, .inl rfl, World.ownsRow_nil _ _ _ _, fun k hk => by simp [Value.ownBlock] at hk, Nat.le_refl _, Nat.le_refl _, fun _ => rfl⟩, by omega, ButS.refl _ _⟩
theorem Row.but {b : Nat} {v w : World} {A : Option Addr} {cs : List Value} (h : Row v A cs) (hb : ButS (Two b) v w) (hf : ∀ g off, A = some ⟨g, off, none⟩ → cs ≠ [] → g ≠ b ∧ g ≠ b + 1) : Row w A cs := by
  rcases h with h | ⟨g, off, rfl, h⟩
  · exact .inl h
  · refine .inr ⟨g, off, rfl, fun j u hj => ?_⟩
    have hg := block_lt (h j u hj)
    have := hf g off rfl (by rintro rfl; simp at hj)
    exact (World.cell?_of_block (hb.block g hg (by rintro (e | e) <;> simp_all))).trans (h j u hj)
theorem EscR.ext {b : Nat} {w1 w w' : World} {out run : List UInt8} (h : EscR b w1 w out run) (hx : Ext w w') : EscR b w1 w' out run := by
  obtain ⟨⟨p, v, q, u, base, hb, hp, hv, hr, hq, hu, hlt, hb2, hbw, hn⟩, hl1, hbut⟩ := h
  exact ⟨⟨p, v, q, u, base, (hx.block _ (heap_lt hb)).trans hb, hp, own_move hv fun k hk => hx.block k (hv.lt k hk).2, (hx.block _ (heap_lt hr)).trans hr, hq, own_move hu fun k hk => hx.block k (hu.lt k hk).2, hlt, hb2, Nat.le_trans hbw hx.size, hn⟩, hl1,
    ButS.on hbut (ButS.of_ext (S := fun _ => False) hx) fun _ _ e => e.elim⟩
theorem cell_of_esc {b : Nat} {w1 w : World} {out run : List UInt8} (h : EscR b w1 w out run) (h0 : 2 < b) (hl : b < w1.heap.size) (HM : ∃ m, w1.cell? ⟨2, 0, none⟩ = some (.int .i64 m)) : ∃ m, w.cell? ⟨2, 0, none⟩ = some (.int .i64 m) := by
  obtain ⟨m, hm⟩ := HM
  exact ⟨m, (World.cell?_of_block (a := ⟨2, 0, none⟩) (h.but.block 2 (by omega) (by rintro (e | e) <;> omega))).trans hm⟩
theorem str_out (b : Nat) (w1 w : World) (out run : List UInt8) (h : EscR b w1 w out run) :
    Calls Tryz.prog 177 #[.pointer (some ⟨b, 0, none⟩)] w fun e w' => e = .returned (.string ⟨out.toArray⟩) ∧ Below b w w' := by
  obtain ⟨⟨p, v, q, u, base, hb, hp, hv, hr, hq, hu, hlt, hb2, hbw, hn⟩, hl1, hbut⟩ := h
  have hv' : w.ownsRow b 5 1 v (Lib.byteCells out).length (Lib.byteCells out) := own_base (by simpa [Lib.byteCells] using hv) fun k hk => by have := (hv.lt k hk).1; omega
  have hbl := heap_lt hb
  refine Tryz.Builder_String_any b b out w ?_ (by omega)
  rcases hp with rfl | rfl
  · exact .inl ⟨Nat.le_refl _, v, hb, hv', Lib.ownBlock_ne hv hb (by decide)⟩
  · exact .inr ⟨Nat.le_refl _, v, hb, hv', Lib.ownBlock_ne hv hb (by decide)⟩
theorem row_off {b : Nat} {w : World} {A : Option Addr} {xs : List Int} (h : Row w A (xs.map (Value.int .i64))) (hb : w.heap[b]? = some (.cells #[.pointer none, .slice none 0 0] 214 (0, 0)))
    (hr : w.heap[b + 1]? = some (.cells #[.pointer none, .slice none 0 0] 214 (0, 0))) : ∀ g off, A = some ⟨g, off, none⟩ → xs.map (Value.int .i64) ≠ [] → g ≠ b ∧ g ≠ b + 1 := by
  rintro g off rfl hne
  obtain ⟨x, r, rfl⟩ : ∃ x r, xs = x :: r := by
    cases xs with
    | nil => simp at hne
    | cons x r => exact ⟨x, r, rfl⟩
  obtain ⟨g', off', e1, hc⟩ := row_int h (k := 0) (by simp)
  injection e1 with e1
  injection e1 with e1 e2
  subst e1; subst e2
  refine ⟨?_, ?_⟩
  · rintro rfl
    rw [Lib.cell_of_heap hb] at hc
    match off, hc with
    | 0, hc => simp at hc
    | 1, hc => simp at hc
    | n + 2, hc => simp at hc
  · rintro rfl
    rw [Lib.cell_of_heap hr] at hc
    match off, hc with
    | 0, hc => simp at hc
    | 1, hc => simp at hc
    | n + 2, hc => simp at hc
theorem special_39 : special 39 = true := rfl
theorem escF_spec {c : Int} {r : List Int} {out run : List UInt8} (h : special c = true) : escF (c :: r) out run = escF r out (run ++ encB c) := by rw [escF, if_pos h]
theorem escF_plain {c : Int} {r : List Int} {out run : List UInt8} (h : special c = false) : escF (c :: r) out run = escF r (out ++ escRun run ++ encB c) [] := by rw [escF, if_neg (by simp [h])]
theorem encB_ne {c : Int} (h : mayC c = true) : encB c ≠ [] := fun e => by have := (encB_len h).1; rw [e] at this; simp at this
set_option maxHeartbeats 4000000 in
set_option maxRecDepth 100000 in
theorem escaped_ (s : List UInt8) (w : World) (h0 : 2 < w.heap.size) (HM : ∃ m, w.cell? ⟨2, 0, none⟩ = some (.int .i64 m)) (hs : s.length ≤ 100000000) :
    Calls Tryz.prog 152 #[.string ⟨s.toArray⟩] w fun e w' => e = .returned (.string ⟨(escL s).toArray⟩) ∧ Ext w w' := by
  have hmf : ∀ (fn : Fn) (first cap : Array Value) (w : World), (Instr.makeFunc fn first cap).run Tryz.prog w = .ok (.func fn first cap) w := fun _ _ _ _ => rfl
  have hcl : (charsL s).length ≤ s.length := chars_len ⟨s.toArray⟩
  have hmay := charsL_may s
  have hbd := charsL_bd s
  have HL : Hid (escL s = escF (charsL s) [] []) := Lib.hid rfl
  have ha : Ext w ((w.alloc (.cells #[.pointer none, .slice none 0 0] 214)).alloc (.cells #[.pointer none, .slice none 0 0] 214)) := Ext.alloc_ (Ext.alloc_ (Ext.refl w) _) _
  go_enter Tryz.func152, Tryz.ntmps152
  go_wp2_with fail
  refine (utf_all ⟨s.toArray⟩ _ (by show s.length ≤ _; omega)).mono ?_; rintro e w1 ⟨X, cX, rfl, hrow, hlc, hcm, hx⟩
  have hxw : Ext w w1 := ha.trans hx
  have hst := escR_start w w1 hx
  have hlt1 := hst.lt
  have HM1 : ∃ m, w1.cell? ⟨2, 0, none⟩ = some (.int .i64 m) := by
    obtain ⟨m, hm⟩ := HM
    exact ⟨m, Ext.cell_ hxw hm⟩
  have hof : ∀ g off, X = some ⟨g, off, none⟩ → (charsL s).map (Value.int .i64) ≠ [] → g ≠ w.heap.size ∧ g ≠ w.heap.size + 1 := by
    refine row_off hrow ?_ ?_
    · rw [hx.block _ (by simp; omega), Lib.alloc_old _ _ _ (by simp)]; exact heap_alloc_new w _
    · rw [hx.block _ (by simp)]
      have := heap_alloc_new (w.alloc (.cells #[.pointer none, .slice none 0 0] 214)) (.cells #[.pointer none, .slice none 0 0] 214)
      rwa [World.size_alloc] at this
  have hd0 : (⟨s.toArray⟩ : ByteArray).data.toList = s := rfl
  rw [hd0] at hrow hlc ⊢
  generalize charsL s = xs at *
  have HBD := Lib.hid hbd
  have HMAY := Lib.hid hmay
  have HXW := Lib.hid hxw
  have HCM := Lib.hid hcm
  clear hbd hmay hx ha hxw hcm
  go_wp2
  go_loopw [7, 12] (fun _ i wr => ∃ (k : Nat) (out run : List UInt8), k ≤ xs.length ∧ i = .int .i64 k ∧ EscR w.heap.size w1 wr out run ∧ Hid (escF (xs.drop k) out run = escF xs [] []) ∧ out.length + 2 * run.length ≤ 8 * k) (fun _ i _ => xs.length - (intOf i).toNat)
  case atStart => exact ⟨0, [], [], Nat.zero_le _, rfl, hst, Lib.hid (by simp), by simp⟩
  case round =>
    obtain ⟨k, out, run, hk, rfl, hE, HK, hsz⟩ := hrel
    have hmx := escRun_len run
    by_cases hlt : k < xs.length
    · obtain ⟨bX, oX, rfl, hc⟩ := row_int (Row.but hrow hE.but hof) hlt
      have hb := HBD.out _ (List.getElem_mem hlt)
      have hm := HMAY.out _ (List.getElem_mem hlt)
      have HD : Hid (xs.drop k = xs[k] :: xs.drop (k + 1)) := Lib.hid (List.drop_eq_getElem_cons hlt)
      generalize hv : xs[k] = v at *
      have hel := encB_len hm
      have hen := encB_ne hm
      clear hv hm
      obtain ⟨hb0, hb1⟩ := hb
      by_cases hq : v = 39
      · subst hq
        go_wp2_with fail
        refine (utf_encode 39 _).mono ?_; rintro e w2 ⟨rfl, hx2⟩
        go_wp2_with fail
        refine (write_run w.heap.size w1 w2 out run (encB 39) (hE.ext hx2) hen (by omega)).mono ?_; rintro e w3 ⟨rfl, h3⟩
        go_wp2
        go_roundw
        case rel => exact ⟨k + 1, out, run ++ encB 39, by omega, by go_num, h3, Lib.hid (by rw [← HK.out, HD.out, escF_spec special_39]), by rw [List.length_append]; omega⟩
        case measure => simp [intOf]; omega
      · have hqb : (v == 39) = false := by simpa using hq
        by_cases hz : kindL v = 0
        · have HZ := Lib.hid hz
          have HS : Hid (special v = false) := Lib.hid (by unfold special; rw [hz]; simp [hq])
          clear hz hq
          go_wp2_with fail
          refine (kind_ v _ hb0 hb1).mono ?_; rintro e w2 ⟨rfl, rfl⟩; rw [HZ.out]
          go_wp2_with fail
          refine (flush_ w.heap.size w1 _ out run hE h0 HM1 (by omega) (by omega)).mono ?_; rintro e w3 ⟨rfl, h3⟩
          go_wp2_with fail
          refine (utf_encode v _).mono ?_; rintro e w4 ⟨rfl, hx4⟩
          go_wp2_with fail
          refine (write_out w.heap.size w1 w4 _ (encB v) (h3.ext hx4) (by rw [List.length_append]; omega)).mono ?_; rintro e w5 ⟨rfl, h5⟩
          go_wp2
          go_roundw
          case rel => exact ⟨k + 1, out ++ escRun run ++ encB v, [], by omega, by go_num, h5, Lib.hid (by rw [← HK.out, HD.out, escF_plain HS.out]), by simp only [List.length_append, List.length_nil]; omega⟩
          case measure => simp [intOf]; omega
        · have HZ : Hid ((kindL v == 0) = false) := Lib.hid (by simpa using hz)
          have HS : Hid (special v = true) := Lib.hid (by unfold special; simp [hz])
          clear hq
          go_wp2_with fail
          refine (kind_ v _ hb0 hb1).mono ?_; rintro e w2 ⟨rfl, rfl⟩
          have hz' := HZ.out
          go_wp2_with fail
          refine (utf_encode v _).mono ?_; rintro e w2 ⟨rfl, hx2⟩
          go_wp2_with fail
          refine (write_run w.heap.size w1 w2 out run (encB v) (hE.ext hx2) hen (by omega)).mono ?_; rintro e w3 ⟨rfl, h3⟩
          go_wp2
          go_roundw
          case rel => exact ⟨k + 1, out, run ++ encB v, by omega, by go_num, h3, Lib.hid (by rw [← HK.out, HD.out, escF_spec HS.out]), by rw [List.length_append]; omega⟩
          case measure => simp [intOf]; omega
    · have e : k = xs.length := by omega
      subst e
      rw [List.drop_length] at HK
      have HK2 : Hid (out ++ escRun run = escL s) := Lib.hid (by rw [HL.out, ← HK.out]; rfl)
      go_wp2_with fail
      refine (flush_ w.heap.size w1 _ out run hE h0 HM1 (by omega) (by omega)).mono ?_; rintro e w3 ⟨rfl, h3⟩
      go_wp2_with fail
      refine (str_out w.heap.size w1 w3 _ _ h3).mono ?_; rintro e w4 ⟨rfl, h4⟩
      go_wp2
      go_ret
      exact ⟨by rw [HK2.out]; rfl, Below.trans HXW.out (Below.trans (h3.but.below (by omega) (by rintro k (e | e) <;> omega)) h4)⟩
end Go.Proofs.YtdkjkbbibdppoaaGreatDoor.Pat
