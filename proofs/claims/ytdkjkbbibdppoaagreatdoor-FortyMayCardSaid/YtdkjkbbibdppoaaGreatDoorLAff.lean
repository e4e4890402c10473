/- Walks: whether a cluster is one of an affix (the program's). -/
import Derived.Test.YtdkjkbbibdppoaaGreatDoorLReg2
import Derived.Test.YtdkjkbbibdppoaaGreatDoorJLocC
import Derived.Test.YtdkjkbbibdppoaaGreatDoorJLocB
import Derived.Deep.RegionHeld3
namespace Go.Proofs.YtdkjkbbibdppoaaGreatDoor.Loc
open Go.RowKit Utf All Small Strs Build EncC Pat Cls Dec Go.Proofs.YtdkjkbbibdppoaaGreatDoor.Sys
set_option linter.unusedVariables false
set_option linter.unusedSimpArgs false

/-- whether an affix has a cluster -/
def affQ (l : Loc) (s : ByteArray) (q : List Pc) : Bool := (splitS (txtL l q)).any fun t => decide ((⟨t.toArray⟩ : ByteArray) = s)
def affB (l : Loc) (s : ByteArray) : Bool := (affs l).any (affQ l s)
theorem split_len_le (s : List UInt8) : (splitS s).length ≤ s.length := by
  have h1 := cuts_len s (cstL s)
  have h2 := starts_len_le s
  unfold splitS; omega
theorem contains_strs (A : Option Addr) (c : Nat) (ts : List (List UInt8)) (s : ByteArray) (W : World) (hr : Row W A (strsV ts)) (hl : ts.length ≤ 1000000) :
    Calls Tryz.prog 84 #[.slice A ts.length c, .string s] W fun e w' => e = .returned (.bool (ts.any fun t => decide ((⟨t.toArray⟩ : ByteArray) = s))) ∧ w' = W := by
  cases ts with
  | nil => exact Tryz.slices_Contains_string_empty A c s W
  | cons t0 r =>
    generalize hts : t0 :: r = ts at *
    obtain ⟨b, off, rfl, hc⟩ := hr.at_ (k := 0) (by rw [← hts]; simp [strsV])
    have h := Tryz.slices_Contains_string b off ts.length c (ts.map fun t => (⟨t.toArray⟩ : ByteArray)) s W (by simp) (by omega) (fun j hj => by
      have hj' : j < ts.length := by simpa using hj
      refine hc j _ ?_
      unfold strsV
      rw [List.getElem?_map, List.getElem?_eq_getElem hj', List.getD_eq_getElem?_getD, List.getElem?_map, List.getElem?_eq_getElem hj']; rfl)
    rw [List.take_of_length_le (by simp)] at h
    have he : Lib.containsS (ts.map fun t => (⟨t.toArray⟩ : ByteArray)) s = ts.any fun t => decide ((⟨t.toArray⟩ : ByteArray) = s) := by
      rw [Bool.eq_iff_iff, List.any_eq_true]
      unfold Lib.containsS
      rw [decide_eq_true_iff, Lib.idxOfS_nonneg_iff, List.mem_map]
      simp
    rwa [he] at h
set_option maxHeartbeats 4000000 in
set_option maxRecDepth 100000 in
theorem affix1_ (g b0 b1 : Nat) (A B C D X : Option Addr) (c d a b k : Nat) (q : List Pc) (s : ByteArray) (l : Loc) (w : World) (h : LocR w g A B C D c d a b l) (hb : LocB l) (hX : Row w X (pcsV q)) (hq : q ∈ affs l) (ht : (txtL l q).length ≤ 64)
    (h0 : w.cell? ⟨b0, 0, none⟩ = some (.pointer (some ⟨g, 0, none⟩))) (h1 : w.cell? ⟨b1, 0, none⟩ = some (.string s)) :
    Calls Tryz.prog 83 #[.slice X q.length k, .pointer (some ⟨b0, 0, none⟩), .pointer (some ⟨b1, 0, none⟩)] w fun e w' => e = .returned (.bool (affQ l s q)) ∧ Ext w w' := by
  have H1 : Hid (∀ W, Ext w W → Calls Tryz.prog 86 #[.pointer (some ⟨g, 0, none⟩), .slice X q.length k] W fun e w' => e = .returned (.string ⟨(txtL l q).toArray⟩) ∧ Ext W w') := Lib.hid fun W hW =>
    text_l g A B C D X c d a b q.length k q l W (h.ext hW) hb (hX.below hW (Nat.le_refl _)) rfl (hb.len q hq) (hb.txt q hq)
  have H2 : Hid (∀ W, Calls Tryz.prog 85 #[.string ⟨(txtL l q).toArray⟩] W fun e w' => ∃ E cE, e = .returned (.slice E (splitS (txtL l q)).length cE) ∧ Row w' E (strsV (splitS (txtL l q))) ∧ Ext W w') := Lib.hid fun W => by
    have := split_ ⟨(txtL l q).toArray⟩ W (by rw [sizeL]; omega)
    have hd : (⟨(txtL l q).toArray⟩ : ByteArray).data.toList = txtL l q := by simp
    rwa [hd] at this
  have hsl : (splitS (txtL l q)).length ≤ 1000000 := by
    have := split_len_le (txtL l q); omega
  have H3 : Hid (∀ E cE W, Row W E (strsV (splitS (txtL l q))) → Calls Tryz.prog 84 #[.slice E (splitS (txtL l q)).length cE, .string s] W fun e w' => e = .returned (.bool (affQ l s q)) ∧ w' = W) := Lib.hid fun E cE W hr =>
    contains_strs E cE _ s W hr hsl
  clear h hX hsl
  generalize affQ l s q = r at *
  generalize (⟨(txtL l q).toArray⟩ : ByteArray) = tx at *
  generalize splitS (txtL l q) = sp at *
  generalize q.length = n at *
  have hE0 := Ext.refl w
  go_enter Tryz.func83, Tryz.ntmps83
  go_upto_region 1 with fail
  refine wp_region_noPanic ?_
  refine wp_region_held_drew (S := fun W => Ext w W ∧ W.cell? ⟨b0, 0, none⟩ = some (.pointer (some ⟨g, 0, none⟩)) ∧ W.cell? ⟨b1, 0, none⟩ = some (.string s)) (by kernel_rfl) ?_ (fun hHeld => ?_)
  · exact ⟨Ext.drew_ (Ext.refl _), h0, h1⟩
  refine take_ 0 (v := ?_) rfl (by kernel_rfl) (by kernel_rfl) (by kernel_rfl) (fun _ _ _ h => h) hHeld (by rfl) ?_ ?_
  rotate_left 1
  · (intro w hSw; (try dsimp only at hSw); go_simp; all_goals with_reducible rfl)
  try simp only [Act.put, List.setIfInBounds_toArray, List.set_cons_zero, List.set_cons_succ]
  refine take_ 1 (v := ?_) rfl (by kernel_rfl) (by kernel_rfl) (by kernel_rfl) (fun _ _ _ h => h) hHeld (by rfl) ?_ ?_
  rotate_left 1
  · (intro w hSw; (try dsimp only at hSw); go_simp; all_goals with_reducible rfl)
  try simp only [Act.put, List.setIfInBounds_toArray, List.set_cons_zero, List.set_cons_succ]
  refine take_ 4 (v := ?_) rfl (by kernel_rfl) (by kernel_rfl) (by kernel_rfl) (fun _ _ _ h => h) hHeld (by rfl) ?_ ?_
  rotate_left 1
  · (intro w hSw; (try dsimp only at hSw); go_simp; all_goals with_reducible rfl)
  try simp only [Act.put, List.setIfInBounds_toArray, List.set_cons_zero, List.set_cons_succ]
  refine only_ 2 rfl (by kernel_rfl) (fun K1 hK1 => ?_)
  go_simp
  go_at_call 86
  refine (H1.out _ hHeld.1).mono ?_
  rintro e w2 ⟨rfl, hx2⟩
  refine hK1.out _ _ (⟨hHeld.1.trans hx2, Ext.cell_ hx2 hHeld.2.1, Ext.cell_ hx2 hHeld.2.2⟩) (fun hHeld => ?_)
  clear hK1
  try simp only [Act.put, List.setIfInBounds_toArray, List.set_cons_zero, List.set_cons_succ]
  refine only_ 3 rfl (by kernel_rfl) (fun K1 hK1 => ?_)
  go_simp
  go_at_call 85
  refine (H2.out _).mono ?_
  rintro e w3 ⟨E, cE, rfl, hr3, hx3⟩
  refine hK1.out _ _ (⟨hHeld.1.trans hx3, Ext.cell_ hx3 hHeld.2.1, Ext.cell_ hx3 hHeld.2.2⟩) (fun hHeld => ?_)
  clear hK1
  try simp only [Act.put, List.setIfInBounds_toArray, List.set_cons_zero, List.set_cons_succ]
  refine only_ 5 rfl (by kernel_rfl) (fun K1 hK1 => ?_)
  go_simp
  go_at_call 84
  refine (H3.out _ _ _ hr3).mono ?_
  rintro e w4 ⟨rfl, rfl⟩
  refine hK1.out _ _ (hHeld) (fun hHeld => ?_)
  clear hK1
  try simp only [Act.put, List.setIfInBounds_toArray, List.set_cons_zero, List.set_cons_succ]
  refine take_ 6 (v := ?_) rfl (by kernel_rfl) (by kernel_rfl) (by kernel_rfl) (fun _ _ _ h => h) hHeld (by rfl) ?_ ?_
  rotate_left 1
  · (intro w hSw; (try dsimp only at hSw); go_simp; all_goals with_reducible rfl)
  try simp only [Act.put, List.setIfInBounds_toArray, List.set_cons_zero, List.set_cons_succ]
  refine wpAnyH_done (by kernel_rfl) ?_ _
  refine NoPanic.normal ?_
  go_wp2
  go_ret
  exact ⟨rfl, hHeld.1⟩
set_option maxHeartbeats 4000000 in
set_option maxRecDepth 100000 in
theorem affix_l (g : Nat) (A B C D : Option Addr) (c d a b : Nat) (s : ByteArray) (l : Loc) (w : World) (h : LocR w g A B C D c d a b l) (M : MayL l) :
    Calls Tryz.prog 34 #[.pointer (some ⟨g, 0, none⟩), .string s] w fun e w' => e = .returned (.bool (affB l s)) ∧ Ext w w' := by
  have b1 := (Box.new w 47 [.pointer (some ⟨g, 0, none⟩)]).alloc (.cells ([.string s] : List Value).toArray 9)
  have c1 := Box.new (w.alloc (.cells ([.pointer (some ⟨g, 0, none⟩)] : List Value).toArray 47)) 9 [.string s]
  have hs1 : (w.alloc (.cells ([.pointer (some ⟨g, 0, none⟩)] : List Value).toArray 47)).heap.size = w.heap.size + 1 := by simp
  rw [hs1] at c1
  clear hs1
  have hx1 : Ext w ((w.alloc (.cells ([.pointer (some ⟨g, 0, none⟩)] : List Value).toArray 47)).alloc (.cells ([.string s] : List Value).toArray 9)) := Ext.alloc_ (Ext.alloc_ (Ext.refl w) _) _
  have k0 := b1.cell (j := 0) (v := .pointer (some ⟨g, 0, none⟩)) rfl
  have k1 := c1.cell (j := 0) (v := .string s) rfl
  clear b1 c1
  go_enter Tryz.func34, Tryz.ntmps34
  go_upto_region 1 with fail
  change Code.wp _ _ _ _ ((w.alloc (.cells ([.pointer (some ⟨g, 0, none⟩)] : List Value).toArray 47)).alloc (.cells ([.string s] : List Value).toArray 9))
  generalize (w.alloc (.cells ([.pointer (some ⟨g, 0, none⟩)] : List Value).toArray 47)).alloc (.cells ([.string s] : List Value).toArray 9) = w1 at *
  have HA : Hid (∀ W, Ext w1 W → Calls Tryz.prog 82 #[.pointer (some ⟨g, 0, none⟩)] W fun e w' => ∃ E, e = .returned (.slice E 4 4) ∧ Row w' E (affV A B C D c d a b l) ∧ Ext W w') := Lib.hid fun W hW => affixes_ g A B C D c d a b l W (h.ext (hx1.trans hW))
  have HC : Hid (∀ E W, Ext w1 W → Row W E (affV A B C D c d a b l) → Calls Tryz.prog 81 #[.slice E 4 4, .func (.func 83) #[] #[.pointer (some ⟨w.heap.size, 0, none⟩), .pointer (some ⟨w.heap.size + 1, 0, none⟩)]] W fun e w' => e = .returned (.bool (affB l s)) ∧ Ext W w') := Lib.hid fun E W hW hr => by
    have := ax_has E 4 4 (affV A B C D c d a b l) ((affs l).map (affQ l s)) w.heap.size (w.heap.size + 1) W hr rfl rfl (by decide) (Lib.hid fun i v bb W' hv hbb hW' => by
      obtain ⟨q, hqi, rfl⟩ : ∃ q, (affs l)[i]? = some q ∧ affQ l s q = bb := by
        rw [List.getElem?_map] at hbb
        cases hq : (affs l)[i]? with
        | none => rw [hq] at hbb; cases hbb
        | some q => rw [hq] at hbb; exact ⟨q, rfl, Option.some.inj hbb⟩
      have hp := (h.ext (hx1.trans (hW.trans hW'))).pt
      have hx2 := hW.trans hW'
      have hi4 : i < 4 := (List.getElem?_eq_some_iff.1 hqi).1
      obtain ⟨X, k, rfl, hX⟩ : ∃ X k, v = .slice X q.length k ∧ Row W' X (pcsV q) := by
        obtain ⟨p1, p2, p3, p4⟩ := hp
        match i, hi4 with
        | 0, _ => simp [affs] at hqi; simp [affV] at hv; subst hqi; exact ⟨A, c, hv.symm, p1⟩
        | 1, _ => simp [affs] at hqi; simp [affV] at hv; subst hqi; exact ⟨B, d, hv.symm, p2⟩
        | 2, _ => simp [affs] at hqi; simp [affV] at hv; subst hqi; exact ⟨C, a, hv.symm, p3⟩
        | 3, _ => simp [affs] at hqi; simp [affV] at hv; subst hqi; exact ⟨D, b, hv.symm, p4⟩
      have hqm := List.mem_of_getElem? hqi
      exact affix1_ g w.heap.size (w.heap.size + 1) A B C D X c d a b k q s l W' (h.ext (hx1.trans hx2)) M.b hX hqm (M.aff q hqm) (Ext.cell_ hx2 k0) (Ext.cell_ hx2 k1))
    have he : ((affs l).map (affQ l s)).any idB = affB l s := by
      unfold affB
      rw [List.any_map]; rfl
    rwa [he] at this
  clear h M
  go_wp2_with (first
    | (go_at_call 82; with_reducible refine (HA.out _ (Ext.refl _)).mono ?_; rintro e w4 ⟨E, rfl, hr4, hx4⟩)
    | (go_at_call 81; with_reducible refine (HC.out _ _ hx4 hr4).mono ?_; rintro e w5 ⟨rfl, hx5⟩))
  go_ret
  exact ⟨rfl, hx1.trans (hx4.trans hx5)⟩
end Go.Proofs.YtdkjkbbibdppoaaGreatDoor.Loc
