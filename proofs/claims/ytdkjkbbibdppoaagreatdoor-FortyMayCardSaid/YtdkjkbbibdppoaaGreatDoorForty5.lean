/- Walks: the record of a name. -/
import Derived.Test.YtdkjkbbibdppoaaGreatDoorForty4
namespace Go.Proofs.YtdkjkbbibdppoaaGreatDoor.Forty
open Go.RowKit Go.Shelf Small
set_option linter.unusedVariables false
set_option linter.unusedSimpArgs false
attribute [local go_sem] Oper.semAt_some

theorem Box.kept {W W' : World} {row : Option Nat} {g : Nat} {T : TypeId} {cs : List Value} (h : Box W g T cs) (hg : W.grownBy W' row) (hne : some g ≠ row) : Box W' g T cs := (hg.block g h.lt hne).trans h
theorem box_own {β : Type} (B g : Nat) (T : TypeId) (cs : List Value) : OwnFrom (β := β) B (fun _ W => Box W g T cs) := fun s W W' row h hg hr => by
  refine Box.kept h hg fun e => ?_
  obtain ⟨_, o, ho, hc⟩ := hr g e.symm
  have h : W.heap[g]? = _ := h
  rw [h] at ho; injection ho with ho; subst ho; cases hc
theorem boxed_box {W : World} {g : Nat} {T : TypeId} {v : Value} : Boxed W g T v ↔ Box W g T [v] := Iff.rfl
theorem results_rec2 {fn : Func} (h : fn.results = #[.cell 2 52, .cell 3 29]) (tmps : Array Value) (w : World) (g k : Nat) (cs : List Value) (v : Value)
    (h2 : tmps.getD 2 undef = .pointer (some ⟨g, 0, none⟩)) (h3 : tmps.getD 3 undef = .pointer (some ⟨k, 0, none⟩)) (hb : Box w g 52 cs) (hl : cs.length = 8) (hk : Box w k 29 [v]) :
    (results fn tmps).run Tryz.prog w = .ok (.tuple #[.agg cs.toArray, v]) w := by
  have h2' : tmps[2]?.getD undef = .pointer (some ⟨g, 0, none⟩) := by simpa using h2
  have h3' : tmps[3]?.getD undef = .pointer (some ⟨k, 0, none⟩) := by simpa using h3
  have e1 := run_loadVar_row (P := Tryz.prog) w g _ 52 cs.toArray (0, 0) _ hb Tryz.underlying52 rfl (by rw [infoL]; simp [hl])
  have hc := hk.cell (j := 0) rfl
  have e2 : (loadVar 29 ⟨k, 0, none⟩).run Tryz.prog w = .ok v w := by simp [go_sem, hc]
  simp [results, h, h2', h3', asAddr, e1, e2]

theorem Box.putObj {W : World} {g : Nat} {T : TypeId} {cs : List Value} (h : Box W g T cs) (D : Nat) (o : Obj) (hne : g ≠ D) : Box (W.putObj D o) g T cs := (World.putObj_heap_other hne).trans h
theorem Box.others {W W' : World} (h : KeepsOthers W W') {D : Nat} {o : Obj} (hd : W.heap[D]? = some o) (ho : o.isCells = false) : W'.heap[D]? = some o := h.same D _ hd ho
theorem others_setRow {W : World} {g : Nat} {T : TypeId} {cs : List Value} (h : Box W g T cs) (ds : Array Value) : KeepsOthers W (W.setRow g ds) := ⟨by simp, fun i o hi ho => by
  by_cases e : i = g
  · subst e; rw [show W.heap[i]? = _ from h] at hi; injection hi with hi; subst hi; cases ho
  · exact (setRow_other W _ i _ e).trans hi⟩

theorem zero8_one : zero8.toArray.all (·.oneCell') = true := by simp [zero8, Value.oneCell']

/-- the record of a name, and its error -/
def recR (s : ByteArray) : List Value := if 0 ≤ findZ s then recL (findZ s).toNat else zero8
def recE (s : ByteArray) : Int := if 0 ≤ findZ s then 0 else 7
theorem findZ_hit (s : ByteArray) (k : Nat) (hk : k < 40) (h : ∀ j ∈ List.range k, nameAt j ≠ s) (he : nameAt k = s) : findZ s = k := by
  have e : (List.range 40).take k = List.range k := by rw [List.take_range]; congr 1; omega
  refine idxF_at _ _ k (by simpa using hk) ?_ (by simp [he])
  rw [e, List.any_eq_false]
  intro x hx
  simpa using h x hx
theorem findZ_miss (s : ByteArray) (h : ∀ j ∈ List.range 40, nameAt j ≠ s) : findZ s = -1 := by
  refine idxF_none _ _ ?_
  rw [List.any_eq_false]
  intro x hx
  simpa using h x hx

set_option maxRecDepth 100000 in
set_option maxHeartbeats 2000000 in
theorem record_in (s : ByteArray) (w : World) : CallsIn Fence.wide 3 Tryz.prog 45 #[.string s] w fun e W' => e = .returned (.tuple #[.agg (recR s).toArray, .int .i64 (recE s)]) ∧ Ext w W' := by
  refine callsIn_of_wp_marks Tryz.func45 rfl trivial ?_ rfl
  simp only [Tryz.ntmps45, List.size_toArray, List.length_cons, List.length_nil, Nat.reduceAdd, Nat.reduceSub, Array.replicate_succ, Array.replicate_zero, List.push_toArray, List.append_toArray, List.nil_append, List.cons_append]
  gi_wp2
  refine ⟨trivial, ?_⟩
  gi_at_call 91
  refine (callsIn_wide.2 (forty_all _)).mono ?_
  rintro e w' ⟨rfl, rfl⟩
  gi_wp2
  have b0 : Box (((w.alloc (.cells #[.string s] 9)).alloc (.cells zero8.toArray 52)).alloc (.cells #[.int .i64 0] 29)) w.heap.size 9 [.string s] := ((Box.new w 9 [.string s]).alloc _).alloc _
  have b1 : Box (((w.alloc (.cells #[.string s] 9)).alloc (.cells zero8.toArray 52)).alloc (.cells #[.int .i64 0] 29)) (w.heap.size + 1) 52 zero8 := by
    have := (Box.new (w.alloc (.cells #[.string s] 9)) 52 zero8).alloc (.cells #[.int .i64 0] 29)
    rwa [World.size_alloc] at this
  have b2 : Box (((w.alloc (.cells #[.string s] 9)).alloc (.cells zero8.toArray 52)).alloc (.cells #[.int .i64 0] 29)) (w.heap.size + 1 + 1) 29 [.int .i64 0] := by
    have := (Box.new ((w.alloc (.cells #[.string s] 9)).alloc (.cells zero8.toArray 52)) 29 [.int .i64 0])
    rwa [World.size_alloc, World.size_alloc] at this
  have hB0 : Below w.heap.size w (((w.alloc (.cells #[.string s] 9)).alloc (.cells zero8.toArray 52)).alloc (.cells #[.int .i64 0] 29)) := ((Ext.refl w).alloc_ _ |> Ext.alloc_ <| _) |> Ext.alloc_ <| _
  have hsz : (((w.alloc (.cells #[.string s] 9)).alloc (.cells zero8.toArray 52)).alloc (.cells #[.int .i64 0] 29)).heap.size = w.heap.size + 3 := by simp
  change Code.wpIn _ _ _ _ _ _ (((w.alloc (.cells #[.string s] 9)).alloc (.cells zero8.toArray 52)).alloc (.cells #[.int .i64 0] 29))
  generalize (((w.alloc (.cells #[.string s] 9)).alloc (.cells zero8.toArray 52)).alloc (.cells #[.int .i64 0] 29)) = W0 at *
  have HSZ := Lib.hid hsz
  clear hsz
  refine wpIn_rangeFunc_ownH rfl (by omega) (gf := 142) (lb := #[]) rfl trivial (enters_of Tryz.func142 (by kernel_rfl) rfl)
    (all_stops 2 (by omega) W0) KeepsR.trans KeepsR.putObj (Below.refl _ _) (fun _ => rfl)
    (fun pre W => (Box W w.heap.size 9 [.string s] ∧ Box W (w.heap.size + 1) 52 zero8 ∧ Box W (w.heap.size + 1 + 1) 29 [.int .i64 0]) ∧ (∀ j ∈ pre, nameAt j ≠ s) ∧ Below w.heap.size w W)
    (fun c pre W => (c = .ret ∧ ∃ pre' x, pre = pre' ++ [x] ∧ nameAt x = s ∧ (∀ j ∈ pre', nameAt j ≠ s) ∧ Box W (w.heap.size + 1) 52 (recL x)) ∧ Box W (w.heap.size + 1 + 1) 29 [.int .i64 0] ∧ Below w.heap.size w W)
    (OwnFrom.and (OwnFrom.and (box_own _ _ _ _) (OwnFrom.and (box_own _ _ _ _) (box_own _ _ _ _))) (OwnFrom.and (ownFrom_pure _ _) (ownFrom_below (Nat.le_refl _) (by rw [HSZ.out]; omega))))
    (fun c => OwnFrom.and (fun pre W W' row h hg hr => by obtain ⟨hc, pre', x, e, h1, h2, h3⟩ := h; exact ⟨hc, pre', x, e, h1, h2, box_own (β := Unit) _ _ _ _ () W W' row h3 hg hr⟩) (OwnFrom.and (box_own _ _ _ _) (ownFrom_below (Nat.le_refl _) (by rw [HSZ.out]; omega))))
    ⟨⟨b0, b1, b2⟩, by simp, hB0⟩
    (fun x a' W => ∃ Bx, w.heap.size + 3 ≤ Bx ∧ Box W Bx 52 (recL x) ∧ a' = { tmps := #[.string s, .pointer (some ⟨w.heap.size, 0, none⟩), .pointer (some ⟨w.heap.size + 1, 0, none⟩), .pointer (some ⟨w.heap.size + 1 + 1, 0, none⟩), .string (nameAt x), .pointer (some ⟨Bx, 0, none⟩), .func (.func 142) #[] #[], .string (nameAt x), recV x, undef, undef, undef, undef, undef], defers := [] })
    (fun x a' => fun u W W' row h hg hr => by obtain ⟨Bx, h1, h2, h3⟩ := h; exact ⟨Bx, h1, box_own (β := Unit) _ _ _ _ () W W' row h2 hg hr, h3⟩)
    ?assign ?body ?done ?stop
  case assign =>
    rintro l pre x W K ⟨⟨c0, c1, c2⟩, hn, hB⟩ hK
    have hsw := hB.size
    have hlt := c2.lt
    have hbx := Box.new W 52 (recL x)
    have HK := Lib.hid (hK { tmps := #[.string s, .pointer (some ⟨w.heap.size, 0, none⟩), .pointer (some ⟨w.heap.size + 1, 0, none⟩), .pointer (some ⟨w.heap.size + 1 + 1, 0, none⟩), .string (nameAt x), .pointer (some ⟨W.heap.size, 0, none⟩), .func (.func 142) #[] #[], .string (nameAt x), recV x, undef, undef, undef, undef, undef], defers := [] } (W.alloc (.cells (recL x).toArray 52)) ((KeepsOthers.alloc _ _).from _) (KeepsR.alloc _ _) ⟨⟨c0.alloc _, c1.alloc _, c2.alloc _⟩, hn, Ext.alloc_ hB _⟩ ⟨W.heap.size, by omega, hbx, rfl⟩)
    clear hK
    unfold encs
    gi_wp2_with (refine wpListIn_store_new rfl 52 (.tmp 5) (.tmp 8) rfl (recL x).toArray 52 _ rfl rfl infoL rfl (recL_one x) ?_)
    exact HK.out
  case body =>
    rintro l pre x a' W hl hlp ⟨⟨c0, c1, c2⟩, hn, hB⟩ ⟨Bx, hBx, bX, rfl⟩ hlen
    have hc0 := c0.cell (j := 0) (v := .string s) rfl
    have HX := Lib.hid bX.range
    have HC1 := Lib.hid c1
    have HC2 := Lib.hid c2
    have hc2 := c2.cell (j := 0) (v := .int .i64 0) rfl
    have hf2 := c2.frozen 0
    have HB := Lib.hid hB
    have HN := Lib.hid hn
    clear hn c1 c2 bX hB
    have hbs := beq_str (nameAt x) s
    by_cases e : nameAt x = s
    · have E := Lib.hid e
      rw [decide_eq_true e] at hbs
      have hne : w.heap.size + 1 + 1 ≠ w.heap.size + 1 := by omega
      have hc2' : (W.setRow (w.heap.size + 1) (recL x).toArray).cell? ⟨w.heap.size + 1 + 1, 0, none⟩ = some (.int .i64 0) := (HC2.out.other hne _).cell rfl
      have hf2' : (W.setRow (w.heap.size + 1) (recL x).toArray).frozen? ⟨w.heap.size + 1 + 1, 0, none⟩ = false := (HC2.out.other hne _).frozen 0
      have HT : Hid (Box (W.setRow (w.heap.size + 1) (recL x).toArray) (w.heap.size + 1) 52 (recL x)) := Lib.hid (HC1.out.set _)
      have HT2 : Hid (Box (W.setRow (w.heap.size + 1) (recL x).toArray) (w.heap.size + 1 + 1) 29 [.int .i64 0]) := Lib.hid (HC2.out.other hne _)
      have HT3 : Hid (Below w.heap.size w (W.setRow (w.heap.size + 1) (recL x).toArray)) := Lib.hid (Ext.setRow HB.out (by omega) _)
      have HT4 : Hid (KeepsOthers W (W.setRow (w.heap.size + 1) (recL x).toArray)) := Lib.hid (others_setRow HC1.out _)
      clear e
      gi_wp2_with (first
        | (refine wpListIn_load_mid rfl 52 (.tmp 5) rfl Bx 0 rfl (recL x) _ HX.out Tryz.underlying52 rfl infoL ?_)
        | (refine wpListIn_store_row rfl 52 (.tmp 2) (.tmp 12) rfl (w.heap.size + 1) (recL x).toArray rfl rfl _ _ HC1.out infoL rfl (recL_one x) ?_; generalize W.setRow (w.heap.size + 1) (recL x).toArray = W2 at *))
      exact ⟨(HT4.out.trans (KeepsOthers.setCell _ _ _)).from _, ⟨rfl, pre, x, rfl, E.out, HN.out, HT.out.setCell1 _ _ (by omega) _⟩, HT2.out.setCell 0 _, Ext.setCell_ HT3.out (by omega) _ _⟩
    · have E := Lib.hid e
      rw [decide_eq_false e] at hbs
      clear e
      gi_wp2
      exact ⟨KeepsFrom.refl _ _, KeepsR.refl _, ⟨c0, HC1.out, HC2.out⟩, fun j hj => by rcases List.mem_append.1 hj with h | h; exact HN.out j h; simp at h; rw [h]; exact E.out, HB.out⟩
  case done =>
    rintro D ys W hD rfl ⟨⟨c0, c1, c2⟩, hn, hB⟩ hK
    have HF := Lib.hid (findZ_miss s hn)
    have HC1 := Lib.hid c1
    have HC2 := Lib.hid c2
    have HB := Lib.hid hB
    have HK := Lib.hid hK
    have HD : Hid (w.heap.size + 3 ≤ D) := Lib.hid (by rw [← HSZ.out]; exact hD)
    have hne : w.heap.size + 1 + 1 ≠ w.heap.size + 1 := by omega
    have hc2' : (W.setRow (w.heap.size + 1) zero8.toArray).cell? ⟨w.heap.size + 1 + 1, 0, none⟩ = some (.int .i64 0) := (HC2.out.other hne _).cell rfl
    have hf2' : (W.setRow (w.heap.size + 1) zero8.toArray).frozen? ⟨w.heap.size + 1 + 1, 0, none⟩ = false := (HC2.out.other hne _).frozen 0
    have HT : Hid (Box (W.setRow (w.heap.size + 1) zero8.toArray) (w.heap.size + 1) 52 zero8) := Lib.hid (HC1.out.set _)
    have HT2 : Hid (Box (W.setRow (w.heap.size + 1) zero8.toArray) (w.heap.size + 1 + 1) 29 [.int .i64 0]) := Lib.hid (HC2.out.other hne _)
    have HT3 : Hid (Below w.heap.size w (W.setRow (w.heap.size + 1) zero8.toArray)) := Lib.hid (Ext.setRow HB.out (by omega) _)
    have HT4 : Hid (KeepsOthers W (W.setRow (w.heap.size + 1) zero8.toArray)) := Lib.hid (others_setRow HC1.out _)
    clear hn c0 c1 c2 hB hK hD
    gi_wp2_with (refine wpListIn_store_row rfl 52 (.tmp 2) (.tmp 13) rfl (w.heap.size + 1) zero8.toArray rfl rfl _ _ HC1.out infoL rfl zero8_one ?_; generalize W.setRow (w.heap.size + 1) zero8.toArray = W2 at *)
    have hk2 := (HT4.out.trans (KeepsOthers.setCell W2 ⟨w.heap.size + 1 + 1, 0, none⟩ (.int .i64 7))).same D _ HK.out rfl
    refine ⟨by simp, .inl ⟨_, _, rfl, run_takeDeferred hk2, ?_⟩⟩
    have hd1 := HD.out
    refine ⟨_, results_rec2 rfl _ _ (w.heap.size + 1) (w.heap.size + 1 + 1) zero8 (.int .i64 7) rfl rfl (Box.putObj (HT.out.setCell1 _ _ (by omega) _) D _ (by omega)) rfl (Box.putObj (HT2.out.setCell 0 (.int .i64 7)) D _ (by omega)), ?_, ?_⟩
    · rw [recR, recE, HF.out]; rfl
    · exact Below.trans (Ext.setCell_ HT3.out (show w.heap.size ≤ w.heap.size + 1 + 1 by omega) 0 (.int .i64 7)) (belowK_b (w := w) (Nat.le_refl _) _ D _ _ (by omega) hk2 rfl rfl)
  case stop =>
    rintro D c pre W hD hSp ⟨⟨rfl, pre', x, rfl, hx, hn, c1⟩, c2, hB⟩ hK
    obtain ⟨k, hk, hpre⟩ := hSp
    have hkx : k = pre'.length + 1 := by have := congrArg List.length hpre; simpa using this.symm
    subst hkx
    rw [List.range_succ] at hpre
    obtain ⟨hp, hxk⟩ := List.append_inj' hpre rfl
    have hxk : x = pre'.length := by simpa using hxk
    have HF := Lib.hid (findZ_hit s x (by omega) (by rw [hxk, ← hp]; exact hn) hx)
    have HC1 := Lib.hid c1
    have HC2 := Lib.hid c2
    have HB := Lib.hid hB
    have HK := Lib.hid hK
    have HD : Hid (w.heap.size + 3 ≤ D) := Lib.hid (by rw [← HSZ.out]; exact hD)
    clear hn c1 c2 hB hK hD hpre hp hxk hx
    gi_wp2
    refine ⟨by simp, .inl ⟨_, _, rfl, run_takeDeferred HK.out, ?_⟩⟩
    have hd1 := HD.out
    refine ⟨_, results_rec2 rfl _ _ (w.heap.size + 1) (w.heap.size + 1 + 1) (recL x) (.int .i64 0) rfl rfl (Box.putObj HC1.out D _ (by omega)) rfl (Box.putObj HC2.out D _ (by omega)), ?_, ?_⟩
    · rw [recR, recE, HF.out]; simp
    · exact HB.out.trans (belowK_b (w := w) (Nat.le_refl _) _ D _ _ (by omega) HK.out rfl rfl)
theorem forty_record (s : ByteArray) (w : World) : Calls Tryz.prog 45 #[.string s] w fun e W' => e = .returned (.tuple #[.agg (recR s).toArray, .int .i64 (recE s)]) ∧ Ext w W' :=
  callsIn_wide.1 (record_in s w)
end Go.Proofs.YtdkjkbbibdppoaaGreatDoor.Forty
