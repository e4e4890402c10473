/- The law abacistlaw18.PasteBlanks: whatever the input, the call returns true and each argument reads as it did; and the tied card of it. No condition beside the row's own (the two listed tables of unicode/utf8 hold what the library's text lays). -/
import Derived.Test.YtcghgkagpkmpeaaGreatDoorPBlank
import Derived.Test.YtcghgkagpkmpeaaGreatDoorJLocE
import Derived.Test.YtcghgkagpkmpeaaGreatDoorJItW
import Derived.Test.YtcghgkagpkmpeaaGreatDoorTie
import Derived.Test.YtcghgkagpkmpeaaGreatDoorCards
import Derived.Deep.DeepHandedRow
import Derived.Lay
import Derived.SevenTiedAt
import Derived.ChangeOld
import Derived.Below
import Derived.Carry
import Derived.Test.YtcghgkagpkmpeaaGreatDoorRows
import Derived.WalkKit
import Derived.ProofKit
import Derived.OpenShut
import Derived.ShutString
namespace Go.Proofs.YtcghgkagpkmpeaaGreatDoor.pasteBlanks
open Go.ChangeShapes Go.WideShapes Go.ChangeAt Go.RowKit
open Go.ChangeMaps (open_string shut_string)
set_option linter.unusedVariables false

theorem own : ownKnob Tryz.prog.godebug = none := by kernel_rfl
theorem laidOut : laidOutB Tryz.prog = true := by kernel_rfl
set_option maxRecDepth 100000 in
theorem lifted (os : Os) (started : os.Started) (H : Type) (enc : TypeId × Value → H) (F : Stop.Interp) :
    ReturnsInHanded {} Tryz.checked os 4 .any ((OpenSpec.ofChange Rows.pasteBlanksSpec).preRow enc Tryz.prog Tryz.f4 Rows.pasteBlanksRow.domain false Rows.pasteBlanksRow.laid) (((OpenSpec.ofChange Rows.pasteBlanksSpec).at F).post enc Tryz.prog Tryz.f4 false true false false) := by
  refine returnsInHanded_of_row (C := Tryz.checked) (s := OpenSpec.ofChange Rows.pasteBlanksSpec) own started (by kernel_rfl) Tryz.func4
    (ChangeSpec.witness_shaped (enc := enc) (C := Tryz.checked) (os := os) (s := Rows.pasteBlanksSpec) (X := fun w _ => laidMetH Tryz.prog Rows.pasteBlanksRow.laid w) false (World.laidAll Tryz.prog os Rows.pasteBlanksRow.laid) #[.agg #[.int .i64 0, .int .i64 0, .int .i64 0, .int .i64 0, .int .i64 0, .int .i64 0], .int .i64 0, .agg #[.bool false, .slice none 0 0, .bool false, .slice none 0 0], .int .i64 0, .int .i64 0] 8 (World.laidAll_os _ _ _)
      (World.shaped_of_ZipB (by kernel_rfl) (by kernel_rfl)) (by kernel_rfl) (by kernel_rfl) (by kernel_rfl)
      (by rw [MakeChecks.laidMetH_plain _ _ _ (by kernel_rfl)]; exact laidMet_laidAll _ (by kernel_rfl) (by kernel_rfl))) ?_
  intro W base args ds gs before hval0 hW _ _ _ hL0 hsh _
  have hval : ∀ (j : Nat) t v, Tryz.f4.params[j]? = some t → args[j]? = some v → Value.okWide Tryz.prog W .any base t v := hval0
  have hW' := hW
  obtain ⟨p, q, hA0, hV, rfl, hfz, hnd⟩ := hW
  have hA : DataW.TrodAll enc Tryz.prog W 0 (fun _ => true) true Tryz.f4.params.toList args.toList ds p := hA0
  rw [Tryz.params4] at hA hval
  obtain ⟨v0, vs0, d0, ds0, p0, q0, hargs, rfl, rfl, h0, r0⟩ := trodAll_cons hA
  obtain ⟨v1, vs1, d1, ds1, p1, q1, rfl, rfl, rfl, h1, r1⟩ := trodAll_cons r0
  obtain ⟨v2, vs2, d2, ds2, p2, q2, rfl, rfl, rfl, h2, r2⟩ := trodAll_cons r1
  obtain ⟨v3, vs3, d3, ds3, p3, q3, rfl, rfl, rfl, h3, r3⟩ := trodAll_cons r2
  obtain ⟨v4, vs4, d4, ds4, p4, q4, rfl, rfl, rfl, h4, r4⟩ := trodAll_cons r3
  obtain ⟨rfl, rfl, rfl⟩ := trodAll_nil r4
  obtain rfl : args = #[v0, v1, v2, v3, v4] := by cases args; simp_all
  obtain ⟨rfl, rfl⟩ := trodVars_none hV
  have k0 := h0
  have lt0 : ∀ x ∈ p0, x.block < W.heap.size := by obtain ⟨m, hm⟩ := k0; exact DataW.trod_lt m _ _ _ hm
  have o0 := hval 0 23 v0 rfl rfl
  have k1 := h1
  have lt1 : ∀ x ∈ p1, x.block < W.heap.size := by obtain ⟨m, hm⟩ := k1; exact DataW.trod_lt m _ _ _ hm
  have o1 := hval 1 3 v1 rfl rfl
  have k2 := h2
  have lt2 : ∀ x ∈ p2, x.block < W.heap.size := by obtain ⟨m, hm⟩ := k2; exact DataW.trod_lt m _ _ _ hm
  have o2 := hval 2 43 v2 rfl rfl
  have k3 := h3
  have lt3 : ∀ x ∈ p3, x.block < W.heap.size := by obtain ⟨m, hm⟩ := k3; exact DataW.trod_lt m _ _ _ hm
  have o3 := hval 3 3 v3 rfl rfl
  have k4 := h4
  have lt4 : ∀ x ∈ p4, x.block < W.heap.size := by obtain ⟨m, hm⟩ := k4; exact DataW.trod_lt m _ _ _ hm
  have o4 := hval 4 3 v4 rfl rfl
  clear hA0 hval0
  have hL : laidMet Tryz.prog Rows.pasteBlanksRow.laid W := by
    have h := hL0
    rw [MakeChecks.laidMetH_plain _ _ _ (by kernel_rfl)] at h
    exact h
  have hT := Loc.tabs_in hL (.tail _ (.head _)) (.head _)
  obtain ⟨u0_0, u0_1, u0_2, u0_3, u0_4, u0_5, rfl, b0_0, b0_1, b0_2, b0_3, b0_4, b0_5⟩ := Loc.open_g o0 h0
  obtain ⟨n1, rfl, rfl, rfl, z1⟩ := open_int Tryz.underlying3 o1 h1
  obtain ⟨A2, B2, c2, e2, g2, rfl, t2, i2⟩ := Loc.open_d o2 h2
  obtain ⟨n3, rfl, rfl, rfl, z3⟩ := open_int Tryz.underlying3 o3 h3
  obtain ⟨n4, rfl, rfl, rfl, z4⟩ := open_int Tryz.underlying3 o4 h4
  have C := Loc.law_PasteBlanks u0_0 u0_1 u0_2 u0_3 u0_4 u0_5 n1 A2 B2 c2 e2 g2 n3 n4 W b0_0 b0_1 b0_2 b0_3 b0_4 b0_5 (Pat.i64_of z1) t2 i2 (Pat.i64_of z3) (Pat.i64_of z4) hT
  refine C.mono fun e W' ⟨he, hg⟩ => ?_
  subst he
  exact ⟨_, rfl, _, _, _, [], _, [], hW', (trodAll_cons_mk (shut_bool Tryz.underlying4 _) trodAll_mk0), (trodAll_cons_mk (Below.trod laidOut (by kernel_rfl) (of_decide_eq_true (by kernel_rfl)) k0 hg lt0) (trodAll_cons_mk (Below.trod laidOut (by kernel_rfl) (of_decide_eq_true (by kernel_rfl)) k1 hg lt1) (trodAll_cons_mk (Below.trod laidOut (by kernel_rfl) (of_decide_eq_true (by kernel_rfl)) k2 hg lt2) (trodAll_cons_mk (Below.trod laidOut (by kernel_rfl) (of_decide_eq_true (by kernel_rfl)) k3 hg lt3) (trodAll_cons_mk (Below.trod laidOut (by kernel_rfl) (of_decide_eq_true (by kernel_rfl)) k4 hg lt4) trodAll_mk0))))), rfl, hg.frame _, fun h => by cases h⟩

theorem both_ {a b : Bool} (h1 : a = true) (h2 : b = true) : (a && b) = true := by rw [h1, h2]; rfl
theorem j0 : (Rows.pasteBlanksRow.wf (OpenSpec.ofChange (OpenSpec.ofChange Rows.pasteBlanksSpec).bare)) = true := by kernel_rfl
theorem j1 : (laidOutB Tryz.prog) = true := by kernel_rfl
theorem j2 : (mapsRowed Tryz.prog) = true := by kernel_rfl
theorem j3 : (Tryz.f4.params.all (Tryz.prog.readableRec ·)) = true := by kernel_rfl
theorem j4 : (namedTie Tryz.prog Rows.pasteBlanksRow.named (OpenSpec.ofChange Rows.pasteBlanksSpec).bare.vars) = true := by kernel_rfl
theorem j5 : ((Rows.pasteBlanksRow.stops == [])) = true := by kernel_rfl
theorem j6 : ((Tryz.prog.stops == [])) = true := by kernel_rfl
theorem j7 : ((Rows.pasteBlanksRow.knobs == [])) = true := by kernel_rfl
theorem j8 : ((Tryz.prog.stopKnobs == [])) = true := by kernel_rfl
theorem j9 : ((Rows.pasteBlanksRow.inPlace == Tryz.prog.inPlace 4)) = true := by kernel_rfl
theorem j10 : ((Rows.pasteBlanksRow.unfollowed == Tryz.prog.unfollowed 4)) = true := by kernel_rfl
theorem j11 : ((Rows.pasteBlanksRow.recurses == Tryz.prog.recurses 4)) = true := by kernel_rfl
theorem j12 : ((Rows.pasteBlanksRow.named == Tryz.prog.varsNamed 4)) = true := by kernel_rfl
theorem j13 : ((Rows.pasteBlanksRow.maps == (Tryz.f4.params.toList ++ (OpenSpec.ofChange Rows.pasteBlanksSpec).bare.plain.varTypes Tryz.prog).any (Tryz.prog.mapsRec ·))) = true := by kernel_rfl
theorem j14 : ((Rows.pasteBlanksRow.ifaces == (Tryz.f4.params.toList ++ (OpenSpec.ofChange Rows.pasteBlanksSpec).bare.plain.varTypes Tryz.prog).any (Tryz.prog.ifacesRec ·))) = true := by kernel_rfl
theorem j15 : ((Rows.pasteBlanksRow.mapsOut == Tryz.prog.mapsAmong Tryz.f4.resultTypes.toList)) = true := by kernel_rfl
theorem j16 : ((Rows.pasteBlanksRow.loops == (Tryz.f4.params.toList ++ (OpenSpec.ofChange Rows.pasteBlanksSpec).bare.plain.varTypes Tryz.prog).any (Tryz.prog.loopsFrom ·))) = true := by kernel_rfl
theorem j17 : ((Rows.pasteBlanksRow.wideKeys == (Tryz.f4.params.toList ++ (OpenSpec.ofChange Rows.pasteBlanksSpec).bare.plain.varTypes Tryz.prog ++ Tryz.f4.resultTypes.toList).any (Tryz.prog.wideKeysFrom ·))) = true := by kernel_rfl
theorem j18 : ((OpenSpec.ofChange Rows.pasteBlanksSpec).bare.vars.all (Tryz.prog.varReadable ·)) = true := by kernel_rfl
theorem j19 : (Tryz.f4.resultTypes.all (fun t => Tryz.prog.readableRec t && decide (t < Tryz.prog.types.size))) = true := by kernel_rfl
theorem j20 : ((Rows.pasteBlanksRow.ifacesOut == Tryz.f4.resultTypes.toList.any (Tryz.prog.ifacesRec ·))) = true := by kernel_rfl
theorem j21 : ((Rows.pasteBlanksRow.loopsOut == Tryz.f4.resultTypes.toList.any (Tryz.prog.loopsFrom ·))) = true := by kernel_rfl
theorem j22 : ((Rows.pasteBlanksRow.plainKeys == Tryz.prog.plainKeys)) = true := by kernel_rfl
theorem j23 : (Rows.pasteBlanksRow.shortTexts.isNone) = true := by kernel_rfl
theorem j24 : (Tryz.prog.stopsHeard) = true := by kernel_rfl
theorem j25 : (Tryz.prog.mayEnter) = true := by kernel_rfl
theorem j26 : ((Rows.pasteBlanksRow.lifted == Tryz.prog.liftsFinal)) = true := by kernel_rfl
theorem j27 : ((Tryz.prog.make == some Rows.pasteBlanksRow.make)) = true := by kernel_rfl
theorem j28 : ((Rows.pasteBlanksRow.kinds == (if Rows.pasteBlanksRow.domain.isEmpty then [] else Tryz.f4.params.toList.map fun t => match Tryz.prog.underlying t with | some (.int k) => some k | _ => none))) = true := by kernel_rfl
theorem j29 : ((Rows.pasteBlanksRow.pinned == Rows.pasteBlanksRow.pinnedBy)) = true := by kernel_rfl
theorem j30 : ((Rows.pasteBlanksRow.veiled == (Tryz.f4.params.toList ++ (OpenSpec.ofChange Rows.pasteBlanksSpec).bare.plain.varTypes Tryz.prog ++ Tryz.f4.resultTypes.toList).any (Tryz.prog.veiledRec ·))) = true := by kernel_rfl
theorem j31 : (Rows.pasteBlanksRow.veiledFits Tryz.prog Tryz.f4.params.toList (Tryz.f4.params.toList ++ (OpenSpec.ofChange Rows.pasteBlanksSpec).bare.plain.varTypes Tryz.prog ++ Tryz.f4.resultTypes.toList)) = true := by kernel_rfl
set_option maxRecDepth 100000 in
theorem closed : joinedFacts Tryz.prog 4 Tryz.f4 (OpenSpec.ofChange Rows.pasteBlanksSpec).bare Rows.pasteBlanksRow = true := by
  unfold joinedFacts
  exact both_ (both_ (both_ (both_ (both_ (both_ (both_ (both_ (both_ (both_ (both_ (both_ (both_ (both_ (both_ (both_ (both_ (both_ (both_ (both_ (both_ (both_ (both_ (both_ (both_ (both_ (both_ (both_ (both_ (both_ (both_ j0 j1) j2) j3) j4) j5) j6) j7) j8) j9) j10) j11) j12) j13) j14) j15) j16) j17) j18) j19) j20) j21) j22) j23) j24) j25) j26) j27) j28) j29) j30) j31
theorem over : Rows.pasteBlanksRow.holds Tryz.pinned (OpenSpec.ofChange Rows.pasteBlanksSpec) :=
  OpenClaim.holds_of_cond 4 Tryz.f4 rfl rfl rfl rfl rfl rfl rfl ⟨rfl, rfl, rfl, rfl, rfl⟩ rfl rfl rfl rfl rfl (by kernel_rfl) Tryz.func4 closed
    (of_decide_eq_true (by kernel_rfl)) (by unfold Func.isWrapper; first | (rw [if_pos (by decide +kernel)]; kernel_rfl) | (rw [if_neg (by decide +kernel)]; exact ⟨rfl, rfl⟩))
    (fun os started H enc _ F => by rw [OpenClaim.pre_eq_preRow]; exact lifted os started H enc F)

theorem card : Rows.PasteBlanksCardSaid :=
  Claim7.holds_tied_plain_at .later [] [.data, .pinned] true (true, "c69b1471a8212e31cbbc58c80f81dcdbf3fabde99d99a995767b3ca9ce03b7af") true over (fun _ h => by cases h) (by kernel_rfl) (fun _ h => by cases h) pasteBlanks_row_tie rfl ⟨rfl, rfl⟩ (by kernel_rfl) rfl
    (fun f fn hf hfn => by
      obtain rfl : f = 4 := Option.some.inj ((show Tryz.prog.funcNamed "abacist/abacistlaw18.PasteBlanks" = some 4 by kernel_rfl).symm.trans hf) |>.symm
      obtain rfl : fn = Tryz.f4 := (Option.some.inj (Tryz.func4.symm.trans hfn)).symm
      exact ⟨by kernel_rfl, fun j t ht => by
        have hall : (Tryz.f4.params.toList.all fun u => !Tryz.prog.wantsStandIn u) = true := by kernel_rfl
        have hm : t ∈ Tryz.f4.params.toList := by simpa using Array.mem_of_getElem? ht
        exact (show Tryz.prog.wantsStandIn t = false by simpa using List.all_eq_true.1 hall t hm)⟩)
    (by kernel_rfl)
#print axioms card
end Go.Proofs.YtcghgkagpkmpeaaGreatDoor.pasteBlanks
