/- Small words of our own for walks: rows of cells behind slices, own rows, appends. -/
import Derived.Test.YtdkjkbbibdppoaaGreatDoorRows
import Derived.WalkKit
import Derived.WalkLawsBesides
import Derived.Handy
import Derived.BigQuiet
import Derived.Deep.QuietTactic
import Derived.Lib.Hide
namespace Go.Proofs.YtdkjkbbibdppoaaGreatDoor
open Go.RowKit
set_option linter.unusedVariables false
set_option linter.unusedSimpArgs false

theorem ret_int {k : IntKind} {a b : Int} (h : a = b) : Ending.returned (.int k a) = .returned (.int k b) := by rw [h]
theorem ret_bool {a b : Bool} (h : a = b) : Ending.returned (.bool a) = .returned (.bool b) := by rw [h]

/-- The cells cs stand behind the address A. -/
def Row (w : World) (A : Option Addr) (cs : List Value) : Prop :=
  cs = [] ∨ ∃ b off, A = some ⟨b, off, none⟩ ∧ ∀ j v, cs[j]? = some v → w.cell? ⟨b, off + j, none⟩ = some v

section
variable {w w' : World} {A : Option Addr} {cs : List Value}
theorem Row.nil : Row w A [] := .inl rfl
theorem Row.at_ {k : Nat} (h : Row w A cs) (hk : k < cs.length) : ∃ b off, A = some ⟨b, off, none⟩ ∧ ∀ j v, cs[j]? = some v → w.cell? ⟨b, off + j, none⟩ = some v := by
  rcases h with rfl | h
  · simp at hk
  · exact h
theorem block_lt {b off : Nat} {v : Value} (h : w.cell? ⟨b, off, none⟩ = some v) : b < w.heap.size := by
  rcases Nat.lt_or_ge b w.heap.size with hl | hl
  · exact hl
  · simp [World.cell?, Array.getElem?_eq_none hl] at h
theorem Row.keep (h : Row w A cs) (hk : ∀ b off, b < w.heap.size → w'.cell? ⟨b, off, none⟩ = w.cell? ⟨b, off, none⟩) : Row w' A cs := by
  rcases h with rfl | ⟨b, off, e, hc⟩
  · exact .inl rfl
  · exact .inr ⟨b, off, e, fun j v hv => (hk _ _ (block_lt (hc j v hv))).trans (hc j v hv)⟩
theorem Row.below {B : Nat} (h : Row w A cs) (hb : Below B w w') (hB : w.heap.size ≤ B) : Row w' A cs :=
  h.keep fun b off hl => hb.cell (p := ⟨b, off, none⟩) (Nat.lt_of_lt_of_le hl hB)
theorem Row.drop {k : Nat} (h : Row w A cs) : Row w (A.map fun a => ⟨a.block, a.off + k, a.spot⟩) (cs.drop k) := by
  rcases h with rfl | ⟨b, off, e, hc⟩
  · exact .inl (by simp)
  · refine .inr ⟨b, off + k, by rw [e]; rfl, fun j v hv => ?_⟩
    rw [Nat.add_assoc]
    exact hc _ v (by rw [← hv, List.getElem?_drop])
theorem Row.take {k : Nat} (h : Row w A cs) : Row w A (cs.take k) := by
  rcases h with rfl | ⟨b, off, e, hc⟩
  · exact .inl (by simp)
  · exact .inr ⟨b, off, e, fun j v hv => hc j v (by rw [List.getElem?_take] at hv; split at hv; exact hv; cases hv)⟩
theorem Row.of_own {base n : Nat} {e : TypeId} {size c : Nat} (h : w.ownsRow base e size (.slice A n c) n cs) : Row w A cs := by
  rcases h.2 with ⟨hv, hc⟩ | ⟨g, cap, cur, hv, _⟩
  · refine .inl (List.eq_nil_of_length_eq_zero ?_); rw [h.1, hc, Nat.zero_mul]
  · refine .inr ⟨g, 0, by injection hv, fun j v hj => ?_⟩
    have := h.cells (g := g) (by rw [hv]; rfl) j v hj
    unfold Addr.add at this
    split at this
    · rename_i h0; rw [Nat.zero_add, h0]; exact this
    · exact this
end

theorem Row.cell0 {w : World} {b off : Nat} {cs : List Value} {k : Nat} {v : Value} (h : Row w (some ⟨b, off, none⟩) cs) (hv : cs[k]? = some v) : w.cell? ⟨b, off + k, none⟩ = some v := by
  rcases h with rfl | ⟨b', off', e, hc⟩
  · simp at hv
  · injection e with e
    injection e with e1 e2
    subst e1; subst e2
    exact hc k v hv
theorem Row.cell00 {w : World} {b : Nat} {cs : List Value} {k : Nat} {v : Value} (h : Row w (some ⟨b, 0, none⟩) cs) (hv : cs[k]? = some v) : w.cell? ⟨b, k, none⟩ = some v := by
  have := h.cell0 hv
  rwa [Nat.zero_add] at this
theorem Ext.cell_ {w w' : World} (h : Below w.heap.size w w') {b off : Nat} {v : Value} (hc : w.cell? ⟨b, off, none⟩ = some v) : w'.cell? ⟨b, off, none⟩ = some v :=
  (h.cell (p := ⟨b, off, none⟩) (block_lt hc)).trans hc

/-- Nothing that was there has turned. -/
abbrev Ext (w w' : World) : Prop := Below w.heap.size w w'
theorem ext_drewN (w : World) (n : Nat) : Below w.heap.size w (w.drewN n) := ⟨rfl, rfl, rfl, Nat.le_refl _, fun _ _ => rfl⟩
theorem Ext.refl (w : World) : Ext w w := Below.refl _ _
theorem Ext.trans {a b c : World} (h : Ext a b) (k : Ext b c) : Ext a c := Below.trans h (k.mono h.size)

theorem bytes_ext {x s : ByteArray} (h : x.data.toList = s.data.toList) : x = s := by
  cases x; cases s; congr; exact Array.toList_inj.1 h
/-- the walk's spelling of == on strings -/
theorem beq_str (x s : ByteArray) : (x.toList == s.toList) = decide (x = s) := by
  rw [Bool.eq_iff_iff, beq_iff_eq, decide_eq_true_iff, ByteArray.toList_eq, ByteArray.toList_eq]
  exact ⟨bytes_ext, fun h => by rw [h]⟩
theorem beq_strL (x s : ByteArray) : (x.toList == s.toList) = decide (x.data.toList = s.data.toList) := by
  rw [Bool.eq_iff_iff, beq_iff_eq, decide_eq_true_iff, ByteArray.toList_eq, ByteArray.toList_eq]

theorem app_mk (l m : List UInt8) : (⟨l.toArray⟩ : ByteArray) ++ ⟨m.toArray⟩ = ⟨(l ++ m).toArray⟩ := by
  apply bytes_ext
  simp [ByteArray.data_append]
theorem str_eq {l m : List UInt8} (h : l = m) : Value.string ⟨l.toArray⟩ = Value.string ⟨m.toArray⟩ := by rw [h]

/-- bytes, of numbers -/
def bytesZ (ns : List Int) : List UInt8 := ns.map fun n => UInt8.ofNat n.toNat

theorem foldl_push (ns : List Int) : ∀ s : ByteArray, ns.foldl (fun r n => r.push (UInt8.ofNat n.toNat)) s = ⟨(s.data.toList ++ bytesZ ns).toArray⟩ := by
  induction ns with
  | nil => intro s; simp [bytesZ]
  | cons n ns ih =>
    intro s
    rw [List.foldl_cons, ih]
    simp [bytesZ, ByteArray.push]

/-- string(bytes): the bytes that stand there. -/
theorem run_bytes_str (w : World) (A : Option Addr) (c : Nat) (ns : List Int) (h : Row w A (ns.map (Value.int .u8))) :
    (convert 164 9 (.slice A ns.length c)).run Tryz.prog w = .ok (.string ⟨(bytesZ ns).toArray⟩) w := by
  rw [run_convert_bytes_string w _ _ _ A ns.length c Tryz.underlying164 Tryz.underlying5 Tryz.underlying9]
  rcases A with _ | a
  · rcases h with h | ⟨b, off, h, _⟩
    · simp at h; subst h; rfl
    · cases h
  · rw [run_bytesToString w a ns.length c ns, foldl_push]
    · rfl
    · have hl : ns.length = (ns.map (Value.int .u8)).length := by simp
      rw [hl]
      refine run_loadCells_list w a _ ?_
      intro j v hv
      rcases h with h | ⟨b, off, h, hc⟩
      · rw [h] at hv; simp at hv
      · injection h with h
        subst h
        have := hc j v hv
        unfold Addr.add
        split
        · rename_i h0; subst h0; exact this
        · exact this

theorem row_new (w : World) (cs : List Value) (e : TypeId) : Row (w.alloc (.cells cs.toArray e)) (some ⟨w.heap.size, 0, none⟩) cs :=
  .inr ⟨_, _, rfl, fun j v hv => by simp [hv]⟩
theorem run_lit1 (w : World) (a : Int) : (convert 164 9 (.slice (some ⟨w.heap.size, 0, none⟩) 1 1)).run Tryz.prog (w.alloc (.cells #[.int .u8 a] 5)) = .ok (.string ⟨(bytesZ [a]).toArray⟩) (w.alloc (.cells #[.int .u8 a] 5)) :=
  run_bytes_str _ _ 1 [a] (row_new w [.int .u8 a] _)
theorem run_lit2 (w : World) (a b : Int) : (convert 164 9 (.slice (some ⟨w.heap.size, 0, none⟩) 2 2)).run Tryz.prog (w.alloc (.cells #[.int .u8 a, .int .u8 b] 5)) = .ok (.string ⟨(bytesZ [a, b]).toArray⟩) (w.alloc (.cells #[.int .u8 a, .int .u8 b] 5)) :=
  run_bytes_str _ _ 2 [a, b] (row_new w [.int .u8 a, .int .u8 b] _)
theorem run_lit3 (w : World) (a b c : Int) : (convert 164 9 (.slice (some ⟨w.heap.size, 0, none⟩) 3 3)).run Tryz.prog (w.alloc (.cells #[.int .u8 a, .int .u8 b, .int .u8 c] 5)) = .ok (.string ⟨(bytesZ [a, b, c]).toArray⟩) (w.alloc (.cells #[.int .u8 a, .int .u8 b, .int .u8 c] 5)) :=
  run_bytes_str _ _ 3 [a, b, c] (row_new w [.int .u8 a, .int .u8 b, .int .u8 c] _)
theorem run_lit4 (w : World) (a b c d : Int) : (convert 164 9 (.slice (some ⟨w.heap.size, 0, none⟩) 4 4)).run Tryz.prog (w.alloc (.cells #[.int .u8 a, .int .u8 b, .int .u8 c, .int .u8 d] 5)) = .ok (.string ⟨(bytesZ [a, b, c, d]).toArray⟩) (w.alloc (.cells #[.int .u8 a, .int .u8 b, .int .u8 c, .int .u8 d] 5)) :=
  run_bytes_str _ _ 4 [a, b, c, d] (row_new w [.int .u8 a, .int .u8 b, .int .u8 c, .int .u8 d] _)


/-- what the closing texts know of a slice of numbers that came in -/
theorem row_of_is {k : IntKind} {w : World} {a : Option Addr} {len cap : Nat} {zs : List Int}
    (h : (a = none ∧ len = 0 ∧ cap = 0 ∧ zs = []) ∨ ∃ x, a = some x ∧ len ≤ cap ∧ cap ≤ maxLen ∧ zs.length = cap ∧ (∀ i, i < zs.length → w.cell? (x.add i) = some (.int k (zs.getD i 0))) ∧ ∀ n ∈ zs, (Lit.int k n).wf = true) :
    len ≤ cap ∧ cap ≤ maxLen ∧ ∃ xs : List Int, xs.length = len ∧ Row w a (xs.map (Value.int k)) ∧ ∀ n ∈ xs, (Lit.int k n).wf = true := by
  rcases h with ⟨rfl, rfl, rfl, rfl⟩ | ⟨x, rfl, hl, hm, hz, hc, hw⟩
  · exact ⟨Nat.le_refl _, Nat.zero_le _, [], rfl, .inl rfl, by simp⟩
  · refine ⟨hl, hm, zs.take len, by simp; omega, ?_, fun n hn => hw n (List.mem_of_mem_take hn)⟩
    by_cases h0 : zs.length = 0
    · have : zs = [] := List.eq_nil_of_length_eq_zero h0
      subst this
      exact .inl (by simp)
    · have hs := World.cell?_spot (hc 0 (by omega))
      obtain ⟨b, off, spot⟩ := x
      have hsp : spot = none := by simpa [Addr.add] using hs
      subst hsp
      refine .inr ⟨b, off, rfl, fun j v hv => ?_⟩
      rw [List.getElem?_map, List.getElem?_take] at hv
      split at hv
      · cases hj : zs[j]? with
        | none => rw [hj] at hv; cases hv
        | some n =>
          rw [hj] at hv
          have hlt : j < zs.length := by
            rcases Nat.lt_or_ge j zs.length with h | h
            · exact h
            · rw [List.getElem?_eq_none h] at hj; cases hj
          have hcj := hc j hlt
          have hg : zs.getD j 0 = n := by rw [List.getD_eq_getElem?_getD, hj]; rfl
          rw [hg] at hcj
          have hv' : v = .int k n := by simpa using hv.symm
          rw [hv']
          unfold Addr.add at hcj
          split at hcj
          · rename_i h0; subst h0; exact hcj
          · exact hcj
      · cases hv
end Go.Proofs.YtdkjkbbibdppoaaGreatDoor
