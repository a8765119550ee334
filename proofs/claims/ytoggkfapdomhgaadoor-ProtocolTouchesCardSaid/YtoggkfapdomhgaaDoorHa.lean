/- Contracts of slices.Clone at the family's own types, of Kd's rows; conditions: each theorem's own premises. -/
import Derived.Test.YtoggkfapdomhgaaDoorPx0
import Derived.WalkSmall
import Derived.Lib.Hide
import Derived.Outline
import Derived.Lib.SliceRun
import Derived.Deep.DeepFit
namespace Go.Proofs.YtoggkfapdomhgaaDoor.Pr
open Go.RowKit Go.Proofs.YtoggkfapdomhgaaDoorW.PrintWords Go.Proofs.YtoggkfapdomhgaaDoorW.PrintLast Go.Proofs.YtoggkfapdomhgaaDoorW.PrintMore
set_option linter.unusedVariables false
set_option linter.unusedSimpArgs false

theorem R_empty {α : Type} (d : Kd α) (e : TypeId) (w : World) (B : Nat) (hB : B ≤ w.heap.size) : d.R e (w.alloc (.cells #[] e)) B (fun _ => True) (.slice (some ⟨w.heap.size, 0, none⟩) 0 0) [] :=
  ⟨fun _ _ => trivial, by simpa using OwnRow.lit (R := d.M (w.alloc (.cells #[] e)) B (fun k => True ∧ some k ≠ (Value.slice (some ⟨w.heap.size, 0, none⟩) 0 0).ownBlock)) (ps := []) (e := e) (size := d.sz) w B (inner := []) (Reps.none _ _) hB (by simp)⟩
theorem C_none {α : Type} {d : Kd α} {w : World} {n : Nat} {xs : List α} (h : d.C w none n xs) : xs = [] := by
  rcases Nat.eq_zero_or_pos n with h0 | h0
  · exact List.eq_nil_of_length_eq_zero (h.1.trans h0)
  · obtain ⟨ad, h, _⟩ := h.2.2 h0
    cases h

theorem cinfo3 : (Tryd.prog.info? 3).map (fun i => (i.zero, i.size, i.bytes)) = some (some (.int .i64 0), 1, 8) := by kernel_rfl
def clone_int.f (l0 : List Int) : Option (List Int) := if l0.length * 8 ≤ 140737488355328 then some l0 else none
set_option maxHeartbeats 1000000 in
set_option maxRecDepth 100000 in
theorem clone_int.calls (A0 : Option Addr) (c0 : Nat) (l0 : List Int) (r : List Int) (w : World) (hr0 : Kd.C (Kd.int .i64) w A0 l0.length l0) (hc0 : l0.length ≤ c0) (h : clone_int.f l0 = some r) :
    Calls Tryd.prog 40 #[.slice A0 l0.length c0] w fun e w' => ∃ v0_ : Value, e = .returned v0_ ∧ Kd.R (Kd.int .i64) 3 w' w.heap.size (fun _ => True) v0_ r ∧ Below w.heap.size w w' := by
  unfold clone_int.f at h
  split at h
  case isFalse => cases h
  rename_i hl
  obtain rfl := Option.some.inj h
  have q : ∀ (w : World) (a : Option Addr) (n c n' c' : Nat), (binOp .eql 24 (.slice a n c) (.slice none n' c')).run Tryd.prog w = .ok (.bool a.isNone) w := fun w a n c n' c' => Lib.run_eql_slice_nil w _ _ a n c n' c' Tryd.underlying24
  cases A0 with
  | none =>
    obtain rfl := C_none hr0
    go_enter Tryd.func40, Tryd.ntmps40
    go_wp2
    go_ret
    exact ⟨_, rfl, Kd.R_nil _ _ _ _ _, Below.refl _ _⟩
  | some ad =>
    have HR := Aside0.mk hr0
    clear hr0
    have HB0 : Aside0 (Below w.heap.size w (w.alloc (.cells #[] 3))) := ⟨(Below.refl _ _).alloc (Nat.le_refl _) _⟩
    go_enter Tryd.func40, Tryd.ntmps40
    go_wp2_with ((with_reducible refine gate_builtin (b := .append) (xs := #[.tmp 5, .tmp 6]) rfl ?_); at_builtin; refine Kd.R_append_rows (Kd.int .i64) (Rr := Kd.K (Kd.int .i64) w) (w0 := w) w.heap.size rfl (.tmp 5) (.tmp 6) 24 3 (.int .i64 0) 8 rfl Tryd.underlying24 cinfo3 rfl (by decide) (by decide) (.slice (some ⟨w.heap.size, 0, none⟩) 0 0) [] l0 (some ad) l0.length c0 (fun _ => True) (fun _ => False) rfl rfl ?k1 ?k2 (fun _ _ h => h) (fun _ h => h.elim) ?k5 ?k6 ?k7 ?k8 ?_)
    all_goals first | exact R_empty _ _ _ _ (Nat.le_refl _) | exact ReadsRow.imp_ HR.out HB0.out (fun _ _ hp => hp) | exact fun _ _ => trivial | exact HB0.out | (simp; done) | (simpa using hl) | skip
    intro v1 w1 hR hB _ _
    have HR1 := Aside0.mk hR
    have HB1 := Aside0.mk hB
    clear hR hB
    go_wp2
    go_ret
    exact ⟨v1, rfl, by simpa using HR1.out, HB1.out⟩

theorem cinfo9 : (Tryd.prog.info? 9).map (fun i => (i.zero, i.size, i.bytes)) = some (some (.string ByteArray.empty), 1, 16) := by kernel_rfl
def clone_string.f (l0 : List ByteArray) : Option (List ByteArray) := if l0.length * 16 ≤ 140737488355328 then some l0 else none
set_option maxHeartbeats 1000000 in
set_option maxRecDepth 100000 in
theorem clone_string.calls (A0 : Option Addr) (c0 : Nat) (l0 : List ByteArray) (r : List ByteArray) (w : World) (hr0 : Kd.C Kd.string w A0 l0.length l0) (hc0 : l0.length ≤ c0) (h : clone_string.f l0 = some r) :
    Calls Tryd.prog 38 #[.slice A0 l0.length c0] w fun e w' => ∃ v0_ : Value, e = .returned v0_ ∧ Kd.R Kd.string 9 w' w.heap.size (fun _ => True) v0_ r ∧ Below w.heap.size w w' := by
  unfold clone_string.f at h
  split at h
  case isFalse => cases h
  rename_i hl
  obtain rfl := Option.some.inj h
  have q : ∀ (w : World) (a : Option Addr) (n c n' c' : Nat), (binOp .eql 22 (.slice a n c) (.slice none n' c')).run Tryd.prog w = .ok (.bool a.isNone) w := fun w a n c n' c' => Lib.run_eql_slice_nil w _ _ a n c n' c' Tryd.underlying22
  cases A0 with
  | none =>
    obtain rfl := C_none hr0
    go_enter Tryd.func38, Tryd.ntmps38
    go_wp2
    go_ret
    exact ⟨_, rfl, Kd.R_nil _ _ _ _ _, Below.refl _ _⟩
  | some ad =>
    have HR := Aside0.mk hr0
    clear hr0
    have HB0 : Aside0 (Below w.heap.size w (w.alloc (.cells #[] 9))) := ⟨(Below.refl _ _).alloc (Nat.le_refl _) _⟩
    go_enter Tryd.func38, Tryd.ntmps38
    go_wp2_with ((with_reducible refine gate_builtin (b := .append) (xs := #[.tmp 5, .tmp 6]) rfl ?_); at_builtin; refine Kd.R_append_rows Kd.string (Rr := Kd.K Kd.string w) (w0 := w) w.heap.size rfl (.tmp 5) (.tmp 6) 22 9 (.string ByteArray.empty) 16 rfl Tryd.underlying22 cinfo9 rfl (by decide) (by decide) (.slice (some ⟨w.heap.size, 0, none⟩) 0 0) [] l0 (some ad) l0.length c0 (fun _ => True) (fun _ => False) rfl rfl ?k1 ?k2 (fun _ _ h => h) (fun _ h => h.elim) ?k5 ?k6 ?k7 ?k8 ?_)
    all_goals first | exact R_empty _ _ _ _ (Nat.le_refl _) | exact ReadsRow.imp_ HR.out HB0.out (fun _ _ hp => hp) | exact fun _ _ => trivial | exact HB0.out | (simp; done) | (simpa using hl) | skip
    intro v1 w1 hR hB _ _
    have HR1 := Aside0.mk hR
    have HB1 := Aside0.mk hB
    clear hR hB
    go_wp2
    go_ret
    exact ⟨v1, rfl, by simpa using HR1.out, HB1.out⟩

theorem cinfo48 : (Tryd.prog.info? 48).map (fun i => (i.zero, i.size, i.bytes)) = some (some (.agg #[.int .i64 0, .int .i64 0, .int .i64 0, .int .i64 0]), 4, 32) := by kernel_rfl
def clone_linear.f (l0 : List S48) : Option (List S48) := if l0.length * 32 ≤ 140737488355328 then some l0 else none
set_option maxHeartbeats 1000000 in
set_option maxRecDepth 100000 in
theorem clone_linear.calls (A0 : Option Addr) (c0 : Nat) (l0 : List S48) (r : List S48) (w : World) (hr0 : Kd.C k48 w A0 l0.length l0) (hc0 : l0.length ≤ c0) (h : clone_linear.f l0 = some r) :
    Calls Tryd.prog 39 #[.slice A0 l0.length c0] w fun e w' => ∃ v0_ : Value, e = .returned v0_ ∧ Kd.R k48 48 w' w.heap.size (fun _ => True) v0_ r ∧ Below w.heap.size w w' := by
  unfold clone_linear.f at h
  split at h
  case isFalse => cases h
  rename_i hl
  obtain rfl := Option.some.inj h
  have q : ∀ (w : World) (a : Option Addr) (n c n' c' : Nat), (binOp .eql 23 (.slice a n c) (.slice none n' c')).run Tryd.prog w = .ok (.bool a.isNone) w := fun w a n c n' c' => Lib.run_eql_slice_nil w _ _ a n c n' c' Tryd.underlying23
  cases A0 with
  | none =>
    obtain rfl := C_none hr0
    go_enter Tryd.func39, Tryd.ntmps39
    go_wp2
    go_ret
    exact ⟨_, rfl, Kd.R_nil _ _ _ _ _, Below.refl _ _⟩
  | some ad =>
    have HR := Aside0.mk hr0
    clear hr0
    have HB0 : Aside0 (Below w.heap.size w (w.alloc (.cells #[] 48))) := ⟨(Below.refl _ _).alloc (Nat.le_refl _) _⟩
    go_enter Tryd.func39, Tryd.ntmps39
    go_wp2_with ((with_reducible refine gate_builtin (b := .append) (xs := #[.tmp 5, .tmp 6]) rfl ?_); at_builtin; refine Kd.R_append_rows k48 (Rr := Kd.K k48 w) (w0 := w) w.heap.size rfl (.tmp 5) (.tmp 6) 23 48 (.agg #[.int .i64 0, .int .i64 0, .int .i64 0, .int .i64 0]) 32 rfl Tryd.underlying23 cinfo48 rfl (by decide) (by decide) (.slice (some ⟨w.heap.size, 0, none⟩) 0 0) [] l0 (some ad) l0.length c0 (fun _ => True) (fun _ => False) rfl rfl ?k1 ?k2 (fun _ _ h => h) (fun _ h => h.elim) ?k5 ?k6 ?k7 ?k8 ?_)
    all_goals first | exact R_empty _ _ _ _ (Nat.le_refl _) | exact ReadsRow.imp_ HR.out HB0.out (fun _ _ hp => hp) | exact fun _ _ => trivial | exact HB0.out | (simp; done) | (simpa using hl) | skip
    intro v1 w1 hR hB _ _
    have HR1 := Aside0.mk hR
    have HB1 := Aside0.mk hB
    clear hR hB
    go_wp2
    go_ret
    exact ⟨v1, rfl, by simpa using HR1.out, HB1.out⟩

theorem cinfo93 : (Tryd.prog.info? 93).map (fun i => (i.zero, i.size, i.bytes)) = some (some (.agg #[.int .i64 0, .int .i64 0, .int .i64 0, .int .i64 0, .int .i64 0, .int .i64 0]), 6, 48) := by kernel_rfl
def clone_threshold.f (l0 : List S93) : Option (List S93) := if l0.length * 48 ≤ 140737488355328 then some l0 else none
set_option maxHeartbeats 1000000 in
set_option maxRecDepth 100000 in
theorem clone_threshold.calls (A0 : Option Addr) (c0 : Nat) (l0 : List S93) (r : List S93) (w : World) (hr0 : Kd.C k93 w A0 l0.length l0) (hc0 : l0.length ≤ c0) (h : clone_threshold.f l0 = some r) :
    Calls Tryd.prog 62 #[.slice A0 l0.length c0] w fun e w' => ∃ v0_ : Value, e = .returned v0_ ∧ Kd.R k93 93 w' w.heap.size (fun _ => True) v0_ r ∧ Below w.heap.size w w' := by
  unfold clone_threshold.f at h
  split at h
  case isFalse => cases h
  rename_i hl
  obtain rfl := Option.some.inj h
  have q : ∀ (w : World) (a : Option Addr) (n c n' c' : Nat), (binOp .eql 28 (.slice a n c) (.slice none n' c')).run Tryd.prog w = .ok (.bool a.isNone) w := fun w a n c n' c' => Lib.run_eql_slice_nil w _ _ a n c n' c' Tryd.underlying28
  cases A0 with
  | none =>
    obtain rfl := C_none hr0
    go_enter Tryd.func62, Tryd.ntmps62
    go_wp2
    go_ret
    exact ⟨_, rfl, Kd.R_nil _ _ _ _ _, Below.refl _ _⟩
  | some ad =>
    have HR := Aside0.mk hr0
    clear hr0
    have HB0 : Aside0 (Below w.heap.size w (w.alloc (.cells #[] 93))) := ⟨(Below.refl _ _).alloc (Nat.le_refl _) _⟩
    go_enter Tryd.func62, Tryd.ntmps62
    go_wp2_with ((with_reducible refine gate_builtin (b := .append) (xs := #[.tmp 5, .tmp 6]) rfl ?_); at_builtin; refine Kd.R_append_rows k93 (Rr := Kd.K k93 w) (w0 := w) w.heap.size rfl (.tmp 5) (.tmp 6) 28 93 (.agg #[.int .i64 0, .int .i64 0, .int .i64 0, .int .i64 0, .int .i64 0, .int .i64 0]) 48 rfl Tryd.underlying28 cinfo93 rfl (by decide) (by decide) (.slice (some ⟨w.heap.size, 0, none⟩) 0 0) [] l0 (some ad) l0.length c0 (fun _ => True) (fun _ => False) rfl rfl ?k1 ?k2 (fun _ _ h => h) (fun _ h => h.elim) ?k5 ?k6 ?k7 ?k8 ?_)
    all_goals first | exact R_empty _ _ _ _ (Nat.le_refl _) | exact ReadsRow.imp_ HR.out HB0.out (fun _ _ hp => hp) | exact fun _ _ => trivial | exact HB0.out | (simp; done) | (simpa using hl) | skip
    intro v1 w1 hR hB _ _
    have HR1 := Aside0.mk hR
    have HB1 := Aside0.mk hB
    clear hR hB
    go_wp2
    go_ret
    exact ⟨v1, rfl, by simpa using HR1.out, HB1.out⟩
end Go.Proofs.YtoggkfapdomhgaaDoor.Pr
