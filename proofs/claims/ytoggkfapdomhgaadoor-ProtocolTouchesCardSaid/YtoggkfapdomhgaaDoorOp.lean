/- What comes in, read: a family and an edit by value. Conditions: each theorem's own premises. -/
import Derived.Test.YtoggkfapdomhgaaDoorPx0
import Derived.Test.YtoggkfapdomhgaaDoorHh
import Derived.WalkKit
import Derived.ProofKit
import Derived.OpenShut
import Derived.ChangeSlices
import Derived.Lib.SmallJoins
namespace Go.Proofs.YtoggkfapdomhgaaDoor.Pr
open Go.RowKit Go.Proofs.YtoggkfapdomhgaaDoorW.PrintWords Go.Proofs.YtoggkfapdomhgaaDoorW.PrintLast Go.Proofs.YtoggkfapdomhgaaDoorW.PrintMore
set_option linter.unusedVariables false
set_option maxRecDepth 100000
section
variable {H : Type} {enc : TypeId × Value → H} {W : World} {base : Nat} {spare : Nat → Bool} {held : Bool}
/-- What is read at a type is of the kind. -/
def Opens {H : Type} (enc : TypeId × Value → H) (W : World) (base : Nat) (spare : Nat → Bool) (held : Bool) {α : Type} (d : Kd α) (t : TypeId) : Prop := ∀ n cs x, DataW.trod enc Tryd.prog W base spare held n t cs = some x → ∃ a, d.K W a cs
theorem opens_int {t : TypeId} (ht : Tryd.prog.underlying t = some (.int .i64)) : Opens enc W base spare held (Kd.int .i64) t := fun n cs x h => by
  obtain ⟨k, hk, _⟩ := DataW.trod_int ht h
  exact ⟨k, hk⟩
theorem opens_string {t : TypeId} (ht : Tryd.prog.underlying t = some .string) : Opens enc W base spare held Kd.string t := fun n cs x h => by
  obtain ⟨s, hs, _⟩ := DataW.trod_string ht h
  exact ⟨s, hs⟩
theorem build_list {α : Type} {R : Nat → α → Prop} : ∀ m, (∀ i, i < m → ∃ a, R i a) → ∃ xs : List α, xs.length = m ∧ ∀ j p, xs[j]? = some p → R j p
  | 0, _ => ⟨[], rfl, fun j p hj => by simp at hj⟩
  | m + 1, h => by
    obtain ⟨xs, hl, hx⟩ := build_list m (fun i hi => h i (by omega))
    obtain ⟨a, ha⟩ := h m (by omega)
    refine ⟨xs ++ [a], by simp [hl], fun j p hj => ?_⟩
    rcases Nat.lt_or_ge j m with hjm | hjm
    · rw [List.getElem?_append_left (by omega)] at hj
      exact hx j p hj
    · have hjl := (List.getElem?_eq_some_iff.1 hj).1
      simp at hjl
      have : j = m := by omega
      subst this
      rw [List.getElem?_append_right (by omega), hl, Nat.sub_self, List.getElem?_cons_zero] at hj
      rw [← Option.some.inj hj]
      exact ha
theorem opens_slice {α : Type} {d : Kd α} {t e : TypeId} (ht : Tryd.prog.underlying t = some (.slice e)) (hsz : Tryd.prog.cellsOf e = d.sz) (he : Opens enc W base spare held d e) : Opens enc W base spare held (Kd.slice e d) t := fun n cs x h => by
  rcases DataW.trod_slice ht h with ⟨rfl, _⟩ | ⟨a, len, cap, elems, rest, m, _, rfl, _, hb, hle, hmx, hl, hel, _, _⟩
  · exact ⟨[], none, 0, rfl, Nat.le_refl _, Kd.C_nil d W⟩
  · obtain ⟨xs, hxl, hx⟩ := build_list (R := fun i p => ∃ c, W.cells? base (a.add (i * d.sz)) d.sz = some c ∧ d.K W p c) len (fun i hi => by
      have h1 := hel i hi
      rw [List.getElem?_eq_getElem (by omega), hsz, Option.bind_eq_some_iff] at h1
      obtain ⟨c, hc, h2⟩ := h1
      obtain ⟨p, hp⟩ := he _ _ _ h2
      exact ⟨p, c, hc, hp⟩)
    refine ⟨xs, some a, cap, by rw [hxl], by omega, rfl, by have : maxLen = 9223372036854775807 := rfl; omega, fun _ => ⟨a, rfl, fun j p hj => ?_⟩⟩
    obtain ⟨c, hc, hp⟩ := hx j p hj
    obtain ⟨_, hcl, hcc⟩ := World.cells?_some hc
    refine ⟨c, hcl, hp, fun i u hu => ?_⟩
    have hi := (List.getElem?_eq_some_iff.1 hu).1
    rw [← add_add, hcc i (by omega)]
    exact hu
/-- The cells from o on are of the kind. -/
def At (W : World) {α : Type} (d : Kd α) (cs : List Value) (o : Nat) : Prop := ∃ a, d.K W a ((cs.drop o).take d.sz)
theorem at_pair {α β : Type} {a : Kd α} {b : Kd β} {cs : List Value} {o : Nat} (h1 : At W a cs o) (h2 : At W b cs (o + a.sz)) : At W (Kd.pair a b) cs o := by
  obtain ⟨x, hx⟩ := h1
  obtain ⟨y, hy⟩ := h2
  refine ⟨(x, y), _, _, ?_, hx, hy⟩
  show (cs.drop o).take (a.sz + b.sz) = _
  rw [List.take_add, List.drop_drop]
theorem at_iso {α β : Type} {a : Kd α} (f : β → α) (g : α → β) (hg : ∀ x, f (g x) = x) {cs : List Value} {o : Nat} (h : At W a cs o) : At W (Kd.iso a f) cs o := by
  obtain ⟨x, hx⟩ := h
  refine ⟨g x, ?_⟩
  show a.K W (f (g x)) _
  rw [hg]
  exact hx
theorem at_field {α : Type} {d : Kd α} {t : TypeId} {n : Nat} {cs : List Value} {o : Nat} {x : Option (DataW H × List MemPlace)} (ho : Opens enc W base spare held d t) (hsz : Tryd.prog.cellsOf t = d.sz) (h : DataW.trod enc Tryd.prog W base spare held n t ((cs.drop o).take (Tryd.prog.cellsOf t)) = x) (hx : x.isSome = true) : At W d cs o := by
  obtain ⟨y, hy⟩ := Option.isSome_iff_exists.1 hx
  rw [hy, hsz] at h
  exact ho _ _ _ h
theorem of_at {α : Type} {d : Kd α} {cs : List Value} (h : At W d cs 0) (hl : cs.length = d.sz) : ∃ a, d.K W a cs := by
  obtain ⟨a, ha⟩ := h
  rw [List.drop_zero, List.take_of_length_le (by omega)] at ha
  exact ⟨a, ha⟩
theorem isSome_get {β : Type} {xs : List β} {n i : Nat} (h : xs.length = n) (hi : i < n) : xs[i]?.isSome = true := by rw [List.getElem?_eq_getElem (by omega)]; rfl
theorem opens_48 : Opens enc W base spare held k48 48 := fun n cs x h => by
  obtain ⟨xs, m, _, _, hl, hxl, hf⟩ := DataW.trod_struct Tryd.underlying48 h
  have hl2 : cs.length = k48.sz := hl.trans (by kernel_rfl)
  have hn : xs.length = 4 := hxl
  refine of_at (at_iso _ (fun x => ⟨x.1, x.2.1, x.2.2.1, x.2.2.2⟩) (fun _ => rfl) ?_) hl2
  refine at_pair (at_field (opens_int Tryd.underlying3) (by kernel_rfl) (hf 0 _ rfl) (isSome_get hn (by decide))) ?_
  refine at_pair (at_field (opens_int Tryd.underlying3) (by kernel_rfl) (hf 1 _ rfl) (isSome_get hn (by decide))) ?_
  refine at_pair (at_field (opens_int Tryd.underlying3) (by kernel_rfl) (hf 2 _ rfl) (isSome_get hn (by decide))) ?_
  exact (at_field (opens_int Tryd.underlying3) (by kernel_rfl) (hf 3 _ rfl) (isSome_get hn (by decide)))
theorem opens_93 : Opens enc W base spare held k93 93 := fun n cs x h => by
  obtain ⟨xs, m, _, _, hl, hxl, hf⟩ := DataW.trod_struct Tryd.underlying93 h
  have hl2 : cs.length = k93.sz := hl.trans (by kernel_rfl)
  have hn : xs.length = 3 := hxl
  refine of_at (at_iso _ (fun x => ⟨x.1, x.2.1, x.2.2⟩) (fun _ => rfl) ?_) hl2
  refine at_pair (at_field (opens_int Tryd.underlying3) (by kernel_rfl) (hf 0 _ rfl) (isSome_get hn (by decide))) ?_
  refine at_pair (at_field (opens_int Tryd.underlying3) (by kernel_rfl) (hf 1 _ rfl) (isSome_get hn (by decide))) ?_
  exact (at_field opens_48 (by kernel_rfl) (hf 2 _ rfl) (isSome_get hn (by decide)))
theorem opens_30 : Opens enc W base spare held k30 30 := fun n cs x h => by
  obtain ⟨xs, m, _, _, hl, hxl, hf⟩ := DataW.trod_struct Tryd.underlying30 h
  have hl2 : cs.length = k30.sz := hl.trans (by kernel_rfl)
  have hn : xs.length = 18 := hxl
  refine of_at (at_iso _ (fun x => ⟨x.1, x.2.1, x.2.2.1, x.2.2.2.1, x.2.2.2.2.1, x.2.2.2.2.2.1, x.2.2.2.2.2.2.1, x.2.2.2.2.2.2.2.1, x.2.2.2.2.2.2.2.2.1, x.2.2.2.2.2.2.2.2.2.1, x.2.2.2.2.2.2.2.2.2.2.1, x.2.2.2.2.2.2.2.2.2.2.2.1, x.2.2.2.2.2.2.2.2.2.2.2.2.1, x.2.2.2.2.2.2.2.2.2.2.2.2.2.1, x.2.2.2.2.2.2.2.2.2.2.2.2.2.2.1, x.2.2.2.2.2.2.2.2.2.2.2.2.2.2.2.1, x.2.2.2.2.2.2.2.2.2.2.2.2.2.2.2.2.1, x.2.2.2.2.2.2.2.2.2.2.2.2.2.2.2.2.2⟩) (fun _ => rfl) ?_) hl2
  refine at_pair (at_field (opens_string Tryd.underlying9) (by kernel_rfl) (hf 0 _ rfl) (isSome_get hn (by decide))) ?_
  refine at_pair (at_field (opens_int Tryd.underlying3) (by kernel_rfl) (hf 1 _ rfl) (isSome_get hn (by decide))) ?_
  refine at_pair (at_field (opens_int Tryd.underlying3) (by kernel_rfl) (hf 2 _ rfl) (isSome_get hn (by decide))) ?_
  refine at_pair (at_field (opens_int Tryd.underlying3) (by kernel_rfl) (hf 3 _ rfl) (isSome_get hn (by decide))) ?_
  refine at_pair (at_field (opens_int Tryd.underlying3) (by kernel_rfl) (hf 4 _ rfl) (isSome_get hn (by decide))) ?_
  refine at_pair (at_field (opens_int Tryd.underlying3) (by kernel_rfl) (hf 5 _ rfl) (isSome_get hn (by decide))) ?_
  refine at_pair (at_field (opens_slice Tryd.underlying24 (by kernel_rfl) (opens_int Tryd.underlying3)) (by kernel_rfl) (hf 6 _ rfl) (isSome_get hn (by decide))) ?_
  refine at_pair (at_field (opens_slice Tryd.underlying28 (by kernel_rfl) opens_93) (by kernel_rfl) (hf 7 _ rfl) (isSome_get hn (by decide))) ?_
  refine at_pair (at_field (opens_slice Tryd.underlying24 (by kernel_rfl) (opens_int Tryd.underlying3)) (by kernel_rfl) (hf 8 _ rfl) (isSome_get hn (by decide))) ?_
  refine at_pair (at_field (opens_slice Tryd.underlying24 (by kernel_rfl) (opens_int Tryd.underlying3)) (by kernel_rfl) (hf 9 _ rfl) (isSome_get hn (by decide))) ?_
  refine at_pair (at_field (opens_int Tryd.underlying3) (by kernel_rfl) (hf 10 _ rfl) (isSome_get hn (by decide))) ?_
  refine at_pair (at_field (opens_int Tryd.underlying3) (by kernel_rfl) (hf 11 _ rfl) (isSome_get hn (by decide))) ?_
  refine at_pair (at_field (opens_slice Tryd.underlying24 (by kernel_rfl) (opens_int Tryd.underlying3)) (by kernel_rfl) (hf 12 _ rfl) (isSome_get hn (by decide))) ?_
  refine at_pair (at_field (opens_int Tryd.underlying3) (by kernel_rfl) (hf 13 _ rfl) (isSome_get hn (by decide))) ?_
  refine at_pair (at_field (opens_slice Tryd.underlying24 (by kernel_rfl) (opens_int Tryd.underlying3)) (by kernel_rfl) (hf 14 _ rfl) (isSome_get hn (by decide))) ?_
  refine at_pair (at_field (opens_slice Tryd.underlying24 (by kernel_rfl) (opens_int Tryd.underlying3)) (by kernel_rfl) (hf 15 _ rfl) (isSome_get hn (by decide))) ?_
  refine at_pair (at_field (opens_slice Tryd.underlying24 (by kernel_rfl) (opens_int Tryd.underlying3)) (by kernel_rfl) (hf 16 _ rfl) (isSome_get hn (by decide))) ?_
  exact (at_field (opens_int Tryd.underlying3) (by kernel_rfl) (hf 17 _ rfl) (isSome_get hn (by decide)))
theorem opens_27 : Opens enc W base spare held k27 27 := fun n cs x h => by
  obtain ⟨xs, m, _, _, hl, hxl, hf⟩ := DataW.trod_struct Tryd.underlying27 h
  have hl2 : cs.length = k27.sz := hl.trans (by kernel_rfl)
  have hn : xs.length = 10 := hxl
  refine of_at (at_iso _ (fun x => ⟨x.1, x.2.1, x.2.2.1, x.2.2.2.1, x.2.2.2.2.1, x.2.2.2.2.2.1, x.2.2.2.2.2.2.1, x.2.2.2.2.2.2.2.1, x.2.2.2.2.2.2.2.2.1, x.2.2.2.2.2.2.2.2.2⟩) (fun _ => rfl) ?_) hl2
  refine at_pair (at_field (opens_string Tryd.underlying9) (by kernel_rfl) (hf 0 _ rfl) (isSome_get hn (by decide))) ?_
  refine at_pair (at_field (opens_int Tryd.underlying3) (by kernel_rfl) (hf 1 _ rfl) (isSome_get hn (by decide))) ?_
  refine at_pair (at_field (opens_slice Tryd.underlying22 (by kernel_rfl) (opens_string Tryd.underlying9)) (by kernel_rfl) (hf 2 _ rfl) (isSome_get hn (by decide))) ?_
  refine at_pair (at_field (opens_slice Tryd.underlying22 (by kernel_rfl) (opens_string Tryd.underlying9)) (by kernel_rfl) (hf 3 _ rfl) (isSome_get hn (by decide))) ?_
  refine at_pair (at_field (opens_slice Tryd.underlying22 (by kernel_rfl) (opens_string Tryd.underlying9)) (by kernel_rfl) (hf 4 _ rfl) (isSome_get hn (by decide))) ?_
  refine at_pair (at_field (opens_int Tryd.underlying3) (by kernel_rfl) (hf 5 _ rfl) (isSome_get hn (by decide))) ?_
  refine at_pair (at_field (opens_slice Tryd.underlying23 (by kernel_rfl) opens_48) (by kernel_rfl) (hf 6 _ rfl) (isSome_get hn (by decide))) ?_
  refine at_pair (at_field (opens_slice Tryd.underlying24 (by kernel_rfl) (opens_int Tryd.underlying3)) (by kernel_rfl) (hf 7 _ rfl) (isSome_get hn (by decide))) ?_
  refine at_pair (at_field (opens_slice Tryd.underlying24 (by kernel_rfl) (opens_int Tryd.underlying3)) (by kernel_rfl) (hf 8 _ rfl) (isSome_get hn (by decide))) ?_
  exact (at_field (opens_slice Tryd.underlying25 (by kernel_rfl) opens_30) (by kernel_rfl) (hf 9 _ rfl) (isSome_get hn (by decide)))
theorem opens_32 : Opens enc W base spare held k32 32 := fun n cs x h => by
  obtain ⟨xs, m, _, _, hl, hxl, hf⟩ := DataW.trod_struct Tryd.underlying32 h
  have hl2 : cs.length = k32.sz := hl.trans (by kernel_rfl)
  have hn : xs.length = 5 := hxl
  refine of_at (at_iso _ (fun x => ⟨x.1, x.2.1, x.2.2.1, x.2.2.2.1, x.2.2.2.2⟩) (fun _ => rfl) ?_) hl2
  refine at_pair (at_field (opens_int Tryd.underlying3) (by kernel_rfl) (hf 0 _ rfl) (isSome_get hn (by decide))) ?_
  refine at_pair (at_field (opens_int Tryd.underlying3) (by kernel_rfl) (hf 1 _ rfl) (isSome_get hn (by decide))) ?_
  refine at_pair (at_field opens_30 (by kernel_rfl) (hf 2 _ rfl) (isSome_get hn (by decide))) ?_
  refine at_pair (at_field (opens_int Tryd.underlying3) (by kernel_rfl) (hf 3 _ rfl) (isSome_get hn (by decide))) ?_
  exact (at_field (opens_string Tryd.underlying9) (by kernel_rfl) (hf 4 _ rfl) (isSome_get hn (by decide)))
end
end Go.Proofs.YtoggkfapdomhgaaDoor.Pr
