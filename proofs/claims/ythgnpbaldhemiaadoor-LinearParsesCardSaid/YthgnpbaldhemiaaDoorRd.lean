/- The plain law of the specification's reader: what readItem reads at the text of an item; conditions: each theorem's own premises. -/
import Derived.Test.YthgnpbaldhemiaaDoorRt
import Derived.Test.YthgnpbaldhemiaaDoorPx5
namespace Go.Proofs.YthgnpbaldhemiaaDoor.Pr
open Go.RowKit Go.Proofs.YthgnpbaldhemiaaDoorW.PrintWords Go.Proofs.YthgnpbaldhemiaaDoorW.PrintLast Go.Proofs.YthgnpbaldhemiaaDoorW.PrintMore
set_option linter.unusedVariables false
set_option linter.unusedSimpArgs false

/-! ### number -/
def Num (t : ByteArray) (a : Int) (r : Int × Int × Bool) : Prop := ∃ f, familycheckref01_number.f f t a = some r
theorem Num.same {t : ByteArray} {a : Int} {r q : Int × Int × Bool} (h : Num t a r) (h' : Num t a q) : r = q := by
  obtain ⟨k, h1, h2⟩ := together (familycheckref01_number.mono t a) (familycheckref01_number.mono t a) h h'
  exact Option.some.inj (h1.symm.trans h2)
theorem data_len (t : ByteArray) : t.data.toList.length = t.size := by simp
theorem bt_drop {t : ByteArray} {i : Nat} {c : UInt8} {r : List UInt8} (h : t.data.toList.drop i = c :: r) : ((i : Int) < (t.size : Int)) ∧ bt t i = c.toNat ∧ t.data.toList.drop (i + 1) = r := by
  have hl : i < t.data.toList.length := by
    rcases Nat.lt_or_ge i t.data.toList.length with h' | h'
    · exact h'
    · rw [List.drop_eq_nil_of_le h'] at h; cases h
  have h2 := List.drop_eq_getElem_cons hl
  rw [h2] at h
  obtain ⟨h3, h4⟩ := List.cons.inj h
  have hs : i < t.size := by rw [← data_len]; exact hl
  refine ⟨by omega, ?_, h4⟩
  unfold bt
  rw [dif_pos (by simpa using hs), ← h3]
  simp [ByteArray.getElem_eq_getElem_data]
theorem drop_end {t : ByteArray} {i : Nat} (h : t.data.toList.drop i = []) : ¬ ((i : Int) < (t.size : Int)) := by
  have := List.drop_eq_nil_iff.1 h
  rw [data_len] at this
  omega
theorem num_any (t : ByteArray) (hs : t.size ≤ 5000) (a : Nat) : ∀ (d i n : Nat), i + d = t.size → a ≤ i → n ≤ 68719476736 →
    ∃ f n' i' b, familycheckref01_number.l0 f t a n i = some (n', i', b) ∧ (b = true → ∃ (j u : Nat), i' = j ∧ n' = u ∧ a < j ∧ j ≤ t.size ∧ u ≤ 68719476736)
  | 0, i, n, hi, ha, hn => by
    refine ⟨2, n, i, decide ((i : Int) > (a : Int)), ?_, fun h => ⟨i, n, rfl, rfl, ?_, ?_, hn⟩⟩
    · rw [familycheckref01_number.l0, if_neg (by omega), familycheckref01_number.j1, if_neg (by decide)]
    · have := of_decide_eq_true h; omega
    · omega
  | d + 1, i, n, hi, ha, hn => by
    have hlt : ((i : Int) < (t.size : Int)) := by omega
    have hr := bt_range t i
    by_cases hd : bt t i ≥ 48 ∧ bt t i ≤ 57
    · have e : wrap64 (wrap64 (10 * (n : Int)) + ((bt t i - 48) % 256)) = 10 * n + (bt t i - 48) := by
        rw [IntWalk.wrap64_in (10 * (n : Int)) (by omega), Int.emod_eq_of_lt (by omega) (by omega), IntWalk.wrap64_in _ (by omega)]
      by_cases hb : 10 * (n : Int) + (bt t i - 48) > 68719476736
      · refine ⟨2, 0, 0, false, ?_, fun h => by cases h⟩
        rw [familycheckref01_number.l0, if_pos hlt, if_pos (by omega), if_pos hd.1, decide_eq_true hd.2, familycheckref01_number.j1, if_pos rfl, if_pos (by omega), if_pos hlt, e, if_pos hb]
      · obtain ⟨f, n', i', b, h1, h2⟩ := num_any t hs a d (i + 1) (10 * n + (bt t i - 48).toNat) (by omega) (by omega) (by omega)
        refine ⟨f + 2, n', i', b, ?_, h2⟩
        rw [familycheckref01_number.l0, if_pos hlt, if_pos (by omega), if_pos hd.1, decide_eq_true hd.2, familycheckref01_number.j1, if_pos rfl, if_pos (by omega), if_pos hlt, e, if_neg hb, wrap_idx (n := (t.size : Int)) (by omega) hlt (by omega)]
        rw [← h1]
        congr 1
        omega
    · refine ⟨2, n, i, decide ((i : Int) > (a : Int)), ?_, fun h => ⟨i, n, rfl, rfl, ?_, ?_, hn⟩⟩
      · rw [familycheckref01_number.l0, if_pos hlt, if_pos (by omega)]
        by_cases h1 : bt t i ≥ 48
        · rw [if_pos h1, decide_eq_false (fun h2 => hd ⟨h1, h2⟩), familycheckref01_number.j1, if_neg (by decide)]
        · rw [if_neg h1, familycheckref01_number.j1, if_neg (by decide)]
      · have := of_decide_eq_true h; omega
      · omega
theorem num_all (t : ByteArray) (hs : t.size ≤ 5000) (a : Nat) (ha : a ≤ t.size) : ∃ f n' i' b, familycheckref01_number.f f t a = some (n', i', b) ∧ (b = true → ∃ (j u : Nat), i' = j ∧ n' = u ∧ a < j ∧ j ≤ t.size ∧ u ≤ 68719476736) :=
  num_any t hs a (t.size - a) a 0 (by omega) (Nat.le_refl _) (by omega)
theorem Num.good {t : ByteArray} (hs : t.size ≤ 5000) {a : Nat} (ha : a ≤ t.size) {n i : Int} (h : Num t a (n, i, true)) : ∃ (j u : Nat), i = j ∧ n = u ∧ a < j ∧ j ≤ t.size ∧ u ≤ 68719476736 := by
  obtain ⟨f, n', i', b, h1, h2⟩ := num_all t hs a ha
  have e := Num.same h ⟨f, h1⟩
  simp only [Prod.mk.injEq] at e
  obtain ⟨rfl, rfl, rfl⟩ := e
  exact h2 rfl
theorem decFrom_ge : ∀ (l : List UInt8) (n m : Nat), Lib.decFrom n l = some m → n ≤ m
  | [], n, m, h => by simp only [Lib.decFrom, Option.some.injEq] at h; omega
  | c :: l, n, m, h => by
    simp only [Lib.decFrom] at h
    split at h
    · have := decFrom_ge l _ _ h; omega
    · cases h
theorem digVal {c : UInt8} (h : 48 ≤ c.toNat ∧ c.toNat ≤ 57) : Lib.digitVal c = some (c.toNat - 48) := by
  simp [Lib.digitVal, h.1, h.2]
theorem num_digits (t : ByteArray) (hs : t.size ≤ 5000) (a : Nat) (rest : List UInt8) (hr : ∀ c r, rest = c :: r → ¬ (48 ≤ c.toNat ∧ c.toNat ≤ 57)) : ∀ (l : List UInt8) (i n m : Nat), t.data.toList.drop i = l ++ rest → (∀ c ∈ l, 48 ≤ c.toNat ∧ c.toNat ≤ 57) → Lib.decFrom n l = some m → m ≤ 68719476736 → a ≤ i →
    ∃ f, familycheckref01_number.l0 f t a n i = some ((m : Int), ((i + l.length : Nat) : Int), decide (((i + l.length : Nat) : Int) > a))
  | [], i, n, m, h, _, hd, hm, ha => by
    simp only [Lib.decFrom, Option.some.injEq] at hd
    subst hd
    refine ⟨2, ?_⟩
    rw [List.length_nil, Nat.add_zero]
    cases rest with
    | nil => rw [familycheckref01_number.l0, if_neg (drop_end (by simpa using h)), familycheckref01_number.j1, if_neg (by decide)]
    | cons c r =>
      obtain ⟨h1, h2, h3⟩ := bt_drop (i := i) (by simpa using h)
      have := hr c r rfl
      rw [familycheckref01_number.l0, if_pos h1, if_pos (by omega)]
      by_cases h4 : bt t i ≥ 48
      · rw [if_pos h4, decide_eq_false (by omega), familycheckref01_number.j1, if_neg (by decide)]
      · rw [if_neg h4, familycheckref01_number.j1, if_neg (by decide)]
  | c :: l, i, n, m, h, hl, hd, hm, ha => by
    obtain ⟨h1, h2, h3⟩ := bt_drop (i := i) (by simpa using h)
    have hc := hl c (List.mem_cons_self)
    simp only [Lib.decFrom, digVal hc] at hd
    have hge := decFrom_ge _ _ _ hd
    obtain ⟨f, hf⟩ := num_digits t hs a rest hr l (i + 1) _ m h3 (fun x hx => hl x (List.mem_cons_of_mem _ hx)) hd hm (by omega)
    have e : wrap64 (wrap64 (10 * (n : Int)) + ((bt t i - 48) % 256)) = 10 * n + (bt t i - 48) := by
      rw [IntWalk.wrap64_in (10 * (n : Int)) (by omega), Int.emod_eq_of_lt (by omega) (by omega), IntWalk.wrap64_in _ (by omega)]
    refine ⟨f + 2, ?_⟩
    rw [familycheckref01_number.l0, if_pos h1, if_pos (by omega), if_pos (by omega), decide_eq_true (by omega), familycheckref01_number.j1, if_pos rfl, if_pos (by omega), if_pos h1, e, if_neg (by omega), wrap_idx (n := (t.size : Int)) (by omega) h1 (by omega)]
    rw [show i + (c :: l).length = i + 1 + l.length by simp; omega, ← hf]
    congr 1
    rw [h2]
    omega
theorem num_itoa {t : ByteArray} (hs : t.size ≤ 5000) {a : Nat} {u : Int} (h0 : 0 ≤ u) (h1 : u ≤ 68719476736) {rest : List UInt8} (h : t.data.toList.drop a = Lib.itoa u ++ rest) (hr : ∀ c r, rest = c :: r → ¬ (48 ≤ c.toNat ∧ c.toNat ≤ 57)) :
    Num t a (u, ((a + (Lib.itoa u).length : Nat) : Int), true) := by
  rw [itoa_nn h0] at h ⊢
  obtain ⟨f, hf⟩ := num_digits t hs a rest hr _ a 0 u.toNat h (digits_all _) (decFrom_digits _) (by omega) (Nat.le_refl _)
  have hne : 0 < (Lib.decDigits u.toNat).length := List.length_pos_iff.2 (digits_ne _)
  rw [decide_eq_true (by omega), show ((u.toNat : Nat) : Int) = u by omega] at hf
  exact ⟨f, hf⟩

/-! ### readItem -/
def TailR (t : ByteArray) (sign : Int) (cs : List Int) (k n i : Int) (nx : Int) (ok : Bool) (cs' : List Int) (k' : Int) : Prop :=
  (¬ (i < t.size ∧ bt t i = 120) ∧ nx = 0 ∧ ok = false ∧ cs' = cs ∧ k' = k) ∨
  (i < t.size ∧ bt t i = 120 ∧ ∃ v j b, Num t (i + 1) (v, j, b) ∧ (((b = false ∨ ¬ v < cs.length) ∧ nx = 0 ∧ ok = false ∧ cs' = cs ∧ k' = k) ∨
    (b = true ∧ v < cs.length ∧ nx = j ∧ ok = true ∧ cs' = cs.set v.toNat (wrap64 (rd cs v + wrap64 (sign * n))) ∧ k' = k)))
def ReadR (t : ByteArray) (a sign : Int) (cs : List Int) (k : Int) (nx : Int) (ok : Bool) (cs' : List Int) (k' : Int) : Prop :=
  (¬ (a < t.size ∧ bt t a ≠ 120) ∧ TailR t sign cs k 1 a nx ok cs' k') ∨
  (a < t.size ∧ bt t a ≠ 120 ∧ ∃ n i b, Num t a (n, i, b) ∧ ((b = false ∧ nx = 0 ∧ ok = false ∧ cs' = cs ∧ k' = k) ∨
    (b = true ∧ ((¬ (i < t.size ∧ bt t i = 42) ∧ nx = i ∧ ok = true ∧ cs' = cs ∧ k' = wrap64 (k + wrap64 (sign * n))) ∨
      (i < t.size ∧ bt t i = 42 ∧ TailR t sign cs k n (i + 1) nx ok cs' k')))))

theorem TailR.any {t : ByteArray} (hs : t.size ≤ 5000) {sign : Int} {cs cs' : List Int} {k n k' nx : Int} {i : Nat} {ok : Bool} (h : TailR t sign cs k n i nx ok cs' k') :
    cs'.length = cs.length ∧ (ok = true → ∃ j : Nat, nx = j ∧ i < j ∧ j ≤ t.size) := by
  rcases h with ⟨_, _, rfl, rfl, _⟩ | ⟨h1, _, v, j, b, hn, ⟨_, _, rfl, rfl, _⟩ | ⟨rfl, _, rfl, _, rfl, _⟩⟩
  · exact ⟨rfl, fun h => by cases h⟩
  · exact ⟨rfl, fun h => by cases h⟩
  · obtain ⟨q, u, hq, _, h2, h3, _⟩ := Num.good (a := i + 1) hs (by omega) hn
    exact ⟨by simp, fun _ => ⟨q, hq, by omega, h3⟩⟩
theorem ReadR.any {t : ByteArray} (hs : t.size ≤ 5000) {a : Nat} {sign : Int} {cs cs' : List Int} {k k' nx : Int} {ok : Bool} (h : ReadR t a sign cs k nx ok cs' k') :
    cs'.length = cs.length ∧ (ok = true → ∃ j : Nat, nx = j ∧ a < j ∧ j ≤ t.size) := by
  rcases h with ⟨_, h⟩ | ⟨h1, _, n, i, b, hn, ⟨_, _, rfl, rfl, _⟩ | ⟨rfl, ⟨_, rfl, _, rfl, _⟩ | ⟨h2, _, h⟩⟩⟩
  · exact h.any hs
  · exact ⟨rfl, fun h => by cases h⟩
  · obtain ⟨q, u, hq, _, h2, h3, _⟩ := Num.good hs (by omega) hn
    exact ⟨rfl, fun _ => ⟨q, hq, h2, h3⟩⟩
  · obtain ⟨q, u, hq, _, h4, h3, _⟩ := Num.good hs (by omega) hn
    subst hq
    obtain ⟨e, g⟩ := TailR.any (i := q + 1) hs h
    refine ⟨e, fun ho => ?_⟩
    obtain ⟨j, e1, e2, e3⟩ := g ho
    exact ⟨j, e1, by omega, e3⟩

/-! ### at the text of an item -/
def refStep (s : List Int × Int) (m : Item) : List Int × Int := match m.1 with
  | some i => (s.1.set i (wrap64 (rd s.1 i + m.2)), s.2)
  | none => (s.1, wrap64 (s.2 + m.2))
theorem ref_len (s : List Int × Int) (m : Item) : (refStep s m).1.length = s.1.length := by
  obtain ⟨o, c⟩ := m
  cases o <;> simp [refStep]
theorem sgn_wrap {c : Int} (h : inB c = true) : wrap64 (itemSgn (none, c) * mx c (-c)) = c := by
  rw [sgn_mx]
  have := (inB_iff c).1 h
  exact IntWalk.wrap64_in _ (by omega)
theorem after_ok {rest : List UInt8} (hr : ∀ c r, rest = c :: r → c = 32) : ∀ c r, rest = c :: r → ¬ (48 ≤ c.toNat ∧ c.toNat ≤ 57) := by
  intro c r h
  rw [hr c r h]
  decide
theorem tail_good {t : ByteArray} (hs : t.size ≤ 5000) {p i : Nat} {rest : List UInt8} {cs cs' : List Int} {sg n k nx k' : Int} {ok : Bool} (hn : cs.length ≤ 96) (hi : i < cs.length) (hr : ∀ c r, rest = c :: r → c = 32)
    (hd : t.data.toList.drop p = 120 :: (Lib.itoa i ++ rest)) (h : TailR t sg cs k n p nx ok cs' k') :
    ok = true ∧ nx = ((p + 1 + (Lib.itoa i).length : Nat) : Int) ∧ cs' = cs.set i (wrap64 (rd cs i + wrap64 (sg * n))) ∧ k' = k := by
  obtain ⟨h1, h2, h3⟩ := bt_drop hd
  have hnum := num_itoa hs (u := i) (by omega) (by omega) h3 (after_ok hr)
  rcases h with ⟨h, _⟩ | ⟨_, _, v, j, b, hb, h⟩
  · exact absurd ⟨h1, h2⟩ h
  · have e := Num.same hnum hb
    simp only [Prod.mk.injEq] at e
    obtain ⟨rfl, rfl, rfl⟩ := e
    rcases h with ⟨h, _⟩ | ⟨_, _, h4, h5, h6, h7⟩
    · rcases h with h | h
      · cases h
      · omega
    · exact ⟨h5, h4, by rw [h6]; simp, h7⟩
theorem first_digit {u : Int} (h0 : 0 ≤ u) (rest : List UInt8) : ∃ c r, Lib.itoa u ++ rest = c :: r ∧ 48 ≤ c.toNat ∧ c.toNat ≤ 57 := by
  have hne := itoa_ne h0
  cases hl : Lib.itoa u with
  | nil => exact absurd hl hne
  | cons c r => exact ⟨c, r ++ rest, by simp, itoa_all h0 c (by rw [hl]; exact List.mem_cons_self)⟩
theorem read_good {t : ByteArray} (hs : t.size ≤ 5000) {a : Nat} {m : Item} {rest : List UInt8} {cs cs' : List Int} {k nx k' : Int} {ok : Bool} (hn : cs.length ≤ 96) (hm : itemOk cs.length m) (hr : ∀ c r, rest = c :: r → c = 32)
    (hd : t.data.toList.drop a = itemText m ++ rest) (h : ReadR t a (itemSgn m) cs k nx ok cs' k') :
    ok = true ∧ nx = ((a + (itemText m).length : Nat) : Int) ∧ (cs', k') = refStep (cs, k) m := by
  obtain ⟨o, c⟩ := m
  have hb := mx_bound hm.1
  have hsw := sgn_wrap hm.1
  have hsg : itemSgn (o, c) = itemSgn (none, c) := rfl
  rw [hsg] at h
  cases o with
  | none =>
    have hd' : t.data.toList.drop a = Lib.itoa (mx c (-c)) ++ rest := hd
    have hnum := num_itoa hs hb.1 hb.2 hd' (after_ok hr)
    obtain ⟨x, r, hx, hx2⟩ := first_digit hb.1 rest
    obtain ⟨h1, h2, _⟩ := bt_drop (hd'.trans hx)
    have htl : t.data.toList.drop (a + (Lib.itoa (mx c (-c))).length) = rest := by rw [← List.drop_drop, hd', List.drop_left]
    rcases h with ⟨h, _⟩ | ⟨_, _, n, i, b, hq, h⟩
    · exact absurd ⟨h1, by omega⟩ h
    · have e := Num.same hnum hq
      simp only [Prod.mk.injEq] at e
      obtain ⟨rfl, rfl, rfl⟩ := e
      rcases h with ⟨h, _⟩ | ⟨_, ⟨_, h3, h4, h5, h6⟩ | ⟨h3, h4, _⟩⟩
      · cases h
      · refine ⟨h4, h3, ?_⟩
        rw [h5, h6, hsw]
        rfl
      · exfalso
        cases hrest : rest with
        | nil => exact drop_end (htl.trans hrest) h3
        | cons y z =>
          obtain ⟨_, h7, _⟩ := bt_drop (htl.trans hrest)
          rw [hr y z hrest] at h7
          rw [h7] at h4
          exact absurd h4 (by decide)
  | some i =>
    obtain ⟨hi, hc0⟩ := hm.2 i rfl
    have hd' : t.data.toList.drop a = termL c i ++ rest := hd
    by_cases h1 : c = 1 ∨ c = -1
    · have e1 : termL c i = 120 :: Lib.itoa i := by unfold termL; rw [if_pos h1]
      have e1' : itemText (some i, c) = 120 :: Lib.itoa i := e1
      rw [e1, List.cons_append] at hd'
      obtain ⟨h2, h3, _⟩ := bt_drop hd'
      have hone : mx c (-c) = 1 := by unfold mx; rcases h1 with rfl | rfl <;> decide
      rw [hone] at hsw
      rcases h with ⟨_, h⟩ | ⟨_, h, _⟩
      · obtain ⟨g1, g2, g3, g4⟩ := tail_good hs hn hi hr hd' h
        refine ⟨g1, ?_, ?_⟩
        · rw [g2, e1', List.length_cons]
          congr 1
          omega
        · rw [g3, g4, hsw]
          rfl
      · exact absurd h3 h
    · have e1 : termL c i = Lib.itoa (mx c (-c)) ++ 42 :: 120 :: Lib.itoa i := by unfold termL; rw [if_neg h1]
      have e1' : itemText (some i, c) = Lib.itoa (mx c (-c)) ++ 42 :: 120 :: Lib.itoa i := e1
      have hd2 : t.data.toList.drop a = Lib.itoa (mx c (-c)) ++ (42 :: 120 :: (Lib.itoa i ++ rest)) := by rw [hd', e1]; simp
      have hnum := num_itoa hs hb.1 hb.2 hd2 (by intro y z h; obtain ⟨rfl, _⟩ := List.cons.inj h; decide)
      obtain ⟨x, r, hx, hx2⟩ := first_digit hb.1 (42 :: 120 :: (Lib.itoa i ++ rest))
      obtain ⟨h2, h3, _⟩ := bt_drop (hd2.trans hx)
      have htl : t.data.toList.drop (a + (Lib.itoa (mx c (-c))).length) = 42 :: 120 :: (Lib.itoa i ++ rest) := by rw [← List.drop_drop, hd2, List.drop_left]
      obtain ⟨h4, h5, h6⟩ := bt_drop htl
      rcases h with ⟨h, _⟩ | ⟨_, _, n, j, b, hq, h⟩
      · exact absurd ⟨h2, by omega⟩ h
      · have e := Num.same hnum hq
        simp only [Prod.mk.injEq] at e
        obtain ⟨rfl, rfl, rfl⟩ := e
        rcases h with ⟨h, _⟩ | ⟨_, ⟨h, _⟩ | ⟨_, _, h⟩⟩
        · cases h
        · exact absurd ⟨h4, h5⟩ h
        · obtain ⟨g1, g2, g3, g4⟩ := tail_good (p := a + (Lib.itoa (mx c (-c))).length + 1) hs hn hi hr h6 h
          refine ⟨g1, ?_, ?_⟩
          · rw [g2, e1', List.length_append, List.length_cons, List.length_cons]
            congr 1
            omega
          · rw [g3, g4, hsw]
            rfl
end Go.Proofs.YthgnpbaldhemiaaDoor.Pr
