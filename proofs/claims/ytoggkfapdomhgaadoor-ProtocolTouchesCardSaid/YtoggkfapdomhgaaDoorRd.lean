/- slices.Delete at one rule; conditions: each theorem's own premises. -/
import Derived.Test.YtoggkfapdomhgaaDoorRi
import Derived.Deep.MidRow
namespace Go.Proofs.YtoggkfapdomhgaaDoor.Pr
open Go.RowKit Go.Proofs.YtoggkfapdomhgaaDoorW.PrintWords Go.Proofs.YtoggkfapdomhgaaDoorW.PrintLast Go.Proofs.YtoggkfapdomhgaaDoorW.PrintMore
set_option linter.unusedVariables false
set_option linter.unusedSimpArgs false
set_option maxRecDepth 100000
set_option maxHeartbeats 2000000 in
theorem delete_rules {q n cap i base : Nat} {ok : Nat → Prop} (xs : List S30) (w : World) (hR : k30.R 30 w base ok (.slice (some ⟨q, 0, none⟩) n cap) xs) (hi : i < n) (hn : n ≤ 1000) :
    Calls Tryd.prog 43 #[.slice (some ⟨q, 0, none⟩) n cap, .int .i64 i, .int .i64 ((i : Int) + 1)] w fun e w' => e = .returned (.slice (some ⟨q, 0, none⟩) (n - 1) cap) ∧ k30.R 30 w' base ok (.slice (some ⟨q, 0, none⟩) (n - 1) cap) (xs.take i ++ xs.drop (i + 1)) ∧ (∀ k, k ≠ q → w'.heap[k]? = w.heap[k]?) ∧ ∀ B w0, Below B w0 w → B ≤ q → Below B w0 w' := by
  obtain ⟨h0, hl, hb, hle, hmx, cur, hh, hsz, hv⟩ := R_view hR
  have hsz' : cur.size = cap * 18 := hsz
  obtain ⟨news, hnews⟩ : ∃ news, news = (cur.toList.drop ((i + 1) * 18)).take ((n - (i + 1)) * 18) := ⟨_, rfl⟩
  have hlen : news.length = (n - (i + 1)) * 18 := by rw [hnews, List.length_take, List.length_drop, Array.length_toList, hsz']; omega
  have hget : ∀ t, t < news.length → news[t]? = cur[(i + 1) * 18 + t]? := by
    intro t ht
    rw [hnews, List.getElem?_take, if_pos (by omega), List.getElem?_drop, Array.getElem?_toList]
  obtain ⟨A, hA, hsrc⟩ : ∃ A : Addr, (if cap = i + 1 then some (⟨q, 0, none⟩ : Addr) else some ⟨q, (i + 1) * 18, none⟩) = some A ∧ Hid (∀ t u, news[t]? = some u → w.drew.cell? (A.add t) = some u) := by
    by_cases h : cap = i + 1
    · refine ⟨⟨q, 0, none⟩, by simp [h], fun t u hu => ?_⟩
      have ht := (List.getElem?_eq_some_iff.1 hu).1
      omega
    · refine ⟨⟨q, (i + 1) * 18, none⟩, by simp [h], fun t u hu => ?_⟩
      have ht := (List.getElem?_eq_some_iff.1 hu).1
      rw [hget t ht] at hu
      rw [Addr.add_lit]
      exact (blk_cell (blk_drew hh) _).trans hu
  have s1 : Hid (news.length = (n - (i + 1)) * 18) := hlen
  have s2 : Hid (∀ u ∈ news, u.oneCell' = true) := by
    intro u hu
    obtain ⟨t, ht⟩ := List.getElem?_of_mem hu
    have htl := (List.getElem?_eq_some_iff.1 ht).1
    rw [hget t htl] at ht
    obtain ⟨j, r, hr, hj⟩ : ∃ j r, r < 18 ∧ (i + 1) * 18 + t = j * 18 + r ∧ j < n := ⟨((i + 1) * 18 + t) / 18, ((i + 1) * 18 + t) % 18, Nat.mod_lt _ (by decide), by omega, by omega⟩
    have hjx := List.getElem?_eq_getElem (l := xs) (i := j) (by omega)
    obtain ⟨c, hc, hM, hg⟩ := hv j _ hjx
    have hc' : c.length = 18 := hc
    have hr2 := List.getElem?_eq_getElem (l := c) (i := r) (by omega)
    have := hg r _ hr2
    have h18 : j * k30.sz + r = (i + 1) * 18 + t := by rw [hj.1]; rfl
    rw [h18, ht] at this
    obtain rfl := Option.some.inj this
    exact k30.K_one (k30.K_of_M hM) _ (List.getElem_mem _)
  have s3 : Hid (∀ t, t < news.length → (w.drew.cell? ⟨q, 0 + i * 18 + t, none⟩).isSome = true ∧ w.drew.frozen? ⟨q, 0 + i * 18 + t, none⟩ = false) := by
    intro t ht
    rw [Nat.zero_add]
    exact ⟨by rw [blk_cell (blk_drew hh), Array.getElem?_eq_getElem (by omega)]; rfl, blk_frozen (blk_drew hh) _⟩
  obtain ⟨i0, hi0, hzz⟩ := Option.map_eq_some_iff.1 info30
  simp only [Prod.mk.injEq] at hzz
  obtain ⟨hz0, hz1, hz2⟩ := hzz
  obtain ⟨W1, hW1⟩ : ∃ W1, W1 = w.drew.setCells q (0 + i * 18) news := ⟨_, rfl⟩
  have hW : Hid (W1 = w.drew.setCells q (0 + i * 18) news) := hW1
  have mixed : Tryd.prog.follows .mixedOrders = true := by kernel_rfl
  have hic : i ≤ cap := by omega
  obtain ⟨j, hj⟩ : ∃ j, j = i + 1 := ⟨_, rfl⟩
  have hij : i ≠ j := by omega
  have hjn : j ≤ n := by omega
  have hlt : i < j := by omega
  have hjc : j ≤ cap := by omega
  have e1 : ((i : Int) + 1) = (j : Nat) := by omega
  rw [e1]
  rw [← hj] at s1 hA
  have HJ := Aside0.mk hj
  obtain ⟨zs, hzs⟩ : ∃ zs : List Value, zs = [.string ByteArray.empty, .int .i64 0, .int .i64 0, .int .i64 0, .int .i64 0, .int .i64 0, .slice none 0 0, .slice none 0 0, .slice none 0 0, .slice none 0 0, .int .i64 0, .int .i64 0, .slice none 0 0, .int .i64 0, .slice none 0 0, .slice none 0 0, .slice none 0 0, .int .i64 0] := ⟨_, rfl⟩
  obtain ⟨c1, a1, a2, _, _, _⟩ := sets_spec q 30 news (0 + i * 18) w.drew cur hh
  rw [← hW1] at a1
  have hcl : ∀ ty, (Builtin.clear_ #[25] ty #[.slice (some ⟨q, (i + (n - j)) * 18, none⟩) (n - (i + (n - j))) (cap - (i + (n - j)))]).run Tryd.prog W1 = .ok (.tuple #[]) (W1.setCells q ((i + (n - j)) * 18) zs) := by
    intro ty
    rw [show n - (i + (n - j)) = 1 by omega]
    have := run_clear_rows (P := Tryd.prog) W1 25 30 ty _ Tryd.underlying25 Tryd.zeroValue30 q ((i + (n - j)) * 18) (cap - (i + (n - j))) (by simp [Value.cells, Value.oneCell']) (fun t ht => by rw [blk_cell a1, Array.getElem?_eq_getElem (by rw [a2, hsz']; have : t < 18 := ht; omega)]; rfl) (fun t _ => blk_frozen a1 _)
    rw [this, hzs]
    rfl
  have HR := Aside0.mk (R_delrow (Kd.R_drew hR) i hi news zs (by rw [hlen]; rfl) (by rw [hzs]; rfl) (fun cur' hc' t ht => by
    rw [blk_drew hh] at hc'
    injection hc' with hc'
    injection hc' with hc'
    rw [← hc']
    exact hget t ht))
  have HZ := Aside0.mk hzs
  clear a1 a2 hzs
  clear hW1 hget hnews hlen hv hR hsz e1 hj
  go_enter Tryd.func43, Tryd.ntmps43
  go_wp2_with fail
  go_region_law_o (refine step_append_room rfl (.tmp 22) (.tmp 25) 25 rfl 30 i0 18 Tryd.underlying25 hi0 hz1 q 0 i cap (by simp [Act.eval, Act.put]) A (n - j) (cap - j) news (by simp [Act.eval, Act.put]) s1.out hsrc.out s2.out (by omega) s3.out ?_; rw [← hW.out])
  go_wp2_with fail
  go_ret
  obtain ⟨r1, r2, r3⟩ := HR.out
  have e1 : W1.setCells q ((i + (n - j)) * 18) zs = (w.drew.setCells q (i * k30.sz) news).setCells q ((n - 1) * k30.sz) zs := by
    rw [hW.out, Nat.zero_add, show i + (n - j) = n - 1 by have := HJ.out; omega]
    rfl
  have e2 : i + (n - j) = n - 1 := by have := HJ.out; omega
  rw [e1, e2]
  exact ⟨rfl, r1, r2, fun B w0 hB hq => r3 B w0 hB.drew hq⟩
/-- Cells in the middle of a block. -/
theorem mid_cells {W : World} {g t : Nat} (pre mid post : List Value) (h : W.heap[g]? = some (.cells (pre ++ (mid ++ post)).toArray t (0, 0))) : ∀ j v, mid[j]? = some v → W.cell? ((⟨g, pre.length, none⟩ : Addr).add j) = some v := by
  intro j v hj
  have hjl := (List.getElem?_eq_some_iff.1 hj).1
  rw [Addr.add_lit, blk_cell h, List.getElem?_toArray, List.getElem?_append_right (by omega), List.getElem?_append_left (by omega), Nat.add_sub_cancel_left]
  exact hj
/-- A store of many cells, at one blow. -/
theorem store_run {P : Program} {o : Oper} {a : Act} {W : World} (t : TypeId) (x y : Operand) (ho : o.op = .store t x y) (b off : Nat) (cells : Array Value) (hx : a.eval x = .pointer (some ⟨b, off, none⟩)) (hy : a.eval y = .agg cells)
    (ht : W.there b off cells.size) (hi : (P.info? t).map (·.size) = some cells.size) (h1 : cells.all (·.oneCell') = true) : (execOp a.eval o).run P W = .ok .skip (W.setCells b off cells.toList) := by
  unfold execOp
  simp [ho, hx, hy, run_storeAt_mid W b off t cells ht hi h1, Result.andThen]
section
variable {α : Type} {d : Kd α} {e : Nat} {w w1 : World} {base q n cap : Nat} {ok okp : Nat → Prop} {xs ys : List α}
theorem there_row (h : d.R e w base ok (.slice (some ⟨q, 0, none⟩) n cap) xs) (i : Nat) (hi : i < n) : w.there q (i * d.sz) d.sz := by
  obtain ⟨_, _, _, hle, _, cur, hh, hsz, _⟩ := R_view h
  intro j hj
  have hi2 : (i + 1) * d.sz ≤ cap * d.sz := Nat.mul_le_mul_right _ (by omega)
  rw [Nat.succ_mul] at hi2
  exact ⟨by rw [blk_cell hh, Array.getElem?_eq_getElem (by omega)]; rfl, blk_frozen hh _⟩
theorem row_other (h : d.R e w base ok (.slice (some ⟨q, 0, none⟩) n cap) xs) (o : Nat) (cs : List Value) : (∀ k, k ≠ q → (w.setCells q o cs).heap[k]? = w.heap[k]?) ∧ ∀ B w0, Below B w0 w → B ≤ q → Below B w0 (w.setCells q o cs) := by
  obtain ⟨_, _, _, hle, _, cur, hh, hsz, _⟩ := R_view h
  obtain ⟨_, _, _, _, q4, q5⟩ := sets_spec q e cs o w cur hh
  exact ⟨q4, q5⟩
theorem R_head {v : Value} (h : d.R e w base ok v xs) (hne : xs ≠ []) : ∃ q c, v = .slice (some ⟨q, 0, none⟩) xs.length c ∧ base ≤ q ∧ ok q := by
  obtain ⟨inner, ho⟩ := Kd.R_own h
  have hb := own_base ho
  rcases ho.2 with ⟨h1, h0⟩ | ⟨q, cap, cur, h1, _⟩
  · exact absurd (List.eq_nil_of_length_eq_zero h0) hne
  · subst h1
    exact ⟨q, cap, rfl, hb q rfl, h.1 q rfl⟩
end
theorem delete_rules_z {q n cap base : Nat} {ok : Nat → Prop} (xs : List S30) (z z2 : Int) (w : World) (hR : k30.R 30 w base ok (.slice (some ⟨q, 0, none⟩) n cap) xs) (h0 : 0 ≤ z) (hi : z < n) (hn : n ≤ 1000) (h2 : z2 = z + 1) :
    Calls Tryd.prog 43 #[.slice (some ⟨q, 0, none⟩) n cap, .int .i64 z, .int .i64 z2] w fun e w' => e = .returned (.slice (some ⟨q, 0, none⟩) (n - 1) cap) ∧ k30.R 30 w' base ok (.slice (some ⟨q, 0, none⟩) (n - 1) cap) (xs.take z.toNat ++ xs.drop (z.toNat + 1)) ∧ (∀ k, k ≠ q → w'.heap[k]? = w.heap[k]?) ∧ ∀ B w0, Below B w0 w → B ≤ q → Below B w0 w' := by
  subst h2
  obtain ⟨i, rfl⟩ : ∃ i : Nat, z = i := ⟨z.toNat, by omega⟩
  rw [Int.toNat_natCast]
  exact delete_rules xs w hR (by omega) hn
/-- The family is read in every world that keeps all blocks but those of families. -/
def Firm (W : World) (P : S27) (cs : List Value) : Prop := ∀ W' : World, (∀ (k : Nat) (cells : Array Value) (t : TypeId), W.heap[k]? = some (.cells cells t (0, 0)) → t ≠ 27 → W'.heap[k]? = W.heap[k]?) → k27.K W' P cs
theorem R_firm {α : Type} {d : Kd α} {e base : Nat} {W W' : World} {ok : Nat → Prop} {v : Value} {xs : List α} (h : d.R e W base ok v xs) (ht : ∀ q, q ∈ e :: d.E → q ≠ 27) (hW : ∀ (k : Nat) (cells : Array Value) (t : TypeId), W.heap[k]? = some (.cells cells t (0, 0)) → t ≠ 27 → W'.heap[k]? = W.heap[k]?) : d.R e W' base ok v xs := by
  refine Kd.R_mono (Kd.R_move (Kd.R_bound h) (fun k hk => ?_)) (fun _ hk => hk.1)
  obtain ⟨_, _, _, q, hq, cells, hc⟩ := hk
  exact hW k cells q hc (ht q hq)
/-- The family's block and its rows: what it reads. -/
theorem fin_keep {W : World} {base g : Nat} {o2 o3 o4 o6 o7 o8 o9 : Nat → Prop} (P : S27) {v2 v3 v4 v6 v7 v8 v9 : Value} {cells : Array Value} (hb : W.heap[g]? = some (.cells cells 27 (0, 0))) (m2 : Kd.R Kd.string 9 W base o2 v2 P.f2) (m3 : Kd.R Kd.string 9 W base o3 v3 P.f3) (m4 : Kd.R Kd.string 9 W base o4 v4 P.f4) (m6 : Kd.R k48 48 W base o6 v6 P.f6) (m7 : Kd.R (Kd.int .i64) 3 W base o7 v7 P.f7) (m8 : Kd.R (Kd.int .i64) 3 W base o8 v8 P.f8) (m9 : Kd.R k30 30 W base o9 v9 P.f9)
    (hc : cells.toList = [.string P.f0, .int .i64 P.f1, v2, v3, v4, .int .i64 P.f5, v6, v7, v8, v9]) : ∃ cs, W.heap[g]? = some (.cells cs 27 (0, 0)) ∧ Firm W P cs.toList := by
  refine ⟨cells, hb, fun W' hW => ?_⟩
  rw [hc]
  obtain ⟨B2, d2, rfl⟩ := Kd.R_slice m2
  have n2 := Kd.R_reads' (R_firm m2 (by decide) hW)
  obtain ⟨B3, d3, rfl⟩ := Kd.R_slice m3
  have n3 := Kd.R_reads' (R_firm m3 (by decide) hW)
  obtain ⟨B4, d4, rfl⟩ := Kd.R_slice m4
  have n4 := Kd.R_reads' (R_firm m4 (by decide) hW)
  obtain ⟨B6, d6, rfl⟩ := Kd.R_slice m6
  have n6 := Kd.R_reads' (R_firm m6 (by decide) hW)
  obtain ⟨B7, d7, rfl⟩ := Kd.R_slice m7
  have n7 := Kd.R_reads' (R_firm m7 (by decide) hW)
  obtain ⟨B8, d8, rfl⟩ := Kd.R_slice m8
  have n8 := Kd.R_reads' (R_firm m8 (by decide) hW)
  obtain ⟨B9, d9, rfl⟩ := Kd.R_slice m9
  have n9 := Kd.R_reads' (R_firm m9 (by decide) hW)
  exact k27_mk W' P n2.2.1 n2.2.2 n3.2.1 n3.2.2 n4.2.1 n4.2.2 n6.2.1 n6.2.2 n7.2.1 n7.2.2 n8.2.1 n8.2.2 n9.2.1 n9.2.2
/-- .. behind a store into one of the family's own cells. -/
theorem fin_set {W : World} {base g : Nat} {o2 o3 o4 o6 o7 o8 o9 : Nat → Prop} (P : S27) {v2 v3 v4 v6 v7 v8 v9 : Value} {cells : Array Value} (j : Nat) (u : Value) (hb : W.heap[g]? = some (.cells cells 27 (0, 0))) (m2 : Kd.R Kd.string 9 W base o2 v2 P.f2) (m3 : Kd.R Kd.string 9 W base o3 v3 P.f3) (m4 : Kd.R Kd.string 9 W base o4 v4 P.f4) (m6 : Kd.R k48 48 W base o6 v6 P.f6) (m7 : Kd.R (Kd.int .i64) 3 W base o7 v7 P.f7) (m8 : Kd.R (Kd.int .i64) 3 W base o8 v8 P.f8) (m9 : Kd.R k30 30 W base o9 v9 P.f9)
    (hc : (cells.setIfInBounds j u).toList = [.string P.f0, .int .i64 P.f1, v2, v3, v4, .int .i64 P.f5, v6, v7, v8, v9]) : ∃ cs, (W.setCell ⟨g, j, none⟩ u).heap[g]? = some (.cells cs 27 (0, 0)) ∧ Firm (W.setCell ⟨g, j, none⟩ u) P cs.toList :=
  fin_keep P (blk_set hb j u) (Kd.R_set m2 hb (by decide) j u) (Kd.R_set m3 hb (by decide) j u) (Kd.R_set m4 hb (by decide) j u) (Kd.R_set m6 hb (by decide) j u) (Kd.R_set m7 hb (by decide) j u) (Kd.R_set m8 hb (by decide) j u) (Kd.R_set m9 hb (by decide) j u) hc
end Go.Proofs.YtoggkfapdomhgaaDoor.Pr
