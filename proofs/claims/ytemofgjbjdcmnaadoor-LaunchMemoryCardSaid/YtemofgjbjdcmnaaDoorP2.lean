/- What the functions of this chapter give, on plain data. No condition. -/
import Derived.Test.YtemofgjbjdcmnaaDoorP1
set_option linter.defProp false
set_option linter.unusedSectionVars false
set_option linter.unusedSimpArgs false
set_option linter.unusedVariables false
/- LaunchMemory: a copy of a memory, its rows one's own. No condition. -/
namespace Go.Am
open Go Go.Proofs

theorem g_appendf {P : Program} {h : Heap} {KH : D → Heap → Prop} {esz bytes m : Nat} {z z' d : D} {els : List D} (hm : h m = .arr esz els) (h2 : AllOne d) (h3 : d.cells.length = esz) (hb : (els.length + 1) * bytes ≤ 140737488355328) (hl : els.length + 1 ≤ 9223372036854775807)
    (hk : ∀ n h', h n = .free → h' n = .arr esz (els ++ [d]) → (∀ k, h k ≠ .free → k ≠ m → h' k = h k) → KH (.ms n 0 (els.length + 1)) h') : vhOp P (.bldS false esz 1 z [(0, .c d)]) h fun x h1 => vhOp P (.app (.c (.ms m 0 els.length)) (.c x) esz bytes z') h1 KH := by
  refine ⟨fun p hp => by simp [Arg.get] at hp; subst hp; exact ⟨Nat.one_pos, h3, h2⟩, fun h => (by cases h), fun n1 t1 => ?_⟩
  have hne : m ≠ n1 := t1.ne (by rw [hm]; simp)
  have hse : setEls (List.replicate 1 z) ([(0, Arg.c d)].map fun p => (p.1, if (false : Bool) = true then (p.2.get []).fz h else p.2.get [])) = [d] := rfl
  rw [hse]
  simp only [Bool.false_eq_true, if_false]
  have hx : ((upd h n1 (.arr esz [d])) n1).row = some (esz, [d]) := by rw [upd_self]; rfl
  refine ⟨[d], hx, by simp, ?_⟩
  simp only [List.drop_zero, List.take_succ_cons, List.take_zero]
  refine ⟨fun y hy => by simp at hy; subst hy; exact h2, ?_⟩
  refine ⟨els, by rw [upd_other _ _ hne]; exact hm, rfl, rfl, ⟨by simpa using hb, by simpa using hl⟩, fun n t => ?_⟩
  have hn := t.free
  have hnm : n ≠ n1 := by rintro rfl; rw [upd_self] at hn; cases hn
  rw [upd_other _ _ hnm] at hn
  have := hk n
  simp only [List.length_cons, List.length_nil, Nat.zero_add]
  refine this _ hn (upd_self _ _ _) fun k hk1 hk2 => ?_
  have e1 : k ≠ n := by rintro rfl; exact hk1 hn
  have e2 : k ≠ n1 := t1.ne hk1
  rw [upd_other _ _ e1, upd_other _ _ hk2, upd_other _ _ e2]
/-- 'append(row, list...)'. -/
theorem g_appsls {P : Program} {h : Heap} {KH : D → Heap → Prop} {bytes m : Nat} {z : D} {els ys : List D} (hm : h m = .arr 1 els) (hy : ∀ y, y ∈ ys → y.cells.length = 1 ∧ AllOne y) (hb : (els.length + ys.length) * bytes ≤ 140737488355328) (hl : els.length + ys.length ≤ 9223372036854775807)
    (hk : ∀ n h', h n = .free → h' n = .arr 1 (els ++ ys) → (∀ k, h k ≠ .free → k ≠ m → h' k = h k) → KH (.ms n 0 (els.length + ys.length)) h') : vhOp P (.app (.c (.ms m 0 els.length)) (.c (.sl ys)) 1 bytes z) h KH := by
  refine ⟨fun e he => (hy e he).1, fun y hyy => (hy y hyy).2, els, hm, rfl, rfl, ⟨hb, hl⟩, fun n t => ?_⟩
  refine hk n _ t.free (upd_self _ _ _) fun k hk1 hk2 => ?_
  rw [upd_other _ _ (t.ne hk1), upd_other _ _ hk2]

def wrow (w : List Int) : List D := w.map (.int .i32)
theorem wrow_len (w : List Int) : (wrow w).length = w.length := by simp [wrow]
theorem wrow_one (w : List Int) : ∀ x, x ∈ wrow w → ∀ y, y ∈ x.cells → y.vone = true := i32_one w
/-- A memory whose rows are one's own. -/
structure CInv (ms : List (List Int)) (M i : Nat) (els : List D) (h : Heap) : Prop where
  len : els.length = i
  row : h M = .arr 1 els
  el : ∀ j, j < i → ∃ k w, els[j]? = some (.ms k 0 w.length) ∧ ms[j]? = some w ∧ h k = .arr 1 (wrow w) ∧ k ≠ M
  inj : ∀ (j j' k a b : Nat), els[j]? = some (.ms k 0 a) → els[j']? = some (.ms k 0 b) → j = j'

theorem a29 {ms : List (List Int)} (hms : ms.length ≤ 1000) (hw : ∀ w, w ∈ ms → w.length ≤ 1000) {hS : Heap} {K : D → Heap → Prop}
    (hk : ∀ (M : Nat) (els : List D) (h' : Heap), Ext hS h' → CInv ms M ms.length els h' → hS M = .free → (∀ (j k a : Nat), els[j]? = some (.ms k 0 a) → hS k = .free) → K (.ms M 0 ms.length) h') : ACall Tryd.prog 29 [memD ms] hS K := by
  refine acall_V F29r_ok (cDr_ok _ _ _) rfl (V29r_ok _ _) ?_
  unfold V29r
  refine g_bld0 fun n0 t0 => ?_
  refine ⟨fun x h' => ∃ (M : Nat) (els : List D), x = [.ms M 0 ms.length] ∧ Ext hS h' ∧ CInv ms M ms.length els h' ∧ hS M = .free ∧ (∀ (j k a : Nat), els[j]? = some (.ms k 0 a) → hS k = .free), ?_, ?_⟩
  · rintro f h' ⟨M, els, hf, q1, q2, q3, q4⟩
    simp only [List.cons.injEq, and_true] at hf
    rw [hf]; exact hk M els h' q1 q2 q3 q4
  unfold V29r_L0
  refine ⟨fun k x h' => ∃ (i M : Nat) (els : List D), x = [.ms M 0 i, .int .i64 i] ∧ k + i = ms.length ∧ Ext hS h' ∧ CInv ms M i els h' ∧ hS M = .free ∧ (∀ (j k a : Nat), els[j]? = some (.ms k 0 a) → hS k = .free), ms.length,
    ⟨0, n0, [], rfl, rfl, Ext.new t0 _, ⟨rfl, upd_self _ _ _, fun j hj => by omega, fun j j' k a b h => by simp at h⟩, t0.free, fun j k a h => by simp at h⟩, ?_⟩
  rintro k f h' ⟨i, M, els, hf, hki, hext, hc, hMf, hkf⟩
  simp only [List.cons.injEq, and_true] at hf
  obtain ⟨hf1, hf2⟩ := hf
  rw [hf1, hf2]
  simp only [mem_len, ↓v_lss]
  by_cases hi : i < ms.length
  case neg =>
    have hi' : ¬ (i : Int) < (ms.length : Int) := by omega
    have hil : i = ms.length := by omega
    simp only [hi', decide_false, v_cond_f, keq_self, true_and]
    subst hil
    exact ⟨M, els, rfl, hext, hc, hMf, hkf⟩
  have hi' : (i : Int) < (ms.length : Int) := by omega
  have w1 : IntKind.i64.wrap ((i : Int) + 1) = ((i + 1 : Nat) : Int) := by rw [wrap64 (by omega) (by omega)]; rfl
  obtain ⟨w, hwi⟩ : ∃ w, ms[i]? = some w := ⟨_, List.getElem?_eq_getElem hi⟩
  have hwl := hw w (List.mem_of_getElem? hwi)
  simp only [hi', decide_true, v_cond_t]
  refine g_bld0 fun n1 t1 => ?_
  have n1M : M ≠ n1 := t1.ne (by rw [hc.row]; simp)
  have n1f := t1.free
  simp only [memD, ↓h_iadd, List.length_map, Int.toNat_natCast, List.getElem?_map, hwi, Option.map_some]
  refine ⟨by omega, hi', fun d hd => ?_⟩
  cases hd
  refine ⟨rfl, ?_⟩
  simp only [↓h_ldv, li_cells, ↓v_part1, List.getElem?_cons_zero]
  have app1 := g_appsls (P := Tryd.prog) (h := upd h' n1 (.arr 1 [])) (m := n1) (els := []) (ys := wrow w) (bytes := 4) (z := .int .i32 0) (KH := fun a19 h20 =>
      vhOp Tryd.prog (.bldS false 1 1 .nil [(0, (.c a19))]) h20 fun a21 h22 =>
      vhOp Tryd.prog (.app (.c (.ms M 0 i)) (.c a21) 1 24 .nil) h22 fun a23 h24 =>
      vbin .add (.int .i64 i) (.int .i64 1) fun a25 =>
      keq [memD ms] [memD ms] ∧ ∃ m, m < k ∧ (fun (k : Nat) (x : List D) (h' : Heap) => ∃ (i M : Nat) (els : List D), x = [.ms M 0 i, .int .i64 i] ∧ k + i = ms.length ∧ Ext hS h' ∧ CInv ms M i els h' ∧ hS M = .free ∧ (∀ (j k a : Nat), els[j]? = some (.ms k 0 a) → hS k = .free)) m [a23, a25] h24)
    (upd_self _ _ _) (fun y hy => by
      simp only [wrow, List.mem_map] at hy
      obtain ⟨z, -, rfl⟩ := hy
      exact ⟨rfl, by simp⟩) (by simp [wrow_len]; omega) (by simp [wrow_len]; omega) ?_
  · exact app1
  intro n2 h2 q1 q2 q3
  have hwr : (([] : List D).length + (wrow w).length) = w.length := by simp [wrow_len]
  rw [hwr]
  rw [List.nil_append] at q2
  have n21 : n2 ≠ n1 := by rintro rfl; rw [upd_self] at q1; cases q1
  rw [upd_other _ _ n21] at q1
  have k2 : ∀ z, h' z ≠ .free → h2 z = h' z := fun z hz => by
    have e1 : z ≠ n1 := t1.ne hz
    rw [q3 z (by rw [upd_other _ _ e1]; exact hz) e1, upd_other _ _ e1]
  have hM2 : h2 M = .arr 1 els := by rw [k2 M (by rw [hc.row]; simp), hc.row]
  have key := g_appendf (P := Tryd.prog) (bytes := 24) (z := .nil) (z' := .nil) (d := .ms n2 0 w.length) (KH := fun a23 h24 =>
      vbin .add (.int .i64 i) (.int .i64 1) fun a25 =>
      keq [memD ms] [memD ms] ∧ ∃ m, m < k ∧ (fun (k : Nat) (x : List D) (h' : Heap) => ∃ (i M : Nat) (els : List D), x = [.ms M 0 i, .int .i64 i] ∧ k + i = ms.length ∧ Ext hS h' ∧ CInv ms M i els h' ∧ hS M = .free ∧ (∀ (j k a : Nat), els[j]? = some (.ms k 0 a) → hS k = .free)) m [a23, a25] h24)
    hM2 (by simp) rfl (by rw [hc.len]; omega) (by rw [hc.len]; omega) ?_
  · rw [hc.len] at key; exact key
  intro M' h3 r1 r2 r3
  rw [hc.len]
  simp only [↓v_add, w1, keq_self, true_and]
  have xS : ∀ z, hS z ≠ .free → h' z = hS z := hext
  have fS : ∀ z, h' z = .free → hS z = .free := fun z hz => by
    rcases Classical.em (hS z = .free) with e | e
    · exact e
    · rw [xS z e] at hz; exact absurd hz e
  have f2 : ∀ z, h2 z = .free → h' z = .free := fun z hz => by
    rcases Classical.em (h' z = .free) with e | e
    · exact e
    · rw [k2 z e] at hz; exact absurd hz e
  have hn2M : n2 ≠ M := by rintro rfl; rw [hc.row] at q1; cases q1
  have k3 : ∀ z, h' z ≠ .free → z ≠ M → h3 z = h' z := fun z hz hzM => by
    rw [r3 z (by rw [k2 z hz]; exact hz) hzM, k2 z hz]
  have hM'n2 : n2 ≠ M' := by rintro rfl; rw [q2] at r1; cases r1
  refine ⟨k - 1, by omega, i + 1, M', els ++ [.ms n2 0 w.length], rfl, by omega, fun z hz => ?_, ⟨by simp [hc.len], r2, fun j hj => ?_, fun j j' k a b h1 h2' => ?_⟩, fS _ (f2 _ r1), fun j k a h => ?_⟩
  · have hz' : h' z ≠ .free := by rw [xS z hz]; exact hz
    have hzM : z ≠ M := by rintro rfl; exact hz hMf
    rw [k3 z hz' hzM, xS z hz]
  · rcases Nat.lt_or_ge j i with h | h
    · obtain ⟨k', w', p1, p2, p3, p4⟩ := hc.el j h
      refine ⟨k', w', by rw [List.getElem?_append_left (by rw [hc.len]; exact h)]; exact p1, p2, by rw [k3 k' (by rw [p3]; simp) p4, p3], ?_⟩
      rintro rfl
      have := f2 _ r1
      rw [p3] at this; cases this
    · obtain rfl : j = i := by omega
      refine ⟨n2, w, by rw [List.getElem?_append_right (by rw [hc.len]; omega), hc.len]; simp, hwi, by rw [r3 n2 (by rw [q2]; simp) hn2M, q2], hM'n2⟩
  · have last : ∀ (j a : Nat), (els ++ [D.ms n2 0 w.length])[j]? = some (.ms k 0 a) → (j < i ∧ els[j]? = some (.ms k 0 a)) ∨ (j = i ∧ k = n2) := by
      intro j a h
      rcases Nat.lt_or_ge j i with hj | hj
      · rw [List.getElem?_append_left (by rw [hc.len]; exact hj)] at h
        exact Or.inl ⟨hj, h⟩
      · rw [List.getElem?_append_right (by rw [hc.len]; exact hj), hc.len] at h
        have : j - i = 0 := by
          rcases Nat.eq_zero_or_pos (j - i) with e | e
          · exact e
          · rw [List.getElem?_eq_none (by simp; omega)] at h; cases h
        rw [this] at h
        simp at h
        exact Or.inr ⟨by omega, h.1.symm⟩
    have old : ∀ (j a : Nat), j < i → els[j]? = some (.ms n2 0 a) → False := by
      intro j a hj h
      obtain ⟨k', w', p1, -, p3, -⟩ := hc.el j hj
      rw [h] at p1; cases p1
      rw [p3] at q1; cases q1
    rcases last j a h1 with ⟨u1, u2⟩ | ⟨u1, rfl⟩ <;> rcases last j' b h2' with ⟨v1, v2⟩ | ⟨v1, v2⟩
    · exact hc.inj j j' k a b u2 v2
    · subst v2; exact (old j a u1 u2).elim
    · exact (old j' b v1 v2).elim
    · omega
  · rcases Nat.lt_or_ge j i with hj | hj
    · rw [List.getElem?_append_left (by rw [hc.len]; exact hj)] at h
      exact hkf j k a h
    · rw [List.getElem?_append_right (by rw [hc.len]; exact hj), hc.len] at h
      have : j - i = 0 := by
        rcases Nat.eq_zero_or_pos (j - i) with e | e
        · exact e
        · rw [List.getElem?_eq_none (by simp; omega)] at h; cases h
      rw [this] at h
      simp at h
      rw [← h.1]; exact fS _ q1
end Go.Am
/- LaunchMemory: what fits, and calls that read rows of rows. No condition. -/
namespace Go.Am
open Go Go.Proofs

theorem fits_zW {s : Int} : ∀ {aL : List Arr}, (∀ a, a ∈ aL → 0 ≤ a.ln ∧ a.ln ≤ 15) → fitsB s aL (zW s aL) = true
  | [], _ => rfl
  | a :: r, h => by
    have h1 := sz_bd (s := s) (h a (by simp))
    have h2 := fits_zW (s := s) (aL := r) fun x hx => h x (by simp [hx])
    simp only [zW, List.map_cons, fitsB, List.length_replicate, Bool.and_eq_true, decide_eq_true_eq]
    exact ⟨h1.1, h2⟩
theorem fits_bad {s : Int} {aL : List Arr} {ws : List (List Int)} {k : Nat} {w : List Int} (hk : ws[k]? = some w) (hn : ∀ a, aL[k]? = some a → a.sz s ≠ w.length) : fitsB s aL ws = false := by
  cases h : fitsB s aL ws with
  | false => rfl
  | true =>
    have hl := fitsB_len h
    have hkl := (List.getElem?_eq_some_iff.1 hk).1
    have ha : aL[k]? = some aL[k] := List.getElem?_eq_getElem (by omega)
    exact absurd ((fitsB_iff hl).1 h k _ w ha hk) (hn _ ha)
/-- The rows of a row, as data. -/
structure RowsAre (h : Heap) (M : Nat) (els vals : List D) : Prop where
  len : els.length = vals.length
  el : ∀ (j : Nat) (e : D), els[j]? = some e → (e = .nil ∧ vals[j]? = some .nil) ∨ ∃ (k : Nat) (w : List Int), e = .ms k 0 w.length ∧ h k = .arr 1 (wrow w) ∧ k ≠ M ∧ vals[j]? = some (li32 w)
theorem fz_wrow {h : Heap} {k : Nat} {w : List Int} (hk : h k = .arr 1 (wrow w)) : (D.ms k 0 w.length).fz h = li32 w := by
  have := fz_row (h := h) (k := k) (els := wrow w) (by rw [hk]; rfl)
  rw [wrow_len] at this
  rw [this]; rfl
theorem RowsAre.deep {h : Heap} {M : Nat} {els vals : List D} (r : RowsAre h M els vals) : Deep h M els ∧ els.map (D.fz h) = vals := by
  refine ⟨⟨fun hm => ?_, fun e he => ?_⟩, ?_⟩
  · simp only [List.mem_flatMap] at hm
    obtain ⟨e, he, hm⟩ := hm
    obtain ⟨j, hj⟩ := List.mem_iff_getElem?.1 he
    rcases r.el j e hj with ⟨rfl, -⟩ | ⟨k, w, rfl, -, q, -⟩
    · simp [D.nm, D.nmc] at hm
    · simp [D.nm, D.nmc] at hm
      exact q hm.symm
  · obtain ⟨j, hj⟩ := List.mem_iff_getElem?.1 he
    rcases r.el j e hj with ⟨rfl, -⟩ | ⟨k, w, rfl, q3, q, -⟩
    · exact ⟨rfl, fun y hy => by simp [D.cells] at hy; subst hy; trivial, rfl, rfl⟩
    · refine ⟨rfl, fun y hy => ?_, by rw [fz_wrow q3]; rfl, rfl⟩
      simp only [D.cells, List.mem_singleton] at hy
      subst hy
      exact ⟨1, wrow w, by rw [q3]; rfl, by rw [wrow_len]; omega, fun x hx => wrow_one _ x (List.mem_of_mem_drop (List.mem_of_mem_take hx))⟩
  · apply List.ext_getElem?
    intro j
    rcases Nat.lt_or_ge j els.length with hj | hj
    · have he : els[j]? = some els[j] := List.getElem?_eq_getElem hj
      rw [List.getElem?_map, he]
      rcases r.el j _ he with ⟨q1, q2⟩ | ⟨k, w, q1, q2, -, q4⟩
      · rw [q1, q2]; rfl
      · rw [q1, q4]; simp only [Option.map_some]; rw [fz_wrow q2]
    · rw [List.getElem?_eq_none (by rw [List.length_map]; exact hj), List.getElem?_eq_none (by rw [← r.len]; exact hj)]
theorem a27deep {d1 d2 : D} {h : Heap} {M : Nat} {els vals : List D} {b : Bool} {K : D → Heap → Prop} (hM : h M = .arr 1 els) (hR : RowsAre h M els vals) (hvals : ∀ x, x ∈ vals → ∀ y, y ∈ x.cells → y.vone = true) (hv : VCall Tryd.prog 27 [d1, d2, .sl vals] (· = .bool b))
    (hds : ∀ d, d ∈ [d1, d2] → d.vd = true ∧ AllOne d) (hk : ∀ h', (∀ z v, h z = .box v → h' z = .box v) → K (.bool b) h') : ACall Tryd.prog 27 [d1, d2, .ms M 0 els.length] h K := by
  obtain ⟨hd, he⟩ := hR.deep
  refine acall_inner hM hd ?_
  have hi : inn h M els M = .arr 1 (els.map (D.fz h)) := inn_self
  have e : D.ms M 0 els.length = .ms M 0 (els.map (D.fz h)).length := by rw [List.length_map]
  rw [e]
  refine a_callms3 hi (by rw [he]; exact hvals) (by rw [he]; exact hv) hds fun r h' hr hkk => ?_
  subst hr
  refine hk h' fun z v hz => ?_
  have z1 : z ≠ M := by rintro rfl; rw [hM] at hz; cases hz
  have z2 : z ∉ els.flatMap D.nm := fun hm => by
    simp only [List.mem_flatMap] at hm
    obtain ⟨e, he, hm⟩ := hm
    obtain ⟨j, hj⟩ := List.mem_iff_getElem?.1 he
    rcases hR.el j e hj with ⟨rfl, -⟩ | ⟨k, w, rfl, q, -, -⟩
    · simp [D.nm, D.nmc] at hm
    · simp [D.nm, D.nmc] at hm
      subst hm
      rw [hz] at q; cases q
  rw [hkk z z1, inn_other z1 z2, hz]
theorem CInv.rows {ms : List (List Int)} {M : Nat} {els : List D} {h : Heap} (c : CInv ms M ms.length els h) : RowsAre h M els (ms.map li32) := by
  refine ⟨by rw [c.len, List.length_map], fun j e hj => Or.inr ?_⟩
  have hjl := (List.getElem?_eq_some_iff.1 hj).1
  obtain ⟨k, w, q1, q2, q3, q4⟩ := c.el j (by rw [← c.len]; exact hjl)
  rw [hj] at q1; cases q1
  exact ⟨k, w, rfl, q3, q4, by rw [List.getElem?_map, q2]; rfl⟩
theorem li_vone (ws : List (List Int)) : ∀ x, x ∈ ws.map li32 → ∀ y, y ∈ x.cells → y.vone = true := by
  intro x hx y hy
  simp only [List.mem_map] at hx
  obtain ⟨z, -, rfl⟩ := hx
  rw [li_cells] at hy; simp at hy; subst hy; rfl
end Go.Am
/- LaunchMemory. No condition. -/
namespace Go.Am
open Go Go.Proofs

theorem eqvb {P : Program} (p q : Bool) {h : Heap} {K : D → Heap → Prop} : vhOp P (.eqv true false [.b] (.c (.bool p)) (.c (.bool q))) h K = K (.bool (!(p == q))) h := by
  rw [h_eqv]
  cases p <;> cases q <;> simp [veqv, eqCells, D.cells]

theorem d_iaddms {P : Program} {h : Heap} {M n k : Nat} {els : List D} (hM : h M = .arr 1 els) (hk : k < n) {K : D → Prop} : vdOp P (.iadd (.c (.ms M 0 n)) (.c (.int .i64 (k : Int))) 1) h K = K (.ptr M k 0) := by
  rw [d_iadd, h_iaddms]
  have h1 : (∃ els, (h M).row = some (1, els)) = True := eq_true ⟨els, by rw [hM]; rfl⟩
  have h2 : (0 : Int) ≤ (k : Int) := by omega
  have h3 : (k : Int) < (n : Int) := by omega
  simp only [h1, h2, h3, true_and, Nat.zero_add, Int.toNat_natCast]
theorem d_ldms {P : Program} {h : Heap} {M k : Nat} {els : List D} {d : D} (hM : h M = .arr 1 els) (hd : els[k]? = some d) (hc : d.cells = [d]) {K : D → Prop} : vdOp P (.ld (.c (.ptr M k 0)) 1 false) h K = K d := by
  rw [d_ld, g_ld]
  have hk := (List.getElem?_eq_some_iff.1 hd).1
  simp only [hM, hd, hk, true_and, Option.some.injEq, forall_eq', v_part1, hc, List.getElem?_cons_zero]
theorem ld8 {P : Program} {h : Heap} {m i : Nat} {v d : D} (hm : h m = .box v) (hd : v.cells[i]? = some d) {K : D → Prop} : vdOp P (.ld (.c (.ptr m 0 i)) 1 false) h K = K d := by
  rw [d_ld, g_ld]
  simp only [hm, v_part1, hd, true_and]
theorem ia8 {P : Program} {h : Heap} {m l : Nat} {a : Int} {v : D} (hm : h m = .box v) (h0 : 0 ≤ a) (h1 : a < (l : Int)) {K : D → Prop} : vdOp P (.iadda (.c (.ptr m 0 0)) (.c (.int .i64 a)) l 1) h K = K (.ptr m 0 a.toNat) := by
  rw [d_iadda, h_iaddap, hm]
  simp [Slot.live, h0, h1]
set_option maxRecDepth 20000 in
set_option maxHeartbeats 2000000 in
theorem law8 {a b c n0 n1 : Nat} {xs : List Int} {ms : List (List Int)} (hb255 : b ≤ 255) (hx : xs.length ≤ 9223372036854775807) (hxr : ∀ x, x ∈ xs → 0 ≤ x ∧ x ≤ 255) (hms : ms.length ≤ 9223372036854775807) (hn0 : n0 ≤ 255) (hn1 : n1 ≤ 255) :
    VCall Tryd.prog 8 [shapeD a b c xs, memD ms, .agg [.int .u8 n0, .int .u8 n1]] (· = .bool true) := by
  refine vcall_V F8_ok (cDr_ok _ _ _) rfl (V8_ok _ _ _ _) ?_
  unfold V8
  have hAt : AllOne (.agg [.int .u8 n0, .int .u8 n1]) := fun x hx => by simp [D.cells] at hx; rcases hx with rfl | rfl <;> rfl
  rw [g_box]
  refine ⟨shape_vd.2, fun m0 t0 => ?_⟩
  rw [g_box]
  refine ⟨hAt, fun m1 t1 => ?_⟩
  have n01 : m0 ≠ m1 := t1.ne (by simp)
  obtain ⟨hA, eA⟩ : ∃ hA, hA = upd (upd noHeap m0 (.box (shapeD a b c xs))) m1 (.box (.agg [.int .u8 n0, .int .u8 n1])) := ⟨_, rfl⟩
  rw [← eA]
  have a0 : hA m0 = .box (shapeD a b c xs) := by rw [eA, upd_other _ _ n01, upd_self]
  have a1 : hA m1 = .box (.agg [.int .u8 n0, .int .u8 n1]) := by rw [eA, upd_self]
  clear eA
  refine a_call c9 (fun d hd => by cases hd) ?_
  rintro _ rfl
  rw [v_not, Bool.not_true, v_cond_f]
  simp only [mem_len, ↓v_gtr]
  by_cases hl : 20 < ms.length
  · have hl' : (20 : Int) < (ms.length : Int) := by omega
    simp only [hl', decide_true, v_cond_t, vret_bool]
  have hl' : ¬ (20 : Int) < (ms.length : Int) := by omega
  simp only [hl', decide_false, v_cond_f, ↓g_ld, a0, shape_cells, ↓v_parta, List.drop_zero, List.take_succ_cons, List.take_zero, true_and]
  refine ⟨by simp, ?_⟩
  refine a_call (c10t (a := a) (b := b) (c := c) (xs := xs) hb255 hx) (fun d hd => by simp only [List.mem_cons, List.not_mem_nil, or_false] at hd; subst hd; exact shape_vd) ?_
  rintro _ ⟨t, w, n, arr, rfl, -, -, -, -, -, -, -, aL, hA1, h8, hbd⟩
  have hbd := hbd hxr
  have hfld : ∀ (h : Heap) (K : D → Heap → Prop), vhOp Tryd.prog (.fld (.c (codeD t w n arr)) 5 1 false) h K = K arr h := fun _ _ => rfl
  rw [hfld]
  clear hfld a0 hx hxr hb255
  refine ⟨fun _ _ => True, ?_, ?_⟩
  · rintro _ _ -; rw [vret_bool]
  unfold V8_L0
  refine ⟨fun k l h' => ∃ j : Nat, l = [.int .i64 j] ∧ k + j = 5 ∧ h' m1 = .box (.agg [.int .u8 n0, .int .u8 n1]), 5, ⟨0, rfl, rfl, a1⟩, ?_⟩
  rintro k f hS ⟨j, hf, hkj, b1⟩
  simp only [List.cons.injEq, and_true] at hf
  rw [hf]
  by_cases hj : j ≤ 4
  case neg =>
    have hj' : ¬ (j : Int) ≤ 4 := by omega
    simp only [↓v_leq, hj', decide_false, v_cond_f, keq_self, true_and]
  have hj' : (j : Int) ≤ 4 := by omega
  have w1 : IntKind.i64.wrap ((j : Int) + 1) = ((j + 1 : Nat) : Int) := by rw [wrap64 (by omega) (by omega)]; rfl
  have harr := isArrs_vd hA1
  have hav : arr.vd = true ∧ AllOne arr := ⟨vone_vd harr.1, fun x hx => by rw [vone_cells harr.1] at hx; simp at hx; subst hx; exact harr.2⟩
  have v2 : ∀ (d : D), d ∈ [arr, .int .i64 j] → d.vd = true ∧ AllOne d := fun d hd => by
    simp only [List.mem_cons, List.not_mem_nil, or_false] at hd
    rcases hd with rfl | rfl
    · exact hav
    · exact ⟨rfl, by simp⟩
  have v3 : ∀ (Z : List (List Int)) (d : D), d ∈ [arr, .int .i64 j, memD Z] → d.vd = true ∧ AllOne d := fun Z d hd => by
    simp only [List.mem_cons, List.not_mem_nil, or_false] at hd
    rcases hd with rfl | rfl | rfl
    · exact hav
    · exact ⟨rfl, by simp⟩
    · exact mem_vd _
  obtain ⟨Z, eZ⟩ : ∃ Z, Z = zW j aL := ⟨_, rfl⟩
  have hZl : Z.length = aL.length := by rw [eZ, zW_len]
  have hZw : ∀ w, w ∈ Z → w.length ≤ 15 := fun w hw => by
    rw [eZ] at hw
    simp only [zW, List.mem_map] at hw
    obtain ⟨a, ha, rfl⟩ := hw
    rw [List.length_replicate]
    exact (sz_bd (hbd a ha)).2
  have hZf : fitsB j aL Z = true := by rw [eZ]; exact fits_zW hbd
  simp only [↓v_leq, hj', decide_true, v_cond_t]
  refine ⟨fun _ h' => h' m1 = .box (.agg [.int .u8 n0, .int .u8 n1]), ?_, ?_⟩
  · rintro _ h' hb1
    simp only [↓v_add, w1, keq_self, true_and]
    exact ⟨k - 1, by omega, j + 1, rfl, by omega, hb1⟩
  refine a_call (c24 hA1 h8 hbd j) v2 ?_
  rintro _ rfl
  refine a_call (c26 hA1 h8 hbd j) v2 ?_
  rintro _ rfl
  rw [← eZ]
  refine a_call (c25 Z (by omega) (fun w hw => by have := hZw w hw; omega)) (fun d hd => by simp at hd; subst hd; exact mem_vd _) ?_
  rintro _ rfl
  simp only [↓v_not, Bool.not_true, ↓v_guard, ne_eq, not_true_eq_false, false_implies, and_true, true_implies]
  refine a_call (c27A hA1 h8 Z j) (v3 Z) ?_
  rintro _ rfl
  rw [hZf]
  simp only [↓v_not, Bool.not_true, ↓h_pick, Bool.false_eq_true, if_false, ↓v_guard, ne_eq, not_true_eq_false, false_implies, and_true, true_implies]
  refine a_call (c27A hA1 h8 ms j) (v3 ms) ?_
  rintro _ rfl
  refine a_call (c28 hA1 h8 ms (by omega) j) (v3 ms) ?_
  rintro _ rfl
  rw [eqvb]
  have hbe : (!(fitsB j aL ms == fitsB j aL ms)) = false := by simp
  rw [hbe]
  simp only [↓h_pick, Bool.false_eq_true, if_false, v_cond_f]
  refine a29 (by omega) (fun w hw => by have := hZw w hw; omega) fun M els h1 hext hC hMf hkf => ?_
  have c1 : h1 m1 = .box (.agg [.int .u8 n0, .int .u8 n1]) := by rw [hext m1 (by rw [b1]; simp), b1]
  simp only [↓v_lenms, hC.row, Slot.live, true_and, ↓v_eql]
  by_cases hz0 : Z.length = 0
  · have hz0' : (Z.length : Int) = 0 := by omega
    simp only [hz0', decide_true, v_cond_t, keq_self, true_and]
    exact c1
  have hz0' : ¬ (Z.length : Int) = 0 := by omega
  simp only [hz0', decide_false, v_cond_f]
  simp only [↓h_iaddap, c1, Slot.live, true_and, ↓g_ld, cells_agg]
  refine ⟨by omega, by omega, ?_⟩
  have wn0 : IntKind.i64.wrap (n0 : Int) = (n0 : Int) := wrap64n (by omega)
  simp only [↓v_part1, Int.toNat_zero, Nat.zero_mul, Nat.add_zero, List.getElem?_cons_zero, ↓h_conv, wn0, hC.row, Slot.live, true_and, ↓v_rem]
  refine ⟨by omega, ?_⟩
  rw [tmodn]
  obtain ⟨q, hq⟩ : ∃ q, q = n0 % Z.length := ⟨_, rfl⟩
  have hqZ : q < Z.length := by rw [hq]; exact Nat.mod_lt _ (by omega)
  rw [← hq]
  obtain ⟨kk, w, e1, e2, e3, e4⟩ := hC.el q hqZ
  have hw15 := hZw w (List.mem_of_getElem? e2)
  rw [d_iaddms hC.row hqZ, d_ldms hC.row e1 rfl, ia8 c1 (by omega) (by omega), ld8 c1 (d := .int .u8 n1) rfl]
  simp only [↓d_conv, ↓h_conv]
  obtain ⟨x, hx⟩ : ∃ x, x = IntKind.i32.wrap (n1 : Int) := ⟨_, rfl⟩
  rw [← hx]
  refine d_bld1 (by simp) rfl (fun y hy => by simp at hy; subst hy; rfl) (fun y hy => by simp at hy; subst hy; rfl) ?_
  rw [d_iaddms hC.row hqZ]
  have hwl : D.ms kk 0 w.length = .ms kk 0 (wrow w).length := by rw [wrow_len]
  rw [hwl]
  refine g_appsls e3 (fun y hy => by simp at hy; subst hy; exact ⟨rfl, by simp⟩) (by rw [wrow_len]; simp; omega) (by rw [wrow_len]; simp; omega) fun n2 h2 p1 p2 p3 => ?_
  have p2' : h2 n2 = .arr 1 (wrow (w ++ [x])) := by rw [p2]; simp [wrow]
  have hM2 : h2 M = .arr 1 els := by rw [p3 M (by rw [hC.row]; simp) e4.symm, hC.row]
  rw [d_iaddms hM2 hqZ]
  refine ⟨by rw [keq_self]; trivial, ?_⟩
  rw [g_st]
  simp only [hM2]
  have hel := hC.len
  refine ⟨rfl, by simp, by omega, by omega, fun d hd => ?_⟩
  rw [e1] at hd
  cases hd
  have hlen3 : (wrow w).length + [D.int .i32 x].length = (w ++ [x]).length := by rw [wrow_len]; simp
  have hset : setCells (D.ms kk 0 w.length) 0 (D.ms n2 0 ((wrow w).length + [D.int .i32 x].length)).cells = .ms n2 0 (w ++ [x]).length := by rw [hlen3]; rfl
  rw [hset]
  obtain ⟨els3, eE⟩ : ∃ els3, els3 = els.set q (.ms n2 0 (w ++ [x]).length) := ⟨_, rfl⟩
  rw [← eE]
  have hM3 : (upd h2 M (.arr 1 els3)) M = .arr 1 els3 := upd_self _ _ _
  rw [d_iaddms hM3 hqZ]
  refine ⟨by rw [keq_self]; trivial, ?_⟩
  have hl3 : els3.length = Z.length := by rw [eE, List.length_set, hel]
  have n2M : n2 ≠ M := by rintro rfl; rw [hC.row] at p1; cases p1
  have hR3 : RowsAre (upd h2 M (.arr 1 els3)) M els3 ((Z.set q (w ++ [x])).map li32) := by
    refine ⟨by rw [hl3, List.length_map, List.length_set], fun i e hi => Or.inr ?_⟩
    have hil := (List.getElem?_eq_some_iff.1 hi).1
    by_cases hiq : i = q
    · subst hiq
      rw [eE, List.getElem?_set_self (by omega)] at hi
      cases hi
      exact ⟨n2, w ++ [x], rfl, by rw [upd_other _ _ n2M]; exact p2', n2M, by rw [List.getElem?_map, List.getElem?_set_self hqZ]; rfl⟩
    · rw [eE, List.getElem?_set_ne (Ne.symm hiq)] at hi
      obtain ⟨k', w', u1, u2, u3, u4⟩ := hC.el i (by omega)
      rw [hi] at u1; cases u1
      have hkk : k' ≠ kk := by
        rintro rfl
        exact hiq (hC.inj i q k' _ _ hi e1)
      exact ⟨k', w', rfl, by rw [upd_other _ _ u4, p3 k' (by rw [u3]; simp) hkk, u3], u4, by rw [List.getElem?_map, List.getElem?_set_ne (Ne.symm hiq), u2]; rfl⟩
  have hbad3 : fitsB j aL (Z.set q (w ++ [x])) = false := by
    refine fits_bad (k := q) (w := w ++ [x]) (by rw [List.getElem?_set_self hqZ]) fun a' ha' => ?_
    have := (fitsB_iff hZl.symm).1 hZf q a' w ha' e2
    rw [this]; simp; omega
  have hv3 := c27A hA1 h8 (Z.set q (w ++ [x])) j
  rw [hbad3] at hv3
  have c3 : (upd h2 M (.arr 1 els3)) m1 = .box (.agg [.int .u8 n0, .int .u8 n1]) := by
    have h1' : m1 ≠ M := by rintro rfl; rw [hC.row] at c1; cases c1
    have h2' : m1 ≠ kk := by rintro rfl; rw [e3] at c1; cases c1
    rw [upd_other _ _ h1', p3 m1 (by rw [c1]; simp) h2', c1]
  have hms3 : D.ms M 0 Z.length = .ms M 0 els3.length := by rw [hl3]
  rw [hms3]
  refine a27deep hM3 hR3 (li_vone _) hv3 v2 fun h4 hbox4 => ?_
  have c4 := hbox4 _ _ c3
  clear hM3 hR3 hv3 c3 hms3 hM2 p1 p2 p3 p2' hext hC hMf hkf c1
  simp only [↓v_guard, ne_eq, not_true_eq_false, false_implies, and_true, true_implies]
  have hmemD : memD Z = .sl (Z.map li32) := rfl
  rw [hmemD]
  simp only [↓h_slcsl, ↓vopt_none, ↓vopt_some, List.length_map]
  refine ⟨by omega, by omega, by omega, by omega, fun d hd => ?_, ?_⟩
  · simp only [List.mem_map] at hd
    obtain ⟨z, -, rfl⟩ := hd
    rfl
  refine a_call (c27len hA1 (ys := List.take ((Z.length : Int) - 1).toNat (List.drop (1 : Int).toNat (Z.map li32))) (by simp; omega) j) (fun d hd => ?_) ?_
  · simp only [List.mem_cons, List.not_mem_nil, or_false] at hd
    rcases hd with rfl | rfl | rfl
    · exact hav
    · exact ⟨rfl, by simp⟩
    · exact ⟨rfl, by simp⟩
  rintro _ rfl
  simp only [↓h_pick, Bool.false_eq_true, if_false, ↓v_guard, ne_eq, not_true_eq_false, false_implies, and_true, true_implies]
  rw [← hmemD]
  refine a29 (by omega) (fun w hw => by have := hZw w hw; omega) fun M2 els2 h5 hext hC hMf hkf => ?_
  have c5 : h5 m1 = .box (.agg [.int .u8 n0, .int .u8 n1]) := by rw [hext m1 (by rw [c4]; simp), c4]
  have hl5 : D.ms M2 0 Z.length = .ms M2 0 els2.length := by rw [hC.len]
  rw [hl5]
  have hl6 := hC.len
  refine g_appendms hC.row rfl (by simp) rfl (by omega) (by omega) fun M3 h6 p1 p2 p3 => ?_
  have hlen6 : els2.length + 1 = (els2 ++ [D.nil]).length := by simp
  rw [hlen6]
  have hR6 : RowsAre h6 M3 (els2 ++ [D.nil]) (Z.map li32 ++ [D.nil]) := by
    refine ⟨by simp [hl6], fun i e hi => ?_⟩
    rcases Nat.lt_or_ge i Z.length with h | h
    · rw [List.getElem?_append_left (by omega)] at hi
      obtain ⟨k', w', u1, u2, u3, u4⟩ := hC.el i h
      rw [hi] at u1; cases u1
      refine Or.inr ⟨k', w', rfl, by rw [p3 k' (by rw [u3]; simp) u4, u3], ?_, by rw [List.getElem?_append_left (by rw [List.length_map]; exact h), List.getElem?_map, u2]; rfl⟩
      rintro rfl
      rw [u3] at p1; cases p1
    · have hil := (List.getElem?_eq_some_iff.1 hi).1
      simp only [List.length_append, List.length_cons, List.length_nil] at hil
      have hie : i = els2.length := by omega
      subst hie
      simp at hi
      exact Or.inl ⟨hi.symm, by rw [List.getElem?_append_right (by rw [List.length_map]; omega)]; simp [hl6]⟩
  have c6 : h6 m1 = .box (.agg [.int .u8 n0, .int .u8 n1]) := by
    have h1' : m1 ≠ M2 := by rintro rfl; rw [hC.row] at c5; cases c5
    rw [p3 m1 (by rw [c5]; simp) h1', c5]
  refine a27deep p2 hR6 (fun x hx => ?_) (c27len hA1 (by simp; omega) j) v2 fun h7 hbox7 => ?_
  · rcases List.mem_append.1 hx with hx | hx
    · exact li_vone _ x hx
    · simp only [List.mem_singleton] at hx
      subst hx
      intro y hy; simp at hy; subst hy; rfl
  simp only [↓h_pick, Bool.false_eq_true, if_false, v_cond_f, keq_self, true_and]
  exact hbox7 _ _ c6
end Go.Am
/- LaunchMemory, at every argument of its types. No condition. -/
namespace Go.Am
open Go Go.Proofs

theorem u70 : Tryd.prog.underlying 70 = some (.slice 25) := by kernel_rfl
theorem u71 : Tryd.prog.underlying 71 = some (.array 2 5) := by kernel_rfl
theorem cs71 : Tryd.prog.cellsOf 71 = 2 := by kernel_rfl
theorem mk25' (d : D) : mkElem Tryd.prog 25 [d] = d := mk_slice u25 d
set_option maxRecDepth 100000 in
theorem is_mem {m : Nat} {ds : List D} (h : HasTy Tryd.prog (m + 3) 70 ds) : ∃ ms : List (List Int), ds = [memD ms] ∧ ms.length ≤ 9223372036854775807 := by
  obtain ⟨xs, h1, h2, h3⟩ := hasTy_slice u70 h
  have : ∀ (xs : List (List D)), (∀ x, x ∈ xs → HasTy Tryd.prog (m + 2) 25 x) → ∃ ms : List (List Int), xs.map (mkElem Tryd.prog 25) = ms.map li32 ∧ ms.length = xs.length := by
    intro xs
    induction xs with
    | nil => intro _; exact ⟨[], rfl, rfl⟩
    | cons x r ih =>
      intro h
      obtain ⟨ms, e, l⟩ := ih fun y hy => h y (by simp [hy])
      obtain ⟨w, hw, -, -⟩ := is_words (h x (by simp))
      exact ⟨w :: ms, by rw [List.map_cons, List.map_cons, e, hw, mk25'], by simp [l]⟩
  obtain ⟨ms, e, l⟩ := this xs h3
  exact ⟨ms, by rw [h1, e]; rfl, by rw [l]; exact h2⟩
set_option maxRecDepth 100000 in
theorem is_pair8 {m : Nat} {cs : List D} (h : HasTy Tryd.prog (m + 2) 71 cs) : ∃ (p q : Nat), mkElem Tryd.prog 71 cs = .agg [.int .u8 p, .int .u8 q] ∧ p ≤ 255 ∧ q ≤ 255 := by
  obtain ⟨h1, h2⟩ := hasTy_array u71 h
  rw [cs71] at h1
  have q0 := h2 0 (by omega)
  have q1 := h2 1 (by omega)
  simp only [cs5] at q0 q1
  match cs, h1 with
  | [d0, d1], _ =>
    obtain ⟨p, hp, hp1⟩ := is_u8 q0
    obtain ⟨q, hq, hq1⟩ := is_u8 q1
    simp at hp hq
    subst hp hq
    exact ⟨p, q, mk_array u71 _, hp1, hq1⟩
theorem mk70 (d : D) : mkElem Tryd.prog 70 [d] = d := mk_slice u70 d
set_option maxRecDepth 100000 in
theorem law8H (xs : List D) (h : HasTys Tryd.prog 12 Tryd.f8.params.toList xs) : VCall Tryd.prog 8 xs (· = .bool true) := by
  have hp : Tryd.f8.params.toList = [24, 70, 71] := by kernel_rfl
  rw [hp] at h
  obtain ⟨c1, r1, rfl, h1, c2, r2, rfl, h2, c3, r3, rfl, h3, rfl⟩ := h
  obtain ⟨a, b, c, ys, e1, _, hb, _, hl, hr⟩ := is_shape h1
  obtain ⟨ms, rfl, hms⟩ := is_mem h2
  obtain ⟨p, q, e3, hp, hq⟩ := is_pair8 h3
  rw [e1, mk70, e3]
  exact law8 hb hl hr hms hp hq
end Go.Am
