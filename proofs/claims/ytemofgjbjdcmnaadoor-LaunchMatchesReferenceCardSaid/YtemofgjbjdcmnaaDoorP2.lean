/- What the functions of this chapter give, on plain data. No condition. -/
import Derived.Test.YtemofgjbjdcmnaaDoorP1
set_option linter.defProp false
set_option linter.unusedSectionVars false
set_option linter.unusedSimpArgs false
set_option linter.unusedVariables false
/- LaunchMatchesReference: the numbers of an item. No condition. -/
namespace Go.Am
open Go Go.Proofs

theorem c33 {t w n g : Nat} {arr : D} (ha : arr.vone = true ∧ arr.one = true) (ht : 1 ≤ t) (hg : g ≤ 1000000000) :
    VCall Tryd.prog 33 [codeD t w n arr, .int .i64 g] (· = .tup [.int .i64 (g / t : Nat), .int .i64 (g % t : Nat)]) := by
  refine vcall_V F33_ok (cDr_ok _ _ _) rfl (V33_ok _ _ _) ?_
  unfold V33
  rw [g_box]
  refine ⟨(code_vd ha).2, fun m0 t0 => ?_⟩
  simp only [↓d_faddp, upd_self, ↓d_ld, ↓g_ld, code_cells, v_part1, Nat.zero_add, List.getElem?_cons_zero]
  simp [↓amR]
  refine ⟨by omega, ?_⟩
  have hle : g / t ≤ g := Nat.div_le_self g t
  rw [tmodn, ← Int.natCast_ediv, ← Int.natCast_emod]
  generalize g / t = q at *
  generalize g % t = r at *
  rw [wrap64 (by omega) (by omega)]
  exact vret_tup (by simp [↓amR]) rfl

theorem c32o {t w n b g : Nat} {k : Int} {arr l : D} (ha : arr.vone = true ∧ arr.one = true) (hl : l.vone = true ∧ l.one = true) (ht : 1 ≤ t) (ht2 : t ≤ 10000) (hb : b ≤ 10000) (hg : g < b * t) (hk : k < 1 ∨ 7 < k) :
    VCall Tryd.prog 32 [codeD t w n arr, launchD b l, .int .i64 g, .int .i64 k] (· = .tup [.int .i32 0, .int .i64 1]) := by
  refine vcall_V F32_ok (cDr_ok _ _ _) rfl (V32_ok _ _ _ _ _) ?_
  unfold V32
  rw [g_box]
  refine ⟨(code_vd ha).2, fun m0 t0 => ?_⟩
  rw [g_box]
  refine ⟨(launch_vd hl).2, fun m1 t1 => ?_⟩
  have hne : m0 ≠ m1 := t1.ne (by simp [↓amR])
  have hbt : b * t ≤ 100000000 := Nat.le_trans (Nat.mul_le_mul hb ht2) (by decide)
  have hw64 : IntKind.i64.wrap ((b : Int) * (t : Int)) = ((b * t : Nat) : Int) := by
    rw [← Int.natCast_mul, wrap64 (by omega) (by omega)]
  simp only [↓h_faddp, upd_self, upd_other _ _ hne, Slot.live, true_and, ↓g_ld, launch_cells, code_cells]
  simp only [v_part1, List.getElem?_cons_zero, List.getElem?_cons_succ]
  have g0 : ¬ ((g : Int) < 0) := by omega
  have g1 : ¬ (((b * t : Nat) : Int) ≤ (g : Int)) := by omega
  have g2 : (g : Int) < ((b * t : Nat) : Int) := by omega
  generalize hT : b * t = tot at *
  simp [↓amR, g0, hw64, g1]
  have hm0 : upd (upd noHeap m0 (.box (codeD t w n arr))) m1 (.box (launchD b l)) m0 = .box (codeD t w n arr) := by rw [upd_other _ _ hne, upd_self]
  simp only [hm0, code_cells, List.length_cons, List.length_nil, List.take_succ_cons, List.take_zero]
  refine ⟨by omega, ?_⟩
  refine a_call (c16 (t := t) (w := w) (n := n) (g := g) ha ht (by omega)) (fun d hd => ?_) ?_
  · simp only [List.mem_cons, List.not_mem_nil, or_false] at hd
    rcases hd with rfl | rfl
    · exact code_vd ha
    · exact ⟨rfl, by simp [↓amR]⟩
  rintro r rfl
  simp only [h_ext, List.getElem?_cons_zero, List.getElem?_cons_succ]
  refine ⟨fun _ _ => False, fun _ _ h => h.elim, ?_⟩
  have k1 : ¬ k = 1 := by omega
  have k2 : ¬ k = 2 := by omega
  have k3 : ¬ k = 3 := by omega
  have k4 : ¬ k = 4 := by omega
  have k5 : ¬ k = 5 := by omega
  have k6 : ¬ k = 6 := by omega
  have k7 : ¬ k = 7 := by omega
  simp [k1, k2, k3, k4, k5, k6, k7]
  exact vret_tup (by simp [↓amR]) rfl

/-- What Id answers. -/
def idBad (t b : Nat) (item op : Int) : Prop := op < 1 ∨ 7 < op ∨ item < 0 ∨ ((b * t : Nat) : Int) ≤ item
instance (t b : Nat) (item op : Int) : Decidable (idBad t b item op) := by unfold idBad; infer_instance
def idR (t w b : Nat) (item op : Int) : D := if idBad t b item op then .agg [.int .i32 0, .int .i64 1] else .agg [.int .i32 (idV t w b item.toNat op.toNat), .int .i64 0]
theorem c14a {t w n b : Nat} {item op : Int} {arr l : D} (ha : arr.vone = true ∧ arr.one = true) (hl : l.vone = true ∧ l.one = true) (ht : 1 ≤ t) (ht2 : t ≤ 10000) (hw : 1 ≤ w) (hb : b ≤ 10000) :
    VCall Tryd.prog 14 [codeD t w n arr, launchD b l, .agg [.int .i64 item, .int .i64 op]] (· = idR t w b item op) := by
  unfold idR
  by_cases h1 : item < 0 ∨ ((b * t : Nat) : Int) ≤ item
  · rw [if_pos (show idBad t b item op from h1.elim (fun h => Or.inr (Or.inr (Or.inl h))) (fun h => Or.inr (Or.inr (Or.inr h))))]
    exact c14e ha hl ht2 hb h1
  · have h2 : 0 ≤ item ∧ item < ((b * t : Nat) : Int) := by
      generalize b * t = z at *
      omega
    obtain ⟨g, rfl⟩ : ∃ g : Nat, item = g := ⟨item.toNat, by omega⟩
    have hg : g < b * t := by
      generalize b * t = z at *
      omega
    by_cases h3 : op < 1 ∨ 7 < op
    · rw [if_pos (show idBad t b g op from h3.elim Or.inl (fun h => Or.inr (Or.inl h)))]
      exact c14 rfl rfl rfl rfl (code_vd ha) (launch_vd hl) (c32o ha hl ht ht2 hb hg h3)
    · have hb2 : ¬ idBad t b g op := by
        unfold idBad
        rintro (h | h | h | h)
        · exact h3 (Or.inl h)
        · exact h3 (Or.inr h)
        · omega
        · exact h1 (Or.inr h)
      rw [if_neg hb2]
      obtain ⟨k, rfl⟩ : ∃ k : Nat, op = k := ⟨op.toNat, by omega⟩
      rw [Int.toNat_natCast, Int.toNat_natCast]
      exact c14k ha hl ht ht2 hw hb hg (by omega) (by omega)

theorem c15 {t w n b : Nat} {item op : Int} {arr l : D} (ha : arr.vone = true ∧ arr.one = true) (hl : l.vone = true ∧ l.one = true) (ht : 1 ≤ t) (ht2 : t ≤ 10000) (hw : 1 ≤ w) (hb : b ≤ 10000) :
    VCall Tryd.prog 15 [codeD t w n arr, launchD b l, .int .i64 item, .int .i64 op] (· = idR t w b item op) := by
  refine vcall_V F15_ok (cDr_ok _ _ _) rfl (V15_ok _ _ _ _ _) ?_
  unfold V15
  rw [g_box]
  refine ⟨(code_vd ha).2, fun m0 t0 => ?_⟩
  rw [g_box]
  refine ⟨(launch_vd hl).2, fun m1 t1 => ?_⟩
  rw [g_alloc]
  intro m2 t2
  have n01 : m0 ≠ m1 := t1.ne (by simp)
  have n02 : m0 ≠ m2 := t2.ne (by simp [upd_other _ _ n01])
  have n12 : m1 ≠ m2 := t2.ne (by simp)
  obtain ⟨hA, eA⟩ : ∃ hA, hA = upd (upd (upd noHeap m0 (.box (codeD t w n arr))) m1 (.box (launchD b l))) m2 (.box (.agg [.int .i32 0, .int .i64 0])) := ⟨_, rfl⟩
  rw [← eA]
  have a0 : hA m0 = .box (codeD t w n arr) := by rw [eA, upd_other _ _ n02, upd_other _ _ n01, upd_self]
  have a1 : hA m1 = .box (launchD b l) := by rw [eA, upd_other _ _ n12, upd_self]
  have a2 : hA m2 = .box (.agg [.int .i32 0, .int .i64 0]) := by rw [eA, upd_self]
  have hbt : b * t ≤ 100000000 := Nat.le_trans (Nat.mul_le_mul hb ht2) (by decide)
  have hw64 : IntKind.i64.wrap ((b : Int) * (t : Int)) = ((b * t : Nat) : Int) := by
    rw [← Int.natCast_mul, wrap64 (by omega) (by omega)]
  have tail : idBad t b item op → vhOp Tryd.prog (.bld [.int .i32 0, .int .i64 0] [(1, 1, .c (.int .i64 1))]) hA fun a63 h64 =>
      vhOp Tryd.prog (.st (.c (.ptr m2 0 0)) (.c a63) 2) h64 fun a65 h66 =>
      vhOp Tryd.prog (.ld (.c (.ptr m2 0 0)) 2 true) h66 fun a67 _ => vret (· = idR t w b item op) a67 h66 := by
    intro hb
    have hD : idR t w b item op = .agg [.int .i32 0, .int .i64 1] := if_pos hb
    rw [hD]
    have hf : fillD [D.int .i32 0, D.int .i64 0] [(1, 1, [D.int .i64 1])] = [.int .i32 0, .int .i64 1] := rfl
    simp [↓amR, a2, hf]
    refine ⟨fun p hp => ?_, vret_vd ⟨rfl, fun x hx => ?_⟩ rfl⟩
    · simp only [List.mem_cons, List.not_mem_nil, or_false] at hp
      subst hp; simp
    · simp [D.cells] at hx; rcases hx with rfl | rfl <;> rfl
  by_cases h1 : op < 1
  · simp only [↓v_lss, h1, decide_true, ↓v_guard, ne_eq, Bool.true_eq_false, false_implies, true_and, not_false_eq_true, true_implies, ↓h_pick, if_true, v_cond_t]
    exact tail (Or.inl h1)
  by_cases h2 : 7 < op
  · simp only [↓v_lss, ↓v_gtr, h1, h2, decide_true, decide_false, ↓v_guard, ne_eq, Bool.true_eq_false, not_true_eq_false, Bool.false_eq_true, and_true, false_implies, true_and, not_false_eq_true, true_implies, ↓h_pick, if_true, if_false, v_cond_t]
    exact tail (Or.inr (Or.inl h2))
  by_cases h3 : item < 0
  · simp only [↓v_lss, ↓v_gtr, h1, h2, h3, decide_true, decide_false, ↓v_guard, ne_eq, Bool.true_eq_false, not_true_eq_false, Bool.false_eq_true, and_true, false_implies, true_and, not_false_eq_true, true_implies, ↓h_pick, if_true, if_false, v_cond_t]
    exact tail (Or.inr (Or.inr (Or.inl h3)))
  by_cases h4 : ((b * t : Nat) : Int) ≤ item
  · simp only [↓v_lss, ↓v_gtr, h1, h2, h3, decide_true, decide_false, ↓v_guard, ne_eq, Bool.true_eq_false, not_true_eq_false, Bool.false_eq_true, and_true, false_implies, true_and, not_false_eq_true, true_implies, ↓h_pick, if_true, if_false, ↓g_fadd, ↓g_ld, a0, a1, Slot.live, code_cells, launch_cells, ↓v_part1, List.getElem?_cons_zero, Nat.zero_add, ↓v_mul, hw64, ↓v_geq, h4, v_cond_t]
    have T := tail (Or.inr (Or.inr (Or.inr h4)))
    simp only [↓g_ld, true_and] at T
    exact T
  have hgood : ¬ idBad t b item op := by
    unfold idBad
    rintro (h | h | h | h)
    · exact h1 h
    · exact h2 h
    · exact h3 h
    · exact h4 h
  have hD : idR t w b item op = .agg [.int .i32 (idV t w b item.toNat op.toNat), .int .i64 0] := if_neg hgood
  rw [hD]
  simp only [↓v_lss, ↓v_gtr, h1, h2, h3, decide_true, decide_false, ↓v_guard, ne_eq, Bool.true_eq_false, not_true_eq_false, Bool.false_eq_true, and_true, false_implies, true_and, not_false_eq_true, true_implies, ↓h_pick, if_true, if_false, ↓g_fadd, ↓g_ld, a0, a1, Slot.live, code_cells, launch_cells, ↓v_part1, List.getElem?_cons_zero, Nat.zero_add, ↓v_mul, hw64, ↓v_geq, h4, v_cond_f, ↓v_parta, List.drop_zero, List.take_succ_cons, List.take_zero]
  refine ⟨by simp, ?_⟩
  obtain ⟨g, rfl⟩ : ∃ g : Nat, item = g := ⟨item.toNat, by omega⟩
  obtain ⟨k, rfl⟩ : ∃ k : Nat, op = k := ⟨op.toNat, by omega⟩
  rw [Int.toNat_natCast, Int.toNat_natCast]
  have hg : g < b * t := by
    generalize b * t = z at *
    omega
  refine a_call (c33 (t := t) (w := w) (n := n) (g := g) ha ht (by omega)) (fun d hd => ?_) ?_
  · simp only [List.mem_cons, List.not_mem_nil, or_false] at hd
    rcases hd with rfl | rfl
    · exact code_vd ha
    · exact ⟨rfl, by simp⟩
  rintro r rfl
  simp only [h_ext, List.getElem?_cons_zero, List.getElem?_cons_succ, ↓d_faddp, a0, a1, ↓d_ld, ↓g_ld, code_cells, launch_cells, ↓v_part1, Nat.zero_add, true_and, ↓v_mul, hw64, ↓v_rem, ↓v_quo]
  have h1' : g % t ≤ t := Nat.le_of_lt (Nat.mod_lt g ht)
  have h3' : g % t % w ≤ g % t := Nat.mod_le _ _
  have h4' : g % t / w ≤ g % t := Nat.div_le_self _ _
  have h5' : g / t ≤ g := Nat.div_le_self g t
  have hi : idV t w b g k ≤ 100000000 := by
    unfold idV
    split <;> omega
  rw [tmodn, tdivn, wrap64n (by omega)]
  have hk : k = 1 ∨ k = 2 ∨ k = 3 ∨ k = 4 ∨ k = 5 ∨ k = 6 ∨ k = 7 := by omega
  refine ⟨⟨_, rfl⟩, ⟨_, rfl⟩, ⟨_, rfl⟩, ⟨_, rfl⟩, by omega, ⟨_, rfl⟩, by omega, ?_, ?_, ?_, ?_⟩
  · intro p hp
    simp [Arg.get] at hp
    rcases hp with rfl | rfl | rfl | rfl | rfl | rfl | rfl | rfl <;> simp
  · intro p hp
    simp [Arg.get] at hp
    rcases hp with rfl | rfl | rfl | rfl | rfl | rfl | rfl | rfl <;> simp
  · intro y hy; simp at hy; subst hy; rfl
  have hs : setEls (List.replicate 8 (D.int .i64 0)) ([(0, Arg.c (D.int .i64 0)), (1, Arg.c (D.int .i64 g)), (2, Arg.c (D.int .i64 (g % t : Nat))), (3, Arg.c (D.int .i64 (g / t : Nat))), (4, Arg.c (D.int .i64 (b * t : Nat))), (5, Arg.c (D.int .i64 t)), (6, Arg.c (D.int .i64 (g % t % w : Nat))), (7, Arg.c (D.int .i64 (g % t / w : Nat)))].map fun p => (p.1, p.2.get [])) =
    [D.int .i64 0, .int .i64 g, .int .i64 (g % t : Nat), .int .i64 (g / t : Nat), .int .i64 (b * t : Nat), .int .i64 t, .int .i64 (g % t % w : Nat), .int .i64 (g % t / w : Nat)] := rfl
  rw [hs]
  dsimp only
  rw [h_iadd]
  refine ⟨by omega, by simp only [List.length_cons, List.length_nil]; omega, fun d hd => ?_⟩
  have hdv : d = .int .i64 (idV t w b g k : Nat) := by
    rw [Int.toNat_natCast] at hd
    rcases hk with rfl | rfl | rfl | rfl | rfl | rfl | rfl <;> (simp at hd; rw [← hd]; simp [idV])
  subst hdv
  refine ⟨rfl, ?_⟩
  generalize idV t w b g k = z at *
  have hf : fillD [D.int .i32 0, D.int .i64 0] [(0, 1, [D.int .i32 z])] = [.int .i32 z, .int .i64 0] := rfl
  simp only [↓h_ldv, cells_int, ↓v_part1, List.getElem?_cons_zero, ↓h_conv]
  rw [wrap32 (by omega) (by omega)]
  simp [↓amR, a2, hf]
  refine ⟨fun p hp => ?_, vret_vd ⟨rfl, fun x hx => ?_⟩ rfl⟩
  · simp only [List.mem_cons, List.not_mem_nil, or_false] at hp
    subst hp; simp
  · simp [D.cells] at hx; rcases hx with rfl | rfl <;> rfl
end Go.Am
/- LaunchMatchesReference. No condition. -/
namespace Go.Am
open Go Go.Proofs

theorem iandm {a : Int} (j : Nat) (hj : j ≤ 62) : ibits .and .i64 a ((2 ^ j - 1 : Nat) : Int) = a % ((2 ^ j : Nat) : Int) := by
  have hp : (2 : Nat) ^ j ≤ 2 ^ 62 := Nat.pow_le_pow_right (by omega) hj
  rw [show (2 : Nat) ^ 62 = 4611686018427387904 by decide] at hp
  have hpos := Nat.two_pow_pos j
  have e1 : (BitVec.ofInt 64 ((2 ^ j - 1 : Nat) : Int)).toNat = 2 ^ j - 1 := by
    rw [BitVec.ofInt_natCast, BitVec.toNat_ofNat]; exact Nat.mod_eq_of_lt (by omega)
  show IntKind.i64.wrap ((BitVec.ofInt 64 a &&& BitVec.ofInt 64 ((2 ^ j - 1 : Nat) : Int)).toNat : Int) = _
  rw [BitVec.toNat_and, BitVec.toNat_ofInt, e1, Nat.and_two_pow_sub_one_eq_mod]
  have hd : ((2 ^ j : Nat) : Int) ∣ ((2 ^ 64 : Nat) : Int) := by
    refine ⟨((2 ^ (64 - j) : Nat) : Int), ?_⟩
    rw [← Int.natCast_mul, ← Nat.pow_add]; congr 2; omega
  have e2 : (((a % ((2 ^ 64 : Nat) : Int)).toNat % 2 ^ j : Nat) : Int) = a % ((2 ^ j : Nat) : Int) := by
    rw [Int.natCast_emod, Int.toNat_of_nonneg (Int.emod_nonneg _ (by decide)), Int.emod_emod_of_dvd _ hd]
  have m1 : 0 ≤ a % ((2 ^ j : Nat) : Int) := Int.emod_nonneg _ (by omega)
  have m2 : a % ((2 ^ j : Nat) : Int) < ((2 ^ j : Nat) : Int) := Int.emod_lt_of_pos _ (by omega)
  rw [e2, wrap64 (by omega) (by omega)]

theorem ldC {P : Program} {h : Heap} {m s : Nat} {cs : List D} (hm : h m = .box (.agg cs)) (hs : cs.length = s) {K : D → Prop} : vdOp P (.ld (.c (.ptr m 0 0)) s true) h K = K (.agg cs) := by
  rw [d_ld, g_ld]
  simp only [hm, cells_agg, ↓v_parta, List.drop_zero, true_and, List.take_of_length_le (Nat.le_of_eq hs)]
  rw [eq_true (show 0 + s ≤ cs.length by omega), true_and]
theorem ldC' {P : Program} {h : Heap} {m s : Nat} {cs : List D} (hm : h m = .box (.agg cs)) (hs : cs.length = s) {K : D → Heap → Prop} : vhOp P (.ld (.c (.ptr m 0 0)) s true) h K = K (.agg cs) h := by
  rw [g_ld]
  simp only [hm, cells_agg, ↓v_parta, List.drop_zero, true_and, List.take_of_length_le (Nat.le_of_eq hs)]
  rw [eq_true (show 0 + s ≤ cs.length by omega), true_and]
theorem d_iaddap {P : Program} {h : Heap} {m l : Nat} {a : Int} {v : D} (hm : h m = .box v) (h0 : 0 ≤ a) (h1 : a < (l : Int)) {K : D → Prop} : vdOp P (.iadda (.c (.ptr m 0 0)) (.c (.int .i64 a)) l 1) h K = K (.ptr m 0 a.toNat) := by
  rw [d_iadda, h_iaddap, hm]
  simp [Slot.live, h0, h1]
theorem d_ld1 {P : Program} {h : Heap} {m j : Nat} {v d : D} (hm : h m = .box v) (hd : v.cells[j]? = some d) {K : D → Prop} : vdOp P (.ld (.c (.ptr m 0 j)) 1 false) h K = K d := by
  rw [d_ld, g_ld]
  simp only [hm, v_part1, hd, true_and]

theorem d_call2 {P : Program} {f : FuncId} {d1 d2 r : D} {h : Heap} {K : D → Prop} (hv : VCall P f [d1, d2] (· = r)) (hds : ∀ d, d ∈ [d1, d2] → d.vd = true ∧ AllOne d) (hk : K r) : vdOp P (.call f [.c d1, .c d2]) h K := d_call hv hds hk
theorem d_call3 {P : Program} {f : FuncId} {d1 d2 d3 r : D} {h : Heap} {K : D → Prop} (hv : VCall P f [d1, d2, d3] (· = r)) (hds : ∀ d, d ∈ [d1, d2, d3] → d.vd = true ∧ AllOne d) (hk : K r) : vdOp P (.call f [.c d1, .c d2, .c d3]) h K := d_call hv hds hk
theorem d_call4 {P : Program} {f : FuncId} {d1 d2 d3 d4 r : D} {h : Heap} {K : D → Prop} (hv : VCall P f [d1, d2, d3, d4] (· = r)) (hds : ∀ d, d ∈ [d1, d2, d3, d4] → d.vd = true ∧ AllOne d) (hk : K r) : vdOp P (.call f [.c d1, .c d2, .c d3, .c d4]) h K := d_call hv hds hk
theorem neq_chk {t w : Int} {n : Nat} {b : Int} {len : Nat} {K : D → Prop} : vbin .neq (chk t w n b len) (chk t w n b len) K = K (.bool false) := by
  unfold chk; rw [v_neq]; simp
theorem neq_ok {K : D → Prop} : vbin .neq (.int .i64 0) (.int .i64 0) K = K (.bool false) := by
  rw [v_neq]; simp
theorem idR_form (t w b : Nat) (item op : Int) : ∃ v e : Int, idR t w b item op = .agg [.int .i32 v, .int .i64 e] := by
  unfold idR; split <;> exact ⟨_, _, rfl⟩
theorem eqv_id {P : Program} {t w b : Nat} {item op : Int} {h : Heap} {K : D → Prop} : vdOp P (.eqv false true [.i, .i] (.c (idR t w b item op)) (.c (idR t w b item op))) h K = K (.bool true) := by
  obtain ⟨v, e, h⟩ := idR_form t w b item op
  rw [h, d_eqv, h_eqv]
  simp [veqv, eqCells, D.cells, D.isAgg]
set_option maxRecDepth 20000 in
set_option maxHeartbeats 2000000 in
theorem law3 {a b c : Nat} {xs ys : List Int} {G p q : Int} (hb255 : b ≤ 255) (hx : xs.length ≤ 9223372036854775807) (hp : -9223372036854775808 ≤ p ∧ p ≤ 9223372036854775807) (hq : -9223372036854775808 ≤ q ∧ q ≤ 9223372036854775807) :
    VCall Tryd.prog 3 [shapeD a b c xs, launchI G (li32 ys), .agg [.int .i64 p, .int .i64 q]] (· = .bool true) := by
  refine vcall_V F3_ok (cDr_ok _ _ _) rfl (V3_ok _ _ _ _) ?_
  unfold V3
  have hG := launchI_vd (b := G) (l := li32 ys) ⟨rfl, rfl⟩
  have hAt : (D.agg [.int .i64 p, .int .i64 q]).vd = true ∧ AllOne (.agg [.int .i64 p, .int .i64 q]) := ⟨rfl, fun x hx => by simp [D.cells] at hx; rcases hx with rfl | rfl <;> rfl⟩
  rw [g_box]
  refine ⟨shape_vd.2, fun m0 t0 => ?_⟩
  rw [g_box]
  refine ⟨hG.2, fun m1 t1 => ?_⟩
  rw [g_box]
  refine ⟨hAt.2, fun m2 t2 => ?_⟩
  have n01 : m0 ≠ m1 := t1.ne (by simp)
  have n02 : m0 ≠ m2 := t2.ne (by simp [upd_other _ _ n01])
  have n12 : m1 ≠ m2 := t2.ne (by simp)
  obtain ⟨hA, eA⟩ : ∃ hA, hA = upd (upd (upd noHeap m0 (.box (shapeD a b c xs))) m1 (.box (launchI G (li32 ys)))) m2 (.box (.agg [.int .i64 p, .int .i64 q])) := ⟨_, rfl⟩
  rw [← eA]
  have a0 : hA m0 = .box (shapeD a b c xs) := by rw [eA, upd_other _ _ n02, upd_other _ _ n01, upd_self]
  have a1 : hA m1 = .box (launchI G (li32 ys)) := by rw [eA, upd_other _ _ n12, upd_self]
  have a2 : hA m2 = .box (.agg [.int .i64 p, .int .i64 q]) := by rw [eA, upd_self]
  refine a_call c9 (fun d hd => by cases hd) ?_
  rintro _ rfl
  rw [v_not, Bool.not_true, v_cond_f]
  simp only [↓g_fadd, ↓g_ld, a1, Slot.live, launchI_cells, ↓v_part1, List.getElem?_cons_zero, List.getElem?_cons_succ, Nat.zero_add, true_and, ↓lenI, ↓v_gtr]
  by_cases hl : 20 < ys.length
  · have hl' : (20 : Int) < (ys.length : Int) := by omega
    simp only [hl', decide_true, v_cond_t, vret_bool]
  have hl' : ¬ (20 : Int) < (ys.length : Int) := by omega
  simp only [hl', decide_false, v_cond_f, a0, shape_cells, ↓v_parta, List.drop_zero, List.take_succ_cons, List.take_zero]
  refine ⟨by simp, ?_⟩
  refine a_call (c10s (a := a) (b := b) (c := c) (xs := xs) hb255 hx) (fun d hd => by simp only [List.mem_cons, List.not_mem_nil, or_false] at hd; subst hd; exact shape_vd) ?_
  rintro _ ⟨t, w, n, arr, rfl, hw1, hw2, ht1, ht2, hn, hw3, htw, ha⟩
  rw [g_alloc]
  intro m3 t3
  have n03 : m0 ≠ m3 := t3.ne (by rw [a0]; simp)
  have n13 : m1 ≠ m3 := t3.ne (by rw [a1]; simp)
  have n23 : m2 ≠ m3 := t3.ne (by rw [a2]; simp)
  rw [g_st]
  simp only [upd_self, upd_upd, code_cells]
  refine ⟨rfl, (code_vd ha).2, trivial, by simp, ?_⟩
  have hset : setCells (D.agg [.int .i64 0, .int .i64 0, .int .i64 0, .int .i64 0, .int .i64 0, .nil, .nil, .nil]) 0 [D.int .i64 t, .int .i64 w, .int .i64 0, .int .i64 0, .int .i64 n, arr, .nil, .nil] = codeD t w n arr := rfl
  rw [hset]
  obtain ⟨hB, eB⟩ : ∃ hB, hB = upd hA m3 (.box (codeD t w n arr)) := ⟨_, rfl⟩
  rw [← eB]
  have b1 : hB m1 = .box (launchI G (li32 ys)) := by rw [eB, upd_other _ _ n13, a1]
  have b2 : hB m2 = .box (.agg [.int .i64 p, .int .i64 q]) := by rw [eB, upd_other _ _ n23, a2]
  have b3 : hB m3 = .box (codeD t w n arr) := by rw [eB, upd_self]
  have and3 : ibits .and .i64 p 3 = p % 4 := iandm 2 (by omega)
  have m4 : 0 ≤ p % 4 ∧ p % 4 < 4 := by omega
  obtain ⟨r, hr⟩ : ∃ r : Nat, p % 4 = (r : Int) := ⟨(p % 4).toNat, by omega⟩
  have wr : IntKind.u8.wrap (r : Int) = (r : Int) := by
    simp only [IntKind.wrap, IntKind.signed, IntKind.bits]
    simp
    omega
  simp only [↓g_ld, b3, code_cells, ↓v_parta, List.drop_zero, List.take_succ_cons, List.take_zero, true_and]
  refine ⟨by simp, ?_⟩
  simp only [↓h_iaddap, b2, Slot.live, true_and, ↓g_ld, cells_agg]
  refine ⟨by omega, by omega, ?_⟩
  simp only [↓v_part1, Int.toNat_zero, Nat.zero_mul, Nat.add_zero, List.getElem?_cons_zero, ↓v_and, and3, hr, ↓h_conv, wr]
  rw [h_bld]
  have hf : fillD [D.int .u8 0, .int .i8 0, .int .i8 0, .int .i8 0, .int .i8 0, .int .i8 0, .int .i8 0, .int .i8 0, .int .i8 0, .int .i8 0, .int .i8 0, .int .i8 0, .int .i8 0] [(0, 1, [D.int .u8 r])] = .int .u8 r :: (List.replicate 12 (0 : Int)).map (.int .i8) := rfl
  simp only [List.map_cons, List.map_nil, get_c, cells_int, hf]
  refine ⟨fun p hp => ?_, ?_⟩
  · simp only [List.mem_cons, List.not_mem_nil, or_false] at hp
    subst hp; simp
  have hraw : D.agg (.int .u8 r :: (List.replicate 12 (0 : Int)).map (.int .i8)) = rawD r (List.replicate 12 0) := rfl
  rw [hraw]
  refine a_call (c11s (t := t) (w := w) (n := n) (r := r) (zs := List.replicate 12 0) ha ht1 (by omega) (by omega) (by omega) (by simp)) (fun d hd => ?_) ?_
  · simp only [List.mem_cons, List.not_mem_nil, or_false] at hd
    rcases hd with rfl | rfl
    · exact code_vd ha
    · exact ⟨rfl, raw_one⟩
  rintro _ ⟨bb, ll, rfl, hb1, hb3, hargs⟩
  have hllv := isArgs_vd hargs
  rw [g_alloc]
  intro m4' t4
  have n14 : m1 ≠ m4' := t4.ne (by rw [b1]; simp)
  have n24 : m2 ≠ m4' := t4.ne (by rw [b2]; simp)
  have n34 : m3 ≠ m4' := t4.ne (by rw [b3]; simp)
  rw [g_st]
  simp only [upd_self, upd_upd, launch_cells]
  have hset2 : setCells (D.agg [.int .i64 0, .nil]) 0 [D.int .i64 bb, ll] = launchD bb ll := rfl
  rw [hset2]
  refine ⟨rfl, (launch_vd hllv).2, trivial, by simp, ?_⟩
  obtain ⟨hC, eC⟩ : ∃ hC, hC = upd hB m4' (.box (launchD bb ll)) := ⟨_, rfl⟩
  rw [← eC]
  have c1 : hC m1 = .box (launchI G (li32 ys)) := by rw [eC, upd_other _ _ n14, b1]
  have c2 : hC m2 = .box (.agg [.int .i64 p, .int .i64 q]) := by rw [eC, upd_other _ _ n24, b2]
  have c3 : hC m3 = .box (codeD t w n arr) := by rw [eC, upd_other _ _ n34, b3]
  have c4 : hC m4' = .box (launchD bb ll) := by rw [eC, upd_self]
  simp only [c3, code_cells, List.take_succ_cons, List.take_zero]
  refine ⟨by simp, ?_⟩
  rw [g_alloc]
  intro m5 t5
  have n15 : m1 ≠ m5 := t5.ne (by rw [c1]; simp)
  have n25 : m2 ≠ m5 := t5.ne (by rw [c2]; simp)
  have n35 : m3 ≠ m5 := t5.ne (by rw [c3]; simp)
  have n45 : m4' ≠ m5 := t5.ne (by rw [c4]; simp)
  rw [g_st]
  simp only [upd_self, upd_upd]
  refine ⟨rfl, (code_vd ha).2, trivial, by simp, ?_⟩
  have hset3 : setCells (D.agg [.int .i64 0, .int .i64 0, .int .i64 0, .int .i64 0, .int .i64 0, .nil, .nil, .nil]) 0 (D.agg [D.int .i64 t, .int .i64 w, .int .i64 0, .int .i64 0, .int .i64 n, arr, .nil, .nil]).cells = codeD t w n arr := rfl
  rw [hset3]
  obtain ⟨hD, eD⟩ : ∃ hD, hD = upd hC m5 (.box (codeD t w n arr)) := ⟨_, rfl⟩
  rw [← eD]
  have d2 : hD m2 = .box (.agg [.int .i64 p, .int .i64 q]) := by rw [eD, upd_other _ _ n25, c2]
  have d5 : hD m5 = .box (codeD t w n arr) := by rw [eD, upd_self]
  rw [d_iaddap d2 (by omega) (by omega), d_ld1 d2 (d := .int .i64 p) rfl, d_iaddap d2 (by omega) (by omega), d_ld1 d2 (d := .int .i64 q) rfl]
  simp only [↓d_faddp, d5, Nat.zero_add]
  refine ⟨⟨_, rfl⟩, ⟨_, rfl⟩, ?_⟩
  rw [g_st]
  simp only [d5, code_cells, List.length_cons, List.length_nil]
  refine ⟨rfl, fun x hx => by simp at hx; subst hx; rfl, trivial, by omega, ?_⟩
  obtain ⟨hE, eE⟩ : ∃ hE, hE = upd hD m5 (.box (codeI p w n arr)) := ⟨_, rfl⟩
  have hset4 : setCells (codeD t w n arr) 0 (D.int .i64 p).cells = codeI p w n arr := rfl
  rw [hset4, ← eE]
  have e2 : hE m2 = .box (.agg [.int .i64 p, .int .i64 q]) := by rw [eE, upd_other _ _ n25, d2]
  have e5 : hE m5 = .box (codeI p w n arr) := by rw [eE, upd_self]
  rw [d_iaddap e2 (by omega) (by omega), d_ld1 e2 (d := .int .i64 q) rfl]
  refine ⟨⟨rfl, rfl, trivial⟩, ?_⟩
  rw [g_st]
  simp only [e5, codeI_cells, List.length_cons, List.length_nil]
  refine ⟨rfl, fun x hx => by simp at hx; subst hx; rfl, trivial, by omega, ?_⟩
  obtain ⟨hF, eF⟩ : ∃ hF, hF = upd hE m5 (.box (codeI p q n arr)) := ⟨_, rfl⟩
  have hset5 : setCells (codeI p w n arr) 1 (D.int .i64 q).cells = codeI p q n arr := rfl
  rw [hset5, ← eF]
  have f1 : hF m1 = .box (launchI G (li32 ys)) := by rw [eF, upd_other _ _ n15, eE, upd_other _ _ n15, eD, upd_other _ _ n15, c1]
  have f2 : hF m2 = .box (.agg [.int .i64 p, .int .i64 q]) := by rw [eF, upd_other _ _ n25, e2]
  have f3 : hF m3 = .box (codeI t w n arr) := by rw [eF, upd_other _ _ n35, eE, upd_other _ _ n35, eD, upd_other _ _ n35, c3]; rfl
  have f4 : hF m4' = .box (launchI bb ll) := by rw [eF, upd_other _ _ n45, eE, upd_other _ _ n45, eD, upd_other _ _ n45, c4]; rfl
  have f5 : hF m5 = .box (codeI p q n arr) := by rw [eF, upd_self]
  rw [d_iaddap f2 (by omega) (by omega), d_ld1 f2 (d := .int .i64 q) rfl]
  refine ⟨⟨rfl, rfl, trivial⟩, ?_⟩
  have L3 : ∀ K : D → Prop, vdOp Tryd.prog (.ld (.c (.ptr m3 0 0)) 8 true) hF K = K (codeI t w n arr) := fun K => ldC f3 rfl
  have L1 : ∀ K : D → Prop, vdOp Tryd.prog (.ld (.c (.ptr m1 0 0)) 2 true) hF K = K (launchI G (li32 ys)) := fun K => ldC f1 rfl
  have L4 : ∀ K : D → Prop, vdOp Tryd.prog (.ld (.c (.ptr m4' 0 0)) 2 true) hF K = K (launchI bb ll) := fun K => ldC f4 rfl
  have L5 : ∀ K : D → Prop, vdOp Tryd.prog (.ld (.c (.ptr m5 0 0)) 8 true) hF K = K (codeI p q n arr) := fun K => ldC f5 rfl
  have hys : isArgs ys.length (li32 ys) := Or.inr ⟨ys, rfl, rfl⟩
  have hok : chk t w n bb n = .int .i64 0 := by
    have hf : fitsL t w n bb n := by
      refine ⟨by omega, by omega, by unfold isPow; omega, by rw [tmodn, htw]; rfl, by omega, ?_, rfl, by omega⟩
      rw [fits_mul (by omega) (by omega)]
      have : bb * t ≤ 3 * 64 := Nat.mul_le_mul hb3 ht2
      rw [← Int.natCast_mul]; omega
    unfold chk; rw [if_pos hf]
  have vCL : ∀ (t w : Int) (b : Int) (l : D) (m : Nat) (hl : isArgs m l) (d : D), d ∈ [codeI t w n arr, launchI b l] → d.vd = true ∧ AllOne d := fun t w b l m hl d hd => by
    simp only [List.mem_cons, List.not_mem_nil, or_false] at hd
    rcases hd with rfl | rfl
    · exact codeI_vd ha
    · exact launchI_vd (isArgs_vd hl)
  simp only [↓L3, ↓L1, ↓L4, ↓L5]
  refine d_call2 (c12 ha hys (by omega)) (vCL t w G (li32 ys) _ hys) ?_
  refine d_call2 (c13 ha hys) (vCL t w G (li32 ys) _ hys) ?_
  simp only [↓neq_chk, ↓g1f, ↓L3, ↓L4]
  refine d_call2 (c12 ha hargs (by omega)) (vCL t w bb ll _ hargs) ?_
  rw [hok]
  simp only [↓neq_ok, ↓g1f, ↓d_pick, ↓h_pick, Bool.false_eq_true, if_false, ↓L5, ↓L4]
  refine d_call2 (c12 ha hargs (by omega)) (vCL p q bb ll _ hargs) ?_
  try simp only [↓g1f, ↓L5, ↓L4]
  refine d_call2 (c13 ha hargs) (vCL p q bb ll _ hargs) ?_
  simp only [↓neq_chk, ↓g1f, ↓d_pick, ↓h_pick, Bool.false_eq_true, if_false, ↓L5, ↓L1]
  refine d_call2 (c12 ha hys (by omega)) (vCL p q G (li32 ys) _ hys) ?_
  try simp only [↓g1f, ↓L5, ↓L1]
  refine d_call2 (c13 ha hys) (vCL p q G (li32 ys) _ hys) ?_
  simp only [↓neq_chk, ↓g1f, ↓d_pick, ↓h_pick, Bool.false_eq_true, if_false, v_cond_f]
  have and255 : ibits .and .i64 p 255 = p % 256 := iandm 8 (by omega)
  have and7 : ibits .and .i64 q 7 = q % 8 := iandm 3 (by omega)
  have i1 : Int.toNat 1 * 1 = 1 := rfl
  simp only [f2, Slot.live, cells_agg, List.getElem?_cons_zero, ↓v_and, and255, and7, true_and, i1, List.getElem?_cons_succ]
  refine ⟨by omega, by omega, by omega, by omega, ?_⟩
  rw [h_bld]
  have hf2 : fillD [D.int .i64 0, D.int .i64 0] [(0, 1, [D.int .i64 (p % 256)]), (1, 1, [D.int .i64 (q % 8)])] = [.int .i64 (p % 256), .int .i64 (q % 8)] := rfl
  simp only [List.map_cons, List.map_nil, get_c, cells_int, hf2]
  refine ⟨fun p hp => ?_, ?_⟩
  · simp only [List.mem_cons, List.not_mem_nil, or_false] at hp
    rcases hp with rfl | rfl <;> simp
  rw [g_alloc]
  intro m6 t6
  have n26 : m2 ≠ m6 := t6.ne (by rw [f2]; simp)
  have n36 : m3 ≠ m6 := t6.ne (by rw [f3]; simp)
  have n46 : m4' ≠ m6 := t6.ne (by rw [f4]; simp)
  rw [g_st]
  simp only [upd_self, upd_upd]
  have hset6 : setCells (D.agg [.int .i64 0, .int .i64 0]) 0 (D.agg [.int .i64 (p % 256), .int .i64 (q % 8)]).cells = .agg [.int .i64 (p % 256), .int .i64 (q % 8)] := rfl
  rw [hset6]
  refine ⟨rfl, fun x hx => by simp [D.cells] at hx; rcases hx with rfl | rfl <;> rfl, trivial, by simp, ?_⟩
  obtain ⟨hG', eG⟩ : ∃ hG', hG' = upd hF m6 (.box (.agg [.int .i64 (p % 256), .int .i64 (q % 8)])) := ⟨_, rfl⟩
  rw [← eG]
  have g2 : hG' m2 = .box (.agg [.int .i64 p, .int .i64 q]) := by rw [eG, upd_other _ _ n26, f2]
  have g3 : hG' m3 = .box (codeD t w n arr) := by rw [eG, upd_other _ _ n36, f3]; rfl
  have g4 : hG' m4' = .box (launchD bb ll) := by rw [eG, upd_other _ _ n46, f4]; rfl
  have g6 : hG' m6 = .box (.agg [.int .i64 (p % 256), .int .i64 (q % 8)]) := by rw [eG, upd_self]
  have M2 : ∀ K : D → Prop, vdOp Tryd.prog (.ld (.c (.ptr m2 0 0)) 2 true) hG' K = K (.agg [.int .i64 p, .int .i64 q]) := fun K => ldC g2 rfl
  have M3 : ∀ K : D → Prop, vdOp Tryd.prog (.ld (.c (.ptr m3 0 0)) 8 true) hG' K = K (codeD t w n arr) := fun K => ldC g3 rfl
  have M4 : ∀ K : D → Prop, vdOp Tryd.prog (.ld (.c (.ptr m4' 0 0)) 2 true) hG' K = K (launchD bb ll) := fun K => ldC g4 rfl
  have M6 : ∀ K : D → Prop, vdOp Tryd.prog (.ld (.c (.ptr m6 0 0)) 2 true) hG' K = K (.agg [.int .i64 (p % 256), .int .i64 (q % 8)]) := fun K => ldC g6 rfl
  have A20 : ∀ K : D → Prop, vdOp Tryd.prog (.iadda (.c (.ptr m2 0 0)) (.c (.int .i64 0)) 2 1) hG' K = K (.ptr m2 0 0) := fun K => d_iaddap g2 (by omega) (by omega)
  have A21 : ∀ K : D → Prop, vdOp Tryd.prog (.iadda (.c (.ptr m2 0 0)) (.c (.int .i64 1)) 2 1) hG' K = K (.ptr m2 0 1) := fun K => d_iaddap g2 (by omega) (by omega)
  have A60 : ∀ K : D → Prop, vdOp Tryd.prog (.iadda (.c (.ptr m6 0 0)) (.c (.int .i64 0)) 2 1) hG' K = K (.ptr m6 0 0) := fun K => d_iaddap g6 (by omega) (by omega)
  have A61 : ∀ K : D → Prop, vdOp Tryd.prog (.iadda (.c (.ptr m6 0 0)) (.c (.int .i64 1)) 2 1) hG' K = K (.ptr m6 0 1) := fun K => d_iaddap g6 (by omega) (by omega)
  have B20 : ∀ K : D → Prop, vdOp Tryd.prog (.ld (.c (.ptr m2 0 0)) 1 false) hG' K = K (.int .i64 p) := fun K => d_ld1 g2 rfl
  have B21 : ∀ K : D → Prop, vdOp Tryd.prog (.ld (.c (.ptr m2 0 1)) 1 false) hG' K = K (.int .i64 q) := fun K => d_ld1 g2 rfl
  have B60 : ∀ K : D → Prop, vdOp Tryd.prog (.ld (.c (.ptr m6 0 0)) 1 false) hG' K = K (.int .i64 (p % 256)) := fun K => d_ld1 g6 rfl
  have B61 : ∀ K : D → Prop, vdOp Tryd.prog (.ld (.c (.ptr m6 0 1)) 1 false) hG' K = K (.int .i64 (q % 8)) := fun K => d_ld1 g6 rfl
  simp only [↓M2, ↓M3, ↓M4, ↓A20, ↓A21, ↓B20, ↓B21]
  have v3 : ∀ (x y : Int) (d : D), d ∈ [codeD t w n arr, launchD bb ll, .agg [.int .i64 x, .int .i64 y]] → d.vd = true ∧ AllOne d := fun x y d hd => by
    simp only [List.mem_cons, List.not_mem_nil, or_false] at hd
    rcases hd with rfl | rfl | rfl
    · exact code_vd ha
    · exact launch_vd hllv
    · exact ⟨rfl, fun x hx => by simp [D.cells] at hx; rcases hx with rfl | rfl <;> rfl⟩
  have v4 : ∀ (x y : Int) (d : D), d ∈ [codeD t w n arr, launchD bb ll, .int .i64 x, .int .i64 y] → d.vd = true ∧ AllOne d := fun x y d hd => by
    simp only [List.mem_cons, List.not_mem_nil, or_false] at hd
    rcases hd with rfl | rfl | rfl | rfl
    · exact code_vd ha
    · exact launch_vd hllv
    · exact ⟨rfl, by simp⟩
    · exact ⟨rfl, by simp⟩
  refine d_call3 (c14a (item := p) (op := q) ha hllv ht1 (by omega) hw1 (by omega)) (v3 p q) ?_
  try simp only [↓M3, ↓M4, ↓A20, ↓A21, ↓B20, ↓B21]
  refine d_call4 (c15 (item := p) (op := q) ha hllv ht1 (by omega) hw1 (by omega)) (v4 p q) ?_
  simp only [↓eqv_id, ↓g1t, ↓M3, ↓M4, ↓M6]
  refine d_call3 (c14a (item := p % 256) (op := q % 8) ha hllv ht1 (by omega) hw1 (by omega)) (v3 _ _) ?_
  simp only [↓g1t, ↓M3, ↓M4, ↓A60, ↓A61, ↓B60, ↓B61]
  refine d_call4 (c15 (item := p % 256) (op := q % 8) ha hllv ht1 (by omega) hw1 (by omega)) (v4 _ _) ?_
  simp only [↓eqv_id, ↓g1t, ↓d_pick, ↓h_pick, if_true, vret_bool]
end Go.Am
/- LaunchMatchesReference, at every argument of its types. No condition. -/
namespace Go.Am
open Go Go.Proofs

theorem u27 : structL Tryd.prog 27 = some [(3, 0), (25, 1)] := by kernel_rfl
theorem u28 : Tryd.prog.underlying 28 = some (.array 2 3) := by kernel_rfl
theorem cs3 : Tryd.prog.cellsOf 3 = 1 := by kernel_rfl
theorem cs25 : Tryd.prog.cellsOf 25 = 1 := by kernel_rfl
theorem cs27 : Tryd.prog.cellsOf 27 = 2 := by kernel_rfl
theorem cs28 : Tryd.prog.cellsOf 28 = 2 := by kernel_rfl
set_option maxRecDepth 100000 in
theorem is_launch {m : Nat} {cs : List D} (h : HasTy Tryd.prog (m + 3) 27 cs) : ∃ (G : Int) (ys : List Int), mkElem Tryd.prog 27 cs = launchI G (li32 ys) := by
  obtain ⟨h1, h2⟩ := hasTy_struct u27 h
  rw [cs27] at h1
  have q0 := h2 (3, 0) (by simp)
  have q1 := h2 (25, 1) (by simp)
  simp only [cs3, cs25] at q0 q1
  match cs, h1 with
  | [d0, d1], _ =>
    obtain ⟨G, hG, -, -⟩ := is_int q0
    obtain ⟨ys, hy, -, -⟩ := is_words q1
    simp at hG hy
    subst hG hy
    exact ⟨G, ys, mk_struct u27 _⟩
set_option maxRecDepth 100000 in
theorem is_at {m : Nat} {cs : List D} (h : HasTy Tryd.prog (m + 2) 28 cs) : ∃ (p q : Int), mkElem Tryd.prog 28 cs = .agg [.int .i64 p, .int .i64 q] ∧ (-9223372036854775808 ≤ p ∧ p ≤ 9223372036854775807) ∧ (-9223372036854775808 ≤ q ∧ q ≤ 9223372036854775807) := by
  obtain ⟨h1, h2⟩ := hasTy_array u28 h
  rw [cs28] at h1
  have q0 := h2 0 (by omega)
  have q1 := h2 1 (by omega)
  simp only [cs3] at q0 q1
  match cs, h1 with
  | [d0, d1], _ =>
    obtain ⟨p, hp, hp1, hp2⟩ := is_int q0
    obtain ⟨q, hq, hq1, hq2⟩ := is_int q1
    simp at hp hq
    subst hp hq
    exact ⟨p, q, mk_array u28 _, ⟨hp1, hp2⟩, ⟨hq1, hq2⟩⟩
set_option maxRecDepth 100000 in
theorem law3H (xs : List D) (h : HasTys Tryd.prog 12 Tryd.f3.params.toList xs) : VCall Tryd.prog 3 xs (· = .bool true) := by
  have hp : Tryd.f3.params.toList = [24, 27, 28] := by kernel_rfl
  rw [hp] at h
  obtain ⟨c1, r1, rfl, h1, c2, r2, rfl, h2, c3, r3, rfl, h3, rfl⟩ := h
  obtain ⟨a, b, c, ys, e1, _, hb, _, hl, _⟩ := is_shape h1
  obtain ⟨G, zs, e2⟩ := is_launch h2
  obtain ⟨p, q, e3, hp, hq⟩ := is_at h3
  rw [e1, e2, e3]
  exact law3 hb hl hp hq
end Go.Am
