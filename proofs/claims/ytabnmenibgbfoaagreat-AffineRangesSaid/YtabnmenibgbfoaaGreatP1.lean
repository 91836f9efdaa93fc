/- What the functions of this chapter give, on plain data. No condition. -/
import Derived.Test.YtabnmenibgbfoaaGreatT3
set_option linter.unnecessarySimpa false
set_option linter.defProp false
set_option linter.unusedSectionVars false
set_option linter.unusedSimpArgs false
set_option linter.unusedVariables false
/- Spans: ends, steps, divisors. No condition. -/
namespace Go.Am
open Go Go.Proofs

theorem c_near {n : Int} (h1 : -1099511627776 ≤ n) (h2 : n ≤ 1099511627776) : VCall PP n_span_near [.int .i64 n] (· = .bool true) := by
  refine vcall_V F_span_near_ok (cDr_ok _ _ _) rfl (V_span_near_ok _ _) ?_
  unfold V_span_near
  simp (disch := omega) only [↓leT, ↓leF, ↓gtt, ↓gft, ↓pickt, ↓pickf]
  exact vret_vd dat_bool.pair rfl

/-- A span whose step is 0 if it has a single element. -/
def mkR (lo hi st : Int) : D := spn lo hi (if lo = hi then 0 else st)
theorem c_made {lo hi st : Int} : VCall PP n_span_made [.int .i64 lo, .int .i64 hi, .int .i64 st] (· = mkR lo hi st) := by
  refine vcall_V F_span_made_ok (cDr_ok _ _ _) rfl (V_span_made_ok _ _ _ _) ?_
  unfold V_span_made
  rw [g_alloc]
  intro m t
  refine ⟨fun l h' => (h' m = .box (.agg [.int .i64 0, .int .i64 0, .int .i64 0])) ∧ l = [.int .i64 (if lo = hi then 0 else st)], ?_, ?_⟩
  · rintro f h8 ⟨hm, hf⟩
    simp only [List.cons.injEq, and_true] at hf
    rw [hf]
    simp only [↓bld3, ↓st3i hm, ↓ld3u]
    exact vret_vd spn_dat.pair rfl
  · rw [v_eql, v_cond]
    refine ⟨fun he => ⟨rfl, upd_self _ _ _, by rw [if_pos he]⟩, fun he => ⟨rfl, upd_self _ _ _, by rw [if_neg he]⟩⟩
theorem c_bounded {lo hi st : Int} (h1 : -1099511627776 ≤ lo) (h2 : lo ≤ 1099511627776) (h3 : -1099511627776 ≤ hi) (h4 : hi ≤ 1099511627776) :
    VCall PP n_span_bounded [.int .i64 lo, .int .i64 hi, .int .i64 st] (· = .tup [mkR lo hi st, .int .i64 0]) := by
  refine vcall_V F_span_bounded_ok (cDr_ok _ _ _) rfl (V_span_bounded_ok _ _ _ _) ?_
  unfold V_span_bounded
  rw [g_alloc]
  intro m t
  refine t_call1 (c_near h1 h2) ⟨dat_int, trivial⟩ ?_
  simp only [↓nott, ↓gff]
  refine t_call1 (c_near h3 h4) ⟨dat_int, trivial⟩ ?_
  simp only [↓nott, ↓gff, ↓pickf, ↓v_cond_f]
  refine t_call1 c_made ⟨dat_int, dat_int, dat_int, trivial⟩ ?_
  unfold mkR spn
  simp only [↓st3i (upd_self _ _ _), ↓ld3u]
  exact vret_sp rfl

/-- The greatest common divisor of a row. -/
def gcdL (l : List Int) : Nat := l.foldl (fun g x => Nat.gcd g x.natAbs) 0
theorem tmod_small {a b M : Int} (hb : b ≠ 0) (h1 : -M ≤ b) (h2 : b ≤ M) : -M ≤ a.tmod b ∧ a.tmod b ≤ M ∧ (a.tmod b).natAbs < b.natAbs := by
  have := Int.natAbs_tmod a b
  have hlt : a.natAbs % b.natAbs < b.natAbs := Nat.mod_lt _ (by omega)
  rw [← this] at hlt
  omega
theorem gcd_tmod (a b : Int) : Nat.gcd b.natAbs (a.tmod b).natAbs = Nat.gcd a.natAbs b.natAbs := by
  rw [Int.natAbs_tmod, Nat.gcd_comm a.natAbs, Nat.gcd_rec b.natAbs a.natAbs, Nat.gcd_comm]
theorem c_gcd {l : List Int} (hl : l.length ≤ 1000) (hs : ∀ x, x ∈ l → -1000000000000000 ≤ x ∧ x ≤ 1000000000000000) : VCall PP n_span_gcd [ints l] (· = .int .i64 (gcdL l)) := by
  refine vcall_V F_span_gcd_ok (cDr_ok _ _ _) rfl (V_span_gcd_ok _ _) ?_
  unfold V_span_gcd
  let A : Nat → Nat := fun k => (l.take k).foldl (fun g x => Nat.gcd g x.natAbs) 0
  refine ⟨fun q _ => ∃ g : Int, q = [.int .i64 g] ∧ g.natAbs = gcdL l ∧ -1000000000000000 ≤ g ∧ g ≤ 1000000000000000, ?_, ?_⟩
  · rintro f h ⟨g, hf, hg, g1, g2⟩
    simp only [List.cons.injEq, and_true] at hf
    rw [hf]
    simp (disch := omega) only [↓negW, ↓h_mx]
    rw [vret_int, ← hg]
    congr 1
    split <;> omega
  · simp only [ints, ↓v_len, List.length_map]
    unfold V_span_gcd_L1
    refine ⟨fun n q _ => ∃ (k : Nat) (g : Int), n + k = l.length ∧ q = [.int .i64 g, .int .i64 (k : Int)] ∧ g.natAbs = A k ∧ -1000000000000000 ≤ g ∧ g ≤ 1000000000000000, l.length, ⟨0, 0, rfl, rfl, rfl, by omega, by omega⟩, ?_⟩
    rintro n f h ⟨k, g, hn, hf, hg, g1, g2⟩
    simp only [List.cons.injEq, and_true] at hf
    rw [hf.1, hf.2]
    rcases Nat.lt_or_ge k l.length with hk | hk
    · have hk' : (k : Int) < (l.length : Int) := by omega
      simp only [↓ltT hk', ↓v_cond_t]
      refine ⟨fun q _ => ∃ g : Int, q = [.int .i64 g] ∧ g.natAbs = A (k + 1) ∧ -1000000000000000 ≤ g ∧ g ≤ 1000000000000000, ?_, ?_⟩
      · rintro f2 h2 ⟨g', hf2, hg', g1', g2'⟩
        simp only [List.cons.injEq, and_true] at hf2
        rw [hf2]
        simp (disch := omega) only [↓addW]
        exact ⟨rfl, n - 1, by omega, k + 1, g', by omega, by simp, hg', g1', g2'⟩
      · obtain ⟨x, hx⟩ : ∃ x, l[k]? = some x := ⟨l[k], List.getElem?_eq_getElem hk⟩
        obtain ⟨x1, x2⟩ := hs x (List.mem_of_getElem? hx)
        rw [h_iadd]
        refine ⟨by omega, by simpa using hk', fun d hd => ?_⟩
        simp only [Int.toNat_natCast, List.getElem?_map, hx, Option.map_some, Option.some.injEq] at hd
        subst hd
        refine ⟨rfl, ?_⟩
        simp only [↓h_ldv, ↓v_part1, cells_int, List.getElem?_cons_zero]
        have hA : A (k + 1) = Nat.gcd (A k) x.natAbs := by
          simp only [A]
          have hxl := (List.getElem?_eq_some_iff.1 hx).2
          rw [List.take_succ_eq_append_getElem hk, List.foldl_append, hxl]; rfl
        unfold V_span_gcd_L0
        refine ⟨fun n q _ => ∃ (g' y : Int), n = y.natAbs ∧ q = [.int .i64 g', .int .i64 y] ∧ Nat.gcd g'.natAbs y.natAbs = A (k + 1) ∧ -1000000000000000 ≤ g' ∧ g' ≤ 1000000000000000 ∧ -1000000000000000 ≤ y ∧ y ≤ 1000000000000000, x.natAbs, ⟨g, x, rfl, ?_, ?_, g1, g2, x1, x2⟩, ?_⟩
        · rw [hf.1]
        · rw [hA, hg]
        · rintro n2 f2 h2 ⟨g', y, hn2, hf2, hgy, g1', g2', y1, y2⟩
          simp only [List.cons.injEq, and_true] at hf2
          rw [hf2.1, hf2.2]
          by_cases hy : y = 0
          · simp (disch := omega) only [↓neF, ↓v_cond_f]
            refine ⟨rfl, g', rfl, ?_, g1', g2'⟩
            rw [← hgy, hy]; simp
          · obtain ⟨t1, t2, t3⟩ := tmod_small (a := g') hy y1 y2
            simp (disch := omega) only [↓neT, ↓v_cond_t, ↓remW]
            refine ⟨rfl, (g'.tmod y).natAbs, by omega, y, g'.tmod y, rfl, rfl, ?_, y1, y2, t1, t2⟩
            rw [gcd_tmod]; exact hgy
    · have hk' : (l.length : Int) ≤ (k : Int) := by omega
      simp only [↓ltF hk', ↓v_cond_f]
      refine ⟨rfl, g, rfl, ?_, g1, g2⟩
      rw [hg]
      simp only [A, gcdL]
      rw [List.take_of_length_le hk]
end Go.Am
/- Spans: elements, validity, making. No condition. -/
namespace Go.Am
open Go Go.Proofs

theorem vret_b {b : Bool} {h : Heap} {K : D → Prop} (hk : K (.bool b)) : vret K (.bool b) h := vret_vd dat_bool.pair hk

def hasB (lo hi st n : Int) : Bool := decide (lo ≤ n) && (decide (n ≤ hi) && (decide (n = lo) || decide ((n - lo).tmod st = 0)))
theorem c_spanHas {lo hi st n : Int} (hs : lo ≠ hi → st ≠ 0) (h1 : -1099511627776 ≤ lo) (h2 : lo ≤ 1099511627776) (h3 : -1000000000000000 ≤ n) (h4 : n ≤ 1000000000000000) :
    VCall PP n_span_Has [spn lo hi st, .int .i64 n] (· = .bool (hasB lo hi st n)) := by
  refine vcall_V F_span_Has_ok (cDr_ok _ _ _) rfl (V_span_Has_ok _ _ _) ?_
  unfold V_span_Has
  rw [g_box]
  refine ⟨spn_dat.one, fun m t => ?_⟩
  have a0 := upd_self noHeap m (.box (spn lo hi st))
  generalize upd noHeap m (.box (spn lo hi st)) = hA at a0
  unfold spn at a0
  unfold hasB
  by_cases c1 : lo ≤ n
  · by_cases c2 : n ≤ hi
    · by_cases c3 : n = lo
      · simp (disch := omega) only [↓fab a0, ↓ldb a0 (j := 0) rfl, ↓ldb a0 (j := 1) rfl, ↓ldb a0 (j := 2) rfl, ↓cS, ↓gS]
        refine vret_b ?_
        simp [c1, c2, c3]
        omega
      · have hst := hs (by omega)
        by_cases c4 : (n - lo).tmod st = 0
        · simp (disch := omega) only [↓fab a0, ↓ldb a0 (j := 0) rfl, ↓ldb a0 (j := 1) rfl, ↓ldb a0 (j := 2) rfl, ↓cS, ↓gS]
          refine vret_b ?_
          simp [c1, c2, c3, c4]
        · simp (disch := omega) only [↓fab a0, ↓ldb a0 (j := 0) rfl, ↓ldb a0 (j := 1) rfl, ↓ldb a0 (j := 2) rfl, ↓cS, ↓gS]
          refine vret_b ?_
          simp [c1, c2, c3, c4]
    · simp (disch := omega) only [↓fab a0, ↓ldb a0 (j := 0) rfl, ↓ldb a0 (j := 1) rfl, ↓ldb a0 (j := 2) rfl, ↓cS, ↓gS]
      refine vret_b ?_
      simp [c1, c2]
  · simp (disch := omega) only [↓fab a0, ↓ldb a0 (j := 0) rfl, ↓ldb a0 (j := 1) rfl, ↓ldb a0 (j := 2) rfl, ↓cS, ↓gS]
    refine vret_b ?_
    simp [c1]

/-- A span that is valid, and small. -/
structure SOk (M lo hi st : Int) : Prop where
  l : -M ≤ lo
  u : hi ≤ M
  le : lo ≤ hi
  st : (lo = hi ∧ st = 0) ∨ (lo < hi ∧ 0 < st ∧ (hi - lo).tmod st = 0)
theorem c_spanValid {lo hi st : Int} (h : SOk 1099511627776 lo hi st) : VCall PP n_span_Valid [spn lo hi st] (· = .bool true) := by
  obtain ⟨h1, h2, h3, h4⟩ := h
  refine vcall_V F_span_Valid_ok (cDr_ok _ _ _) rfl (V_span_Valid_ok _ _) ?_
  unfold V_span_Valid
  rw [g_box]
  refine ⟨spn_dat.one, fun m t => ?_⟩
  have a0 := upd_self noHeap m (.box (spn lo hi st))
  generalize upd noHeap m (.box (spn lo hi st)) = hA at a0
  unfold spn at a0
  simp (disch := omega) only [↓fab a0, ↓ldb a0 (j := 0) rfl]
  refine t_call1 (c_near h1 (by omega)) ⟨dat_int, trivial⟩ ?_
  simp (disch := omega) only [↓fab a0, ↓ldb a0 (j := 1) rfl, ↓gS]
  refine t_call1 (c_near (by omega) h2) ⟨dat_int, trivial⟩ ?_
  rcases h4 with ⟨rfl, rfl⟩ | ⟨g1, g2, g3⟩
  · simp (disch := omega) only [↓fab a0, ↓ldb a0 (j := 0) rfl, ↓ldb a0 (j := 1) rfl, ↓ldb a0 (j := 2) rfl, ↓cS, ↓gS]
    exact vret_b rfl
  · simp (disch := omega) only [↓fab a0, ↓ldb a0 (j := 0) rfl, ↓ldb a0 (j := 1) rfl, ↓ldb a0 (j := 2) rfl, ↓cS, ↓gS]
    exact vret_b rfl

theorem c_Of {n : Int} (h1 : 0 < n) (h2 : n ≤ 1000000) : VCall PP n_span_Of [.int .i64 0, .int .i64 n, .int .i64 1] (· = .tup [spn 0 n 1, .int .i64 0]) := by
  refine vcall_V F_span_Of_ok (cDr_ok _ _ _) rfl (V_span_Of_ok _ _ _ _) ?_
  unfold V_span_Of
  rw [g_alloc]
  intro m t
  refine t_call1 (c_near (by omega) (by omega)) ⟨dat_int, trivial⟩ ?_
  simp (disch := omega) only [↓gS]
  refine t_call1 (c_near (by omega) (by omega)) ⟨dat_int, trivial⟩ ?_
  have e1 : (n - 0).tmod 1 = 0 := Int.tmod_one _
  simp (disch := omega) only [↓cS, ↓gS]
  refine t_call1 c_made ⟨dat_int, dat_int, dat_int, trivial⟩ ?_
  have e2 : mkR 0 (n - (n - 0).tmod 1) 1 = spn 0 n 1 := by
    rw [e1, mkR, if_neg (by omega)]
    congr 1; omega
  rw [e2]
  unfold spn
  simp only [↓st3i (upd_self _ _ _), ↓ld3u]
  exact vret_sp rfl
end Go.Am
/- Spans: products, multiples, sums. No condition. -/
namespace Go.Am
open Go Go.Proofs

theorem wrapU {n : Int} (h1 : 0 ≤ n) (h2 : n < 18446744073709551616) : IntKind.u64.wrap n = n := by
  obtain ⟨m, rfl⟩ := Int.eq_ofNat_of_zero_le h1
  rw [wrapu]; congr 1; omega
theorem c_abs {n : Int} (h1 : -1000000 ≤ n) (h2 : n ≤ 1000000) : VCall PP n_span_product_F1 [.int .i64 n] (· = .int .u64 (n.natAbs : Int)) := by
  refine vcall_V F_span_product_F1_ok (cDr_ok _ _ _) rfl (V_span_product_F1_ok _ _) ?_
  unfold V_span_product_F1
  by_cases c1 : n < 0
  · simp (disch := omega) only [↓cS, ↓gS, ↓h_conv, ↓v_neg]
    rw [vret_int]
    congr 1
    simp only [IntKind.wrap, IntKind.signed, IntKind.bits]
    simp
    omega
  · simp (disch := omega) only [↓cS, ↓gS, ↓h_conv]
    rw [vret_int]
    congr 1
    rw [wrapU (by omega) (by omega)]
    omega
theorem c_Mul64 {a b : Nat} (ha : a < 32768) (hb : b < 32768) : VCall PP n_math_bits_Mul64 [.int .u64 (a : Int), .int .u64 (b : Int)] (· = .tup [.int .u64 0, .int .u64 ((a * b : Nat) : Int)]) := by
  refine vcall_V F_math_bits_Mul64_ok (cDr_ok _ _ _) rfl (V_math_bits_Mul64_ok _ _ _) ?_
  unfold V_math_bits_Mul64
  have hab : a * b < 1073741824 := by
    have := Nat.mul_lt_mul'' ha hb
    omega
  have m1 : ∀ x : Nat, x < 4294967296 → ibits .and .u64 (x : Int) 4294967295 = (x : Int) := by
    intro x hx
    have := iand64 x 4294967295 (by omega) (by omega)
    rw [show ((4294967295 : Nat) : Int) = 4294967295 from rfl] at this
    rw [this]
    have e : (4294967295 : Nat) = 2 ^ 32 - 1 := by decide
    rw [e, Nat.and_two_pow_sub_one_eq_mod, Nat.mod_eq_of_lt hx]
  have s1 : ∀ x : Nat, x < 4294967296 → ishr .u64 (x : Int) 32 = 0 := by
    intro x hx
    have := ishr64 x 32 (by omega)
    rw [show ((32 : Nat) : Int) = 32 from rfl] at this
    rw [this, Nat.div_eq_of_lt (by omega)]; rfl
  have ma := m1 a (by omega)
  have mb := m1 b (by omega)
  have sa := s1 a (by omega)
  have sb := s1 b (by omega)
  have hp : IntKind.u64.wrap ((a : Int) * (b : Int)) = ((a * b : Nat) : Int) := by
    rw [show ((a : Int) * (b : Int)) = ((a * b : Nat) : Int) by simp, wrapu, Nat.mod_eq_of_lt (by omega)]
  have sp := s1 (a * b) (by omega)
  have w0 : IntKind.u64.wrap 0 = 0 := by decide
  have m0 : ibits .and .u64 0 4294967295 = 0 := by decide
  have s0 : ishr .u64 0 32 = 0 := by decide
  have n32 : (0 : Int) ≤ 32 := by omega
  simp only [↓v_and, ↓v_shr, ↓v_mul, ↓v_add, ma, mb, sa, sb, n32, true_and, hp, Int.zero_mul, Int.mul_zero, w0, sp, Int.add_zero, m0, s0]
  refine vret_tup (fun d hd => ?_) rfl
  simp only [List.mem_cons, List.not_mem_nil, or_false] at hd
  rcases hd with rfl | rfl <;> exact dat_int.pair
theorem c_product {a b : Int} (ha : -32767 ≤ a ∧ a ≤ 32767) (hb : -32767 ≤ b ∧ b ≤ 32767) : VCall PP n_span_product [.int .i64 a, .int .i64 b] (· = .tup [.int .i64 (a * b), .bool true]) := by
  refine vcall_V F_span_product_ok (cDr_ok _ _ _) rfl (V_span_product_ok _ _ _) ?_
  unfold V_span_product
  have hab : (a * b).natAbs < 1073741824 := by
    rw [Int.natAbs_mul]
    have := Nat.mul_lt_mul'' (show a.natAbs < 32768 by omega) (show b.natAbs < 32768 by omega)
    omega
  rw [h_callv]
  refine ⟨by kernel_rfl, t_call1 (c_abs (by omega) (by omega)) ⟨dat_int, trivial⟩ ?_⟩
  rw [h_callv]
  refine ⟨by kernel_rfl, t_call1 (c_abs (by omega) (by omega)) ⟨dat_int, trivial⟩ ?_⟩
  refine t_call1 (c_Mul64 (by omega) (by omega)) ⟨dat_int, dat_int, trivial⟩ ?_
  have hn : ((a.natAbs * b.natAbs : Nat) : Int) ≤ 1099511627776 := by
    rw [← Int.natAbs_mul]; omega
  simp (disch := omega) only [↓cS, ↓gS]
  refine vret_tup (fun d hd => ?_) rfl
  simp only [List.mem_cons, List.not_mem_nil, or_false] at hd
  rcases hd with rfl | rfl
  · exact dat_int.pair
  · exact dat_bool.pair
end Go.Am
/- Spans: multiples. No condition. -/
namespace Go.Am
open Go Go.Proofs

theorem sidx2 {x y : D} {h : Heap} {KH : D → Heap → Prop} {P : Program} {i : Int} {d : D} (h1 : 0 ≤ i) (h2 : i < 2) (hd : [x, y][i.toNat]? = some d) : vhOp P (.sidx (.c (.agg [x, y])) (.c (.int .i64 i)) 2 1 false) h KH = KH d h := by
  rw [h_sidxa]
  simp only [v_part1, Nat.mul_one, hd]
  simp [h1, h2]
def mnI (a b : Int) : Int := if b < a then b else a
def mxI (a b : Int) : Int := if a < b then b else a
theorem mn_idem (a b : Int) : mnI (mnI a b) b = mnI a b := by unfold mnI; by_cases h : b < a <;> simp [h]
theorem mx_idem (a b : Int) : mxI (mxI a b) b = mxI a b := by unfold mxI; by_cases h : a < b <;> simp [h]
theorem products_L0 {f22 : Nat → D} {h40 : Heap} {x k l0 h0 : Int} {a5 a18 : D} {J : List D → Heap → Prop} (hx : -32767 ≤ x ∧ x ≤ 32767) (hk : -32767 ≤ k ∧ k ≤ 32767) (f7 : f22 7 = .int .i64 l0) (f8 : f22 8 = .int .i64 h0) (f9 : f22 9 = .bool true)
    (hJ : J [.int .i64 (mnI l0 (x * k)), .int .i64 (mxI h0 (x * k)), .bool true] h40) : V_span_products_L0 f22 h40 (.agg [.int .i64 k, .int .i64 k]) (.int .i64 x) a5 a18 J := by
  unfold V_span_products_L0
  rw [f7, f8, f9]
  have i1 : mnI (mnI l0 (x * k)) (x * k) = mnI l0 (x * k) := mn_idem _ _
  have i2 : mxI (mxI h0 (x * k)) (x * k) = mxI h0 (x * k) := mx_idem _ _
  refine ⟨fun n q h => h = h40 ∧ ((n = 2 ∧ q = [.int .i64 l0, .int .i64 h0, .bool true, .int .i64 0]) ∨ (∃ j : Nat, n + j = 2 ∧ 0 < j ∧ q = [.int .i64 (mnI l0 (x * k)), .int .i64 (mxI h0 (x * k)), .bool true, .int .i64 (j : Int)])), 2, ⟨rfl, Or.inl ⟨rfl, rfl⟩⟩, ?_⟩
  rintro n f h ⟨rfl, ⟨rfl, hf⟩ | ⟨j, hn, hj, hf⟩⟩
  · simp only [List.cons.injEq, and_true] at hf
    rw [hf.1, hf.2.1, hf.2.2.1, hf.2.2.2]
    simp (disch := omega) only [↓cS, ↓gS, ↓sidx2 (i := 0) (by omega) (by omega) rfl]
    refine t_call1 (c_product hx hk) ⟨dat_int, dat_int, trivial⟩ ?_
    simp (disch := omega) only [↓cS, ↓gS, ↓h_mn, ↓h_mx]
    exact ⟨by first | exact trivial | exact rfl, 1, by omega, (by first | exact trivial | exact rfl), Or.inr ⟨1, rfl, by omega, rfl⟩⟩
  · simp only [List.cons.injEq, and_true] at hf
    rw [hf.1, hf.2.1, hf.2.2.1, hf.2.2.2]
    by_cases hj2 : j = 2
    · subst hj2
      simp (disch := omega) only [↓cS, ↓gS]
      exact ⟨rfl, hJ⟩
    · have : j = 1 := by omega
      subst this
      simp (disch := omega) only [↓cS, ↓gS, ↓sidx2 (i := ((1 : Nat) : Int)) (by omega) (by omega) rfl]
      refine t_call1 (c_product hx hk) ⟨dat_int, dat_int, trivial⟩ ?_
      simp (disch := omega) only [↓cS, ↓gS, ↓h_mn, ↓h_mx]
      refine ⟨by first | exact trivial | exact rfl, 0, by omega, (by first | exact trivial | exact rfl), Or.inr ⟨2, rfl, by omega, ?_⟩⟩
      rw [show (if x * k < mnI l0 (x * k) then x * k else mnI l0 (x * k)) = mnI l0 (x * k) from i1, show (if mxI h0 (x * k) < x * k then x * k else mxI h0 (x * k)) = mxI h0 (x * k) from i2]
      rfl
theorem c_products {lo hi st k st' : Int} (hl : -32767 ≤ lo ∧ lo ≤ 32767) (hh : -32767 ≤ hi ∧ hi ≤ 32767) (hk : -32767 ≤ k ∧ k ≤ 32767) :
    VCall PP n_span_products [spn lo hi st, spn k k st'] (· = .tup [.int .i64 (mnI (lo * k) (hi * k)), .int .i64 (mxI (lo * k) (hi * k)), .bool true]) := by
  refine vcall_V F_span_products_ok (cDr_ok _ _ _) rfl (V_span_products_ok _ _ _) ?_
  unfold V_span_products
  rw [g_box]
  refine ⟨spn_dat.one, fun m t => ?_⟩
  rw [g_box]
  refine ⟨spn_dat.one, fun m2 t2 => ?_⟩
  have hne : m ≠ m2 := t2.ne (by rw [upd_self]; simp)
  have a1 := upd_self (upd noHeap m (.box (spn lo hi st))) m2 (.box (spn k k st'))
  have a0 : upd (upd noHeap m (.box (spn lo hi st))) m2 (.box (spn k k st')) m = .box (spn lo hi st) := by rw [upd_other _ _ hne, upd_self]
  generalize upd (upd noHeap m (.box (spn lo hi st))) m2 (.box (spn k k st')) = hA at a0 a1
  unfold spn at a0 a1
  have bd : ∀ x : Int, (-32767 ≤ x ∧ x ≤ 32767) → -1099511627776 < x * k ∧ x * k < 1099511627776 := by
    intro x hx
    have : (x * k).natAbs < 1073741824 := by
      rw [Int.natAbs_mul]
      have := Nat.mul_lt_mul'' (show x.natAbs < 32768 by omega) (show k.natAbs < 32768 by omega)
      omega
    omega
  have b1 := bd lo hl
  have e1 : mnI 1099511627776 (lo * k) = lo * k := by unfold mnI; split <;> omega
  have e2 : mxI (-1099511627776) (lo * k) = lo * k := by unfold mxI; split <;> omega
  refine ⟨fun q h => q = [.int .i64 (mnI (lo * k) (hi * k)), .int .i64 (mxI (lo * k) (hi * k)), .bool true], ?_, ?_⟩
  · rintro f h hf
    simp only [List.cons.injEq, and_true] at hf
    rw [hf.1, hf.2.1, hf.2.2]
    refine vret_tup (fun d hd => ?_) rfl
    simp only [List.mem_cons, List.not_mem_nil, or_false] at hd
    rcases hd with rfl | rfl | rfl
    · exact dat_int.pair
    · exact dat_int.pair
    · exact dat_bool.pair
  · simp only [↓fab a0, ↓ldb a0 (j := 0) rfl, ↓ldb a0 (j := 1) rfl, ↓gS]
    unfold V_span_products_L1
    refine ⟨fun n q h => h = hA ∧ ((n = 2 ∧ q = [.int .i64 1099511627776, .int .i64 (-1099511627776), .bool true, .int .i64 0]) ∨ (n = 1 ∧ q = [.int .i64 (lo * k), .int .i64 (lo * k), .bool true, .int .i64 1]) ∨
      (n = 0 ∧ q = [.int .i64 (mnI (lo * k) (hi * k)), .int .i64 (mxI (lo * k) (hi * k)), .bool true, .int .i64 2])), 2, ⟨rfl, Or.inl ⟨rfl, rfl⟩⟩, ?_⟩
    rintro n f h ⟨rfl, ⟨rfl, hf⟩ | ⟨rfl, hf⟩ | ⟨rfl, hf⟩⟩
    · simp only [List.cons.injEq, and_true] at hf
      obtain ⟨f1, f2, f3, f4⟩ := hf
      rw [f4]
      simp (disch := omega) only [↓cS, ↓gS]
      refine ⟨fun q h' => h' = h ∧ q = [.int .i64 (lo * k), .int .i64 (lo * k), .bool true], ?_, ?_⟩
      · rintro f' h' ⟨rfl, hf'⟩
        simp only [List.cons.injEq, and_true] at hf'
        rw [hf'.1, hf'.2.1, hf'.2.2]
        simp (disch := omega) only [↓cS]
        exact ⟨by first | exact trivial | exact rfl, 1, by omega, (by first | exact trivial | exact rfl), Or.inr (Or.inl ⟨rfl, rfl⟩)⟩
      · simp (disch := omega) only [↓sidx2 (i := 0) (by omega) (by omega) rfl, ↓fab a1, ↓ldb a1 (j := 0) rfl, ↓ldb a1 (j := 1) rfl, ↓gS]
        refine products_L0 hl hk f1 f2 f3 ⟨rfl, ?_⟩
        rw [e1, e2]
    · simp only [List.cons.injEq, and_true] at hf
      obtain ⟨f1, f2, f3, f4⟩ := hf
      rw [f4]
      simp (disch := omega) only [↓cS, ↓gS]
      refine ⟨fun q h' => h' = h ∧ q = [.int .i64 (mnI (lo * k) (hi * k)), .int .i64 (mxI (lo * k) (hi * k)), .bool true], ?_, ?_⟩
      · rintro f' h' ⟨rfl, hf'⟩
        simp only [List.cons.injEq, and_true] at hf'
        rw [hf'.1, hf'.2.1, hf'.2.2]
        simp (disch := omega) only [↓cS]
        exact ⟨by first | exact trivial | exact rfl, 0, by omega, (by first | exact trivial | exact rfl), Or.inr (Or.inr ⟨rfl, rfl⟩)⟩
      · simp (disch := omega) only [↓sidx2 (i := 1) (by omega) (by omega) rfl, ↓fab a1, ↓ldb a1 (j := 0) rfl, ↓ldb a1 (j := 1) rfl, ↓gS]
        exact products_L0 hh hk f1 f2 f3 ⟨rfl, rfl⟩
    · simp only [List.cons.injEq, and_true] at hf
      obtain ⟨f1, f2, f3, f4⟩ := hf
      rw [f4]
      simp (disch := omega) only [↓cS, ↓gS]
      exact ⟨rfl, by rw [f1, f2, f3]⟩
end Go.Am
/- Spans: scaled, multiples, added. No condition. -/
namespace Go.Am
open Go Go.Proofs

theorem a_callms {P : Program} {f : FuncId} {n esz : Nat} {els ds : List D} {h : Heap} {KH : D → Heap → Prop} {R : D → Prop} (hn : h n = .arr esz els) (he : ∀ x, x ∈ els → ∀ y, y ∈ x.cells → y.vone = true)
    (hv : VCall P f (.sl els :: ds) R) (hds : ∀ d, d ∈ ds → d.vd = true ∧ AllOne d) (hk : ∀ r h', R r → (∀ k, k ≠ n → h' k = h k) → KH r h') : ACall P f (.ms n 0 els.length :: ds) h KH := by
  have hrow : (h n).row = some (esz, els) := by rw [hn]; rfl
  have e0 : (D.ms n 0 els.length).fz h = .sl els := by simp [D.fz, D.fzc, hrow]
  have e1 : (D.ms n 0 els.length :: ds).map (D.fz h) = .sl els :: ds := by
    rw [List.map_cons, e0, List.map_congr_left (g := id) (fun d hd => (vd_fz (hds d hd).1).1), List.map_id]
  have e2 : (D.ms n 0 els.length :: ds).flatMap D.nm = [n] := by
    rw [List.flatMap_cons, List.flatMap_eq_nil_iff.2 (fun d hd => (vd_fz (h := h) (hds d hd).1).2.1)]
    rfl
  refine ACall.mono ?_ (acall_of_vcall (K := R) (by rw [e1]; exact hv) (fun d hd => ?_))
  · rintro r h' ⟨k1, k2, k3⟩
    refine hk r h' k1 fun k hkn => ?_
    by_cases hr : r.flat = true ∨ (D.ms n 0 els.length :: ds).flatMap D.nm = []
    · rw [k2 hr]
    · rw [k3 hr, e2]
      simp [Heap.freezeAll, Heap.freeze, hn, upd_other _ _ hkn]
  · rcases List.mem_cons.1 hd with rfl | hd
    · refine ⟨by simp, ?_, by rw [e0]; rfl⟩
      intro x hx
      simp only [D.cells, List.mem_singleton] at hx
      subst hx
      exact ⟨esz, els, hrow, by simp, fun x hx y hy => he x (by simpa using hx) y hy⟩
    · exact ⟨(hds d hd).2, (vd_fz (hds d hd).1).2.2, by rw [(vd_fz (hds d hd).1).1]; exact (hds d hd).1⟩
theorem gcdL1 (x : Int) : gcdL [x] = x.natAbs := by simp [gcdL]
theorem gcdL2 (x y : Int) : gcdL [x, y] = Nat.gcd x.natAbs y.natAbs := by simp [gcdL]
theorem ints_one (l : List Int) : ∀ x, x ∈ l.map (D.int .i64) → ∀ y, y ∈ x.cells → y.vone = true := by
  intro x hx y hy
  simp only [List.mem_map] at hx
  obtain ⟨z, -, rfl⟩ := hx
  simp at hy; subst hy; rfl

theorem c_Scale {n k : Int} (hn : 0 < n ∧ n ≤ 32767) (hk : -32767 ≤ k ∧ k ≤ 32767) :
    VCall PP n_span_Scale [spn 0 n 1, .int .i64 k] (· = .tup [mkR (mnI (0 * k) (n * k)) (mxI (0 * k) (n * k)) (k.natAbs : Int), .int .i64 0]) := by
  refine vcall_V F_span_Scale_ok (cDr_ok _ _ _) rfl (V_span_Scale_ok _ _ _) ?_
  unfold V_span_Scale
  rw [g_box]
  refine ⟨spn_dat.one, fun m t => ?_⟩
  rw [g_alloc]
  intro m2 t2
  have hne : m ≠ m2 := t2.ne (by rw [upd_self]; simp)
  have a1 := upd_self (upd noHeap m (.box (spn 0 n 1))) m2 (.box (.agg [.int .i64 0, .int .i64 0, .int .i64 0]))
  have a0 : upd (upd noHeap m (.box (spn 0 n 1))) m2 (.box (.agg [.int .i64 0, .int .i64 0, .int .i64 0])) m = .box (spn 0 n 1) := by rw [upd_other _ _ hne, upd_self]
  generalize upd (upd noHeap m (.box (spn 0 n 1))) m2 (.box (.agg [.int .i64 0, .int .i64 0, .int .i64 0])) = hA at a0 a1
  unfold spn at a0
  simp only [↓ld3 a0, ↓bld32]
  refine t_call1 (c_products (lo := 0) (hi := n) (st := 1) (k := k) (st' := 0) (by omega) (by omega) hk) ⟨spn_dat, spn_dat, trivial⟩ ?_
  simp (disch := omega) only [↓gS, ↓fab a0, ↓ldb a0 (j := 2) rfl, ↓cS]
  refine g_bld1 rfl (by simp) rfl fun m3 t3 => ?_
  have b1 : m2 ≠ m3 := t3.ne (by rw [a1]; simp)
  refine a_callms (n := m3) (els := [1 * k].map (D.int .i64)) (ds := []) (upd_self _ _ _) (ints_one _) (c_gcd (l := [1 * k]) (by simp) (by intro x hx; simp at hx; subst hx; omega)) (by simp) ?_
  rintro _ h' rfl hk'
  refine t_call1 c_made ⟨dat_int, dat_int, dat_int, trivial⟩ ?_
  have a2 : h' m2 = .box (.agg [.int .i64 0, .int .i64 0, .int .i64 0]) := by rw [hk' m2 b1, upd_other _ _ b1, a1]
  rw [gcdL1, Int.one_mul]
  unfold mkR spn
  simp only [↓st3i a2, ↓ld3u]
  exact vret_sp rfl

def pL (k n : Int) : Int := if n < 2 ∨ k = 0 then 0 else mnI 0 ((n - 1) * k)
def pH (k n : Int) : Int := if n < 2 ∨ k = 0 then 0 else mxI 0 ((n - 1) * k)
def pS (k n : Int) : Int := if n < 2 ∨ k = 0 then 0 else (k.natAbs : Int)
theorem c_multiples {k n : Int} (hn : 0 ≤ n ∧ n ≤ 32767) (hk : -32767 ≤ k ∧ k ≤ 32767) : VCall PP n_affine_multiples [.int .i64 k, .int .i64 n] (· = .tup [spn (pL k n) (pH k n) (pS k n), .bool true]) := by
  refine vcall_V F_affine_multiples_ok (cDr_ok _ _ _) rfl (V_affine_multiples_ok _ _ _) ?_
  unfold V_affine_multiples
  rw [g_alloc]
  intro m t
  by_cases c : n < 2 ∨ k = 0
  · have e : spn (pL k n) (pH k n) (pS k n) = spn 0 0 0 := by unfold pL pH pS; rw [if_pos c, if_pos c, if_pos c]
    rw [e]
    by_cases c1 : n < 2
    · simp (disch := omega) only [↓cS, ↓gS, ↓st3i (upd_self _ _ _), ↓ld3u]
      exact vret_spb rfl
    · simp (disch := omega) only [↓cS, ↓gS, ↓st3i (upd_self _ _ _), ↓ld3u]
      exact vret_spb rfl
  · have hk0 : k ≠ 0 := fun h => c (Or.inr h)
    have hpos : 0 < (k.natAbs : Int) := by omega
    have hmne : (0 : Int) ≠ (n - 1) * k := fun h => by
      rcases Int.mul_eq_zero.1 h.symm with h | h <;> omega
    have e : spn (pL k n) (pH k n) (pS k n) = mkR (mnI (0 * k) ((n - 1) * k)) (mxI (0 * k) ((n - 1) * k)) (k.natAbs : Int) := by
      unfold pL pH pS mkR
      rw [if_neg c, if_neg c, if_neg c, Int.zero_mul, if_neg (by unfold mnI mxI; split <;> split <;> omega)]
    rw [e]
    simp (disch := omega) only [↓cS, ↓gS]
    refine t_call1 (c_Of (n := n - 1) (by omega) (by omega)) ⟨dat_int, dat_int, dat_int, trivial⟩ ?_
    unfold spn
    simp only [↓gS]
    rw [g_alloc]
    intro m2 t2
    have hne : m ≠ m2 := t2.ne (by rw [upd_self]; simp)
    simp only [↓st3i (upd_self _ _ _)]
    refine ⟨fun q h => q = [.int .i64 0] ∧ (∃ d, h m = .box (.agg [.int .i64 0, .int .i64 0, .int .i64 0]) ∧ h m2 = .box d ∧ d = mkR (mnI (0 * k) ((n - 1) * k)) (mxI (0 * k) ((n - 1) * k)) (k.natAbs : Int)), ?_, ?_⟩
    · rintro f h ⟨hf, d, a0, a1, rfl⟩
      simp only [List.cons.injEq, and_true] at hf
      rw [hf]
      unfold mkR spn at a1 ⊢
      simp (disch := omega) only [↓ld3 a1, ↓cS, ↓st3i a0, ↓ld3u]
      exact vret_spb rfl
    · have a1 := upd_self (upd noHeap m (.box (.agg [.int .i64 0, .int .i64 0, .int .i64 0]))) m2 (.box (.agg [.int .i64 0, .int .i64 (n - 1), .int .i64 1]))
      rw [upd_upd]
      have a0 : upd (upd noHeap m (.box (.agg [.int .i64 0, .int .i64 0, .int .i64 0]))) m2 (.box (.agg [.int .i64 0, .int .i64 (n - 1), .int .i64 1])) m = .box (.agg [.int .i64 0, .int .i64 0, .int .i64 0]) := by rw [upd_other _ _ hne, upd_self]
      generalize upd (upd noHeap m (.box (.agg [.int .i64 0, .int .i64 0, .int .i64 0]))) m2 (.box (.agg [.int .i64 0, .int .i64 (n - 1), .int .i64 1])) = hA at a0 a1
      simp (disch := omega) only [↓cS, ↓gS, ↓ld3 a1]
      refine t_call1 (c_Scale (n := n - 1) (by omega) hk) ⟨spn_dat, dat_int, trivial⟩ ?_
      unfold mkR spn
      simp only [↓gS, ↓st3i a1]
      exact ⟨(by first | exact trivial | exact rfl), (by first | exact trivial | exact rfl), _, by rw [upd_other _ _ hne]; exact a0, upd_self _ _ _, rfl⟩

theorem dbld2 {P : Program} {fz : Bool} {h : Heap} {K : D → Prop} {z a b : Int} : vdOp P (.bldS fz 1 2 (.int .i64 z) [(0, (.c (.int .i64 a))), (1, (.c (.int .i64 b)))]) h K = K (ints [a, b]) := by
  apply propext
  constructor
  · rintro ⟨h1, h2, h3, h4⟩
    simpa [setEls, Arg.get, ints] using h4
  · intro hk
    refine ⟨fun p hp => ?_, fun p hp => ?_, by simp, by simpa [setEls, Arg.get, ints] using hk⟩
    · simp [Arg.get] at hp
      rcases hp with rfl | rfl <;> simp
    · simp [Arg.get] at hp
      rcases hp with rfl | rfl <;> simp
theorem c_Add {a b c a' b' c' : Int} (h1 : -1000000 ≤ a ∧ a ≤ 1000000) (h2 : -1000000 ≤ b ∧ b ≤ 1000000) (h3 : -1000000 ≤ a' ∧ a' ≤ 1000000) (h4 : -1000000 ≤ b' ∧ b' ≤ 1000000) (h5 : -1000000 ≤ c ∧ c ≤ 1000000) (h6 : -1000000 ≤ c' ∧ c' ≤ 1000000) :
    VCall PP n_span_Add [spn a b c, spn a' b' c'] (· = .tup [mkR (a + a') (b + b') (Nat.gcd c.natAbs c'.natAbs), .int .i64 0]) := by
  refine vcall_V F_span_Add_ok (cDr_ok _ _ _) rfl (V_span_Add_ok _ _ _) ?_
  unfold V_span_Add
  rw [g_box]
  refine ⟨spn_dat.one, fun m t => ?_⟩
  rw [g_box]
  refine ⟨spn_dat.one, fun m2 t2 => ?_⟩
  rw [g_alloc]
  intro m3 t3
  have n12 : m ≠ m2 := t2.ne (by rw [upd_self]; simp)
  have n23 : m2 ≠ m3 := t3.ne (by rw [upd_self]; simp)
  have n13 : m ≠ m3 := t3.ne (by rw [upd_other _ _ n12, upd_self]; simp)
  obtain ⟨hA, eA⟩ : ∃ hA, hA = upd (upd (upd noHeap m (.box (spn a b c))) m2 (.box (spn a' b' c'))) m3 (.box (.agg [.int .i64 0, .int .i64 0, .int .i64 0])) := ⟨_, rfl⟩
  rw [← eA]
  have a2 : hA m3 = .box (.agg [.int .i64 0, .int .i64 0, .int .i64 0]) := by rw [eA, upd_self]
  have a1 : hA m2 = .box (spn a' b' c') := by rw [eA, upd_other _ _ n23, upd_self]
  have a0 : hA m = .box (spn a b c) := by rw [eA, upd_other _ _ n13, upd_other _ _ n12, upd_self]
  clear eA
  unfold spn at a0 a1
  simp (disch := omega) only [↓dfab a0, ↓dfab a1, ↓dldb a0 (j := 0) rfl, ↓dldb a0 (j := 1) rfl, ↓dldb a0 (j := 2) rfl, ↓dldb a1 (j := 0) rfl, ↓dldb a1 (j := 1) rfl, ↓dldb a1 (j := 2) rfl, ↓cS, ↓dbld2]
  refine td_call (c_gcd (l := [c, c']) (by simp) (by intro x hx; simp at hx; rcases hx with rfl | rfl <;> omega)) ⟨ints_dat, trivial⟩ ?_
  refine td_call (c_bounded (by omega) (by omega) (by omega) (by omega)) ⟨dat_int, dat_int, dat_int, trivial⟩ ?_
  rw [gcdL2]
  unfold mkR spn
  simp only [↓gS, ↓st3i a2, ↓ld3u]
  exact vret_sp rfl
end Go.Am
/- Ranges of forms. No condition. -/
namespace Go.Am
open Go Go.Proofs

/-- A span with some multiples added. -/
structure Sp where
  lo : Int
  hi : Int
  st : Int
def Sp.d (s : Sp) : D := spn s.lo s.hi s.st
def Sp.add (s : Sp) (k n : Int) : Sp := ⟨s.lo + pL k n, s.hi + pH k n, if s.lo + pL k n = s.hi + pH k n then 0 else (Nat.gcd s.st.natAbs (pS k n).natAbs : Nat)⟩
def Sp.In (M : Int) (s : Sp) : Prop := (-M ≤ s.lo ∧ s.lo ≤ M) ∧ (-M ≤ s.hi ∧ s.hi ≤ M) ∧ (-M ≤ s.st ∧ s.st ≤ M)
theorem mul_bd {a b A B : Int} (h1 : -A ≤ a ∧ a ≤ A) (h2 : 0 ≤ b ∧ b ≤ B) : -(A * B) ≤ a * b ∧ a * b ≤ A * B := by
  have hA : 0 ≤ A := by omega
  constructor
  · have e1 := Int.mul_le_mul_of_nonneg_right h1.1 h2.1
    have e2 := Int.mul_le_mul_of_nonneg_left h2.2 hA
    rw [Int.neg_mul] at e1
    omega
  · have e1 := Int.mul_le_mul_of_nonneg_right h1.2 h2.1
    have e2 := Int.mul_le_mul_of_nonneg_left h2.2 hA
    omega
theorem p_bd {k n : Int} (hk : -200 ≤ k ∧ k ≤ 200) (hn : 0 ≤ n ∧ n ≤ 100) : (-20000 ≤ pL k n ∧ pL k n ≤ 20000) ∧ (-20000 ≤ pH k n ∧ pH k n ≤ 20000) ∧ (0 ≤ pS k n ∧ pS k n ≤ 200) := by
  unfold pL pH pS
  by_cases c : n < 2 ∨ k = 0
  · rw [if_pos c, if_pos c, if_pos c]; omega
  · rw [if_neg c, if_neg c, if_neg c]
    have := mul_bd (a := k) (b := n - 1) (A := 200) (B := 100) hk (by omega)
    unfold mnI mxI
    rw [Int.mul_comm (n - 1) k]
    refine ⟨?_, ?_, by omega⟩ <;> split <;> omega
theorem gcd_bd {a b : Int} {M : Nat} (hb : b.natAbs ≤ M) (ha : a.natAbs ≤ M) : (Nat.gcd a.natAbs b.natAbs) ≤ M := by
  by_cases h : a.natAbs = 0
  · rw [h, Nat.gcd_zero_left]; exact hb
  · exact Nat.le_trans (Nat.gcd_le_left _ (by omega)) ha
theorem Sp.In.add {s : Sp} {M k n : Int} (h : s.In M) (hM : 200 ≤ M) (hk : -200 ≤ k ∧ k ≤ 200) (hn : 0 ≤ n ∧ n ≤ 100) : (s.add k n).In (M + 20000) := by
  obtain ⟨h1, h2, h3⟩ := h
  obtain ⟨p1, p2, p3⟩ := p_bd hk hn
  refine ⟨by simp only [Sp.add]; omega, by simp only [Sp.add]; omega, ?_⟩
  simp only [Sp.add]
  split
  · omega
  · have := gcd_bd (a := s.st) (b := pS k n) (M := M.toNat) (by omega) (by omega)
    omega
theorem Sp.add_d (s : Sp) (k n : Int) : mkR (s.lo + pL k n) (s.hi + pH k n) (Nat.gcd s.st.natAbs (pS k n).natAbs) = (s.add k n).d := rfl
theorem c_AddS {s : Sp} {k n : Int} (h : s.In 900000) (hk : -200 ≤ k ∧ k ≤ 200) (hn : 0 ≤ n ∧ n ≤ 100) : VCall PP n_span_Add [s.d, spn (pL k n) (pH k n) (pS k n)] (· = .tup [(s.add k n).d, .int .i64 0]) := by
  obtain ⟨h1, h2, h3⟩ := h
  obtain ⟨p1, p2, p3⟩ := p_bd hk hn
  exact c_Add (by omega) (by omega) (by omega) (by omega) (by omega) (by omega)

def frm (i l g : Int) (s : Sp) : D := .agg [.bool false, .int .i64 i, .int .i64 l, .int .i64 g, .int .i64 s.lo, .int .i64 s.hi, .int .i64 s.st]
theorem frm_dat {i l g : Int} {s : Sp} : Dat (frm i l g s) := dat_agg (by simp)
/-- A code's cells, and a space's. -/
def cdc (G : Int) (r : List D) : List D := .int .i64 G :: r
def rng (G N i l g : Int) (s : Sp) : Sp := ((s.add i (N * G)).add l G).add g N

theorem bldS3 {P : Program} {h : Heap} {KH : D → Heap → Prop} {z x y w : D} (h1 : Dat x) (h2 : Dat y) (h3 : Dat w) (l1 : x.cells.length = 2) (l2 : y.cells.length = 2) (l3 : w.cells.length = 2)
    (hk : ∀ n, Top h n → KH (.ms n 0 3) (upd h n (.arr 2 [x, y, w]))) : vhOp P (.bldS true 2 3 z [(0, (.c x)), (1, (.c y)), (2, (.c w))]) h KH := by
  obtain ⟨a1, a2, a3⟩ := vd_fz (h := h) h1.vd
  obtain ⟨b1, b2, b3⟩ := vd_fz (h := h) h2.vd
  obtain ⟨c1, c2, c3⟩ := vd_fz (h := h) h3.vd
  refine ⟨fun p hp => ?_, fun _ p hp => ?_, fun n t => ?_⟩
  · simp [Arg.get] at hp
    rcases hp with rfl | rfl | rfl
    · exact ⟨by simp, l1, h1.one⟩
    · exact ⟨by simp, l2, h2.one⟩
    · exact ⟨by simp, l3, h3.one⟩
  · simp [Arg.get] at hp
    rcases hp with rfl | rfl | rfl
    · exact a3
    · exact b3
    · exact c3
  · have := hk n t
    simpa [Arg.get, a1, a2, b1, b2, c1, c2, Heap.freezeAll, setEls] using this
theorem st2 {P : Program} {h : Heap} {KH : D → Heap → Prop} {n : Nat} {x y : D} {p q : Int} (a : h n = .box (.agg [x, y])) :
    vhOp P (.st (.c (.ptr n 0 0)) (.c (.agg [.int .i64 p, .int .i64 q])) 2) h KH = KH .undef (upd h n (.box (.agg [.int .i64 p, .int .i64 q]))) := by
  rw [g_st, a]
  apply propext
  constructor
  · exact fun hh => by simpa using hh.2.2
  · intro hk
    refine ⟨rfl, fun w hw => ?_, rfl, by simp, by simpa using hk⟩
    simp at hw; rcases hw with rfl | rfl <;> rfl
theorem lda2 {P : Program} {h : Heap} {KH : D → Heap → Prop} {n i : Nat} {els : List D} {x y : D} (a : h n = .arr 2 els) (hi : els[i]? = some (.agg [x, y])) : vhOp P (.ld (.c (.ptr n i 0)) 2 true) h KH = KH (.agg [x, y]) h := by
  rw [g_ld, a]
  obtain ⟨hl, he⟩ := List.getElem?_eq_some_iff.1 hi
  simp [v_parta, hl, he]
theorem ld43 {P : Program} {h : Heap} {KH : D → Heap → Prop} {n : Nat} {x0 x1 x2 x3 x4 x5 x6 : D} (a : h n = .box (.agg [x0, x1, x2, x3, x4, x5, x6])) : vhOp P (.ld (.c (.ptr n 0 4)) 3 true) h KH = KH (.agg [x4, x5, x6]) h :=
  ldp a (by simp)

theorem keepU {h : Heap} {k m : Nat} {x y : Slot} (hne : k ≠ m) (a : h k = y) : upd h m x k = y := by rw [upd_other _ _ hne, a]
set_option maxHeartbeats 1000000 in
theorem c_span {G N i l g : Int} {s : Sp} {r : List D} (hr : r.length = 7) (hrv : ∀ x, x ∈ r → x.vone = true) (hG : 0 ≤ G ∧ G ≤ 8) (hN : 0 ≤ N ∧ N ≤ 4) (hi : -200 ≤ i ∧ i ≤ 200) (hl : -200 ≤ l ∧ l ≤ 200) (hg : -200 ≤ g ∧ g ≤ 200)
    (hs : SOk 200 s.lo s.hi s.st) (hst : s.st ≤ 200) : VCall PP n_affine_space_span [.agg (cdc G r ++ [.int .i64 N]), frm i l g s] (· = .tup [(rng G N i l g s).d, .bool true]) := by
  have hNG : 0 ≤ N * G ∧ N * G ≤ 32 := by
    have := mul_bd (a := N) (b := G) (A := 4) (B := 8) (by omega) hG
    exact ⟨Int.mul_nonneg hN.1 hG.1, by omega⟩
  have sdat : Dat (.agg (cdc G r ++ [.int .i64 N])) := dat_agg (by
    intro x hx
    simp [cdc] at hx
    rcases hx with rfl | hx | rfl
    · rfl
    · exact hrv x hx
    · rfl)
  have hst0 : 0 ≤ s.st := by rcases hs.st with h | h <;> omega
  have in0 : s.In 200 := ⟨by have := hs.l; have := hs.u; have := hs.le; omega, by have := hs.l; have := hs.u; have := hs.le; omega, by omega⟩
  refine vcall_V F_affine_space_span_ok (cDr_ok _ _ _) rfl (V_affine_space_span_ok _ _ _) ?_
  unfold V_affine_space_span
  rw [g_box]
  refine ⟨sdat.one, fun m t => ?_⟩
  rw [g_box]
  refine ⟨frm_dat.one, fun m2 t2 => ?_⟩
  rw [g_alloc]
  intro m3 t3
  have n12 : m ≠ m2 := t2.ne (by rw [upd_self]; simp)
  have n23 : m2 ≠ m3 := t3.ne (by rw [upd_self]; simp)
  have n13 : m ≠ m3 := t3.ne (by rw [upd_other _ _ n12, upd_self]; simp)
  obtain ⟨hA, eA⟩ : ∃ hA, hA = upd (upd (upd noHeap m (.box (.agg (cdc G r ++ [.int .i64 N])))) m2 (.box (frm i l g s))) m3 (.box (.agg [.int .i64 0, .int .i64 0, .int .i64 0])) := ⟨_, rfl⟩
  rw [← eA]
  have a2 : hA m3 = .box (.agg [.int .i64 0, .int .i64 0, .int .i64 0]) := by rw [eA, upd_self]
  have a1 : hA m2 = .box (frm i l g s) := by rw [eA, upd_other _ _ n23, upd_self]
  have a0 : hA m = .box (.agg (cdc G r ++ [.int .i64 N])) := by rw [eA, upd_other _ _ n13, upd_other _ _ n12, upd_self]
  clear eA
  unfold frm at a1
  have k8 : (cdc G r ++ [D.int .i64 N])[8]? = some (.int .i64 N) := by
    rw [List.getElem?_append_right (by simp [cdc, hr])]
    simp [cdc, hr]
  simp (disch := omega) only [↓fab a1, ↓ldb a1 (j := 0) rfl, ↓gS, ↓ld43 a1]
  refine t_call1 (c_spanValid (lo := s.lo) (hi := s.hi) (st := s.st) ⟨by have := hs.l; omega, by have := hs.u; omega, hs.le, hs.st⟩) ⟨spn_dat, trivial⟩ ?_
  simp (disch := omega) only [↓fab a1, ↓gS, ↓ld43 a1]
  rw [g_alloc]
  intro m4 t4
  have n34 : m3 ≠ m4 := t4.ne (by rw [a2]; simp)
  have n24 : m2 ≠ m4 := t4.ne (by rw [a1]; simp)
  have n14 : m ≠ m4 := t4.ne (by rw [a0]; simp)
  have b3 : upd hA m4 (.box (.agg [.int .i64 0, .int .i64 0, .int .i64 0])) m4 = .box (.agg [.int .i64 0, .int .i64 0, .int .i64 0]) := upd_self _ _ _
  simp (disch := omega) only [↓st3i b3]
  rw [upd_upd]
  obtain ⟨hB, eB⟩ : ∃ hB, hB = upd hA m4 (.box (.agg [.int .i64 s.lo, .int .i64 s.hi, .int .i64 s.st])) := ⟨_, rfl⟩
  rw [← eB]
  have d4 : hB m4 = .box (.agg [.int .i64 s.lo, .int .i64 s.hi, .int .i64 s.st]) := by rw [eB, upd_self]
  have d3 : hB m3 = .box (.agg [.int .i64 0, .int .i64 0, .int .i64 0]) := by rw [eB, upd_other _ _ n34, a2]
  have d2 := (congrFun eB m2).trans (keepU n24 a1)
  have d1 := (congrFun eB m).trans (keepU n14 a0)
  clear eB
  refine ⟨fun q h => q = [] ∧ h m3 = .box (.agg [.int .i64 0, .int .i64 0, .int .i64 0]) ∧ h m4 = .box (rng G N i l g s).d, ?_, ?_⟩
  · rintro f h ⟨-, q3, q4⟩
    unfold Sp.d spn at q4 ⊢
    simp only [↓ld3 q4, ↓st3i q3, ↓ld3u]
    exact vret_spb rfl
  have kG : (cdc G r ++ [D.int .i64 N])[0]? = some (.int .i64 G) := rfl
  simp (disch := omega) only [↓fab d2, ↓ldb d2 (j := 1) rfl, ↓ldb d2 (j := 2) rfl, ↓ldb d2 (j := 3) rfl, ↓fab d1, ↓ldb d1 (j := 8) k8, ↓ldb d1 (j := 0) kG, ↓cS, ↓gS]
  refine bldS3 (dat_agg (by simp)) (dat_agg (by simp)) (dat_agg (by simp)) rfl rfl rfl fun m5 t5 => ?_
  have e5 := upd_self hB m5 (.arr 2 [.agg [.int .i64 i, .int .i64 (N * G)], .agg [.int .i64 l, .int .i64 G], .agg [.int .i64 g, .int .i64 N]])
  have n35 : m3 ≠ m5 := t5.ne (by rw [d3]; simp)
  have n45 : m4 ≠ m5 := t5.ne (by rw [d4]; simp)
  rw [v_lenms, e5]
  refine ⟨rfl, ?_⟩
  have e3 : upd hB m5 (.arr 2 [.agg [.int .i64 i, .int .i64 (N * G)], .agg [.int .i64 l, .int .i64 G], .agg [.int .i64 g, .int .i64 N]]) m3 = .box (.agg [.int .i64 0, .int .i64 0, .int .i64 0]) := by rw [upd_other _ _ n35, d3]
  have e4 : upd hB m5 (.arr 2 [.agg [.int .i64 i, .int .i64 (N * G)], .agg [.int .i64 l, .int .i64 G], .agg [.int .i64 g, .int .i64 N]]) m4 = .box s.d := by rw [upd_other _ _ n45, d4]; rfl
  generalize upd hB m5 (.arr 2 [.agg [.int .i64 i, .int .i64 (N * G)], .agg [.int .i64 l, .int .i64 G], .agg [.int .i64 g, .int .i64 N]]) = hC at e3 e4 e5
  unfold V_affine_space_span_L0
  let S : Nat → Sp := fun j => match j with
    | 0 => s
    | 1 => s.add i (N * G)
    | 2 => (s.add i (N * G)).add l G
    | _ => rng G N i l g s
  let kk : Nat → Int := fun j => match j with
    | 0 => i
    | 1 => l
    | _ => g
  let nn : Nat → Int := fun j => match j with
    | 0 => N * G
    | 1 => G
    | _ => N
  refine ⟨fun n q h => ∃ j : Nat, n + j = 3 ∧ q = [.int .i64 (j : Int)] ∧ h m3 = .box (.agg [.int .i64 0, .int .i64 0, .int .i64 0]) ∧ h m4 = .box (S j).d ∧ h m5 = .arr 2 [.agg [.int .i64 i, .int .i64 (N * G)], .agg [.int .i64 l, .int .i64 G], .agg [.int .i64 g, .int .i64 N]], 3,
    ⟨0, rfl, rfl, e3, e4, e5⟩, ?_⟩
  rintro n f h ⟨j, hj, hf, q3, q4, q5⟩
  simp only [List.cons.injEq, and_true] at hf
  rw [hf]
  rcases Nat.lt_or_ge j 3 with hlt | hge
  · have hinS : (S j).In 900000 := by
      have i1 := in0.add (M := 200) (by omega) hi (n := N * G) (by omega)
      have i2 := i1.add (by omega) hl (n := G) (by omega)
      have w : ∀ {s : Sp} {M : Int}, s.In M → M ≤ 900000 → s.In 900000 := by
        rintro s M ⟨p1, p2, p3⟩ hM
        exact ⟨by omega, by omega, by omega⟩
      rcases (by omega : j = 0 ∨ j = 1 ∨ j = 2) with rfl | rfl | rfl
      · exact w in0 (by omega)
      · exact w i1 (by omega)
      · exact w i2 (by omega)
    have hkk : -200 ≤ kk j ∧ kk j ≤ 200 := by rcases (by omega : j = 0 ∨ j = 1 ∨ j = 2) with rfl | rfl | rfl <;> assumption
    have hnn : 0 ≤ nn j ∧ nn j ≤ 100 := by rcases (by omega : j = 0 ∨ j = 1 ∨ j = 2) with rfl | rfl | rfl <;> simp only [nn] <;> omega
    have hel : [D.agg [.int .i64 i, .int .i64 (N * G)], .agg [.int .i64 l, .int .i64 G], .agg [.int .i64 g, .int .i64 N]][j]? = some (.agg [.int .i64 (kk j), .int .i64 (nn j)]) := by
      rcases (by omega : j = 0 ∨ j = 1 ∨ j = 2) with rfl | rfl | rfl <;> rfl
    have hS : (S j).add (kk j) (nn j) = S (j + 1) := by rcases (by omega : j = 0 ∨ j = 1 ∨ j = 2) with rfl | rfl | rfl <;> rfl
    have j3 : (j : Int) < ((3 : Nat) : Int) := by omega
    simp only [↓ltT j3, ↓v_cond_t]
    rw [h_iaddms]
    refine ⟨by omega, by omega, ⟨_, by rw [q5]; rfl⟩, ?_⟩
    simp only [Int.toNat_natCast, Nat.zero_add]
    simp only [↓lda2 q5 hel]
    generalize S j = Sj at *
    generalize kk j = kj at *
    generalize nn j = nj at *
    rw [g_alloc]
    intro m6 t6
    have n36 : m3 ≠ m6 := t6.ne (by rw [q3]; simp)
    have n46 : m4 ≠ m6 := t6.ne (by rw [q4]; simp)
    have n56 : m5 ≠ m6 := t6.ne (by rw [q5]; simp)
    simp only [↓st2 (upd_self h m6 (.box (.agg [.int .i64 0, .int .i64 0])))]
    rw [upd_upd]
    have r3 := keepU (x := (.box (.agg [.int .i64 kj, .int .i64 nj]))) n36 q3
    have r4 := keepU (x := (.box (.agg [.int .i64 kj, .int .i64 nj]))) n46 q4
    have r5 := keepU (x := (.box (.agg [.int .i64 kj, .int .i64 nj]))) n56 q5
    have r6 := upd_self h m6 (.box (.agg [.int .i64 kj, .int .i64 nj]))
    generalize upd h m6 (.box (.agg [.int .i64 kj, .int .i64 nj])) = hD at r3 r4 r5 r6
    simp only [↓fab r6, ↓ldb r6 (j := 0) rfl, ↓ldb r6 (j := 1) rfl]
    refine t_call1 (c_multiples (by omega) (by omega)) ⟨dat_int, dat_int, trivial⟩ ?_
    unfold spn
    simp only [↓gS]
    rw [g_alloc]
    intro m7 t7
    have n37 : m3 ≠ m7 := t7.ne (by rw [r3]; simp)
    have n47 : m4 ≠ m7 := t7.ne (by rw [r4]; simp)
    have n57 : m5 ≠ m7 := t7.ne (by rw [r5]; simp)
    simp only [↓st3i (upd_self hD m7 (.box (.agg [.int .i64 0, .int .i64 0, .int .i64 0])))]
    rw [upd_upd]
    have s3 := keepU (x := (.box (.agg [.int .i64 (pL kj nj), .int .i64 (pH kj nj), .int .i64 (pS kj nj)]))) n37 r3
    have s4 : upd hD m7 (.box (.agg [.int .i64 (pL kj nj), .int .i64 (pH kj nj), .int .i64 (pS kj nj)])) m4 = .box (.agg [.int .i64 Sj.lo, .int .i64 Sj.hi, .int .i64 Sj.st]) := by rw [upd_other _ _ n47, r4]; rfl
    have s5 := keepU (x := (.box (.agg [.int .i64 (pL kj nj), .int .i64 (pH kj nj), .int .i64 (pS kj nj)]))) n57 r5
    have s7 := upd_self hD m7 (.box (.agg [.int .i64 (pL kj nj), .int .i64 (pH kj nj), .int .i64 (pS kj nj)]))
    generalize upd hD m7 (.box (.agg [.int .i64 (pL kj nj), .int .i64 (pH kj nj), .int .i64 (pS kj nj)])) = hE at s3 s4 s5 s7
    simp only [↓gS, ↓ld3 s4, ↓ld3 s7]
    refine t_call1 (c_AddS hinS hkk hnn) ⟨spn_dat, spn_dat, trivial⟩ ?_
    rw [hS]
    unfold Sp.d spn
    simp (disch := omega) only [↓gS, ↓st3i s4, ↓cS]
    refine ⟨by first | exact trivial | exact rfl, 3 - (j + 1), by omega, j + 1, by omega, by simp, ?_, by rw [upd_self], ?_⟩
    · rw [upd_other _ _ n34, s3]
    · have n45' : m5 ≠ m4 := fun h => n45 h.symm
      rw [upd_other _ _ n45', s5]
  · have : j = 3 := by omega
    subst this
    have j3 : ((3 : Nat) : Int) ≤ ((3 : Nat) : Int) := by omega
    simp only [↓ltF j3, ↓v_cond_f]
    exact ⟨by first | exact trivial | exact rfl, (by first | exact trivial | exact rfl), q3, q4⟩
end Go.Am
/- Ranges and values of forms; small spans. No condition. -/
namespace Go.Am
open Go Go.Proofs

theorem c_Range {G N i l g : Int} {s : Sp} {r : List D} (hr : r.length = 7) (hrv : ∀ x, x ∈ r → x.vone = true) (hG : 0 ≤ G ∧ G ≤ 8) (hN : 0 ≤ N ∧ N ≤ 4) (hi : -200 ≤ i ∧ i ≤ 200) (hl : -200 ≤ l ∧ l ≤ 200) (hg : -200 ≤ g ∧ g ≤ 200)
    (hs : SOk 200 s.lo s.hi s.st) (hst : s.st ≤ 200) : VCall PP n_affine_Range [.agg (cdc G r), .int .i64 N, frm i l g s] (· = .tup [(rng G N i l g s).d, .bool true]) := by
  have cdat : Dat (.agg (cdc G r)) := dat_agg (by
    intro x hx
    simp [cdc] at hx
    rcases hx with rfl | hx
    · rfl
    · exact hrv x hx)
  have sdat : Dat (.agg (cdc G r ++ [.int .i64 N])) := dat_agg (by
    intro x hx
    simp [cdc] at hx
    rcases hx with rfl | hx | rfl
    · rfl
    · exact hrv x hx
    · rfl)
  refine vcall_V F_affine_Range_ok (cDr_ok _ _ _) rfl (V_affine_Range_ok _ _ _ _) ?_
  unfold V_affine_Range
  rw [g_box]
  refine ⟨cdat.one, fun m t => ?_⟩
  rw [g_box]
  refine ⟨frm_dat.one, fun m2 t2 => ?_⟩
  rw [g_alloc]
  intro m3 t3
  have n12 : m ≠ m2 := t2.ne (by rw [upd_self]; simp)
  have n23 : m2 ≠ m3 := t3.ne (by rw [upd_self]; simp)
  have n13 : m ≠ m3 := t3.ne (by rw [upd_other _ _ n12, upd_self]; simp)
  obtain ⟨hA, eA⟩ : ∃ hA, hA = upd (upd (upd noHeap m (.box (.agg (cdc G r)))) m2 (.box (frm i l g s))) m3 (.box (.agg [.int .i64 0, .int .i64 0, .int .i64 0])) := ⟨_, rfl⟩
  rw [← eA]
  have a2 : hA m3 = .box (.agg [.int .i64 0, .int .i64 0, .int .i64 0]) := by rw [eA, upd_self]
  have a1 : hA m2 = .box (frm i l g s) := by rw [eA, upd_other _ _ n23, upd_self]
  have a0 : hA m = .box (.agg (cdc G r)) := by rw [eA, upd_other _ _ n13, upd_other _ _ n12, upd_self]
  clear eA
  have l8 : (cdc G r).length = 8 := by simp [cdc, hr]
  have ld8 : ∀ {KH : D → Heap → Prop}, vhOp PP (.ld (.c (.ptr m 0 0)) 8 true) hA KH = KH (.agg (cdc G r)) hA := by
    intro KH
    have := lda (P := PP) (KH := KH) a0
    rw [l8] at this
    exact this
  have ld7 : ∀ {KH : D → Heap → Prop}, vhOp PP (.ld (.c (.ptr m2 0 0)) 7 true) hA KH = KH (frm i l g s) hA := by
    intro KH
    exact lda (P := PP) (KH := KH) a1
  simp only [↓ld8]
  rw [h_bld]
  refine ⟨fun p hp => ?_, ?_⟩
  · simp [Arg.get] at hp
    rcases hp with rfl | rfl
    · exact ⟨l8, by simp, cdat.one⟩
    · simp
  have efill : fillD [D.int .i64 0, .int .i64 0, .int .i64 0, .int .i64 0, .int .i64 0, .nil, .nil, .nil, .int .i64 0] (List.map (fun p => (p.1, p.2.1, (Arg.get [] p.2.2).cells)) [(0, 8, Arg.c (.agg (cdc G r))), (8, 1, Arg.c (.int .i64 N))]) = cdc G r ++ [.int .i64 N] := by
    match r, hr with
    | [r1, r2, r3, r4, r5, r6, r7], _ => simp [fillD, cdc]
  rw [efill]
  simp only [↓ld7]
  refine t_call1 (c_span hr hrv hG hN hi hl hg hs hst) ⟨sdat, frm_dat, trivial⟩ ?_
  unfold Sp.d spn
  simp only [↓gS, ↓st3i a2, ↓ld3u]
  exact vret_spb rfl

def hasF (i l g : Int) (s : Sp) (x y z v : Int) : Bool := hasB s.lo s.hi s.st (v - i * x - l * y - g * z)
theorem c_affHas {i l g x y z v : Int} {s : Sp} (hi : -200 ≤ i ∧ i ≤ 200) (hl : -200 ≤ l ∧ l ≤ 200) (hg : -200 ≤ g ∧ g ≤ 200) (hx : 0 ≤ x ∧ x ≤ 100) (hy : 0 ≤ y ∧ y ≤ 100) (hz : 0 ≤ z ∧ z ≤ 100) (hv : -1000000 ≤ v ∧ v ≤ 1000000)
    (hs : s.lo ≠ s.hi → s.st ≠ 0) (h1 : -1000000 ≤ s.lo ∧ s.lo ≤ 1000000) : VCall PP n_affine_Has [frm i l g s, .int .i64 x, .int .i64 y, .int .i64 z, .int .i32 v] (· = .bool (hasF i l g s x y z v)) := by
  refine vcall_V F_affine_Has_ok (cDr_ok _ _ _) rfl (V_affine_Has_ok _ _ _ _ _ _) ?_
  unfold V_affine_Has
  rw [g_box]
  refine ⟨frm_dat.one, fun m t => ?_⟩
  have a0 := upd_self noHeap m (.box (frm i l g s))
  generalize upd noHeap m (.box (frm i l g s)) = hA at a0
  unfold frm at a0
  have b1 := mul_bd hi hx
  have b2 := mul_bd hl hy
  have b3 := mul_bd hg hz
  have w1 : IntKind.i64.wrap v = v := wrap64 (by omega) (by omega)
  simp (disch := omega) only [↓fab a0, ↓ldb a0 (j := 0) rfl, ↓ldb a0 (j := 1) rfl, ↓ldb a0 (j := 2) rfl, ↓ldb a0 (j := 3) rfl, ↓ld43 a0, ↓gS, ↓cS, ↓h_conv, w1]
  refine t_call1 (c_spanHas hs (by omega) (by omega) (by omega) (by omega)) ⟨spn_dat, dat_int, trivial⟩ ?_
  exact vret_b rfl

theorem c_refHas {lo hi st n : Int} (h1 : -1000000 ≤ lo ∧ lo ≤ 1000000) (h3 : -1000000 ≤ n ∧ n ≤ 1000000) :
    VCall PP n_ref25_Has [spn lo hi st, .int .i64 n] (· = .bool (decide (lo ≤ n) && (decide (n ≤ hi) && (decide (st = 0) || decide ((n - lo).tmod st = 0))))) := by
  refine vcall_V F_ref25_Has_ok (cDr_ok _ _ _) rfl (V_ref25_Has_ok _ _ _) ?_
  unfold V_ref25_Has
  rw [g_box]
  refine ⟨spn_dat.one, fun m t => ?_⟩
  have a0 := upd_self noHeap m (.box (spn lo hi st))
  generalize upd noHeap m (.box (spn lo hi st)) = hA at a0
  unfold spn at a0
  by_cases c1 : lo ≤ n
  · by_cases c2 : n ≤ hi
    · by_cases c3 : st = 0
      · simp (disch := omega) only [↓fab a0, ↓ldb a0 (j := 0) rfl, ↓ldb a0 (j := 1) rfl, ↓ldb a0 (j := 2) rfl, ↓cS, ↓gS]
        refine vret_b ?_
        simp [c1, c2, c3]
      · by_cases c4 : (n - lo).tmod st = 0
        · simp (disch := omega) only [↓fab a0, ↓ldb a0 (j := 0) rfl, ↓ldb a0 (j := 1) rfl, ↓ldb a0 (j := 2) rfl, ↓cS, ↓gS]
          refine vret_b ?_
          simp [c1, c2, c3, c4]
        · simp (disch := omega) only [↓fab a0, ↓ldb a0 (j := 0) rfl, ↓ldb a0 (j := 1) rfl, ↓ldb a0 (j := 2) rfl, ↓cS, ↓gS]
          refine vret_b ?_
          simp [c1, c2, c3, c4]
    · simp (disch := omega) only [↓fab a0, ↓ldb a0 (j := 0) rfl, ↓ldb a0 (j := 1) rfl, ↓ldb a0 (j := 2) rfl, ↓cS, ↓gS]
      refine vret_b ?_
      simp [c1, c2]
  · simp (disch := omega) only [↓fab a0, ↓ldb a0 (j := 0) rfl, ↓ldb a0 (j := 1) rfl, ↓ldb a0 (j := 2) rfl, ↓cS, ↓gS]
    refine vret_b ?_
    simp [c1]

theorem vret_spn {a b c : Int} {h : Heap} {R : D → Prop} (hk : R (spn a b c)) : vret R (.agg [.int .i64 a, .int .i64 b, .int .i64 c]) h := vret_vd spn_dat.pair hk
theorem c_refMade {lo hi st : Int} : VCall PP n_ref25_Made [.int .i64 lo, .int .i64 hi, .int .i64 st] (· = mkR lo hi st) := by
  refine vcall_V F_ref25_Made_ok (cDr_ok _ _ _) rfl (V_ref25_Made_ok _ _ _ _) ?_
  unfold V_ref25_Made
  rw [g_alloc]
  intro m t
  unfold mkR
  by_cases c : lo = hi
  · simp (disch := omega) only [↓cS, ↓gS, ↓st3i (upd_self _ _ _), ↓ld3u]
    refine vret_spn ?_
    rw [if_pos c, c]
  · simp (disch := omega) only [↓cS, ↓gS, ↓st3i (upd_self _ _ _), ↓ld3u]
    refine vret_spn ?_
    rw [if_neg c]

/-- A small span of a description. -/
def smS (a b c : Int) : Sp := ⟨a.tmod 41, a.tmod 41 + (b.tmod 9 + 1) * c.tmod 15, if a.tmod 41 = a.tmod 41 + (b.tmod 9 + 1) * c.tmod 15 then 0 else b.tmod 9 + 1⟩
theorem c_Small {a b c : Int} (hb : 0 ≤ b) (hc : 0 ≤ c) : VCall PP n_ref25_Small [.agg [.int .i64 a, .int .u32 b, .int .u16 c]] (· = (smS a b c).d) := by
  have ra : -41 < a.tmod 41 ∧ a.tmod 41 < 41 := by
    have := Int.natAbs_tmod a 41
    have := Nat.mod_lt a.natAbs (show 0 < (41 : Int).natAbs by decide)
    have h41 : (41 : Int).natAbs = 41 := rfl
    omega
  have rb : 0 ≤ b.tmod 9 ∧ b.tmod 9 < 9 := ⟨Int.tmod_nonneg _ hb, Int.tmod_lt_of_pos _ (by omega)⟩
  have rc : 0 ≤ c.tmod 15 ∧ c.tmod 15 < 15 := ⟨Int.tmod_nonneg _ hc, Int.tmod_lt_of_pos _ (by omega)⟩
  have hm := mul_bd (a := b.tmod 9 + 1) (b := c.tmod 15) (A := 9) (B := 15) (by omega) (by omega)
  have dd : Dat (.agg [.int .i64 a, .int .u32 b, .int .u16 c]) := dat_agg (by simp)
  refine vcall_V F_ref25_Small_ok (cDr_ok _ _ _) rfl (V_ref25_Small_ok _ _) ?_
  unfold V_ref25_Small
  rw [g_box]
  refine ⟨dd.one, fun m t => ?_⟩
  rw [g_alloc]
  intro m2 t2
  have n12 : m ≠ m2 := t2.ne (by rw [upd_self]; simp)
  obtain ⟨hA, eA⟩ : ∃ hA, hA = upd (upd noHeap m (.box (.agg [.int .i64 a, .int .u32 b, .int .u16 c]))) m2 (.box (.agg [.int .i64 0, .int .i64 0, .int .i64 0])) := ⟨_, rfl⟩
  rw [← eA]
  have a1 : hA m2 = .box (.agg [.int .i64 0, .int .i64 0, .int .i64 0]) := by rw [eA, upd_self]
  have a0 : hA m = .box (.agg [.int .i64 a, .int .u32 b, .int .u16 c]) := by rw [eA, upd_other _ _ n12, upd_self]
  clear eA
  have w1 : IntKind.i64.wrap (b.tmod 9) = b.tmod 9 := wrap64 (by omega) (by omega)
  have w2 : IntKind.i64.wrap (c.tmod 15) = c.tmod 15 := wrap64 (by omega) (by omega)
  simp (disch := omega) only [↓dfab a0, ↓dldb a0 (j := 0) rfl, ↓dldb a0 (j := 1) rfl, ↓cS, ↓d_conv, ↓h_conv, w1]
  simp (disch := omega) only [↓cS, ↓fab a0, ↓ldb a0 (j := 2) rfl, ↓h_conv, w2]
  refine t_call1 c_refMade ⟨dat_int, dat_int, dat_int, trivial⟩ ?_
  unfold mkR spn
  simp only [↓st3i a1, ↓ld3u]
  exact vret_spn rfl
end Go.Am
/- Whether a form is valid: the reference. No condition. -/
namespace Go.Am
open Go Go.Proofs

theorem c_Edge : VCall PP n_ref25_Edge [] (· = .int .i64 1099511627776) := by
  refine vcall_V F_ref25_Edge_ok (cDr_ok _ _ _) rfl (V_ref25_Edge_ok _) ?_
  unfold V_ref25_Edge
  rw [vret_int]
theorem c_rnear {n : Int} (h1 : -1099511627776 ≤ n) (h2 : n ≤ 1099511627776) : VCall PP n_ref25_near [.int .i64 n] (· = .bool true) := by
  refine vcall_V F_ref25_near_ok (cDr_ok _ _ _) rfl (V_ref25_near_ok _ _) ?_
  unfold V_ref25_near
  refine t_call1 c_Edge trivial ?_
  simp (disch := omega) only [↓cS, ↓gS]
  refine t_call1 c_Edge trivial ?_
  simp (disch := omega) only [↓cS, ↓gS]
  exact vret_b rfl
theorem c_rValid {lo hi st : Int} (h : SOk 1099511627776 lo hi st) : VCall PP n_ref25_Valid [spn lo hi st] (· = .bool true) := by
  obtain ⟨h1, h2, h3, h4⟩ := h
  refine vcall_V F_ref25_Valid_ok (cDr_ok _ _ _) rfl (V_ref25_Valid_ok _ _) ?_
  unfold V_ref25_Valid
  rw [g_box]
  refine ⟨spn_dat.one, fun m t => ?_⟩
  have a0 := upd_self noHeap m (.box (spn lo hi st))
  generalize upd noHeap m (.box (spn lo hi st)) = hA at a0
  unfold spn at a0
  simp (disch := omega) only [↓fab a0, ↓ldb a0 (j := 0) rfl]
  refine t_call1 (c_rnear h1 (by omega)) ⟨dat_int, trivial⟩ ?_
  simp (disch := omega) only [↓fab a0, ↓ldb a0 (j := 1) rfl, ↓gS]
  refine t_call1 (c_rnear (by omega) h2) ⟨dat_int, trivial⟩ ?_
  rcases h4 with ⟨rfl, rfl⟩ | ⟨g1, g2, g3⟩
  · simp (disch := omega) only [↓fab a0, ↓ldb a0 (j := 0) rfl, ↓ldb a0 (j := 1) rfl, ↓ldb a0 (j := 2) rfl, ↓cS, ↓gS]
    exact vret_b rfl
  · simp (disch := omega) only [↓fab a0, ↓ldb a0 (j := 0) rfl, ↓ldb a0 (j := 1) rfl, ↓ldb a0 (j := 2) rfl, ↓cS, ↓gS]
    exact vret_b rfl

theorem c_rGcd {a b : Int} (ha : -1000000 ≤ a ∧ a ≤ 1000000) (hb : -1000000 ≤ b ∧ b ≤ 1000000) : VCall PP n_ref25_Gcd [.int .i64 a, .int .i64 b] (· = .int .i64 (Nat.gcd a.natAbs b.natAbs)) := by
  refine vcall_V F_ref25_Gcd_ok (cDr_ok _ _ _) rfl (V_ref25_Gcd_ok _ _ _) ?_
  unfold V_ref25_Gcd
  refine ⟨fun q _ => q = [.int .i64 (a.natAbs : Int)], ?_, ?_⟩
  · rintro f h hf
    simp only [List.cons.injEq, and_true] at hf
    refine ⟨fun q _ => q = [.int .i64 (b.natAbs : Int)], ?_, ?_⟩
    · rintro f2 h2 hf2
      simp only [List.cons.injEq, and_true] at hf2
      refine ⟨fun q _ => q = [.int .i64 (Nat.gcd a.natAbs b.natAbs : Nat)], ?_, ?_⟩
      · rintro f3 h3 hf3
        simp only [List.cons.injEq, and_true] at hf3
        rw [hf3, vret_int]
      · unfold V_ref25_Gcd_L0
        refine ⟨fun n q _ => ∃ (g y : Nat), n = y ∧ q = [.int .i64 (g : Int), .int .i64 (y : Int)] ∧ Nat.gcd g y = Nat.gcd a.natAbs b.natAbs, b.natAbs, ⟨_, _, rfl, by rw [hf, hf2], rfl⟩, ?_⟩
        rintro n f h ⟨g, y, hn, hf, hg⟩
        subst hn
        simp only [List.cons.injEq, and_true] at hf
        rw [hf.1, hf.2]
        by_cases hy : n = 0
        · simp (disch := omega) only [↓cS, ↓gS]
          refine ⟨by first | exact trivial | exact rfl, ?_⟩
          rw [← hg, hy, Nat.gcd_zero_right]
        · simp (disch := omega) only [↓cS, ↓gS]
          refine ⟨by first | exact trivial | exact rfl, g % n, Nat.mod_lt _ (by omega), n, g % n, rfl, ?_, ?_⟩
          · rw [Int.ofNat_tmod]
          · rw [← hg, Nat.gcd_comm g n, Nat.gcd_rec n g, Nat.gcd_comm]
    · rw [hf]
      by_cases c : b < 0
      · simp (disch := omega) only [↓cS, ↓gS]
        refine ⟨by first | exact trivial | exact rfl, ?_⟩
        simp only [List.cons.injEq, and_true, D.int.injEq, true_and]; omega
      · simp (disch := omega) only [↓cS, ↓gS]
        refine ⟨by first | exact trivial | exact rfl, ?_⟩
        simp only [List.cons.injEq, and_true, D.int.injEq, true_and]; omega
  · by_cases c : a < 0
    · simp (disch := omega) only [↓cS, ↓gS]
      refine ⟨by first | exact trivial | exact rfl, ?_⟩
      simp only [List.cons.injEq, and_true, D.int.injEq, true_and]; omega
    · simp (disch := omega) only [↓cS, ↓gS]
      refine ⟨by first | exact trivial | exact rfl, ?_⟩
      simp only [List.cons.injEq, and_true, D.int.injEq, true_and]; omega

/-- A span with an error, or a flag. -/
def spe (a b c e : Int) : D := .agg [.int .i64 a, .int .i64 b, .int .i64 c, .int .i64 e]
def spb (a b c : Int) (e : Bool) : D := .agg [.int .i64 a, .int .i64 b, .int .i64 c, .bool e]
theorem spe_dat {a b c e : Int} : Dat (spe a b c e) := dat_agg (by simp)
theorem spb_dat {a b c : Int} {e : Bool} : Dat (spb a b c e) := dat_agg (by simp)
theorem st4 {P : Program} {h : Heap} {KH : D → Heap → Prop} {n : Nat} {x y z w p q r e : D} (a : h n = .box (.agg [x, y, z, w])) (h1 : p.one = true) (h2 : q.one = true) (h3 : r.one = true) (h4 : e.one = true) :
    vhOp P (.st (.c (.ptr n 0 0)) (.c (.agg [p, q, r, e])) 4) h KH = KH .undef (upd h n (.box (.agg [p, q, r, e]))) := by
  rw [g_st, a]
  apply propext
  constructor
  · exact fun hh => by simpa using hh.2.2
  · intro hk
    refine ⟨rfl, fun w hw => ?_, rfl, by simp, by simpa using hk⟩
    simp at hw; rcases hw with rfl | rfl | rfl | rfl <;> assumption
theorem st4i {P : Program} {h : Heap} {KH : D → Heap → Prop} {n : Nat} {x y z w : D} {p q r e : Int} (a : h n = .box (.agg [x, y, z, w])) :
    vhOp P (.st (.c (.ptr n 0 0)) (.c (.agg [.int .i64 p, .int .i64 q, .int .i64 r, .int .i64 e])) 4) h KH = KH .undef (upd h n (.box (.agg [.int .i64 p, .int .i64 q, .int .i64 r, .int .i64 e]))) := st4 a rfl rfl rfl rfl
theorem st4b {P : Program} {h : Heap} {KH : D → Heap → Prop} {n : Nat} {x y z w : D} {p q r : Int} {e : Bool} (a : h n = .box (.agg [x, y, z, w])) :
    vhOp P (.st (.c (.ptr n 0 0)) (.c (.agg [.int .i64 p, .int .i64 q, .int .i64 r, .bool e])) 4) h KH = KH .undef (upd h n (.box (.agg [.int .i64 p, .int .i64 q, .int .i64 r, .bool e]))) := st4 a rfl rfl rfl rfl
theorem ld4 {P : Program} {h : Heap} {KH : D → Heap → Prop} {n : Nat} {x y z w : D} (a : h n = .box (.agg [x, y, z, w])) : vhOp P (.ld (.c (.ptr n 0 0)) 4 true) h KH = KH (.agg [x, y, z, w]) h := lda a
theorem ld4u {P : Program} {h : Heap} {KH : D → Heap → Prop} {n : Nat} {x y z w : D} : vhOp P (.ld (.c (.ptr n 0 0)) 4 true) (upd h n (.box (.agg [x, y, z, w]))) KH = KH (.agg [x, y, z, w]) (upd h n (.box (.agg [x, y, z, w]))) := lda (upd_self _ _ _)
theorem dld4 {P : Program} {h : Heap} {K : D → Prop} {n : Nat} {x y z w : D} (a : h n = .box (.agg [x, y, z, w])) : vdOp P (.ld (.c (.ptr n 0 0)) 4 true) h K = K (.agg [x, y, z, w]) := by rw [d_ld, ld4 a]
theorem ld30 {P : Program} {h : Heap} {KH : D → Heap → Prop} {n : Nat} {x y z w : D} (a : h n = .box (.agg [x, y, z, w])) : vhOp P (.ld (.c (.ptr n 0 0)) 3 true) h KH = KH (.agg [x, y, z]) h := ldp a (by simp)
theorem bld4a {P : Program} {h : Heap} {KH : D → Heap → Prop} {x y z w : D} {a b c : Int} : vhOp P (.bld [x, y, z, w] [(0, 3, (.c (.agg [.int .i64 a, .int .i64 b, .int .i64 c])))]) h KH = KH (.agg [.int .i64 a, .int .i64 b, .int .i64 c, w]) h := by
  rw [h_bld]
  simp [fillOkV, fillD, Arg.get]
theorem bld4b {P : Program} {h : Heap} {KH : D → Heap → Prop} {x y z w : D} {a b c : Int} {e : Bool} : vhOp P (.bld [x, y, z, w] [(0, 3, (.c (.agg [.int .i64 a, .int .i64 b, .int .i64 c]))), (3, 1, (.c (.bool e)))]) h KH = KH (.agg [.int .i64 a, .int .i64 b, .int .i64 c, .bool e]) h := by
  rw [h_bld]
  simp [fillOkV, fillD, Arg.get]

theorem c_rbounded {lo hi st : Int} (h1 : -1099511627776 ≤ lo) (h2 : lo ≤ 1099511627776) (h3 : -1099511627776 ≤ hi) (h4 : hi ≤ 1099511627776) :
    VCall PP n_ref25_bounded [.int .i64 lo, .int .i64 hi, .int .i64 st] (· = spe lo hi (if lo = hi then 0 else st) 0) := by
  refine vcall_V F_ref25_bounded_ok (cDr_ok _ _ _) rfl (V_ref25_bounded_ok _ _ _ _) ?_
  unfold V_ref25_bounded
  rw [g_alloc]
  intro m t
  refine t_call1 (c_rnear h1 h2) ⟨dat_int, trivial⟩ ?_
  simp only [↓gS]
  refine t_call1 (c_rnear h3 h4) ⟨dat_int, trivial⟩ ?_
  simp only [↓gS]
  refine t_call1 c_refMade ⟨dat_int, dat_int, dat_int, trivial⟩ ?_
  unfold mkR spn
  simp only [↓bld4a, ↓st4i (upd_self _ _ _), ↓ld4u]
  exact vret_vd spe_dat.pair rfl
theorem c_rAddIn {a b c a' b' c' : Int} (h1 : -1000000 ≤ a ∧ a ≤ 1000000) (h2 : -1000000 ≤ b ∧ b ≤ 1000000) (h3 : -1000000 ≤ a' ∧ a' ≤ 1000000) (h4 : -1000000 ≤ b' ∧ b' ≤ 1000000) (h5 : -1000000 ≤ c ∧ c ≤ 1000000) (h6 : -1000000 ≤ c' ∧ c' ≤ 1000000) :
    VCall PP n_ref25_AddIn [spn a b c, spn a' b' c'] (· = spe (a + a') (b + b') (if a + a' = b + b' then 0 else (Nat.gcd c.natAbs c'.natAbs : Nat)) 0) := by
  refine vcall_V F_ref25_AddIn_ok (cDr_ok _ _ _) rfl (V_ref25_AddIn_ok _ _ _) ?_
  unfold V_ref25_AddIn
  rw [g_box]
  refine ⟨spn_dat.one, fun m t => ?_⟩
  rw [g_box]
  refine ⟨spn_dat.one, fun m2 t2 => ?_⟩
  rw [g_alloc]
  intro m3 t3
  have n12 : m ≠ m2 := t2.ne (by rw [upd_self]; simp)
  have n23 : m2 ≠ m3 := t3.ne (by rw [upd_self]; simp)
  have n13 : m ≠ m3 := t3.ne (by rw [upd_other _ _ n12, upd_self]; simp)
  obtain ⟨hA, eA⟩ : ∃ hA, hA = upd (upd (upd noHeap m (.box (spn a b c))) m2 (.box (spn a' b' c'))) m3 (.box (.agg [.int .i64 0, .int .i64 0, .int .i64 0, .int .i64 0])) := ⟨_, rfl⟩
  rw [← eA]
  have a2 : hA m3 = .box (.agg [.int .i64 0, .int .i64 0, .int .i64 0, .int .i64 0]) := by rw [eA, upd_self]
  have a1 : hA m2 = .box (spn a' b' c') := by rw [eA, upd_other _ _ n23, upd_self]
  have a0 : hA m = .box (spn a b c) := by rw [eA, upd_other _ _ n13, upd_other _ _ n12, upd_self]
  clear eA
  unfold spn at a0 a1
  simp (disch := omega) only [↓dfab a0, ↓dfab a1, ↓dldb a0 (j := 0) rfl, ↓dldb a0 (j := 1) rfl, ↓dldb a0 (j := 2) rfl, ↓dldb a1 (j := 0) rfl, ↓dldb a1 (j := 1) rfl, ↓dldb a1 (j := 2) rfl, ↓cS]
  refine td_call (c_rGcd h5 h6) ⟨dat_int, dat_int, trivial⟩ ?_
  refine td_call (c_rbounded (by omega) (by omega) (by omega) (by omega)) ⟨dat_int, dat_int, dat_int, trivial⟩ ?_
  unfold spe
  simp only [↓st4i a2, ↓ld4u]
  exact vret_vd spe_dat.pair rfl

theorem c_one {n : Int} : VCall PP n_ref26_one [.int .i64 n] (· = spn n n 0) := by
  refine vcall_V F_ref26_one_ok (cDr_ok _ _ _) rfl (V_ref26_one_ok _ _) ?_
  unfold V_ref26_one
  rw [g_alloc]
  intro m t
  simp only [↓bld32, ↓st3i (upd_self _ _ _), ↓ld3u]
  exact vret_spn rfl
theorem c_part {k n : Int} (hn : 0 ≤ n ∧ n ≤ 100) (hk : -200 ≤ k ∧ k ≤ 200) : VCall PP n_ref26_part [.int .i64 k, .int .i64 n] (· = spn (pL k n) (pH k n) (pS k n)) := by
  refine vcall_V F_ref26_part_ok (cDr_ok _ _ _) rfl (V_ref26_part_ok _ _ _) ?_
  unfold V_ref26_part
  rw [g_alloc]
  intro m t
  by_cases c : n < 2 ∨ k = 0
  · have e : spn (pL k n) (pH k n) (pS k n) = spn 0 0 0 := by unfold pL pH pS; rw [if_pos c, if_pos c, if_pos c]
    rw [e]
    by_cases c1 : k = 0
    · simp (disch := omega) only [↓cS, ↓gS]
      refine t_call1 c_one ⟨dat_int, trivial⟩ ?_
      unfold spn
      simp only [↓st3i (upd_self _ _ _), ↓ld3u]
      exact vret_spn rfl
    · simp (disch := omega) only [↓cS, ↓gS]
      refine t_call1 c_one ⟨dat_int, trivial⟩ ?_
      unfold spn
      simp only [↓st3i (upd_self _ _ _), ↓ld3u]
      exact vret_spn rfl
  · have hk0 : k ≠ 0 := fun h => c (Or.inr h)
    have hb := mul_bd (a := k) (b := n - 1) (A := 200) (B := 100) hk (by omega)
    by_cases c1 : k < 0
    · simp (disch := omega) only [↓cS, ↓gS, ↓st3i (upd_self _ _ _), ↓ld3u]
      refine vret_spn ?_
      unfold pL pH pS
      rw [if_neg c, if_neg c, if_neg c, Int.mul_comm (n - 1) k]
      have : k * (n - 1) < 0 := Int.mul_neg_of_neg_of_pos c1 (by omega)
      unfold mnI mxI
      rw [if_pos this, if_neg (by omega)]
      congr 1; omega
    · simp (disch := omega) only [↓cS, ↓gS, ↓st3i (upd_self _ _ _), ↓ld3u]
      refine vret_spn ?_
      unfold pL pH pS
      rw [if_neg c, if_neg c, if_neg c, Int.mul_comm (n - 1) k]
      have : 0 < k * (n - 1) := Int.mul_pos (by omega) (by omega)
      unfold mnI mxI
      rw [if_neg (by omega), if_pos this]
      congr 1; omega
end Go.Am
/- Whether a form is valid: the reference, second part. No condition. -/
namespace Go.Am
open Go Go.Proofs

theorem part_ok {k n : Int} (hn : 0 ≤ n ∧ n ≤ 100) (hk : -200 ≤ k ∧ k ≤ 200) : SOk 1099511627776 (pL k n) (pH k n) (pS k n) := by
  obtain ⟨p1, p2, p3⟩ := p_bd hk hn
  refine ⟨by omega, by omega, ?_, ?_⟩
  · unfold pL pH
    by_cases c : n < 2 ∨ k = 0
    · rw [if_pos c, if_pos c]; omega
    · rw [if_neg c, if_neg c]; unfold mnI mxI; split <;> split <;> omega
  · unfold pL pH pS
    by_cases c : n < 2 ∨ k = 0
    · rw [if_pos c, if_pos c, if_pos c]; left; exact ⟨rfl, rfl⟩
    · rw [if_neg c, if_neg c, if_neg c]
      right
      have hk0 : k ≠ 0 := fun h => c (Or.inr h)
      have hd : (k.natAbs : Int) ∣ (n - 1) * k := Int.dvd_trans (Int.natAbs_dvd.2 (Int.dvd_refl k)) (Int.dvd_mul_left _ _)
      have hd' : (k.natAbs : Int) ∣ -((n - 1) * k) := (Int.dvd_neg).2 hd
      have hne : (n - 1) * k ≠ 0 := fun h => by
        rcases Int.mul_eq_zero.1 h with h | h <;> omega
      unfold mnI mxI
      refine ⟨by split <;> split <;> omega, by omega, ?_⟩
      apply Int.tmod_eq_zero_of_dvd
      split <;> split
      · omega
      · rw [Int.sub_zero]; exact hd
      · rw [Int.zero_sub]; exact hd'
      · exact ⟨0, by omega⟩

theorem c_plus {s : Sp} {k n : Int} (h : s.In 900000) (hn : 0 ≤ n ∧ n ≤ 100) (hk : -200 ≤ k ∧ k ≤ 200) :
    VCall PP n_ref26_plus [spb s.lo s.hi s.st true, spn (pL k n) (pH k n) (pS k n)] (· = spb (s.add k n).lo (s.add k n).hi (s.add k n).st true) := by
  obtain ⟨p1, p2, p3⟩ := p_bd hk hn
  obtain ⟨i1, i2, i3⟩ := h
  refine vcall_V F_ref26_plus_ok (cDr_ok _ _ _) rfl (V_ref26_plus_ok _ _ _) ?_
  unfold V_ref26_plus
  rw [g_box]
  refine ⟨spb_dat.one, fun m t => ?_⟩
  rw [g_box]
  refine ⟨spn_dat.one, fun m2 t2 => ?_⟩
  rw [g_alloc]
  intro m3 t3
  have n12 : m ≠ m2 := t2.ne (by rw [upd_self]; simp)
  have n23 : m2 ≠ m3 := t3.ne (by rw [upd_self]; simp)
  have n13 : m ≠ m3 := t3.ne (by rw [upd_other _ _ n12, upd_self]; simp)
  obtain ⟨hA, eA⟩ : ∃ hA, hA = upd (upd (upd noHeap m (.box (spb s.lo s.hi s.st true))) m2 (.box (spn (pL k n) (pH k n) (pS k n)))) m3 (.box (.agg [.int .i64 0, .int .i64 0, .int .i64 0, .bool false])) := ⟨_, rfl⟩
  rw [← eA]
  have a2 : hA m3 = .box (.agg [.int .i64 0, .int .i64 0, .int .i64 0, .bool false]) := by rw [eA, upd_self]
  have a1 : hA m2 = .box (spn (pL k n) (pH k n) (pS k n)) := by rw [eA, upd_other _ _ n23, upd_self]
  have a0 : hA m = .box (spb s.lo s.hi s.st true) := by rw [eA, upd_other _ _ n13, upd_other _ _ n12, upd_self]
  clear eA
  unfold spb at a0
  unfold spn at a1
  simp (disch := omega) only [↓fab a0, ↓ldb a0 (j := 3) rfl, ↓gS, ↓ld3 a1]
  refine t_call1 (c_rValid (part_ok hn hk)) ⟨spn_dat, trivial⟩ ?_
  simp (disch := omega) only [↓gS, ↓fab a0, ↓ld30 a0, ↓ld3 a1]
  refine t_call1 (c_rAddIn (a := s.lo) (b := s.hi) (c := s.st) (a' := pL k n) (b' := pH k n) (c' := pS k n) (by omega) (by omega) (by omega) (by omega) (by omega) (by omega)) ⟨spn_dat, spn_dat, trivial⟩ ?_
  rw [g_alloc]
  intro m4 t4
  have n34 : m3 ≠ m4 := t4.ne (by rw [a2]; simp)
  have b3 := keepU (x := .box (spe (s.lo + pL k n) (s.hi + pH k n) (if s.lo + pL k n = s.hi + pH k n then 0 else (Nat.gcd s.st.natAbs (pS k n).natAbs : Nat)) 0)) n34 a2
  have b4 := upd_self hA m4 (.box (spe (s.lo + pL k n) (s.hi + pH k n) (if s.lo + pL k n = s.hi + pH k n then 0 else (Nat.gcd s.st.natAbs (pS k n).natAbs : Nat)) 0))
  unfold spe at b3 b4 ⊢
  simp only [↓st4i (upd_self hA m4 (.box (.agg [.int .i64 0, .int .i64 0, .int .i64 0, .int .i64 0])))]
  rw [upd_upd]
  simp (disch := omega) only [↓fab b4, ↓ld30 b4, ↓ldb b4 (j := 3) rfl, ↓cS, ↓bld4b, ↓st4b b3, ↓ld4u]
  exact vret_vd spb_dat.pair rfl

theorem c_small {k : Int} (h1 : -2147483648 ≤ k) (h2 : k ≤ 2147483648) : VCall PP n_ref26_small [.int .i64 k] (· = .bool true) := by
  refine vcall_V F_ref26_small_ok (cDr_ok _ _ _) rfl (V_ref26_small_ok _ _) ?_
  unfold V_ref26_small
  simp (disch := omega) only [↓cS, ↓gS]
  exact vret_b rfl
theorem c_word {a b c : Int} (h1 : -2147483648 ≤ a) (h2 : b < 2147483648) : VCall PP n_ref26_word [spb a b c true] (· = .bool true) := by
  refine vcall_V F_ref26_word_ok (cDr_ok _ _ _) rfl (V_ref26_word_ok _ _) ?_
  unfold V_ref26_word
  rw [g_box]
  refine ⟨spb_dat.one, fun m t => ?_⟩
  have a0 := upd_self noHeap m (.box (spb a b c true))
  generalize upd noHeap m (.box (spb a b c true)) = hA at a0
  unfold spb at a0
  simp (disch := omega) only [↓fab a0, ↓ldb a0 (j := 3) rfl, ↓ldb a0 (j := 0) rfl, ↓ldb a0 (j := 1) rfl, ↓cS, ↓gS]
  exact vret_b rfl
end Go.Am
/- Whether a form is valid: the reference, third part. No condition. -/
namespace Go.Am
open Go Go.Proofs

theorem dld7 {P : Program} {h : Heap} {K : D → Prop} {n : Nat} {i l g : Int} {s : Sp} (a : h n = .box (frm i l g s)) : vdOp P (.ld (.c (.ptr n 0 0)) 7 true) h K = K (frm i l g s) := by
  rw [d_ld]; exact lda a
theorem ld7 {P : Program} {h : Heap} {KH : D → Heap → Prop} {n : Nat} {i l g : Int} {s : Sp} (a : h n = .box (frm i l g s)) : vhOp P (.ld (.c (.ptr n 0 0)) 7 true) h KH = KH (frm i l g s) h := lda a
theorem ldA {P : Program} {h : Heap} {KH : D → Heap → Prop} {n : Nat} {i l g : Int} {s : Sp} (a : h n = .box (frm i l g s)) : vhOp P (.ld (.c (.ptr n 0 0)) 1 false) h KH = KH (.bool false) h := ldb a rfl
theorem ldI {P : Program} {h : Heap} {KH : D → Heap → Prop} {n : Nat} {i l g : Int} {s : Sp} (a : h n = .box (frm i l g s)) : vhOp P (.ld (.c (.ptr n 0 1)) 1 false) h KH = KH (.int .i64 i) h := ldb a rfl
theorem ldL {P : Program} {h : Heap} {KH : D → Heap → Prop} {n : Nat} {i l g : Int} {s : Sp} (a : h n = .box (frm i l g s)) : vhOp P (.ld (.c (.ptr n 0 2)) 1 false) h KH = KH (.int .i64 l) h := ldb a rfl
theorem ldG {P : Program} {h : Heap} {KH : D → Heap → Prop} {n : Nat} {i l g : Int} {s : Sp} (a : h n = .box (frm i l g s)) : vhOp P (.ld (.c (.ptr n 0 3)) 1 false) h KH = KH (.int .i64 g) h := ldb a rfl
theorem ldR {P : Program} {h : Heap} {KH : D → Heap → Prop} {n : Nat} {i l g : Int} {s : Sp} (a : h n = .box (frm i l g s)) : vhOp P (.ld (.c (.ptr n 0 4)) 3 true) h KH = KH s.d h := ld43 a
theorem dldI {P : Program} {h : Heap} {K : D → Prop} {n : Nat} {i l g : Int} {s : Sp} (a : h n = .box (frm i l g s)) : vdOp P (.ld (.c (.ptr n 0 1)) 1 false) h K = K (.int .i64 i) := dldb a rfl
theorem dldL {P : Program} {h : Heap} {K : D → Prop} {n : Nat} {i l g : Int} {s : Sp} (a : h n = .box (frm i l g s)) : vdOp P (.ld (.c (.ptr n 0 2)) 1 false) h K = K (.int .i64 l) := dldb a rfl
theorem dldG {P : Program} {h : Heap} {K : D → Prop} {n : Nat} {i l g : Int} {s : Sp} (a : h n = .box (frm i l g s)) : vdOp P (.ld (.c (.ptr n 0 3)) 1 false) h K = K (.int .i64 g) := dldb a rfl
theorem dldR {P : Program} {h : Heap} {K : D → Prop} {n : Nat} {i l g : Int} {s : Sp} (a : h n = .box (frm i l g s)) : vdOp P (.ld (.c (.ptr n 0 4)) 3 true) h K = K s.d := by rw [d_ld]; exact ld43 a
theorem st1 {P : Program} {h : Heap} {KH : D → Heap → Prop} {n j : Nat} {cs : List D} {v : Int} (a : h n = .box (.agg cs)) (hj : j < cs.length) :
    vhOp P (.st (.c (.ptr n 0 j)) (.c (.int .i64 v)) 1) h KH = KH .undef (upd h n (.box (.agg (cs.take j ++ [.int .i64 v] ++ cs.drop (j + 1))))) := by
  rw [g_st, a]
  apply propext
  constructor
  · exact fun hh => hh.2.2.2.2
  · intro hk
    exact ⟨rfl, by simp, rfl, hj, hk⟩
theorem stI {P : Program} {h : Heap} {KH : D → Heap → Prop} {n : Nat} {i l g v : Int} {s : Sp} (a : h n = .box (frm i l g s)) : vhOp P (.st (.c (.ptr n 0 1)) (.c (.int .i64 v)) 1) h KH = KH .undef (upd h n (.box (frm v l g s))) := st1 a (by simp)
theorem stL {P : Program} {h : Heap} {KH : D → Heap → Prop} {n : Nat} {i l g v : Int} {s : Sp} (a : h n = .box (frm i l g s)) : vhOp P (.st (.c (.ptr n 0 2)) (.c (.int .i64 v)) 1) h KH = KH .undef (upd h n (.box (frm i v g s))) := st1 a (by simp)
theorem stG {P : Program} {h : Heap} {KH : D → Heap → Prop} {n : Nat} {i l g v : Int} {s : Sp} (a : h n = .box (frm i l g s)) : vhOp P (.st (.c (.ptr n 0 3)) (.c (.int .i64 v)) 1) h KH = KH .undef (upd h n (.box (frm i l v s))) := st1 a (by simp)
theorem st7 {P : Program} {h : Heap} {KH : D → Heap → Prop} {n : Nat} {i l g : Int} {s : Sp} {x0 x1 x2 x3 x4 x5 x6 : D} (a : h n = .box (.agg [x0, x1, x2, x3, x4, x5, x6])) : vhOp P (.st (.c (.ptr n 0 0)) (.c (frm i l g s)) 7) h KH = KH .undef (upd h n (.box (frm i l g s))) := by
  rw [g_st, a]
  apply propext
  constructor
  · exact fun hh => hh.2.2.2.2
  · intro hk
    exact ⟨rfl, frm_dat.one, rfl, by simp [frm], hk⟩

/-- The canonical coefficients. -/
def canL (G i l : Int) : Int := if G = 1 then 0 else l + i
def canG (G N i g : Int) : Int := if N = 1 then 0 else g + i * G
def canR (G N i l g : Int) (s : Sp) : D := if canL G i l ≠ 0 ∧ canG G N i g = canL G i l * G then frm (canL G i l) 0 0 s else frm 0 (canL G i l) (canG G N i g) s
set_option maxHeartbeats 1000000 in
theorem c_canonical {G N i l g : Int} {s : Sp} {r : List D} (hr : r.length = 7) (hrv : ∀ x, x ∈ r → x.vone = true) (hG : 0 ≤ G ∧ G ≤ 8) (hi : -200 ≤ i ∧ i ≤ 200) (hl : -200 ≤ l ∧ l ≤ 200) (hg : -200 ≤ g ∧ g ≤ 200) :
    VCall PP n_ref26_canonical [.agg (cdc G r), .int .i64 N, frm i l g s] (· = canR G N i l g s) := by
  have cdat : Dat (.agg (cdc G r)) := dat_agg (by
    intro x hx
    simp [cdc] at hx
    rcases hx with rfl | hx
    · rfl
    · exact hrv x hx)
  have hiG := mul_bd (a := i) (b := G) hi hG
  refine vcall_V F_ref26_canonical_ok (cDr_ok _ _ _) rfl (V_ref26_canonical_ok _ _ _ _) ?_
  unfold V_ref26_canonical
  rw [g_box]
  refine ⟨cdat.one, fun m t => ?_⟩
  rw [g_box]
  refine ⟨frm_dat.one, fun m2 t2 => ?_⟩
  rw [g_alloc]
  intro m3 t3
  have n12 : m ≠ m2 := t2.ne (by rw [upd_self]; simp)
  have n23 : m2 ≠ m3 := t3.ne (by rw [upd_self]; simp)
  have n13 : m ≠ m3 := t3.ne (by rw [upd_other _ _ n12, upd_self]; simp)
  have n32 : m3 ≠ m2 := fun h => n23 h.symm
  obtain ⟨hA, eA⟩ : ∃ hA, hA = upd (upd (upd noHeap m (.box (.agg (cdc G r)))) m2 (.box (frm i l g s))) m3 (.box (.agg [.bool false, .int .i64 0, .int .i64 0, .int .i64 0, .int .i64 0, .int .i64 0, .int .i64 0])) := ⟨_, rfl⟩
  rw [← eA]
  have a2 : hA m3 = .box (.agg [.bool false, .int .i64 0, .int .i64 0, .int .i64 0, .int .i64 0, .int .i64 0, .int .i64 0]) := by rw [eA, upd_self]
  have a1 : hA m2 = .box (frm i l g s) := by rw [eA, upd_other _ _ n23, upd_self]
  have a0 : hA m = .box (.agg (cdc G r)) := by rw [eA, upd_other _ _ n13, upd_other _ _ n12, upd_self]
  clear eA
  simp (disch := omega) only [↓fab a0, ↓ldb a0 (j := 0) rfl, ↓fab a1, ↓ldL a1, ↓ldI a1, ↓cS, ↓stL a1]
  have b1 := upd_self hA m2 (.box (frm i (l + i) g s))
  have b0 := keepU (x := .box (frm i (l + i) g s)) n12 a0
  have b2 := keepU (x := .box (frm i (l + i) g s)) n32 a2
  generalize upd hA m2 (.box (frm i (l + i) g s)) = hB at b0 b1 b2
  simp (disch := omega) only [↓fab b1, ↓ldG b1, ↓ldI b1, ↓cS, ↓stG b1]
  have c1 := upd_self hB m2 (.box (frm i (l + i) (g + i * G) s))
  have c0 := keepU (x := .box (frm i (l + i) (g + i * G) s)) n12 b0
  have c2 := keepU (x := .box (frm i (l + i) (g + i * G) s)) n32 b2
  generalize upd hB m2 (.box (frm i (l + i) (g + i * G) s)) = hC at c0 c1 c2
  simp (disch := omega) only [↓fab c1, ↓stI c1]
  have d1 := upd_self hC m2 (.box (frm 0 (l + i) (g + i * G) s))
  have d0 := keepU (x := .box (frm 0 (l + i) (g + i * G) s)) n12 c0
  have d2 := keepU (x := .box (frm 0 (l + i) (g + i * G) s)) n32 c2
  generalize upd hC m2 (.box (frm 0 (l + i) (g + i * G) s)) = hD at d0 d1 d2
  refine ⟨fun q h => h m = .box (.agg (cdc G r)) ∧ h m2 = .box (frm 0 (l + i) (canG G N i g) s) ∧ h m3 = .box (.agg [.bool false, .int .i64 0, .int .i64 0, .int .i64 0, .int .i64 0, .int .i64 0, .int .i64 0]), ?_, ?_⟩
  · rintro f h ⟨q0, q1, q2⟩
    refine ⟨fun q h => h m2 = .box (frm 0 (canL G i l) (canG G N i g) s) ∧ h m3 = .box (.agg [.bool false, .int .i64 0, .int .i64 0, .int .i64 0, .int .i64 0, .int .i64 0, .int .i64 0]), ?_, ?_⟩
    · rintro f' h' ⟨r1, r2⟩
      have bL : -400 ≤ canL G i l ∧ canL G i l ≤ 400 := by unfold canL; split <;> omega
      have bLG := mul_bd (a := canL G i l) (b := G) bL hG
      refine ⟨fun q h => (∃ a b c, canR G N i l g s = frm a b c s ∧ h m2 = .box (frm a b c s)) ∧ h m3 = .box (.agg [.bool false, .int .i64 0, .int .i64 0, .int .i64 0, .int .i64 0, .int .i64 0, .int .i64 0]), ?_, ?_⟩
      · rintro f'' h'' ⟨⟨a, b, c, e, s1⟩, s2⟩
        simp only [↓ld7 s1, ↓st7 s2, ↓ld7 (upd_self _ _ _)]
        rw [e]
        exact vret_vd frm_dat.pair rfl
      · by_cases w1 : canL G i l = 0
        · simp (disch := omega) only [↓fab r1, ↓ldL r1, ↓ldG r1, ↓cS, ↓gS]
          refine ⟨by first | exact trivial | exact rfl, ⟨_, _, _, ?_, r1⟩, r2⟩
          unfold canR; rw [if_neg (fun h => h.1 w1)]
        · by_cases w2 : canG G N i g = canL G i l * G
          · simp (disch := omega) only [↓fab r1, ↓ldL r1, ↓ldG r1, ↓cS, ↓gS, ↓stI r1]
            have u1 := upd_self h' m2 (.box (frm (canL G i l) (canL G i l) (canG G N i g) s))
            have u2 := keepU (x := .box (frm (canL G i l) (canL G i l) (canG G N i g) s)) n32 r2
            generalize upd h' m2 (.box (frm (canL G i l) (canL G i l) (canG G N i g) s)) = hE at u1 u2
            simp only [↓fab u1, ↓stL u1]
            have v1 := upd_self hE m2 (.box (frm (canL G i l) 0 (canG G N i g) s))
            have v2 := keepU (x := .box (frm (canL G i l) 0 (canG G N i g) s)) n32 u2
            generalize upd hE m2 (.box (frm (canL G i l) 0 (canG G N i g) s)) = hF at v1 v2
            simp only [↓fab v1, ↓stG v1]
            refine ⟨by first | exact trivial | exact rfl, ⟨canL G i l, 0, 0, ?_, upd_self _ _ _⟩, keepU n32 v2⟩
            unfold canR; rw [if_pos ⟨w1, w2⟩]
          · simp (disch := omega) only [↓fab r1, ↓ldL r1, ↓ldG r1, ↓cS, ↓gS]
            refine ⟨by first | exact trivial | exact rfl, ⟨_, _, _, ?_, r1⟩, r2⟩
            unfold canR; rw [if_neg (fun h => w2 h.2)]
    · simp (disch := omega) only [↓fab q0, ↓ldb q0 (j := 0) rfl]
      unfold canL
      by_cases w : G = 1
      · simp (disch := omega) only [↓cS, ↓gS, ↓fab q1, ↓stL q1]
        refine ⟨by first | exact trivial | exact rfl, ?_, keepU n32 q2⟩
        rw [upd_self, if_pos w]
      · simp (disch := omega) only [↓cS, ↓gS]
        refine ⟨by first | exact trivial | exact rfl, ?_, q2⟩
        rw [if_neg w]; exact q1
  · unfold canG
    by_cases w : N = 1
    · simp (disch := omega) only [↓cS, ↓gS, ↓fab d1, ↓stG d1]
      refine ⟨by first | exact trivial | exact rfl, keepU n12 d0, ?_, keepU n32 d2⟩
      rw [upd_self, if_pos w]
    · simp (disch := omega) only [↓cS, ↓gS]
      refine ⟨by first | exact trivial | exact rfl, d0, ?_, d2⟩
      rw [if_neg w]; exact d1
end Go.Am
/- Whether a form is valid: the reference, last part. No condition. -/
namespace Go.Am
open Go Go.Proofs

set_option maxHeartbeats 1000000 in
theorem c_RangeIn {G N i l g : Int} {s : Sp} {r : List D} (hr : r.length = 7) (hrv : ∀ x, x ∈ r → x.vone = true) (hG : 0 ≤ G ∧ G ≤ 8) (hN : 0 ≤ N ∧ N ≤ 4) (hi : -200 ≤ i ∧ i ≤ 200) (hl : -200 ≤ l ∧ l ≤ 200) (hg : -200 ≤ g ∧ g ≤ 200)
    (hs : SOk 200 s.lo s.hi s.st) (hst : s.st ≤ 200) : VCall PP n_ref26_RangeIn [.agg (cdc G r), .int .i64 N, frm i l g s] (· = spb (rng G N i l g s).lo (rng G N i l g s).hi (rng G N i l g s).st true) := by
  have hNG : 0 ≤ N * G ∧ N * G ≤ 32 := by
    have := mul_bd (a := N) (b := G) (A := 4) (B := 8) (by omega) hG
    exact ⟨Int.mul_nonneg hN.1 hG.1, by omega⟩
  have cdat : Dat (.agg (cdc G r)) := dat_agg (by
    intro x hx
    simp [cdc] at hx
    rcases hx with rfl | hx
    · rfl
    · exact hrv x hx)
  have hst0 : 0 ≤ s.st := by rcases hs.st with h | h <;> omega
  have in0 : s.In 200 := ⟨by have := hs.l; have := hs.u; have := hs.le; omega, by have := hs.l; have := hs.u; have := hs.le; omega, by omega⟩
  have i1 := in0.add (M := 200) (by omega) hi (n := N * G) (by omega)
  have i2 := i1.add (by omega) hl (n := G) (by omega)
  have w : ∀ {s : Sp} {M : Int}, s.In M → M ≤ 900000 → s.In 900000 := by
    rintro s M ⟨p1, p2, p3⟩ hM
    exact ⟨by omega, by omega, by omega⟩
  refine vcall_V F_ref26_RangeIn_ok (cDr_ok _ _ _) rfl (V_ref26_RangeIn_ok _ _ _ _) ?_
  unfold V_ref26_RangeIn
  rw [g_box]
  refine ⟨cdat.one, fun m t => ?_⟩
  rw [g_box]
  refine ⟨frm_dat.one, fun m2 t2 => ?_⟩
  rw [g_alloc]
  intro m3 t3
  have n12 : m ≠ m2 := t2.ne (by rw [upd_self]; simp)
  have n23 : m2 ≠ m3 := t3.ne (by rw [upd_self]; simp)
  have n13 : m ≠ m3 := t3.ne (by rw [upd_other _ _ n12, upd_self]; simp)
  obtain ⟨hA, eA⟩ : ∃ hA, hA = upd (upd (upd noHeap m (.box (.agg (cdc G r)))) m2 (.box (frm i l g s))) m3 (.box (.agg [.int .i64 0, .int .i64 0, .int .i64 0, .bool false])) := ⟨_, rfl⟩
  rw [← eA]
  have a2 : hA m3 = .box (.agg [.int .i64 0, .int .i64 0, .int .i64 0, .bool false]) := by rw [eA, upd_self]
  have a1 : hA m2 = .box (frm i l g s) := by rw [eA, upd_other _ _ n23, upd_self]
  have a0 : hA m = .box (.agg (cdc G r)) := by rw [eA, upd_other _ _ n13, upd_other _ _ n12, upd_self]
  clear eA
  simp (disch := omega) only [↓fab a1, ↓ldA a1, ↓gS, ↓ldR a1]
  refine t_call1 (c_rValid (lo := s.lo) (hi := s.hi) (st := s.st) ⟨by have := hs.l; omega, by have := hs.u; omega, hs.le, hs.st⟩) ⟨spn_dat, trivial⟩ ?_
  simp (disch := omega) only [↓fab a1, ↓gS, ↓ldR a1]
  unfold Sp.d spn
  simp only [↓bld4b]
  rw [g_alloc]
  intro m4 t4
  have n14 : m ≠ m4 := t4.ne (by rw [a0]; simp)
  have n24 : m2 ≠ m4 := t4.ne (by rw [a1]; simp)
  have n34 : m3 ≠ m4 := t4.ne (by rw [a2]; simp)
  simp only [↓st4b (upd_self hA m4 (.box (.agg [.int .i64 0, .int .i64 0, .int .i64 0, .bool false])))]
  rw [upd_upd]
  have b0 := keepU (x := .box (.agg [.int .i64 s.lo, .int .i64 s.hi, .int .i64 s.st, .bool true])) n14 a0
  have b1 := keepU (x := .box (.agg [.int .i64 s.lo, .int .i64 s.hi, .int .i64 s.st, .bool true])) n24 a1
  have b2 := keepU (x := .box (.agg [.int .i64 s.lo, .int .i64 s.hi, .int .i64 s.st, .bool true])) n34 a2
  have b3 := upd_self hA m4 (.box (.agg [.int .i64 s.lo, .int .i64 s.hi, .int .i64 s.st, .bool true]))
  generalize upd hA m4 (.box (.agg [.int .i64 s.lo, .int .i64 s.hi, .int .i64 s.st, .bool true])) = hB at b0 b1 b2 b3
  simp (disch := omega) only [↓dld4 b3, ↓dfab b1, ↓dldI b1, ↓dfab b0, ↓dldb b0 (j := 0) rfl, ↓cS]
  refine td_call (c_part (k := i) (n := N * G) (by omega) hi) ⟨dat_int, dat_int, trivial⟩ ?_
  refine td_call (c_plus (s := s) (k := i) (n := N * G) (w in0 (by omega)) (by omega) hi) ⟨spb_dat, spn_dat, trivial⟩ ?_
  generalize e1 : s.add i (N * G) = s1 at *
  unfold spb
  simp only [↓st4b b3]
  have c0 := keepU (x := .box (.agg [.int .i64 s1.lo, .int .i64 s1.hi, .int .i64 s1.st, .bool true])) n14 b0
  have c1 := keepU (x := .box (.agg [.int .i64 s1.lo, .int .i64 s1.hi, .int .i64 s1.st, .bool true])) n24 b1
  have c2 := keepU (x := .box (.agg [.int .i64 s1.lo, .int .i64 s1.hi, .int .i64 s1.st, .bool true])) n34 b2
  have c3 := upd_self hB m4 (.box (.agg [.int .i64 s1.lo, .int .i64 s1.hi, .int .i64 s1.st, .bool true]))
  generalize upd hB m4 (.box (.agg [.int .i64 s1.lo, .int .i64 s1.hi, .int .i64 s1.st, .bool true])) = hC at c0 c1 c2 c3
  simp (disch := omega) only [↓dld4 c3, ↓dfab c1, ↓dldL c1, ↓dfab c0, ↓dldb c0 (j := 0) rfl, ↓cS]
  refine td_call (c_part (k := l) (n := G) (by omega) hl) ⟨dat_int, dat_int, trivial⟩ ?_
  refine td_call (c_plus (s := s1) (k := l) (n := G) (w i1 (by omega)) (by omega) hl) ⟨spb_dat, spn_dat, trivial⟩ ?_
  generalize e2 : s1.add l G = s2 at *
  unfold spb
  simp only [↓st4b c3]
  have d0 := keepU (x := .box (.agg [.int .i64 s2.lo, .int .i64 s2.hi, .int .i64 s2.st, .bool true])) n14 c0
  have d1 := keepU (x := .box (.agg [.int .i64 s2.lo, .int .i64 s2.hi, .int .i64 s2.st, .bool true])) n24 c1
  have d2 := keepU (x := .box (.agg [.int .i64 s2.lo, .int .i64 s2.hi, .int .i64 s2.st, .bool true])) n34 c2
  have d3 := upd_self hC m4 (.box (.agg [.int .i64 s2.lo, .int .i64 s2.hi, .int .i64 s2.st, .bool true]))
  generalize upd hC m4 (.box (.agg [.int .i64 s2.lo, .int .i64 s2.hi, .int .i64 s2.st, .bool true])) = hD at d0 d1 d2 d3
  simp (disch := omega) only [↓dld4 d3, ↓dfab d1, ↓dldG d1, ↓cS]
  refine td_call (c_part (k := g) (n := N) (by omega) hg) ⟨dat_int, dat_int, trivial⟩ ?_
  refine td_call (c_plus (s := s2) (k := g) (n := N) (w i2 (by omega)) (by omega) hg) ⟨spb_dat, spn_dat, trivial⟩ ?_
  have e3 : rng G N i l g s = s2.add g N := by unfold rng; rw [e1, e2]
  rw [e3]
  unfold spb
  simp only [↓st4b d2, ↓ld4u]
  exact vret_vd spb_dat.pair rfl

theorem eq_frm {P : Program} {h : Heap} (a b c a' b' c' : Int) (s s' : Sp) : ∃ t : Bool, ∀ K : D → Prop, vdOp P (.eqv false true [.b, .i, .i, .i, .i, .i, .i] (.c (frm a b c s)) (.c (frm a' b' c' s'))) h K = K (.bool t) := by
  refine ⟨decide (a = a') && (decide (b = b') && (decide (c = c') && (decide (s.lo = s'.lo) && (decide (s.hi = s'.hi) && (decide (s.st = s'.st) && true))))), fun K => ?_⟩
  rw [d_eqv, h_eqv]
  have e : eqCells [.b, .i, .i, .i, .i, .i, .i] (frm a b c s).cells (frm a' b' c' s').cells = some (decide (a = a') && (decide (b = b') && (decide (c = c') && (decide (s.lo = s'.lo) && (decide (s.hi = s'.hi) && (decide (s.st = s'.st) && true)))))) := by
    simp [frm, eqCells]
  unfold veqv
  rw [e]
  simp [frm]
theorem canR_frm (G N i l g : Int) (s : Sp) : ∃ a b c, canR G N i l g s = frm a b c s := by
  unfold canR
  split
  · exact ⟨_, _, _, rfl⟩
  · exact ⟨_, _, _, rfl⟩
theorem dpickt {P : Program} {h : Heap} {K : D → Prop} {x y : D} : vdOp P (.pick (.c (.bool true)) (.c x) (.c y)) h K = K x := rfl
theorem dpickf {P : Program} {h : Heap} {K : D → Prop} {x y : D} : vdOp P (.pick (.c (.bool false)) (.c x) (.c y)) h K = K y := rfl
set_option maxHeartbeats 1000000 in
theorem c_Valid {G N i l g : Int} {s : Sp} {r : List D} (hr : r.length = 7) (hrv : ∀ x, x ∈ r → x.vone = true) (hG : 0 ≤ G ∧ G ≤ 8) (hN : 0 ≤ N ∧ N ≤ 4) (hi : -200 ≤ i ∧ i ≤ 200) (hl : -200 ≤ l ∧ l ≤ 200) (hg : -200 ≤ g ∧ g ≤ 200)
    (hs : SOk 200 s.lo s.hi s.st) (hst : s.st ≤ 200) : ∃ b : Bool, VCall PP n_ref26_Valid [.agg (cdc G r), .int .i64 N, frm i l g s] (· = .bool b) := by
  have cdat : Dat (.agg (cdc G r)) := dat_agg (by
    intro x hx
    simp [cdc] at hx
    rcases hx with rfl | hx
    · rfl
    · exact hrv x hx)
  have hNG : 0 ≤ N * G ∧ N * G ≤ 32 := by
    have := mul_bd (a := N) (b := G) (A := 4) (B := 8) (by omega) hG
    exact ⟨Int.mul_nonneg hN.1 hG.1, by omega⟩
  have hst0 : 0 ≤ s.st := by rcases hs.st with h | h <;> omega
  have in0 : s.In 200 := ⟨by have := hs.l; have := hs.u; have := hs.le; omega, by have := hs.l; have := hs.u; have := hs.le; omega, by omega⟩
  have i1 := in0.add (M := 200) (by omega) hi (n := N * G) (by omega)
  have i2 := i1.add (by omega) hl (n := G) (by omega)
  have i3 : (rng G N i l g s).In _ := i2.add (by omega) hg (n := N) (by omega)
  obtain ⟨a, b, c, hcan⟩ := canR_frm G N i l g s
  obtain ⟨tb, htb⟩ := eq_frm (P := PP) (h := noHeap) a b c i l g s s
  have htb' : ∀ (h : Heap) (K : D → Prop), vdOp PP (.eqv false true [.b, .i, .i, .i, .i, .i, .i] (.c (frm a b c s)) (.c (frm i l g s))) h K = K (.bool tb) := fun h K => htb K
  refine ⟨tb, ?_⟩
  refine vcall_V F_ref26_Valid_ok (cDr_ok _ _ _) rfl (V_ref26_Valid_ok _ _ _ _) ?_
  unfold V_ref26_Valid
  rw [g_box]
  refine ⟨cdat.one, fun m t => ?_⟩
  rw [g_box]
  refine ⟨frm_dat.one, fun m2 t2 => ?_⟩
  have n12 : m ≠ m2 := t2.ne (by rw [upd_self]; simp)
  have a1 := upd_self (upd noHeap m (.box (.agg (cdc G r)))) m2 (.box (frm i l g s))
  have a0 : upd (upd noHeap m (.box (.agg (cdc G r)))) m2 (.box (frm i l g s)) m = .box (.agg (cdc G r)) := by rw [upd_other _ _ n12, upd_self]
  generalize upd (upd noHeap m (.box (.agg (cdc G r)))) m2 (.box (frm i l g s)) = hA at a0 a1
  have l8 : (cdc G r).length = 8 := by simp [cdc, hr]
  have ld8 : ∀ {K : D → Prop}, vdOp PP (.ld (.c (.ptr m 0 0)) 8 true) hA K = K (.agg (cdc G r)) := by
    intro K
    have := lda (P := PP) (KH := fun d _ => K d) a0
    rw [l8] at this
    exact this
  simp (disch := omega) only [↓fab a1, ↓ldA a1, ↓gS, ↓dfab a1, ↓dldR a1]
  refine td_call (c_rValid (lo := s.lo) (hi := s.hi) (st := s.st) ⟨by have := hs.l; omega, by have := hs.u; omega, hs.le, hs.st⟩) ⟨spn_dat, trivial⟩ ?_
  simp (disch := omega) only [↓gS, ↓dfab a1, ↓dldI a1]
  refine td_call (c_small (k := i) (by omega) (by omega)) ⟨dat_int, trivial⟩ ?_
  simp (disch := omega) only [↓gS, ↓dfab a1, ↓dldL a1, ↓dpickt]
  refine td_call (c_small (k := l) (by omega) (by omega)) ⟨dat_int, trivial⟩ ?_
  simp (disch := omega) only [↓gS, ↓dfab a1, ↓dldG a1, ↓dpickt]
  refine td_call (c_small (k := g) (by omega) (by omega)) ⟨dat_int, trivial⟩ ?_
  simp (disch := omega) only [↓gS, ↓ld8, ↓dld7 a1, ↓dpickt]
  refine td_call (c_canonical hr hrv hG hi hl hg) ⟨cdat, dat_int, frm_dat, trivial⟩ ?_
  rw [hcan]
  cases tb with
  | false =>
    simp only [↓gS, ↓dld7 a1, ↓dpickt, ↓dpickf, ↓htb']
    exact vret_b rfl
  | true =>
    simp only [↓gS, ↓dld7 a1, ↓dpickt, ↓dpickf, ↓htb', ↓ld8]
    refine td_call (c_RangeIn hr hrv hG hN hi hl hg hs hst) ⟨cdat, dat_int, frm_dat, trivial⟩ ?_
    obtain ⟨j1, j2, j3⟩ := i3
    refine td_call (c_word (by omega) (by omega)) ⟨spb_dat, trivial⟩ ?_
    exact vret_b rfl
end Go.Am
/- Ranges of forms: the plain law. No condition. -/
namespace Go.Am
open Go

def MemS (s : Sp) (n : Int) : Prop := s.lo ≤ n ∧ n ≤ s.hi ∧ s.st ∣ n - s.lo
theorem tmod_dvd {a b : Int} : a.tmod b = 0 ↔ b ∣ a := ⟨Int.dvd_of_tmod_eq_zero, Int.tmod_eq_zero_of_dvd⟩
theorem hasB_mem {s : Sp} {n : Int} : hasB s.lo s.hi s.st n = true ↔ MemS s n := by
  unfold hasB MemS
  simp only [Bool.and_eq_true, Bool.or_eq_true, decide_eq_true_eq, tmod_dvd]
  constructor
  · rintro ⟨h1, h2, h3⟩
    refine ⟨h1, h2, ?_⟩
    rcases h3 with h3 | h3
    · exact ⟨0, by omega⟩
    · exact h3
  · rintro ⟨h1, h2, h3⟩
    exact ⟨h1, h2, Or.inr h3⟩
theorem pL_q {k c : Int} (hc : 1 ≤ c) : ∃ q, 0 ≤ q ∧ q ≤ c - 1 ∧ pL k c = k * q := by
  unfold pL
  by_cases h : c < 2 ∨ k = 0
  · rw [if_pos h]; exact ⟨0, by omega, by omega, by simp⟩
  · rw [if_neg h]
    unfold mnI
    split
    · exact ⟨c - 1, by omega, by omega, Int.mul_comm _ _⟩
    · exact ⟨0, by omega, by omega, by simp⟩
theorem pH_q {k c : Int} (hc : 1 ≤ c) : ∃ q, 0 ≤ q ∧ q ≤ c - 1 ∧ pH k c = k * q := by
  unfold pH
  by_cases h : c < 2 ∨ k = 0
  · rw [if_pos h]; exact ⟨0, by omega, by omega, by simp⟩
  · rw [if_neg h]
    unfold mxI
    split
    · exact ⟨c - 1, by omega, by omega, Int.mul_comm _ _⟩
    · exact ⟨0, by omega, by omega, by simp⟩
theorem p_between {k c q : Int} (hc : 1 ≤ c) (h1 : 0 ≤ q) (h2 : q ≤ c - 1) : pL k c ≤ k * q ∧ k * q ≤ pH k c := by
  unfold pL pH
  by_cases h : c < 2 ∨ k = 0
  · rw [if_pos h, if_pos h]
    have : k * q = 0 := by
      rcases h with h | h
      · rw [show q = 0 by omega, Int.mul_zero]
      · rw [h, Int.zero_mul]
    omega
  · rw [if_neg h, if_neg h, Int.mul_comm (c - 1) k]
    unfold mnI mxI
    rcases Int.lt_or_le k 0 with hk | hk
    · have e1 : k * (c - 1) ≤ k * q := Int.mul_le_mul_of_nonpos_left (by omega) h2
      have e2 : k * q ≤ k * 0 := Int.mul_le_mul_of_nonpos_left (by omega) h1
      rw [Int.mul_zero] at e2
      constructor <;> split <;> omega
    · have e1 : k * q ≤ k * (c - 1) := Int.mul_le_mul_of_nonneg_left h2 hk
      have e2 : k * 0 ≤ k * q := Int.mul_le_mul_of_nonneg_left h1 hk
      rw [Int.mul_zero] at e2
      constructor <;> split <;> omega
theorem pS_dvd {k c q : Int} (hc : 1 ≤ c) (h1 : 0 ≤ q) (h2 : q ≤ c - 1) : pS k c ∣ k * q := by
  unfold pS
  by_cases h : c < 2 ∨ k = 0
  · rw [if_pos h]
    have : k * q = 0 := by
      rcases h with h | h
      · rw [show q = 0 by omega, Int.mul_zero]
      · rw [h, Int.zero_mul]
    rw [this]; exact Int.dvd_refl 0
  · rw [if_neg h]
    exact Int.dvd_trans (Int.natAbs_dvd.2 (Int.dvd_refl k)) (Int.dvd_mul_right _ _)
theorem mem_add {s : Sp} {n k c q : Int} (hm : MemS s n) (hc : 1 ≤ c) (h1 : 0 ≤ q) (h2 : q ≤ c - 1) : MemS (s.add k c) (n + k * q) := by
  obtain ⟨m1, m2, m3⟩ := hm
  obtain ⟨b1, b2⟩ := p_between (k := k) hc h1 h2
  obtain ⟨q', r1, r2, r3⟩ := pL_q (k := k) hc
  refine ⟨by simp only [Sp.add]; omega, by simp only [Sp.add]; omega, ?_⟩
  simp only [Sp.add]
  split
  · rename_i he
    exact ⟨0, by omega⟩
  · have g1 : ((Nat.gcd s.st.natAbs (pS k c).natAbs : Nat) : Int) ∣ s.st := Int.dvd_trans (Int.natCast_dvd_natCast.2 (Nat.gcd_dvd_left _ _)) (Int.natAbs_dvd.2 (Int.dvd_refl _))
    have g2 : ((Nat.gcd s.st.natAbs (pS k c).natAbs : Nat) : Int) ∣ pS k c := Int.dvd_trans (Int.natCast_dvd_natCast.2 (Nat.gcd_dvd_right _ _)) (Int.natAbs_dvd.2 (Int.dvd_refl _))
    have e : n + k * q - (s.lo + pL k c) = (n - s.lo) + (k * q - k * q') := by rw [r3]; omega
    rw [e]
    exact Int.dvd_add (Int.dvd_trans g1 m3) (Int.dvd_sub (Int.dvd_trans g2 (pS_dvd hc h1 h2)) (Int.dvd_trans g2 (pS_dvd hc r1 r2)))

/-- P26.4, first half. -/
theorem has_in {G N i l g x y z v : Int} {s : Sp} (hG : 1 ≤ G) (hN : 1 ≤ N) (hx : 0 ≤ x ∧ x ≤ N * G - 1) (hy : 0 ≤ y ∧ y ≤ G - 1) (hz : 0 ≤ z ∧ z ≤ N - 1) (hh : hasF i l g s x y z v = true) : MemS (rng G N i l g s) v := by
  unfold hasF at hh
  rw [hasB_mem] at hh
  have m1 := mem_add (k := i) (c := N * G) (q := x) hh (by omega) hx.1 hx.2
  have m2 := mem_add (k := l) (c := G) (q := y) m1 hG hy.1 hy.2
  have m3 := mem_add (k := g) (c := N) (q := z) m2 hN hz.1 hz.2
  have e : v - i * x - l * y - g * z + i * x + l * y + g * z = v := by omega
  rw [e] at m3
  exact m3
theorem item_of {G N y z : Int} (hy : 0 ≤ y ∧ y ≤ G - 1) (hz : 0 ≤ z ∧ z ≤ N - 1) : ∃ x, 0 ≤ x ∧ x ≤ N * G - 1 ∧ x.tmod G = y ∧ x.tdiv G = z := by
  have h0 : 0 ≤ z * G := Int.mul_nonneg hz.1 (by omega)
  have h1 : z * G ≤ (N - 1) * G := Int.mul_le_mul_of_nonneg_right hz.2 (by omega)
  rw [Int.sub_mul, Int.one_mul] at h1
  refine ⟨z * G + y, by omega, by omega, ?_, ?_⟩
  · rw [Int.tmod_eq_emod_of_nonneg (by omega), Int.add_comm, Int.add_mul_emod_self_right, Int.emod_eq_of_lt hy.1 (by omega)]
  · rw [Int.tdiv_eq_ediv_of_nonneg (by omega), Int.add_comm, Int.add_mul_ediv_right _ _ (by omega), Int.ediv_eq_zero_of_lt hy.1 (by omega), Int.zero_add]
/-- P26.4, second half: the ends are values. -/
theorem has_lo {G N i l g : Int} {s : Sp} (hG : 1 ≤ G) (hN : 1 ≤ N) (hs : s.lo ≤ s.hi) (hf : (l = 0 ∧ g = 0) ∨ i = 0) : ∃ x, 0 ≤ x ∧ x ≤ N * G - 1 ∧ hasF i l g s x (x.tmod G) (x.tdiv G) (rng G N i l g s).lo = true := by
  have hNG : 1 ≤ N * G := by
    have := Int.mul_le_mul hN hG (by omega) (by omega)
    omega
  obtain ⟨qx, x1, x2, x3⟩ := pL_q (k := i) hNG
  obtain ⟨qy, y1, y2, y3⟩ := pL_q (k := l) hG
  obtain ⟨qz, z1, z2, z3⟩ := pL_q (k := g) hN
  have hlo : (rng G N i l g s).lo = s.lo + i * qx + l * qy + g * qz := by
    simp only [rng, Sp.add]; rw [x3, y3, z3]
  have hm : MemS s s.lo := ⟨Int.le_refl _, hs, ⟨0, by omega⟩⟩
  rcases hf with ⟨rfl, rfl⟩ | rfl
  · refine ⟨qx, x1, x2, ?_⟩
    unfold hasF
    rw [hasB_mem, hlo]
    have e : s.lo + i * qx + 0 * qy + 0 * qz - i * qx - 0 * qx.tmod G - 0 * qx.tdiv G = s.lo := by simp only [Int.zero_mul]; omega
    rw [e]; exact hm
  · obtain ⟨x, w1, w2, w3, w4⟩ := item_of ⟨y1, y2⟩ ⟨z1, z2⟩
    refine ⟨x, w1, w2, ?_⟩
    unfold hasF
    rw [hasB_mem, hlo, w3, w4]
    have e : s.lo + 0 * qx + l * qy + g * qz - 0 * x - l * qy - g * qz = s.lo := by simp only [Int.zero_mul]; omega
    rw [e]; exact hm
theorem has_hi {G N i l g : Int} {s : Sp} (hG : 1 ≤ G) (hN : 1 ≤ N) (hs : MemS s s.hi) (hf : (l = 0 ∧ g = 0) ∨ i = 0) : ∃ x, 0 ≤ x ∧ x ≤ N * G - 1 ∧ hasF i l g s x (x.tmod G) (x.tdiv G) (rng G N i l g s).hi = true := by
  have hNG : 1 ≤ N * G := by
    have := Int.mul_le_mul hN hG (by omega) (by omega)
    omega
  obtain ⟨qx, x1, x2, x3⟩ := pH_q (k := i) hNG
  obtain ⟨qy, y1, y2, y3⟩ := pH_q (k := l) hG
  obtain ⟨qz, z1, z2, z3⟩ := pH_q (k := g) hN
  have hhi : (rng G N i l g s).hi = s.hi + i * qx + l * qy + g * qz := by
    simp only [rng, Sp.add]; rw [x3, y3, z3]
  rcases hf with ⟨rfl, rfl⟩ | rfl
  · refine ⟨qx, x1, x2, ?_⟩
    unfold hasF
    rw [hasB_mem, hhi]
    have e : s.hi + i * qx + 0 * qy + 0 * qz - i * qx - 0 * qx.tmod G - 0 * qx.tdiv G = s.hi := by simp only [Int.zero_mul]; omega
    rw [e]; exact hs
  · obtain ⟨x, w1, w2, w3, w4⟩ := item_of ⟨y1, y2⟩ ⟨z1, z2⟩
    refine ⟨x, w1, w2, ?_⟩
    unfold hasF
    rw [hasB_mem, hhi, w3, w4]
    have e : s.hi + 0 * qx + l * qy + g * qz - 0 * x - l * qy - g * qz = s.hi := by simp only [Int.zero_mul]; omega
    rw [e]; exact hs
theorem sm_ok {a b c : Int} (hb : 0 ≤ b) (hc : 0 ≤ c) : SOk 200 (smS a b c).lo (smS a b c).hi (smS a b c).st ∧ (smS a b c).st ≤ 200 ∧ MemS (smS a b c) (smS a b c).hi := by
  have ra : -41 < a.tmod 41 ∧ a.tmod 41 < 41 := by
    have := Int.natAbs_tmod a 41
    have := Nat.mod_lt a.natAbs (show 0 < (41 : Int).natAbs by decide)
    have h41 : (41 : Int).natAbs = 41 := rfl
    omega
  have rb : 0 ≤ b.tmod 9 ∧ b.tmod 9 < 9 := ⟨Int.tmod_nonneg _ hb, Int.tmod_lt_of_pos _ (by omega)⟩
  have rc : 0 ≤ c.tmod 15 ∧ c.tmod 15 ≤ 14 := ⟨Int.tmod_nonneg _ hc, by have := Int.tmod_lt_of_pos c (show (0 : Int) < 15 by omega); omega⟩
  have hm := mul_bd (a := b.tmod 9 + 1) (b := c.tmod 15) (A := 9) (B := 14) (by omega) (by omega)
  have hm0 : 0 ≤ (b.tmod 9 + 1) * c.tmod 15 := Int.mul_nonneg (by omega) rc.1
  have hdv : (b.tmod 9 + 1) ∣ a.tmod 41 + (b.tmod 9 + 1) * c.tmod 15 - a.tmod 41 := ⟨c.tmod 15, by omega⟩
  unfold smS MemS
  simp only
  by_cases h : a.tmod 41 = a.tmod 41 + (b.tmod 9 + 1) * c.tmod 15
  · rw [if_pos h]
    exact ⟨⟨by omega, by omega, by omega, Or.inl ⟨h, rfl⟩⟩, by omega, by omega, by omega, ⟨0, by omega⟩⟩
  · rw [if_neg h]
    exact ⟨⟨by omega, by omega, by omega, Or.inr ⟨by omega, by omega, Int.tmod_eq_zero_of_dvd hdv⟩⟩, by omega, by omega, by omega, hdv⟩
theorem mem_ref {s : Sp} {n : Int} (h : MemS s n) : (decide (s.lo ≤ n) && (decide (n ≤ s.hi) && (decide (s.st = 0) || decide ((n - s.lo).tmod s.st = 0)))) = true := by
  obtain ⟨h1, h2, h3⟩ := h
  simp only [Bool.and_eq_true, Bool.or_eq_true, decide_eq_true_eq]
  exact ⟨h1, h2, Or.inr (Int.tmod_eq_zero_of_dvd h3)⟩
end Go.Am
/- The functions as a table, for the evaluator. No condition. -/
namespace Go.Am
open Go Go.Proofs

def fsz (f : FuncId) : Option AFunc := match f with
  | 5 => some F_law26_examples
  | 6 => some F_ref25_Small
  | 7 => some F_ref26_Valid
  | 8 => some F_affine_Range
  | 9 => some F_affine_Has
  | 10 => some F_ref25_Has
  | 11 => some F_law26_id
  | 12 => some F_law26_bin
  | 13 => some F_ref05_Const
  | 14 => some F_ref05_Reg
  | 15 => some F_affine_Find
  | 16 => some F_affine_Check
  | 17 => some F_affine_At
  | 18 => some F_law26_example
  | 19 => some F_ref26_From
  | 20 => some F_ref26_Number
  | 21 => some F_ref25_Made
  | 22 => some F_ref26_anything
  | 23 => some F_ref25_Valid
  | 24 => some F_ref26_small
  | 25 => some F_ref26_canonical
  | 26 => some F_ref26_word
  | 27 => some F_ref26_RangeIn
  | 28 => some F_affine_space_span
  | 29 => some F_span_Has
  | 30 => some F_affine_space_begin
  | 31 => some F_affine_space_zeros
  | 32 => some F_affine_space_after
  | 33 => some F_code_Succ
  | 34 => some F_affine_space_along
  | 35 => some F_affine_space_pass
  | 36 => some F_slices_ContainsFunc_sapi_Form_api_Form
  | 37 => some F_affine_Check_F1
  | 38 => some F_affine_space_valid
  | 39 => some F_affine_space_contains
  | 40 => some F_affine_number
  | 41 => some F_affine_unknown
  | 42 => some F_affine_operand
  | 43 => some F_ref26_one
  | 44 => some F_ref25_near
  | 45 => some F_ref26_plus
  | 46 => some F_ref26_part
  | 47 => some F_span_Valid
  | 48 => some F_affine_multiples
  | 49 => some F_span_Add
  | 50 => some F_slices_Clone_sapi_Form_api_Form
  | 51 => some F_affine_space_join
  | 52 => some F_affine_between
  | 53 => some F_code_Def
  | 54 => some F_affine_space_result
  | 55 => some F_affine_plain
  | 56 => some F_affine_constant
  | 57 => some F_affine_decides
  | 58 => some F_affine_where
  | 59 => some F_span_Of
  | 60 => some F_span_Meet
  | 61 => some F_affine_space_inside
  | 62 => some F_slices_IndexFunc_sapi_Form_api_Form
  | 63 => some F_affine_small
  | 64 => some F_affine_space_canonical
  | 65 => some F_slices_EqualFunc_sapi_Form_sapi_Form_api_Form_api_Form
  | 66 => some F_ref25_Edge
  | 67 => some F_ref25_AddIn
  | 68 => some F_span_near
  | 69 => some F_span_Scale
  | 70 => some F_span_bounded
  | 71 => some F_span_gcd
  | 72 => some F_affine_alike
  | 73 => some F_span_Join
  | 74 => some F_affine_space_made
  | 75 => some F_code_def
  | 76 => some F_affine_space_id
  | 77 => some F_affine_space_unary
  | 78 => some F_affine_operators
  | 79 => some F_slices_Backward_sapi_Inst_api_Inst
  | 80 => some F_span_made
  | 81 => some F_span_euclid
  | 82 => some F_span_mulmod
  | 83 => some F_span_floor
  | 84 => some F_ref25_bounded
  | 85 => some F_ref25_Gcd
  | 86 => some F_span_products
  | 87 => some F_affine_space_scale
  | 88 => some F_affine_space_subtract
  | 89 => some F_affine_floor
  | 90 => some F_affine_space_add
  | 91 => some F_affine_space_multiply
  | 92 => some F_affine_operators_F1
  | 93 => some F_affine_space_mask
  | 94 => some F_affine_by
  | 95 => some F_affine_operators_F2
  | 96 => some F_affine_operators_F3
  | 97 => some F_affine_operators_F4
  | 98 => some F_affine_space_remainder
  | 99 => some F_affine_ranged
  | 100 => some F_affine_operators_F5
  | 101 => some F_affine_operators_F6
  | 102 => some F_affine_bits
  | 103 => some F_slices_Backward_sapi_Inst_api_Inst_F1
  | 104 => some F_math_bits_Mul64
  | 105 => some F_span_rest
  | 106 => some F_math_bits_Rem64
  | 107 => some F_span_product
  | 108 => some F_span_Sub
  | 109 => some F_span_Mul
  | 110 => some F_affine_by_F1
  | 111 => some F_span_Mod
  | 112 => some F_affine_ranged_F1
  | 114 => some F_span_product_F1
  | 115 => some F_math_bits_LeadingZeros64
  | 116 => some F_math_bits_Len64
  | _ => none
theorem fsz_ok {f : FuncId} {F : AFunc} (h : fsz f = some F) : ∃ fz loops dr, cFn PP fz f loops dr = some F ∧ DrOk PP F.nt dr := by
  unfold fsz at h
  split at h
  · cases h; exact ⟨_, _, _, F_law26_examples_ok, cDr_ok _ _ _⟩
  · cases h; exact ⟨_, _, _, F_ref25_Small_ok, cDr_ok _ _ _⟩
  · cases h; exact ⟨_, _, _, F_ref26_Valid_ok, cDr_ok _ _ _⟩
  · cases h; exact ⟨_, _, _, F_affine_Range_ok, cDr_ok _ _ _⟩
  · cases h; exact ⟨_, _, _, F_affine_Has_ok, cDr_ok _ _ _⟩
  · cases h; exact ⟨_, _, _, F_ref25_Has_ok, cDr_ok _ _ _⟩
  · cases h; exact ⟨_, _, _, F_law26_id_ok, cDr_ok _ _ _⟩
  · cases h; exact ⟨_, _, _, F_law26_bin_ok, cDr_ok _ _ _⟩
  · cases h; exact ⟨_, _, _, F_ref05_Const_ok, cDr_ok _ _ _⟩
  · cases h; exact ⟨_, _, _, F_ref05_Reg_ok, cDr_ok _ _ _⟩
  · cases h; exact ⟨_, _, _, F_affine_Find_ok, cDr_ok _ _ _⟩
  · cases h; exact ⟨_, _, _, F_affine_Check_ok, cDr_ok _ _ _⟩
  · cases h; exact ⟨_, _, _, F_affine_At_ok, cDr_ok _ _ _⟩
  · cases h; exact ⟨_, _, _, F_law26_example_ok, cDr_ok _ _ _⟩
  · cases h; exact ⟨_, _, _, F_ref26_From_ok, cDr_ok _ _ _⟩
  · cases h; exact ⟨_, _, _, F_ref26_Number_ok, cDr_ok _ _ _⟩
  · cases h; exact ⟨_, _, _, F_ref25_Made_ok, cDr_ok _ _ _⟩
  · cases h; exact ⟨_, _, _, F_ref26_anything_ok, cDr_ok _ _ _⟩
  · cases h; exact ⟨_, _, _, F_ref25_Valid_ok, cDr_ok _ _ _⟩
  · cases h; exact ⟨_, _, _, F_ref26_small_ok, cDr_ok _ _ _⟩
  · cases h; exact ⟨_, _, _, F_ref26_canonical_ok, cDr_ok _ _ _⟩
  · cases h; exact ⟨_, _, _, F_ref26_word_ok, cDr_ok _ _ _⟩
  · cases h; exact ⟨_, _, _, F_ref26_RangeIn_ok, cDr_ok _ _ _⟩
  · cases h; exact ⟨_, _, _, F_affine_space_span_ok, cDr_ok _ _ _⟩
  · cases h; exact ⟨_, _, _, F_span_Has_ok, cDr_ok _ _ _⟩
  · cases h; exact ⟨_, _, _, F_affine_space_begin_ok, cDr_ok _ _ _⟩
  · cases h; exact ⟨_, _, _, F_affine_space_zeros_ok, cDr_ok _ _ _⟩
  · cases h; exact ⟨_, _, _, F_affine_space_after_ok, cDr_ok _ _ _⟩
  · cases h; exact ⟨_, _, _, F_code_Succ_ok, cDr_ok _ _ _⟩
  · cases h; exact ⟨_, _, _, F_affine_space_along_ok, cDr_ok _ _ _⟩
  · cases h; exact ⟨_, _, _, F_affine_space_pass_ok, cDr_ok _ _ _⟩
  · cases h; exact ⟨_, _, _, F_slices_ContainsFunc_sapi_Form_api_Form_ok, cDr_ok _ _ _⟩
  · cases h; exact ⟨_, _, _, F_affine_Check_F1_ok, cDr_ok _ _ _⟩
  · cases h; exact ⟨_, _, _, F_affine_space_valid_ok, cDr_ok _ _ _⟩
  · cases h; exact ⟨_, _, _, F_affine_space_contains_ok, cDr_ok _ _ _⟩
  · cases h; exact ⟨_, _, _, F_affine_number_ok, cDr_ok _ _ _⟩
  · cases h; exact ⟨_, _, _, F_affine_unknown_ok, cDr_ok _ _ _⟩
  · cases h; exact ⟨_, _, _, F_affine_operand_ok, cDr_ok _ _ _⟩
  · cases h; exact ⟨_, _, _, F_ref26_one_ok, cDr_ok _ _ _⟩
  · cases h; exact ⟨_, _, _, F_ref25_near_ok, cDr_ok _ _ _⟩
  · cases h; exact ⟨_, _, _, F_ref26_plus_ok, cDr_ok _ _ _⟩
  · cases h; exact ⟨_, _, _, F_ref26_part_ok, cDr_ok _ _ _⟩
  · cases h; exact ⟨_, _, _, F_span_Valid_ok, cDr_ok _ _ _⟩
  · cases h; exact ⟨_, _, _, F_affine_multiples_ok, cDr_ok _ _ _⟩
  · cases h; exact ⟨_, _, _, F_span_Add_ok, cDr_ok _ _ _⟩
  · cases h; exact ⟨_, _, _, F_slices_Clone_sapi_Form_api_Form_ok, cDr_ok _ _ _⟩
  · cases h; exact ⟨_, _, _, F_affine_space_join_ok, cDr_ok _ _ _⟩
  · cases h; exact ⟨_, _, _, F_affine_between_ok, cDr_ok _ _ _⟩
  · cases h; exact ⟨_, _, _, F_code_Def_ok, cDr_ok _ _ _⟩
  · cases h; exact ⟨_, _, _, F_affine_space_result_ok, cDr_ok _ _ _⟩
  · cases h; exact ⟨_, _, _, F_affine_plain_ok, cDr_ok _ _ _⟩
  · cases h; exact ⟨_, _, _, F_affine_constant_ok, cDr_ok _ _ _⟩
  · cases h; exact ⟨_, _, _, F_affine_decides_ok, cDr_ok _ _ _⟩
  · cases h; exact ⟨_, _, _, F_affine_where_ok, cDr_ok _ _ _⟩
  · cases h; exact ⟨_, _, _, F_span_Of_ok, cDr_ok _ _ _⟩
  · cases h; exact ⟨_, _, _, F_span_Meet_ok, cDr_ok _ _ _⟩
  · cases h; exact ⟨_, _, _, F_affine_space_inside_ok, cDr_ok _ _ _⟩
  · cases h; exact ⟨_, _, _, F_slices_IndexFunc_sapi_Form_api_Form_ok, cDr_ok _ _ _⟩
  · cases h; exact ⟨_, _, _, F_affine_small_ok, cDr_ok _ _ _⟩
  · cases h; exact ⟨_, _, _, F_affine_space_canonical_ok, cDr_ok _ _ _⟩
  · cases h; exact ⟨_, _, _, F_slices_EqualFunc_sapi_Form_sapi_Form_api_Form_api_Form_ok, cDr_ok _ _ _⟩
  · cases h; exact ⟨_, _, _, F_ref25_Edge_ok, cDr_ok _ _ _⟩
  · cases h; exact ⟨_, _, _, F_ref25_AddIn_ok, cDr_ok _ _ _⟩
  · cases h; exact ⟨_, _, _, F_span_near_ok, cDr_ok _ _ _⟩
  · cases h; exact ⟨_, _, _, F_span_Scale_ok, cDr_ok _ _ _⟩
  · cases h; exact ⟨_, _, _, F_span_bounded_ok, cDr_ok _ _ _⟩
  · cases h; exact ⟨_, _, _, F_span_gcd_ok, cDr_ok _ _ _⟩
  · cases h; exact ⟨_, _, _, F_affine_alike_ok, cDr_ok _ _ _⟩
  · cases h; exact ⟨_, _, _, F_span_Join_ok, cDr_ok _ _ _⟩
  · cases h; exact ⟨_, _, _, F_affine_space_made_ok, cDr_ok _ _ _⟩
  · cases h; exact ⟨_, _, _, F_code_def_ok, cDr_ok _ _ _⟩
  · cases h; exact ⟨_, _, _, F_affine_space_id_ok, cDr_ok _ _ _⟩
  · cases h; exact ⟨_, _, _, F_affine_space_unary_ok, cDr_ok _ _ _⟩
  · cases h; exact ⟨_, _, _, F_affine_operators_ok, cDr_ok _ _ _⟩
  · cases h; exact ⟨_, _, _, F_slices_Backward_sapi_Inst_api_Inst_ok, cDr_ok _ _ _⟩
  · cases h; exact ⟨_, _, _, F_span_made_ok, cDr_ok _ _ _⟩
  · cases h; exact ⟨_, _, _, F_span_euclid_ok, cDr_ok _ _ _⟩
  · cases h; exact ⟨_, _, _, F_span_mulmod_ok, cDr_ok _ _ _⟩
  · cases h; exact ⟨_, _, _, F_span_floor_ok, cDr_ok _ _ _⟩
  · cases h; exact ⟨_, _, _, F_ref25_bounded_ok, cDr_ok _ _ _⟩
  · cases h; exact ⟨_, _, _, F_ref25_Gcd_ok, cDr_ok _ _ _⟩
  · cases h; exact ⟨_, _, _, F_span_products_ok, cDr_ok _ _ _⟩
  · cases h; exact ⟨_, _, _, F_affine_space_scale_ok, cDr_ok _ _ _⟩
  · cases h; exact ⟨_, _, _, F_affine_space_subtract_ok, cDr_ok _ _ _⟩
  · cases h; exact ⟨_, _, _, F_affine_floor_ok, cDr_ok _ _ _⟩
  · cases h; exact ⟨_, _, _, F_affine_space_add_ok, cDr_ok _ _ _⟩
  · cases h; exact ⟨_, _, _, F_affine_space_multiply_ok, cDr_ok _ _ _⟩
  · cases h; exact ⟨_, _, _, F_affine_operators_F1_ok, cDr_ok _ _ _⟩
  · cases h; exact ⟨_, _, _, F_affine_space_mask_ok, cDr_ok _ _ _⟩
  · cases h; exact ⟨_, _, _, F_affine_by_ok, cDr_ok _ _ _⟩
  · cases h; exact ⟨_, _, _, F_affine_operators_F2_ok, cDr_ok _ _ _⟩
  · cases h; exact ⟨_, _, _, F_affine_operators_F3_ok, cDr_ok _ _ _⟩
  · cases h; exact ⟨_, _, _, F_affine_operators_F4_ok, cDr_ok _ _ _⟩
  · cases h; exact ⟨_, _, _, F_affine_space_remainder_ok, cDr_ok _ _ _⟩
  · cases h; exact ⟨_, _, _, F_affine_ranged_ok, cDr_ok _ _ _⟩
  · cases h; exact ⟨_, _, _, F_affine_operators_F5_ok, cDr_ok _ _ _⟩
  · cases h; exact ⟨_, _, _, F_affine_operators_F6_ok, cDr_ok _ _ _⟩
  · cases h; exact ⟨_, _, _, F_affine_bits_ok, cDr_ok _ _ _⟩
  · cases h; exact ⟨_, _, _, F_slices_Backward_sapi_Inst_api_Inst_F1_ok, cDr_ok _ _ _⟩
  · cases h; exact ⟨_, _, _, F_math_bits_Mul64_ok, cDr_ok _ _ _⟩
  · cases h; exact ⟨_, _, _, F_span_rest_ok, cDr_ok _ _ _⟩
  · cases h; exact ⟨_, _, _, F_math_bits_Rem64_ok, cDr_ok _ _ _⟩
  · cases h; exact ⟨_, _, _, F_span_product_ok, cDr_ok _ _ _⟩
  · cases h; exact ⟨_, _, _, F_span_Sub_ok, cDr_ok _ _ _⟩
  · cases h; exact ⟨_, _, _, F_span_Mul_ok, cDr_ok _ _ _⟩
  · cases h; exact ⟨_, _, _, F_affine_by_F1_ok, cDr_ok _ _ _⟩
  · cases h; exact ⟨_, _, _, F_span_Mod_ok, cDr_ok _ _ _⟩
  · cases h; exact ⟨_, _, _, F_affine_ranged_F1_ok, cDr_ok _ _ _⟩
  · cases h; exact ⟨_, _, _, F_span_product_F1_ok, cDr_ok _ _ _⟩
  · cases h; exact ⟨_, _, _, F_math_bits_LeadingZeros64_ok, cDr_ok _ _ _⟩
  · cases h; exact ⟨_, _, _, F_math_bits_Len64_ok, cDr_ok _ _ _⟩
  · cases h
theorem fsz_a : ∀ f F, fsz f = some F → ∀ ds K h, vcFn PP F ds K h → ACall PP f ds h K := by
  intro f F hf ds K h hv
  obtain ⟨fz, loops, dr, h1, h2⟩ := fsz_ok hf
  exact acall_of h1 h2 hv
end Go.Am
/- The evaluator for chapter 26's examples. No condition. -/
namespace Go.Am
open Go Go.Proofs
noncomputable def ezTab : FTab2 PP fsz where
  a := fsz_a
  spec := fun _ => none
  sp := fun _ _ h => by cases h
  hspec := fun _ => none
  hsp := fun _ _ h => by cases h
def ownZ (f : FuncId) : Bool := f == n_slices_Clone_sapi_Form_api_Form
noncomputable def evz (n : Nat) := evPures2 ezTab.spec ownZ (evF2 PP fsz ezTab.spec ezTab.hspec ownZ 100 n)
noncomputable def EE (n : Nat) (f : FuncId) (ds : List D) : Option D := (evz n).vcall f ds
def sz : Option D → Nat
  | some _ => 1
  | none => 0
end Go.Am
namespace Go.Am
open Go Go.Proofs
noncomputable def code0 : D := (EE 14 n_law26_example []).getD .undef
noncomputable def sp0 : D := .agg (code0.cells ++ [.int .i64 4])
noncomputable def zs0 : D := (EE 14 n_affine_space_zeros [sp0]).getD .undef
noncomputable def zz (o : Option D) : Bool := o.isSome
end Go.Am
namespace Go.Am
open Go Go.Proofs
noncomputable def inst0 (k : Nat) : D := match code0.cells.getD 7 .undef with
  | .sl bs => match (bs.getD 0 .undef).cells.getD 0 .undef with
    | .sl is => is.getD k .undef
    | _ => .undef
  | _ => .undef
noncomputable def rs0 (k : Nat) : Bool := (EE 14 n_affine_space_result [sp0, zs0, inst0 k]).isSome
end Go.Am
namespace Go.Am
open Go Go.Proofs
noncomputable def term0 (k : Nat) : D := match code0.cells.getD 7 .undef with
  | .sl bs => .agg ((bs.getD k .undef).cells.drop 1)
  | _ => .undef
end Go.Am
namespace Go.Am
open Go Go.Proofs
def takeSeq : Nat → ACode → ACode
  | 0, _ => .skip
  | n + 1, .seq a b => .seq a (takeSeq n b)
  | _ + 1, c => c
noncomputable def evPre (m n : Nat) (F : AFunc) (ds : List D) : Out := evC PP (evz n) 100 (takeSeq m F.code) (params ds 0) []
end Go.Am
namespace Go.Am
open Go Go.Proofs
def findBlock (id : Nat) : ACode → Option ACode
  | .seq a b => match findBlock id a with | some x => some x | none => findBlock id b
  | .seqj _ _ a b => match findBlock id a with | some x => some x | none => findBlock id b
  | .cond _ a b => match findBlock id a with | some x => some x | none => findBlock id b
  | .block i a => if i = id then some a else findBlock id a
  | .loop _ _ a => findBlock id a
  | _ => none
noncomputable def evB (id m n : Nat) (F : AFunc) (o : Out) (extra : LEnv) : Out := match o with
  | some (_, e, l) => match findBlock id F.code with
    | some c => evC PP (evz n) 100 (takeSeq m c) (extra ++ e) l
    | none => none
  | none => none
noncomputable def o5 : Out := evPre 5 13 F_affine_Find [code0, .int .i64 4]
noncomputable def o5b : Out := evB 3 3 13 F_affine_Find o5 [(8, .int .i64 1), (9, .bool false), (44, .int .i64 0), (42, match code0.cells.getD 7 .undef with | d => d), (43, .int .i64 2)]
end Go.Am
namespace Go.Am
open Go Go.Proofs
def fm (a : Bool) (i l g lo hi st : Int) : D := .agg [.bool a, .int .i64 i, .int .i64 l, .int .i64 g, .int .i64 lo, .int .i64 hi, .int .i64 st]
def facts0 : D := .agg [.sl [.sl [fm false 0 0 0 0 0 0, fm false 0 0 0 0 0 0, fm false 0 0 0 0 0 0, fm false 0 0 0 0 0 0, fm false 0 0 0 0 0 0, fm false 0 0 0 0 0 0],
  .sl [fm false 0 0 1 0 0 0, fm false 0 0 8 0 0 0, fm false 0 1 0 0 0 0, fm false 1 0 0 0 0 0, fm false 4 0 0 0 0 0, fm false 0 0 0 0 7 1]]]
def opd0 : List D := [.int .i64 0, .int .i64 0, .int .i32 0]
def reg0 (n : Int) : List D := [.int .i64 2, .int .i64 n, .int .i32 0]
def con0 (n : Int) : List D := [.int .i64 1, .int .i64 0, .int .i32 n]
def ins0 (op sub : Int) (d a b : List D) : D := .agg ([.int .i64 op, .int .i64 sub, .int .i64 0] ++ d ++ a ++ b ++ opd0)
def trm0 (k t : Int) : List D := [.int .i64 k, .int .i64 0] ++ opd0 ++ opd0 ++ opd0 ++ [.int .i64 t, .int .i64 0]
def cd0 : D := .agg [.int .i64 8, .int .i64 1, .int .i64 6, .int .i64 0, .int .i64 0, .nil, .nil,
  .sl [.agg (.sl [ins0 5 3 (reg0 0) opd0 opd0, ins0 3 12 (reg0 1) (reg0 0) (con0 8), ins0 5 2 (reg0 2) opd0 opd0, ins0 3 10 (reg0 3) (reg0 1) (reg0 2), ins0 3 12 (reg0 4) (reg0 3) (con0 4), ins0 3 17 (reg0 5) (reg0 4) (con0 7)] :: trm0 1 1),
       .agg (.nil :: trm0 5 0)]]
end Go.Am
/- The examples of chapter 26, worked out in pieces. No condition. -/
namespace Go.Am
open Go Go.Proofs
theorem ez_any {n : Nat} {f : FuncId} {ds : List D} {r : D} (h : (EE n f ds).any (D.same r) = true) : VCall PP f ds (· = r) := vcall_ev2 ezTab ownZ 100 n h
theorem z_code : VCall PP n_law26_example [] (· = cd0) := ez_any (n := 14) (by kernel_rfl)
theorem z_find : VCall PP n_affine_Find [cd0, .int .i64 4] (· = facts0) := ez_any (n := 14) (by kernel_rfl)
theorem z_check : VCall PP n_affine_Check [cd0, .int .i64 4, facts0] (· = .int .i64 0) := ez_any (n := 14) (by kernel_rfl)
theorem z_check0 : VCall PP n_affine_Check [cd0, .int .i64 4, .agg [.nil]] (· = .int .i64 100) := ez_any (n := 14) (by kernel_rfl)
theorem z_range : VCall PP n_affine_Range [cd0, .int .i64 4, fm false 4 0 0 0 0 0] (· = .tup [.agg [.int .i64 0, .int .i64 124, .int .i64 4], .bool true]) := ez_any (n := 14) (by kernel_rfl)
theorem z_has : VCall PP n_affine_Has [fm false 4 0 0 0 0 0, .int .i64 5, .int .i64 5, .int .i64 0, .int .i32 20] (· = .bool true) := ez_any (n := 14) (by kernel_rfl)
theorem z_has0 : VCall PP n_affine_Has [fm false 4 0 0 0 0 0, .int .i64 5, .int .i64 5, .int .i64 0, .int .i32 21] (· = .bool false) := ez_any (n := 14) (by kernel_rfl)
theorem z_at : VCall PP n_affine_At [cd0, .int .i64 4, facts0, .int .i64 0, .int .i64 4, .agg (reg0 3)] (· = fm false 1 0 0 0 0 0) := ez_any (n := 14) (by kernel_rfl)
theorem z_at0 : VCall PP n_affine_At [cd0, .int .i64 4, facts0, .int .i64 0, .int .i64 0, .agg (reg0 3)] (· = fm false 0 0 0 0 0 0) := ez_any (n := 14) (by kernel_rfl)
def known : List (FuncId × List D × D) :=
  [(n_law26_example, [], cd0), (n_affine_Find, [cd0, .int .i64 4], facts0), (n_affine_Check, [cd0, .int .i64 4, facts0], .int .i64 0), (n_affine_Check, [cd0, .int .i64 4, .agg [.nil]], .int .i64 100),
   (n_affine_Range, [cd0, .int .i64 4, fm false 4 0 0 0 0 0], .tup [.agg [.int .i64 0, .int .i64 124, .int .i64 4], .bool true]),
   (n_affine_Has, [fm false 4 0 0 0 0 0, .int .i64 5, .int .i64 5, .int .i64 0, .int .i32 20], .bool true),
   (n_affine_Has, [fm false 4 0 0 0 0 0, .int .i64 5, .int .i64 5, .int .i64 0, .int .i32 21], .bool false),
   (n_affine_At, [cd0, .int .i64 4, facts0, .int .i64 0, .int .i64 4, .agg (reg0 3)], fm false 1 0 0 0 0 0),
   (n_affine_At, [cd0, .int .i64 4, facts0, .int .i64 0, .int .i64 0, .agg (reg0 3)], fm false 0 0 0 0 0 0)]
theorem known_ok : ∀ p, p ∈ known → VCall PP p.1 p.2.1 (· = p.2.2) := by
  intro p hp
  simp only [known, List.mem_cons, List.not_mem_nil, or_false] at hp
  rcases hp with rfl | rfl | rfl | rfl | rfl | rfl | rfl | rfl | rfl
  · exact z_code
  · exact z_find
  · exact z_check
  · exact z_check0
  · exact z_range
  · exact z_has
  · exact z_has0
  · exact z_at
  · exact z_at0
def knownS (f : FuncId) : Option (List D → Option D) :=
  if known.any (fun p => p.1 == f) then some fun ds => (known.find? fun p => p.1 == f && D.sameL p.2.1 ds).map fun p => p.2.2 else none
theorem knownS_ok : ∀ f s, knownS f = some s → ∀ ds r, s ds = some r → VCall PP f ds (· = r) := by
  intro f s hs ds r hr
  unfold knownS at hs
  split at hs
  · cases hs
    simp only [Option.map_eq_some_iff] at hr
    obtain ⟨p, hp, rfl⟩ := hr
    have h1 := List.find?_some hp
    have h2 := List.mem_of_find?_eq_some hp
    simp only [Bool.and_eq_true, beq_iff_eq] at h1
    have := known_ok p h2
    rw [h1.1, D.eq_of_sameL _ _ h1.2] at this
    exact this
  · cases hs
noncomputable def ezTab2 : FTab2 PP fsz where
  a := fsz_a
  spec := knownS
  sp := knownS_ok
  hspec := fun _ => none
  hsp := fun _ _ h => by cases h
end Go.Am
/- The examples of chapter 26 hold. No condition. -/
namespace Go.Am
open Go Go.Proofs
theorem c_examples : VCall PP n_law26_examples [] (· = .bool true) := vcall_ev2 ezTab2 ownZ 100 14 (by kernel_rfl)
end Go.Am
/- The law AffineRanges: its walk. No condition. -/
namespace Go.Am
open Go Go.Proofs

/-- A call whose arguments have rows of ours, that gives no rows. -/
theorem a_callfz {P : Program} {f : FuncId} {ds ds' : List D} {h : Heap} {KH : D → Heap → Prop} {r : D} (hv : VCall P f ds' (· = r)) (hfl : r.flat = true) (hd : ds.map (D.fz h) = ds') (hok : ∀ d, d ∈ ds → AllOne d ∧ FzOk h d ∧ (d.fz h).vd = true) (hk : KH r h) : ACall P f ds h KH := by
  refine ACall.mono ?_ (acall_of_vcall (K := (· = r)) (by rw [hd]; exact hv) hok)
  rintro r' h' ⟨rfl, k2, -⟩
  rw [k2 (Or.inl hfl)]
  exact hk

def blk0 : D := .agg [.nil, .int .i64 5, .int .i64 0, .int .i64 0, .int .i64 0, .int .i32 0, .int .i64 0, .int .i64 0, .int .i32 0, .int .i64 0, .int .i64 0, .int .i32 0, .int .i64 0, .int .i64 0]
def rest0 (x : D) : List D := [.int .i64 1, .int .i64 0, .int .i64 0, .int .i64 0, .nil, .nil, x]
theorem blk_dat : Dat blk0 := dat_agg (by simp)
/-- A call with our code. -/
theorem code_call {f : FuncId} {n5 : Nat} {h : Heap} {KH : D → Heap → Prop} {r : D} {G N i l g : Int} {s : Sp} (h5 : h n5 = .arr 14 [blk0]) (hv : VCall PP f [.agg (cdc G (rest0 (.sl [blk0]))), .int .i64 N, frm i l g s] (· = r)) (hfl : r.flat = true) (hk : KH r h) :
    ACall PP f [.agg (cdc G (rest0 (.ms n5 0 1))), .int .i64 N, frm i l g s] h KH := by
  have hrow : (h n5).row = some (14, [blk0]) := by rw [h5]; rfl
  have q1 := vd_fz (h := h) (dat_int (k := .i64) (n := N)).vd
  have q2 := vd_fz (h := h) (frm_dat (i := i) (l := l) (g := g) (s := s)).vd
  have e : (D.agg (cdc G (rest0 (.ms n5 0 1)))).fz h = .agg (cdc G (rest0 (.sl [blk0]))) := by
    simp [D.fz, cdc, rest0, D.fzc, hrow]
  refine a_callfz hv hfl ?_ ?_ hk
  · simp only [List.map_cons, List.map_nil, e, q1.1, q2.1]
  · intro d hd
    simp only [List.mem_cons, List.not_mem_nil, or_false] at hd
    rcases hd with rfl | rfl | rfl
    · refine ⟨by simp [cdc, rest0], ?_, by rw [e]; simp [cdc, rest0]⟩
      intro x hx
      simp only [cells_agg, cdc, rest0, List.mem_cons, List.not_mem_nil, or_false] at hx
      rcases hx with rfl | rfl | rfl | rfl | rfl | rfl | rfl | rfl
      · trivial
      · trivial
      · trivial
      · trivial
      · trivial
      · trivial
      · trivial
      · refine ⟨14, [blk0], hrow, by simp, fun x hx y hy => ?_⟩
        simp at hx; subst hx
        simp [blk0] at hy
        rcases hy with rfl | rfl | rfl | rfl | rfl | rfl | rfl | rfl | rfl | rfl | rfl | rfl | rfl | rfl <;> rfl
    · exact ⟨dat_int.one, q1.2.2, by rw [q1.1]; exact dat_int.vd⟩
    · exact ⟨frm_dat.one, q2.2.2, by rw [q2.1]; exact frm_dat.vd⟩

theorem and7 : ∀ a : Int, -128 ≤ a → a ≤ 127 → 0 ≤ ibits .and .i8 a 7 ∧ ibits .and .i8 a 7 ≤ 7 := by
  intro a h1 h2
  have : ∀ n : _root_.Fin 256, (decide (0 ≤ ibits .and .i8 ((n.val : Int) - 128) 7) && decide (ibits .and .i8 ((n.val : Int) - 128) 7 ≤ 7)) = true := by decide +kernel
  have := this ⟨(a + 128).toNat, by omega⟩
  simp only [Bool.and_eq_true, decide_eq_true_eq] at this
  rw [show (((a + 128).toNat : Nat) : Int) - 128 = a by omega] at this
  exact this
theorem and3 : ∀ a : Int, -128 ≤ a → a ≤ 127 → 0 ≤ ibits .and .i8 a 3 ∧ ibits .and .i8 a 3 ≤ 3 := by
  intro a h1 h2
  have : ∀ n : _root_.Fin 256, (decide (0 ≤ ibits .and .i8 ((n.val : Int) - 128) 3) && decide (ibits .and .i8 ((n.val : Int) - 128) 3 ≤ 3)) = true := by decide +kernel
  have := this ⟨(a + 128).toNat, by omega⟩
  simp only [Bool.and_eq_true, decide_eq_true_eq] at this
  rw [show (((a + 128).toNat : Nat) : Int) - 128 = a by omega] at this
  exact this

theorem ld33 {P : Program} {h : Heap} {KH : D → Heap → Prop} {n : Nat} {x0 x1 x2 x3 x4 x5 : D} (a : h n = .box (.agg [x0, x1, x2, x3, x4, x5])) : vhOp P (.ld (.c (.ptr n 0 3)) 3 true) h KH = KH (.agg [x3, x4, x5]) h := ldp a (by simp)
theorem bldT {P : Program} {h : Heap} {KH : D → Heap → Prop} : vhOp P (.bld [(.int .i64 0), (.int .i64 0), (.int .i64 0), (.int .i64 0), (.int .i32 0), (.int .i64 0), (.int .i64 0), (.int .i32 0), (.int .i64 0), (.int .i64 0), (.int .i32 0), (.int .i64 0), (.int .i64 0)] [(0, 1, (.c (.int .i64 5)))]) h KH =
    KH (.agg [.int .i64 5, .int .i64 0, .int .i64 0, .int .i64 0, .int .i32 0, .int .i64 0, .int .i64 0, .int .i32 0, .int .i64 0, .int .i64 0, .int .i32 0, .int .i64 0, .int .i64 0]) h := by
  rw [h_bld]
  simp [fillOkV, fillD]
theorem bldB {P : Program} {h : Heap} {KH : D → Heap → Prop} : vhOp P (.bld [.nil, (.int .i64 0), (.int .i64 0), (.int .i64 0), (.int .i64 0), (.int .i32 0), (.int .i64 0), (.int .i64 0), (.int .i32 0), (.int .i64 0), (.int .i64 0), (.int .i32 0), (.int .i64 0), (.int .i64 0)]
      [(1, 13, (.c (.agg [.int .i64 5, .int .i64 0, .int .i64 0, .int .i64 0, .int .i32 0, .int .i64 0, .int .i64 0, .int .i32 0, .int .i64 0, .int .i64 0, .int .i32 0, .int .i64 0, .int .i64 0])))]) h KH = KH blk0 h := by
  rw [h_bld]
  simp [fillOkV, fillD, blk0]
theorem bldC {P : Program} {h : Heap} {KH : D → Heap → Prop} {G : Int} {n : Nat} : vhOp P (.bld [(.int .i64 0), (.int .i64 0), (.int .i64 0), (.int .i64 0), (.int .i64 0), .nil, .nil, .nil] [(0, 1, (.c (.int .i64 G))), (1, 1, (.c (.int .i64 1))), (7, 1, (.c (.ms n 0 1)))]) h KH =
    KH (.agg (cdc G (rest0 (.ms n 0 1)))) h := by
  rw [h_bld]
  simp [fillOkV, fillD, cdc, rest0]
theorem stC {P : Program} {h : Heap} {KH : D → Heap → Prop} {n n5 : Nat} {G : Int} {x0 x1 x2 x3 x4 x5 x6 x7 : D} (a : h n = .box (.agg [x0, x1, x2, x3, x4, x5, x6, x7])) :
    vhOp P (.st (.c (.ptr n 0 0)) (.c (.agg (cdc G (rest0 (.ms n5 0 1))))) 8) h KH = KH .undef (upd h n (.box (.agg (cdc G (rest0 (.ms n5 0 1)))))) := by
  rw [g_st, a]
  apply propext
  constructor
  · exact fun hh => hh.2.2.2.2
  · intro hk
    exact ⟨rfl, by simp [cdc, rest0], rfl, by simp [cdc, rest0], hk⟩
theorem ldC {P : Program} {h : Heap} {KH : D → Heap → Prop} {n n5 : Nat} {G : Int} (a : h n = .box (.agg (cdc G (rest0 (.ms n5 0 1))))) : vhOp P (.ld (.c (.ptr n 0 0)) 8 true) h KH = KH (.agg (cdc G (rest0 (.ms n5 0 1)))) h := lda a
theorem bldF {P : Program} {h : Heap} {KH : D → Heap → Prop} {i : Int} {s : Sp} : vhOp P (.bld [(.bool false), (.int .i64 0), (.int .i64 0), (.int .i64 0), (.int .i64 0), (.int .i64 0), (.int .i64 0)] [(1, 1, (.c (.int .i64 i))), (4, 3, (.c s.d))]) h KH = KH (frm i 0 0 s) h := by
  rw [h_bld]
  simp [fillOkV, fillD, frm, Sp.d, spn]
theorem bldF2 {P : Program} {h : Heap} {KH : D → Heap → Prop} {l g : Int} {s : Sp} : vhOp P (.bld [(.bool false), (.int .i64 0), (.int .i64 0), (.int .i64 0), (.int .i64 0), (.int .i64 0), (.int .i64 0)] [(2, 1, (.c (.int .i64 l))), (3, 1, (.c (.int .i64 g))), (4, 3, (.c s.d))]) h KH = KH (frm 0 l g s) h := by
  rw [h_bld]
  simp [fillOkV, fillD, frm, Sp.d, spn]
end Go.Am
/- The law AffineRanges. No condition. -/
namespace Go.Am
open Go Go.Proofs

/-- What the law's inner loop keeps: the heap's blocks. -/
structure HB (h : Heap) (m39 m55 m79 : Nat) (G : Int) (i l g : Int) (s S : Sp) : Prop where
  c : ∃ n5, h m39 = .box (.agg (cdc G (rest0 (.ms n5 0 1))))
  f : h m55 = .box (frm i l g s)
  s : h m79 = .box S.d
theorem ldD0 {P : Program} {h : Heap} {KH : D → Heap → Prop} {n : Nat} {S : Sp} (a : h n = .box S.d) : vhOp P (.ld (.c (.ptr n 0 0)) 1 false) h KH = KH (.int .i64 S.lo) h := ldb a rfl
theorem ldD1 {P : Program} {h : Heap} {KH : D → Heap → Prop} {n : Nat} {S : Sp} (a : h n = .box S.d) : vhOp P (.ld (.c (.ptr n 0 1)) 1 false) h KH = KH (.int .i64 S.hi) h := ldb a rfl
theorem ldD {P : Program} {h : Heap} {KH : D → Heap → Prop} {n : Nat} {S : Sp} (a : h n = .box S.d) : vhOp P (.ld (.c (.ptr n 0 0)) 3 true) h KH = KH S.d h := lda a
theorem quoW {a b : Int} {K : D → Prop} (hb : 1 ≤ b) (h0 : 0 ≤ a) (ha : a ≤ 1000000) : vbin .quo (.int .i64 a) (.int .i64 b) K = K (.int .i64 (a.tdiv b)) := by
  have h1 : 0 ≤ a.tdiv b := Int.tdiv_nonneg h0 (by omega)
  have h2 : a.tdiv b ≤ a := by
    rw [Int.tdiv_eq_ediv_of_nonneg h0]; exact Int.ediv_le_self _ h0
  rw [v_quo, wrap64 (by omega) (by omega)]
  simp [show b ≠ 0 by omega]
theorem wrap32 {v : Int} (h1 : -2147483648 ≤ v) (h2 : v ≤ 2147483647) : IntKind.i32.wrap v = v := by
  simp only [IntKind.wrap, IntKind.signed, IntKind.bits]
  simp
  omega

/-- A flag that is set for some item, or the end is out of reach. -/
def Seen (i l g : Int) (s : Sp) (G : Int) (e : Int) (k : Int) (b : Bool) : Prop := ∀ x : Int, 0 ≤ x → x < k → -2100 ≤ e → e ≤ 2200 → hasF i l g s x (x.tmod G) (x.tdiv G) e = true → b = true

set_option maxHeartbeats 2000000 in
theorem inner_ok {G N i l g x : Int} {s S : Sp} {h148 : Heap} {m39 m55 m79 : Nat} {f143 : Nat → D} {a46 : D} {J : List D → Heap → Prop} {K : D → Heap → Prop} {bl bh : Bool}
    (hG : 1 ≤ G ∧ G ≤ 8) (hN : 1 ≤ N ∧ N ≤ 4) (hi : -200 ≤ i ∧ i ≤ 200) (hl : -200 ≤ l ∧ l ≤ 200) (hg : -200 ≤ g ∧ g ≤ 200) (hs : SOk 200 s.lo s.hi s.st) (hS : S = rng G N i l g s) (hSb : -1000000 ≤ S.lo ∧ S.lo ≤ 1000000)
    (hx : 0 ≤ x ∧ x ≤ N * G - 1) (hNG : N * G ≤ 32) (hb : HB h148 m39 m55 m79 G i l g s S) (f13 : f143 13 = .bool bl) (f14 : f143 14 = .bool bh) (f15 : f143 15 = .int .i64 x)
    (sl : Seen i l g s G S.lo x bl) (sh : Seen i l g s G S.hi x bh)
    (hJ : ∀ bl' bh' h', HB h' m39 m55 m79 G i l g s S → Seen i l g s G S.lo (x + 1) bl' → Seen i l g s G S.hi (x + 1) bh' → J [.bool bl', .bool bh'] h') :
    V_law26_AffineRanges_L0 f143 h148 (.bool true) (.ptr m39 0 0) a46 (.ptr m55 0 0) (.ptr m79 0 0) J K := by
  have hy : 0 ≤ x.tmod G ∧ x.tmod G ≤ G - 1 := ⟨Int.tmod_nonneg _ hx.1, by have := Int.tmod_lt_of_pos x (show 0 < G by omega); omega⟩
  have hz : 0 ≤ x.tdiv G ∧ x.tdiv G ≤ N - 1 := by
    refine ⟨Int.tdiv_nonneg hx.1 (by omega), ?_⟩
    rw [Int.tdiv_eq_ediv_of_nonneg hx.1]
    have : x / G < N := Int.ediv_lt_of_lt_mul (by omega) (by omega)
    omega
  unfold V_law26_AffineRanges_L0
  rw [f13, f14, f15]
  refine ⟨fun n q h => ∃ (v : Int) (b1 b2 : Bool), (n : Int) + v = 2201 ∧ -2100 ≤ v ∧ q = [.bool b1, .bool b2, .int .i64 v] ∧ HB h m39 m55 m79 G i l g s S ∧ Seen i l g s G S.lo x b1 ∧ Seen i l g s G S.hi x b2 ∧
      (hasF i l g s x (x.tmod G) (x.tdiv G) S.lo = true → -2100 ≤ S.lo → S.lo < v → b1 = true) ∧ (hasF i l g s x (x.tmod G) (x.tdiv G) S.hi = true → -2100 ≤ S.hi → S.hi < v → b2 = true), 4301,
    ⟨-2100, bl, bh, by omega, by omega, rfl, hb, sl, sh, fun _ _ h => by omega, fun _ _ h => by omega⟩, ?_⟩
  rintro n f h ⟨v, b1, b2, hn, hv, hf, hB, s1, s2, t1, t2⟩
  simp only [List.cons.injEq, and_true] at hf
  obtain ⟨g13, g14, g16⟩ := hf
  rw [g13, g14, g16]
  by_cases hend : v ≤ 2200
  · simp only [↓leT hend, ↓v_cond_t]
    refine ⟨fun q h' => ∃ (c1 c2 : Bool), q = [.bool c1, .bool c2] ∧ HB h' m39 m55 m79 G i l g s S ∧ Seen i l g s G S.lo x c1 ∧ Seen i l g s G S.hi x c2 ∧
      (hasF i l g s x (x.tmod G) (x.tdiv G) S.lo = true → -2100 ≤ S.lo → S.lo < v + 1 → c1 = true) ∧ (hasF i l g s x (x.tmod G) (x.tdiv G) S.hi = true → -2100 ≤ S.hi → S.hi < v + 1 → c2 = true), ?_, ?_⟩
    · rintro f' h' ⟨c1, c2, hf', hB', u1, u2, u3, u4⟩
      simp only [List.cons.injEq, and_true] at hf'
      rw [hf'.1, hf'.2]
      rw [addW (by omega) (by omega)]
      exact ⟨rfl, n - 1, by omega, v + 1, c1, c2, by omega, by omega, rfl, hB', u1, u2, u3, u4⟩
    · obtain ⟨n5, e39⟩ := hB.c
      have e55 := hB.f
      have e79 := hB.s
      have w32 := wrap32 (v := v) (by omega) (by omega)
      simp only [↓dld7 e55, ↓dfab e39, ↓dldb e39 (j := 0) rfl, ↓remW (show G ≠ 0 by omega), ↓quoW hG.1 hx.1 (show x ≤ 1000000 by omega), ↓d_conv, ↓h_conv, w32]
      refine td_call (c_affHas (i := i) (l := l) (g := g) (x := x) (y := x.tmod G) (z := x.tdiv G) (v := v) (s := s) hi hl hg (by omega) (by omega) (by omega) (by omega) (fun h => by rcases hs.st with h' | h' <;> omega) (by have := hs.l; have := hs.u; have := hs.le; omega)) ⟨frm_dat, dat_int, dat_int, dat_int, dat_int, trivial⟩ ?_
      cases hh : hasF i l g s x (x.tmod G) (x.tdiv G) v with
      | false =>
        rw [v_cond_f]
        refine ⟨rfl, b1, b2, rfl, hB, s1, s2, fun q1 q2 q3 => ?_, fun q1 q2 q3 => ?_⟩
        · by_cases he : S.lo = v
          · rw [he, hh] at q1; cases q1
          · exact t1 q1 q2 (by omega)
        · by_cases he : S.hi = v
          · rw [he, hh] at q1; cases q1
          · exact t2 q1 q2 (by omega)
      | true =>
        rw [v_cond_t]
        have hm : MemS S v := by rw [hS]; exact has_in hG.1 hN.1 hx hy hz hh
        simp only [↓ldD e79]
        refine t_call1 (c_refHas (lo := S.lo) (hi := S.hi) (st := S.st) hSb (by omega)) ⟨spn_dat, dat_int, trivial⟩ ?_
        rw [mem_ref hm]
        simp only [↓gS]
        have fin : ∀ (c1 c2 : Bool), (b1 = true → c1 = true) → (S.lo = v → c1 = true) → (b2 = true → c2 = true) → (S.hi = v → c2 = true) →
            ∃ c1' c2', [D.bool c1, D.bool c2] = [.bool c1', .bool c2'] ∧ HB h m39 m55 m79 G i l g s S ∧ Seen i l g s G S.lo x c1' ∧ Seen i l g s G S.hi x c2' ∧
              (hasF i l g s x (x.tmod G) (x.tdiv G) S.lo = true → -2100 ≤ S.lo → S.lo < v + 1 → c1' = true) ∧ (hasF i l g s x (x.tmod G) (x.tdiv G) S.hi = true → -2100 ≤ S.hi → S.hi < v + 1 → c2' = true) := by
          intro c1 c2 r1 r2 r3 r4
          refine ⟨c1, c2, rfl, hB, fun y y0 y1 y2 y3 y4 => r1 (s1 y y0 y1 y2 y3 y4), fun y y0 y1 y2 y3 y4 => r3 (s2 y y0 y1 y2 y3 y4), fun q1 q2 q3 => ?_, fun q1 q2 q3 => ?_⟩
          · by_cases he : S.lo = v
            · exact r2 he
            · exact r1 (t1 q1 q2 (by omega))
          · by_cases he : S.hi = v
            · exact r4 he
            · exact r3 (t2 q1 q2 (by omega))
        cases b1 with
        | true =>
          simp only [↓gS]
          cases b2 with
          | true =>
            simp only [↓gS]
            exact ⟨rfl, fin true true (fun h => h) (fun _ => rfl) (fun h => h) (fun _ => rfl)⟩
          | false =>
            simp only [↓gS, ↓fab e79, ↓ldD1 e79, ↓v_eql]
            exact ⟨rfl, fin _ _ (fun h => h) (fun _ => rfl) (fun h => by cases h) (fun h => by simp [h])⟩
        | false =>
          simp only [↓gS, ↓fab e79, ↓ldD0 e79, ↓v_eql]
          cases b2 with
          | true =>
            simp only [↓gS]
            exact ⟨rfl, fin _ _ (fun h => by cases h) (fun h => by simp [h]) (fun h => h) (fun _ => rfl)⟩
          | false =>
            simp only [↓gS, ↓fab e79, ↓ldD1 e79, ↓v_eql]
            exact ⟨rfl, fin _ _ (fun h => by cases h) (fun h => by simp [h]) (fun h => by cases h) (fun h => by simp [h])⟩
  · have hge : 2200 < v := by omega
    simp only [↓leF hge, ↓v_cond_f]
    refine ⟨by first | exact trivial | exact rfl, hJ b1 b2 h hB (fun y y0 y1 y2 y3 y4 => ?_) (fun y y0 y1 y2 y3 y4 => ?_)⟩
    · by_cases he : y = x
      · subst he; exact t1 y4 y2 (by omega)
      · exact s1 y y0 (by omega) y2 y3 y4
    · by_cases he : y = x
      · subst he; exact t2 y4 y2 (by omega)
      · exact s2 y y0 (by omega) y2 y3 y4
end Go.Am
/- The law AffineRanges, whole. No condition. -/
namespace Go.Am
open Go Go.Proofs

set_option maxHeartbeats 2000000 in
theorem outer_ok {G N i l g : Int} {s S : Sp} {h82 : Heap} {m39 m55 m79 : Nat} {J : List D → Heap → Prop} {K : D → Heap → Prop}
    (hG : 1 ≤ G ∧ G ≤ 8) (hN : 1 ≤ N ∧ N ≤ 4) (hi : -200 ≤ i ∧ i ≤ 200) (hl : -200 ≤ l ∧ l ≤ 200) (hg : -200 ≤ g ∧ g ≤ 200) (hs : SOk 200 s.lo s.hi s.st) (hS : S = rng G N i l g s) (hSb : -1000000 ≤ S.lo ∧ S.lo ≤ 1000000)
    (hNG : 0 ≤ N * G ∧ N * G ≤ 32) (hb : HB h82 m39 m55 m79 G i l g s S)
    (hJ : ∀ bl' bh' h', HB h' m39 m55 m79 G i l g s S → Seen i l g s G S.lo (N * G) bl' → Seen i l g s G S.hi (N * G) bh' → J [.bool bl', .bool bh'] h') :
    V_law26_AffineRanges_L1 h82 (.ptr m39 0 0) (.int .i64 N) (.bool true) (.ptr m55 0 0) (.ptr m79 0 0) J K := by
  unfold V_law26_AffineRanges_L1
  refine ⟨fun n q h => ∃ (x : Int) (b1 b2 : Bool), (n : Int) + x = N * G ∧ 0 ≤ x ∧ q = [.bool b1, .bool b2, .int .i64 x] ∧ HB h m39 m55 m79 G i l g s S ∧ Seen i l g s G S.lo x b1 ∧ Seen i l g s G S.hi x b2, (N * G).toNat,
    ⟨0, false, false, by omega, by omega, rfl, hb, fun y y0 y1 => by omega, fun y y0 y1 => by omega⟩, ?_⟩
  rintro n f h ⟨x, b1, b2, hn, hx, hf, hB, s1, s2⟩
  simp only [List.cons.injEq, and_true] at hf
  obtain ⟨g13, g14, g15⟩ := hf
  obtain ⟨n5, e39⟩ := hB.c
  rw [g13, g14, g15]
  simp only [↓fab e39, ↓ldb e39 (j := 0) rfl, ↓mulW (show -9223372036854775808 ≤ N * G by omega) (show N * G ≤ 9223372036854775807 by omega)]
  by_cases hlt : x < N * G
  · simp only [↓ltT hlt, ↓v_cond_t]
    refine ⟨fun q h' => ∃ (c1 c2 : Bool), q = [.bool c1, .bool c2] ∧ HB h' m39 m55 m79 G i l g s S ∧ Seen i l g s G S.lo (x + 1) c1 ∧ Seen i l g s G S.hi (x + 1) c2, ?_, ?_⟩
    · rintro f' h' ⟨c1, c2, hf', hB', u1, u2⟩
      simp only [List.cons.injEq, and_true] at hf'
      rw [hf'.1, hf'.2]
      rw [addW (by omega) (by omega)]
      exact ⟨rfl, n - 1, by omega, x + 1, c1, c2, by omega, by omega, rfl, hB', u1, u2⟩
    · exact inner_ok hG hN hi hl hg hs hS hSb ⟨hx, by omega⟩ hNG.2 hB g13 g14 g15 s1 s2 fun c1 c2 h' w1 w2 w3 => ⟨c1, c2, rfl, w1, w2, w3⟩
  · have hge : N * G ≤ x := by omega
    simp only [↓ltF hge, ↓v_cond_f]
    have he : x = N * G := by omega
    subst he
    exact ⟨by first | exact trivial | exact rfl, hJ b1 b2 h hB s1 s2⟩

theorem ld6 {P : Program} {h : Heap} {KH : D → Heap → Prop} {n j : Nat} {cs : List D} {d : D} (a : h n = .box (.agg cs)) (hj : cs[j]? = some d) : vhOp P (.ld (.c (.ptr n 0 j)) 1 false) h KH = KH d h := ldb a hj

set_option maxHeartbeats 4000000 in
theorem c_law {a b g lo st n : Int} (ha : -128 ≤ a ∧ a ≤ 127) (hb : -128 ≤ b ∧ b ≤ 127) (hg : -128 ≤ g ∧ g ≤ 127) (hst : 0 ≤ st) (hn : 0 ≤ n) :
    VCall PP n_law26_AffineRanges [.agg [.int .i8 a, .int .i8 b, .int .i8 g, .int .i64 lo, .int .u32 st, .int .u16 n]] (· = .bool true) := by
  have adat : Dat (.agg [.int .i8 a, .int .i8 b, .int .i8 g, .int .i64 lo, .int .u32 st, .int .u16 n]) := dat_agg (by simp)
  obtain ⟨sok, sst, smem⟩ := sm_ok (a := lo) hst hn
  have w7 := and7 a ha.1 ha.2
  have w3 := and3 b hb.1 hb.2
  refine vcall_V F_law26_AffineRanges_ok (cDr_ok _ _ _) rfl (V_law26_AffineRanges_ok _ _) ?_
  unfold V_law26_AffineRanges
  rw [g_box]
  refine ⟨adat.one, fun m t => ?_⟩
  have a0 := upd_self noHeap m (.box (.agg [.int .i8 a, .int .i8 b, .int .i8 g, .int .i64 lo, .int .u32 st, .int .u16 n]))
  generalize upd noHeap m (.box (.agg [.int .i8 a, .int .i8 b, .int .i8 g, .int .i64 lo, .int .u32 st, .int .u16 n])) = hA at a0
  refine t_call1 c_examples trivial ?_
  simp only [↓gS, ↓fab a0, ↓ldb a0 (j := 0) rfl, ↓ldb a0 (j := 1) rfl, ↓ldb a0 (j := 2) rfl, ↓ld33 a0]
  rw [g_alloc]
  intro m2 t2
  simp only [↓st3i (upd_self hA m2 (.box (.agg [.int .i64 0, .int .u32 0, .int .u16 0])))]
  rw [upd_upd]
  have b2 := upd_self hA m2 (.box (.agg [.int .i64 lo, .int .u32 st, .int .u16 n]))
  generalize upd hA m2 (.box (.agg [.int .i64 lo, .int .u32 st, .int .u16 n])) = hB at b2
  have x1 : IntKind.i64.wrap (ibits .and .i8 a 7) = ibits .and .i8 a 7 := wrap64 (by omega) (by omega)
  have x2 : IntKind.i64.wrap (ibits .and .i8 b 3) = ibits .and .i8 b 3 := wrap64 (by omega) (by omega)
  have x3 : IntKind.i64.wrap a = a := wrap64 (by omega) (by omega)
  have x4 : IntKind.i64.wrap b = b := wrap64 (by omega) (by omega)
  have x5 : IntKind.i64.wrap g = g := wrap64 (by omega) (by omega)
  simp only [↓v_and, ↓h_conv, x1]
  rw [addW (by omega) (by omega)]
  have hG : 1 ≤ 1 + ibits .and .i8 a 7 ∧ 1 + ibits .and .i8 a 7 ≤ 8 := by omega
  generalize 1 + ibits .and .i8 a 7 = G at hG
  have hN : 1 ≤ 1 + ibits .and .i8 b 3 ∧ 1 + ibits .and .i8 b 3 ≤ 4 := by omega
  simp only [↓bldT, ↓bldB]
  refine g_bld1 blk_dat.vd blk_dat.one rfl fun m5 t5 => ?_
  have n25 : m2 ≠ m5 := t5.ne (by rw [b2]; simp)
  have c2 := keepU (x := .arr 14 [blk0]) n25 b2
  have c5 := upd_self hB m5 (.arr 14 [blk0])
  generalize upd hB m5 (.arr 14 [blk0]) = hC at c2 c5
  simp only [↓bldC]
  rw [g_alloc]
  intro m39 t39
  simp only [↓stC (upd_self hC m39 (.box (.agg [.int .i64 0, .int .i64 0, .int .i64 0, .int .i64 0, .int .i64 0, .nil, .nil, .nil])))]
  rw [upd_upd]
  have n2 : m2 ≠ m39 := t39.ne (by rw [c2]; simp)
  have n5 : m5 ≠ m39 := t39.ne (by rw [c5]; simp)
  have d2 := keepU (x := .box (.agg (cdc G (rest0 (.ms m5 0 1))))) n2 c2
  have d5 := keepU (x := .box (.agg (cdc G (rest0 (.ms m5 0 1))))) n5 c5
  have d39 := upd_self hC m39 (.box (.agg (cdc G (rest0 (.ms m5 0 1)))))
  generalize upd hC m39 (.box (.agg (cdc G (rest0 (.ms m5 0 1))))) = hD at d2 d5 d39
  simp only [↓v_and, ↓h_conv, x2]
  rw [addW (by omega) (by omega)]
  generalize 1 + ibits .and .i8 b 3 = N at hN
  simp only [↓h_conv, x3, ↓ld3 d2]
  refine t_call1 (c_Small hst hn) ⟨dat_agg (by simp), trivial⟩ ?_
  generalize smS lo st n = s at sok sst smem
  simp only [↓bldF]
  rw [g_alloc]
  intro m55 t55
  simp only [↓st7 (upd_self hD m55 (.box (.agg [.bool false, .int .i64 0, .int .i64 0, .int .i64 0, .int .i64 0, .int .i64 0, .int .i64 0])))]
  rw [upd_upd]
  have p5 : m5 ≠ m55 := t55.ne (by rw [d5]; simp)
  have p39 : m39 ≠ m55 := t55.ne (by rw [d39]; simp)
  have e5 := keepU (x := .box (frm a 0 0 s)) p5 d5
  have e39 := keepU (x := .box (frm a 0 0 s)) p39 d39
  have e55 := upd_self hD m55 (.box (frm a 0 0 s))
  generalize upd hD m55 (.box (frm a 0 0 s)) = hE at e5 e39 e55
  refine ⟨fun _ h => h m5 = .arr 14 [blk0] ∧ h m39 = .box (.agg (cdc G (rest0 (.ms m5 0 1)))) ∧ ∃ i l g, h m55 = .box (frm i l g s) ∧ ((l = 0 ∧ g = 0) ∨ i = 0) ∧ (-200 ≤ i ∧ i ≤ 200) ∧ (-200 ≤ l ∧ l ≤ 200) ∧ (-200 ≤ g ∧ g ≤ 200), ?_, ?_⟩
  · rintro f h ⟨q5, q39, i, l, g, q55, hf, hi, hl, hg⟩
    simp only [↓ldC q39, ↓ld7 q55]
    have hrv : ∀ x, x ∈ rest0 (.sl [blk0]) → x.vone = true := by simp [rest0]
    obtain ⟨vb, hv⟩ := c_Valid (G := G) (N := N) (i := i) (l := l) (g := g) (s := s) (r := rest0 (.sl [blk0])) rfl hrv (by omega) (by omega) hi hl hg sok sst
    refine code_call q5 hv rfl ?_
    cases vb with
    | false =>
      simp only [↓gS]
      exact vret_b rfl
    | true =>
      simp only [↓gS, ↓ldC q39, ↓ld7 q55]
      refine code_call q5 (c_Range (G := G) (N := N) (i := i) (l := l) (g := g) (s := s) (r := rest0 (.sl [blk0])) rfl hrv (by omega) (by omega) hi hl hg sok sst) rfl ?_
      simp only [↓gS]
      rw [g_alloc]
      intro m79 t79
      have r39 : m39 ≠ m79 := t79.ne (by rw [q39]; simp)
      have r55 : m55 ≠ m79 := t79.ne (by rw [q55]; simp)
      have hst0 : 0 ≤ s.st := by rcases sok.st with h | h <;> omega
      have hNG : 0 ≤ N * G ∧ N * G ≤ 32 := by
        have := mul_bd (a := N) (b := G) (A := 4) (B := 8) (by omega) (by omega)
        exact ⟨Int.mul_nonneg (by omega) (by omega), by omega⟩
      have in0 : s.In 200 := ⟨by have := sok.l; have := sok.u; have := sok.le; omega, by have := sok.l; have := sok.u; have := sok.le; omega, by omega⟩
      have i1 := in0.add (M := 200) (by omega) hi (n := N * G) (by omega)
      have i2 := i1.add (by omega) hl (n := G) (by omega)
      have i3 : (rng G N i l g s).In _ := i2.add (by omega) hg (n := N) (by omega)
      obtain ⟨xlo, hxl⟩ := has_lo (G := G) (N := N) (i := i) (l := l) (g := g) (s := s) hG.1 hN.1 sok.le hf
      obtain ⟨xhi, hxh⟩ := has_hi (G := G) (N := N) (i := i) (l := l) (g := g) (s := s) hG.1 hN.1 smem hf
      have hloU : (rng G N i l g s).lo ≤ 2200 := by
        have l1 := (p_between (k := i) (c := N * G) (q := 0) (by have := Int.mul_le_mul hN.1 hG.1 (by omega) (by omega); omega) (by omega) (by have := Int.mul_le_mul hN.1 hG.1 (by omega) (by omega); omega)).1
        have l2 := (p_between (k := l) (c := G) (q := 0) hG.1 (by omega) (by omega)).1
        have l3 := (p_between (k := g) (c := N) (q := 0) hN.1 (by omega) (by omega)).1
        rw [Int.mul_zero] at l1 l2 l3
        have := sok.u; have := sok.le
        simp only [rng, Sp.add]; omega
      have hhiL : -2100 ≤ (rng G N i l g s).hi := by
        have l1 := (p_between (k := i) (c := N * G) (q := 0) (by have := Int.mul_le_mul hN.1 hG.1 (by omega) (by omega); omega) (by omega) (by have := Int.mul_le_mul hN.1 hG.1 (by omega) (by omega); omega)).2
        have l2 := (p_between (k := l) (c := G) (q := 0) hG.1 (by omega) (by omega)).2
        have l3 := (p_between (k := g) (c := N) (q := 0) hN.1 (by omega) (by omega)).2
        rw [Int.mul_zero] at l1 l2 l3
        have := sok.l; have := sok.le
        simp only [rng, Sp.add]; omega
      obtain ⟨j1, j2, j3⟩ := i3
      generalize hS : rng G N i l g s = S at hxl hxh hloU hhiL j1 j2 j3
      unfold Sp.d spn
      simp only [↓st3i (upd_self h m79 (.box (.agg [.int .i64 0, .int .i64 0, .int .i64 0])))]
      rw [upd_upd]
      have s39 := keepU (x := .box (.agg [.int .i64 S.lo, .int .i64 S.hi, .int .i64 S.st])) r39 q39
      have s55 := keepU (x := .box (.agg [.int .i64 S.lo, .int .i64 S.hi, .int .i64 S.st])) r55 q55
      have s79 := upd_self h m79 (.box (.agg [.int .i64 S.lo, .int .i64 S.hi, .int .i64 S.st]))
      generalize upd h m79 (.box (.agg [.int .i64 S.lo, .int .i64 S.hi, .int .i64 S.st])) = hF at s39 s55 s79
      refine ⟨fun q h => ∃ c1 c2, q = [.bool c1, .bool c2] ∧ h m79 = .box S.d ∧ (c1 = true ∨ S.lo < -2100) ∧ (c2 = true ∨ 2200 < S.hi), ?_, ?_⟩
      · rintro f' h' ⟨c1, c2, hf', z79, k1, k2⟩
        simp only [List.cons.injEq, and_true] at hf'
        rw [hf'.1, hf'.2]
        cases c1 with
        | true =>
          cases c2 with
          | true =>
            simp only [↓gS]
            exact vret_b rfl
          | false =>
            have k2 : 2200 < S.hi := by rcases k2 with k2 | k2; cases k2; exact k2
            simp only [↓gS, ↓fab z79, ↓ldD1 z79, ↓gtT k2]
            exact vret_b rfl
        | false =>
          have k1 : S.lo < -2100 := by rcases k1 with k1 | k1; cases k1; exact k1
          cases c2 with
          | true =>
            simp only [↓gS, ↓fab z79, ↓ldD0 z79, ↓ltT k1]
            exact vret_b rfl
          | false =>
            have k2 : 2200 < S.hi := by rcases k2 with k2 | k2; cases k2; exact k2
            simp only [↓gS, ↓fab z79, ↓ldD0 z79, ↓ldD1 z79, ↓ltT k1, ↓gtT k2]
            exact vret_b rfl
      · refine outer_ok hG hN hi hl hg sok hS.symm (by omega) hNG ⟨⟨m5, s39⟩, s55, s79⟩ fun c1 c2 h' w1 w2 w3 => ?_
        refine ⟨c1, c2, rfl, w1.s, ?_, ?_⟩
        · rcases Int.lt_or_le S.lo (-2100) with hlt | hge
          · exact Or.inr hlt
          · exact Or.inl (w2 xlo hxl.1 (by omega) hge hloU hxl.2.2)
        · rcases Int.lt_or_le 2200 S.hi with hlt | hge
          · exact Or.inr hlt
          · exact Or.inl (w3 xhi hxh.1 (by omega) hhiL hge hxh.2.2)
  · rw [v_rem]
    refine ⟨by omega, ?_⟩
    rw [v_eql, v_cond]
    refine ⟨fun _ => ?_, fun _ => ?_⟩
    · simp only [↓h_conv, x4, x5, ↓fab e55, ↓ldR e55, ↓bldF2]
      have e55' := e55
      unfold frm at e55'
      simp only [↓st7 e55']
      exact ⟨rfl, keepU p5 e5, keepU p39 e39, 0, b, g, upd_self _ _ _, Or.inr rfl, by omega, by omega, by omega⟩
    · exact ⟨rfl, e5, e39, a, 0, 0, e55, Or.inl ⟨rfl, rfl⟩, by omega, by omega, by omega⟩
end Go.Am
/- The law AffineRanges, at what the row's types say. No condition. -/
namespace Go.Am
open Go Go.Proofs
theorem t28 : structL Tryz.prog 28 = some [(22, 0), (22, 1), (22, 2), (26, 3)] := by kernel_rfl
theorem t26 : structL Tryz.prog 26 = some [(2, 0), (23, 1), (24, 2)] := by kernel_rfl
theorem t22 : Tryz.prog.underlying 22 = some (.int .i8) := by kernel_rfl
theorem t2 : Tryz.prog.underlying 2 = some (.int .i64) := by kernel_rfl
theorem t23 : Tryz.prog.underlying 23 = some (.int .u32) := by kernel_rfl
theorem t24 : Tryz.prog.underlying 24 = some (.int .u16) := by kernel_rfl
theorem z28 : Tryz.prog.cellsOf 28 = 6 := by kernel_rfl
theorem z26 : Tryz.prog.cellsOf 26 = 3 := by kernel_rfl
theorem z22 : Tryz.prog.cellsOf 22 = 1 := by kernel_rfl
theorem z2 : Tryz.prog.cellsOf 2 = 1 := by kernel_rfl
theorem z23 : Tryz.prog.cellsOf 23 = 1 := by kernel_rfl
theorem z24 : Tryz.prog.cellsOf 24 = 1 := by kernel_rfl
theorem i8min : IntKind.i8.min = -128 := rfl
theorem i8max : IntKind.i8.max = 127 := rfl
theorem u32min : IntKind.u32.min = 0 := rfl
theorem u16min : IntKind.u16.min = 0 := rfl
set_option maxRecDepth 100000 in
theorem lawRH (xs : List D) (h : HasTys Tryz.prog 12 Tryz.f3.params.toList xs) : VCall Tryz.prog 3 xs (· = .bool true) := by
  have hp : Tryz.f3.params.toList = [28] := by kernel_rfl
  rw [hp] at h
  obtain ⟨c1, r1, rfl, h1, rfl⟩ := h
  obtain ⟨k1, k2⟩ := hasTy_struct t28 h1
  rw [z28] at k1
  have q0 := k2 (22, 0) (by simp)
  have q1 := k2 (22, 1) (by simp)
  have q2 := k2 (22, 2) (by simp)
  have q3 := k2 (26, 3) (by simp)
  simp only [z22, z26] at q0 q1 q2 q3
  match c1, k1 with
  | [d0, d1, d2, d3, d4, d5], _ =>
    obtain ⟨a, ha, a1, a2⟩ := hasTy_int t22 q0
    obtain ⟨b, hb, b1, b2⟩ := hasTy_int t22 q1
    obtain ⟨g, hg, g1, g2⟩ := hasTy_int t22 q2
    obtain ⟨-, e2⟩ := hasTy_struct t26 q3
    have p0 := e2 (2, 0) (by simp)
    have p1 := e2 (23, 1) (by simp)
    have p2 := e2 (24, 2) (by simp)
    simp only [z2, z23, z24] at p0 p1 p2
    obtain ⟨lo, hlo, lo1, lo2⟩ := hasTy_int t2 p0
    obtain ⟨st, hst, st1, st2⟩ := hasTy_int t23 p1
    obtain ⟨n, hn, n1, n2⟩ := hasTy_int t24 p2
    simp at ha hb hg hlo hst hn
    subst ha hb hg hlo hst hn
    rw [i8min] at a1 b1 g1
    rw [i8max] at a2 b2 g2
    rw [u32min] at st1
    rw [u16min] at n1
    rw [mk_struct t28]
    exact c_law ⟨a1, a2⟩ ⟨b1, b2⟩ ⟨g1, g2⟩ st1 n1
end Go.Am
