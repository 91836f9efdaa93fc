/- What the functions of this chapter give, on plain data. No condition. -/
import Derived.Test.YtabnmenibgbfoaaGreatP1
set_option linter.unnecessarySimpa false
set_option linter.defProp false
set_option linter.unusedSectionVars false
set_option linter.unusedSimpArgs false
set_option linter.unusedVariables false
/- The law AffineSums, whole. No condition. -/
namespace Go.Am
open Go Go.Proofs

theorem own_ne {esz m : Nat} {h : Heap} {v b : D} {els : List D} (ho : Own esz h v els) (hm : h m = .box b) : ∀ l, v ≠ .ms m 0 l := by
  rintro l rfl
  rcases ho with ⟨h1, -⟩ | ⟨n, h1, h2⟩
  · cases h1
  · injection h1 with h3 h4 h5
    subst h3
    rw [hm] at h2; cases h2
def prg (a b c k : Int) (i : Nat) : List D := ((prog a b c k).take (3 + i)).map Inst.e

theorem Sums_L1 {a b c k : Int} {h20 : Heap} {v0 a1 a6 a12 : D} {m4 : Nat} {J : List D → Heap → Prop} (ha : -128 ≤ a ∧ a ≤ 127) (hb : -128 ≤ b ∧ b ≤ 127) (hc : -128 ≤ c ∧ c ≤ 127)
    (h4 : h20 m4 = .box (A4 a b c k)) (ho : Own 15 h20 v0 (prg a b c k 0)) (hJ : ∀ v h, h m4 = .box (A4 a b c k) → Own 15 h v (prg a b c k 3) → J [v] h) :
    V_law26_AffineSums_L1 v0 h20 (.ptr m4 0 0) a1 a6 a12 J := by
  unfold V_law26_AffineSums_L1
  refine ⟨fun n q h => ∃ (i : Nat) (v : D), n + i = 3 ∧ q = [v, .int .i64 (i : Int)] ∧ h m4 = .box (A4 a b c k) ∧ Own 15 h v (prg a b c k i), 3, ⟨0, v0, rfl, rfl, h4, ho⟩, ?_⟩
  rintro n f h ⟨i, v, hn, hq, h4, ho⟩
  simp only [List.cons.injEq, and_true] at hq
  rw [hq.1, hq.2]
  rcases Nat.lt_or_ge i 3 with hi | hi
  · have hi' : (i : Int) < 3 := by omega
    obtain ⟨x, hx, hxb, hp⟩ : ∃ x : Int, ([D.int .i8 a, .int .i8 b, .int .i8 c, .int .i8 k] : List D)[i]? = some (.int .i8 x) ∧ (-128 ≤ x ∧ x ≤ 127) ∧ prg a b c k (i + 1) = prg a b c k i ++ [(binI 12 (3 + i) (Const x) (Reg i)).e] := by
      rcases (by omega : i = 0 ∨ i = 1 ∨ i = 2) with rfl | rfl | rfl
      · exact ⟨a, rfl, ha, rfl⟩
      · exact ⟨b, rfl, hb, rfl⟩
      · exact ⟨c, rfl, hc, rfl⟩
    have wx := wrap32 (v := x) (by omega) (by omega)
    simp only [↓ltT hi', ↓v_cond_t, ↓addW (show -9223372036854775808 ≤ 3 + (i : Int) by omega) (show 3 + (i : Int) ≤ 9223372036854775807 by omega), ↓iaB (l := 4) h4 (show (0 : Int) ≤ (i : Int) by omega) (show (i : Int) < ((4 : Nat) : Int) by omega), Int.toNat_natCast, ↓ldb h4 (j := i) hx, ↓h_conv, wx]
    refine t_call1 c_Const ⟨dat_int, trivial⟩ ?_
    refine t_call1 c_Reg ⟨dat_int, trivial⟩ ?_
    refine t_call1 c_bin ⟨dat_int, dat_int, Opd.dat _, Opd.dat _, trivial⟩ ?_
    have hlen : (prg a b c k i).length = 3 + i := by
      rcases (by omega : i = 0 ∨ i = 1 ∨ i = 2) with rfl | rfl | rfl <;> rfl
    refine g_append ho (Inst.dat _).vd (Inst.dat _).one rfl (by omega) (by omega) fun v' h' ho' kb => ?_
    rw [addW (by omega) (by omega)]
    refine ⟨rfl, n - 1, by omega, i + 1, v', by omega, by simp, ?_, ?_⟩
    · rw [kb _ (by rw [h4]; simp) (own_ne ho h4)]; exact h4
    · rw [hp]; exact ho'
  · have hge : (3 : Int) ≤ (i : Int) := by omega
    simp only [↓ltF hge, ↓v_cond_f]
    have : i = 3 := by omega
    subst this
    exact ⟨by first | exact trivial | exact rfl, hJ v h h4 ho⟩

theorem stF {P : Program} {h : Heap} {KH : D → Heap → Prop} {m : Nat} : vhOp P (.st (.c (.ptr m 0 0)) (.c cert0) 1) (upd h m (.box (.agg [.nil]))) KH = KH .undef (upd h m (.box cert0)) := by
  rw [g_st, upd_self]
  apply propext
  constructor
  · intro hh
    have := hh.2.2.2.2
    rw [upd_upd] at this
    exact this
  · intro hk
    refine ⟨rfl, cert0_dat.one, rfl, by simp, ?_⟩
    rw [upd_upd]; exact hk
theorem ldF1 {P : Program} {h : Heap} {KH : D → Heap → Prop} {m : Nat} (a : h m = .box cert0) : vhOp P (.ld (.c (.ptr m 0 0)) 1 true) h KH = KH cert0 h := lda (cs := [.sl [.sl zs7]]) a
theorem dldF1 {P : Program} {h : Heap} {K : D → Prop} {m : Nat} (a : h m = .box cert0) : vdOp P (.ld (.c (.ptr m 0 0)) 1 true) h K = K cert0 := by rw [d_ld]; exact ldF1 a
theorem heqv3 {P : Program} {h : Heap} {KH : D → Heap → Prop} {a b c : Int} : vhOp P (.eqv false true [.i, .i, .i] (.c (spn a b c)) (.c (.agg [.int .i64 a, .int .i64 b, .int .i64 c]))) h KH = KH (.bool true) h := by
  rw [h_eqv]
  have e : eqCells [.i, .i, .i] (spn a b c).cells (D.agg [.int .i64 a, .int .i64 b, .int .i64 c]).cells = some true := by simp [spn, eqCells]
  unfold veqv
  rw [e]
  simp [spn]
theorem hold {h h' : Heap} {m n5 : Nat} {b : D} {xs : List Inst} (hk : ∀ k, k ≠ n5 → h' k = h k) (h5 : (h n5).row = some (14, [blk7 xs])) (hm : h m = .box b) : h' m = .box b := by
  have : m ≠ n5 := by
    rintro rfl
    rw [hm] at h5; cases h5
  rw [hk m this]; exact hm
theorem hold5 {h : Heap} {m n5 : Nat} {s : Slot} {xs : List Inst} (t : Top h m) (h5 : (h n5).row = some (14, [blk7 xs])) : (upd h m s n5).row = some (14, [blk7 xs]) := by
  have : n5 ≠ m := t.ne (by intro he; rw [he] at h5; cases h5)
  rw [upd_other _ _ this]; exact h5

set_option maxHeartbeats 4000000 in
theorem c_lawS {a b c k g8 n8 : Int} (ha : -128 ≤ a ∧ a ≤ 127) (hb : -128 ≤ b ∧ b ≤ 127) (hc : -128 ≤ c ∧ c ≤ 127) (hk : -128 ≤ k ∧ k ≤ 127) (hg : 0 ≤ g8) (hn : 0 ≤ n8) :
    VCall PP n_law26_AffineSums [A4 a b c k, .int .u8 g8, .int .u8 n8] (· = .bool true) := by
  have adat : Dat (A4 a b c k) := dat_agg (by simp)
  refine vcall_V F_law26_AffineSums_ok (cDr_ok _ _ _) rfl (V_law26_AffineSums_ok _ _ _ _) ?_
  unfold V_law26_AffineSums
  rw [g_box]
  refine ⟨adat.one, fun m4 t4 => ?_⟩
  have a4 := upd_self noHeap m4 (.box (A4 a b c k))
  generalize upd noHeap m4 (.box (A4 a b c k)) = hA at a4
  refine t_call1 c_examples trivial ?_
  simp only [↓gS]
  have r8 : 0 ≤ n8.tmod 8 ∧ n8.tmod 8 ≤ 7 := ⟨Int.tmod_nonneg _ hn, by have := Int.tmod_lt_of_pos n8 (show (0 : Int) < 8 by omega); omega⟩
  have r16 : 0 ≤ g8.tmod 16 ∧ g8.tmod 16 ≤ 15 := ⟨Int.tmod_nonneg _ hg, by have := Int.tmod_lt_of_pos g8 (show (0 : Int) < 16 by omega); omega⟩
  have x8 : IntKind.i64.wrap (n8.tmod 8) = n8.tmod 8 := wrap64 (by omega) (by omega)
  have x16 : IntKind.i64.wrap (g8.tmod 16) = g8.tmod 16 := wrap64 (by omega) (by omega)
  rw [remW (by omega), h_conv, x8, addW (by omega) (by omega)]
  have hN : 1 ≤ 1 + n8.tmod 8 ∧ 1 + n8.tmod 8 ≤ 8 := by omega
  generalize 1 + n8.tmod 8 = N at hN
  refine t_call1 c_id ⟨dat_int, dat_int, trivial⟩ ?_
  refine t_call1 c_id ⟨dat_int, dat_int, trivial⟩ ?_
  refine t_call1 c_id ⟨dat_int, dat_int, trivial⟩ ?_
  refine g_bldI3 fun n0 t0 => ?_
  have b4 := keepU (x := .arr 15 [(idI 0 1).e, (idI 1 2).e, (idI 2 3).e]) (t0.ne (by rw [a4]; simp)) a4
  have b0 := upd_self hA n0 (.arr 15 [(idI 0 1).e, (idI 1 2).e, (idI 2 3).e])
  generalize upd hA n0 (.arr 15 [(idI 0 1).e, (idI 1 2).e, (idI 2 3).e]) = hB at b4 b0
  refine ⟨fun q h => ∃ v, q = [v] ∧ h m4 = .box (A4 a b c k) ∧ Own 15 h v (prg a b c k 3), ?_, Sums_L1 ha hb hc b4 (Or.inr ⟨n0, rfl, b0⟩) fun v h h1 h2 => ⟨v, rfl, h1, h2⟩⟩
  rintro f h ⟨v, hq, h4, ho⟩
  simp only [List.cons.injEq, and_true] at hq
  rw [hq]
  obtain ⟨n6, rfl, h6⟩ : ∃ n6, v = .ms n6 0 (prg a b c k 3).length ∧ h n6 = .arr 15 (prg a b c k 3) := by
    rcases ho with ⟨-, h2⟩ | h2
    · cases h2
    · exact h2
  have wk := wrap32 (v := k) (by omega) (by omega)
  refine td_call c_Reg ⟨dat_int, trivial⟩ ?_
  have k3 : ([D.int .i8 a, .int .i8 b, .int .i8 c, .int .i8 k] : List D)[(3 : Int).toNat]? = some (.int .i8 k) := rfl
  simp only [↓diaB (l := 4) h4 (show (0 : Int) ≤ 3 by omega) (show (3 : Int) < ((4 : Nat) : Int) by omega), ↓dldb h4 (j := (3 : Int).toNat) k3, ↓d_conv, ↓h_conv, wk]
  refine td_call c_Const ⟨dat_int, trivial⟩ ?_
  refine td_call c_bin ⟨dat_int, dat_int, Opd.dat _, Opd.dat _, trivial⟩ ?_
  refine td_call c_Reg ⟨dat_int, trivial⟩ ?_
  refine td_call c_Reg ⟨dat_int, trivial⟩ ?_
  refine td_call c_bin ⟨dat_int, dat_int, Opd.dat _, Opd.dat _, trivial⟩ ?_
  refine td_call c_Reg ⟨dat_int, trivial⟩ ?_
  refine td_call c_Reg ⟨dat_int, trivial⟩ ?_
  refine td_call c_bin ⟨dat_int, dat_int, Opd.dat _, Opd.dat _, trivial⟩ ?_
  rw [d_bldI3 rfl]
  have hl : ∀ y, y ∈ [(binI 10 6 (Reg 3) (Const k)).e, (binI 10 6 (Reg 6) (Reg 4)).e, (binI 11 6 (Reg 6) (Reg 5)).e] → ∃ w : Inst, y = w.e := by
    intro y hy
    simp only [List.mem_cons, List.not_mem_nil, or_false] at hy
    rcases hy with rfl | rfl | rfl <;> exact ⟨_, rfl⟩
  refine g_appsl h6 (fun y hy => by obtain ⟨w, rfl⟩ := hl y hy; rfl) (fun y hy => by obtain ⟨w, rfl⟩ := hl y hy; exact (Inst.dat w).one) (by show (6 + 3) * 120 ≤ 140737488355328; omega) (by show 6 + 3 ≤ 9223372036854775807; omega) fun n9 t9 => ?_
  have n46 : m4 ≠ n6 := by rintro rfl; rw [h4] at h6; cases h6
  have n49 : m4 ≠ n9 := t9.ne (by rw [h4]; simp)
  have c4 := keepU (x := .arr 15 (prg a b c k 3 ++ [(binI 10 6 (Reg 3) (Const k)).e, (binI 10 6 (Reg 6) (Reg 4)).e, (binI 11 6 (Reg 6) (Reg 5)).e])) n49 (keepU (x := .dead) n46 h4)
  have c9 := upd_self (upd h n6 .dead) n9 (.arr 15 (prg a b c k 3 ++ [(binI 10 6 (Reg 3) (Const k)).e, (binI 10 6 (Reg 6) (Reg 4)).e, (binI 11 6 (Reg 6) (Reg 5)).e]))
  generalize upd (upd h n6 .dead) n9 (.arr 15 (prg a b c k 3 ++ [(binI 10 6 (Reg 3) (Const k)).e, (binI 10 6 (Reg 6) (Reg 4)).e, (binI 11 6 (Reg 6) (Reg 5)).e])) = hC at c4 c9
  have c9 : hC n9 = .arr 15 ((prog a b c k).map Inst.e) := c9
  rw [remW (by omega), h_conv, x16, addW (by omega) (by omega)]
  have hG : 1 ≤ 1 + g8.tmod 16 ∧ 1 + g8.tmod 16 ≤ 16 := by omega
  generalize 1 + g8.tmod 16 = G at hG
  obtain ⟨fs', d, hst, hd6, hrg⟩ := sums_steps (G := G) (N := N) (a := a) (b := b) (c := c) (k := k) (r := code7 (prog a b c k)) (z0 := Z7) (z1 := Z7) (z2 := Z7) (z3 := Z7) (z4 := Z7) (z5 := Z7) (z6 := Z7) (code7_ok _) hG hN ha hb hc hk
  obtain ⟨i, l, g, rfl, hB, hcan, hv⟩ := hrg.ex
  have hst : Steps G N (code7 (prog a b c k)) (prog a b c k) zs7 fs' := hst
  have hxs : (prog a b c k).length ≤ 1000 := by show 9 ≤ 1000; omega
  simp only [↓bldT]
  show vhOp PP (.bld _ [(0, 1, .c (.ms n9 0 (prog a b c k).length)), _]) hC _
  simp only [↓bldB7]
  refine g_bldblk c9 fun n5 t5 => ?_
  have n95 : n9 ≠ n5 := t5.ne (by rw [c9]; simp)
  have n45 : m4 ≠ n5 := t5.ne (by rw [c4]; simp)
  have d4 := keepU (x := .arr 14 [blk7 (prog a b c k)]) n45 (keepU (x := .frz 15 ((prog a b c k).map Inst.e)) n49 c4)
  have d9 : (upd (upd hC n9 (.frz 15 ((prog a b c k).map Inst.e))) n5 (.arr 14 [blk7 (prog a b c k)])) n9 = .frz 15 ((prog a b c k).map Inst.e) := by rw [upd_other _ _ n95, upd_self]
  have d5 : ((upd (upd hC n9 (.frz 15 ((prog a b c k).map Inst.e))) n5 (.arr 14 [blk7 (prog a b c k)])) n5).row = some (14, [blk7 (prog a b c k)]) := by rw [upd_self]; rfl
  generalize upd (upd hC n9 (.frz 15 ((prog a b c k).map Inst.e))) n5 (.arr 14 [blk7 (prog a b c k)]) = hD at d4 d9 d5
  simp only [↓bldC7]
  rw [g_alloc]
  intro m51 t51
  simp only [↓stC7]
  have e4 := keepU (x := .box (codeM G n5)) (t51.ne (by rw [d4]; simp)) d4
  have e9 : upd hD m51 (.box (codeM G n5)) n9 = .frz 15 ((prog a b c k).map Inst.e) := by rw [upd_other _ _ (t51.ne (by rw [d9]; simp)), d9]
  have e5 := hold5 (s := .box (codeM G n5)) t51 d5
  have e51 := upd_self hD m51 (.box (codeM G n5))
  generalize upd hD m51 (.box (codeM G n5)) = hE at e4 e9 e5 e51
  simp only [↓ldC7 e51]
  refine call7 e5 (c_Find hxs hst) (by intro d hd; simp at hd; subst hd; exact dat_int) fun h1 kh k5 => ?_
  have n9' : n9 ≠ n5 := n95
  have f4 := hold kh e5 e4
  have f51 := hold kh e5 e51
  have f9 : h1 n9 = .frz 15 ((prog a b c k).map Inst.e) := by rw [kh _ n9']; exact e9
  rw [g_alloc]
  intro m59 t59
  show vhOp PP (.st (.c (.ptr m59 0 0)) (.c cert0) 1) (upd h1 m59 (.box (.agg [.nil]))) _
  rw [stF]
  have g4 := keepU (x := .box cert0) (t59.ne (by rw [f4]; simp)) f4
  have g51 := keepU (x := .box cert0) (t59.ne (by rw [f51]; simp)) f51
  have g9 : upd h1 m59 (.box cert0) n9 = .frz 15 ((prog a b c k).map Inst.e) := by rw [upd_other _ _ (t59.ne (by rw [f9]; simp)), f9]
  have g5 := hold5 (s := .box cert0) t59 k5
  have g59 := upd_self h1 m59 (.box cert0)
  generalize upd h1 m59 (.box cert0) = hF at g4 g51 g9 g5 g59
  simp only [↓ldC7 g51, ↓ldF1 g59]
  refine call7 g5 (c_Check hG hN hxs hst) (by intro d hd; simp at hd; rcases hd with rfl | rfl; exact dat_int; exact cert0_dat) fun h2 kh2 k52 => ?_
  have i4 := hold kh2 g5 g4
  have i51 := hold kh2 g5 g51
  have i59 := hold kh2 g5 g59
  have i9 : h2 n9 = .frz 15 ((prog a b c k).map Inst.e) := by rw [kh2 _ n9']; exact g9
  simp (disch := omega) only [↓cS, ↓gS, ↓dldC7 i51, ↓dldF1 i59]
  rw [v_lenms, i9]
  refine ⟨rfl, ?_⟩
  refine td_call c_Reg ⟨dat_int, trivial⟩ ?_
  refine dcall7 k52 (c_At hxs hst (by omega) hd6) rfl cert0_dat dat_int dat_int (Opd.dat _) ?_
  rw [g_alloc]
  intro m75 t75
  show vhOp PP _ (upd h2 m75 (.box Z7)) _
  rw [st7Z]
  have j4 := keepU (x := .box (frm i l g (num k))) (t75.ne (by rw [i4]; simp)) i4
  have j51 := keepU (x := .box (frm i l g (num k))) (t75.ne (by rw [i51]; simp)) i51
  have j5 := hold5 (s := .box (frm i l g (num k))) t75 k52
  have j75 := upd_self h2 m75 (.box (frm i l g (num k)))
  generalize upd h2 m75 (.box (frm i l g (num k))) = hG' at j4 j51 j5 j75
  simp only [↓fab j75, ↓ldA j75, ↓gS, ↓ldC7 j51, ↓ld7 j75]
  have h1b := hB.bi; have h2b := hB.bl; have h3b := hB.bg
  obtain ⟨vb, hvb, hvt⟩ := c_Valid (G := G) (N := N) (i := i) (l := l) (g := g) (s := num k) (r := code7 (prog a b c k)) rfl (code7_ok _).v (by omega) (by omega) (by omega) (by omega) (by omega) (num_ok (by omega)).1 (num_ok (by omega)).2
  have hvt := hvt hcan
  subst hvt
  refine call7 j5 hvb (by intro d hd; simp at hd; rcases hd with rfl | rfl; exact dat_int; exact frm_dat) fun h3 kh3 k53 => ?_
  have l4 := hold kh3 j5 j4
  have l51 := hold kh3 j5 j51
  have l75 := hold kh3 j5 j75
  simp only [↓gS]
  refine ⟨fun _ h => HS h m4 m51 m75 n5 a b c k G i l g (prog a b c k), ?_, Sums_L0 hG hN ha hb hc hk hB hv ⟨l4, l51, k53, l75⟩ fun h hh => hh⟩
  rintro f' h' hh
  have w64 : IntKind.i64.wrap k = k := wrap64 (by omega) (by omega)
  have q4 := hh.a
  have q75 := hh.d
  simp only [↓gS, ↓fab q75, ↓ldR q75, ↓iaB (l := 4) q4 (show (0 : Int) ≤ 3 by omega) (show (3 : Int) < ((4 : Nat) : Int) by omega), ↓ldb q4 (j := (3 : Int).toNat) k3, ↓h_conv, w64]
  rw [show (num k).d = spn k k 0 from rfl]
  simp only [↓gS, ↓heqv3]
  exact vret_b rfl
end Go.Am
/- The law AffineSums, at what the row's types say. No condition. -/
namespace Go.Am
open Go Go.Proofs
theorem t54 : Tryz.prog.underlying 54 = some (.array 4 22) := by kernel_rfl
theorem t22 : Tryz.prog.underlying 22 = some (.int .i8) := by kernel_rfl
theorem t5 : Tryz.prog.underlying 5 = some (.int .u8) := by kernel_rfl
theorem z54 : Tryz.prog.cellsOf 54 = 4 := by kernel_rfl
theorem z22 : Tryz.prog.cellsOf 22 = 1 := by kernel_rfl
theorem i8min : IntKind.i8.min = -128 := rfl
theorem i8max : IntKind.i8.max = 127 := rfl
theorem u8min : IntKind.u8.min = 0 := rfl
set_option maxRecDepth 100000 in
theorem lawSH (xs : List D) (h : HasTys Tryz.prog 12 Tryz.f4.params.toList xs) : VCall Tryz.prog 4 xs (· = .bool true) := by
  have hp : Tryz.f4.params.toList = [54, 5, 5] := by kernel_rfl
  rw [hp] at h
  obtain ⟨c1, r1, rfl, h1, c2, r2, rfl, h2, c3, r3, rfl, h3, rfl⟩ := h
  obtain ⟨k1, k2⟩ := hasTy_array t54 h1
  obtain ⟨g, rfl, g1, g2⟩ := hasTy_int t5 h2
  obtain ⟨n, rfl, n1, n2⟩ := hasTy_int t5 h3
  rw [z54] at k1
  have q0 := k2 0 (by omega)
  have q1 := k2 1 (by omega)
  have q2 := k2 2 (by omega)
  have q3 := k2 3 (by omega)
  simp only [z22] at q0 q1 q2 q3
  match c1, k1 with
  | [d0, d1, d2, d3], _ =>
    obtain ⟨a, ha, a1, a2⟩ := hasTy_int t22 q0
    obtain ⟨b, hb, b1, b2⟩ := hasTy_int t22 q1
    obtain ⟨c, hc, c1, c2⟩ := hasTy_int t22 q2
    obtain ⟨k, hk, kk1, kk2⟩ := hasTy_int t22 q3
    simp at ha hb hc hk
    subst ha hb hc hk
    rw [i8min] at a1 b1 c1 kk1
    rw [i8max] at a2 b2 c2 kk2
    rw [u8min] at g1 n1
    rw [mk_array t54, mk_int t5, mk_int t5]
    exact c_lawS ⟨a1, a2⟩ ⟨b1, b2⟩ ⟨c1, c2⟩ ⟨kk1, kk2⟩ g1 n1
end Go.Am
