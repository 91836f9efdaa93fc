/- What the functions of this chapter give, on plain data. No condition. -/
import Derived.Lib.TrailingZeros
import Derived.Test.YtemofgjbjdcmnaaDoorT2
set_option linter.defProp false
set_option linter.unusedSectionVars false
set_option linter.unusedSimpArgs false
set_option linter.unusedVariables false
namespace Go.Am
open Go Go.Proofs

structure Arr where
  nm : ByteArray
  sp : Int
  ty : Int
  ln : Int
def Arr.d (a : Arr) : D := .agg [.str a.nm, .int .i64 a.sp, .int .i64 a.ty, .int .i64 a.ln]
def li32 (xs : List Int) : D := .sl (xs.map (.int .i32))
def Arr.sz (a : Arr) (s : Int) : Int := if a.sp = s then a.ln else 0
theorem Arr.vd (a : Arr) : a.d.vd = true ∧ AllOne a.d := ⟨rfl, fun x hx => by simp [↓amR, Arr.d] at hx; rcases hx with rfl | rfl | rfl | rfl <;> rfl⟩
theorem Arr.cells (a : Arr) : a.d.cells = [.str a.nm, .int .i64 a.sp, .int .i64 a.ty, .int .i64 a.ln] := rfl
theorem li_cells (xs : List Int) : (li32 xs).cells = [li32 xs] := rfl
theorem li_one (xs : List Int) : AllOne (li32 xs) = True := r_one rfl
theorem li_vd (xs : List Int) : (li32 xs).vd = true := rfl
attribute [simp] Arr.cells li_cells li_one li_vd
theorem one_arr {a : Arr} : AllOne (.agg [D.str a.nm, D.int IntKind.i64 a.sp, D.int IntKind.i64 a.ty, D.int IntKind.i64 a.ln]) := (Arr.vd a).2
theorem vd_arr {a : Arr} : (D.agg [D.str a.nm, D.int IntKind.i64 a.sp, D.int IntKind.i64 a.ty, D.int IntKind.i64 a.ln]).vd = true := rfl
theorem c39 (a : Arr) (s : Int) : VCall Tryd.prog 39 [a.d, .int .i64 s] (· = .int .i64 (a.sz s)) := by
  refine vcall_V F39_ok (cDr_ok _ _ _) rfl (V39_ok _ _ _) ?_
  unfold V39
  simp only [noHeap_eq, l_box nf_nil, List.nil_append, List.length_nil, (Arr.vd a).2, true_and, ↓h_fadd, ↓h_ldp, lh_zero, Slot.live, Arr.cells, vpart]
  simp [↓amR, Arr.sz]
  exact ⟨fun h1 h2 => absurd h2 h1, fun h1 h2 => absurd h1 h2⟩
theorem c40 (a : Arr) (s : Int) : VCall Tryd.prog 40 [a.d, .int .i64 s] (· = .int .i64 (a.sz s)) := by
  refine vcall_V F40_ok (cDr_ok _ _ _) rfl (V40_ok _ _ _) ?_
  unfold V40
  simp only [noHeap_eq, l_box nf_nil, List.nil_append, List.length_nil, (Arr.vd a).2, true_and, ↓h_fadd, ↓h_ldp, lh_zero, Slot.live, Arr.cells, vpart]
  simp [↓amR, Arr.sz]
  exact ⟨fun h1 h2 => absurd h1 h2, fun h1 h2 => absurd h2 h1⟩
theorem c42 (a : Arr) (w : List Int) (n : Nat) (s : Int) (h : Heap) (K : D → Heap → Prop) (hb : h n = .box (.int .i64 s)) (hk : ∀ h', Ext h h' → K (.bool (decide (a.sz s = w.length))) h') : ACall Tryd.prog 42 [a.d, li32 w, .ptr n 0 0] h K := by
  refine acall_V F42_ok (cDr_ok _ _ _) rfl (V42_ok _ _ _ _) ?_
  unfold V42
  rw [g_box]
  refine ⟨(Arr.vd a).2, fun m t => ?_⟩
  have hne := t.ne (m := n) (by rw [hb]; simp [↓amR])
  simp only [↓g_ld, upd_self, upd_other _ _ hne, hb, Arr.cells]
  simp [↓amR]
  refine a_call (c39 a s) (by simp [↓amR, one_arr, one_int]) ?_
  rintro r rfl
  simp [↓amR, li32]
  exact hk _ (Ext.new t _)

def fitsB (s : Int) : List Arr → List (List Int) → Bool
  | [], [] => true
  | a :: r, w :: m => decide (a.sz s = w.length) && fitsB s r m
  | _, _ => false
theorem fitsB_len {s : Int} : ∀ {xs : List Arr} {ms : List (List Int)}, fitsB s xs ms = true → xs.length = ms.length
  | [], [], _ => rfl
  | a :: r, w :: m, h => by simp [↓amR, fitsB] at h; simp [↓amR, fitsB_len h.2]
  | [], _ :: _, h => by simp [↓amR, fitsB] at h
  | _ :: _, [], h => by simp [↓amR, fitsB] at h
theorem fitsB_iff {s : Int} : ∀ {xs : List Arr} {ms : List (List Int)}, xs.length = ms.length → (fitsB s xs ms = true ↔ ∀ (i : Nat) (a : Arr) (w : List Int), xs[i]? = some a → ms[i]? = some w → a.sz s = w.length)
  | [], [], _ => by simp [↓amR, fitsB]
  | a :: r, w :: m, h => by
    simp only [List.length_cons, Nat.add_right_cancel_iff] at h
    simp only [fitsB, Bool.and_eq_true, decide_eq_true_eq, fitsB_iff h]
    constructor
    · rintro ⟨h1, h2⟩ i a' w' ha hw
      cases i with
      | zero => simp [↓amR] at ha hw; subst ha hw; exact h1
      | succ i => exact h2 i a' w' (by simpa using ha) (by simpa using hw)
    · intro h
      exact ⟨h 0 a w rfl rfl, fun i a' w' ha hw => h (i + 1) a' w' (by simpa using ha) (by simpa using hw)⟩

theorem cc42 : cCallee Tryd.prog 42 = true := by kernel_rfl
attribute [simp] cc42
theorem c41 (xs : List Arr) (ms : List (List Int)) (hlx : xs.length ≤ 1000000000) (n : Nat) (s : Int) (h : Heap) (K : D → Heap → Prop) (hb : h n = .box (.int .i64 s)) (hk : ∀ h', Ext h h' → K (.bool (fitsB s xs ms)) h') : ACall Tryd.prog 41 [.sl (xs.map Arr.d), .sl (ms.map li32), .fn 42 [] [.ptr n 0 0]] h K := by
  refine acall_V F41_ok (cDr_ok _ _ _) rfl (V41_ok _ _ _ _) ?_
  unfold V41
  simp [↓amR]
  have hf : ¬ (xs.length = ms.length) → fitsB s xs ms = false := fun hl => by
    cases hfb : fitsB s xs ms with
    | false => rfl
    | true => exact absurd (fitsB_len hfb) hl
  refine ⟨fun hl => by rw [← hf (by omega)]; exact hk h Ext.refl, fun hl => ?_⟩
  have hl' : xs.length = ms.length := by omega
  refine ⟨fun _ h' => Ext h h' ∧ fitsB s xs ms = true, ?_, ?_⟩
  · rintro _ h' ⟨h1, h2⟩
    rw [← h2]; exact hk h' h1
  unfold V41_L0
  refine ⟨fun k l h' => ∃ i : Nat, l = [.int .i64 i] ∧ k + i = xs.length ∧ Ext h h' ∧ ∀ (j : Nat) (a : Arr) (w : List Int), j < i → xs[j]? = some a → ms[j]? = some w → a.sz s = w.length, xs.length, ⟨0, rfl, rfl, Ext.refl, fun j a w hj => by omega⟩, ?_⟩
  rintro k f h' ⟨i, hfi, hki, hx, hall⟩
  simp [↓amR] at hfi
  rw [hfi]
  simp [↓amR]
  refine ⟨fun hi => ?_, fun hi => ?_⟩
  · have h1 : i < xs.length := by omega
    have h2 : i < ms.length := by omega
    refine ⟨h1, fun a ha m t => ⟨h2, fun w hw => ?_⟩⟩
    have hn' : h' n = .box (.int .i64 s) := by rw [hx n (by rw [hb]; simp [↓amR]), hb]
    have hne := t.ne (m := n) (by rw [hn']; simp [↓amR])
    refine c42 a w n s _ _ (by simp [↓amR, upd, hne, hn']) fun h2 hx2 => ?_
    have hx3 : Ext h h2 := hx.trans ((Ext.newset t _ _).trans hx2)
    simp [↓amR]
    refine ⟨fun hsz => ?_, fun hsz => ⟨k - 1, by omega, i + 1, ?_, by omega, hx3, fun j a' w' hj ha' hw' => ?_⟩⟩
    · have : fitsB s xs ms = false := by
        cases hfb : fitsB s xs ms with
        | false => rfl
        | true => exact absurd ((fitsB_iff hl').1 hfb i a w ha hw) hsz
      rw [← this]
      exact hk _ hx3
    · rw [wrap64 (by omega) (by omega)]; rfl
    · rcases Nat.lt_or_ge j i with h3 | h3
      · exact hall j a' w' h3 ha' hw'
      · have : j = i := by omega
        subst this
        rw [ha] at ha'; rw [hw] at hw'
        cases ha'; cases hw'
        exact hsz
  · refine ⟨hx, (fitsB_iff hl').2 fun j a w ha hw => hall j a w ?_ ha hw⟩
    have := (List.getElem?_eq_some_iff.1 ha).1
    omega
theorem c27 (xs : List Arr) (ms : List (List Int)) (hlx : xs.length ≤ 1000000000) (s : Int) : VCall Tryd.prog 27 [.sl (xs.map Arr.d), .int .i64 s, .sl (ms.map li32)] (· = .bool (fitsB s xs ms)) := by
  refine vcall_V F27_ok (cDr_ok _ _ _) rfl (V27_ok _ _ _ _) ?_
  unfold V27
  simp [↓amR]
  intro n t
  exact c41 xs ms hlx n s _ _ (by simp [↓amR]) fun h' _ => by simp [↓amR]
end Go.Am
/- math/bits of chapter 04. No condition. -/
namespace Go.Am
open Go Go.Proofs

theorem lt_rep (c : Nat) (hc : c < 256) : ∀ k, rep c k < 256 ^ k
  | 0 => by simp [↓amR, rep]
  | k + 1 => by have := lt_rep c hc k; simp only [rep]; rw [Nat.pow_succ]; omega
theorem byB_lt {g : Nat → Nat} (hg : ∀ c, c < 256 → g c < 256) : ∀ k x, byB g k x < 256 ^ k
  | 0, x => by simp [↓amR, byB]
  | k + 1, x => by
    have := byB_lt hg k (x / 256)
    have := hg (x % 256) (Nat.mod_lt _ (by decide))
    simp only [byB]; rw [Nat.pow_succ]; omega

def g1 (c : Nat) : Nat := (c / 2 &&& 0x55) + (c &&& 0x55)
def g2 (c : Nat) : Nat := (c / 4 &&& 0x33) + (c &&& 0x33)
def g3 (c : Nat) : Nat := (c / 16 + c) &&& 0x0f
theorem g1_lt : ∀ c, c < 256 → g1 c < 256 := by decide +kernel
theorem g12 : ∀ c, c < 256 → g2 (g1 c) < 256 ∧ g2 (g1 c) % 16 ≤ 4 ∧ g2 (g1 c) / 16 ≤ 4 := by decide +kernel
theorem g123 : ∀ c, c < 256 → g3 (g2 (g1 c)) = pop 8 c := by decide +kernel

theorem ones_steps (x : Nat) :
    ((x / 2 &&& 6148914691236517205) + (x &&& 6148914691236517205) = byB g1 8 x) ∧
    ((byB g1 8 x / 4 &&& 3689348814741910323) + (byB g1 8 x &&& 3689348814741910323) = byB (fun c => g2 (g1 c)) 8 x) ∧
    ((byB (fun c => g2 (g1 c)) 8 x / 16 + byB (fun c => g2 (g1 c)) 8 x) &&& 1085102592571150095 = byB (pop 8) 8 x) := by
  refine ⟨?_, ?_, ?_⟩
  · exact stage1 8 x
  · rw [← byB_comp (f := g2) (g := g1) g1_lt 8 x]; exact stage2 8 _
  · have h := stage3 8 (byB (fun c => g2 (g1 c)) 8 x) (halves_byB (g := fun c => g2 (g1 c)) g12 8 x)
    have e : byB (fun c => (c / 16 + c) &&& 0x0f) 8 (byB (fun c => g2 (g1 c)) 8 x) = byB (pop 8) 8 x := by
      rw [byB_comp (f := fun c => (c / 16 + c) &&& 0x0f) (g := fun c => g2 (g1 c)) (fun c hc => (g12 c hc).1)]
      exact byB_congr (fun c hc => g123 c hc) 8 x
    rw [← e, ← h]
    rfl

theorem halves_le : ∀ k x, halves k x → x ≤ 68 * rep 1 k
  | 0, x, h => by rw [show x = 0 from h]; exact Nat.zero_le _
  | k + 1, x, h => by have := halves_le k _ h.2.2; have h1 := h.1; have h2 := h.2.1; simp only [rep]; omega
theorem ones_sum1 (p0 p1 p2 p3 p4 p5 p6 p7 y3 : Nat) (q0 : p0 ≤ 8) (hb : y3 = p0 + 256 * (p1 + 256 * (p2 + 256 * (p3 + 256 * (p4 + 256 * (p5 + 256 * (p6 + 256 * p7))))))) :
    y3 + y3 / 256 = (p0 + p1) + 256 * (p1 + p2) + 65536 * ((p2 + p3) + 256 * (p3 + p4) + 65536 * ((p4 + p5) + 256 * (p5 + p6) + 65536 * ((p6 + p7) + 256 * p7))) := by
  have d1 : y3 / 256 = p1 + 256 * (p2 + 256 * (p3 + 256 * (p4 + 256 * (p5 + 256 * (p6 + 256 * p7))))) := by omega
  omega
theorem ones_sum2 (a b c d z1 : Nat) (ha : a < 65536) (h : z1 = a + 65536 * (b + 65536 * (c + 65536 * d))) : z1 + z1 / 65536 = (a + b) + 65536 * (b + c) + 4294967296 * ((c + d) + 65536 * d) := by
  have d2 : z1 / 65536 = b + 65536 * (c + 65536 * d) := by omega
  omega
theorem ones_sum3 (a b c d z2 : Nat) (ha : a < 65536) (hb : b < 65536) (h : z2 = a + 65536 * b + 4294967296 * (c + 65536 * d)) : z2 + z2 / 4294967296 = (a + c) + 65536 * (b + d) + 4294967296 * (c + 65536 * d) := by
  have d3 : z2 / 4294967296 = c + 65536 * d := by omega
  omega
theorem ones_sum (p0 p1 p2 p3 p4 p5 p6 p7 y3 : Nat) (q0 : p0 ≤ 8) (q1 : p1 ≤ 8) (q2 : p2 ≤ 8) (q3 : p3 ≤ 8) (q4 : p4 ≤ 8) (q5 : p5 ≤ 8) (q6 : p6 ≤ 8) (q7 : p7 ≤ 8)
    (hb : y3 = p0 + 256 * (p1 + 256 * (p2 + 256 * (p3 + 256 * (p4 + 256 * (p5 + 256 * (p6 + 256 * p7))))))) :
    y3 + y3 / 256 < 18446744073709551616 ∧ (y3 + y3 / 256) + (y3 + y3 / 256) / 65536 < 18446744073709551616 ∧
    ((y3 + y3 / 256) + (y3 + y3 / 256) / 65536) + ((y3 + y3 / 256) + (y3 + y3 / 256) / 65536) / 4294967296 < 9223372036854775808 ∧
    (((y3 + y3 / 256) + (y3 + y3 / 256) / 65536) + ((y3 + y3 / 256) + (y3 + y3 / 256) / 65536) / 4294967296) % 128 = p0 + p1 + p2 + p3 + p4 + p5 + p6 + p7 := by
  have e1 := ones_sum1 p0 p1 p2 p3 p4 p5 p6 p7 y3 q0 hb
  clear hb
  generalize y3 + y3 / 256 = z1 at *
  have e2 := ones_sum2 ((p0 + p1) + 256 * (p1 + p2)) ((p2 + p3) + 256 * (p3 + p4)) ((p4 + p5) + 256 * (p5 + p6)) ((p6 + p7) + 256 * p7) z1 (by omega) e1
  have l1 : z1 < 18446744073709551616 := by omega
  clear e1
  generalize z1 + z1 / 65536 = z2 at *
  have e3 := ones_sum3 _ _ _ _ z2 (by omega) (by omega) e2
  have l2 : z2 < 18446744073709551616 := by omega
  clear e2
  generalize z2 + z2 / 4294967296 = z3 at *
  refine ⟨l1, l2, by omega, by omega⟩
theorem c44 (x : Nat) (hx : x < 18446744073709551616) : VCall Tryd.prog 44 [.int .u64 x] (· = .int .i64 (pop 64 x)) := by
  refine vcall_V F44_ok (cDr_ok _ _ _) rfl (V44_ok _ _) ?_
  unfold V44
  obtain ⟨s1, s2, s3⟩ := ones_steps x
  have b1 := byB_lt (g := g1) g1_lt 8 x
  have b2 := byB_lt (g := fun c => g2 (g1 c)) (fun c hc => (g12 c hc).1) 8 x
  have a1 : x / 2 < 18446744073709551616 := by omega
  have b3 := halves_le 8 _ (halves_byB (g := fun c => g2 (g1 c)) g12 8 x)
  rw [show rep 1 8 = 72340172838076673 by decide] at b3
  obtain ⟨p0, p1, p2, p3, p4, p5, p6, p7, q0, q1, q2, q3, q4, q5, q6, q7, hsum, hb⟩ := ones64 x
  generalize byB g1 8 x = y1 at *
  generalize byB (fun c => g2 (g1 c)) 8 x = y2 at *
  generalize byB (pop 8) 8 x = y3 at *
  have hpow : (256 : Nat) ^ 8 = 18446744073709551616 := by decide
  rw [hpow] at b1 b2
  rw [v_shr]; refine ⟨by decide, ?_⟩
  rw [show ishr .u64 (x : Int) 1 = ((x / 2 : Nat) : Int) from ishr64 x 1 (by decide), v_and, show ibits .and .u64 ((x / 2 : Nat) : Int) 6148914691236517205 = ((x / 2 &&& 6148914691236517205 : Nat) : Int) from iand64 _ 6148914691236517205 a1 (by decide),
    v_and, show ibits .and .u64 (x : Int) 6148914691236517205 = ((x &&& 6148914691236517205 : Nat) : Int) from iand64 _ 6148914691236517205 hx (by decide), v_add, ← Int.natCast_add, s1, wrapu, Nat.mod_eq_of_lt b1]
  rw [v_shr]; refine ⟨by decide, ?_⟩
  rw [show ishr .u64 (y1 : Int) 2 = ((y1 / 4 : Nat) : Int) from ishr64 y1 2 (by decide), v_and, show ibits .and .u64 ((y1 / 4 : Nat) : Int) 3689348814741910323 = ((y1 / 4 &&& 3689348814741910323 : Nat) : Int) from iand64 _ 3689348814741910323 (by omega) (by decide),
    v_and, show ibits .and .u64 (y1 : Int) 3689348814741910323 = ((y1 &&& 3689348814741910323 : Nat) : Int) from iand64 _ 3689348814741910323 b1 (by decide), v_add, ← Int.natCast_add, s2, wrapu, Nat.mod_eq_of_lt b2]
  rw [v_shr]; refine ⟨by decide, ?_⟩
  rw [show ishr .u64 (y2 : Int) 4 = ((y2 / 16 : Nat) : Int) from ishr64 y2 4 (by decide), v_add, ← Int.natCast_add, wrapu, Nat.mod_eq_of_lt (show y2 / 16 + y2 < 18446744073709551616 by omega), v_and,
    show ibits .and .u64 ((y2 / 16 + y2 : Nat) : Int) 1085102592571150095 = (((y2 / 16 + y2) &&& 1085102592571150095 : Nat) : Int) from iand64 _ 1085102592571150095 (by omega) (by decide), s3]
  obtain ⟨k1, k2, k3, k4⟩ := ones_sum p0 p1 p2 p3 p4 p5 p6 p7 y3 q0 q1 q2 q3 q4 q5 q6 q7 hb
  clear hb b1 b2 b3 s1 s2 s3
  rw [v_shr]; refine ⟨by decide, ?_⟩
  rw [show ishr .u64 (y3 : Int) 8 = ((y3 / 256 : Nat) : Int) from ishr64 y3 8 (by decide), v_add, ← Int.natCast_add, wrapu, Nat.mod_eq_of_lt k1]
  generalize y3 + y3 / 256 = z1 at *
  rw [v_shr]; refine ⟨by decide, ?_⟩
  rw [show ishr .u64 (z1 : Int) 16 = ((z1 / 65536 : Nat) : Int) from ishr64 z1 16 (by decide), v_add, ← Int.natCast_add, wrapu, Nat.mod_eq_of_lt k2]
  generalize z1 + z1 / 65536 = z2 at *
  rw [v_shr]; refine ⟨by decide, ?_⟩
  rw [show ishr .u64 (z2 : Int) 32 = ((z2 / 4294967296 : Nat) : Int) from ishr64 z2 32 (by decide), v_add, ← Int.natCast_add, wrapu, Nat.mod_eq_of_lt (show z2 + z2 / 4294967296 < 18446744073709551616 by omega)]
  generalize z2 + z2 / 4294967296 = z3 at *
  rw [h_conv, wrap64 (by omega) (by omega), v_and, show ibits .and .i64 (z3 : Int) 127 = ((z3 &&& 127 : Nat) : Int) from iand64i z3 127 k3 (by decide), vret_int]
  have : z3 &&& 127 = z3 % 128 := Nat.and_two_pow_sub_one_eq_mod z3 7
  rw [this, k4, hsum]
end Go.Am
/- TrailingZeros64, Mul, Repeat of chapter 04. No condition. -/
namespace Go.Am
open Go Go.Proofs

theorem h_iaddav {P : Program} [GTab] {d : D} {j l s : Nat} {k : IntKind} {a : Int} {h : Heap} {KH : D → Heap → Prop} : vhOp P (.iadda (.c (.vp d j)) (.c (.int k a)) l s) h KH = (0 ≤ a ∧ a < l ∧ KH (.vp d (j + a.toNat * s)) h) := rfl
theorem h_ldv' {P : Program} [GTab] {d : D} {j s : Nat} {g : Bool} {h : Heap} {KH : D → Heap → Prop} : vhOp P (.ld (.c (.vp d j)) s g) h KH = vpart d.cells j s g (KH · h) := rfl

theorem part_at {cs : List D} {o s : Nat} {K : D → Prop} {d : D} (h : cs[o]? = some d) (hk : K d) : vpart cs o s false K := by
  unfold vpart
  rw [if_neg (by decide), h]
  exact hk
theorem tabAt (i k : Nat) (hi : i < 64) (htab : Lib.deBruijn64tab.getD i 0 = k) : tabD0.cells[i]? = some (.int .u8 (k : Nat)) := by
  have e : tabD0.cells = Lib.deBruijn64tab.map fun (n : Nat) => D.int .u8 n := rfl
  have hil : i < Lib.deBruijn64tab.length := hi
  rw [e, List.getElem?_map]
  rw [List.getD_eq_getElem?_getD, List.getElem?_eq_getElem hil] at htab
  rw [List.getElem?_eq_getElem hil]
  simp [↓amR] at htab
  simp [↓amR, htab]
theorem c54 (x : Nat) (hx : x < 18446744073709551616) : VCall Tryd.prog 54 [.int .u64 x] (· = .int .i64 (Lib.ctz 64 x)) := by
  refine vcall_V F54_ok (cDr_ok _ _ _) rfl (V54_ok _ _) ?_
  unfold V54
  rw [v_eql, v_cond]
  refine ⟨fun h0 => ?_, fun h0 => ?_⟩
  · have : x = 0 := by omega
    subst this
    rw [vret_int]; rfl
  · have hx0 : x ≠ 0 := by omega
    obtain ⟨hlow, hk⟩ := Lib.lowest_bit 64 x hx0 hx
    obtain ⟨hi, htab⟩ := Lib.deBruijn64_at _ hk
    have hlow' : x &&& (18446744073709551616 - x) = 2 ^ Lib.ctz 64 x := hlow
    have e1 : IntKind.u64.wrap (0 - (x : Int)) = ((18446744073709551616 - x : Nat) : Int) := by
      simp only [IntKind.wrap, IntKind.signed, IntKind.bits]; simp [↓amR]; omega
    rw [v_neg, e1, v_and, iand64 _ _ hx (by omega), hlow', v_mul, show ((2 ^ Lib.ctz 64 x : Nat) : Int) * 285870213051353865 = ((2 ^ Lib.ctz 64 x * 285870213051353865 : Nat) : Int) by omega, wrapu, v_shr]
    refine ⟨by decide, ?_⟩
    rw [show ishr .u64 ((2 ^ Lib.ctz 64 x * 285870213051353865 % 18446744073709551616 : Nat) : Int) 58 = ((2 ^ Lib.ctz 64 x * 285870213051353865 % 18446744073709551616 / 288230376151711744 : Nat) : Int) from ishr64 _ 58 (by decide)]
    generalize 2 ^ Lib.ctz 64 x * 285870213051353865 % 18446744073709551616 / 288230376151711744 = i at *
    rw [h_iaddav]
    refine ⟨by omega, by omega, ?_⟩
    rw [h_ldv']
    refine part_at (d := .int .u8 (Lib.ctz 64 x : Nat)) ?_ ?_
    · rw [show 0 + (i : Int).toNat * 1 = i by omega]
      exact tabAt i (Lib.ctz 64 x) hi htab
    · rw [h_conv, wrap64 (by omega) (by omega), vret_int]
end Go.Am
/- Mul and Repeat of chapter 04. No condition. -/
namespace Go.Am
open Go Go.Proofs

theorem vret_tup {ds : List D} {h : Heap} {K : D → Prop} (hd : ∀ d, d ∈ ds → d.vd = true ∧ AllOne d) (hk : K (.tup ds)) : vret K (.tup ds) h := by
  have one : ∀ d, d ∈ ds → d.fz h = d ∧ FzOk h d := by
    intro d hdm
    obtain ⟨h1, h2⟩ := hd d hdm
    have nofz : ∀ (x : D), x.vone = true → x.fzc h = x ∧ FzOkc h x := by
      intro x hx
      cases x <;> simp_all [D.vone, D.fzc, FzOkc]
    rcases vd_cells h1 with hv | ⟨cs, rfl, hcs⟩
    · have := nofz d hv
      cases d <;> simp_all [D.fz, D.vone, FzOk]
    · refine ⟨?_, fun x hx => (nofz x (hcs x hx)).2⟩
      simp only [D.fz]
      congr 1
      rw [List.map_congr_left (fun x hx => (nofz x (hcs x hx)).1)]
      simp [↓amR]
  have e : (D.tup ds).fzt h = .tup ds := by
    simp only [D.fzt]
    congr 1
    rw [List.map_congr_left (fun d hdm => (one d hdm).1)]
    simp [↓amR]
  refine ⟨fun d hdm => (hd d hdm).2, fun d hdm => (one d hdm).2, ?_, by rw [e]; exact hk⟩
  rw [e]
  simp only [D.vdt, List.all_eq_true]
  exact fun d hdm => (hd d hdm).1

theorem mask32 (a : Nat) (ha : a < 18446744073709551616) : ibits .and .u64 (a : Int) 4294967295 = ((a % 4294967296 : Nat) : Int) := by
  rw [show ibits .and .u64 (a : Int) 4294967295 = ((a &&& 4294967295 : Nat) : Int) from iand64 a 4294967295 ha (by decide)]
  rw [show a &&& 4294967295 = a % 4294967296 from Nat.and_two_pow_sub_one_eq_mod a 32]
theorem shr32 (a : Nat) : ishr .u64 (a : Int) 32 = ((a / 4294967296 : Nat) : Int) := ishr64 a 32 (by decide)

theorem c59 (a b : Nat) (ha : a < 2147483648) (hb : b < 2147483648) : VCall Tryd.prog 59 [.int .u64 a, .int .u64 b] (· = .tup [.int .u64 0, .int .u64 ((a * b : Nat) : Int)]) := by
  refine vcall_V F59_ok (cDr_ok _ _ _) rfl (V59_ok _ _ _) ?_
  unfold V59
  have hab : a * b < 4611686018427387904 := by
    have : a * b ≤ 2147483647 * 2147483647 := Nat.mul_le_mul (by omega) (by omega)
    omega
  have r1 : a % 4294967296 = a := Nat.mod_eq_of_lt (by omega)
  have r2 : b % 4294967296 = b := Nat.mod_eq_of_lt (by omega)
  have r3 : a / 4294967296 = 0 := Nat.div_eq_of_lt (by omega)
  have r4 : b / 4294967296 = 0 := Nat.div_eq_of_lt (by omega)
  rw [v_and, mask32 a (by omega), r1, v_shr]; refine ⟨by decide, ?_⟩
  rw [shr32, r3, v_and, mask32 b (by omega), r2, v_shr]; refine ⟨by decide, ?_⟩
  rw [shr32, r4, v_mul, ← Int.natCast_mul, wrapu, Nat.mod_eq_of_lt (show a * b < 18446744073709551616 by omega), v_mul, ← Int.natCast_mul, wrapu, Nat.zero_mul, Nat.zero_mod, v_shr]; refine ⟨by decide, ?_⟩
  rw [shr32, v_add, ← Int.natCast_add, wrapu, Nat.zero_add, Nat.mod_eq_of_lt (show a * b / 4294967296 < 18446744073709551616 by omega), v_and, mask32 _ (by omega), v_shr]; refine ⟨by decide, ?_⟩
  have r5 : a * b / 4294967296 / 4294967296 = 0 := by omega
  have r6 : a * b / 4294967296 % 4294967296 = a * b / 4294967296 := by omega
  rw [shr32, r5, r6, v_mul, ← Int.natCast_mul, Nat.mul_zero, wrapu, Nat.zero_mod, v_add, ← Int.natCast_add, Nat.add_zero, wrapu, Nat.mod_eq_of_lt (show a * b / 4294967296 < 18446744073709551616 by omega),
    v_mul, ← Int.natCast_mul, Nat.mul_zero, wrapu, Nat.zero_mod, v_add, ← Int.natCast_add, Nat.add_zero, wrapu, Nat.zero_mod, v_shr]; refine ⟨by decide, ?_⟩
  rw [shr32, r5, v_add, ← Int.natCast_add, Nat.add_zero, wrapu, Nat.zero_mod, v_mul, ← Int.natCast_mul, wrapu, Nat.mod_eq_of_lt (show a * b < 18446744073709551616 by omega)]
  exact vret_tup (by simp [↓amR]) rfl

theorem c57 (a b : Nat) (ha : a < 2147483648) (hb : b < 2147483648) : VCall Tryd.prog 57 [.int .u64 a, .int .u64 b] (· = .tup [.int .u64 0, .int .u64 ((a * b : Nat) : Int)]) := by
  refine vcall_V F57_ok (cDr_ok _ _ _) rfl (V57_ok _ _ _) ?_
  unfold V57
  rw [v_cond_f]
  refine a_call (c59 a b ha hb) (by simp [↓amR]) ?_
  rintro r rfl
  simp only [h_ext]
  exact vret_tup (by simp [↓amR]) rfl

theorem h_cpy {P : Program} {m off len esz : Nat} {x : D} {h : Heap} {KH : D → Heap → Prop} : vhOp P (.cpy (.c (.ms m off len)) (.c x) esz) h KH = velems esz x h fun ys => (∀ y, y ∈ ys → AllOne y) ∧ ∃ els, h m = .arr esz els ∧ off + len ≤ els.length ∧
        KH (.int .i64 (min ys.length len : Nat)) (upd h m (.arr esz (els.take off ++ ys.take len ++ els.drop (off + min ys.length len)))) := rfl
theorem rep_step {d : D} {els : List D} {n c : Nat} (hl : els.length = c) (hn : n ≤ c) (ht : els.take n = List.replicate n d) :
    (els.take n ++ (els.take n).take (c - n) ++ els.drop (n + min n (c - n))).take (n + min n (c - n)) = List.replicate (n + min n (c - n)) d ∧
      (els.take n ++ (els.take n).take (c - n) ++ els.drop (n + min n (c - n))).length = c := by
  have e1 : els.take n ++ (els.take n).take (c - n) = List.replicate (n + min n (c - n)) d := by
    rw [ht, List.take_replicate, ← List.replicate_append_replicate]
    congr 2; omega
  rw [e1]
  constructor
  · rw [List.take_append_of_le_length (by simp [↓amR]), List.take_of_length_le (by simp [↓amR])]
  · simp [↓amR]; omega

end Go.Am
/- Repeat of chapter 04. No condition. -/
namespace Go.Am
open Go Go.Proofs

theorem a53 (n c : Nat) (hc : c ≤ 1000000) (d : D) (hd1 : d.one = true) (hdc : d.cells = [d]) (h : Heap) (K : D → Heap → Prop) (hn : h n = .arr 1 [d])
    (hk : ∀ m h', Ext h h' → h m = .free → h' m = .arr 1 (List.replicate c d) → K (.ms m 0 c) h') : ACall Tryd.prog 53 [.ms n 0 1, .int .i64 c] h K := by
  refine acall_V F53_ok (cDr_ok _ _ _) rfl (V53_ok _ _ _) ?_
  unfold V53
  refine ⟨fun _ h' => h' = h, ?_, ?_⟩
  · rintro _ h5 rfl
    simp only [↓v_lenms, hn, Slot.live, true_and, ↓h_conv]
    have w1 : IntKind.u64.wrap ((1 : Nat) : Int) = ((1 : Nat) : Int) := by rw [wrapu]
    have wc : IntKind.u64.wrap (c : Int) = (c : Int) := by rw [wrapu, Nat.mod_eq_of_lt (by omega)]
    rw [w1, wc]
    refine a_call (c57 1 c (by omega) (by omega)) (by simp [↓amR]) ?_
    rintro r rfl
    simp [↓amR]
    refine ⟨fun _ h' => h' = h5, ?_, fun h => by omega, fun _ => rfl⟩
    rintro _ h6 rfl
    rw [wrap64 (by omega) (by omega)]
    refine ⟨by omega, by omega, by omega, fun m t => ?_⟩
    have hnm : n ≠ m := t.ne (by rw [hn]; simp [↓amR])
    rw [h_cpy, Int.toNat_natCast]
    simp only [velems, upd_other _ _ hnm, upd_self, hn, Slot.row]
    refine ⟨[d], rfl, by simp [↓amR], ?_⟩
    simp only [List.drop_zero, List.take_succ_cons, List.take_zero]
    refine ⟨fun y hy => by simp [↓amR] at hy; subst hy; exact fun x hx => by rw [hdc] at hx; simp [↓amR] at hx; subst hx; exact hd1, _, rfl, by simp [↓amR], ?_⟩
    rw [upd_upd]
    simp only [List.length_cons, List.length_nil, Nat.zero_add, List.nil_append]
    refine ⟨fun _ h' => Ext h6 h' ∧ h' m = .arr 1 (List.replicate c d), ?_, ?_⟩
    · rintro _ h7 ⟨h1, h2⟩
      exact hk m h7 h1 t.free h2
    · unfold V53_L0
      refine ⟨fun k l h' => ∃ j : Nat, l = [.int .i64 j] ∧ k + j = c ∧ (1 ≤ j ∨ c = 0) ∧ Ext h6 h' ∧ ∃ els, h' m = .arr 1 els ∧ els.length = c ∧ els.take j = List.replicate j d, c - min 1 c, ⟨min 1 c, rfl, by omega, by omega, Ext.new t _, _, upd_self _ _ _, ?_, ?_⟩, ?_⟩
      · cases c <;> simp [↓amR]
      · cases c <;> simp [↓amR]
      rintro k f h7 ⟨j, hfj, hkj, hj1, hx, els, hm, hlen, htake⟩
      simp [↓amR] at hfj
      rw [hfj]
      simp only [↓v_lenms, hm, Slot.live, true_and, ↓v_lss, ↓v_cond]
      refine ⟨fun hlt => ?_, fun hge => ?_⟩
      · simp only [vdOp, vcdOp, vcOp, vopt, vint, Arg.get, hm, Slot.row]
        refine ⟨by omega, by omega, by omega, by omega, ⟨els, rfl⟩, ?_⟩
        refine ⟨by omega, by omega, by omega, by omega, ⟨els, rfl⟩, ?_⟩
        have e1 : 0 + (j : Int).toNat = j := by omega
        have e2 : ((c : Int) - (j : Int)).toNat = c - j := by omega
        have e3 : (0 + ((0 : Nat) : Int).toNat) = 0 := by simp [↓amR]
        have e4 : ((j : Int) - ((0 : Nat) : Int)).toNat = j := by omega
        rw [e1, e2, e3, e4, h_cpy]
        simp only [velems, hm, Slot.row]
        refine ⟨els, rfl, by omega, ?_⟩
        rw [List.drop_zero, htake]
        have hl2 : (List.replicate j d).length = j := by simp [↓amR]
        rw [hl2]
        refine ⟨fun y hy => ?_, els, rfl, by omega, ?_⟩
        · rw [List.eq_of_mem_replicate hy]
          exact fun x hx => by rw [hdc] at hx; simp [↓amR] at hx; subst hx; exact hd1
        · obtain ⟨r1, r2⟩ := rep_step (n := j) hlen (by omega) htake
          rw [htake] at r1 r2
          rw [htake, v_add, wrap64 (by omega) (by omega)]
          refine ⟨rfl, k - min j (c - j), by omega, j + min j (c - j), by simp [↓amR], by omega, by omega, ?_, _, upd_self _ _ _, r2, r1⟩
          exact hx.upd_new t.free _
      · have : j = c := by
          have : ¬ (j : Int) < (c : Int) := hge
          omega
        subst this
        refine ⟨rfl, hx, ?_⟩
        rw [← htake, List.take_of_length_le (by omega)]
  · simp [↓amR]
    intro h0; omega
theorem a55 (n c : Nat) (hc : c ≤ 1000000) (d : D) (hd1 : d.one = true) (hdc : d.cells = [d]) (h : Heap) (K : D → Heap → Prop) (hn : h n = .arr 1 [d])
    (hk : ∀ m h', Ext h h' → h m = .free → h' m = .arr 1 (List.replicate c d) → K (.ms m 0 c) h') : ACall Tryd.prog 55 [.ms n 0 1, .int .i64 c] h K := by
  refine acall_V F55_ok (cDr_ok _ _ _) rfl (V55_ok _ _ _) ?_
  unfold V55
  refine ⟨fun _ h' => h' = h, ?_, ?_⟩
  · rintro _ h5 rfl
    simp only [↓v_lenms, hn, Slot.live, true_and, ↓h_conv]
    have w1 : IntKind.u64.wrap ((1 : Nat) : Int) = ((1 : Nat) : Int) := by rw [wrapu]
    have wc : IntKind.u64.wrap (c : Int) = (c : Int) := by rw [wrapu, Nat.mod_eq_of_lt (by omega)]
    rw [w1, wc]
    refine a_call (c57 1 c (by omega) (by omega)) (by simp [↓amR]) ?_
    rintro r rfl
    simp [↓amR]
    refine ⟨fun _ h' => h' = h5, ?_, fun h => by omega, fun _ => rfl⟩
    rintro _ h6 rfl
    rw [wrap64 (by omega) (by omega)]
    refine ⟨by omega, by omega, by omega, fun m t => ?_⟩
    have hnm : n ≠ m := t.ne (by rw [hn]; simp [↓amR])
    rw [h_cpy, Int.toNat_natCast]
    simp only [velems, upd_other _ _ hnm, upd_self, hn, Slot.row]
    refine ⟨[d], rfl, by simp [↓amR], ?_⟩
    simp only [List.drop_zero, List.take_succ_cons, List.take_zero]
    refine ⟨fun y hy => by simp [↓amR] at hy; subst hy; exact fun x hx => by rw [hdc] at hx; simp [↓amR] at hx; subst hx; exact hd1, _, rfl, by simp [↓amR], ?_⟩
    rw [upd_upd]
    simp only [List.length_cons, List.length_nil, Nat.zero_add, List.nil_append]
    refine ⟨fun _ h' => Ext h6 h' ∧ h' m = .arr 1 (List.replicate c d), ?_, ?_⟩
    · rintro _ h7 ⟨h1, h2⟩
      exact hk m h7 h1 t.free h2
    · unfold V55_L0
      refine ⟨fun k l h' => ∃ j : Nat, l = [.int .i64 j] ∧ k + j = c ∧ (1 ≤ j ∨ c = 0) ∧ Ext h6 h' ∧ ∃ els, h' m = .arr 1 els ∧ els.length = c ∧ els.take j = List.replicate j d, c - min 1 c, ⟨min 1 c, rfl, by omega, by omega, Ext.new t _, _, upd_self _ _ _, ?_, ?_⟩, ?_⟩
      · cases c <;> simp [↓amR]
      · cases c <;> simp [↓amR]
      rintro k f h7 ⟨j, hfj, hkj, hj1, hx, els, hm, hlen, htake⟩
      simp [↓amR] at hfj
      rw [hfj]
      simp only [↓v_lenms, hm, Slot.live, true_and, ↓v_lss, ↓v_cond]
      refine ⟨fun hlt => ?_, fun hge => ?_⟩
      · simp only [vdOp, vcdOp, vcOp, vopt, vint, Arg.get, hm, Slot.row]
        refine ⟨by omega, by omega, by omega, by omega, ⟨els, rfl⟩, ?_⟩
        refine ⟨by omega, by omega, by omega, by omega, ⟨els, rfl⟩, ?_⟩
        have e1 : 0 + (j : Int).toNat = j := by omega
        have e2 : ((c : Int) - (j : Int)).toNat = c - j := by omega
        have e3 : (0 + ((0 : Nat) : Int).toNat) = 0 := by simp [↓amR]
        have e4 : ((j : Int) - ((0 : Nat) : Int)).toNat = j := by omega
        rw [e1, e2, e3, e4, h_cpy]
        simp only [velems, hm, Slot.row]
        refine ⟨els, rfl, by omega, ?_⟩
        rw [List.drop_zero, htake]
        have hl2 : (List.replicate j d).length = j := by simp [↓amR]
        rw [hl2]
        refine ⟨fun y hy => ?_, els, rfl, by omega, ?_⟩
        · rw [List.eq_of_mem_replicate hy]
          exact fun x hx => by rw [hdc] at hx; simp [↓amR] at hx; subst hx; exact hd1
        · obtain ⟨r1, r2⟩ := rep_step (n := j) hlen (by omega) htake
          rw [htake] at r1 r2
          rw [htake, v_add, wrap64 (by omega) (by omega)]
          refine ⟨rfl, k - min j (c - j), by omega, j + min j (c - j), by simp [↓amR], by omega, by omega, ?_, _, upd_self _ _ _, r2, r1⟩
          exact hx.upd_new t.free _
      · have : j = c := by
          have : ¬ (j : Int) < (c : Int) := hge
          omega
        subst this
        refine ⟨rfl, hx, ?_⟩
        rw [← htake, List.take_of_length_le (by omega)]
  · simp [↓amR]
    intro h0; omega
end Go.Am
/- Packing: plain laws on bits and lanes, and the iterator Chunk. No condition. -/
namespace Go.Am
open Go Go.Proofs

/-- The places of the set bits, from the lowest on. -/
def bl : Nat → Nat → Nat → List Nat
  | 0, _, _ => []
  | k + 1, o, x => if x % 2 = 1 then o :: bl k (o + 1) (x / 2) else bl k (o + 1) (x / 2)
theorem bl_len : ∀ k o x, (bl k o x).length = pop k x
  | 0, _, _ => rfl
  | k + 1, o, x => by
    have h := bl_len k (o + 1) (x / 2)
    simp only [bl, pop]
    split
    · rw [List.length_cons, h]; omega
    · rw [h]; omega
theorem bl_zero : ∀ k o, bl k o 0 = []
  | 0, _ => rfl
  | k + 1, o => by simp [↓amR, bl, bl_zero k]
theorem and_pred (x : Nat) : x &&& (x - 1) = if x % 2 = 1 then 2 * (x / 2) else 2 * (x / 2 &&& (x / 2 - 1)) := by
  have h1 : (x &&& (x - 1)) % 2 ^ 1 = (x % 2 &&& (x - 1) % 2) := by rw [Nat.and_mod_two_pow]
  have h2 : (x &&& (x - 1)) / 2 ^ 1 = (x / 2 &&& (x - 1) / 2) := by rw [Nat.and_div_two_pow]
  split
  · rename_i h
    have e1 : (x - 1) % 2 = 0 := by omega
    have e2 : (x - 1) / 2 = x / 2 := by omega
    rw [e1, Nat.and_zero] at h1
    rw [e2, Nat.and_self] at h2
    omega
  · rename_i h
    have e0 : x % 2 = 0 := by omega
    rw [e0, Nat.zero_and] at h1
    by_cases hx : x = 0
    · subst hx; simp [↓amR]
    · have e2 : (x - 1) / 2 = x / 2 - 1 := by omega
      rw [e2] at h2
      omega
theorem bl_step : ∀ k o x i r, x < 2 ^ k → bl k o x = i :: r → x ≠ 0 ∧ o ≤ i ∧ i < o + k ∧ Lib.ctzFrom k x = i - o ∧ bl k o (x &&& (x - 1)) = r ∧ x &&& (x - 1) < 2 ^ k
  | 0, o, x, i, r, _, h => by simp [↓amR, bl] at h
  | k + 1, o, x, i, r, hx, h => by
    have hx2 : x / 2 < 2 ^ k := by rw [Nat.pow_succ] at hx; omega
    have hand : x &&& (x - 1) < 2 ^ (k + 1) := Nat.lt_of_le_of_lt Nat.and_le_left hx
    simp only [bl] at h
    rw [and_pred] at hand ⊢
    split at h
    · rename_i h1
      simp only [h1, if_true, List.cons.injEq] at h hand ⊢
      obtain ⟨rfl, rfl⟩ := h
      refine ⟨by omega, by omega, by omega, by simp [↓amR, Lib.ctzFrom, h1], ?_, hand⟩
      simp only [bl]
      rw [if_neg (by omega)]
      congr 1; omega
    · rename_i h1
      simp only [h1, if_false] at hand ⊢
      obtain ⟨q1, q2, q3, q4, q5, q6⟩ := bl_step k (o + 1) (x / 2) i r hx2 h
      refine ⟨by omega, by omega, by omega, ?_, ?_, hand⟩
      · simp only [Lib.ctzFrom, h1, if_false, q4]; omega
      · simp only [bl]
        rw [if_neg (by omega)]
        rw [← q5]; congr 1; omega
theorem bl_lt : ∀ k o x l, x < 2 ^ l → ∀ i, i ∈ bl k o x → i < o + l
  | 0, _, _, _, _, i, h => by simp [↓amR, bl] at h
  | k + 1, o, x, l, hx, i, h => by
    cases l with
    | zero =>
      have : x = 0 := by simpa using hx
      subst this
      rw [bl_zero] at h; simp [↓amR] at h
    | succ l =>
      have hx2 : x / 2 < 2 ^ l := by rw [Nat.pow_succ] at hx; omega
      simp only [bl] at h
      split at h
      · rcases List.mem_cons.1 h with rfl | h
        · omega
        · have := bl_lt k (o + 1) (x / 2) l hx2 i h; omega
      · have := bl_lt k (o + 1) (x / 2) l hx2 i h; omega
theorem bl_nil : ∀ k o x, x < 2 ^ k → bl k o x = [] → x = 0
  | 0, _, x, hx, _ => by simpa using hx
  | k + 1, o, x, hx, h => by
    have hx2 : x / 2 < 2 ^ k := by rw [Nat.pow_succ] at hx; omega
    simp only [bl] at h
    split at h
    · cases h
    · have := bl_nil k (o + 1) (x / 2) hx2 h; omega

/-- The lanes, as the code has them. -/
def lanesL (alive : Nat) : List Nat := bl 64 0 alive
/-- One warp. -/
def warp (lanes : Nat) (L : List Nat) (part : List Int) : List Int := (L.zip part).foldl (fun w (p : Nat × Int) => w.set p.1 p.2) (List.replicate lanes (-1))
theorem warp_len (lanes : Nat) (L : List Nat) (part : List Int) : (warp lanes L part).length = lanes := by
  unfold warp
  have : ∀ (l : List (Nat × Int)) (w : List Int), (l.foldl (fun w (p : Nat × Int) => w.set p.1 p.2) w).length = w.length := by
    intro l
    induction l with
    | nil => intro w; rfl
    | cons p r ih => intro w; rw [List.foldl_cons, ih]; simp [↓amR]
  rw [this]; simp [↓amR]
theorem warp_step {lanes : Nat} {L : List Nat} {part : List Int} {j : Nat} {i : Nat} {x : Int} (hi : L[j]? = some i) (hx : part[j]? = some x) : warp lanes L (part.take (j + 1)) = (warp lanes L (part.take j)).set i x := by
  unfold warp
  have hj := (List.getElem?_eq_some_iff.1 hx).1
  have hl := (List.getElem?_eq_some_iff.1 hi).1
  have e1 : part.take (j + 1) = part.take j ++ [x] := by
    rw [List.take_add_one, hx]; rfl
  have e2 : L.zip (part.take (j + 1)) = L.zip (part.take j) ++ [(i, x)] := by
    apply List.ext_getElem?
    intro k
    rw [e1]
    rcases Nat.lt_trichotomy k j with h | h | h
    · rw [List.getElem?_append_left (by simp [↓amR]; omega)]
      simp only [List.zip, List.getElem?_zipWith]
      rw [List.getElem?_append_left (by simp [↓amR]; omega)]
    · subst h
      rw [List.getElem?_append_right (by simp [↓amR]; omega)]
      simp only [List.zip, List.getElem?_zipWith, hi, List.length_zipWith, List.length_take]
      rw [List.getElem?_append_right (by simp [↓amR]; omega)]
      have : k - min k part.length = 0 := by omega
      have h2 : k - min L.length (min k part.length) = 0 := by omega
      simp [↓amR, this, h2]
    · rw [List.getElem?_eq_none (by simp [↓amR]; omega), List.getElem?_eq_none (by simp [↓amR]; omega)]
  rw [e2, List.foldl_append]
  rfl
/-- The chunk of a place. -/
def chunk (items : List Int) (n i : Nat) : List Int := (items.drop (i * n)).take n
/-- All warps. -/
def packs (lanes alive : Nat) (items : List Int) (k : Nat) : List (List Int) := (List.range k).map fun i => warp lanes (lanesL alive) (chunk items (lanesL alive).length i)

theorem a52 (items : List D) (n : Nat) (hn : 1 ≤ n) (hn2 : n ≤ 64) (h : Heap) (K : D → Heap → Prop)
    (hk : ∀ b0 b1 h', Ext h h' → h b0 = .free → h b1 = .free → h' b0 = .box (.sl items) → h' b1 = .box (.int .i64 n) → K (.fn 56 [] [.ptr b0 0 0, .ptr b1 0 0]) h') : ACall Tryd.prog 52 [.sl items, .int .i64 n] h K := by
  refine acall_V F52_ok (cDr_ok _ _ _) rfl (V52_ok _ _ _) ?_
  unfold V52
  simp only [↓g_box, one_sl, one_int, true_and]
  intro b0 t0 b1 t1
  have hne : b0 ≠ b1 := t1.ne (by simp [↓amR])
  have hb1 : h b1 = .free := by
    have := t1.free
    rwa [upd_other _ _ hne.symm] at this
  simp only [↓g_ld, upd_self, cells_int, ↓v_part1]
  simp [↓amR]
  refine ⟨fun _ h' => h' = upd (upd h b0 (.box (.sl items))) b1 (.box (.int .i64 n)), ?_, ?_⟩
  · rintro _ h' rfl
    exact hk b0 b1 _ ((Ext.new t0 _).upd_new hb1 _) t0.free hb1 (by rw [upd_other _ _ hne]; exact upd_self _ _ _) (upd_self _ _ _)
  · exact ⟨fun h => by omega, fun _ => rfl⟩

end Go.Am
/- The iterator of Chunk, its rounds left to its caller. No condition. -/
namespace Go.Am
open Go Go.Proofs

theorem a56 (items : List D) (n : Nat) (hn : 1 ≤ n) (hn2 : n ≤ 64) (hone : ∀ x, x ∈ items → x.cells.length = 1) (hlen : items.length ≤ 1000000000) (y b0 b1 : Nat) (Inv : Nat → Heap → Prop) (h : Heap) (K : D → Heap → Prop)
    (hb : ∀ i h', Inv i h' → h' b0 = .box (.sl items) ∧ h' b1 = .box (.int .i64 n) ∧ ∃ st B, h' y = .lp st B) (h0 : Inv 0 h)
    (step : ∀ i h', i * n < items.length → Inv i h' → AYield Tryd.prog y [.sl ((items.drop (i * n)).take n)] h' fun r h'' => r = .bool true ∧ Inv (i + 1) h'')
    (done : ∀ i h', items.length ≤ i * n → (i = 0 ∨ (i - 1) * n < items.length) → Inv i h' → K (.tup []) h') : ACall Tryd.prog 56 [.yld y, .ptr b0 0 0, .ptr b1 0 0] h K := by
  refine acall_V F56_ok (cDr_ok _ _ _) rfl (V56_ok _ _ _ _) ?_
  unfold V56 V56_L0
  refine ⟨fun k l h' => ∃ i : Nat, l = [.int .i64 (i * n : Nat)] ∧ k = items.length - i * n ∧ (i = 0 ∨ (i - 1) * n < items.length) ∧ Inv i h', items.length, ⟨0, by simp [↓amR], by simp [↓amR], Or.inl rfl, h0⟩, ?_⟩
  rintro k f h' ⟨i, hfi, hk, hprev, hinv⟩
  obtain ⟨c0, c1, st, B, cy⟩ := hb i h' hinv
  simp only [List.cons.injEq, and_true] at hfi
  rw [hfi]
  obtain ⟨p, hp⟩ : ∃ p, p = i * n := ⟨_, rfl⟩
  have hpn : (i + 1) * n = p + n := by rw [hp, Nat.add_mul, Nat.one_mul]
  have hstep := step i h'
  have hdone := done i h'
  rw [← hp] at hk hstep hdone ⊢
  simp only [↓g_ld, c0, cells_sl, vpart]
  simp [↓amR]
  refine ⟨fun hlt => ?_, fun hge => hdone (by omega) hprev hinv⟩
  have hcut : ∀ e, e = min n (items.length - p) → (items.drop p).take e = (items.drop p).take n := by
    intro e he
    by_cases h1 : n ≤ items.length - p
    · rw [he, Nat.min_eq_left h1]
    · rw [he, Nat.min_eq_right (by omega), List.take_of_length_le (by simp [↓amR]), List.take_of_length_le (by simp [↓amR]; omega)]
  have hmin : (if (↑(items.length - p) : Int) < (n : Int) then (↑(items.length - p) : Int) else (n : Int)) = ((min n (items.length - p) : Nat) : Int) := by
    split <;> omega
  simp only [c1, c0, cells_int, vpart]
  simp [↓amR]
  obtain ⟨e, he⟩ : ∃ e, e = min n (items.length - p) := ⟨_, rfl⟩
  have hif : (if items.length - p < n then (↑(items.length - p) : Int) else (n : Int)) = (e : Int) := by
    split <;> omega
  rw [hif, wrap64 (by omega) (by omega)]
  have htake : ((p : Int) + (e : Int)).toNat - p = e := by omega
  rw [htake, hcut e he]
  refine ⟨by omega, hone, by omega, by omega, hone, ⟨st, B, cy⟩, AYield.mono ?_ (hstep hlt hinv)⟩
  rintro r h24 ⟨rfl, hinv'⟩
  obtain ⟨d0, d1, -⟩ := hb (i + 1) h24 hinv'
  simp only [d1, cells_int]
  simp [↓amR]
  rw [wrap64 (by omega) (by omega)]
  refine ⟨items.length - (p + n), by omega, i + 1, ?_, by omega, ?_, hinv'⟩
  · rw [← Int.natCast_mul, hpn, Int.natCast_add]
  · right
    rw [Nat.add_sub_cancel]; omega

end Go.Am
/- Pack: one round of its loop. No condition. -/
namespace Go.Am
open Go Go.Proofs

def li (xs : List Int) : D := .sl (xs.map (.int .i64))
theorem cells_li (xs : List Int) : (li xs).cells = [li xs] := rfl
theorem lanes_lt {alive lanes : Nat} (h : alive < 2 ^ lanes) : ∀ i, i ∈ lanesL alive → i < lanes := fun i hi => by
  have := bl_lt 64 0 alive lanes h i hi
  omega

theorem round37 (n0 b4 b8 b9 : Nat) (B0 : LoopB) (lanes alive : Nat) (part : List Int) (v : D) (els : List D) (h : Heap) (K : D → Heap → Prop)
    (hl : lanes ≤ 64) (ha : alive < 2 ^ lanes) (hp : part.length ≤ (lanesL alive).length) (he : els.length ≤ 1000000) (hv : ∀ x, x ∈ els → ∀ y, y ∈ x.cells → y.vone = true)
    (h0 : h n0 = .lp .ready B0) (h4 : h b4 = .box (.int .i64 lanes)) (h8 : h b8 = .box (.int .u64 alive)) (h9 : h b9 = .box v) (ho : Own 1 h v els)
    (hk : ∀ v' h', h' b9 = .box v' → Own 1 h' v' (els ++ [li (warp lanes (lanesL alive) part)]) → (∀ k, h k ≠ .free → k ≠ b9 → (∀ l, v ≠ .ms k 0 l) → h' k = h k) → K (.bool true) h') :
    V37_R0 n0 B0 (li part) (.ptr b4 0 0) (.ptr b8 0 0) (.ptr b9 0 0) h K := by
  have ha64 : alive < 2 ^ 64 := Nat.lt_of_lt_of_le ha (Nat.pow_le_pow_right (by omega) hl)
  have hL64 : (lanesL alive).length ≤ 64 := by unfold lanesL; rw [bl_len]; exact pop_le 64 alive
  unfold V37_R0
  refine ⟨rfl, h0, ?_⟩
  have d04 : b4 ≠ n0 := by rintro rfl; rw [h0] at h4; cases h4
  have d08 : b8 ≠ n0 := by rintro rfl; rw [h0] at h8; cases h8
  have d09 : b9 ≠ n0 := by rintro rfl; rw [h0] at h9; cases h9
  refine g_bld1 (by simp [↓amR]) (by simp [↓amR]) (by simp [↓amR]) fun n1 t1 => ?_
  obtain ⟨hA, eA⟩ : ∃ hA, hA = upd (upd h n0 (.lp .busy B0)) n1 (.arr 1 [.int .i64 (-1)]) := ⟨_, rfl⟩
  have f1 : ∀ k, h k ≠ .free → k ≠ n1 := fun k hk => t1.ne (m := k) (by
    by_cases e : k = n0
    · subst e; rw [upd_self]; simp [↓amR]
    · rw [upd_other _ _ e]; exact hk)
  have kA : ∀ k, h k ≠ .free → k ≠ n0 → hA k = h k := fun k hk hne => by rw [eA, upd_other _ _ (f1 k hk), upd_other _ _ hne]
  have kA0 : hA n0 = .lp .busy B0 := by rw [eA, upd_other _ _ (f1 n0 (by rw [h0]; simp [↓amR])), upd_self]
  have kA1 : hA n1 = .arr 1 [.int .i64 (-1)] := by rw [eA, upd_self]
  rw [← eA]
  have a4 : hA b4 = .box (.int .i64 lanes) := by rw [kA b4 (by rw [h4]; simp [↓amR]) d04, h4]
  simp only [↓g_ld, a4, cells_int, ↓v_part1]
  simp [↓amR]
  refine a53 n1 lanes (by omega) (.int .i64 (-1)) rfl rfl hA _ kA1 fun m hB xB fm em => ?_
  have kB : ∀ k, h k ≠ .free → k ≠ n0 → hB k = h k := fun k hk hne => by
    have := kA k hk hne
    rw [xB k (by rw [this]; exact hk), this]
  have kB0 : hB n0 = .lp .busy B0 := by rw [xB n0 (by rw [kA0]; simp [↓amR]), kA0]
  have fB : ∀ k, h k ≠ .free → k ≠ m := fun k hk e => by
    subst e
    by_cases e0 : k = n0
    · subst e0; rw [kA0] at fm; cases fm
    · rw [kA k hk e0] at fm; exact hk fm
  have b8' : hB b8 = .box (.int .u64 alive) := by rw [kB b8 (by rw [h8]; simp [↓amR]) d08, h8]
  simp only [b8', cells_int]
  simp [↓amR]
  obtain ⟨W, eW⟩ : ∃ W, W = fun j : Nat => ((warp lanes (lanesL alive) (part.take j)).map (D.int .i64)) := ⟨_, rfl⟩
  have lW : ∀ j, (W j).length = lanes := fun j => by rw [eW]; simp [↓amR, warp_len]
  refine ⟨fun _ h' => h' = upd hB m (.arr 1 (W part.length)), ?_, ?_⟩
  · rintro _ h38 rfl
    have c9 : upd hB m (.arr 1 (W part.length)) b9 = .box v := by rw [upd_other _ _ (fB b9 (by rw [h9]; simp [↓amR])), kB b9 (by rw [h9]; simp [↓amR]) d09, h9]
    obtain ⟨hC, eC⟩ : ∃ hC, hC = upd hB m (.arr 1 (W part.length)) := ⟨_, rfl⟩
    rw [← eC] at c9 ⊢
    have vone_v : v.cells = [v] ∧ AllOne v := by
      rcases ho with ⟨rfl, -⟩ | ⟨q, rfl, -⟩ <;> exact ⟨rfl, by simp [↓amR]⟩
    simp only [c9, vone_v.1]
    simp [↓amR]
    have hmC : hC m = .arr 1 (W part.length) := by rw [eC, upd_self]
    have hms : (D.ms m 0 lanes) = .ms m 0 (W part.length).length := by rw [lW]
    rw [hms]
    refine g_bld1ms hmC (fun x hx y hy => ?_) fun n2 t2 => ?_
    · rw [eW] at hx
      simp only [List.mem_map] at hx
      obtain ⟨z, -, rfl⟩ := hx
      simp [↓amR] at hy; subst hy; rfl
    have kC : ∀ k, h k ≠ .free → k ≠ n0 → hC k = h k := fun k hk hne => by rw [eC, upd_other _ _ (fB k hk), kB k hk hne]
    have kC0 : hC n0 = .lp .busy B0 := by rw [eC, upd_other _ _ (fB n0 (by rw [h0]; simp [↓amR])), kB0]
    have t2f : ∀ k, hC k ≠ .free → k ≠ n2 := fun k hk => t2.ne hk
    obtain ⟨hD, eD⟩ : ∃ hD, hD = upd (upd hC m (.frz 1 (W part.length))) n2 (.arr 1 [.sl (W part.length)]) := ⟨_, rfl⟩
    rw [← eD]
    have kD : ∀ k, h k ≠ .free → k ≠ n0 → hD k = h k := fun k hk hne => by
      have := kC k hk hne
      rw [eD, upd_other _ _ (t2f k (by rw [this]; exact hk)), upd_other _ _ (fB k hk), this]
    have kD0 : hD n0 = .lp .busy B0 := by
      rw [eD, upd_other _ _ (t2f n0 (by rw [kC0]; simp [↓amR])), upd_other _ _ (fB n0 (by rw [h0]; simp [↓amR])), kC0]
    have oD : Own 1 hD v els := by
      rcases ho with ho | ⟨q, rfl, hq⟩
      · exact Or.inl ho
      · refine Or.inr ⟨q, rfl, ?_⟩
        rw [kD q (by rw [hq]; simp [↓amR]) (by rintro rfl; rw [h0] at hq; cases hq), hq]
    refine g_app1 oD (by rw [eD, upd_self]) (by simp [↓amR]) (by omega) (by omega) fun v' h' o' k' _ => ?_
    have vb : ∀ k s, h k = s → (∀ e r, s ≠ .arr e r) → ∀ l, v ≠ .ms k 0 l := by
      rintro k s hs hne l rfl
      rcases ho with ⟨hc, -⟩ | ⟨q, hc, hq⟩
      · cases hc
      · cases hc; rw [hs] at hq; exact hne _ _ hq
    have g9 : h' b9 = .box v := by rw [k' b9 (by rw [kD b9 (by rw [h9]; simp [↓amR]) d09, h9]; simp [↓amR]) (vb b9 _ h9 (by simp [↓amR])), kD b9 (by rw [h9]; simp [↓amR]) d09, h9]
    have g0 : h' n0 = .lp .busy B0 := by rw [k' n0 (by rw [kD0]; simp [↓amR]) (vb n0 _ h0 (by simp [↓amR])), kD0]
    have one_v' : v'.cells = [v'] ∧ AllOne v' ∧ ∀ j, setCells v j [v'] = v' := by
      have : ∀ j, setCells v j [v'] = v' := fun j => by
        rcases ho with ⟨rfl, -⟩ | ⟨q, rfl, -⟩ <;> rfl
      rcases o' with ⟨rfl, -⟩ | ⟨q, rfl, -⟩ <;> exact ⟨rfl, by simp [↓amR], this⟩
    simp only [↓g_st, g9, one_v'.1, one_v'.2.1, one_v'.2.2, vone_v.1]
    simp [↓amR]
    refine ⟨by rw [upd_other _ _ d09.symm]; exact g0, ?_⟩
    have q9 : b9 ≠ n0 := d09
    refine hk v' _ (by rw [upd_other _ _ q9, upd_self]) ?_ fun k hkf hk9 hkv => ?_
    · have eW' : (D.sl (W part.length)) = li (warp lanes (lanesL alive) part) := by rw [eW]; simp [↓amR, li]
      rw [← eW']
      rcases o' with ⟨rfl, hnil⟩ | ⟨q, rfl, hq⟩
      · simp [↓amR] at hnil
      · refine Or.inr ⟨q, rfl, ?_⟩
        rw [upd_other _ _ (by rintro rfl; rw [g0] at hq; cases hq), upd_other _ _ (by rintro rfl; rw [g9] at hq; cases hq)]
        exact hq
    · by_cases e0 : k = n0
      · subst e0; rw [upd_self, h0]
      · rw [upd_other _ _ e0, upd_other _ _ hk9, k' k (by rw [kD k hkf e0]; exact hkf) hkv, kD k hkf e0]
  · have hlp : (li part) = .sl (part.map (.int .i64)) := rfl
    rw [hlp]
    simp only [↓v_len]
    unfold V37_R0_L0
    have hW0 : upd hB m (.arr 1 (W 0)) = hB := by
      funext k
      by_cases e : k = m
      · subst e; rw [upd_self, em, eW]; simp [↓amR, warp]
      · rw [upd_other _ _ e]
    refine ⟨fun k l h' => ∃ j x : Nat, l = [.int .u64 x, .int .i64 j] ∧ k + j = part.length ∧ x < 2 ^ 64 ∧ bl 64 0 x = (lanesL alive).drop j ∧ h' = upd hB m (.arr 1 (W j)), part.length, ⟨0, alive, rfl, rfl, ha64, rfl, hW0.symm⟩, ?_⟩
    rintro k f h' ⟨j, x, hf, hkj, hx, hbl, rfl⟩
    simp only [List.cons.injEq, and_true] at hf
    obtain ⟨hf1, hf2⟩ := hf
    rw [hf1, hf2]
    simp [↓amR]
    refine ⟨fun hj => ?_, fun hj => ?_⟩
    · refine ⟨hj, fun a haj => ?_⟩
      have hjL : j < (lanesL alive).length := by omega
      obtain ⟨i, hi⟩ : ∃ i, (lanesL alive)[j]? = some i := ⟨_, List.getElem?_eq_getElem hjL⟩
      have hdrop : (lanesL alive).drop j = i :: (lanesL alive).drop (j + 1) := by
        rw [List.drop_eq_getElem_cons hjL]
        rw [List.getElem?_eq_getElem hjL] at hi
        cases hi; rfl
      rw [hdrop] at hbl
      obtain ⟨x0, -, -, hctz, hbl', hx'⟩ := bl_step 64 0 x i _ hx hbl
      have hil : i < lanes := lanes_lt ha i (List.mem_of_getElem? hi)
      refine a_call (c54 x (by omega)) (by simp [↓amR]) ?_
      rintro r rfl
      have hc : Lib.ctz 64 x = i := by
        have : Lib.ctz 64 x = Lib.ctzFrom 64 x := by unfold Lib.ctz; rw [if_neg x0]
        rw [this, hctz]; rfl
      rw [hc]
      simp [↓amR]
      refine ⟨by omega, ⟨W j, rfl⟩, ?_⟩
      refine ⟨by rw [lW]; exact hil, fun d hd => ?_⟩
      have hdi : ∃ z, d = .int .i64 z := by
        rw [eW] at hd
        simp only [List.getElem?_map, Option.map_eq_some_iff] at hd
        obtain ⟨z, -, rfl⟩ := hd
        exact ⟨z, rfl⟩
      obtain ⟨z, rfl⟩ := hdi
      have hsub : IntKind.u64.wrap ((x : Int) - 1) = ((x - 1 : Nat) : Int) := by
        rw [show (x : Int) - 1 = ((x - 1 : Nat) : Int) by omega, wrapu, Nat.mod_eq_of_lt (by omega)]
      rw [hsub, iand64 x (x - 1) (by omega) (by omega), wrap64 (by omega) (by omega)]
      refine ⟨k - 1, by omega, j + 1, x &&& (x - 1), ⟨rfl, by omega⟩, by omega, by omega, hbl', ?_⟩
      rw [upd_upd]
      congr 2
      rw [eW]
      simp only [setc_int]
      rw [warp_step hi haj, List.map_set]
    · have : j = part.length := by omega
      rw [this]
end Go.Am
/- Pack. No condition. -/
namespace Go.Am
open Go Go.Proofs

/-- The lanes alive. -/
def aliveOf (lanes dead : Nat) : Nat := (18446744073709551615 - dead) * 2 ^ (64 - lanes) % 18446744073709551616 / 2 ^ (64 - lanes)
theorem alive_lt {lanes dead : Nat} (hl : lanes ≤ 64) : aliveOf lanes dead < 2 ^ lanes := by
  unfold aliveOf
  rw [Nat.div_lt_iff_lt_mul (Nat.two_pow_pos _), ← Nat.pow_add, Nat.add_sub_cancel' hl]
  exact Nat.mod_lt _ (by decide)
/-- How many warps. -/
def nWarps (n k : Nat) : Nat := (k + n - 1) / n
theorem nWarps_at {n k i : Nat} (hn : 1 ≤ n) (h1 : k ≤ i * n) (h2 : i = 0 ∨ (i - 1) * n < k) : i = nWarps n k := by
  unfold nWarps
  symm
  rw [Nat.div_eq_iff (by omega)]
  rcases h2 with rfl | h2
  · simp [↓amR] at h1; subst h1; omega
  · cases i with
    | zero => simp [↓amR] at h1; omega
    | succ i =>
      simp only [Nat.add_sub_cancel] at h2
      rw [Nat.add_mul, Nat.one_mul] at h1 ⊢
      omega
/-- What Pack answers. -/
def packR (items : List Int) (lanes : Int) (dead : Nat) : D :=
  if lanes < 1 ∨ 64 < lanes then .tup [.nil, .int .i64 1]
  else if aliveOf lanes.toNat dead = 0 then .tup [.nil, .int .i64 1]
  else if items = [] then .tup [.nil, .int .i64 0]
  else .tup [.sl ((packs lanes.toNat (aliveOf lanes.toNat dead) items (nWarps (lanesL (aliveOf lanes.toNat dead)).length items.length)).map li), .int .i64 0]

theorem packs_len (l a : Nat) (items : List Int) (k : Nat) : (packs l a items k).length = k := by simp [↓amR, packs]
theorem packs_succ (l a : Nat) (items : List Int) (k : Nat) : packs l a items (k + 1) = packs l a items k ++ [warp l (lanesL a) (chunk items (lanesL a).length k)] := by
  simp [↓amR, packs, List.range_succ]
theorem vret_tupown {esz : Nat} {v : D} {els : List D} {h : Heap} {K : D → Prop} (ho : Own esz h v els) (hv : ∀ x, x ∈ els → ∀ y, y ∈ x.cells → y.vone = true) (hne : els = [] → False) (hk : K (.tup [.sl els, .int .i64 0])) : vret K (.tup [v, .int .i64 0]) h := by
  rcases ho with ⟨-, he⟩ | ⟨n, rfl, hn⟩
  · exact absurd he hne
  · have hrow : (h n).row = some (esz, els) := by rw [hn]; rfl
    refine ⟨fun d hd => ?_, fun d hd => ?_, ?_, ?_⟩
    · simp [↓amR] at hd
      rcases hd with rfl | rfl <;> simp [↓amR]
    · simp [↓amR] at hd
      rcases hd with rfl | rfl
      · intro x hx
        simp only [D.cells, List.mem_singleton] at hx
        subst hx
        exact ⟨esz, els, hrow, by simp [↓amR], fun x hx y hy => hv x (by simpa using hx) y hy⟩
      · intro x hx
        simp only [D.cells, List.mem_singleton] at hx
        subst hx
        trivial
    · simp [↓amR, D.fzt, D.fz, D.fzc, hrow, D.vdt, D.vd, D.vone]
    · simpa [D.fzt, D.fz, D.fzc, hrow] using hk

theorem c37 (items : List Int) (lanes : Int) (dead : Nat) (hd : dead < 18446744073709551616) (hlen : items.length ≤ 1000000) : VCall Tryd.prog 37 [li items, .int .i64 lanes, .int .u64 dead] (· = packR items lanes dead) := by
  refine vcall_V F37_ok (cDr_ok _ _ _) rfl (V37_ok _ _ _ _) ?_
  unfold V37
  by_cases h1 : lanes < 1
  · have h1' : ¬ 1 ≤ lanes := by omega
    simp [↓amR, h1, h1', packR]
    intro n t
    exact vret_tup (by simp [↓amR]) rfl
  by_cases h2 : 64 < lanes
  · have h1' : 1 ≤ lanes := by omega
    simp [↓amR, h1, h1', h2, packR]
    intro n t
    exact vret_tup (by simp [↓amR]) rfl
  obtain ⟨l, rfl⟩ : ∃ l : Nat, lanes = l := ⟨lanes.toNat, by omega⟩
  have wl : IntKind.i64.wrap (64 - (l : Int)) = ((64 - l : Nat) : Int) := by
    rw [wrap64 (by omega) (by omega)]; omega
  have hal : ishr .u64 (ishl .u64 (ibits .xor .u64 (if IntKind.u64.signed then -1 else IntKind.u64.max) (dead : Int)) ((64 - l : Nat) : Int)) ((64 - l : Nat) : Int) = ((aliveOf l dead : Nat) : Int) := by
    rw [icpl64 dead hd, ishl64 _ _ (by omega), ishr64 _ _ (by omega)]; rfl
  have p1 : 1 ≤ (l : Int) := by omega
  have p2 : (l : Int) ≤ 64 := by omega
  have p1' : 1 ≤ l := by omega
  have p2' : l ≤ 64 := by omega
  simp only [Int.not_lt] at h1 h2
  have hR : packR items l dead = if aliveOf l dead = 0 then .tup [.nil, .int .i64 1] else if items = [] then .tup [.nil, .int .i64 0] else .tup [.sl ((packs l (aliveOf l dead) items (nWarps (lanesL (aliveOf l dead)).length items.length)).map li), .int .i64 0] := by
    simp only [packR, Int.toNat_natCast]
    rw [if_neg (by omega)]
  have hlt := alive_lt (dead := dead) p2'
  generalize hal0 : aliveOf l dead = alive at *
  rw [hR]
  simp [↓amR, p1, p2, wl]
  intro n t
  rw [hal]
  have e1 : ¬ ((l : Int) < 1) := by omega
  have e2 : decide ((64 : Int) < (l : Int)) = false := by simp [↓amR]; omega
  rw [if_neg e1, e2, v_cond_f]
  intro n1 t1
  rw [upd_upd]
  have dn1 : n ≠ n1 := t1.ne (by simp [↓amR])
  refine ⟨fun h0 => ?_, fun h0 => ?_⟩
  · rw [if_pos (by omega)]
    exact vret_tup (by simp [↓amR]) rfl
  have hne0 : alive ≠ 0 := by omega
  rw [if_neg hne0]
  intro n2 t2
  have dn2 : n ≠ n2 := t2.ne (by rw [upd_other _ _ dn1, upd_self]; simp [↓amR])
  have dn12 : n1 ≠ n2 := t2.ne (by rw [upd_self]; simp [↓amR])
  obtain ⟨hA, eA⟩ : ∃ hA, hA = upd (upd (upd noHeap n (.box (.int .i64 l))) n1 (.box (.int .u64 alive))) n2 (.box .nil) := ⟨_, rfl⟩
  rw [← eA]
  have a4 : hA n = .box (.int .i64 l) := by rw [eA, upd_other _ _ dn2, upd_other _ _ dn1, upd_self]
  have a8 : hA n1 = .box (.int .u64 alive) := by rw [eA, upd_other _ _ dn12, upd_self]
  have a9 : hA n2 = .box .nil := by rw [eA, upd_self]
  simp only [a8, cells_int]
  simp [↓amR]
  obtain ⟨L, hL⟩ : ∃ L, L = (lanesL alive).length := ⟨_, rfl⟩
  have hpop : pop 64 alive = L := by rw [hL]; unfold lanesL; rw [bl_len]
  have ha64 : alive < 2 ^ 64 := Nat.lt_of_lt_of_le hlt (Nat.pow_le_pow_right (by omega) p2')
  have hL1 : 1 ≤ L := by
    rcases Nat.eq_zero_or_pos L with h | h
    · rw [hL] at h
      exact absurd (bl_nil 64 0 alive ha64 (List.length_eq_zero_iff.1 h)) hne0
    · exact h
  have hL64 : L ≤ 64 := by rw [← hpop]; exact pop_le 64 alive
  refine ⟨fun _ h' => ∃ v els, h' n2 = .box v ∧ Own 1 h' v (els.map li) ∧ els = packs l alive items (nWarps L items.length) ∧ (items = [] → v = .nil), ?_, ?_⟩
  · rintro _ h' ⟨v, els, hv, ho, he, hnil⟩
    have vone_v : v.cells = [v] := by
      rcases ho with ⟨rfl, -⟩ | ⟨q, rfl, -⟩ <;> rfl
    simp only [hv, vone_v]
    simp [↓amR]
    rw [← hL, ← he]
    by_cases hi : items = []
    · rw [if_pos hi, hnil hi]
      exact vret_tup (by simp [↓amR]) rfl
    · rw [if_neg hi]
      refine vret_tupown ho (fun x hx y hy => ?_) (fun hn => ?_) rfl
      · simp only [List.mem_map] at hx
        obtain ⟨z, -, rfl⟩ := hx
        rw [cells_li] at hy; simp [↓amR] at hy; subst hy; rfl
      · exfalso
        rw [he] at hn
        have : (packs l alive items (nWarps L items.length)).length = 0 := by
          rw [List.map_eq_nil_iff.1 hn]; rfl
        rw [packs_len] at this
        unfold nWarps at this
        have hpos : 0 < items.length := List.length_pos_iff.2 hi
        rw [Nat.div_eq_zero_iff] at this
        omega
  refine a_call (c44 alive (by omega)) (by simp [↓amR]) ?_
  rintro r rfl
  rw [hpop]
  refine a52 (items.map (.int .i64)) L hL1 hL64 hA _ fun b0 b1 hB xB f0 f1 hb0 hb1 => ?_
  refine ⟨rfl, by kernel_rfl, fun n0 B t0 hBenv hBps hnd hplt hsemA hsemB => ?_⟩
  have nbA : ∀ k, hA k ≠ .free → hB k = hA k := xB
  have c4 : hB n = .box (.int .i64 l) := by rw [xB n (by rw [a4]; simp [↓amR]), a4]
  have c8 : hB n1 = .box (.int .u64 alive) := by rw [xB n1 (by rw [a8]; simp [↓amR]), a8]
  have c9 : hB n2 = .box .nil := by rw [xB n2 (by rw [a9]; simp [↓amR]), a9]
  have dd0 : b0 ≠ n2 := by rintro rfl; rw [a9] at f0; cases f0
  have dd1 : b1 ≠ n2 := by rintro rfl; rw [a9] at f1; cases f1
  have g0 : b0 ≠ n0 := t0.ne (by rw [hb0]; simp [↓amR])
  have g1 : b1 ≠ n0 := t0.ne (by rw [hb1]; simp [↓amR])
  have g4 : n ≠ n0 := t0.ne (by rw [c4]; simp [↓amR])
  have g8 : n1 ≠ n0 := t0.ne (by rw [c8]; simp [↓amR])
  have g9 : n2 ≠ n0 := t0.ne (by rw [c9]; simp [↓amR])
  refine a56 (items.map (.int .i64)) L hL1 hL64 (by simp [↓amR]) (by simp [↓amR]; omega) n0 b0 b1
    (fun i h' => h' b0 = .box (.sl (items.map (.int .i64))) ∧ h' b1 = .box (.int .i64 L) ∧ h' n0 = .lp .ready B ∧ h' n = .box (.int .i64 l) ∧ h' n1 = .box (.int .u64 alive) ∧
      ∃ v, h' n2 = .box v ∧ Own 1 h' v ((packs l alive items i).map li) ∧ (i = 0 → v = .nil)) _ _ ?_ ?_ ?_ ?_
  · rintro i h' ⟨q0, q1, q2, -⟩
    exact ⟨q0, q1, _, _, q2⟩
  · exact ⟨by rw [upd_other _ _ g0, hb0], by rw [upd_other _ _ g1, hb1], upd_self _ _ _, by rw [upd_other _ _ g4, c4], by rw [upd_other _ _ g8, c8], .nil, by rw [upd_other _ _ g9, c9], Or.inl ⟨rfl, rfl⟩, fun _ => rfl⟩
  · rintro i h' hi ⟨q0, q1, q2, q4, q8, v, q9, ho, -⟩
    have hch : (((items.map (D.int .i64)).drop (i * L)).take L) = (chunk items L i).map (D.int .i64) := by
      unfold chunk; rw [← List.map_drop, ← List.map_take]
    rw [hch]
    refine ayield_round (ps := [35]) (e := [(4, .ptr n 0 0), (8, .ptr n1 0 0), (9, .ptr n2 0 0)]) (a := F37_A0) (b := F37_B0) q2 hBps hsemA hsemB hnd hplt rfl hBenv ?_
    rw [← V37_R0_ok]
    have hiL : i ≤ i * L := Nat.le_mul_of_pos_right i hL1
    simp only [List.length_map] at hi
    refine round37 n0 n n1 n2 B l alive (chunk items L i) v ((packs l alive items i).map li) h' _ p2' hlt ?_ ?_ ?_ q2 q4 q8 q9 ho ?_
    · rw [← hL]; unfold chunk; simp [↓amR]; omega
    · rw [List.length_map, packs_len]; omega
    · intro x hx y hy
      simp only [List.mem_map] at hx
      obtain ⟨z, -, rfl⟩ := hx
      rw [cells_li] at hy; simp [↓amR] at hy; subst hy; rfl
    · intro v' h'' r9 ro rk
      have nv : ∀ k d, h' k = .box d → ∀ l, v ≠ .ms k 0 l := by
        rintro k d hs l rfl
        rcases ho with ⟨hc, -⟩ | ⟨q, hc, hq⟩
        · cases hc
        · cases hc; rw [hs] at hq; cases hq
      have nvl : ∀ l, v ≠ .ms n0 0 l := by
        rintro l rfl
        rcases ho with ⟨hc, -⟩ | ⟨q, hc, hq⟩
        · cases hc
        · cases hc; rw [q2] at hq; cases hq
      refine ⟨rfl, ?_, ?_, ?_, ?_, ?_, v', r9, ?_, fun h => by omega⟩
      · rw [rk b0 (by rw [q0]; simp [↓amR]) dd0 (nv _ _ q0), q0]
      · rw [rk b1 (by rw [q1]; simp [↓amR]) dd1 (nv _ _ q1), q1]
      · rw [rk n0 (by rw [q2]; simp [↓amR]) g9.symm nvl, q2]
      · rw [rk n (by rw [q4]; simp [↓amR]) dn2 (nv _ _ q4), q4]
      · rw [rk n1 (by rw [q8]; simp [↓amR]) dn12 (nv _ _ q8), q8]
      · rw [packs_succ, ← hL, List.map_append]; exact ro
  · rintro i h' h1 h2 ⟨q0, q1, q2, q4, q8, v, q9, ho, hnil⟩
    simp only [List.length_map] at h1 h2
    have hi := nWarps_at hL1 h1 h2
    simp only [vrangeEnd, q2]
    refine ⟨v, packs l alive items i, by rw [upd_other _ _ g9, q9], ?_, by rw [hi], fun he => ?_⟩
    · rcases ho with ho | ⟨q, rfl, hq⟩
      · exact Or.inl ho
      · exact Or.inr ⟨q, rfl, by rw [upd_other _ _ (by rintro rfl; rw [q2] at hq; cases hq)]; exact hq⟩
    · refine hnil ?_
      rw [he] at h2
      simp [↓amR] at h2; exact h2
end Go.Am
/- The examples, worked out. No condition. -/
namespace Go.Am
open Go Go.Proofs

def intsOf : List D → Option (List Int)
  | [] => some []
  | .int .i64 n :: r => match intsOf r with
    | some s => some (n :: s)
    | none => none
  | _ => none
theorem intsOf_ok : ∀ {xs : List D} {ns : List Int}, intsOf xs = some ns → xs = ns.map (.int .i64)
  | [], ns, h => by cases h; rfl
  | d :: r, ns, h => by
    cases d <;> (first | (simp only [intsOf] at h; done) | (cases h; done) | simp only [intsOf] at h | skip) <;> try (cases h; done)
    rename_i k n
    cases k <;> simp only [intsOf] at h <;> try (cases h; done)
    cases hs : intsOf r with
    | none => rw [hs] at h; cases h
    | some s =>
      rw [hs] at h
      cases h
      rw [intsOf_ok hs]; rfl
def spec37 : List D → Option D
  | [.sl xs, .int .i64 lanes, .int .u64 (.ofNat dead)] => match intsOf xs with
    | some items => if dead < 18446744073709551616 ∧ items.length ≤ 1000000 then some (packR items lanes dead) else none
    | none => none
  | _ => none
theorem spec37_ok {ds : List D} {r : D} (h : spec37 ds = some r) : VCall Tryd.prog 37 ds (· = r) := by
  unfold spec37 at h
  split at h
  · rename_i xs lanes dead
    split at h
    · rename_i items hi
      split at h
      · rename_i hc
        cases h
        rw [intsOf_ok hi]
        exact c37 items lanes dead hc.1 hc.2
      · cases h
    · cases h
  · cases h
def specs (f : FuncId) : Option (List D → Option D) := if f = 37 then some spec37 else none
def fsx (f : FuncId) : Option AFunc := match f with
  | 9 => some F9
  | 10 => some F10
  | 12 => some F12
  | 14 => some F14
  | 16 => some F16
  | 18 => some F18
  | 20 => some F20
  | 21 => some F21
  | 22 => some F22
  | 27 => some F27
  | 30 => some F30
  | 31 => some F31
  | 32 => some F32
  | 34 => some F34
  | 36 => some F36
  | 39 => some F39
  | 41 => some F41
  | 42 => some F42
  | 43 => some F43
  | 44 => some F44
  | 45 => some F45
  | 46 => some F46
  | 47 => some F47
  | 48 => some F48
  | 49 => some F49
  | 50 => some F50
  | 53 => some F53
  | 55 => some F55
  | 57 => some F57
  | 58 => some F58
  | 59 => some F59
  | _ => none
theorem fsx_ok {f : FuncId} {F : AFunc} (h : fsx f = some F) : ∃ loops dr, cFn Tryd.prog true f loops dr = some F ∧ DrOk Tryd.prog F.nt dr := by
  unfold fsx at h
  split at h
  · cases h; exact ⟨_, _, F9_ok, cDr_ok _ _ _⟩
  · cases h; exact ⟨_, _, F10_ok, cDr_ok _ _ _⟩
  · cases h; exact ⟨_, _, F12_ok, cDr_ok _ _ _⟩
  · cases h; exact ⟨_, _, F14_ok, cDr_ok _ _ _⟩
  · cases h; exact ⟨_, _, F16_ok, cDr_ok _ _ _⟩
  · cases h; exact ⟨_, _, F18_ok, cDr_ok _ _ _⟩
  · cases h; exact ⟨_, _, F20_ok, cDr_ok _ _ _⟩
  · cases h; exact ⟨_, _, F21_ok, cDr_ok _ _ _⟩
  · cases h; exact ⟨_, _, F22_ok, cDr_ok _ _ _⟩
  · cases h; exact ⟨_, _, F27_ok, cDr_ok _ _ _⟩
  · cases h; exact ⟨_, _, F30_ok, cDr_ok _ _ _⟩
  · cases h; exact ⟨_, _, F31_ok, cDr_ok _ _ _⟩
  · cases h; exact ⟨_, _, F32_ok, cDr_ok _ _ _⟩
  · cases h; exact ⟨_, _, F34_ok, cDr_ok _ _ _⟩
  · cases h; exact ⟨_, _, F36_ok, cDr_ok _ _ _⟩
  · cases h; exact ⟨_, _, F39_ok, cDr_ok _ _ _⟩
  · cases h; exact ⟨_, _, F41_ok, cDr_ok _ _ _⟩
  · cases h; exact ⟨_, _, F42_ok, cDr_ok _ _ _⟩
  · cases h; exact ⟨_, _, F43_ok, cDr_ok _ _ _⟩
  · cases h; exact ⟨_, _, F44_ok, cDr_ok _ _ _⟩
  · cases h; exact ⟨_, _, F45_ok, cDr_ok _ _ _⟩
  · cases h; exact ⟨_, _, F46_ok, cDr_ok _ _ _⟩
  · cases h; exact ⟨_, _, F47_ok, cDr_ok _ _ _⟩
  · cases h; exact ⟨_, _, F48_ok, cDr_ok _ _ _⟩
  · cases h; exact ⟨_, _, F49_ok, cDr_ok _ _ _⟩
  · cases h; exact ⟨_, _, F50_ok, cDr_ok _ _ _⟩
  · cases h; exact ⟨_, _, F53_ok, cDr_ok _ _ _⟩
  · cases h; exact ⟨_, _, F55_ok, cDr_ok _ _ _⟩
  · cases h; exact ⟨_, _, F57_ok, cDr_ok _ _ _⟩
  · cases h; exact ⟨_, _, F58_ok, cDr_ok _ _ _⟩
  · cases h; exact ⟨_, _, F59_ok, cDr_ok _ _ _⟩
  · cases h
def exTab : FTab Tryd.prog fsx where
  a := fun f F hf ds K h hv => by
    obtain ⟨_, _, h1, h2⟩ := fsx_ok hf
    exact acall_of h1 h2 hv
  spec := specs
  sp := fun f s hf ds r hr => by
    unfold specs at hf
    split at hf
    · rename_i e
      subst e; cases hf
      exact spec37_ok hr
    · cases hf
  v := fun f F hf ds K hv => by
    obtain ⟨_, _, h1, h2⟩ := fsx_ok hf
    exact vcall_of h1 h2 hv
def ownF (f : FuncId) : Bool := f = 34 || f = 41 || f = 42 || f = 45 || f = 46 || f = 48 || f = 49 || f = 50 || f = 52 || f = 53 || f = 55 || f = 56
theorem q9 : ((evPures exTab.spec ownF (evF Tryd.prog fsx exTab.spec ownF 100 12)).vcall 9 []).any (D.same (.bool true)) = true := by kernel_rfl
/-- The examples hold. -/
theorem c9 : VCall Tryd.prog 9 [] (· = .bool true) := vcall_ev exTab ownF 100 12 q9
end Go.Am
/- Of, Id, id of chapter 04. No condition. -/
namespace Go.Am
open Go Go.Proofs

/-- The code of a kernel, as far as the numbers of its threads look at it. -/
def codeD (t w n : Nat) (arr : D) : D := .agg [.int .i64 t, .int .i64 w, .int .i64 0, .int .i64 0, .int .i64 n, arr, .nil, .nil]
def launchD (b : Nat) (l : D) : D := .agg [.int .i64 b, l]
theorem code_cells {t w n : Nat} {arr : D} : (codeD t w n arr).cells = [.int .i64 t, .int .i64 w, .int .i64 0, .int .i64 0, .int .i64 n, arr, .nil, .nil] := rfl
theorem launch_cells {b : Nat} {l : D} : (launchD b l).cells = [.int .i64 b, l] := rfl
theorem code_vd {t w n : Nat} {arr : D} (h : arr.vone = true ∧ arr.one = true) : (codeD t w n arr).vd = true ∧ AllOne (codeD t w n arr) := by
  refine ⟨by rw [codeD, vd_agg]; simp [↓amR, h.1], fun x hx => ?_⟩
  simp [↓amR, codeD, D.cells] at hx
  rcases hx with rfl | rfl | rfl | rfl | rfl | rfl <;> first | rfl | exact h.2
theorem launch_vd {b : Nat} {l : D} (h : l.vone = true ∧ l.one = true) : (launchD b l).vd = true ∧ AllOne (launchD b l) := by
  refine ⟨by rw [launchD, vd_agg]; simp [↓amR, h.1], fun x hx => ?_⟩
  simp [↓amR, launchD, D.cells] at hx
  rcases hx with rfl | rfl <;> first | rfl | exact h.2
theorem wrap64n {x : Nat} (h : x ≤ 9223372036854775807) : IntKind.i64.wrap (x : Int) = (x : Int) := wrap64 (by omega) (by omega)
theorem tdivn (a b : Nat) : (a : Int).tdiv b = ((a / b : Nat) : Int) := by
  rw [Int.tdiv_eq_ediv_of_nonneg (by omega)]; rfl
theorem tmodn (a b : Nat) : (a : Int).tmod b = ((a % b : Nat) : Int) := by
  rw [Int.tmod_eq_emod_of_nonneg (by omega)]; rfl

theorem c16 {t w n g : Nat} {arr : D} (ha : arr.vone = true ∧ arr.one = true) (ht : 1 ≤ t) (hg : g ≤ 1000000000) :
    VCall Tryd.prog 16 [codeD t w n arr, .int .i64 g] (· = .tup [.int .i64 (g / t : Nat), .int .i64 (g % t : Nat)]) := by
  refine vcall_V F16_ok (cDr_ok _ _ _) rfl (V16_ok _ _ _) ?_
  unfold V16
  rw [g_box]
  refine ⟨(code_vd ha).2, fun m tp => ?_⟩
  simp only [↓d_faddp, ↓d_ld, ↓g_ld, upd_self, code_cells]
  simp [↓amR]
  refine ⟨by omega, ?_⟩
  have hle : g / t ≤ g := Nat.div_le_self g t
  rw [tmodn, ← Int.natCast_ediv, ← Int.natCast_emod]
  generalize g / t = q at *
  generalize g % t = r at *
  rw [wrap64 (by omega) (by omega)]
  exact vret_tup (by simp [↓amR]) rfl

/-- The numbers of a thread. -/
def idV (t w b : Nat) (g k : Nat) : Nat :=
  match k with
  | 1 => g
  | 2 => g % t
  | 3 => g / t
  | 4 => b * t
  | 5 => t
  | 6 => g % t % w
  | _ => g % t / w
theorem wrap32 {n : Int} (h1 : -2147483648 ≤ n) (h2 : n ≤ 2147483647) : IntKind.i32.wrap n = n := by
  simp only [IntKind.wrap, IntKind.bits, IntKind.signed, Bool.true_and]
  split <;> simp_all <;> omega

theorem c32 {t w n b g k : Nat} {arr l : D} (ha : arr.vone = true ∧ arr.one = true) (hl : l.vone = true ∧ l.one = true) (ht : 1 ≤ t) (ht2 : t ≤ 10000) (hw : 1 ≤ w) (hb : b ≤ 10000) (hg : g < b * t) (hk : 1 ≤ k) (hk7 : k ≤ 7) :
    VCall Tryd.prog 32 [codeD t w n arr, launchD b l, .int .i64 g, .int .i64 k] (· = .tup [.int .i32 (idV t w b g k), .int .i64 0]) := by
  refine vcall_V F32_ok (cDr_ok _ _ _) rfl (V32_ok _ _ _ _ _) ?_
  unfold V32
  rw [g_box]
  refine ⟨(code_vd ha).2, fun m0 t0 => ?_⟩
  rw [g_box]
  refine ⟨(launch_vd hl).2, fun m1 t1 => ?_⟩
  have hne : m0 ≠ m1 := t1.ne (by simp [↓amR])
  have hbt : b * t ≤ 100000000 := Nat.le_trans (Nat.mul_le_mul hb ht2) (by decide)
  have hw64 : IntKind.i64.wrap ((b : Int) * (t : Int)) = ((b * t : Nat) : Int) := by
    rw [← Int.natCast_mul, wrap64 (by omega) (by omega)]
  have hi : idV t w b g k ≤ 100000000 := by
    have h1 : g % t ≤ t := Nat.le_of_lt (Nat.mod_lt g ht)
    have h2 : g / t ≤ g := Nat.div_le_self g t
    have h3 : g % t % w ≤ g % t := Nat.mod_le _ _
    have h4 : g % t / w ≤ g % t := Nat.div_le_self _ _
    unfold idV
    split <;> omega
  simp only [↓h_faddp, upd_self, upd_other _ _ hne, Slot.live, true_and, ↓g_ld, launch_cells, code_cells]
  simp only [v_part1, List.getElem?_cons_zero, List.getElem?_cons_succ]
  have g0 : ¬ ((g : Int) < 0) := by omega
  have g1 : ¬ (((b * t : Nat) : Int) ≤ (g : Int)) := by omega
  have g2 : (g : Int) < ((b * t : Nat) : Int) := by omega
  generalize hT : b * t = tot at *
  simp [↓amR, g0, hw64, g1]
  have hm0 : upd (upd noHeap m0 (.box (codeD t w n arr))) m1 (.box (launchD b l)) m0 = .box (codeD t w n arr) := by rw [upd_other _ _ hne, upd_self]
  simp only [hm0, code_cells, List.length_cons, List.length_nil, List.take_succ_cons, List.take_zero]
  refine ⟨by omega, ?_⟩
  refine a_call (c16 (t := t) (w := w) (n := n) (g := g) ha ht (by omega)) (fun d hd => ?_) ?_
  · simp only [List.mem_cons, List.not_mem_nil, or_false] at hd
    rcases hd with rfl | rfl
    · exact code_vd ha
    · exact ⟨rfl, by simp [↓amR]⟩
  rintro r rfl
  simp only [h_ext, List.getElem?_cons_zero, List.getElem?_cons_succ]
  refine ⟨fun l _ => l = [.int .i64 (idV t w b g k)], ?_, ?_⟩
  · rintro f h' hf
    simp only [List.cons.injEq, and_true] at hf
    rw [hf, h_conv, wrap32 (by omega) (by omega)]
    exact vret_tup (by simp [↓amR]) rfl
  simp only [hm0, code_cells, List.getElem?_cons_zero, List.getElem?_cons_succ, v_rem, v_quo, true_and]
  have e1 : ¬ ((w : Int) = 0) := by omega
  have q1 : g % t % w = (g % t) % w := rfl
  have hb2 : g % t / w ≤ 100000000 := by
    have h1 : g % t ≤ t := Nat.le_of_lt (Nat.mod_lt g ht)
    have h4 : g % t / w ≤ g % t := Nat.div_le_self _ _
    omega
  rw [tmodn, tdivn, wrap64n (Nat.le_trans hb2 (by decide))]
  have hk' : k = 1 ∨ k = 2 ∨ k = 3 ∨ k = 4 ∨ k = 5 ∨ k = 6 ∨ k = 7 := by omega
  rcases hk' with rfl | rfl | rfl | rfl | rfl | rfl | rfl <;> simp [↓amR, idV, hT] <;> omega
end Go.Am
/- Id out of range; id. No condition. -/
namespace Go.Am
open Go Go.Proofs

theorem h_iaddap {P : Program} {n i j l s : Nat} {k : IntKind} {a : Int} {h : Heap} {KH : D → Heap → Prop} : vhOp P (.iadda (.c (.ptr n i j)) (.c (.int k a)) l s) h KH = (0 ≤ a ∧ a < l ∧ (h n).live = true ∧ KH (.ptr n i (j + a.toNat * s)) h) := rfl

theorem c32e {t w n b : Nat} {g k : Int} {arr l : D} (ha : arr.vone = true ∧ arr.one = true) (hl : l.vone = true ∧ l.one = true) (ht2 : t ≤ 10000) (hb : b ≤ 10000) (hg : g < 0 ∨ ((b * t : Nat) : Int) ≤ g) :
    VCall Tryd.prog 32 [codeD t w n arr, launchD b l, .int .i64 g, .int .i64 k] (· = .tup [.int .i32 0, .int .i64 1]) := by
  refine vcall_V F32_ok (cDr_ok _ _ _) rfl (V32_ok _ _ _ _ _) ?_
  unfold V32
  rw [g_box]
  refine ⟨(code_vd ha).2, fun m0 t0 => ?_⟩
  rw [g_box]
  refine ⟨(launch_vd hl).2, fun m1 t1 => ?_⟩
  have hne : m0 ≠ m1 := t1.ne (by simp [↓amR])
  have hbt : b * t ≤ 100000000 := Nat.le_trans (Nat.mul_le_mul hb ht2) (by decide)
  have hw64 : IntKind.i64.wrap ((b : Int) * (t : Int)) = ((b * t : Nat) : Int) := by
    rw [← Int.natCast_mul, wrap64 (by omega) (by omega)]
  simp only [↓h_faddp, upd_self, upd_other _ _ hne, Slot.live, true_and, ↓g_ld, launch_cells, code_cells]
  simp only [v_part1, List.getElem?_cons_zero, List.getElem?_cons_succ]
  generalize hT : b * t = tot at *
  by_cases g0 : g < 0
  · have g0' : ¬ 0 ≤ g := by omega
    simp [↓amR, g0, g0']
    exact vret_tup (by simp [↓amR]) rfl
  · have g1 : ((tot : Nat) : Int) ≤ g := by omega
    have g0' : 0 ≤ g := by omega
    have g2 : ¬ (g < (tot : Int)) := by omega
    simp [↓amR, g0, g0', hw64, g1, g2]
    exact vret_tup (by simp [↓amR]) rfl

theorem c14 {cd ld : D} {cs ls : List D} (hcd : cd = .agg cs) (hcs : cs.length = 8) (hld : ld = .agg ls) (hls : ls.length = 2) (hc : cd.vd = true ∧ AllOne cd) (hl : ld.vd = true ∧ AllOne ld) {g k v e : Int}
    (h : VCall Tryd.prog 32 [cd, ld, .int .i64 g, .int .i64 k] (· = .tup [.int .i32 v, .int .i64 e])) : VCall Tryd.prog 14 [cd, ld, .agg [.int .i64 g, .int .i64 k]] (· = .agg [.int .i32 v, .int .i64 e]) := by
  refine vcall_V F14_ok (cDr_ok _ _ _) rfl (V14_ok _ _ _ _) ?_
  unfold V14
  rw [g_box]
  refine ⟨hc.2, fun m0 t0 => ?_⟩
  rw [g_box]
  refine ⟨hl.2, fun m1 t1 => ?_⟩
  rw [g_box]
  refine ⟨by simp [↓amR], fun m2 t2 => ?_⟩
  rw [g_alloc]
  intro m3 t3
  have n01 : m0 ≠ m1 := t1.ne (by simp [↓amR])
  have n02 : m0 ≠ m2 := t2.ne (by simp [↓amR, upd_other _ _ n01])
  have n12 : m1 ≠ m2 := t2.ne (by simp [↓amR])
  have n03 : m0 ≠ m3 := t3.ne (by simp [↓amR, upd_other _ _ n01, upd_other _ _ n02])
  have n13 : m1 ≠ m3 := t3.ne (by simp [↓amR, upd_other _ _ n12])
  have n23 : m2 ≠ m3 := t3.ne (by simp [↓amR])
  obtain ⟨hA, eA⟩ : ∃ hA, hA = upd (upd (upd (upd noHeap m0 (.box cd)) m1 (.box ld)) m2 (.box (.agg [.int .i64 g, .int .i64 k]))) m3 (.box (.agg [.int .i32 0, .int .i64 0])) := ⟨_, rfl⟩
  rw [← eA]
  have a0 : hA m0 = .box cd := by rw [eA, upd_other _ _ n03, upd_other _ _ n02, upd_other _ _ n01, upd_self]
  have a1 : hA m1 = .box ld := by rw [eA, upd_other _ _ n13, upd_other _ _ n12, upd_self]
  have a2 : hA m2 = .box (.agg [.int .i64 g, .int .i64 k]) := by rw [eA, upd_other _ _ n23, upd_self]
  have a3 : hA m3 = .box (.agg [.int .i32 0, .int .i64 0]) := by rw [eA, upd_self]
  subst hcd hld
  have k8 : ((cs.drop 0).take 8) = cs := by rw [List.drop_zero, List.take_of_length_le (by omega)]
  have k2 : ((ls.drop 0).take 2) = ls := by rw [List.drop_zero, List.take_of_length_le (by omega)]
  simp only [↓g_ld, a0, a1, cells_agg, v_parta, k8, k2]
  simp only [true_and, Nat.zero_add]
  refine ⟨by omega, by omega, ?_⟩
  simp only [h_iaddap, a2, Slot.live, true_and, ↓g_ld, cells_agg]
  simp [↓amR]
  refine a_call h (fun d hd => ?_) ?_
  · simp only [List.mem_cons, List.not_mem_nil, or_false] at hd
    rcases hd with rfl | rfl | rfl | rfl
    · exact hc
    · exact hl
    · exact ⟨rfl, by simp [↓amR]⟩
    · exact ⟨rfl, by simp [↓amR]⟩
  rintro r rfl
  simp [↓amR, a3]
  have hf : fillD [D.int .i32 0, D.int .i64 0] [(0, 1, [D.int .i32 v]), (1, 1, [D.int .i64 e])] = [.int .i32 v, .int .i64 e] := rfl
  rw [hf]
  refine ⟨fun p hp => ?_, rfl, fun x hx => ?_, by simp [↓amR], ?_⟩
  · simp only [List.mem_cons, List.not_mem_nil, or_false] at hp
    rcases hp with rfl | rfl <;> simp [↓amR]
  · simp only [List.mem_cons, List.not_mem_nil, or_false] at hx
    rcases hx with rfl | rfl <;> rfl
  · refine vret_vd ⟨rfl, fun x hx => ?_⟩ (by simp [↓amR])
    simp [↓amR, D.cells] at hx
    rcases hx with rfl | rfl <;> rfl
end Go.Am
/- Launch of chapter 04. No condition. -/
namespace Go.Am
open Go Go.Proofs

/-- A row of one, in a region without an order. -/
theorem d_bld1 {P : Program} {fz : Bool} {esz : Nat} {z d : D} {h : Heap} {K : D → Prop} (h2 : AllOne d) (h3 : d.cells.length = esz) (hv : ∀ y, y ∈ d.cells → y.vone = true) (hz : ∀ y, y ∈ z.cells → y.vone = true) (hk : K (.sl [d])) : vdOp P (.bldS fz esz 1 z [(0, .c d)]) h K := by
  refine ⟨fun p hp => by simp [↓amR, Arg.get] at hp; subst hp; exact ⟨Nat.one_pos, h3, h2⟩, fun p hp => by simp [↓amR, Arg.get] at hp; subst hp; exact hv, hz, ?_⟩
  simpa [Arg.get, setEls] using hk
/-- One more at the end of a list of ours, from a row of one that is data. -/
theorem g_appsl1 {P : Program} {h : Heap} {KH : D → Heap → Prop} {esz bytes : Nat} {z s d : D} {els : List D} (ho : Own esz h s els) (hd : AllOne d) (hc : d.cells.length = esz) (hb : (els.length + 1) * bytes ≤ 140737488355328) (hl : els.length + 1 ≤ 9223372036854775807)
    (hk : ∀ v h', Own esz h' v (els ++ [d]) → KeepBut h h' s → KH v h') : vhOp P (.app (.c s) (.c (.sl [d])) esz bytes z) h KH := by
  refine ⟨fun e he => by simp [↓amR] at he; subst he; exact hc, fun y hy => by simp [↓amR] at hy; subst hy; exact hd, ?_⟩
  rcases ho with ⟨rfl, rfl⟩ | ⟨m, rfl, hm⟩
  · exact ⟨⟨by simpa using hb, by simp [↓amR]⟩, fun n t => hk _ _ (Or.inr ⟨n, rfl, upd_self _ _ _⟩) fun k hk _ => upd_other _ _ (t.ne hk)⟩
  · refine ⟨els, hm, rfl, rfl, ⟨by simpa using hb, by simpa using hl⟩, fun n t => hk _ _ (Or.inr ⟨n, by simp [↓amR], upd_self _ _ _⟩) fun k hkf hne => ?_⟩
    have h1 := t.ne hkf
    have h2 : k ≠ m := by rintro rfl; exact hne _ rfl
    rw [upd_other _ _ h1, upd_other _ _ h2]
theorem own_one {esz : Nat} {h : Heap} {v : D} {els : List D} (ho : Own esz h v els) : v.cells = [v] ∧ v.one = true := by
  rcases ho with ⟨rfl, -⟩ | ⟨q, rfl, -⟩ <;> exact ⟨rfl, rfl⟩
theorem own_box {esz : Nat} {h : Heap} {v : D} {els : List D} (ho : Own esz h v els) {k : Nat} {d : D} (hb : h k = .box d) : ∀ l, v ≠ .ms k 0 l := by
  rintro l rfl
  rcases ho with ⟨hc, -⟩ | ⟨q, hc, hq⟩
  · cases hc
  · cases hc; rw [hb] at hq; cases hq
theorem own_upd {esz : Nat} {h : Heap} {v : D} {els : List D} (ho : Own esz h v els) {k : Nat} {d : D} (hb : h k = .box d) (s : Slot) : Own esz (upd h k s) v els := by
  rcases ho with ho | ⟨q, rfl, hq⟩
  · exact Or.inl ho
  · refine Or.inr ⟨q, rfl, ?_⟩
    rw [upd_other _ _ (by rintro rfl; rw [hb] at hq; cases hq)]; exact hq

def rawD (r : Nat) (zs : List Int) : D := .agg (.int .u8 r :: zs.map (.int .i8))
theorem raw_one {r : Nat} {zs : List Int} : AllOne (rawD r zs) := fun x hx => by
  simp [↓amR, rawD, D.cells] at hx
  rcases hx with rfl | ⟨z, -, rfl⟩ <;> rfl

theorem vret_agg2own {esz : Nat} {k : IntKind} {n0 : Int} {v : D} {els : List D} {h : Heap} {K : D → Prop} (ho : Own esz h v els) (hv : ∀ x, x ∈ els → ∀ y, y ∈ x.cells → y.vone = true) (hk : ∀ l, l.vone = true → l.one = true → K (.agg [.int k n0, l])) : vret K (.agg [.int k n0, v]) h := by
  rcases ho with ⟨rfl, -⟩ | ⟨n, rfl, hn⟩
  · refine vret_vd ⟨rfl, fun y hy => ?_⟩ (hk _ rfl rfl)
    simp [↓amR, D.cells] at hy
    rcases hy with rfl | rfl <;> rfl
  · have hrow : (h n).row = some (esz, els) := by rw [hn]; rfl
    refine ⟨fun y hy => ?_, fun y hy => ?_, ?_, ?_⟩
    · simp [↓amR, D.cells] at hy
      rcases hy with rfl | rfl <;> rfl
    · simp [↓amR, D.cells] at hy
      rcases hy with rfl | rfl
      · trivial
      · exact ⟨esz, els, hrow, by simp [↓amR], fun x hx y hy => hv x (by simpa using hx) y hy⟩
    · simp [↓amR, D.fzt, D.fz, D.fzc, hrow, D.vdt, D.vd, D.vone]
    · have := hk (.sl els) rfl rfl
      simpa [D.fzt, D.fz, D.fzc, hrow] using this

theorem vret_agg2own2 {esz : Nat} {k : IntKind} {n0 : Int} {v : D} {els : List D} {h : Heap} {K : D → Prop} (ho : Own esz h v els) (hv : ∀ x, x ∈ els → ∀ y, y ∈ x.cells → y.vone = true) (hk : ∀ l, (l = .nil ∧ els = [] ∨ l = .sl els) → K (.agg [.int k n0, l])) : vret K (.agg [.int k n0, v]) h := by
  rcases ho with ⟨rfl, he⟩ | ⟨n, rfl, hn⟩
  · refine vret_vd ⟨rfl, fun y hy => ?_⟩ (hk _ (Or.inl ⟨rfl, he⟩))
    simp [D.cells] at hy
    rcases hy with rfl | rfl <;> rfl
  · have hrow : (h n).row = some (esz, els) := by rw [hn]; rfl
    refine ⟨fun y hy => ?_, fun y hy => ?_, ?_, ?_⟩
    · simp [D.cells] at hy
      rcases hy with rfl | rfl <;> rfl
    · simp [D.cells] at hy
      rcases hy with rfl | rfl
      · trivial
      · exact ⟨esz, els, hrow, by simp, fun x hx y hy => hv x (by simpa using hx) y hy⟩
    · simp [D.fzt, D.fz, D.fzc, hrow, D.vdt, D.vd, D.vone]
    · have := hk (.sl els) (Or.inr rfl)
      simpa [D.fzt, D.fz, D.fzc, hrow] using this
theorem all_i32 : ∀ {els : List D}, (∀ x, x ∈ els → ∃ z, x = D.int .i32 z) → ∃ ys : List Int, els = ys.map (.int .i32)
  | [], _ => ⟨[], rfl⟩
  | a :: r, h => by
    obtain ⟨z, rfl⟩ := h a (by simp)
    obtain ⟨ys, rfl⟩ := all_i32 (els := r) fun x hx => h x (by simp [hx])
    exact ⟨z :: ys, rfl⟩
/-- The arguments of a launch. -/
def isArgs (n : Nat) (l : D) : Prop := (l = .nil ∧ n = 0) ∨ ∃ ys : List Int, l = .sl (ys.map (.int .i32)) ∧ ys.length = n
theorem isArgs_vd {n : Nat} {l : D} (h : isArgs n l) : l.vone = true ∧ l.one = true := by
  rcases h with ⟨rfl, -⟩ | ⟨ys, rfl, -⟩ <;> exact ⟨rfl, rfl⟩
theorem c11s {t w n r : Nat} {zs : List Int} {arr : D} (ha : arr.vone = true ∧ arr.one = true) (ht : 1 ≤ t) (ht2 : t ≤ 4096) (hn : n ≤ 1000) (hr : r ≤ 255) (hz : zs.length = 12) :
    VCall Tryd.prog 11 [codeD t w n arr, rawD r zs] (fun x => ∃ (b : Nat) (l : D), x = launchD b l ∧ 1 ≤ b ∧ b ≤ 3 ∧ isArgs n l) := by
  refine vcall_V F11_ok (cDr_ok _ _ _) rfl (V11_ok _ _ _) ?_
  unfold V11
  rw [g_box]
  refine ⟨(code_vd ha).2, fun m0 t0 => ?_⟩
  rw [g_box]
  refine ⟨raw_one, fun m1 t1 => ?_⟩
  rw [g_alloc]
  intro m2 t2
  have n01 : m0 ≠ m1 := t1.ne (by simp [↓amR])
  have n02 : m0 ≠ m2 := t2.ne (by simp [↓amR, upd_other _ _ n01])
  have n12 : m1 ≠ m2 := t2.ne (by simp [↓amR])
  obtain ⟨hA, eA⟩ : ∃ hA, hA = upd (upd (upd noHeap m0 (.box (codeD t w n arr))) m1 (.box (rawD r zs))) m2 (.box (.agg [.int .i64 0, .nil])) := ⟨_, rfl⟩
  rw [← eA]
  have a0 : hA m0 = .box (codeD t w n arr) := by rw [eA, upd_other _ _ n02, upd_other _ _ n01, upd_self]
  have a1 : hA m1 = .box (rawD r zs) := by rw [eA, upd_other _ _ n12, upd_self]
  have a2 : hA m2 = .box (.agg [.int .i64 0, .nil]) := by rw [eA, upd_self]
  have rc : (rawD r zs).cells = .int .u8 r :: zs.map (.int .i8) := rfl
  simp only [↓h_faddp, a1, Slot.live, true_and, ↓g_ld, rc, v_part1, Nat.zero_add, List.getElem?_cons_zero, v_rem, h_conv]
  have e3 : ((r : Int).tmod 3) = ((r % 3 : Nat) : Int) := by
    have := tmodn r 3
    simpa using this
  have e4 : (1 : Int) + ((r % 3 : Nat) : Int) = ((1 + r % 3 : Nat) : Int) := by omega
  rw [e3, wrap64n (by omega), v_add, e4, wrap64n (by omega)]
  obtain ⟨b0, hb0⟩ : ∃ b0, b0 = 1 + r % 3 := ⟨_, rfl⟩
  rw [← hb0]
  have hb01 : 1 ≤ b0 := by omega
  have hb02 : b0 ≤ 3 := by omega
  clear hb0
  refine ⟨by omega, ?_⟩
  have hf : fillD [D.int .i64 0, D.nil] [(0, 1, [D.int .i64 b0])] = [.int .i64 b0, .nil] := rfl
  simp [↓amR]
  rw [hf]
  refine ⟨fun p hp => ?_, fun m3 t3 => ⟨rfl, fun x hx => ?_, ?_⟩⟩
  · simp only [List.mem_cons, List.not_mem_nil, or_false] at hp
    rcases hp with rfl; simp [↓amR]
  · simp only [List.mem_cons, List.not_mem_nil, or_false] at hx
    rcases hx with rfl | rfl <;> rfl
  have n03 : m0 ≠ m3 := t3.ne (by rw [a0]; simp [↓amR])
  have n13 : m1 ≠ m3 := t3.ne (by rw [a1]; simp [↓amR])
  have n23 : m2 ≠ m3 := t3.ne (by rw [a2]; simp [↓amR])
  refine ⟨fun _ h' => ∃ b : Nat, 1 ≤ b ∧ b ≤ 3 ∧ h' m0 = .box (codeD t w n arr) ∧ h' m1 = .box (rawD r zs) ∧ h' m2 = .box (.agg [.int .i64 0, .nil]) ∧ h' m3 = .box (.agg [.int .i64 b, .nil]), ?_, ?_⟩
  · rintro _ h25 ⟨b, hb1, hb3, s0, s1, s2, s3⟩
    refine ⟨fun _ h' => ∃ v els, h' m2 = .box (.agg [.int .i64 0, .nil]) ∧ h' m3 = .box (.agg [.int .i64 b, v]) ∧ Own 1 h' v els ∧ els.length = n ∧ ∀ x, x ∈ els → ∃ z, x = .int .i32 z, ?_, ?_⟩
    · rintro _ h28 ⟨v, els, q2, q3, ho, heln, hels⟩
      have hv1 := own_one ho
      simp only [q2, q3, cells_agg, setc_agg]
      simp [↓amR, hv1.2]
      refine vret_agg2own2 (own_upd ho q2 _) (fun x hx y hy => ?_) (fun l hl => ⟨b, l, rfl, hb1, hb3, ?_⟩)
      · obtain ⟨z, rfl⟩ := hels x hx
        simp [↓amR] at hy; subst hy; rfl
      · rcases hl with ⟨rfl, h0⟩ | rfl
        · exact Or.inl ⟨rfl, by rw [← heln, h0]; rfl⟩
        · obtain ⟨ys, hys⟩ := all_i32 hels
          exact Or.inr ⟨ys, by rw [hys], by rw [← heln, hys, List.length_map]⟩
    · unfold V11_L0
      refine ⟨fun k l h' => ∃ (i : Nat) (v : D) (els : List D), l = [.int .i64 i] ∧ k + i = n ∧ els.length = i ∧ h' m0 = .box (codeD t w n arr) ∧ h' m1 = .box (rawD r zs) ∧ h' m2 = .box (.agg [.int .i64 0, .nil]) ∧ h' m3 = .box (.agg [.int .i64 b, v]) ∧ Own 1 h' v els ∧ ∀ x, x ∈ els → ∃ z, x = .int .i32 z,
        n, ⟨0, .nil, [], rfl, rfl, rfl, s0, s1, s2, s3, Or.inl ⟨rfl, rfl⟩, fun x hx => by cases hx⟩, ?_⟩
      rintro k f h' ⟨i, v, els, hf6, hki, hlen, q0, q1, q2, q3, ho, hels⟩
      simp only [List.cons.injEq, and_true] at hf6
      rw [hf6]
      simp only [↓h_faddp, q0, Slot.live, true_and, ↓g_ld, code_cells, v_part1, Nat.zero_add, List.getElem?_cons_zero, List.getElem?_cons_succ]
      simp [↓amR]
      refine ⟨fun hi => ?_, fun hi => ⟨q2, v, q3, els, ho, by omega, hels⟩⟩
      have e8 : ((i : Int).tmod 8) = ((i % 8 : Nat) : Int) := by
        have := tmodn i 8
        simpa using this
      obtain ⟨z, hz8⟩ : ∃ z, zs[i % 8]? = some z := ⟨_, List.getElem?_eq_getElem (by omega)⟩
      have hcell : (rawD r zs).cells[1 + i % 8]? = some (.int .i8 z) := by
        rw [rc, Nat.add_comm, List.getElem?_cons_succ, List.getElem?_map, hz8]; rfl
      simp only [q3, cells_agg, List.getElem?_cons_zero, List.getElem?_cons_succ]
      refine ⟨⟨_, rfl⟩, ⟨_, q1⟩, ?_⟩
      rw [e8, h_iaddap]
      refine ⟨by omega, by omega, by rw [q1]; rfl, ?_⟩
      simp only [↓g_ld, q1, Int.toNat_natCast, Nat.mul_one, v_part1, hcell, h_conv, true_and]
      refine d_bld1 (by simp [↓amR]) rfl (fun y hy => by simp [↓amR] at hy; subst hy; rfl) (fun y hy => by simp [↓amR] at hy; subst hy; rfl) ?_
      refine ⟨⟨_, rfl⟩, ?_⟩
      refine g_appsl1 ho (by simp [↓amR]) rfl (by omega) (by omega) fun v' h2 o' kb => ?_
      have p0 : h2 m0 = .box (codeD t w n arr) := by rw [kb m0 (by rw [q0]; simp [↓amR]) (own_box ho q0), q0]
      have p1 : h2 m1 = .box (rawD r zs) := by rw [kb m1 (by rw [q1]; simp [↓amR]) (own_box ho q1), q1]
      have p2 : h2 m2 = .box (.agg [.int .i64 0, .nil]) := by rw [kb m2 (by rw [q2]; simp [↓amR]) (own_box ho q2), q2]
      have p3 : h2 m3 = .box (.agg [.int .i64 b, v]) := by rw [kb m3 (by rw [q3]; simp [↓amR]) (own_box ho q3), q3]
      have o1 := own_one o'
      simp only [p3, cells_agg, setc_agg, o1.1]
      refine ⟨rfl, fun x hx => by rw [o1.1] at hx; simp [↓amR] at hx; subst hx; exact o1.2, by simp [↓amR], k - 1, by omega, i + 1, ?_, by omega, v', els ++ [.int .i32 (IntKind.i32.wrap z)], by simp [↓amR, hlen], ?_, ?_, ?_, by simp [↓amR], own_upd o' p3 _, fun x hx => ?_⟩
      · rw [wrap64 (by omega) (by omega)]; rfl
      · rw [upd_other _ _ n03]; exact p0
      · rw [upd_other _ _ n13]; exact p1
      · rw [upd_other _ _ n23]; exact p2
      · rcases List.mem_append.1 hx with hx | hx
        · exact hels x hx
        · simp [↓amR] at hx; exact ⟨_, hx⟩
  · obtain ⟨hB, eB⟩ : ∃ hB, hB = upd hA m3 (.box (.agg [.int .i64 b0, .nil])) := ⟨_, rfl⟩
    have el : ([D.int .i64 b0, D.nil] ++ List.drop [D.int .i64 b0, D.nil].length [D.int .i64 0, D.nil]) = [.int .i64 b0, .nil] := rfl
    rw [el]
    simp only [upd_upd]
    have g0 : hB m0 = .box (codeD t w n arr) := by rw [eB, upd_other _ _ n03, a0]
    have g1 : hB m1 = .box (rawD r zs) := by rw [eB, upd_other _ _ n13, a1]
    have g2 : hB m2 = .box (.agg [.int .i64 0, .nil]) := by rw [eB, upd_other _ _ n23, a2]
    have g3 : hB m3 = .box (.agg [.int .i64 b0, .nil]) := by rw [eB, upd_self]
    rw [← eB]
    simp only [g0, code_cells, List.getElem?_cons_zero, List.getElem?_cons_succ]
    simp [↓amR]
    refine ⟨fun _ => ?_, fun h => by omega⟩
    have et : ((4096 : Int).tdiv (t : Int)) = ((4096 / t : Nat) : Int) := tdivn 4096 t
    have hle : 4096 / t ≤ 4096 := Nat.div_le_self _ _
    rw [et, wrap64n (by omega)]
    refine ⟨by omega, (if (if ((4096 / t : Nat) : Int) < (b0 : Int) then ((4096 / t : Nat) : Int) else (b0 : Int)) < 1 then 1 else if ((4096 / t : Nat) : Int) < (b0 : Int) then ((4096 / t : Nat) : Int) else (b0 : Int)).toNat, ?_, ?_, ?_, ?_, ?_, ?_⟩
    · generalize 4096 / t = q at *; split <;> (try split) <;> omega
    · generalize 4096 / t = q at *; split <;> (try split) <;> omega
    · rw [upd_other _ _ n03, a0]
    · rw [upd_other _ _ n13, a1]
    · rw [upd_other _ _ n23, a2]
    · generalize 4096 / t = q at *; split <;> (try split) <;> omega
theorem c11 {t w n r : Nat} {zs : List Int} {arr : D} (ha : arr.vone = true ∧ arr.one = true) (ht : 1 ≤ t) (ht2 : t ≤ 4096) (hn : n ≤ 1000) (hr : r ≤ 255) (hz : zs.length = 12) :
    VCall Tryd.prog 11 [codeD t w n arr, rawD r zs] (fun x => ∃ (b : Nat) (l : D), x = launchD b l ∧ 1 ≤ b ∧ b ≤ 3 ∧ l.vone = true ∧ l.one = true) :=
  (c11s ha ht ht2 hn hr hz).mono fun _ ⟨b, l, h1, h2, h3, h4⟩ => ⟨b, l, h1, h2, h3, isArgs_vd h4⟩
end Go.Am
/- Code of chapter 04. No condition. -/
namespace Go.Am
open Go Go.Proofs

def shapeD (a b c : Nat) (xs : List Int) : D := .agg [.int .u8 a, .int .u8 b, .int .u8 c, .sl (xs.map (.int .u8))]
theorem shape_cells {a b c : Nat} {xs : List Int} : (shapeD a b c xs).cells = [.int .u8 a, .int .u8 b, .int .u8 c, .sl (xs.map (.int .u8))] := rfl
theorem shape_vd {a b c : Nat} {xs : List Int} : (shapeD a b c xs).vd = true ∧ AllOne (shapeD a b c xs) := ⟨rfl, fun x hx => by
  simp [↓amR, shapeD, D.cells] at hx
  rcases hx with rfl | rfl | rfl | rfl <;> rfl⟩

theorem h_sslc {P : Program} {s : ByteArray} {k k' : IntKind} {i j : Int} {h : Heap} {KH : D → Heap → Prop} : vhOp P (.sslc (.c (.str s)) (some (.c (.int k i))) (some (.c (.int k' j)))) h KH = (0 ≤ i ∧ i ≤ j ∧ j ≤ s.size ∧ KH (.str (s.extract i.toNat j.toNat)) h) := rfl

theorem vret_code {esz t w n : Nat} {v : D} {els : List D} {h : Heap} {K : D → Prop} (ho : Own esz h v els) (hv : ∀ x, x ∈ els → ∀ y, y ∈ x.cells → y.vone = true) (hk : ∀ l, l.vone = true → l.one = true → K (codeD t w n l)) : vret K (codeD t w n v) h := by
  rcases ho with ⟨rfl, -⟩ | ⟨m, rfl, hm⟩
  · exact vret_vd (code_vd ⟨rfl, rfl⟩) (hk _ rfl rfl)
  · have hrow : (h m).row = some (esz, els) := by rw [hm]; rfl
    refine ⟨fun y hy => ?_, fun y hy => ?_, ?_, ?_⟩
    · simp [↓amR, codeD, D.cells] at hy
      rcases hy with rfl | rfl | rfl | rfl | rfl | rfl <;> rfl
    · simp [↓amR, codeD, D.cells] at hy
      rcases hy with rfl | rfl | rfl | rfl | rfl | rfl
      · trivial
      · trivial
      · trivial
      · trivial
      · exact ⟨esz, els, hrow, by simp [↓amR], fun x hx y hy => hv x (by simpa using hx) y hy⟩
      · trivial
    · simp [↓amR, codeD, D.fzt, D.fz, D.fzc, hrow, D.vdt, D.vd, D.vone]
    · have := hk (.sl els) rfl rfl
      simpa [codeD, D.fzt, D.fz, D.fzc, hrow] using this

theorem vret_code2 {esz t w n : Nat} {v : D} {els : List D} {h : Heap} {K : D → Prop} (ho : Own esz h v els) (hv : ∀ x, x ∈ els → ∀ y, y ∈ x.cells → y.vone = true) (hk : ∀ l, (l = .nil ∧ els = [] ∨ l = .sl els) → K (codeD t w n l)) : vret K (codeD t w n v) h := by
  rcases ho with ⟨rfl, he⟩ | ⟨m, rfl, hm⟩
  · exact vret_vd (code_vd ⟨rfl, rfl⟩) (hk _ (Or.inl ⟨rfl, he⟩))
  · have hrow : (h m).row = some (esz, els) := by rw [hm]; rfl
    refine ⟨fun y hy => ?_, fun y hy => ?_, ?_, ?_⟩
    · simp [↓amR, codeD, D.cells] at hy
      rcases hy with rfl | rfl | rfl | rfl | rfl | rfl <;> rfl
    · simp [↓amR, codeD, D.cells] at hy
      rcases hy with rfl | rfl | rfl | rfl | rfl | rfl
      · trivial
      · trivial
      · trivial
      · trivial
      · exact ⟨esz, els, hrow, by simp [↓amR], fun x hx y hy => hv x (by simpa using hx) y hy⟩
      · trivial
    · simp [↓amR, codeD, D.fzt, D.fz, D.fzc, hrow, D.vdt, D.vd, D.vone]
    · have := hk (.sl els) (Or.inr rfl)
      simpa [codeD, D.fzt, D.fz, D.fzc, hrow] using this

/-- The arrays of a code. -/
def isArrs (aL : List Arr) (l : D) : Prop := (l = .nil ∧ aL = []) ∨ l = .sl (aL.map Arr.d)
theorem isArrs_vd {aL : List Arr} {l : D} (h : isArrs aL l) : l.vone = true ∧ l.one = true := by
  rcases h with ⟨rfl, -⟩ | rfl <;> exact ⟨rfl, rfl⟩
theorem arrs_vone (aL : List Arr) : ∀ x, x ∈ aL.map Arr.d → ∀ y, y ∈ x.cells → y.vone = true := by
  intro x hx y hy
  simp only [List.mem_map] at hx
  obtain ⟨a, -, rfl⟩ := hx
  rw [Arr.cells] at hy
  simp only [List.mem_cons, List.not_mem_nil, or_false] at hy
  rcases hy with rfl | rfl | rfl | rfl <;> rfl
theorem c10t {a b c : Nat} {xs : List Int} (hb255 : b ≤ 255) (hx : xs.length ≤ 9223372036854775807) :
    VCall Tryd.prog 10 [shapeD a b c xs] (fun x => ∃ (t w n : Nat) (arr : D), x = codeD t w n arr ∧ 1 ≤ w ∧ w ≤ 32 ∧ 1 ≤ t ∧ t ≤ 64 ∧ n ≤ 3 ∧ (w = 1 ∨ w = 2 ∨ w = 4 ∨ w = 8 ∨ w = 16 ∨ w = 32) ∧ t % w = 0 ∧ ∃ aL : List Arr, isArrs aL arr ∧ aL.length ≤ 8 ∧ ((∀ x, x ∈ xs → 0 ≤ x ∧ x ≤ 255) → ∀ a, a ∈ aL → 0 ≤ a.ln ∧ a.ln ≤ 15)) := by
  refine vcall_V F10_ok (cDr_ok _ _ _) rfl (V10_ok _ _) ?_
  unfold V10
  rw [g_box]
  refine ⟨shape_vd.2, fun m0 t0 => ?_⟩
  rw [g_alloc]
  intro m1 t1
  have n01 : m0 ≠ m1 := t1.ne (by simp [↓amR])
  obtain ⟨hA, eA⟩ : ∃ hA, hA = upd (upd noHeap m0 (.box (shapeD a b c xs))) m1 (.box (.agg [.int .i64 0, .int .i64 0, .int .i64 0, .int .i64 0, .int .i64 0, .nil, .nil, .nil])) := ⟨_, rfl⟩
  rw [← eA]
  have a0 : hA m0 = .box (shapeD a b c xs) := by rw [eA, upd_other _ _ n01, upd_self]
  have a1 : hA m1 = .box (.agg [.int .i64 0, .int .i64 0, .int .i64 0, .int .i64 0, .int .i64 0, .nil, .nil, .nil]) := by rw [eA, upd_self]
  refine ⟨?_, ?_, ?_, ?_⟩
  · intro p hp
    simp [↓amR, Arg.get] at hp
    rcases hp with rfl | rfl | rfl | rfl | rfl | rfl <;> simp [↓amR]
  · intro p hp
    simp [↓amR, Arg.get] at hp
    rcases hp with rfl | rfl | rfl | rfl | rfl | rfl <;> simp [↓amR]
  · intro y hy; simp [↓amR] at hy; subst hy; rfl
  have hs : setEls (List.replicate 6 (D.int .i64 0)) ([(0, Arg.c (D.int .i64 1)), (1, Arg.c (D.int .i64 2)), (2, Arg.c (D.int .i64 4)), (3, Arg.c (D.int .i64 8)), (4, Arg.c (D.int .i64 16)), (5, Arg.c (D.int .i64 32))].map fun p => (p.1, p.2.get [])) = [1, 2, 4, 8, 16, 32].map (D.int .i64) := rfl
  rw [hs]
  have ea : ((a : Int).tmod 6) = ((a % 6 : Nat) : Int) := tmodn a 6
  have ec : ((c : Int).tmod 4) = ((c % 4 : Nat) : Int) := tmodn c 4
  simp only [↓d_faddp, ↓d_ld, ↓g_ld, a0, shape_cells, v_part1, Nat.zero_add, List.getElem?_cons_zero, List.getElem?_cons_succ, v_rem, ea, ec, ↓d_iadd, h_iaddm]
  obtain ⟨i, hi⟩ : ∃ i, i = a % 6 := ⟨_, rfl⟩
  obtain ⟨n, hn⟩ : ∃ n, n = c % 4 := ⟨_, rfl⟩
  rw [← hi, ← hn]
  have hn3 : n ≤ 9223372036854775807 := by omega
  simp [↓amR, wrap64n hn3]
  refine ⟨by omega, fun w0 hw => ?_⟩
  obtain ⟨w, rfl, hw1, hw2, hw3⟩ : ∃ w : Nat, w0 = (w : Int) ∧ 1 ≤ w ∧ w ≤ 32 ∧ (w = 1 ∨ w = 2 ∨ w = 4 ∨ w = 8 ∨ w = 16 ∨ w = 32) := by
    have : i = 0 ∨ i = 1 ∨ i = 2 ∨ i = 3 ∨ i = 4 ∨ i = 5 := by omega
    rcases this with rfl | rfl | rfl | rfl | rfl | rfl <;> (simp [↓amR] at hw; subst hw)
    · exact ⟨1, rfl, by omega, by omega, by omega⟩
    · exact ⟨2, rfl, by omega, by omega, by omega⟩
    · exact ⟨4, rfl, by omega, by omega, by omega⟩
    · exact ⟨8, rfl, by omega, by omega, by omega⟩
    · exact ⟨16, rfl, by omega, by omega, by omega⟩
    · exact ⟨32, rfl, by omega, by omega, by omega⟩
  have hf : fillD [D.int .i64 0, D.int .i64 0, D.int .i64 0, D.int .i64 0, D.int .i64 0, D.nil, D.nil, D.nil] [(1, 1, [D.int .i64 w]), (4, 1, [D.int .i64 n])] = [.int .i64 0, .int .i64 w, .int .i64 0, .int .i64 0, .int .i64 n, .nil, .nil, .nil] := rfl
  rw [hf]
  refine ⟨fun p hp => ?_, fun m2 t2 => ⟨rfl, fun x hx => ?_, ?_⟩⟩
  · simp only [List.mem_cons, List.not_mem_nil, or_false] at hp
    rcases hp with rfl | rfl <;> simp [↓amR]
  · simp only [List.mem_cons, List.not_mem_nil, or_false] at hx
    rcases hx with rfl | rfl | rfl | rfl | rfl | rfl | rfl | rfl <;> rfl
  have el : ([D.int .i64 0, D.int .i64 w, D.int .i64 0, D.int .i64 0, D.int .i64 n, D.nil, D.nil, D.nil] ++ List.drop [D.int .i64 0, D.int .i64 w, D.int .i64 0, D.int .i64 0, D.int .i64 n, D.nil, D.nil, D.nil].length [D.int .i64 0, D.int .i64 0, D.int .i64 0, D.int .i64 0, D.int .i64 0, D.nil, D.nil, D.nil]) = [D.int .i64 0, D.int .i64 w, D.int .i64 0, D.int .i64 0, D.int .i64 n, D.nil, D.nil, D.nil] := rfl
  rw [el]
  simp only [upd_upd]
  have n02 : m0 ≠ m2 := t2.ne (by rw [a0]; simp [↓amR])
  have n12 : m1 ≠ m2 := t2.ne (by rw [a1]; simp [↓amR])
  obtain ⟨hB, eB⟩ : ∃ hB, hB = upd hA m2 (.box (.agg [.int .i64 0, .int .i64 w, .int .i64 0, .int .i64 0, .int .i64 n, .nil, .nil, .nil])) := ⟨_, rfl⟩
  have g0 : hB m0 = .box (shapeD a b c xs) := by rw [eB, upd_other _ _ n02, a0]
  have g1 : hB m1 = .box (.agg [.int .i64 0, .int .i64 0, .int .i64 0, .int .i64 0, .int .i64 0, .nil, .nil, .nil]) := by rw [eB, upd_other _ _ n12, a1]
  have g2 : hB m2 = .box (.agg [.int .i64 0, .int .i64 w, .int .i64 0, .int .i64 0, .int .i64 n, .nil, .nil, .nil]) := by rw [eB, upd_self]
  rw [← eB]
  simp only [g0, shape_cells, List.getElem?_cons_zero, List.getElem?_cons_succ]
  have hq : 2 ≤ 64 / w := (Nat.le_div_iff_mul_le (by omega)).2 (by omega)
  have hq64 : 64 / w ≤ 64 := Nat.div_le_self _ _
  have hwq : w * (64 / w) ≤ 64 := Nat.mul_div_le 64 w
  have e64 : ((64 : Int).tdiv (w : Int)) = ((64 / w : Nat) : Int) := tdivn 64 w
  obtain ⟨q, hqe⟩ : ∃ q, q = 64 / w := ⟨_, rfl⟩
  rw [← hqe] at hq hq64 hwq e64
  have hr : b % q < q := Nat.mod_lt _ (by omega)
  obtain ⟨r, hre⟩ : ∃ r, r = b % q := ⟨_, rfl⟩
  rw [← hre] at hr
  have ht64 : w * (1 + r) ≤ 64 := Nat.le_trans (Nat.mul_le_mul_left w (by omega)) hwq
  have ht1 : 1 ≤ w * (1 + r) := Nat.mul_pos (by omega) (by omega)
  obtain ⟨t, hte⟩ : ∃ t, t = w * (1 + r) := ⟨_, rfl⟩
  have ht : (w : Int) * ((1 + r : Nat) : Int) = (t : Int) := by rw [hte, Int.natCast_mul]
  rw [← hte] at ht64 ht1
  have hmx : (if (1 : Int) < (q : Int) then (q : Int) else 1) = (q : Int) := if_pos (by omega)
  have e1r : (1 : Int) + (r : Int) = ((1 + r : Nat) : Int) := by omega
  refine ⟨⟨_, rfl⟩, ?_⟩
  rw [h_conv, v_quo, e64]
  refine ⟨by omega, ?_⟩
  rw [wrap64n (by omega), wrap64n (by omega), h_mx, hmx, v_rem, tmodn, ← hre]
  refine ⟨by omega, ?_⟩
  rw [v_add, e1r, wrap64n (by omega), v_mul, ht, wrap64n (by omega)]
  refine ⟨rfl, by simp [↓amR], by simp [↓amR], ?_⟩
  obtain ⟨hC, eC⟩ : ∃ hC, hC = upd hA m2 (.box (codeD t w n .nil)) := ⟨_, rfl⟩
  refine ⟨fun _ h' => ∃ v els, h' m1 = .box (.agg [.int .i64 0, .int .i64 0, .int .i64 0, .int .i64 0, .int .i64 0, .nil, .nil, .nil]) ∧ h' m2 = .box (codeD t w n v) ∧ Own 4 h' v els ∧ els.length ≤ 8 ∧ ∃ aL : List Arr, els = aL.map Arr.d ∧ ((∀ x, x ∈ xs → 0 ≤ x ∧ x ≤ 255) → ∀ a, a ∈ aL → 0 ≤ a.ln ∧ a.ln ≤ 15), ?_, ?_⟩
  · rintro _ h38 ⟨v, els, s1, s2, ho, hel8, aL, hels, hbd⟩
    have o1 := own_one ho
    simp only [s1, s2, code_cells, cells_agg, setc_agg]
    simp [↓amR, o1.2]
    subst hels
    exact vret_code2 (t := t) (w := w) (n := n) (own_upd ho s1 _) (arrs_vone aL) fun l hl => ⟨t, w, n, l, rfl, hw1, hw2, ht1, ht64, by omega, hw3, by rw [hte]; exact Nat.mul_mod_right _ _, aL, hl.imp (fun h => ⟨h.1, List.map_eq_nil_iff.1 h.2⟩) id, by simpa using hel8, hbd⟩
  · unfold V10_L0
    have elt : ((D.int .i64 (t : Int)).cells ++ List.drop (D.int .i64 (t : Int)).cells.length [D.int .i64 0, D.int .i64 w, D.int .i64 0, D.int .i64 0, D.int .i64 n, D.nil, D.nil, D.nil]) = [D.int .i64 t, D.int .i64 w, D.int .i64 0, D.int .i64 0, D.int .i64 n, D.nil, D.nil, D.nil] := rfl
    rw [elt]
    refine ⟨fun k l h' => ∃ (i : Nat) (v : D) (els : List D), l = [.int .i64 i] ∧ k + i = xs.length ∧ i ≤ 8 ∧ els.length = i ∧ h' m0 = .box (shapeD a b c xs) ∧ h' m1 = .box (.agg [.int .i64 0, .int .i64 0, .int .i64 0, .int .i64 0, .int .i64 0, .nil, .nil, .nil]) ∧ h' m2 = .box (codeD t w n v) ∧ Own 4 h' v els ∧ ∃ aL : List Arr, els = aL.map Arr.d ∧ ((∀ x, x ∈ xs → 0 ≤ x ∧ x ≤ 255) → ∀ a, a ∈ aL → 0 ≤ a.ln ∧ a.ln ≤ 15),
      xs.length, ⟨0, .nil, [], rfl, rfl, by omega, rfl, ?_, ?_, ?_, Or.inl ⟨rfl, rfl⟩, [], rfl, fun _ x hx => by cases hx⟩, ?_⟩
    · rw [upd_other _ _ n02, a0]
    · rw [upd_other _ _ n12, a1]
    · rw [upd_self]; rfl
    rintro k f h' ⟨i, v, els, hf4, hki, hi8, hlen, q0, q1, q2, ho, aL, hels, hbd⟩
    simp only [List.cons.injEq, and_true] at hf4
    rw [hf4]
    simp only [↓h_faddp, q0, Slot.live, true_and, ↓g_ld, shape_cells, v_part1, Nat.zero_add, List.getElem?_cons_zero, List.getElem?_cons_succ]
    by_cases h1 : xs.length ≤ i
    · have h1' : ¬ i < xs.length := by omega
      simp [↓amR, h1, h1']
      exact ⟨q1, v, q2, els, ho, by omega, aL, hels, hbd⟩
    by_cases h2 : 8 ≤ i
    · have h2' : ¬ ((i : Int) < 8) := by omega
      have h2'' : (8 : Int) ≤ (i : Int) := by omega
      have h1' : i < xs.length := by omega
      simp [↓amR, h1, h1', h2', h2'']
      exact ⟨q1, v, q2, els, ho, by omega, aL, hels, hbd⟩
    have h2' : (i : Int) < 8 := by omega
    have h1' : i < xs.length := by omega
    obtain ⟨x, hx0⟩ : ∃ x, xs[i]? = some x := ⟨_, List.getElem?_eq_getElem h1'⟩
    simp [↓amR, h1, h1', h2', q0, shape_cells]
    have hw : IntKind.i64.wrap ((i : Int) + 1) = ((i + 1 : Nat) : Int) := by rw [wrap64 (by omega) (by omega)]; rfl
    have hsz : (ByteArray.mk #[48, 49, 50, 51, 52, 53, 54, 55]).size = 8 := rfl
    simp only [q2, code_cells, List.getElem?_cons_zero, List.getElem?_cons_succ, h_sslc, hw, hsz]
    refine ⟨⟨_, rfl⟩, by omega, by omega, by omega, ?_⟩
    obtain ⟨nm, hnm⟩ : ∃ nm, nm = (ByteArray.mk #[48, 49, 50, 51, 52, 53, 54, 55]).extract ((i : Int)).toNat (((i + 1 : Nat) : Int)).toNat := ⟨_, rfl⟩
    rw [← hnm]
    obtain ⟨z1, hz1⟩ : ∃ z1, z1 = IntKind.i64.wrap (1 + (IntKind.i64.wrap xs[i]).tmod 3) := ⟨_, rfl⟩
    obtain ⟨z2, hz2⟩ : ∃ z2, z2 = IntKind.i64.wrap ((IntKind.i64.wrap xs[i]).tdiv 16) := ⟨_, rfl⟩
    rw [← hz1, ← hz2]
    simp only [vbin]
    have hnmsz : nm.size ≤ 8 := by rw [hnm, ByteArray.size_extract]; simp [↓amR]; omega
    obtain ⟨ds, hds⟩ : ∃ ds, ds = [D.str (ByteArray.mk #[97] ++ nm), .int .i64 z1, .int .i64 1, .int .i64 z2] := ⟨_, rfl⟩
    have hfd : fillD [D.str (ByteArray.mk #[]), D.int .i64 0, D.int .i64 0, D.int .i64 0] [(0, 1, (D.str (ByteArray.mk #[97] ++ nm)).cells), (1, 1, [D.int .i64 z1]), (2, 1, [D.int .i64 1]), (3, 1, [D.int .i64 z2])] = ds := by rw [hds]; rfl
    rw [hfd]
    have hds1 : ∀ y, y ∈ ds → y.vone = true ∧ y.one = true := by
      intro y hy
      rw [hds] at hy
      simp only [List.mem_cons, List.not_mem_nil, or_false] at hy
      rcases hy with rfl | rfl | rfl | rfl <;> exact ⟨rfl, rfl⟩
    have h97 : (ByteArray.mk #[97]).size = 1 := rfl
    refine ⟨by rw [h97]; omega, fun p hp => ?_, d_bld1 (fun y hy => (hds1 y hy).2) (by rw [hds]; rfl) (fun y hy => (hds1 y hy).1) (fun y hy => ?_) ⟨⟨_, rfl⟩, ?_⟩⟩
    · simp only [List.mem_cons, List.not_mem_nil, or_false] at hp
      rcases hp with rfl | rfl | rfl | rfl <;> simp [↓amR, D.cells]
    · simp [↓amR, D.cells] at hy
      rcases hy with rfl | rfl <;> rfl
    refine g_appsl1 ho (fun y hy => (hds1 y hy).2) (by rw [hds]; rfl) (by omega) (by omega) fun v' h2' o' kb => ?_
    have p0 : h2' m0 = .box (shapeD a b c xs) := by rw [kb m0 (by rw [q0]; simp [↓amR]) (own_box ho q0), q0]
    have p1 : h2' m1 = .box (.agg [.int .i64 0, .int .i64 0, .int .i64 0, .int .i64 0, .int .i64 0, .nil, .nil, .nil]) := by rw [kb m1 (by rw [q1]; simp [↓amR]) (own_box ho q1), q1]
    have p2 : h2' m2 = .box (codeD t w n v) := by rw [kb m2 (by rw [q2]; simp [↓amR]) (own_box ho q2), q2]
    have o1 := own_one o'
    have hset : setCells (codeD t w n v) 5 [v'] = codeD t w n v' := rfl
    simp only [p2, code_cells, o1.1, hset]
    refine ⟨rfl, fun x hx => by rw [o1.1] at hx; simp [↓amR] at hx; subst hx; exact o1.2, by simp [↓amR], k - 1, by omega, i + 1, rfl, by omega, by omega, v', els ++ [.agg ds], by simp [↓amR, hlen], ?_, ?_, rfl, own_upd o' p2 _, aL ++ [⟨ByteArray.mk #[97] ++ nm, z1, 1, z2⟩], ?_, fun hb a ha => ?_⟩
    · rw [upd_other _ _ n02]; exact p0
    · rw [upd_other _ _ n12]; exact p1
    · rw [List.map_append, hels, hds]; rfl
    · rcases List.mem_append.1 ha with ha | ha
      · exact hbd hb a ha
      · simp only [List.mem_singleton] at ha
        subst ha
        show 0 ≤ z2 ∧ z2 ≤ 15
        have hxi : xs[i] ∈ xs := List.getElem_mem _
        have hb2 := hb _ hxi
        obtain ⟨u, hu⟩ : ∃ u : Nat, xs[i] = (u : Int) := ⟨xs[i].toNat, by omega⟩
        have e1 : ((u : Int).tdiv 16) = ((u / 16 : Nat) : Int) := tdivn u 16
        rw [hz2, hu, wrap64n (by omega), e1, wrap64n (by omega)]
        omega
theorem c10s {a b c : Nat} {xs : List Int} (hb255 : b ≤ 255) (hx : xs.length ≤ 9223372036854775807) :
    VCall Tryd.prog 10 [shapeD a b c xs] (fun x => ∃ (t w n : Nat) (arr : D), x = codeD t w n arr ∧ 1 ≤ w ∧ w ≤ 32 ∧ 1 ≤ t ∧ t ≤ 64 ∧ n ≤ 3 ∧ (w = 1 ∨ w = 2 ∨ w = 4 ∨ w = 8 ∨ w = 16 ∨ w = 32) ∧ t % w = 0 ∧ arr.vone = true ∧ arr.one = true) :=
  (c10t hb255 hx).mono fun _ ⟨t, w, n, arr, h1, h2, h3, h4, h5, h6, h7, h8, _, h9, _⟩ => ⟨t, w, n, arr, h1, h2, h3, h4, h5, h6, h7, h8, isArrs_vd h9⟩
theorem c10 {a b c : Nat} {xs : List Int} (hb255 : b ≤ 255) (hx : xs.length ≤ 9223372036854775807) :
    VCall Tryd.prog 10 [shapeD a b c xs] (fun x => ∃ (t w n : Nat) (arr : D), x = codeD t w n arr ∧ 1 ≤ w ∧ w ≤ 32 ∧ 1 ≤ t ∧ t ≤ 64 ∧ n ≤ 3 ∧ arr.vone = true ∧ arr.one = true) :=
  (c10s hb255 hx).mono fun _ ⟨t, w, n, arr, h1, h2, h3, h4, h5, h6, _, _, h9⟩ => ⟨t, w, n, arr, h1, h2, h3, h4, h5, h6, h9⟩
end Go.Am
/- LaunchNumbers. No condition. -/
namespace Go.Am
open Go Go.Proofs

theorem c14k {t w n b g k : Nat} {arr l : D} (ha : arr.vone = true ∧ arr.one = true) (hl : l.vone = true ∧ l.one = true) (ht : 1 ≤ t) (ht2 : t ≤ 10000) (hw : 1 ≤ w) (hb : b ≤ 10000) (hg : g < b * t) (hk : 1 ≤ k) (hk7 : k ≤ 7) :
    VCall Tryd.prog 14 [codeD t w n arr, launchD b l, .agg [.int .i64 g, .int .i64 k]] (· = .agg [.int .i32 (idV t w b g k), .int .i64 0]) :=
  c14 rfl rfl rfl rfl (code_vd ha) (launch_vd hl) (c32 ha hl ht ht2 hw hb hg hk hk7)
theorem c14e {t w n b : Nat} {g k : Int} {arr l : D} (ha : arr.vone = true ∧ arr.one = true) (hl : l.vone = true ∧ l.one = true) (ht2 : t ≤ 10000) (hb : b ≤ 10000) (hg : g < 0 ∨ ((b * t : Nat) : Int) ≤ g) :
    VCall Tryd.prog 14 [codeD t w n arr, launchD b l, .agg [.int .i64 g, .int .i64 k]] (· = .agg [.int .i32 0, .int .i64 1]) :=
  c14 rfl rfl rfl rfl (code_vd ha) (launch_vd hl) (c32e ha hl ht2 hb hg)

set_option maxRecDepth 20000 in
theorem law4 {a b c r g : Nat} {xs : List Int} (hb255 : b ≤ 255) (hr : r ≤ 255) (hg255 : g ≤ 255) (hx : xs.length ≤ 9223372036854775807) :
    VCall Tryd.prog 4 [shapeD a b c xs, .int .u8 r, .int .u8 g] (· = .bool true) := by
  refine vcall_V F4_ok (cDr_ok _ _ _) rfl (V4_ok _ _ _ _) ?_
  unfold V4
  rw [g_box]
  refine ⟨shape_vd.2, fun m0 t0 => ?_⟩
  refine a_call c9 (fun d hd => by cases hd) ?_
  rintro _ rfl
  rw [v_not, Bool.not_true, v_cond_f]
  simp only [↓g_ld, upd_self, shape_cells, v_parta]
  refine ⟨trivial, by simp [↓amR], ?_⟩
  refine a_call (c10 (a := a) (b := b) (c := c) (xs := xs) hb255 hx) (fun d hd => by simp only [List.mem_cons, List.not_mem_nil, or_false] at hd; subst hd; exact shape_vd) ?_
  rintro _ ⟨t, w, n, arr, rfl, hw1, hw2, ht1, ht2, hn, ha1, ha2⟩
  rw [g_alloc]
  intro m1 t1
  obtain ⟨hA, eA⟩ : ∃ hA, hA = upd (upd noHeap m0 (.box (shapeD a b c xs))) m1 (.box (codeD t w n arr)) := ⟨_, rfl⟩
  have n01 : m0 ≠ m1 := t1.ne (by simp [↓amR])
  rw [g_st]
  simp only [upd_self, upd_upd, code_cells]
  refine ⟨rfl, (code_vd ⟨ha1, ha2⟩).2, trivial, by simp [↓amR], ?_⟩
  have hset : setCells (D.agg [.int .i64 0, .int .i64 0, .int .i64 0, .int .i64 0, .int .i64 0, .nil, .nil, .nil]) 0 [D.int .i64 t, .int .i64 w, .int .i64 0, .int .i64 0, .int .i64 n, arr, .nil, .nil] = codeD t w n arr := rfl
  rw [hset, ← eA]
  have a1 : hA m1 = .box (codeD t w n arr) := by rw [eA, upd_self]
  rw [g_ld]
  simp only [a1, code_cells, v_parta]
  refine ⟨trivial, by simp [↓amR], ?_⟩
  rw [h_bld]
  refine ⟨fun p hp => ?_, ?_⟩
  · simp [↓amR, Arg.get] at hp; subst hp; simp [↓amR]
  refine a_call (c11 (t := t) (w := w) (n := n) (r := r) (zs := List.replicate 12 0) (arr := arr) ⟨ha1, ha2⟩ ht1 (by omega) (by omega) hr rfl) (fun d hd => ?_) ?_
  · simp only [List.mem_cons, List.not_mem_nil, or_false] at hd
    rcases hd with rfl | rfl
    · exact code_vd ⟨ha1, ha2⟩
    · exact ⟨rfl, raw_one (r := r) (zs := List.replicate 12 0)⟩
  rintro _ ⟨bl, l, rfl, hb1, hb3, hl1, hl2⟩
  rw [g_alloc]
  intro m2 t2
  have n12 : m1 ≠ m2 := t2.ne (by rw [a1]; simp [↓amR])
  rw [g_st]
  simp only [upd_self, upd_upd, launch_cells]
  refine ⟨rfl, (launch_vd ⟨hl1, hl2⟩).2, trivial, by simp [↓amR], ?_⟩
  have hset2 : setCells (D.agg [.int .i64 0, .nil]) 0 [D.int .i64 bl, l] = launchD bl l := rfl
  rw [hset2]
  obtain ⟨hB, eB⟩ : ∃ hB, hB = upd hA m2 (.box (launchD bl l)) := ⟨_, rfl⟩
  rw [← eB]
  have b1 : hB m1 = .box (codeD t w n arr) := by rw [eB, upd_other _ _ n12, a1]
  have b2 : hB m2 = .box (launchD bl l) := by rw [eB, upd_self]
  have hbt : bl * t ≤ 10000 := Nat.le_trans (Nat.mul_le_mul hb3 ht2) (by decide)
  have hbt1 : 1 ≤ bl * t := Nat.mul_pos (by omega) (by omega)
  have hmul : (bl : Int) * (t : Int) = ((bl * t : Nat) : Int) := by rw [Int.natCast_mul]
  obtain ⟨tot, htot⟩ : ∃ tot, tot = bl * t := ⟨_, rfl⟩
  simp only [↓h_faddp, b1, b2, Slot.live, true_and, ↓g_ld, launch_cells, code_cells, v_part1, Nat.zero_add, List.getElem?_cons_zero, v_mul, hmul, ← htot, h_conv]
  rw [wrap64n (by omega), wrap64n (by omega), v_rem, tmodn]
  refine ⟨by omega, ?_⟩
  have hGlt : g % tot < tot := Nat.mod_lt _ (by omega)
  obtain ⟨G, hG⟩ : ∃ G, G = g % tot := ⟨_, rfl⟩
  rw [← hG] at hGlt ⊢
  refine g_bld0 fun m3 t3 => ?_
  obtain ⟨vals, hvals⟩ : ∃ vals, vals = fun j : Nat => (List.range j).map fun i => D.int .i64 (idV t w bl G (i + 1) : Nat) := ⟨_, rfl⟩
  have lvals : ∀ j, (vals j).length = j := fun j => by rw [hvals]; simp [↓amR]
  refine ⟨fun ls h' => ∃ v, ls = [v] ∧ Own 1 h' v (vals 7) ∧ h' m1 = .box (codeD t w n arr) ∧ h' m2 = .box (launchD bl l), ?_, ?_⟩
  · rintro f h' ⟨v, hf, ho, q1, q2⟩
    simp only [List.cons.injEq, and_true] at hf
    rw [hf]
    simp only [q1, code_cells, v_parta]
    refine ⟨by simp [↓amR], ?_⟩
    refine a_call (c16 (t := t) (w := w) (n := n) (g := G) (arr := arr) ⟨ha1, ha2⟩ ht1 (by omega)) (fun d hd => ?_) ?_
    · simp only [List.mem_cons, List.not_mem_nil, or_false] at hd
      rcases hd with rfl | rfl
      · exact code_vd ⟨ha1, ha2⟩
      · exact ⟨rfl, by simp [↓amR]⟩
    rintro _ rfl
    have hv7 : vals 7 = [.int .i64 (G : Nat), .int .i64 (G % t : Nat), .int .i64 (G / t : Nat), .int .i64 (bl * t : Nat), .int .i64 (t : Nat), .int .i64 (G % t % w : Nat), .int .i64 (G % t / w : Nat)] := by
      rw [hvals]; rfl
    rcases ho with ⟨-, ho⟩ | ⟨q, rfl, hq⟩
    · rw [hv7] at ho; cases ho
    rw [lvals]
    rw [hv7] at hq
    have fP : G % t < t := Nat.mod_lt G ht1
    have fQ : G / t * t + G % t = G := by rw [Nat.mul_comm]; exact Nat.div_add_mod G t
    have fQb : G / t < bl := by rw [Nat.div_lt_iff_lt_mul ht1]; omega
    generalize G % t = P at *
    generalize G / t = Q at *
    have fL6 : P % w < w := Nat.mod_lt P hw1
    have fL : P / w * w + P % w = P := by rw [Nat.mul_comm]; exact Nat.div_add_mod P w
    generalize P % w = L6 at *
    generalize P / w = L7 at *
    rw [← htot] at hq
    have hwA : IntKind.i64.wrap ((Q : Int) * (t : Int)) = ((Q * t : Nat) : Int) := by rw [← Int.natCast_mul, wrap64n (by omega)]
    have hwC : IntKind.i64.wrap ((L7 : Int) * (w : Int)) = ((L7 * w : Nat) : Int) := by rw [← Int.natCast_mul, wrap64n (by omega)]
    generalize Q * t = A at *
    generalize L7 * w = C at *
    have hwB : IntKind.i64.wrap ((A : Int) + (P : Int)) = (G : Int) := by rw [← Int.natCast_add, fQ, wrap64n (by omega)]
    have hwD : IntKind.i64.wrap ((C : Int) + (L6 : Int)) = (P : Int) := by rw [← Int.natCast_add, fL, wrap64n (by omega)]
    simp only [h_ext, List.getElem?_cons_zero, List.getElem?_cons_succ]
    have nP : ¬ t ≤ P := by omega
    have nL : ¬ w ≤ L6 := by omega
    have nQ : ¬ bl ≤ Q := by omega
    simp [↓amR, hq, q1, q2, code_cells, launch_cells, hwA, hwB, hwC, hwD, Slot.row, fP, fL6, fQb, nP, nL, nQ]
    have hfok : ∀ x y : Int, fillOkV 2 [(0, 1, D.int .i64 x), (1, 1, D.int .i64 y)] := fun x y p hp => by
      simp only [List.mem_cons, List.not_mem_nil, or_false] at hp
      rcases hp with rfl | rfl <;> simp [↓amR]
    have hargs : ∀ (x : Int) (d : D), d ∈ [codeD t w n arr, launchD bl l, .agg [.int .i64 x, .int .i64 1]] → d.vd = true ∧ AllOne d := by
      intro x d hd
      simp only [List.mem_cons, List.not_mem_nil, or_false] at hd
      rcases hd with rfl | rfl | rfl
      · exact code_vd ⟨ha1, ha2⟩
      · exact launch_vd ⟨hl1, hl2⟩
      · refine ⟨rfl, fun x hx => ?_⟩
        simp [↓amR, D.cells] at hx
        rcases hx with rfl | rfl <;> rfl
    refine ⟨hfok _ _, ?_⟩
    refine d_call (c14e (t := t) (w := w) (n := n) (b := bl) (g := (tot : Int)) (k := 1) (arr := arr) (l := l) ⟨ha1, ha2⟩ ⟨hl1, hl2⟩ (by omega) (by omega) (Or.inr (by omega))) (hargs _) ?_
    simp [↓amR]
    refine ⟨hfok _ _, ?_⟩
    refine d_call (c14e (t := t) (w := w) (n := n) (b := bl) (g := -1) (k := 1) (arr := arr) (l := l) ⟨ha1, ha2⟩ ⟨hl1, hl2⟩ (by omega) (by omega) (Or.inl (by omega))) (hargs _) ?_
    simp [↓amR]
  · unfold V4_L0
    refine ⟨fun k ls h' => ∃ (i : Nat) (v : D), ls = [v, .int .i64 (i + 1 : Nat)] ∧ k + i = 7 ∧ Own 1 h' v (vals i) ∧ h' m1 = .box (codeD t w n arr) ∧ h' m2 = .box (launchD bl l), 7, ⟨0, .ms m3 0 0, rfl, rfl, Or.inr ⟨m3, by rw [lvals], by rw [upd_self, hvals]; rfl⟩, ?_, ?_⟩, ?_⟩
    · rw [upd_other _ _ (t3.ne (by rw [b1]; simp [↓amR])), b1]
    · rw [upd_other _ _ (t3.ne (by rw [b2]; simp [↓amR])), b2]
    rintro k f h' ⟨i, v, hf, hki, ho, q1, q2⟩
    simp only [List.cons.injEq, and_true] at hf
    obtain ⟨hf1, hf2⟩ := hf
    rw [hf1, hf2, v_leq, v_cond]
    refine ⟨fun hi => ?_, fun hi => ⟨rfl, v, rfl, ?_, q1, q2⟩⟩
    · have hi6 : i ≤ 6 := by omega
      rw [g_ld]
      simp only [q1, code_cells, v_parta]
      refine ⟨trivial, by simp [↓amR], ?_⟩
      rw [g_ld]
      simp only [q2, launch_cells, v_parta]
      refine ⟨trivial, by simp [↓amR], ?_⟩
      rw [h_bld]
      refine ⟨fun p hp => ?_, ?_⟩
      · simp [↓amR, Arg.get] at hp; rcases hp with rfl | rfl <;> simp [↓amR]
      refine a_call (c14k (t := t) (w := w) (n := n) (b := bl) (g := G) (k := i + 1) (arr := arr) (l := l) ⟨ha1, ha2⟩ ⟨hl1, hl2⟩ ht1 (by omega) hw1 (by omega) (by omega) (by omega) (by omega)) (fun d hd => ?_) ?_
      · simp only [List.mem_cons, List.not_mem_nil, or_false] at hd
        rcases hd with rfl | rfl | hd
        · exact code_vd ⟨ha1, ha2⟩
        · exact launch_vd ⟨hl1, hl2⟩
        · have hd' : d = .agg [.int .i64 (G : Nat), .int .i64 (i + 1 : Nat)] := hd
          subst hd'
          refine ⟨rfl, fun x hx => ?_⟩
          simp [↓amR, D.cells] at hx
          rcases hx with rfl | rfl <;> rfl
      rintro _ rfl
      rw [g_alloc]
      intro m4 t4
      rw [g_st]
      simp only [upd_self, upd_upd]
      refine ⟨rfl, fun x hx => ?_, trivial, by simp [↓amR], ?_⟩
      · simp [↓amR, D.cells] at hx
        rcases hx with rfl | rfl <;> rfl
      have hset3 : setCells (D.agg [.int .i32 0, .int .i64 0]) 0 (D.agg [D.int .i32 (idV t w bl G (i + 1) : Nat), .int .i64 0]).cells = .agg [D.int .i32 (idV t w bl G (i + 1) : Nat), .int .i64 0] := rfl
      rw [hset3]
      obtain ⟨hC, eC⟩ : ∃ hC, hC = upd h' m4 (.box (.agg [D.int .i32 (idV t w bl G (i + 1) : Nat), .int .i64 0])) := ⟨_, rfl⟩
      rw [← eC]
      have c4 : hC m4 = .box (.agg [D.int .i32 (idV t w bl G (i + 1) : Nat), .int .i64 0]) := by rw [eC, upd_self]
      have c1 : hC m1 = .box (codeD t w n arr) := by rw [eC, upd_other _ _ (t4.ne (by rw [q1]; simp [↓amR])), q1]
      have c2 : hC m2 = .box (launchD bl l) := by rw [eC, upd_other _ _ (t4.ne (by rw [q2]; simp [↓amR])), q2]
      have oC : Own 1 hC v (vals i) := by
        rcases ho with ho | ⟨q, hq, hq2⟩
        · exact Or.inl ho
        · exact Or.inr ⟨q, hq, by rw [eC, upd_other _ _ (t4.ne (by rw [hq2]; simp [↓amR]))]; exact hq2⟩
      have hidv : idV t w bl G (i + 1) ≤ 10000 := by
        have h1 : G % t ≤ t := Nat.le_of_lt (Nat.mod_lt G ht1)
        have h2 : G / t ≤ G := Nat.div_le_self G t
        have h3 : G % t % w ≤ G % t := Nat.mod_le _ _
        have h4 : G % t / w ≤ G % t := Nat.div_le_self _ _
        unfold idV
        split <;> omega
      rw [h_faddp]
      refine ⟨by rw [c4]; rfl, ?_⟩
      rw [g_ld]
      simp only [c4, cells_agg, v_part1, Nat.zero_add, List.getElem?_cons_zero, List.getElem?_cons_succ, v_neq, v_condn]
      refine ⟨trivial, fun h => absurd trivial h, fun _ => ?_⟩
      rw [h_faddp]
      refine ⟨by rw [c4]; rfl, ?_⟩
      rw [g_ld]
      simp only [c4, cells_agg, v_part1, Nat.zero_add, List.getElem?_cons_zero, h_conv]
      refine ⟨trivial, ?_⟩
      rw [wrap64n (by omega)]
      refine g_append oC rfl (by simp [↓amR]) rfl (by rw [lvals]; omega) (by rw [lvals]; omega) fun v' h2 o' kb => ?_
      have hw2 : IntKind.i64.wrap (((i + 1 : Nat) : Int) + 1) = ((i + 1 + 1 : Nat) : Int) := by rw [wrap64 (by omega) (by omega)]; rfl
      rw [v_add, hw2]
      refine ⟨rfl, k - 1, by omega, i + 1, v', rfl, by omega, ?_, ?_, ?_⟩
      · have : vals (i + 1) = vals i ++ [D.int .i64 (idV t w bl G (i + 1) : Nat)] := by rw [hvals]; simp [↓amR, List.range_succ]
        rw [this]; exact o'
      · rw [kb m1 (by rw [c1]; simp [↓amR]) (own_box oC c1), c1]
      · rw [kb m2 (by rw [c2]; simp [↓amR]) (own_box oC c2), c2]
    · have : i = 7 := by omega
      rw [← this]; exact ho
end Go.Am
/- What the arguments of chapter 04 are. No condition. -/
namespace Go.Am
open Go Go.Proofs

theorem u5 : Tryd.prog.underlying 5 = some (.int .u8) := by kernel_rfl
theorem u22 : Tryd.prog.underlying 22 = some (.slice 5) := by kernel_rfl
theorem u24 : structL Tryd.prog 24 = some [(5, 0), (5, 1), (5, 2), (22, 3)] := by kernel_rfl
theorem cs5 : Tryd.prog.cellsOf 5 = 1 := by kernel_rfl
theorem cs22 : Tryd.prog.cellsOf 22 = 1 := by kernel_rfl
theorem cs24 : Tryd.prog.cellsOf 24 = 4 := by kernel_rfl
theorem u8min : IntKind.u8.min = 0 := rfl
theorem u8max : IntKind.u8.max = 255 := rfl
set_option maxRecDepth 100000 in
theorem is_u8 {m : Nat} {ds : List D} (h : HasTy Tryd.prog (m + 1) 5 ds) : ∃ n : Nat, ds = [.int .u8 n] ∧ n ≤ 255 := by
  obtain ⟨i, rfl, h1, h2⟩ := hasTy_int u5 h
  rw [u8min] at h1; rw [u8max] at h2
  exact ⟨i.toNat, by rw [Int.toNat_of_nonneg h1], by omega⟩
set_option maxRecDepth 100000 in
theorem is_shape {m : Nat} {cs : List D} (h : HasTy Tryd.prog (m + 3) 24 cs) : ∃ (a b c : Nat) (xs : List Int), mkElem Tryd.prog 24 cs = shapeD a b c xs ∧ a ≤ 255 ∧ b ≤ 255 ∧ c ≤ 255 ∧ xs.length ≤ 9223372036854775807 ∧ ∀ x, x ∈ xs → 0 ≤ x ∧ x ≤ 255 := by
  obtain ⟨h1, h2⟩ := hasTy_struct u24 h
  rw [cs24] at h1
  have q0 := h2 (5, 0) (by simp [↓amR])
  have q1 := h2 (5, 1) (by simp [↓amR])
  have q2 := h2 (5, 2) (by simp [↓amR])
  have q3 := h2 (22, 3) (by simp [↓amR])
  simp only [cs5, cs22] at q0 q1 q2 q3
  match cs, h1 with
  | [d0, d1, d2, d3], _ =>
    obtain ⟨a, ha, ha2⟩ := is_u8 q0
    obtain ⟨b, hb, hb2⟩ := is_u8 q1
    obtain ⟨c, hc, hc2⟩ := is_u8 q2
    obtain ⟨xs, hx, hx2, hx3⟩ := hasTy_ints u22 u5 q3
    simp [↓amR] at ha hb hc hx
    subst ha hb hc hx
    exact ⟨a, b, c, xs, mk_struct u24 _, ha2, hb2, hc2, hx2, hx3⟩

set_option maxRecDepth 100000 in
theorem law4H (xs : List D) (h : HasTys Tryd.prog 12 Tryd.f4.params.toList xs) : VCall Tryd.prog 4 xs (· = .bool true) := by
  have hp : Tryd.f4.params.toList = [24, 5, 5] := by kernel_rfl
  rw [hp] at h
  obtain ⟨c1, r1, rfl, h1, c2, r2, rfl, h2, c3, r3, rfl, h3, rfl⟩ := h
  obtain ⟨a, b, c, ys, e1, _, hb, _, hl, _⟩ := is_shape h1
  obtain ⟨r, rfl, hr⟩ := is_u8 h2
  obtain ⟨g, rfl, hg⟩ := is_u8 h3
  rw [e1, mk_int u5, mk_int u5]
  exact law4 hb hr hg hl
end Go.Am
/- LaunchPacks: the functions it calls. No condition. -/
namespace Go.Am
open Go Go.Proofs

theorem c36 (xs : List Int) (hl : xs.length ≤ 1000000) : VCall Tryd.prog 36 [li xs, li xs] (· = .bool true) := by
  refine vcall_V F36_ok (cDr_ok _ _ _) rfl (V36_ok _ _ _) ?_
  unfold V36
  rw [show li xs = .sl (xs.map (.int .i64)) from rfl]
  simp [↓amR]
  refine ⟨fun _ _ => True, ?_⟩
  unfold V36_L0
  refine ⟨fun k l _ => ∃ j : Nat, l = [.int .i64 j] ∧ k + j = xs.length, xs.length, ⟨0, rfl, by omega⟩, ?_⟩
  rintro k f h' ⟨j, hf, hkj⟩
  simp only [List.cons.injEq, and_true] at hf
  rw [hf]; simp [↓amR]
  intro hj
  refine ⟨hj, fun a ha => ⟨hj, fun b hb => ?_⟩⟩
  rw [ha] at hb; cases hb
  refine ⟨rfl, fun _ => ⟨k - 1, by omega, j + 1, ?_, by omega⟩⟩
  rw [wrap64 (by omega) (by omega)]; rfl

/-- A list of lists, nil where it is empty. -/
def wD (ws : List (List Int)) : D := if ws = [] then .nil else .sl (ws.map li)
theorem wD_vd (ws : List (List Int)) : (wD ws).vone = true ∧ (wD ws).one = true ∧ (wD ws).cells = [wD ws] := by
  unfold wD; split <;> exact ⟨rfl, rfl, rfl⟩
theorem wD_len {ws : List (List Int)} {h : Heap} {K : D → Prop} : vlen (wD ws) h K = K (.int .i64 ws.length) := by
  unfold wD; split
  · rename_i e; subst e; exact v_lennil
  · rw [v_len]; simp
theorem li_vdo (xs : List Int) : (li xs).vd = true ∧ AllOne (li xs) := ⟨rfl, fun x hx => by rw [cells_li] at hx; simp at hx; subst hx; rfl⟩
/-- What Pack answers, as one value. -/
def packA (ws : List (List Int)) (e : Int) : D := .agg [wD ws, .int .i64 e]
theorem packA_vd (ws : List (List Int)) (e : Int) : (packA ws e).vd = true ∧ AllOne (packA ws e) := by
  obtain ⟨h1, h2, -⟩ := wD_vd ws
  refine ⟨by unfold packA wD; split <;> rfl, fun x hx => ?_⟩
  simp [packA, D.cells] at hx
  rcases hx with rfl | rfl
  · exact h2
  · rfl

theorem c21 (ws : List (List Int)) (e : Int) (hl : ws.length ≤ 1000000) (hw : ∀ w, w ∈ ws → w.length ≤ 1000000) : VCall Tryd.prog 21 [packA ws e, packA ws e] (· = .bool true) := by
  refine vcall_V F21_ok (cDr_ok _ _ _) rfl (V21_ok _ _ _) ?_
  unfold V21
  rw [g_box]
  refine ⟨(packA_vd ws e).2, fun m0 t0 => ?_⟩
  rw [g_box]
  refine ⟨(packA_vd ws e).2, fun m1 t1 => ?_⟩
  have n01 : m0 ≠ m1 := t1.ne (by simp [↓amR])
  obtain ⟨hA, eA⟩ : ∃ hA, hA = upd (upd noHeap m0 (.box (packA ws e))) m1 (.box (packA ws e)) := ⟨_, rfl⟩
  rw [← eA]
  have a0 : hA m0 = .box (packA ws e) := by rw [eA, upd_other _ _ n01, upd_self]
  have a1 : hA m1 = .box (packA ws e) := by rw [eA, upd_self]
  have cp : (packA ws e).cells = [wD ws, .int .i64 e] := rfl
  simp [↓amR, a0, a1, cp, wD_len]
  refine ⟨fun _ _ => True, ?_⟩
  unfold V21_L0
  refine ⟨fun k l h' => ∃ j : Nat, l = [.int .i64 j] ∧ k + j = ws.length ∧ h' = hA, ws.length, ⟨0, rfl, by omega, rfl⟩, ?_⟩
  rintro k f h' ⟨j, hf, hkj, rfl⟩
  simp only [List.cons.injEq, and_true] at hf
  rw [hf]
  simp [↓amR, a0, a1, cp, wD_len]
  intro hj
  have hne : ws ≠ [] := by rintro rfl; simp at hj
  have hD : wD ws = .sl (ws.map li) := if_neg hne
  simp [↓amR, hD, hj]
  simp [↓amR, cells_li]
  refine d_call (c36 ws[j] (hw _ (List.getElem_mem hj))) (fun d hd => by simp [Arg.get] at hd; subst hd; exact li_vdo _) ?_
  simp [↓amR]
  exact ⟨k - 1, by omega, j + 1, by rw [wrap64 (by omega) (by omega)]; rfl, by omega⟩

/-- Pack fails. -/
def packBad (lanes : Int) (dead : Nat) : Prop := lanes < 1 ∨ 64 < lanes ∨ aliveOf lanes.toNat dead = 0
instance (lanes : Int) (dead : Nat) : Decidable (packBad lanes dead) := by unfold packBad; infer_instance
/-- The warps. -/
def packWs (items : List Int) (lanes : Int) (dead : Nat) : List (List Int) := packs lanes.toNat (aliveOf lanes.toNat dead) items (nWarps (lanesL (aliveOf lanes.toNat dead)).length items.length)
/-- What Pack answers. -/
def packD (items : List Int) (lanes : Int) (dead : Nat) : D := if packBad lanes dead then packA [] 1 else packA (packWs items lanes dead) 0
theorem lanes_pos {l dead : Nat} (hl : l ≤ 64) (h : aliveOf l dead ≠ 0) : 1 ≤ (lanesL (aliveOf l dead)).length := by
  rcases Nat.eq_zero_or_pos (lanesL (aliveOf l dead)).length with h0 | h0
  · exact absurd (bl_nil 64 0 _ (Nat.lt_of_lt_of_le (alive_lt hl) (Nat.pow_le_pow_right (by omega) hl)) (List.length_eq_zero_iff.1 h0)) h
  · exact h0
theorem packR_eq (items : List Int) (lanes : Int) (dead : Nat) : packR items lanes dead = if packBad lanes dead then .tup [wD [], .int .i64 1] else .tup [wD (packWs items lanes dead), .int .i64 0] := by
  unfold packR
  by_cases h1 : lanes < 1 ∨ 64 < lanes
  · rw [if_pos h1, if_pos (show packBad lanes dead by unfold packBad; omega)]; rfl
  · rw [if_neg h1]
    by_cases h2 : aliveOf lanes.toNat dead = 0
    · rw [if_pos h2, if_pos (show packBad lanes dead by unfold packBad; omega)]; rfl
    · rw [if_neg h2, if_neg (show ¬ packBad lanes dead by unfold packBad; omega)]
      have hp := lanes_pos (dead := dead) (l := lanes.toNat) (by omega) h2
      unfold packWs
      generalize (lanesL (aliveOf lanes.toNat dead)).length = L at *
      by_cases hi : items = []
      · subst hi
        rw [if_pos rfl]
        have : nWarps L ([] : List Int).length = 0 := by
          unfold nWarps; simp; omega
        rw [this]; rfl
      · rw [if_neg hi]
        have : packs lanes.toNat (aliveOf lanes.toNat dead) items (nWarps L items.length) ≠ [] := by
          intro hn
          have hlen : (packs lanes.toNat (aliveOf lanes.toNat dead) items (nWarps L items.length)).length = 0 := by rw [hn]; rfl
          rw [packs_len] at hlen
          have hpos : 0 < items.length := List.length_pos_iff.2 hi
          unfold nWarps at hlen
          rw [Nat.div_eq_zero_iff] at hlen
          omega
        unfold wD
        rw [if_neg this]
theorem packD_vd (items : List Int) (lanes : Int) (dead : Nat) : (packD items lanes dead).vd = true ∧ AllOne (packD items lanes dead) := by
  unfold packD; split <;> exact packA_vd _ _

theorem c22 (items : List Int) (lanes : Int) (dead : Nat) (hd : dead < 18446744073709551616) (hlen : items.length ≤ 1000000) : VCall Tryd.prog 22 [li items, .int .i64 lanes, .int .u64 dead] (· = packD items lanes dead) := by
  refine vcall_V F22_ok (cDr_ok _ _ _) rfl (V22_ok _ _ _ _) ?_
  unfold V22
  rw [g_alloc]
  intro m0 t0
  refine a_call (c37 items lanes dead hd hlen) (fun d hd => ?_) ?_
  · simp at hd
    rcases hd with rfl | rfl | rfl
    · exact li_vdo _
    · exact ⟨rfl, by simp⟩
    · exact ⟨rfl, by simp⟩
  rintro r rfl
  obtain ⟨ws, e, h1, h2⟩ : ∃ ws e, packR items lanes dead = .tup [wD ws, .int .i64 e] ∧ packD items lanes dead = packA ws e := by
    rw [packR_eq]; unfold packD
    split <;> exact ⟨_, _, rfl, rfl⟩
  rw [h1, h2]
  simp [↓amR]
  obtain ⟨q1, q2, q3⟩ := wD_vd ws
  have hf : fillD [D.nil, D.int .i64 0] [(0, 1, (wD ws).cells), (1, 1, [D.int .i64 e])] = [wD ws, .int .i64 e] := by rw [q3]; rfl
  rw [hf]
  refine ⟨fun p hp => ?_, rfl, fun x hx => ?_, by simp, ?_⟩
  · simp only [List.mem_cons, List.not_mem_nil, or_false] at hp
    rcases hp with rfl | rfl
    · rw [q3]; simp [q2]
    · simp
  · simp only [List.mem_cons, List.not_mem_nil, or_false] at hx
    rcases hx with rfl | rfl
    · exact q2
    · rfl
  · exact vret_vd (packA_vd ws e) rfl

/-- The lanes alive, as the reference has them. -/
def lv (n dead : Nat) : List Nat := (List.range n).filter fun i => dead / 2 ^ i % 2 = 0
theorem lv_succ (n dead : Nat) : lv (n + 1) dead = lv n dead ++ if dead / 2 ^ n % 2 = 0 then [n] else [] := by
  unfold lv
  rw [List.range_succ, List.filter_append]
  congr 1
  by_cases h : dead / 2 ^ n % 2 = 0 <;> simp [h]
theorem lv_len (n dead : Nat) : (lv n dead).length ≤ n := by
  unfold lv
  exact Nat.le_trans (List.length_filter_le _ _) (by simp)
def nD (xs : List Nat) : List D := xs.map fun i : Nat => D.int .i64 i
theorem nD_len (xs : List Nat) : (nD xs).length = xs.length := by simp [nD]
theorem nD_one (xs : List Nat) : ∀ x, x ∈ nD xs → ∀ y, y ∈ x.cells → y.vone = true := by
  intro x hx y hy
  simp only [nD, List.mem_map] at hx
  obtain ⟨z, -, rfl⟩ := hx
  simp at hy; subst hy; rfl

theorem c38 (lanes : Int) (dead : Nat) (hd : dead < 18446744073709551616) : VCall Tryd.prog 38 [.int .i64 lanes, .int .u64 dead] (· = .sl (nD (lv (min lanes.toNat 64) dead))) := by
  refine vcall_V F38_ok (cDr_ok _ _ _) rfl (V38_ok _ _ _) ?_
  unfold V38
  refine g_bld0 fun n0 t0 => ?_
  refine ⟨fun l h' => ∃ n, l = [.ms n 0 (lv (min lanes.toNat 64) dead).length] ∧ h' n = .arr 1 (nD (lv (min lanes.toNat 64) dead)), ?_, ?_⟩
  · rintro f h' ⟨n, hf, hn⟩
    simp only [List.cons.injEq, and_true] at hf
    rw [hf, ← nD_len]
    exact vret_ms (esz := 1) (by rw [hn]; rfl) (nD_one _) rfl
  unfold V38_L0
  refine ⟨fun k l h' => ∃ j n : Nat, l = [.ms n 0 (lv j dead).length, .int .i64 j] ∧ k + j = 64 ∧ j ≤ min lanes.toNat 64 ∧ h' n = .arr 1 (nD (lv j dead)), 64, ⟨0, n0, rfl, rfl, by omega, by rw [upd_self]; rfl⟩, ?_⟩
  rintro k f h' ⟨j, n, hf, hkj, hj, hn⟩
  simp only [List.cons.injEq, and_true] at hf
  obtain ⟨hf1, hf2⟩ := hf
  rw [hf1, hf2]
  by_cases hin : j < min lanes.toNat 64
  · have h1 : (j : Int) < lanes := by omega
    have h1' : ¬ lanes ≤ (j : Int) := by omega
    have h2 : (j : Int) < 64 := by omega
    have w1 : IntKind.i64.wrap ((j : Int) + 1) = ((j + 1 : Nat) : Int) := by rw [wrap64 (by omega) (by omega)]; rfl
    have w2 : IntKind.u64.wrap (j : Int) = ((j : Nat) : Int) := by rw [wrapu, Nat.mod_eq_of_lt (by omega)]
    have w3 : ibits .and .u64 (ishr .u64 (dead : Int) (j : Int)) 1 = ((dead / 2 ^ j % 2 : Nat) : Int) := by
      rw [ishr64 _ _ (by omega)]
      rw [show (1 : Int) = ((1 : Nat) : Int) from rfl, iand64 _ _ (Nat.lt_of_le_of_lt (Nat.div_le_self _ _) hd) (by omega), Nat.and_one_is_mod]
    simp only [↓v_lss, h1, decide_true, ↓v_guard, ne_eq, not_true_eq_false, false_implies, and_true, true_implies, ↓h_pick, if_true, h2, v_cond_t]
    refine ⟨fun l h' => ∃ n, l = [.ms n 0 (lv (j + 1) dead).length] ∧ h' n = .arr 1 (nD (lv (j + 1) dead)), ?_, ?_⟩
    · rintro f' h'' ⟨n', hf', hn'⟩
      simp only [List.cons.injEq, and_true] at hf'
      rw [hf']
      simp [↓amR]
      exact ⟨k - 1, by omega, j + 1, n', ⟨⟨rfl, rfl⟩, w1⟩, by omega, by omega, hn'⟩
    · simp only [↓h_conv, w2, ↓v_shr, ↓v_and, ↓v_eql, w3]
      refine ⟨by omega, ?_⟩
      rw [lv_succ]
      by_cases hb : dead / 2 ^ j % 2 = 0
      · simp only [hb, if_true]
        simp only [Int.ofNat_eq_natCast, Int.natCast_zero, decide_true, v_cond_t, keq_self, true_and]
        have ho : Own 1 h' (.ms n 0 (lv j dead).length) (nD (lv j dead)) := Or.inr ⟨n, by rw [nD_len], hn⟩
        have hl := lv_len j dead
        refine g_append ho rfl (by simp) rfl (by rw [nD_len]; omega) (by rw [nD_len]; omega) fun v h'' q1 _ => ?_
        have e : nD (lv j dead) ++ [.int .i64 j] = nD (lv j dead ++ [j]) := by simp [nD]
        rw [e] at q1
        rcases q1 with ⟨-, q⟩ | ⟨n', rfl, q⟩
        · simp [nD] at q
        · exact ⟨n', by rw [nD_len], q⟩
      · have hb' : ¬ (((dead / 2 ^ j % 2 : Nat) : Int) = 0) := by omega
        simp only [hb, hb', if_false, decide_false, v_cond_f, keq_self, true_and, List.append_nil]
        exact ⟨n, rfl, hn⟩
  · have hje : j = min lanes.toNat 64 := by omega
    rcases Int.lt_or_le (j : Int) lanes with h1 | h1
    · have h2 : ¬ (j : Int) < 64 := by omega
      simp only [↓v_lss, h1, decide_true, ↓v_guard, ne_eq, not_true_eq_false, false_implies, and_true, true_implies, ↓h_pick, if_true, h2, decide_false, v_cond_f, keq_self, true_and]
      exact ⟨n, by rw [hje], by rw [← hje]; exact hn⟩
    · have h2 : ¬ (j : Int) < lanes := by omega
      simp only [↓v_lss, h2, decide_false, ↓v_guard, ne_eq, Bool.false_eq_true, false_implies, true_and, not_false_eq_true, true_implies, ↓h_pick, if_false, v_cond_f, keq_self]
      exact ⟨n, by rw [hje], by rw [← hje]; exact hn⟩
end Go.Am
/- LaunchPacks: the lanes, and the reference's packing. No condition. -/
namespace Go.Am
open Go Go.Proofs

theorem bl_filter : ∀ k o x, bl k o x = ((List.range k).filter fun i => x / 2 ^ i % 2 = 1).map (o + ·)
  | 0, _, _ => rfl
  | k + 1, o, x => by
    have h := bl_filter k (o + 1) (x / 2)
    rw [List.range_succ_eq_map, List.filter_cons, List.filter_map]
    have e : ∀ i, x / 2 / 2 ^ i = x / 2 ^ (i + 1) := fun i => by rw [Nat.div_div_eq_div_mul, Nat.pow_succ, Nat.mul_comm]
    have h' : bl k (o + 1) (x / 2) = (((List.range k).filter ((fun i => decide (x / 2 ^ i % 2 = 1)) ∘ Nat.succ)).map Nat.succ).map (o + ·) := by
      rw [h, List.map_map]
      simp only [e, Function.comp_def]
      exact List.map_congr_left fun i _ => by omega
    simp only [bl, h', Nat.pow_zero, Nat.div_one]
    by_cases hx : x % 2 = 1 <;> simp [hx]
theorem alive_bit {l dead i : Nat} (hl : l ≤ 64) (hd : dead < 18446744073709551616) : (aliveOf l dead / 2 ^ i % 2 = 1) ↔ (i < l ∧ dead / 2 ^ i % 2 = 0) := by
  have e1 : aliveOf l dead = (2 ^ 64 - (dead + 1)) % 2 ^ l := by
    unfold aliveOf
    have : 18446744073709551616 = 2 ^ l * 2 ^ (64 - l) := by rw [← Nat.pow_add, Nat.add_sub_cancel' hl]
    rw [this, Nat.mul_mod_mul_right, Nat.mul_div_cancel _ (Nat.two_pow_pos _)]
    rw [show (18446744073709551615 - dead) = 2 ^ 64 - (dead + 1) by omega]
  have h1 := Nat.testBit_mod_two_pow (2 ^ 64 - (dead + 1)) l i
  rw [← e1, Nat.testBit_two_pow_sub_succ (n := 64) hd i, Nat.testBit_eq_decide_div_mod_eq, Nat.testBit_eq_decide_div_mod_eq] at h1
  have h2 : decide (aliveOf l dead / 2 ^ i % 2 = 1) = true ↔ (decide (i < l) && (decide (i < 64) && !decide (dead / 2 ^ i % 2 = 1))) = true := by rw [h1]
  simp only [decide_eq_true_eq, Bool.and_eq_true, Bool.not_eq_true', decide_eq_false_iff_not] at h2
  rw [h2]
  constructor
  · rintro ⟨a, b, c⟩; exact ⟨a, by omega⟩
  · rintro ⟨a, b⟩; exact ⟨a, by omega, by omega⟩
theorem lanes_lv {l dead : Nat} (hl : l ≤ 64) (hd : dead < 18446744073709551616) : lanesL (aliveOf l dead) = lv l dead := by
  unfold lanesL lv
  rw [bl_filter]
  simp only [alive_bit hl hd, Nat.zero_add, List.map_id']
  have : List.range 64 = List.range l ++ (List.range (64 - l)).map (l + ·) := by
    rw [← List.range_add, Nat.add_sub_cancel' hl]
  rw [this, List.filter_append]
  have h2 : ((List.range (64 - l)).map (l + ·)).filter (fun i => decide (i < l ∧ dead / 2 ^ i % 2 = 0)) = [] := by
    rw [List.filter_eq_nil_iff]
    intro a ha
    simp only [List.mem_map] at ha
    obtain ⟨b, -, rfl⟩ := ha
    simp; omega
  rw [h2, List.append_nil]
  refine List.filter_congr fun i hi => ?_
  have := List.mem_range.1 hi
  simp [this]

theorem g_appendms {P : Program} {h : Heap} {KH : D → Heap → Prop} {esz bytes m : Nat} {z z' d : D} {els : List D} (hm : h m = .arr esz els) (h1 : d.vd = true) (h2 : AllOne d) (h3 : d.cells.length = esz) (hb : (els.length + 1) * bytes ≤ 140737488355328) (hl : els.length + 1 ≤ 9223372036854775807)
    (hk : ∀ n h', h n = .free → h' n = .arr esz (els ++ [d]) → (∀ k, h k ≠ .free → k ≠ m → h' k = h k) → KH (.ms n 0 (els.length + 1)) h') : vhOp P (.bldS true esz 1 z [(0, .c d)]) h fun x h1 => vhOp P (.app (.c (.ms m 0 els.length)) (.c x) esz bytes z') h1 KH := by
  refine g_bld1 h1 h2 h3 fun n1 t1 => ?_
  have hne : m ≠ n1 := t1.ne (by rw [hm]; simp)
  have hx : ((upd h n1 (.arr esz [d])) n1).row = some (esz, [d]) := by rw [upd_self]; rfl
  refine ⟨[d], hx, by simp, ?_⟩
  simp only [List.drop_zero, List.take_succ_cons, List.take_zero]
  refine ⟨fun y hy => by simp at hy; subst hy; exact h2, ?_⟩
  refine ⟨els, by rw [upd_other _ _ hne]; exact hm, rfl, rfl, ⟨by simpa using hb, by simpa using hl⟩, fun n t => ?_⟩
  have hn := t.free
  have hnm : n ≠ n1 := by rintro rfl; rw [upd_self] at hn; cases hn
  rw [upd_other _ _ hnm] at hn
  have := hk n
  simp only [List.length_append, List.length_cons, List.length_nil, Nat.zero_add]
  refine this _ hn (upd_self _ _ _) fun k hk1 hk2 => ?_
  have e1 : k ≠ n := by rintro rfl; exact hk1 hn
  have e2 : k ≠ n1 := t1.ne hk1
  rw [upd_other _ _ e1, upd_other _ _ hk2, upd_other _ _ e2]

theorem fill23 {m38 m0 i : Nat} {dead l Lc : Nat} {items : List Int} {a6 : D} {w : Nat} {hS h57 : Heap} {f52 : Nat → D} {J : List D → Heap → Prop} (hl : l ≤ 64) (hw : hS w = .free) (hw' : h57 w = .arr 1 []) (hx : Ext hS h57)
    (hJ : ∀ n h', hS n = .free → h' n = .arr 1 (List.replicate l (.int .i64 (-1))) → Ext hS h' → J [.ms n 0 l] h') :
    V23_L1 (.ms w 0 0) h57 (.int .i64 l) (li items) (.ptr m0 0 0) a6 (.ptr m38 0 0) f52 J := by
  unfold V23_L1
  refine ⟨fun k x h' => ∃ j n : Nat, x = [.ms n 0 j, .int .i64 j] ∧ k + j = l ∧ hS n = .free ∧ h' n = .arr 1 (List.replicate j (.int .i64 (-1))) ∧ Ext hS h', l, ⟨0, w, rfl, by omega, hw, hw', hx⟩, ?_⟩
  rintro k f h' ⟨j, n, hf, hkj, q1, q2, q3⟩
  simp only [List.cons.injEq, and_true] at hf
  obtain ⟨hf1, hf2⟩ := hf
  rw [hf1, hf2]
  by_cases hj : j < l
  · have h1 : (j : Int) < (l : Int) := by omega
    have w1 : IntKind.i64.wrap ((j : Int) + 1) = ((j + 1 : Nat) : Int) := by rw [wrap64 (by omega) (by omega)]; rfl
    simp only [↓v_lss, h1, decide_true, v_cond_t, ↓v_add, w1, keq_self, true_and]
    have hlen : (List.replicate j (D.int .i64 (-1))).length = j := List.length_replicate
    have key := g_appendms (P := Tryd.prog) (bytes := 8) (z := .int .i64 0) (z' := .int .i64 0) (d := .int .i64 (-1)) (KH := fun a123 h124 => ∃ m, m < k ∧ (fun k x h' => ∃ j n : Nat, x = [.ms n 0 j, .int .i64 j] ∧ k + j = l ∧ hS n = .free ∧ h' n = .arr 1 (List.replicate j (.int .i64 (-1))) ∧ Ext hS h') m [a123, .int .i64 ((j + 1 : Nat) : Int)] h124) q2 rfl (by simp) rfl (by rw [hlen]; omega) (by rw [hlen]; omega) fun n' h'' r1 r2 r3 => ?_
    · rw [hlen] at key; exact key
    · rw [hlen]
      refine ⟨k - 1, by omega, j + 1, n', rfl, by omega, ?_, ?_, fun z hz => ?_⟩
      · by_cases e : hS n' = .free
        · exact e
        · have := q3 n' e; rw [r1] at this; exact absurd this.symm e
      · rw [r2, ← List.replicate_succ']
      · have e1 : z ≠ n := by rintro rfl; exact hz q1
        rw [r3 z (by rw [q3 z hz]; exact hz) e1, q3 z hz]
  · have h1 : ¬ (j : Int) < (l : Int) := by omega
    have hjl : j = l := by omega
    simp only [↓v_lss, h1, decide_false, v_cond_f, keq_self, true_and]
    rw [hjl]
    exact hJ n h' q1 (by rw [← hjl]; exact q2) q3

theorem chunk_get {items : List Int} {n i j : Nat} (hj : j < n) : (chunk items n i)[j]? = items[i * n + j]? := by
  unfold chunk
  rw [List.getElem?_take_of_lt hj, List.getElem?_drop]
theorem chunk_len (items : List Int) (n i : Nat) : (chunk items n i).length = min n (items.length - i * n) := by
  unfold chunk; simp

theorem put23 {m38 m0 i l n : Nat} {L : List Nat} {items : List Int} {h60 : Heap} {f52 f59 : Nat → D} {J : List D → Heap → Prop} (hlen : items.length ≤ 1000000) (hL : L.length ≤ 64) (hl : ∀ x, x ∈ L → x < l) (hl64 : l ≤ 64) (hi : i * L.length < items.length)
    (hf : f52 9 = .int .i64 ((i * L.length : Nat) : Int)) (hf2 : f59 10 = .ms n 0 l) (hn : h60 n = .arr 1 (List.replicate l (.int .i64 (-1))))
    (hJ : J [] (upd h60 n (.arr 1 ((warp l L (chunk items L.length i)).map (.int .i64))))) :
    V23_L0 h60 (.sl (nD L)) f52 (li items) f59 (.int .i64 l) (.ptr m0 0 0) (.ptr m38 0 0) J := by
  unfold V23_L0
  obtain ⟨W, eW⟩ : ∃ W, W = fun j : Nat => ((warp l L ((chunk items L.length i).take j)).map (D.int .i64)) := ⟨_, rfl⟩
  have lW : ∀ j, (W j).length = l := fun j => by rw [eW]; simp [warp_len]
  have hW0 : upd h60 n (.arr 1 (W 0)) = h60 := by
    funext k
    by_cases e : k = n
    · subst e; rw [upd_self, hn, eW]; simp [warp]
    · rw [upd_other _ _ e]
  have hc := chunk_len items L.length i
  refine ⟨fun k x h' => ∃ j : Nat, x = [.int .i64 j] ∧ k + j = (chunk items L.length i).length ∧ h' = upd h60 n (.arr 1 (W j)), (chunk items L.length i).length, ⟨0, rfl, by omega, hW0.symm⟩, ?_⟩
  rintro k f h' ⟨j, hfj, hkj, rfl⟩
  simp only [List.cons.injEq, and_true] at hfj
  rw [hfj, hf, hf2]
  have hlD : (nD L).length = L.length := nD_len L
  have hli : li items = .sl (items.map (.int .i64)) := rfl
  have w1 : IntKind.i64.wrap ((j : Int) + 1) = ((j + 1 : Nat) : Int) := by rw [wrap64 (by omega) (by omega)]; rfl
  obtain ⟨F, eF⟩ : ∃ F, F = i * L.length := ⟨_, rfl⟩
  rw [← eF] at hi hc ⊢
  have w2 : IntKind.i64.wrap ((F : Int) + (j : Int)) = ((F + j : Nat) : Int) := by rw [wrap64 (by omega) (by omega)]; rfl
  rw [hli]
  by_cases hin : j < (chunk items L.length i).length
  · have h1 : (j : Int) < (L.length : Int) := by omega
    have h2 : ((F + j : Nat) : Int) < (items.length : Int) := by omega
    simp only [↓v_len, hlD, ↓v_lss, h1, decide_true, ↓v_guard, ne_eq, not_true_eq_false, false_implies, and_true, true_implies, ↓h_pick, if_true, v_cond_t, ↓v_add, w1, w2, List.length_map, h2]
    obtain ⟨p, hp⟩ : ∃ p, L[j]? = some p := ⟨_, List.getElem?_eq_getElem (by omega)⟩
    obtain ⟨x, hx⟩ : ∃ x, (chunk items L.length i)[j]? = some x := ⟨_, List.getElem?_eq_getElem hin⟩
    have hx' : items[F + j]? = some x := by rw [← hx, chunk_get (by omega), eF]
    have hpl := hl p (List.mem_of_getElem? hp)
    simp only [nD]
    simp [↓amR, hp, hx']
    refine ⟨by omega, by omega, by omega, fun a ha => ?_⟩
    rw [show ((F : Int) + (j : Int)).toNat = F + j by omega, hx'] at ha
    cases ha
    refine ⟨hpl, ⟨_, rfl⟩, by rw [lW]; exact hpl, fun d hd => ?_⟩
    have hdi : ∃ z, d = .int .i64 z := by
      rw [eW] at hd
      simp only [List.getElem?_map, Option.map_eq_some_iff] at hd
      obtain ⟨z, -, rfl⟩ := hd
      exact ⟨z, rfl⟩
    obtain ⟨z, rfl⟩ := hdi
    refine ⟨k - 1, by omega, j + 1, rfl, by omega, ?_⟩
    rw [upd_upd]
    congr 2
    rw [eW]
    simp only [setc_int]
    rw [warp_step hp hx, List.map_set]
  · have hje : j = (chunk items L.length i).length := by omega
    have hfin : J [] (upd h60 n (.arr 1 (W j))) := by
      rw [hje, eW]
      simp only [List.take_length]
      exact hJ
    rcases Int.lt_or_le (j : Int) (L.length : Int) with h1 | h1
    · have h2 : ¬ ((F + j : Nat) : Int) < (items.length : Int) := by omega
      simp only [↓v_len, hlD, ↓v_lss, h1, decide_true, ↓v_guard, ne_eq, not_true_eq_false, false_implies, and_true, true_implies, ↓h_pick, if_true, ↓v_add, w2, List.length_map, h2, decide_false, v_cond_f, keq_self, true_and]
      exact hfin
    · have h2 : ¬ (j : Int) < (L.length : Int) := by omega
      simp only [↓v_len, hlD, ↓v_lss, h2, decide_false, ↓v_guard, ne_eq, Bool.false_eq_true, false_implies, true_and, not_false_eq_true, true_implies, ↓h_pick, if_false, v_cond_f, keq_self]
      exact hfin

theorem own_ext {esz : Nat} {h h' : Heap} {v : D} {els : List D} (ho : Own esz h v els) (hx : Ext h h') : Own esz h' v els := by
  rcases ho with ho | ⟨q, rfl, hq⟩
  · exact Or.inl ho
  · exact Or.inr ⟨q, rfl, by rw [hx q (by rw [hq]; simp), hq]⟩
theorem vret_aggown1 {esz : Nat} {k : IntKind} {n0 : Int} {v : D} {els : List D} {h : Heap} {K : D → Prop} (ho : Own esz h v els) (hv : ∀ x, x ∈ els → ∀ y, y ∈ x.cells → y.vone = true) (hnil : els = [] → v = .nil)
    (hk1 : els = [] → K (.agg [.nil, .int k n0])) (hk2 : els ≠ [] → K (.agg [.sl els, .int k n0])) : vret K (.agg [v, .int k n0]) h := by
  by_cases he : els = []
  · rw [hnil he]
    refine vret_vd ⟨rfl, fun y hy => ?_⟩ (hk1 he)
    simp [D.cells] at hy
    rcases hy with rfl | rfl <;> rfl
  rcases ho with ⟨-, h0⟩ | ⟨n, rfl, hn⟩
  · exact absurd h0 he
  · have hrow : (h n).row = some (esz, els) := by rw [hn]; rfl
    refine ⟨fun y hy => ?_, fun y hy => ?_, ?_, ?_⟩
    · simp [D.cells] at hy
      rcases hy with rfl | rfl <;> rfl
    · simp [D.cells] at hy
      rcases hy with rfl | rfl
      · exact ⟨esz, els, hrow, by simp, fun x hx y hy => hv x (by simpa using hx) y hy⟩
      · trivial
    · simp [D.fzt, D.fz, D.fzc, hrow, D.vdt, D.vd, D.vone]
    · have := hk2 he
      simpa [D.fzt, D.fz, D.fzc, hrow] using this
theorem li_one' (ws : List (List Int)) : ∀ x, x ∈ ws.map li → ∀ y, y ∈ x.cells → y.vone = true := by
  intro x hx y hy
  simp only [List.mem_map] at hx
  obtain ⟨z, -, rfl⟩ := hx
  rw [cells_li] at hy; simp at hy; subst hy; rfl

theorem c23 (items : List Int) (lanes : Int) (dead : Nat) (hd : dead < 18446744073709551616) (hlen : items.length ≤ 1000000) : VCall Tryd.prog 23 [li items, .int .i64 lanes, .int .u64 dead] (· = packD items lanes dead) := by
  refine vcall_V F23_ok (cDr_ok _ _ _) rfl (V23_ok _ _ _ _) ?_
  unfold V23
  rw [g_alloc]
  intro m0 t0
  refine a_call (c38 lanes dead hd) (fun d hd => ?_) ?_
  · simp at hd
    rcases hd with rfl | rfl <;> exact ⟨rfl, by simp⟩
  rintro r rfl
  obtain ⟨hA, eA⟩ : ∃ hA, hA = upd noHeap m0 (.box (.agg [.nil, .int .i64 0])) := ⟨_, rfl⟩
  rw [← eA]
  have a0 : hA m0 = .box (.agg [.nil, .int .i64 0]) := by rw [eA, upd_self]
  by_cases hbad : packBad lanes dead
  · have hD : packD items lanes dead = .agg [.nil, .int .i64 1] := if_pos hbad
    rw [hD]
    have hvd := packA_vd [] 1
    have hpA : packA [] 1 = .agg [.nil, .int .i64 1] := rfl
    rw [hpA] at hvd
    have tail : vhOp Tryd.prog (.bld [.nil, .int .i64 0] [(1, 1, .c (.int .i64 1))]) hA fun a31 h32 =>
        vhOp Tryd.prog (.st (.c (.ptr m0 0 0)) (.c a31) 2) h32 fun a33 h34 =>
        vhOp Tryd.prog (.ld (.c (.ptr m0 0 0)) 2 true) h34 fun a35 _ => vret (· = .agg [.nil, .int .i64 1]) a35 h34 := by
      have hf : fillD [D.nil, D.int .i64 0] [(1, 1, [D.int .i64 1])] = [.nil, .int .i64 1] := rfl
      simp [↓amR, a0, hf]
      refine ⟨fun p hp => ?_, vret_vd hvd rfl⟩
      simp only [List.mem_cons, List.not_mem_nil, or_false] at hp
      subst hp; simp
    by_cases h1 : lanes < 1
    · simp only [↓v_lss, h1, decide_true, ↓v_guard, ne_eq, Bool.true_eq_false, false_implies, true_and, not_false_eq_true, true_implies, ↓h_pick, if_true, v_cond_t]
      exact tail
    by_cases h2 : 64 < lanes
    · simp only [↓v_lss, ↓v_gtr, h1, h2, decide_true, decide_false, ↓v_guard, ne_eq, Bool.true_eq_false, not_true_eq_false, Bool.false_eq_true, and_true, false_implies, true_and, not_false_eq_true, true_implies, ↓h_pick, if_true, if_false, v_cond_t]
      exact tail
    · have h3 : aliveOf lanes.toNat dead = 0 := by unfold packBad at hbad; omega
      have h4 : lv (min lanes.toNat 64) dead = [] := by
        rw [Nat.min_eq_left (by omega), ← lanes_lv (by omega) hd, h3]
        exact bl_zero 64 0
      rw [h4]
      simp only [↓v_lss, ↓v_gtr, h1, h2, decide_true, decide_false, ↓v_guard, ne_eq, Bool.true_eq_false, not_true_eq_false, Bool.false_eq_true, and_true, false_implies, true_and, not_false_eq_true, true_implies, ↓h_pick, if_true, if_false, v_cond_t, ↓v_len, nD, List.map_nil, List.length_nil, ↓v_eql, Int.natCast_zero]
      exact tail
  · have h1 : ¬ lanes < 1 := by unfold packBad at hbad; omega
    have h2 : ¬ 64 < lanes := by unfold packBad at hbad; omega
    have h3 : aliveOf lanes.toNat dead ≠ 0 := by unfold packBad at hbad; omega
    have hD : packD items lanes dead = packA (packWs items lanes dead) 0 := if_neg hbad
    rw [hD]
    unfold packWs
    obtain ⟨l, rfl⟩ : ∃ l : Nat, lanes = l := ⟨lanes.toNat, by omega⟩
    rw [Int.toNat_natCast] at *
    have hl64 : l ≤ 64 := by omega
    have hpos := lanes_pos hl64 h3
    rw [Nat.min_eq_left hl64, ← lanes_lv hl64 hd]
    have hall : ∀ x, x ∈ lanesL (aliveOf l dead) → x < l := lanes_lt (alive_lt hl64)
    have hL64 : (lanesL (aliveOf l dead)).length ≤ 64 := by unfold lanesL; rw [bl_len]; exact pop_le 64 _
    generalize aliveOf l dead = alive at *
    have hlD := nD_len (lanesL alive)
    have hn0 : ¬ ((lanesL alive).length : Int) = 0 := by omega
    simp only [↓v_lss, ↓v_gtr, h1, h2, decide_true, decide_false, ↓v_guard, ne_eq, Bool.true_eq_false, not_true_eq_false, Bool.false_eq_true, and_true, false_implies, true_and, not_false_eq_true, true_implies, ↓h_pick, if_true, if_false, v_cond_f, ↓v_len, hlD, ↓v_eql, hn0]
    obtain ⟨L, eL⟩ : ∃ L, L = lanesL alive := ⟨_, rfl⟩
    rw [← eL] at hpos hall hL64 hlD hn0 ⊢
    have hps : ∀ k, packs l alive items (k + 1) = packs l alive items k ++ [warp l L (chunk items L.length k)] := fun k => by rw [packs_succ, ← eL]
    rw [h_bld]
    refine ⟨fun p hp => by simp at hp, ?_⟩
    have hfd : fillD [D.nil, D.int .i64 0] ([] : List (Nat × Nat × List D)) = [.nil, .int .i64 0] := rfl
    simp only [List.map_nil]
    rw [g_alloc]
    intro m1 t1
    have n01 : m0 ≠ m1 := t1.ne (by rw [a0]; simp)
    rw [g_st]
    simp only [upd_self, upd_upd]
    refine ⟨rfl, fun x hx => ?_, trivial, by simp, ?_⟩
    · have : x = .nil ∨ x = .int .i64 0 := by simpa [fillD] using hx
      rcases this with rfl | rfl <;> rfl
    have hset : setCells (D.agg [.nil, .int .i64 0]) 0 (D.agg (fillD [D.nil, D.int .i64 0] ([] : List (Nat × Nat × List D)))).cells = .agg [.nil, .int .i64 0] := rfl
    rw [hset]
    obtain ⟨hB, eB⟩ : ∃ hB, hB = upd hA m1 (.box (.agg [.nil, .int .i64 0])) := ⟨_, rfl⟩
    rw [← eB]
    have b0 : hB m0 = .box (.agg [.nil, .int .i64 0]) := by rw [eB, upd_other _ _ n01, a0]
    have b1 : hB m1 = .box (.agg [.nil, .int .i64 0]) := by rw [eB, upd_self]
    refine ⟨fun _ h' => ∃ v, h' m0 = .box (.agg [.nil, .int .i64 0]) ∧ h' m1 = .box (.agg [v, .int .i64 0]) ∧ Own 1 h' v ((packs l alive items (nWarps L.length items.length)).map li) ∧ (packs l alive items (nWarps L.length items.length) = [] → v = .nil), ?_, ?_⟩
    · rintro f h' ⟨v, c0, c1, ho, hnil⟩
      obtain ⟨o1, o2⟩ := own_one ho
      simp only [↓g_ld, c1, cells_agg, ↓v_parta]
      refine ⟨trivial, by simp, ?_⟩
      simp only [↓g_st, c0, cells_agg]
      refine ⟨rfl, fun x hx => ?_, trivial, by simp, ?_⟩
      · have : x = v ∨ x = .int .i64 0 := by simpa using hx
        rcases this with rfl | rfl
        · exact o2
        · rfl
      have hs2 : setCells (D.agg [.nil, .int .i64 0]) 0 (List.take 2 (List.drop 0 [v, D.int .i64 0])) = .agg [v, .int .i64 0] := rfl
      rw [hs2]
      simp only [upd_self, cells_agg]
      refine ⟨trivial, by simp, ?_⟩
      refine vret_aggown1 (own_upd ho c0 _) (li_one' _) (fun he => hnil (List.map_eq_nil_iff.1 he)) (fun he => ?_) (fun he => ?_)
      · unfold packA wD; rw [if_pos (List.map_eq_nil_iff.1 he)]
      · unfold packA wD; rw [if_neg (fun hc => he (by rw [hc]; rfl))]
    unfold V23_L2
    refine ⟨fun k x h' => ∃ (i : Nat) (v : D), x = [.int .i64 ((i * L.length : Nat) : Int)] ∧ k = items.length - i * L.length ∧ (i = 0 ∨ (i - 1) * L.length < items.length) ∧ h' m0 = .box (.agg [.nil, .int .i64 0]) ∧ h' m1 = .box (.agg [v, .int .i64 0]) ∧
      Own 1 h' v ((packs l alive items i).map li) ∧ (i = 0 → v = .nil), items.length - 0 * L.length, ⟨0, .nil, by simp, rfl, Or.inl rfl, b0, b1, Or.inl ⟨rfl, rfl⟩, fun _ => rfl⟩, ?_⟩
    rintro k f hS ⟨i, v, hf, hk, hi, c0, c1, ho, hnil⟩
    simp only [List.cons.injEq, and_true] at hf
    have hli : li items = .sl (items.map (.int .i64)) := rfl
    by_cases hin : i * L.length < items.length
    · have h4 : ((i * L.length : Nat) : Int) < ((items.map (D.int .i64)).length : Int) := by rw [List.length_map]; omega
      rw [hf, hli]
      simp only [↓v_len, ↓v_lss, h4, decide_true, v_cond_t]
      rw [← hli]
      refine g_bld0 fun w tw => ?_
      have hwS : hS w = .free := tw.free
      refine ⟨fun x h60 => ∃ n, x = [.ms n 0 l] ∧ hS n = .free ∧ h60 n = .arr 1 (List.replicate l (.int .i64 (-1))) ∧ Ext hS h60, ?_, ?_⟩
      · rintro f59 h60 ⟨n, hx, nS, hn, hext⟩
        simp only [List.cons.injEq, and_true] at hx
        obtain ⟨W, eW⟩ : ∃ W, W = (warp l L (chunk items L.length i)).map (D.int .i64) := ⟨_, rfl⟩
        have lW : W.length = l := by rw [eW, List.length_map, warp_len]
        refine ⟨fun _ h63 => h63 = upd h60 n (.arr 1 W), ?_, ?_⟩
        · rintro _ h63 rfl
          have e0 : m0 ≠ n := by rintro rfl; rw [c0] at nS; cases nS
          have e1 : m1 ≠ n := by rintro rfl; rw [c1] at nS; cases nS
          obtain ⟨hC, eC⟩ : ∃ hC, hC = upd h60 n (.arr 1 W) := ⟨_, rfl⟩
          rw [← eC]
          have xC : Ext hS hC := fun z hz => by
            have : z ≠ n := by rintro rfl; exact hz nS
            rw [eC, upd_other _ _ this, hext z hz]
          have d0 : hC m0 = .box (.agg [.nil, .int .i64 0]) := by rw [xC m0 (by rw [c0]; simp), c0]
          have d1 : hC m1 = .box (.agg [v, .int .i64 0]) := by rw [xC m1 (by rw [c1]; simp), c1]
          have hmC : hC n = .arr 1 W := by rw [eC, upd_self]
          simp only [↓g_fadd, ↓g_ld, d1, Slot.live, cells_agg, ↓v_part1, List.getElem?_cons_zero, Nat.zero_add, true_and]
          rw [hx, ← lW]
          refine g_bld1ms hmC (fun x hx y hy => ?_) fun n2 t2 => ?_
          · rw [eW] at hx
            simp only [List.mem_map] at hx
            obtain ⟨z, -, rfl⟩ := hx
            simp at hy; subst hy; rfl
          have t2f : ∀ z, hC z ≠ .free → z ≠ n2 := fun z hz => t2.ne hz
          have n2n : n ≠ n2 := t2f n (by rw [hmC]; simp)
          obtain ⟨hD, eD⟩ : ∃ hD, hD = upd (upd hC n (.frz 1 W)) n2 (.arr 1 [.sl W]) := ⟨_, rfl⟩
          rw [← eD]
          have xD : Ext hS hD := fun z hz => by
            have h1 : z ≠ n := by rintro rfl; exact hz nS
            have h2 : z ≠ n2 := t2f z (by rw [xC z hz]; exact hz)
            rw [eD, upd_other _ _ h2, upd_other _ _ h1, xC z hz]
          have f0 : hD m0 = .box (.agg [.nil, .int .i64 0]) := by rw [xD m0 (by rw [c0]; simp), c0]
          have f1 : hD m1 = .box (.agg [v, .int .i64 0]) := by rw [xD m1 (by rw [c1]; simp), c1]
          have oD := own_ext ho xD
          have hi6 : i ≤ 1000000 := by
            have : i ≤ i * L.length := Nat.le_mul_of_pos_right i hpos
            omega
          have lp : ((packs l alive items i).map li).length = i := by rw [List.length_map, packs_len]
          refine g_app1 oD (by rw [eD, upd_self]) (by simp) (by rw [lp]; omega) (by rw [lp]; omega) fun v' h' o' k' _ => ?_
          have g0 : h' m0 = .box (.agg [.nil, .int .i64 0]) := by rw [k' m0 (by rw [f0]; simp) (own_box oD f0), f0]
          have g1 : h' m1 = .box (.agg [v, .int .i64 0]) := by rw [k' m1 (by rw [f1]; simp) (own_box oD f1), f1]
          obtain ⟨p1, p2⟩ := own_one o'
          have hlv : vlen (.sl (nD L)) = fun (_ : Heap) K => K (.int .i64 (L.length : Int)) := by funext _ K; rw [v_len, hlD]
          have hset : setCells (D.agg [v, .int .i64 0]) 0 [v'] = .agg [v', .int .i64 0] := rfl
          simp only [↓g_fadd, g1, Slot.live, ↓g_st, cells_agg, p1, hset, true_and, Nat.zero_add, hlv, ↓v_add, keq_self]
          refine ⟨rfl, fun x hx => ?_, by simp, items.length - (i + 1) * L.length, ?_, i + 1, v', ?_, rfl, Or.inr (by simpa using hin), ?_, upd_self _ _ _, ?_, fun h => by omega⟩
          · rw [p1] at hx; simp at hx; subst hx; exact p2
          · have e : (i + 1) * L.length = i * L.length + L.length := by rw [Nat.add_mul, Nat.one_mul]
            omega
          · have e : (i + 1) * L.length = i * L.length + L.length := by rw [Nat.add_mul, Nat.one_mul]
            rw [e, hlD, wrap64 (by omega) (by omega)]
            rfl
          · rw [upd_other _ _ n01, g0]
          · rw [lW, hps, List.map_append]
            have : [warp l L (chunk items L.length i)].map li = [.sl W] := by rw [eW]; rfl
            rw [this]
            exact own_upd o' g1 _
        · exact put23 hlen hL64 hall hl64 hin hf hx hn (by rw [eW])
      · exact fill23 (i := i) (dead := dead) (Lc := L.length) hl64 hwS (upd_self _ _ _) (Ext.new tw _) fun n h' q1 q2 q3 => ⟨n, rfl, q1, q2, q3⟩
    · have h4 : ¬ ((i * L.length : Nat) : Int) < ((items.map (D.int .i64)).length : Int) := by rw [List.length_map]; omega
      rw [hf, hli]
      simp only [↓v_len, ↓v_lss, h4, decide_false, v_cond_f, keq_self, true_and]
      have hiw := nWarps_at hpos (by omega) hi
      refine ⟨v, c0, c1, by rw [← hiw]; exact ho, fun he => hnil ?_⟩
      rw [← hiw] at he
      have : (packs l alive items i).length = 0 := by rw [he]; rfl
      rwa [packs_len] at this
end Go.Am
/- LaunchPacks: plain laws on warps, and calls that take a row. No condition. -/
namespace Go.Am
open Go Go.Proofs

theorem iand63 {a : Int} : ibits .and .i64 a 63 = a % 64 := by
  show IntKind.i64.wrap ((BitVec.ofInt 64 a &&& BitVec.ofInt 64 63).toNat : Int) = _
  rw [BitVec.toNat_and, BitVec.toNat_ofInt, show (BitVec.ofInt 64 63).toNat = 2 ^ 6 - 1 from rfl, Nat.and_two_pow_sub_one_eq_mod]
  have : (((a % ((2 ^ 64 : Nat) : Int)).toNat % 2 ^ 6 : Nat) : Int) = a % 64 := by omega
  rw [this, wrap64 (by omega) (by omega)]

theorem set_other : ∀ (ps : List (Nat × Int)) (w : List Int) (k : Nat), (∀ p, p ∈ ps → p.1 ≠ k) → (ps.foldl (fun w (p : Nat × Int) => w.set p.1 p.2) w)[k]? = w[k]?
  | [], w, k, _ => rfl
  | p :: r, w, k, h => by
    rw [List.foldl_cons, set_other r _ k fun q hq => h q (List.mem_cons_of_mem _ hq), List.getElem?_set_ne (h p List.mem_cons_self)]
theorem set_mem : ∀ (ps : List (Nat × Int)) (w : List Int) (k : Nat) (x : Int), (ps.map (·.1)).Nodup → (k, x) ∈ ps → k < w.length → (ps.foldl (fun w (p : Nat × Int) => w.set p.1 p.2) w)[k]? = some x
  | p :: r, w, k, x, hn, hm, hk => by
    rw [List.map_cons, List.nodup_cons] at hn
    rw [List.foldl_cons]
    rcases List.mem_cons.1 hm with rfl | hm
    · rw [set_other r _ k fun q hq e => hn.1 (List.mem_map.2 ⟨q, hq, e⟩), List.getElem?_set_self hk]
    · exact set_mem r _ k x hn.2 hm (by simpa using hk)
theorem zip_fst : ∀ (L : List Nat) (p : List Int), (L.zip p).map (·.1) = L.take p.length
  | [], p => by simp
  | a :: r, [] => by simp
  | a :: r, x :: p => by simp [zip_fst r p]
theorem lv_split {dead k : Nat} (hk : dead / 2 ^ k % 2 = 0) : ∀ l, k < l → ∃ r, lv l dead = lv k dead ++ k :: r
  | 0, h => by omega
  | l + 1, h => by
    rw [lv_succ]
    rcases Nat.lt_or_ge k l with h1 | h1
    · obtain ⟨r, hr⟩ := lv_split hk l h1
      exact ⟨r ++ if dead / 2 ^ l % 2 = 0 then [l] else [], by rw [hr]; simp⟩
    · obtain rfl : k = l := by omega
      exact ⟨[], by rw [if_pos hk]⟩
theorem lv_mem {n dead k : Nat} : k ∈ lv n dead ↔ k < n ∧ dead / 2 ^ k % 2 = 0 := by simp [lv]
theorem lv_nodup (n dead : Nat) : (lv n dead).Nodup := List.nodup_range.sublist List.filter_sublist
/-- What stands in a lane. -/
theorem warp_get {l dead k : Nat} {part : List Int} (hk : k < l) : (warp l (lv l dead) part)[k]? = some (if dead / 2 ^ k % 2 = 0 then (part[(lv k dead).length]?).getD (-1) else -1) := by
  have hz := zip_fst (lv l dead) part
  have hrep : (List.replicate l (-1 : Int))[k]? = some (-1) := by simp [hk]
  unfold warp
  by_cases ha : dead / 2 ^ k % 2 = 0
  · rw [if_pos ha]
    obtain ⟨r, hr⟩ := lv_split ha l hk
    by_cases hj : (lv k dead).length < part.length
    · rw [List.getElem?_eq_getElem hj]
      refine set_mem _ _ k _ (by rw [hz]; exact (lv_nodup l dead).sublist (List.take_sublist _ _)) ?_ (by simpa using hk)
      refine List.mem_of_getElem? (i := (lv k dead).length) ?_
      rw [List.getElem?_zip_eq_some]
      refine ⟨?_, List.getElem?_eq_getElem hj⟩
      simp [hr]
    · have hnone : part[(lv k dead).length]? = none := List.getElem?_eq_none (by omega)
      rw [hnone, set_other _ _ k fun p hp e => ?_, hrep]
      · rfl
      · have h1 : k ∈ (lv l dead).take part.length := by rw [← hz, ← e]; exact List.mem_map_of_mem hp
        rw [hr, List.take_append_of_le_length (by omega)] at h1
        have h2 := (lv_mem.1 (List.mem_of_mem_take h1)).1
        omega
  · rw [if_neg ha, set_other _ _ k fun p hp e => ?_, hrep]
    have h1 : k ∈ (lv l dead).take part.length := by rw [← hz, ← e]; exact List.mem_map_of_mem hp
    exact ha (lv_mem.1 (List.mem_of_mem_take h1)).2
theorem lv_at {l dead k : Nat} (hk : k < l) (ha : dead / 2 ^ k % 2 = 0) : (lv k dead).length < (lv l dead).length := by
  obtain ⟨r, hr⟩ := lv_split ha l hk
  rw [hr]; simp

/-- A call that reads a row of ours. -/
theorem a_callms {P : Program} {f : FuncId} {n esz : Nat} {els ds : List D} {h : Heap} {KH : D → Heap → Prop} {R : D → Prop} (hn : h n = .arr esz els) (he : ∀ x, x ∈ els → ∀ y, y ∈ x.cells → y.vone = true)
    (hv : VCall P f (.sl els :: ds) R) (hds : ∀ d, d ∈ ds → d.vd = true ∧ AllOne d) (hk : ∀ r h', R r → (∀ k, k ≠ n → h' k = h k) → KH r h') : ACall P f (.ms n 0 els.length :: ds) h KH := by
  have hrow : (h n).row = some (esz, els) := by rw [hn]; rfl
  have e0 : (D.ms n 0 els.length).fz h = .sl els := by simp [D.fz, D.fzc, hrow]
  have e1 : (D.ms n 0 els.length :: ds).map (D.fz h) = .sl els :: ds := by
    rw [List.map_cons, e0, List.map_congr_left (g := id) (fun d hd => (vd_fz (hds d hd).1).1), List.map_id]
  have e2 : (D.ms n 0 els.length :: ds).flatMap D.nm = [n] := by
    rw [List.flatMap_cons, List.flatMap_eq_nil_iff.2 (fun d hd => (vd_fz (h := h) (hds d hd).1).2.1)]
    rfl
  refine ACall.mono ?_ (acall_of_vcall (K := R) (by rw [e1]; exact hv) (fun d hd => ?_))
  · rintro r h' ⟨k1, k2, k3⟩
    refine hk r h' k1 fun k hkn => ?_
    by_cases hr : r.flat = true ∨ (D.ms n 0 els.length :: ds).flatMap D.nm = []
    · rw [k2 hr]
    · rw [k3 hr, e2]
      simp [Heap.freezeAll, Heap.freeze, hn, upd_other _ _ hkn]
  · rcases List.mem_cons.1 hd with rfl | hd
    · refine ⟨by simp, ?_, by rw [e0]; rfl⟩
      intro x hx
      simp only [D.cells, List.mem_singleton] at hx
      subst hx
      exact ⟨esz, els, hrow, by simp, fun x hx y hy => he x (by simpa using hx) y hy⟩
    · exact ⟨(hds d hd).2, (vd_fz (hds d hd).1).2.2, by rw [(vd_fz (hds d hd).1).1]; exact (hds d hd).1⟩
end Go.Am
/- LaunchPacks. No condition. -/
namespace Go.Am
open Go Go.Proofs

theorem packD_self {xs : List Int} {lanes : Int} {dead : Nat} (hx : xs.length ≤ 300) : VCall Tryd.prog 21 [packD xs lanes dead, packD xs lanes dead] (· = .bool true) := by
  unfold packD
  split
  · exact c21 [] 1 (by simp) (by simp)
  · rename_i hb
    have h3 : ¬ (lanes < 1 ∨ 64 < lanes ∨ aliveOf lanes.toNat dead = 0) := hb
    have hp := lanes_pos (dead := dead) (l := lanes.toNat) (by omega) (by omega)
    refine c21 _ 0 ?_ fun w hw => ?_
    · unfold packWs
      rw [packs_len]
      generalize (lanesL (aliveOf lanes.toNat dead)).length = L at *
      unfold nWarps
      have : (xs.length + L - 1) / L ≤ xs.length := by
        rw [Nat.div_le_iff_le_mul_add_pred (by omega)]
        have := Nat.le_mul_of_pos_left xs.length hp
        omega
      omega
    · unfold packWs packs at hw
      simp only [List.mem_map] at hw
      obtain ⟨z, -, rfl⟩ := hw
      rw [warp_len]; omega

def ownL (n : Nat) : List Int := (List.range n).map fun i : Nat => (i : Int)
theorem ownL_len (n : Nat) : (ownL n).length = n := by simp [ownL]
theorem ownL_succ (n : Nat) : ownL (n + 1) = ownL n ++ [(n : Int)] := by simp [ownL, List.range_succ]

set_option maxRecDepth 20000 in
theorem law7 {items : List Int} {lanes : Int} {dead : Nat} (hd : dead < 18446744073709551616) (hlen : items.length ≤ 9223372036854775807) :
    VCall Tryd.prog 7 [li items, .int .i64 lanes, .int .u64 dead] (· = .bool true) := by
  refine vcall_V F7_ok (cDr_ok _ _ _) rfl (V7_ok _ _ _ _) ?_
  unfold V7
  refine a_call c9 (fun d hd => by cases hd) ?_
  rintro _ rfl
  rw [v_not, Bool.not_true, v_cond_f]
  obtain ⟨xs, ex⟩ : ∃ xs, xs = items.take 300 := ⟨_, rfl⟩
  have hx : xs.length ≤ 300 := by rw [ex, List.length_take]; omega
  have hli : li items = .sl (items.map (.int .i64)) := rfl
  have hli' : li xs = .sl (xs.map (.int .i64)) := rfl
  rw [hli]
  simp only [↓v_len, List.length_map, ↓h_mn, ↓h_slcsl, ↓vopt_none, ↓vopt_some]
  have hmin : (if (300 : Int) < (items.length : Int) then (300 : Int) else items.length) = (xs.length : Int) := by
    rw [ex, List.length_take]; split <;> omega
  rw [hmin]
  have hxl : xs.length ≤ items.length := by rw [ex, List.length_take]; omega
  refine ⟨by omega, by omega, by omega, by omega, fun d hd => ?_, ?_⟩
  · simp only [List.mem_map] at hd
    obtain ⟨z, -, rfl⟩ := hd
    rfl
  have hsl : D.sl (List.take ((xs.length : Int) - ((0 : Nat) : Int)).toNat (List.drop (((0 : Nat) : Int)).toNat (List.map (D.int IntKind.i64) items))) = li xs := by
    have e1 : ((xs.length : Int) - ((0 : Nat) : Int)).toNat = xs.length := by omega
    have e2 : (((0 : Nat) : Int)).toNat = 0 := rfl
    rw [e1, e2, List.drop_zero, ← List.map_take]
    have : items.take xs.length = xs := by
      rw [ex, List.length_take]
      rcases Nat.le_total 300 items.length with h | h
      · rw [Nat.min_eq_left h]
      · rw [Nat.min_eq_right h, List.take_of_length_le (Nat.le_refl _), List.take_of_length_le h]
    rw [this]; rfl
  have hsn : (List.take ((xs.length : Int) - ((0 : Nat) : Int)).toNat (List.drop (((0 : Nat) : Int)).toNat (List.map (D.int IntKind.i64) items))).length = xs.length := by
    have e1 : ((xs.length : Int) - ((0 : Nat) : Int)).toNat = xs.length := by omega
    have e2 : (((0 : Nat) : Int)).toNat = 0 := rfl
    rw [e1, e2, List.drop_zero, List.length_take, List.length_map]; omega
  obtain ⟨N, hN, hN1, hN2⟩ : ∃ N : Nat, IntKind.i64.wrap (1 + lanes % 64) = (N : Int) ∧ 1 ≤ N ∧ N ≤ 64 :=
    ⟨(1 + lanes % 64).toNat, by rw [wrap64 (by omega) (by omega)]; omega, by omega, by omega⟩
  simp only [hsl, hsn, ↓v_and, ↓v_add, iand63, hN]
  have vds : ∀ (ys : List Int) (a : Int) (d : D), d ∈ [li ys, .int .i64 a, .int .u64 (dead : Int)] → d.vd = true ∧ AllOne d := fun ys a d hd => by
    simp at hd
    rcases hd with rfl | rfl | rfl
    · exact li_vdo _
    · exact ⟨rfl, by simp⟩
    · exact ⟨rfl, by simp⟩
  have vdp : ∀ (a : Int) (d : D), d ∈ [packD xs a dead, packD xs a dead] → d.vd = true ∧ AllOne d := fun a d hd => by
    simp at hd; subst hd; exact packD_vd _ _ _
  refine a_call (c22 xs lanes dead hd (by omega)) (vds xs lanes) ?_
  rintro _ rfl
  refine a_call (c23 xs lanes dead hd (by omega)) (vds xs lanes) ?_
  rintro _ rfl
  refine a_call (packD_self hx) (vdp lanes) ?_
  rintro _ rfl
  simp only [↓v_not, Bool.not_true, ↓v_guard, ne_eq, not_true_eq_false, false_implies, and_true, true_implies]
  refine a_call (c22 xs N dead hd (by omega)) (vds xs N) ?_
  rintro _ rfl
  refine a_call (c23 xs N dead hd (by omega)) (vds xs N) ?_
  rintro _ rfl
  refine a_call (packD_self hx) (vdp N) ?_
  rintro _ rfl
  simp only [↓v_not, Bool.not_true, ↓h_pick, Bool.false_eq_true, if_false, v_cond_f]
  clear vdp
  refine g_bld0 fun n0 t0 => ?_
  generalize hxs : xs.length = len at *
  refine ⟨fun l h' => ∃ n, l = [.ms n 0 len] ∧ h' n = .arr 1 ((ownL len).map (.int .i64)), ?_, ?_⟩
  · rintro f h64 ⟨n, hf, hn⟩
    simp only [List.cons.injEq, and_true] at hf
    rw [hf]
    have e : D.ms n 0 len = .ms n 0 ((ownL len).map (D.int .i64)).length := by rw [List.length_map, ownL_len]
    rw [e]
    refine a_callms hn (fun x hx y hy => ?_) (c22 (ownL len) N dead hd (by rw [ownL_len]; omega)) (fun d hd => ?_) ?_
    · simp only [List.mem_map] at hx
      obtain ⟨z, -, rfl⟩ := hx
      simp at hy; subst hy; rfl
    · exact vds [] N d (List.mem_cons_of_mem _ hd)
    rintro _ h66 rfl _
    rw [g_alloc]
    intro m t
    obtain ⟨ws, e, hws, hor⟩ : ∃ ws e, packD (ownL len) N dead = packA ws e ∧ ((packBad N dead ∧ ws = [] ∧ e = 1) ∨ (¬ packBad N dead ∧ ws = packWs (ownL len) N dead ∧ e = 0)) := by
      unfold packD
      split
      · exact ⟨_, _, rfl, Or.inl ⟨by assumption, rfl, rfl⟩⟩
      · exact ⟨_, _, rfl, Or.inr ⟨by assumption, rfl, rfl⟩⟩
    have hcp : (packA ws e).cells = [wD ws, .int .i64 e] := rfl
    rw [hws]
    rw [g_st]
    simp only [upd_self, upd_upd]
    have hset : setCells (D.agg [.nil, .int .i64 0]) 0 (packA ws e).cells = packA ws e := rfl
    rw [hset]
    refine ⟨rfl, (packA_vd ws e).2, trivial, by simp, ?_⟩
    obtain ⟨hA, eA⟩ : ∃ hA, hA = upd h66 m (.box (packA ws e)) := ⟨_, rfl⟩
    rw [← eA]
    have a0 : hA m = .box (packA ws e) := by rw [eA, upd_self]
    simp only [↓g_fadd, ↓g_ld, a0, Slot.live, hcp, ↓v_part1, List.getElem?_cons_succ, List.getElem?_cons_zero, Nat.zero_add, true_and]
    clear vds
    rcases hor with ⟨-, rfl, rfl⟩ | ⟨hgood, hwse, rfl⟩
    · have hwn : wD [] = .nil := rfl
      simp [↓amR, a0, hcp, hwn]
    simp only [↓v_neq, decide_true, Bool.not_true, v_cond_f]
    refine ⟨fun l _ => l = [.int .i64 len], ?_, ?_⟩
    · rintro f' h' hf'
      simp only [List.cons.injEq, and_true] at hf'
      rw [hf']
      simp [↓amR]
    have hg : ¬ ((N : Int) < 1 ∨ 64 < (N : Int) ∨ aliveOf (N : Int).toNat dead = 0) := hgood
    rw [Int.toNat_natCast] at hg
    have hpos := lanes_pos (dead := dead) hN2 (by omega)
    have hwe : ws = packs N (aliveOf N dead) (ownL len) (nWarps (lanesL (aliveOf N dead)).length len) := by
      rw [hwse]; unfold packWs; rw [Int.toNat_natCast, ownL_len]
    have hLv := lanes_lv hN2 hd
    obtain ⟨L, eL⟩ : ∃ L, L = (lv N dead).length := ⟨_, rfl⟩
    rw [hLv, ← eL] at hpos hwe
    have hnw : ws.length = nWarps L len := by rw [hwe, packs_len]
    have hget? : ∀ i, i < ws.length → ws[i]? = some (warp N (lv N dead) (chunk (ownL len) L i)) := fun i h => by
      rw [hnw] at h
      rw [hwe]
      unfold packs
      rw [List.getElem?_map, List.getElem?_range h, hLv, ← eL]; rfl
    have hget : ∀ i (h : i < ws.length), ws[i] = warp N (lv N dead) (chunk (ownL len) L i) := fun i h => by
      have := hget? i h
      rw [List.getElem?_eq_getElem h] at this
      exact Option.some.inj this
    have hL64 : L ≤ 64 := by rw [eL]; exact Nat.le_trans (lv_len N dead) hN2
    have hW1 : nWarps L len * L < len + L := by
      unfold nWarps
      have := Nat.div_mul_le_self (len + L - 1) L
      omega
    have hW2 : len ≤ nWarps L len * L := by
      unfold nWarps
      have := Nat.lt_div_mul_add (a := len + L - 1) (b := L) (by omega)
      omega
    unfold V7_L1
    refine ⟨fun k x h' => ∃ i : Nat, x = [.int .i64 ((min (i * L) len : Nat) : Int), .int .i64 i] ∧ k + i = ws.length ∧ h' = hA, ws.length, ⟨0, by simp, by omega, rfl⟩, ?_⟩
    rintro k f1 h' ⟨i, hf1, hki, hh⟩
    subst h'
    simp only [List.cons.injEq, and_true] at hf1
    obtain ⟨hf1, hf2⟩ := hf1
    have hnN : ¬ ws = [] → wD ws = .sl (ws.map li) := fun h => if_neg h
    simp only [↓g_fadd, ↓g_ld, a0, Slot.live, hcp, ↓v_part1, List.getElem?_cons_zero, Nat.zero_add, true_and, wD_len, hf1, hf2, ↓v_lss]
    by_cases hin : i < ws.length
    · have hne : ws ≠ [] := by rintro rfl; simp at hin
      have hi1 : (i : Int) < (ws.length : Int) := by omega
      have hiL : i * L < len := by
        have : (i + 1) * L ≤ nWarps L len * L := Nat.mul_le_mul_right _ (by omega)
        rw [Nat.add_mul, Nat.one_mul] at this
        omega
      have hmin1 : min (i * L) len = i * L := Nat.min_eq_left (by omega)
      rw [hmin1]
      have hnl : ¬ (len : Int) ≤ ((i * L : Nat) : Int) := by omega
      have hii : i ≤ i * L := Nat.le_mul_of_pos_right i hpos
      obtain ⟨F, eF⟩ : ∃ F, F = i * L := ⟨_, rfl⟩
      have eF2 : (i + 1) * L = F + L := by rw [Nat.add_mul, Nat.one_mul, eF]
      rw [← eF] at hnl hiL hii ⊢
      have wi : IntKind.i64.wrap ((i : Int) + 1) = ((i + 1 : Nat) : Int) := by rw [wrap64 (by omega) (by omega)]; rfl
      simp only [hi1, decide_true, v_cond_t, ↓v_add, wi, keq_self, true_and]
      refine ⟨fun x h' => x = [.int .i64 ((min ((i + 1) * L) len : Nat) : Int)] ∧ h' = hA, ?_, ?_⟩
      · rintro f2 h2 ⟨hf3, rfl⟩
        simp only [List.cons.injEq, and_true] at hf3
        refine ⟨k - 1, by omega, i + 1, by rw [hf3], by omega, rfl⟩
      have hw0 := hget i hin
      obtain ⟨w, ew⟩ : ∃ w, w = warp N (lv N dead) (chunk (ownL len) L i) := ⟨_, rfl⟩
      have hwl : w.length = N := by rw [ew, warp_len]
      have hw? : ws[i]? = some w := by rw [hget? i hin, ew]
      have hlw : li w = .sl (w.map (.int .i64)) := rfl
      have hw1 : (ws.map li)[i]? = some (li w) := by rw [List.getElem?_map, hw?]; rfl
      simp only [hnN hne, ↓h_iadd, List.length_map, Int.toNat_natCast, hw1]
      refine ⟨by omega, hi1, fun d hd => ?_⟩
      cases hd
      refine ⟨rfl, ?_⟩
      simp only [↓h_ldv, cells_li, ↓v_part1, List.getElem?_cons_zero]
      simp only [hlw, ↓v_len, List.length_map, hwl, ↓v_neq, decide_true, Bool.not_true, ↓v_guard, ne_eq, not_true_eq_false, false_implies, and_true, true_implies]
      rw [hli']
      simp only [↓v_len, List.length_map, hxs, ↓v_geq, hnl, decide_false, ↓h_pick, Bool.false_eq_true, if_false, v_cond_f]
      unfold V7_L0
      have lv0 : (lv 0 dead).length = 0 := rfl
      rw [hf1, hmin1, ← eF]
      refine ⟨fun q x h' => ∃ c : Nat, x = [.int .i64 ((min (F + (lv c dead).length) len : Nat) : Int), .int .i64 c] ∧ q + c = N ∧ h' = hA, N, ⟨0, by rw [lv0, Nat.add_zero, Nat.min_eq_left (by omega)]; rfl, by omega, rfl⟩, ?_⟩
      rintro q f2 h2 ⟨c, hx2, hq, hh2⟩
      subst h2
      simp only [List.cons.injEq, and_true] at hx2
      obtain ⟨g1, g2⟩ := hx2
      rw [g1, g2]
      by_cases hc : c < N
      · have hc1 : (c : Int) < (N : Int) := by omega
        have w2 : IntKind.u64.wrap (c : Int) = ((c : Nat) : Int) := by rw [wrapu, Nat.mod_eq_of_lt (by omega)]
        have w3 : ibits .and .u64 (ishr .u64 (dead : Int) (c : Int)) 1 = ((dead / 2 ^ c % 2 : Nat) : Int) := by
          rw [ishr64 _ _ (by omega)]
          rw [show (1 : Int) = ((1 : Nat) : Int) from rfl, iand64 _ _ (Nat.lt_of_le_of_lt (Nat.div_le_self _ _) hd) (by omega), Nat.and_one_is_mod]
        have wc : IntKind.i64.wrap ((c : Int) + 1) = ((c + 1 : Nat) : Int) := by rw [wrap64 (by omega) (by omega)]; rfl
        obtain ⟨j, ej⟩ : ∃ j, j = (lv c dead).length := ⟨_, rfl⟩
        have hjc : j ≤ c := by rw [ej]; exact lv_len c dead
        have hwc : w[c]? = some (if dead / 2 ^ c % 2 = 0 then (if F + j < len then ((F + j : Nat) : Int) else -1) else -1) := by
          rw [ew, warp_get hc, ← ej]
          by_cases ha : dead / 2 ^ c % 2 = 0
          · have hjL : j < L := by rw [ej, eL]; exact lv_at hc ha
            rw [if_pos ha, if_pos ha, chunk_get hjL, ← eF]
            by_cases hF : F + j < len
            · rw [if_pos hF]; simp [ownL, hF]
            · rw [if_neg hF]; simp [ownL, Nat.not_lt.1 hF]
          · rw [if_neg ha, if_neg ha]
        have hlv1 := lv_succ c dead
        rw [← ej]
        simp only [↓v_lss, hc1, decide_true, v_cond_t, ↓h_conv, w2, ↓v_shr, ↓v_and, w3, ↓v_eql]
        refine ⟨by omega, fun x h' => x = [.int .i64 ((min (F + (lv (c + 1) dead).length) len : Nat) : Int), .int .i64 (if dead / 2 ^ c % 2 = 0 then (if F + j < len then ((F + j : Nat) : Int) else -1) else -1)] ∧ h' = hA, ?_, ?_⟩
        · rintro f3 h3 ⟨hx3, hh3⟩
          subst h3
          simp only [List.cons.injEq, and_true] at hx3
          obtain ⟨g3, g4⟩ := hx3
          have hc2 : (c : Int) < (w.length : Int) := by omega
          simp only [↓g_fadd, ↓g_ld, a0, Slot.live, hcp, ↓v_part1, List.getElem?_cons_zero, Nat.zero_add, true_and, hnN hne, hf2, ↓h_iadd, List.length_map, Int.toNat_natCast, hw1]
          refine ⟨by omega, hi1, fun d hd => ?_⟩
          cases hd
          refine ⟨rfl, ?_⟩
          simp only [↓h_ldv, cells_li, ↓v_part1, List.getElem?_cons_zero]
          simp only [hlw, ↓h_iadd, List.length_map, Int.toNat_natCast, List.getElem?_map, hwc, Option.map_some]
          refine ⟨by omega, hc2, fun d hd => ?_⟩
          cases hd
          refine ⟨rfl, ?_⟩
          simp only [↓h_ldv, cells_int, ↓v_part1, List.getElem?_cons_zero, g4, ↓v_neq, decide_true, Bool.not_true, v_cond_f, ↓v_add, wc, keq_self, true_and]
          exact ⟨q - 1, by omega, c + 1, by rw [g3], by omega, trivial⟩
        · by_cases ha : dead / 2 ^ c % 2 = 0
          · have hjL : j < L := by rw [ej, eL]; exact lv_at hc ha
            rw [ha] at hlv1 ⊢
            rw [hlv1]
            simp only [if_true, List.length_append, List.length_cons, List.length_nil, ← ej, Int.natCast_zero, decide_true, ↓v_guard, ne_eq, not_true_eq_false, false_implies, and_true, true_implies, ↓v_len, List.length_map, hxs, ↓v_lss, ↓h_pick]
            by_cases hF : F + j < len
            · have m1 : min (F + j) len = F + j := Nat.min_eq_left (by omega)
              have m2 : min (F + (j + (0 + 1))) len = F + j + 1 := by omega
              have hF1 : ((F + j : Nat) : Int) < (len : Int) := by omega
              have wj : IntKind.i64.wrap (((F + j : Nat) : Int) + 1) = ((F + j + 1 : Nat) : Int) := by rw [wrap64 (by omega) (by omega)]; rfl
              rw [m1, m2, if_pos hF]
              simp only [hF1, decide_true, v_cond_t, ↓v_add, wj, keq_self, true_and]
            · have m1 : min (F + j) len = len := Nat.min_eq_right (by omega)
              have m2 : min (F + (j + (0 + 1))) len = len := by omega
              have hF1 : ¬ (len : Int) < (len : Int) := by omega
              rw [m1, m2, if_neg hF]
              simp only [hF1, decide_false, v_cond_f, keq_self, true_and]
          · have ha' : ¬ (((dead / 2 ^ c % 2 : Nat) : Int) = 0) := by omega
            rw [if_neg ha] at hlv1
            rw [hlv1, List.append_nil, ← ej]
            simp only [ha, ha', if_false, decide_false, ↓v_guard, ne_eq, Bool.false_eq_true, false_implies, true_and, not_false_eq_true, true_implies, ↓h_pick, v_cond_f, keq_self]
      · have hc1 : ¬ (c : Int) < (N : Int) := by omega
        have hcN : c = N := by omega
        simp only [↓v_lss, hc1, decide_false, v_cond_f, keq_self, true_and]
        rw [hcN, ← eL, eF2]
        exact ⟨rfl, trivial⟩
    · have hi1 : ¬ (i : Int) < (ws.length : Int) := by omega
      simp only [hi1, decide_false, v_cond_f, keq_self, true_and]
      have hi2 : i = nWarps L len := by omega
      rw [hi2, Nat.min_eq_right hW2]
  · unfold V7_L2
    refine ⟨fun k x h' => ∃ j n : Nat, x = [.ms n 0 j, .int .i64 j] ∧ k + j = len ∧ h' n = .arr 1 ((ownL j).map (.int .i64)), len, ⟨0, n0, rfl, by omega, upd_self _ _ _⟩, ?_⟩
    rintro k f h' ⟨j, n, hf, hkj, hn⟩
    simp only [List.cons.injEq, and_true] at hf
    obtain ⟨hf1, hf2⟩ := hf
    rw [hf1, hf2, hli']
    by_cases hj : j < len
    · have h1 : (j : Int) < (len : Int) := by omega
      have w1 : IntKind.i64.wrap ((j : Int) + 1) = ((j + 1 : Nat) : Int) := by rw [wrap64 (by omega) (by omega)]; rfl
      simp only [↓v_len, List.length_map, hxs, ↓v_lss, h1, decide_true, v_cond_t, ↓v_add, w1, keq_self, true_and]
      have hl : ((ownL j).map (D.int .i64)).length = j := by rw [List.length_map, ownL_len]
      have key := g_appendms (P := Tryd.prog) (bytes := 8) (z := .int .i64 0) (z' := .int .i64 0) (d := .int .i64 j) (KH := fun a123 h124 => ∃ m, m < k ∧ (fun (k : Nat) (x : List D) (h' : Heap) => ∃ j n : Nat, x = [.ms n 0 j, .int .i64 j] ∧ k + j = len ∧ h' n = .arr 1 ((ownL j).map (.int .i64))) m [a123, .int .i64 ((j + 1 : Nat) : Int)] h124) hn rfl (by simp) rfl (by rw [hl]; omega) (by rw [hl]; omega) fun n' h'' r1 r2 r3 => ?_
      · rw [hl] at key; exact key
      · rw [hl]
        exact ⟨k - 1, by omega, j + 1, n', rfl, by omega, by rw [r2, ownL_succ, List.map_append]; rfl⟩
    · have h1 : ¬ (j : Int) < (len : Int) := by omega
      have hjl : j = len := by omega
      simp only [↓v_len, List.length_map, hxs, ↓v_lss, h1, decide_false, v_cond_f, keq_self, true_and]
      exact ⟨n, by rw [hjl], by rw [← hjl]; exact hn⟩
end Go.Am
/- LaunchPacks, at every argument of its types. No condition. -/
namespace Go.Am
open Go Go.Proofs

theorem u3 : Tryd.prog.underlying 3 = some (.int .i64) := by kernel_rfl
theorem u49 : Tryd.prog.underlying 49 = some (.slice 3) := by kernel_rfl
theorem u60 : Tryd.prog.underlying 60 = some (.int .u64) := by kernel_rfl
set_option maxRecDepth 100000 in
theorem is_int {m : Nat} {ds : List D} (h : HasTy Tryd.prog (m + 1) 3 ds) : ∃ n : Int, ds = [.int .i64 n] ∧ -9223372036854775808 ≤ n ∧ n ≤ 9223372036854775807 := by
  obtain ⟨i, rfl, h1, h2⟩ := hasTy_int u3 h
  rw [show IntKind.i64.min = -9223372036854775808 from rfl] at h1; rw [show IntKind.i64.max = 9223372036854775807 from rfl] at h2
  exact ⟨i, rfl, h1, h2⟩
set_option maxRecDepth 100000 in
theorem is_u64 {m : Nat} {ds : List D} (h : HasTy Tryd.prog (m + 1) 60 ds) : ∃ n : Nat, ds = [.int .u64 n] ∧ n < 18446744073709551616 := by
  obtain ⟨i, rfl, h1, h2⟩ := hasTy_int u60 h
  rw [show IntKind.u64.min = 0 from rfl] at h1; rw [show IntKind.u64.max = 18446744073709551615 from rfl] at h2
  exact ⟨i.toNat, by rw [Int.toNat_of_nonneg h1], by omega⟩
set_option maxRecDepth 100000 in
theorem is_ints {m : Nat} {ds : List D} (h : HasTy Tryd.prog (m + 2) 49 ds) : ∃ xs : List Int, ds = [li xs] ∧ xs.length ≤ 9223372036854775807 ∧ ∀ x, x ∈ xs → -9223372036854775808 ≤ x ∧ x ≤ 9223372036854775807 := by
  obtain ⟨xs, h1, h2, h3⟩ := hasTy_ints u49 u3 h
  rw [show IntKind.i64.min = -9223372036854775808 from rfl, show IntKind.i64.max = 9223372036854775807 from rfl] at h3
  exact ⟨xs, h1, h2, h3⟩
theorem mk49 (d : D) : mkElem Tryd.prog 49 [d] = d := mk_slice u49 d
set_option maxRecDepth 100000 in
theorem law7H (xs : List D) (h : HasTys Tryd.prog 12 Tryd.f7.params.toList xs) : VCall Tryd.prog 7 xs (· = .bool true) := by
  have hp : Tryd.f7.params.toList = [49, 3, 60] := by kernel_rfl
  rw [hp] at h
  obtain ⟨c1, r1, rfl, h1, c2, r2, rfl, h2, c3, r3, rfl, h3, rfl⟩ := h
  obtain ⟨a, rfl, hl, -⟩ := is_ints h1
  obtain ⟨b, rfl, -, -⟩ := is_int h2
  obtain ⟨c, rfl, hc⟩ := is_u64 h3
  rw [mk49, mk_int u3, mk_int u60]
  exact law7 hc hl
end Go.Am
/- Subgroup operations: plain laws. No condition. -/
namespace Go.Am
open Go Go.Proofs

def w32 (a : Int) : Int := IntKind.i32.wrap a
theorem w32_eq (a : Int) : w32 a = (a + 2147483648) % 4294967296 - 2147483648 := by
  unfold w32
  simp only [IntKind.wrap, IntKind.signed, IntKind.bits]
  simp
  omega
theorem w32_add (a b : Int) : w32 (w32 a + b) = w32 (a + b) := by simp only [w32_eq]; omega
theorem w32_add2 (a b : Int) : w32 (w32 a + w32 b) = w32 (a + b) := by simp only [w32_eq]; omega
theorem w32_mul2 (a : Int) : w32 (2 * w32 a) = w32 (2 * a) := by simp only [w32_eq]; omega
theorem w32_id {a : Int} (h : -2147483648 ≤ a ∧ a ≤ 2147483647) : w32 a = a := by rw [w32_eq]; omega
theorem ior32 {a b : Nat} (ha : a < 4294967296) (hb : b < 4294967296) : ibits .or .i32 (w32 a) (w32 b) = w32 ((a ||| b : Nat) : Int) := by
  have e : ∀ {x : Nat}, x < 4294967296 → (BitVec.ofInt 32 (w32 x)).toNat = x := fun {x} hx => by
    rw [BitVec.toNat_ofInt, w32_eq]; omega
  show IntKind.i32.wrap ((BitVec.ofInt 32 (w32 a) ||| BitVec.ofInt 32 (w32 b)).toNat : Int) = _
  rw [BitVec.toNat_or, e ha, e hb]
  rfl
theorem ishl32 {t k : Nat} (hk : k ≤ 32) : ishl .i32 (t : Int) (k : Int) = w32 ((t * 2 ^ k : Nat) : Int) := by
  unfold ishl w32
  have e : min ((k : Int).toNat) IntKind.i32.bits = k := by
    show min k 32 = k
    omega
  rw [e]; simp

/-- A value of a list of words. -/
def at0 (v : List Int) (k : Nat) : Int := (v[k]?).getD 0
theorem at0_of {v : List Int} {k : Nat} {a : Int} (h : v[k]? = some a) : at0 v k = a := by simp [at0, h]
theorem at0_get {v : List Int} {k : Nat} (h : k < v.length) : v[k]? = some (at0 v k) := by rw [at0, List.getElem?_eq_getElem h]; rfl
def balN (v : List Int) : Nat → Nat
  | 0 => 0
  | k + 1 => balN v k + if at0 v k = 0 then 0 else 2 ^ k
def cntN (v : List Int) : Nat → Nat
  | 0 => 0
  | k + 1 => cntN v k + if at0 v k = 0 then 0 else 1
def sumN (v : List Int) : Nat → Int
  | 0 => 0
  | k + 1 => sumN v k + at0 v k
theorem balN_lt (v : List Int) : ∀ k, balN v k < 2 ^ k
  | 0 => by simp [balN]
  | k + 1 => by
    have := balN_lt v k
    rw [balN, Nat.pow_succ]
    split <;> omega
theorem cntN_le (v : List Int) : ∀ k, cntN v k ≤ k
  | 0 => by simp [cntN]
  | k + 1 => by
    have := cntN_le v k
    rw [cntN]
    split <;> omega
/-- What a subgroup operation gives to one item. -/
def oneW (op : Int) (v x : List Int) (i : Nat) : Int :=
  if op = 1 then w32 (balN v v.length)
  else if op = 2 then (if 0 < cntN v v.length then 1 else 0)
  else if op = 3 then (if cntN v v.length = v.length then 1 else 0)
  else if op = 5 then w32 (sumN v (i + 1))
  else if op = 6 then w32 (sumN v v.length)
  else at0 v ((at0 x i) % (v.length : Int)).toNat
/-- It is no subgroup operation. -/
def collBad (op : Int) (v x : List Int) : Prop := op < 1 ∨ 6 < op ∨ v.length ≠ x.length ∨ v.length < 1 ∨ 32 < v.length
instance (op : Int) (v x : List Int) : Decidable (collBad op v x) := by unfold collBad; infer_instance
def collWs (op : Int) (v x : List Int) : List Int := (List.range v.length).map (oneW op v x)
theorem collWs_len (op : Int) (v x : List Int) : (collWs op v x).length = v.length := by simp [collWs]

/-- A fold. -/
def foldG (g : Nat → Int → Int) (s : Int) : Nat → Int
  | 0 => s
  | k + 1 => g k (foldG g s k)
def tr (b : Prop) [Decidable b] : Int := if b then 1 else 0
theorem fold_bal (v : List Int) : ∀ k, k ≤ 32 → foldG (fun k s => ibits .or .i32 s (ishl .i32 (if at0 v k = 0 then 0 else 1) k)) 0 k = w32 (balN v k)
  | 0, _ => by simp [foldG, balN, w32_eq]
  | k + 1, h => by
    rw [foldG, fold_bal v k (by omega)]
    have h1 := balN_lt v k
    have h2 : (2 : Nat) ^ k < 2 ^ 32 := Nat.pow_lt_pow_right (by omega) (by omega)
    rw [show (2 : Nat) ^ 32 = 4294967296 by decide] at h2
    have h3 : (if at0 v k = 0 then 0 else 1) * 2 ^ k < 4294967296 := by split <;> omega
    have e : (if at0 v k = 0 then (0 : Int) else 1) = ((if at0 v k = 0 then 0 else 1 : Nat) : Int) := by split <;> rfl
    rw [e, ishl32 (by omega), ior32 (by omega) h3, balN]
    congr 2
    split
    · simp
    · rw [Nat.one_mul]
      have := Nat.two_pow_add_eq_or_of_lt h1 1
      rw [Nat.mul_one] at this
      rw [Nat.or_comm, ← this, Nat.add_comm]
theorem fold_any (v : List Int) : ∀ k, foldG (fun k s => ibits .or .i32 s (if at0 v k = 0 then 0 else 1)) 0 k = if 0 < cntN v k then 1 else 0
  | 0 => rfl
  | k + 1 => by
    rw [foldG, fold_any v k, cntN]
    by_cases h1 : 0 < cntN v k
    · by_cases h2 : at0 v k = 0
      · simp only [h1, h2, if_true, Nat.add_zero]; rfl
      · simp only [h1, h2, if_true, if_false]; rw [if_pos (by omega)]; rfl
    · by_cases h2 : at0 v k = 0
      · simp only [h1, h2, if_true, if_false, Nat.add_zero]; rfl
      · simp only [h1, h2, if_true, if_false]; rw [if_pos (by omega)]; rfl
theorem fold_all (v : List Int) : ∀ k, foldG (fun k s => ibits .and .i32 s (if at0 v k = 0 then 0 else 1)) 1 k = if cntN v k = k then 1 else 0
  | 0 => rfl
  | k + 1 => by
    rw [foldG, fold_all v k, cntN]
    have := cntN_le v k
    by_cases h1 : cntN v k = k
    · by_cases h2 : at0 v k = 0
      · simp only [h1, h2, if_true]; rw [if_neg (by omega)]; rfl
      · simp only [h1, h2, if_true, if_false]; rfl
    · by_cases h2 : at0 v k = 0
      · simp only [h1, h2, if_true, if_false]; rw [if_neg (by omega)]; rfl
      · simp only [h1, h2, if_false]; rw [if_neg (by omega)]; rfl
theorem fold_sum (v : List Int) : ∀ k, foldG (fun k s => IntKind.i32.wrap (s + at0 v k)) 0 k = w32 (sumN v k)
  | 0 => by simp [foldG, sumN, w32_eq]
  | k + 1 => by
    rw [foldG, fold_sum v k, sumN]
    exact w32_add _ _
end Go.Am
/- Subgroup operations: the code of the launch package. No condition. -/
namespace Go.Am
open Go Go.Proofs

theorem li32_sl (v : List Int) : li32 v = .sl (v.map (.int .i32)) := rfl
theorem a45 (g : Nat → Int → Int) (v : List Int) (start : Int) (fid : FuncId) (m : Nat) (h : Heap) (K : D → Heap → Prop) (hlen : v.length ≤ 1000000) (hcc : cCallee Tryd.prog fid = true)
    (hstep : ∀ (k : Nat) (s : Int) (K : D → Heap → Prop), k < v.length → K (.int .i32 (g k s)) h → ACall Tryd.prog fid [.int .i32 s, .int .i64 k, .ptr m 0 0] h K)
    (hk : ∀ n h', Ext h h' → h' n = .arr 1 (List.replicate v.length (.int .i32 (foldG g start v.length))) → K (.ms n 0 v.length) h') :
    ACall Tryd.prog 45 [li32 v, .int .i32 start, .fn fid [] [.ptr m 0 0]] h K := by
  refine acall_V F45_ok (cDr_ok _ _ _) rfl (V45_ok _ _ _ _) ?_
  unfold V45
  rw [li32_sl]
  refine ⟨fun l h' => l = [.int .i32 (foldG g start v.length)] ∧ h' = h, ?_, ?_⟩
  · rintro f h' ⟨hf, rfl⟩
    simp only [List.cons.injEq, and_true] at hf
    rw [hf]
    refine g_bld1 rfl (by simp) rfl fun n t => ?_
    simp only [↓v_len, List.length_map]
    refine a55 n v.length hlen _ rfl rfl _ _ (upd_self _ _ _) fun n' h'' q1 q2 q3 => ?_
    exact hk n' h'' ((Ext.new t _).trans q1) q3
  · simp only [↓v_len, List.length_map]
    unfold V45_L0
    refine ⟨fun k l h' => ∃ j : Nat, l = [.int .i32 (foldG g start j), .int .i64 j] ∧ k + j = v.length ∧ h' = h, v.length, ⟨0, rfl, by omega, rfl⟩, ?_⟩
    rintro k f h' ⟨j, hf, hkj, hh⟩
    subst hh
    simp only [List.cons.injEq, and_true] at hf
    obtain ⟨hf1, hf2⟩ := hf
    rw [hf1, hf2]
    by_cases hj : j < v.length
    · have h1 : (j : Int) < (v.length : Int) := by omega
      have w1 : IntKind.i64.wrap ((j : Int) + 1) = ((j + 1 : Nat) : Int) := by rw [wrap64 (by omega) (by omega)]; rfl
      simp only [↓v_lss, h1, decide_true, v_cond_t, ↓h_callv, hcc, true_and, List.map_cons, List.map_nil, get_c, List.nil_append, List.cons_append, ↓v_add, w1, keq_self]
      exact hstep j _ _ hj ⟨k - 1, by omega, j + 1, rfl, by omega, rfl⟩
    · have h1 : ¬ (j : Int) < (v.length : Int) := by omega
      have hjl : j = v.length := by omega
      simp only [↓v_lss, h1, decide_false, v_cond_f, keq_self, true_and]
      exact ⟨by rw [hjl], trivial⟩

theorem c47 (b : Bool) : VCall Tryd.prog 47 [.bool b] (· = .int .i32 (if b then 1 else 0)) := by
  refine vcall_V F47_ok (cDr_ok _ _ _) rfl (V47_ok _ _) ?_
  unfold V47
  cases b <;> simp [↓amR]
theorem c51 (b : Bool) : VCall Tryd.prog 51 [.bool b] (· = .int .i32 (if b then 1 else 0)) := by
  refine vcall_V F51_ok (cDr_ok _ _ _) rfl (V51_ok _ _) ?_
  unfold V51
  cases b <;> simp [↓amR]
theorem vbool (b : Bool) : ∀ d, d ∈ [D.bool b] → d.vd = true ∧ AllOne d := fun d hd => by simp at hd; subst hd; exact ⟨rfl, by simp⟩
section
variable {v : List Int} {m : Nat} {h : Heap} (hm : h m = .box (li32 v)) {k : Nat} (hk : k < v.length) (s : Int) (K : D → Heap → Prop)
include hm hk
theorem a46 (hK : K (.int .i32 (ibits .or .i32 s (ishl .i32 (if at0 v k = 0 then 0 else 1) k))) h) : ACall Tryd.prog 46 [.int .i32 s, .int .i64 k, .ptr m 0 0] h K := by
  refine acall_V F46_ok (cDr_ok _ _ _) rfl (V46_ok _ _ _ _) ?_
  unfold V46
  have hg : v[k]? = some (at0 v k) := by rw [at0, List.getElem?_eq_getElem hk]; rfl
  have hv : v[k] = at0 v k := by rw [at0, List.getElem?_eq_getElem hk]; rfl
  simp only [↓g_ld, hm, li_cells, ↓v_part1, List.getElem?_cons_zero, true_and, li32_sl, ↓h_iaddm, Int.toNat_natCast, hg]
  simp [↓amR, hk]
  refine a_call (c47 _) (vbool _) ?_
  rintro _ rfl
  simp only [↓v_shl, ↓v_or]
  refine ⟨by omega, ?_⟩
  have e : (if (!decide (at0 v k = 0)) = true then (1 : Int) else 0) = if at0 v k = 0 then 0 else 1 := by by_cases h : at0 v k = 0 <;> simp [h]
  rw [hv, e]; exact hK
theorem a48 (hK : K (.int .i32 (ibits .or .i32 s (if at0 v k = 0 then 0 else 1))) h) : ACall Tryd.prog 48 [.int .i32 s, .int .i64 k, .ptr m 0 0] h K := by
  refine acall_V F48_ok (cDr_ok _ _ _) rfl (V48_ok _ _ _ _) ?_
  unfold V48
  have hg : v[k]? = some (at0 v k) := by rw [at0, List.getElem?_eq_getElem hk]; rfl
  have hv : v[k] = at0 v k := by rw [at0, List.getElem?_eq_getElem hk]; rfl
  simp only [↓g_ld, hm, li_cells, ↓v_part1, List.getElem?_cons_zero, true_and, li32_sl, ↓h_iaddm, Int.toNat_natCast, hg]
  simp [↓amR, hk]
  refine a_call (c47 _) (vbool _) ?_
  rintro _ rfl
  simp only [↓v_or]
  have e : (if (!decide (at0 v k = 0)) = true then (1 : Int) else 0) = if at0 v k = 0 then 0 else 1 := by by_cases h : at0 v k = 0 <;> simp [h]
  rw [hv, e]; exact hK
theorem a49 (hK : K (.int .i32 (ibits .and .i32 s (if at0 v k = 0 then 0 else 1))) h) : ACall Tryd.prog 49 [.int .i32 s, .int .i64 k, .ptr m 0 0] h K := by
  refine acall_V F49_ok (cDr_ok _ _ _) rfl (V49_ok _ _ _ _) ?_
  unfold V49
  have hg : v[k]? = some (at0 v k) := by rw [at0, List.getElem?_eq_getElem hk]; rfl
  have hv : v[k] = at0 v k := by rw [at0, List.getElem?_eq_getElem hk]; rfl
  simp only [↓g_ld, hm, li_cells, ↓v_part1, List.getElem?_cons_zero, true_and, li32_sl, ↓h_iaddm, Int.toNat_natCast, hg]
  simp [↓amR, hk]
  refine a_call (c47 _) (vbool _) ?_
  rintro _ rfl
  simp only [↓v_and]
  have e : (if (!decide (at0 v k = 0)) = true then (1 : Int) else 0) = if at0 v k = 0 then 0 else 1 := by by_cases h : at0 v k = 0 <;> simp [h]
  rw [hv, e]; exact hK
theorem a50 (hK : K (.int .i32 (IntKind.i32.wrap (s + at0 v k))) h) : ACall Tryd.prog 50 [.int .i32 s, .int .i64 k, .ptr m 0 0] h K := by
  refine acall_V F50_ok (cDr_ok _ _ _) rfl (V50_ok _ _ _ _) ?_
  unfold V50
  have hg : v[k]? = some (at0 v k) := by rw [at0, List.getElem?_eq_getElem hk]; rfl
  have hv : v[k] = at0 v k := by rw [at0, List.getElem?_eq_getElem hk]; rfl
  simp only [↓g_ld, hm, li_cells, ↓v_part1, List.getElem?_cons_zero, true_and, li32_sl, ↓h_iaddm, Int.toNat_natCast, hg]
  simp [↓amR, hk]
  rw [hv]; exact hK
end
end Go.Am
/- Subgroup operations: Collect of the launch package. No condition. -/
namespace Go.Am
open Go Go.Proofs

/-- What Collect answers. -/
def collR (op : Int) (v x : List Int) : D := if collBad op v x then .tup [.nil, .int .i64 1] else .tup [li32 (collWs op v x), .int .i64 0]
theorem li32_vd (v : List Int) : (li32 v).vd = true ∧ AllOne (li32 v) := ⟨rfl, fun x hx => by rw [li_cells] at hx; simp at hx; subst hx; rfl⟩
theorem i32_one (xs : List Int) : ∀ x, x ∈ xs.map (D.int .i32) → ∀ y, y ∈ x.cells → y.vone = true := by
  intro x hx y hy
  simp only [List.mem_map] at hx
  obtain ⟨z, -, rfl⟩ := hx
  simp at hy; subst hy; rfl
theorem ret_const {n len : Nat} {c : Int} {h : Heap} {op : Int} {v x : List Int} (hb : ¬ collBad op v x) (hlen : len = v.length) (hn : h n = .arr 1 (List.replicate len (.int .i32 c))) (hc : ∀ i, oneW op v x i = c) :
    vret (· = collR op v x) (.tup [.ms n 0 len, .int .i64 0]) h := by
  subst hlen
  have hl : 1 ≤ v.length := by unfold collBad at hb; omega
  have e : List.replicate v.length (D.int .i32 c) = (collWs op v x).map (.int .i32) := by
    unfold collWs
    rw [List.map_congr_left (g := fun _ => c) (fun i _ => hc i)]
    simp [Function.comp_def, List.map_const']
  have el : D.ms n 0 v.length = .ms n 0 ((collWs op v x).map (D.int .i32)).length := by rw [List.length_map, collWs_len]
  rw [el]
  refine vret_tupown (esz := 1) (els := (collWs op v x).map (.int .i32)) (Or.inr ⟨n, rfl, by rw [hn, e]⟩) (i32_one _) (fun hn => ?_) ?_
  · have : (collWs op v x).length = 0 := by rw [List.map_eq_nil_iff.1 hn]; rfl
    rw [collWs_len] at this; omega
  · unfold collR; rw [if_neg hb]; rfl

theorem c34 {op : Int} {v x : List Int} (hv : v.length ≤ 1000000) (hxr : ∀ a, a ∈ x → -2147483648 ≤ a ∧ a ≤ 2147483647) : VCall Tryd.prog 34 [.int .i64 op, li32 v, li32 x] (· = collR op v x) := by
  refine vcall_V F34_ok (cDr_ok _ _ _) rfl (V34_ok _ _ _ _) ?_
  unfold V34
  rw [g_box]
  refine ⟨(li32_vd v).2, fun m t => ?_⟩
  obtain ⟨hA, eA⟩ : ∃ hA, hA = upd noHeap m (.box (li32 v)) := ⟨_, rfl⟩
  rw [← eA]
  have a0 : hA m = .box (li32 v) := by rw [eA, upd_self]
  have hlv : vlen (li32 v) hA = fun K => K (.int .i64 (v.length : Int)) := by funext K; rw [li32_sl, v_len, List.length_map]
  have hlx : vlen (li32 x) hA = fun K => K (.int .i64 (x.length : Int)) := by funext K; rw [li32_sl, v_len, List.length_map]
  simp only [↓g_ld, a0, li_cells, ↓v_part1, List.getElem?_cons_zero, true_and, hlv, hlx]
  have hbad : ∀ {h : Heap}, collBad op v x → vret (· = collR op v x) (.tup [.nil, .int .i64 1]) h := fun hb => vret_tup (by simp) (by unfold collR; rw [if_pos hb])
  by_cases h1 : v.length = x.length
  case neg =>
    have h1' : ¬ (v.length : Int) = (x.length : Int) := by omega
    simp only [↓v_neq, h1', decide_false, Bool.not_false, ↓v_guard, ne_eq, Bool.true_eq_false, false_implies, true_and, not_false_eq_true, true_implies, ↓h_pick, if_true, v_cond_t]
    exact hbad (by unfold collBad; omega)
  have h1' : (v.length : Int) = (x.length : Int) := by omega
  by_cases h2 : v.length < 1
  · have h2' : (v.length : Int) < 1 := by omega
    simp only [↓v_neq, ← h1', h2', decide_true, Bool.not_true, ↓v_guard, ne_eq, not_true_eq_false, Bool.false_eq_true, Bool.true_eq_false, false_implies, true_and, and_true, not_false_eq_true, true_implies, ↓v_lss, ↓h_pick, if_true, if_false, v_cond_t]
    exact hbad (by unfold collBad; omega)
  have h2' : ¬ (v.length : Int) < 1 := by omega
  by_cases h3 : 32 < v.length
  · have h3' : 32 < (v.length : Int) := by omega
    simp only [↓v_neq, ← h1', h2', h3', decide_true, decide_false, Bool.not_true, ↓v_guard, ne_eq, not_true_eq_false, Bool.false_eq_true, Bool.true_eq_false, false_implies, true_and, and_true, not_false_eq_true, true_implies, ↓v_lss, ↓v_gtr, ↓h_pick, if_true, if_false, v_cond_t]
    exact hbad (by unfold collBad; omega)
  have h3' : ¬ 32 < (v.length : Int) := by omega
  simp only [↓v_neq, ← h1', h2', h3', decide_true, decide_false, Bool.not_true, ↓v_guard, ne_eq, not_true_eq_false, Bool.false_eq_true, Bool.true_eq_false, false_implies, true_and, and_true, not_false_eq_true, true_implies, ↓v_lss, ↓v_gtr, ↓h_pick, if_true, if_false, v_cond_f, ↓v_eql]
  by_cases e1 : op = 1
  · subst e1
    simp only [decide_true, v_cond_t, ↓h_mkf, List.map_nil, List.map_cons, get_c]
    simp only [a0, li_cells, List.getElem?_cons_zero, true_and]
    refine a45 _ v 0 46 m hA _ hv (by kernel_rfl) (fun k s K hk hK => a46 a0 hk s K hK) fun n h' q1 q2 => ?_
    rw [fold_bal v _ (by omega)] at q2
    exact ret_const (by unfold collBad; omega) rfl q2 fun i => rfl
  by_cases e2 : op = 2
  · subst e2
    simp only [e1, decide_false, v_cond_f, decide_true, v_cond_t, ↓h_mkf, List.map_nil, List.map_cons, get_c]
    simp only [a0, li_cells, List.getElem?_cons_zero, true_and]
    refine a45 _ v 0 48 m hA _ hv (by kernel_rfl) (fun k s K hk hK => a48 a0 hk s K hK) fun n h' q1 q2 => ?_
    rw [fold_any v] at q2
    exact ret_const (by unfold collBad; omega) rfl q2 fun i => rfl
  by_cases e3 : op = 3
  · subst e3
    simp only [e1, e2, decide_false, v_cond_f, decide_true, v_cond_t, ↓h_mkf, List.map_nil, List.map_cons, get_c]
    simp only [a0, li_cells, List.getElem?_cons_zero, true_and]
    refine a45 _ v 1 49 m hA _ hv (by kernel_rfl) (fun k s K hk hK => a49 a0 hk s K hK) fun n h' q1 q2 => ?_
    rw [fold_all v] at q2
    exact ret_const (by unfold collBad; omega) rfl q2 fun i => rfl
  by_cases e6 : op = 6
  · subst e6
    simp only [e1, e2, e3, decide_false, v_cond_f, decide_true, v_cond_t, ↓h_mkf, List.map_nil, List.map_cons, get_c]
    simp only [a0, li_cells, List.getElem?_cons_zero, true_and]
    refine a45 _ v 0 50 m hA _ hv (by kernel_rfl) (fun k s K hk hK => a50 a0 hk s K hK) fun n h' q1 q2 => ?_
    rw [fold_sum v] at q2
    exact ret_const (by unfold collBad; omega) rfl q2 fun i => rfl
  simp only [e1, e2, e3, e6, decide_false, v_cond_f, keq_self, true_and]
  refine ⟨fun l h' => l = [.bool (decide (op = 5 ∨ op = 4))] ∧ h' = hA, ?_, ?_⟩
  case refine_2 =>
    by_cases e5 : op = 5
    · simp [e5, v_cond_t]
    · by_cases e4 : op = 4 <;> simp [e5, e4, v_cond_f]
  rintro f h' ⟨hf, hh⟩
  subst hh
  simp only [List.cons.injEq, and_true] at hf
  rw [hf]
  by_cases e45 : op = 5 ∨ op = 4
  case neg =>
    simp only [e45, decide_false, v_cond_f]
    exact hbad (by unfold collBad; omega)
  simp only [e45, decide_true, v_cond_t]
  have hgood : ¬ collBad op v x := by unfold collBad; omega
  have hn1 : 1 ≤ v.length := by omega
  refine ⟨fun l h' => ∃ out, l = [out] ∧ Own 1 h' out ((collWs op v x).map (.int .i32)), ?_, ?_⟩
  · rintro f2 h2 ⟨out, hf2, ho⟩
    simp only [List.cons.injEq, and_true] at hf2
    rw [hf2]
    refine vret_tupown ho (i32_one _) (fun hn => ?_) ?_
    · have : (collWs op v x).length = 0 := by rw [List.map_eq_nil_iff.1 hn]; rfl
      rw [collWs_len] at this; omega
    · unfold collR; rw [if_neg hgood]; rfl
  have hlvg : ∀ h : Heap, vlen (li32 v) h = fun K => K (.int .i64 (v.length : Int)) := fun h => by funext K; rw [li32_sl, v_len, List.length_map]
  simp only [a0, li_cells, List.getElem?_cons_zero, true_and, hlvg]
  unfold V34_L0
  refine ⟨fun k l h' => ∃ (j : Nat) (out : D), l = [out, .int .i32 (w32 (sumN v j)), .int .i64 j] ∧ k + j = v.length ∧ h' m = .box (li32 v) ∧ Own 1 h' out (((List.range j).map (oneW op v x)).map (.int .i32)), v.length,
    ⟨0, .nil, by simp [sumN, w32_eq], by omega, a0, Or.inl ⟨rfl, rfl⟩⟩, ?_⟩
  rintro k f3 h3 ⟨j, out, hf3, hkj, b0, ho⟩
  simp only [List.cons.injEq, and_true] at hf3
  obtain ⟨g1, g2, g3⟩ := hf3
  rw [g1, g2, g3]
  by_cases hj : j < v.length
  case neg =>
    have hj' : ¬ (j : Int) < (v.length : Int) := by omega
    have hjl : j = v.length := by omega
    simp only [↓v_lss, hj', decide_false, v_cond_f, keq_self, true_and]
    exact ⟨out, rfl, by rw [hjl] at ho; exact ho⟩
  have hj' : (j : Int) < (v.length : Int) := by omega
  have w1 : IntKind.i64.wrap ((j : Int) + 1) = ((j + 1 : Nat) : Int) := by rw [wrap64 (by omega) (by omega)]; rfl
  have hg : v[j]? = some (at0 v j) := by rw [at0, List.getElem?_eq_getElem hj]; rfl
  have hgx : x[j]? = some (at0 x j) := by rw [at0, List.getElem?_eq_getElem (show j < x.length by omega)]; rfl
  have hs : IntKind.i32.wrap (w32 (sumN v j) + at0 v j) = w32 (sumN v (j + 1)) := by rw [sumN]; exact w32_add _ _
  have hr : ∀ c, (List.range (j + 1)).map (oneW op v x) = (List.range j).map (oneW op v x) ++ [c] ↔ oneW op v x j = c := fun c => by rw [List.range_succ, List.map_append]; simp
  simp only [↓v_lss, hj', decide_true, v_cond_t]
  refine ⟨fun l h' => ∃ out, l = [out, .int .i32 (w32 (sumN v (j + 1)))] ∧ h' m = .box (li32 v) ∧ Own 1 h' out (((List.range (j + 1)).map (oneW op v x)).map (.int .i32)), ?_, ?_⟩
  · rintro f4 h4 ⟨out', hf4, b4, ho4⟩
    simp only [List.cons.injEq, and_true] at hf4
    obtain ⟨q1, q2⟩ := hf4
    rw [q1, q2]
    simp only [↓v_add, w1, keq_self, true_and]
    exact ⟨k - 1, by omega, j + 1, out', rfl, by omega, b4, ho4⟩
  have app : ∀ c : Int, oneW op v x j = c → ∀ (z z' : D), vhOp Tryd.prog (.bldS true 1 1 z [(0, .c (.int .i32 c))]) h3 fun a83 h84 =>
      vhOp Tryd.prog (.app (.c out) (.c a83) 1 4 z') h84 fun a85 h86 => ∃ out, [a85, D.int .i32 (w32 (sumN v (j + 1)))] = [out, .int .i32 (w32 (sumN v (j + 1)))] ∧ h86 m = .box (li32 v) ∧ Own 1 h86 out (((List.range (j + 1)).map (oneW op v x)).map (.int .i32)) := by
    intro c hc z z'
    have hl : (((List.range j).map (oneW op v x)).map (D.int .i32)).length = j := by simp
    refine g_append ho rfl (by simp) rfl (by rw [hl]; omega) (by rw [hl]; omega) fun v' h' q1 q2 => ⟨v', rfl, ?_, ?_⟩
    · rw [q2 m (by rw [b0]; simp) (own_box ho b0), b0]
    · rw [(hr c).2 hc, List.map_append]; exact q1
  simp only [↓g_ld, b0, li_cells, ↓v_part1, List.getElem?_cons_zero, true_and]
  simp only [li32_sl]
  simp only [↓h_iadd, List.length_map, Int.toNat_natCast, List.getElem?_map, hg, Option.map_some]
  refine ⟨by omega, hj', fun d hd => ?_⟩
  cases hd
  refine ⟨rfl, ?_⟩
  simp only [↓h_ldv, cells_int, ↓v_part1, List.getElem?_cons_zero, ↓v_add, hs, ↓v_eql]
  by_cases e5 : op = 5
  · subst e5
    simp only [decide_true, v_cond_t, keq_self, true_and]
    exact app _ rfl _ _
  · have e4 : op = 4 := by omega
    subst e4
    simp only [e5, decide_false, v_cond_f]
    simp only [↓h_iadd, List.length_map, Int.toNat_natCast, List.getElem?_map, hgx, Option.map_some]
    refine ⟨by omega, by omega, fun d hd => ?_⟩
    cases hd
    refine ⟨rfl, ?_⟩
    have hxa := hxr (at0 x j) (List.mem_of_getElem? hgx)
    have wx : IntKind.i64.wrap (at0 x j) = at0 x j := wrap64 (by omega) (by omega)
    simp only [↓h_ldv, cells_int, ↓v_part1, List.getElem?_cons_zero, ↓h_conv, wx, ↓v_rem]
    refine ⟨by omega, ?_⟩
    have m1 : 0 ≤ at0 x j % (v.length : Int) := Int.emod_nonneg _ (by omega)
    have m2 : at0 x j % (v.length : Int) < v.length := Int.emod_lt_of_pos _ (by omega)
    have m3 : (at0 x j).tmod (v.length : Int) = at0 x j % (v.length : Int) ∨ (at0 x j).tmod (v.length : Int) = at0 x j % (v.length : Int) - v.length := by
      rw [Int.tmod_eq_emod]; split
      · left; omega
      · right; omega
    refine ⟨fun l h' => l = [.int .i64 (at0 x j % (v.length : Int))] ∧ h' = h3, ?_, ?_⟩
    · rintro f5 h5 ⟨hf5, hh5⟩
      subst hh5
      simp only [List.cons.injEq, and_true] at hf5
      rw [hf5]
      have hgv := at0_get (v := v) (show (at0 x j % (v.length : Int)).toNat < v.length by omega)
      simp only [↓g_ld, b0, li_cells, ↓v_part1, List.getElem?_cons_zero, true_and]
      simp only [li32_sl]
      simp only [↓h_iadd, List.length_map, List.getElem?_map, hgv, Option.map_some]
      refine ⟨m1, m2, fun d hd => ?_⟩
      cases hd
      refine ⟨rfl, ?_⟩
      simp only [↓h_ldv, cells_int, ↓v_part1, List.getElem?_cons_zero, keq_self, true_and]
      exact app _ rfl _ _
    · rcases m3 with m3 | m3
      · have : ¬ at0 x j % (v.length : Int) < 0 := by omega
        simp only [m3, ↓v_lss, this, decide_false, v_cond_f, keq_self, true_and]
      · have : at0 x j % (v.length : Int) - (v.length : Int) < 0 := by omega
        have w5 : IntKind.i64.wrap (at0 x j % (v.length : Int) - (v.length : Int) + (v.length : Int)) = at0 x j % (v.length : Int) := by rw [wrap64 (by omega) (by omega)]; omega
        simp only [m3, ↓v_lss, this, decide_true, v_cond_t, ↓v_add, w5, keq_self, true_and]
end Go.Am
/- Subgroup operations: the reference. No condition. -/
namespace Go.Am
open Go Go.Proofs

theorem tmod_ref {a : Int} {n : Nat} (hn : 1 ≤ n) : (a.tmod (n : Int) + n).tmod (n : Int) = a % (n : Int) ∧ -(n : Int) < a.tmod n ∧ a.tmod n < n := by
  have m1 : 0 ≤ a % (n : Int) := Int.emod_nonneg _ (by omega)
  have m2 : a % (n : Int) < n := Int.emod_lt_of_pos _ (by omega)
  have m3 : a.tmod (n : Int) = a % (n : Int) ∨ a.tmod (n : Int) = a % (n : Int) - n := by
    rw [Int.tmod_eq_emod]; split
    · left; omega
    · right; omega
  have m4 : a % (n : Int) = 0 ∨ 0 < a % (n : Int) := by omega
  have m5 : -(n : Int) < a.tmod n ∧ a.tmod n < n := by
    have h1 := Int.tmod_lt_of_pos a (b := (n : Int)) (by omega)
    have h2 := Int.lt_tmod_of_pos a (b := (n : Int)) (by omega)
    exact ⟨h2, h1⟩
  refine ⟨?_, m5⟩
  rw [Int.tmod_eq_emod_of_nonneg (by omega)]
  rcases m3 with m3 | m3
  · rw [m3, Int.add_emod_right, Int.emod_emod]
  · rw [m3, Int.sub_add_cancel, Int.emod_emod]

theorem c35 {op : Int} {v x : List Int} {i : Nat} (hop : 1 ≤ op ∧ op ≤ 6) (hl : 1 ≤ v.length ∧ v.length ≤ 32) (hvx : v.length = x.length) (hi : i < v.length) (hxr : ∀ a, a ∈ x → -2147483648 ≤ a ∧ a ≤ 2147483647) :
    VCall Tryd.prog 35 [.int .i64 op, .int .i64 i, li32 v, li32 x] (· = .int .i32 (oneW op v x i)) := by
  refine vcall_V F35_ok (cDr_ok _ _ _) rfl (V35_ok _ _ _ _ _) ?_
  unfold V35
  have hlvg : ∀ h : Heap, vlen (li32 v) h = fun K => K (.int .i64 (v.length : Int)) := fun h => by funext K; rw [li32_sl, v_len, List.length_map]
  simp only [hlvg]
  refine ⟨fun l _ => l = [.int .i32 (w32 (balN v v.length)), .int .i64 (cntN v v.length), .int .i32 (w32 (sumN v v.length)), .int .i32 (w32 (sumN v (i + 1)))], ?_, ?_⟩
  · rintro f h' hf
    simp only [List.cons.injEq, and_true] at hf
    obtain ⟨g1, g2, g3, g4⟩ := hf
    rw [g1, g2, g3, g4]
    unfold oneW
    by_cases e1 : op = 1
    · simp [↓amR, e1]
    by_cases e2 : op = 2
    · subst e2
      simp only [↓v_eql, e1, decide_false, v_cond_f, decide_true, v_cond_t, ↓v_gtr]
      refine a_call (c51 _) (vbool _) ?_
      rintro _ rfl
      by_cases hc : 0 < cntN v v.length
      · have hc' : 0 < (cntN v v.length : Int) := by omega
        simp [↓amR, hc]
      · have hc' : ¬ 0 < (cntN v v.length : Int) := by omega
        simp [↓amR, hc]
    by_cases e3 : op = 3
    · subst e3
      simp only [↓v_eql, e1, e2, decide_false, v_cond_f, decide_true, v_cond_t]
      refine a_call (c51 _) (vbool _) ?_
      rintro _ rfl
      by_cases hc : cntN v v.length = v.length
      · have hc' : (cntN v v.length : Int) = (v.length : Int) := by omega
        simp [↓amR, hc]
      · have hc' : ¬ (cntN v v.length : Int) = (v.length : Int) := by omega
        simp [↓amR, hc, hc']
    by_cases e5 : op = 5
    · simp [↓amR, e5]
    by_cases e6 : op = 6
    · simp [↓amR, e6]
    have hgx := at0_get (v := x) (show i < x.length by omega)
    have hxa := hxr _ (List.mem_of_getElem? hgx)
    have wx : IntKind.i64.wrap (at0 x i) = at0 x i := wrap64 (by omega) (by omega)
    obtain ⟨t1, t2, t3⟩ := tmod_ref (a := at0 x i) (n := v.length) hl.1
    have wa : IntKind.i64.wrap ((at0 x i).tmod (v.length : Int) + (v.length : Int)) = (at0 x i).tmod (v.length : Int) + (v.length : Int) := wrap64 (by omega) (by omega)
    have m1 : 0 ≤ at0 x i % (v.length : Int) := Int.emod_nonneg _ (by omega)
    have m2 : at0 x i % (v.length : Int) < v.length := Int.emod_lt_of_pos _ (by omega)
    have hgv := at0_get (v := v) (show (at0 x i % (v.length : Int)).toNat < v.length by omega)
    simp only [↓v_eql, e1, e2, e3, e5, e6, decide_false, v_cond_f, if_false]
    simp only [li32_sl]
    simp only [↓h_iadd, List.length_map, Int.toNat_natCast, List.getElem?_map, hgx, Option.map_some]
    refine ⟨by omega, by omega, fun d hd => ?_⟩
    cases hd
    refine ⟨rfl, ?_⟩
    simp only [↓h_ldv, cells_int, ↓v_part1, List.getElem?_cons_zero, ↓h_conv, wx, ↓v_rem, ↓v_add, wa, t1]
    refine ⟨by omega, by omega, ?_⟩
    simp only [↓h_iadd, List.length_map, List.getElem?_map, hgv, Option.map_some]
    refine ⟨m1, m2, fun d hd => ?_⟩
    cases hd
    refine ⟨rfl, ?_⟩
    simp only [↓h_ldv, cells_int, ↓v_part1, List.getElem?_cons_zero, vret_int]
  unfold V35_L0
  refine ⟨fun n l _ => ∃ k : Nat, l = [.int .i32 (w32 (balN v k)), .int .i32 (w32 ((2 ^ k : Nat) : Int)), .int .i64 (cntN v k), .int .i32 (w32 (sumN v k)), .int .i32 (w32 (sumN v (min k (i + 1)))), .int .i64 k] ∧ n + k = v.length, v.length,
    ⟨0, by simp [balN, cntN, sumN, w32_eq], by omega⟩, ?_⟩
  rintro n f h' ⟨k, hf, hnk⟩
  simp only [List.cons.injEq, and_true] at hf
  obtain ⟨g1, g2, g3, g4, g5, g6⟩ := hf
  rw [g1, g2, g3, g4, g5, g6]
  by_cases hk : k < v.length
  case neg =>
    have hk' : ¬ (k : Int) < (v.length : Int) := by omega
    have hkl : k = v.length := by omega
    simp only [↓v_lss, hk', decide_false, v_cond_f, keq_self, true_and]
    rw [hkl, Nat.min_eq_right (by omega)]
  have hk' : (k : Int) < (v.length : Int) := by omega
  have wk : IntKind.i64.wrap ((k : Int) + 1) = ((k + 1 : Nat) : Int) := by rw [wrap64 (by omega) (by omega)]; rfl
  have hg := at0_get (v := v) hk
  have hcl := cntN_le v k
  simp only [↓v_lss, hk', decide_true, v_cond_t]
  refine ⟨fun l _ => l = [.int .i32 (w32 (balN v (k + 1))), .int .i32 (w32 ((2 ^ (k + 1) : Nat) : Int)), .int .i64 (cntN v (k + 1)), .int .i32 (w32 (sumN v (k + 1))), .int .i32 (w32 (sumN v (min (k + 1) (i + 1))))], ?_, ?_⟩
  · rintro f2 h2 hf2
    simp only [List.cons.injEq, and_true] at hf2
    obtain ⟨q1, q2, q3, q4, q5⟩ := hf2
    simp only [↓v_add, wk, keq_self, true_and]
    exact ⟨n - 1, by omega, k + 1, by rw [q1, q2, q3, q4, q5], by omega⟩
  have ld : ∀ (hh : Heap) (K : D → Heap → Prop), K (.int .i32 (at0 v k)) hh → vhOp Tryd.prog (.iadd (.c (li32 v)) (.c (.int .i64 (k : Int))) 1) hh fun a46 h47 => vhOp Tryd.prog (.ld (.c a46) 1 false) h47 K := by
    intro hh K hK
    rw [li32_sl]
    simp only [↓h_iadd, List.length_map, Int.toNat_natCast, List.getElem?_map, hg, Option.map_some]
    refine ⟨by omega, hk', fun d hd => ?_⟩
    cases hd
    refine ⟨rfl, ?_⟩
    simp only [↓h_ldv, cells_int, ↓v_part1, List.getElem?_cons_zero]
    exact hK
  refine ⟨fun l _ => l = [.int .i32 (w32 (balN v (k + 1))), .int .i64 (cntN v (k + 1))], ?_, ?_⟩
  · rintro f3 h3 hf3
    simp only [List.cons.injEq, and_true] at hf3
    obtain ⟨q1, q2⟩ := hf3
    have e2 : IntKind.i32.wrap (2 * w32 ((2 ^ k : Nat) : Int)) = w32 ((2 ^ (k + 1) : Nat) : Int) := by
      have := w32_mul2 ((2 ^ k : Nat) : Int)
      have e : (2 : Int) * ((2 ^ k : Nat) : Int) = ((2 ^ (k + 1) : Nat) : Int) := by rw [Nat.pow_succ]; omega
      rw [e] at this
      exact this
    have e4 : IntKind.i32.wrap (w32 (sumN v k) + at0 v k) = w32 (sumN v (k + 1)) := w32_add _ _
    rw [q1, q2]
    simp only [↓v_mul, e2]
    refine ld _ _ ?_
    simp only [↓v_add, e4, ↓v_leq]
    by_cases hki : k ≤ i
    · have hki' : (k : Int) ≤ (i : Int) := by omega
      simp only [hki', decide_true, v_cond_t]
      refine ld _ _ ?_
      have m1 : min k (i + 1) = k := by omega
      have m2 : min (k + 1) (i + 1) = k + 1 := by omega
      simp only [m1, m2, ↓v_add, e4, keq_self, true_and]
    · have hki' : ¬ (k : Int) ≤ (i : Int) := by omega
      have m1 : min k (i + 1) = i + 1 := by omega
      have m2 : min (k + 1) (i + 1) = i + 1 := by omega
      simp only [hki', decide_false, v_cond_f, m1, m2, keq_self, true_and]
  · refine ld _ _ ?_
    by_cases hz : at0 v k = 0
    · simp only [↓v_neq, hz, decide_true, Bool.not_true, v_cond_f, keq_self, true_and, balN, cntN, if_true, Nat.add_zero]
    · have e1 : IntKind.i32.wrap (w32 (balN v k) + w32 ((2 ^ k : Nat) : Int)) = w32 ((balN v k + 2 ^ k : Nat) : Int) := by
        have := w32_add2 (balN v k) ((2 ^ k : Nat) : Int)
        rw [show ((balN v k : Nat) : Int) + ((2 ^ k : Nat) : Int) = ((balN v k + 2 ^ k : Nat) : Int) by omega] at this
        exact this
      have e3 : IntKind.i64.wrap ((cntN v k : Int) + 1) = ((cntN v k + 1 : Nat) : Int) := by rw [wrap64 (by omega) (by omega)]; rfl
      simp only [↓v_neq, hz, decide_false, Bool.not_false, v_cond_t, ↓v_add, e1, e3, keq_self, true_and, balN, cntN, if_false]
end Go.Am
/- Subgroup operations: CollectIn, and LaunchCollects. No condition. -/
namespace Go.Am
open Go Go.Proofs

/-- What a subgroup operation answers, as one value. -/
def collD (op : Int) (v x : List Int) : D := if collBad op v x then .agg [.nil, .int .i64 1] else .agg [li32 (collWs op v x), .int .i64 0]
/-- Its list. -/
def collLD (op : Int) (v x : List Int) : D := if collBad op v x then .nil else li32 (collWs op v x)
def collE (op : Int) (v x : List Int) : Int := if collBad op v x then 1 else 0
theorem collD_eq (op : Int) (v x : List Int) : collD op v x = .agg [collLD op v x, .int .i64 (collE op v x)] := by unfold collD collLD collE; split <;> rfl
theorem collR_eq (op : Int) (v x : List Int) : collR op v x = .tup [collLD op v x, .int .i64 (collE op v x)] := by unfold collR collLD collE; split <;> rfl
theorem collLD_vd (op : Int) (v x : List Int) : (collLD op v x).vone = true ∧ (collLD op v x).one = true ∧ (collLD op v x).cells = [collLD op v x] := by
  unfold collLD; split <;> exact ⟨rfl, rfl, rfl⟩
theorem collD_vd (op : Int) (v x : List Int) : (collD op v x).vd = true ∧ AllOne (collD op v x) := by
  unfold collD
  split
  · exact ⟨rfl, fun x hx => by simp [D.cells] at hx; rcases hx with rfl | rfl <;> rfl⟩
  · exact ⟨rfl, fun x hx => by simp [D.cells] at hx; rcases hx with rfl | rfl <;> rfl⟩

theorem c17 {v : List Int} {n : Nat} (hv : v.length ≤ 9223372036854775807) (hn : n ≤ 9223372036854775807) : VCall Tryd.prog 17 [li32 v, .int .i64 n] (· = li32 (v.take n)) := by
  refine vcall_V F17_ok (cDr_ok _ _ _) rfl (V17_ok _ _ _) ?_
  unfold V17
  rw [li32_sl]
  simp only [↓v_len, List.length_map, ↓h_mn, ↓h_slcsl, ↓vopt_none, ↓vopt_some]
  have hmin : (if (n : Int) < (v.length : Int) then (n : Int) else v.length) = ((v.take n).length : Int) := by
    rw [List.length_take]; split <;> omega
  rw [hmin]
  have hxl : (v.take n).length ≤ v.length := by rw [List.length_take]; omega
  refine ⟨by omega, by omega, by omega, by omega, fun d hd => ?_, ?_⟩
  · simp only [List.mem_map] at hd
    obtain ⟨z, -, rfl⟩ := hd
    rfl
  have e1 : (((v.take n).length : Int) - ((0 : Nat) : Int)).toNat = (v.take n).length := by omega
  have e2 : (((0 : Nat) : Int)).toNat = 0 := rfl
  rw [e1, e2, List.drop_zero, ← List.map_take]
  have : v.take (v.take n).length = v.take n := by
    rw [List.length_take]
    rcases Nat.le_total n v.length with h | h
    · rw [Nat.min_eq_left h]
    · rw [Nat.min_eq_right h, List.take_of_length_le (Nat.le_refl _), List.take_of_length_le h]
  rw [this, vret_sl]
  rfl

theorem c18 {op : Int} {v x : List Int} (hv : v.length ≤ 1000000) (hxr : ∀ a, a ∈ x → -2147483648 ≤ a ∧ a ≤ 2147483647) : VCall Tryd.prog 18 [.int .i64 op, li32 v, li32 x] (· = collD op v x) := by
  refine vcall_V F18_ok (cDr_ok _ _ _) rfl (V18_ok _ _ _ _) ?_
  unfold V18
  rw [g_alloc]
  intro m0 t0
  refine a_call (c34 hv hxr) (fun d hd => ?_) ?_
  · simp at hd
    rcases hd with rfl | rfl | rfl
    · exact ⟨rfl, by simp⟩
    · exact li32_vd _
    · exact li32_vd _
  rintro r rfl
  rw [collR_eq, collD_eq]
  obtain ⟨q1, q2, q3⟩ := collLD_vd op v x
  have hvd := collD_vd op v x
  rw [collD_eq] at hvd
  generalize collLD op v x = W at *
  generalize collE op v x = e at *
  simp [↓amR]
  have hf : fillD [D.nil, D.int .i64 0] [(0, 1, W.cells), (1, 1, [D.int .i64 e])] = [W, .int .i64 e] := by rw [q3]; rfl
  rw [hf]
  refine ⟨fun p hp => ?_, rfl, fun x hx => ?_, by simp, ?_⟩
  · simp only [List.mem_cons, List.not_mem_nil, or_false] at hp
    rcases hp with rfl | rfl
    · rw [q3]; simp [q2]
    · simp
  · simp only [List.mem_cons, List.not_mem_nil, or_false] at hx
    rcases hx with rfl | rfl
    · exact q2
    · rfl
  · exact vret_vd hvd rfl

theorem c20n : VCall Tryd.prog 20 [.nil, .nil] (· = .bool true) := by
  refine vcall_V F20_ok (cDr_ok _ _ _) rfl (V20_ok _ _ _) ?_
  unfold V20
  simp [↓amR]
  refine ⟨fun _ _ => True, ?_⟩
  unfold V20_L0
  refine ⟨fun k l _ => l = [.int .i64 0], 0, rfl, ?_⟩
  rintro k f h' hf
  simp only [List.cons.injEq, and_true] at hf
  rw [hf]; simp [↓amR]
theorem c20 (xs : List Int) (hl : xs.length ≤ 1000000) : VCall Tryd.prog 20 [li32 xs, li32 xs] (· = .bool true) := by
  refine vcall_V F20_ok (cDr_ok _ _ _) rfl (V20_ok _ _ _) ?_
  unfold V20
  rw [li32_sl]
  simp [↓amR]
  refine ⟨fun _ _ => True, ?_⟩
  unfold V20_L0
  refine ⟨fun k l _ => ∃ j : Nat, l = [.int .i64 j] ∧ k + j = xs.length, xs.length, ⟨0, rfl, by omega⟩, ?_⟩
  rintro k f h' ⟨j, hf, hkj⟩
  simp only [List.cons.injEq, and_true] at hf
  rw [hf]; simp [↓amR]
  intro hj
  refine ⟨hj, fun a ha => ⟨hj, fun b hb => ?_⟩⟩
  rw [ha] at hb; cases hb
  refine ⟨rfl, fun _ => ⟨k - 1, by omega, j + 1, ?_, by omega⟩⟩
  rw [wrap64 (by omega) (by omega)]; rfl
theorem c20L (op : Int) (v x : List Int) (hv : v.length ≤ 1000000) : VCall Tryd.prog 20 [collLD op v x, collLD op v x] (· = .bool true) := by
  unfold collLD
  split
  · exact c20n
  · exact c20 _ (by rw [collWs_len]; exact hv)

theorem c19 {op : Int} {v x : List Int} (hv : v.length ≤ 1000000) (hx : x.length ≤ 1000000) (hxr : ∀ a, a ∈ x → -2147483648 ≤ a ∧ a ≤ 2147483647) : VCall Tryd.prog 19 [.int .i64 op, li32 v, li32 x] (· = collD op v x) := by
  refine vcall_V F19_ok (cDr_ok _ _ _) rfl (V19_ok _ _ _ _) ?_
  unfold V19
  rw [g_alloc]
  intro m0 t0
  obtain ⟨hA, eA⟩ : ∃ hA, hA = upd noHeap m0 (.box (.agg [.nil, .int .i64 0])) := ⟨_, rfl⟩
  rw [← eA]
  have a0 : hA m0 = .box (.agg [.nil, .int .i64 0]) := by rw [eA, upd_self]
  have hlv : ∀ h : Heap, vlen (li32 v) h = fun K => K (.int .i64 (v.length : Int)) := fun h => by funext K; rw [li32_sl, v_len, List.length_map]
  have hlx : ∀ h : Heap, vlen (li32 x) h = fun K => K (.int .i64 (x.length : Int)) := fun h => by funext K; rw [li32_sl, v_len, List.length_map]
  have tail : collBad op v x → vhOp Tryd.prog (.bld [.nil, .int .i64 0] [(1, 1, .c (.int .i64 1))]) hA fun a31 h32 =>
      vhOp Tryd.prog (.st (.c (.ptr m0 0 0)) (.c a31) 2) h32 fun a33 h34 =>
      vhOp Tryd.prog (.ld (.c (.ptr m0 0 0)) 2 true) h34 fun a35 _ => vret (· = collD op v x) a35 h34 := by
    intro hb
    have hD : collD op v x = .agg [.nil, .int .i64 1] := if_pos hb
    have hvd := collD_vd op v x
    rw [hD] at hvd
    rw [hD]
    have hf : fillD [D.nil, D.int .i64 0] [(1, 1, [D.int .i64 1])] = [.nil, .int .i64 1] := rfl
    simp [↓amR, a0, hf]
    refine ⟨fun p hp => ?_, vret_vd hvd rfl⟩
    simp only [List.mem_cons, List.not_mem_nil, or_false] at hp
    subst hp; simp
  by_cases h1 : op < 1
  · simp only [↓v_lss, h1, decide_true, ↓v_guard, ne_eq, Bool.true_eq_false, false_implies, true_and, not_false_eq_true, true_implies, ↓h_pick, if_true, v_cond_t]
    exact tail (by unfold collBad; omega)
  by_cases h2 : 6 < op
  · simp only [↓v_lss, ↓v_gtr, h1, h2, decide_true, decide_false, ↓v_guard, ne_eq, Bool.true_eq_false, not_true_eq_false, Bool.false_eq_true, and_true, false_implies, true_and, not_false_eq_true, true_implies, ↓h_pick, if_true, if_false, v_cond_t]
    exact tail (by unfold collBad; omega)
  by_cases h3 : v.length = x.length
  case neg =>
    have h3' : ¬ (v.length : Int) = (x.length : Int) := by omega
    simp only [↓v_lss, ↓v_gtr, ↓v_neq, hlv, hlx, h1, h2, h3', Bool.not_false, decide_true, decide_false, ↓v_guard, ne_eq, Bool.true_eq_false, not_true_eq_false, Bool.false_eq_true, and_true, false_implies, true_and, not_false_eq_true, true_implies, ↓h_pick, if_true, if_false, v_cond_t]
    exact tail (by unfold collBad; omega)
  have h3' : (v.length : Int) = (x.length : Int) := by omega
  by_cases h4 : v.length < 1
  · have h4' : (v.length : Int) < 1 := by omega
    simp only [↓v_lss, ↓v_gtr, ↓v_neq, hlv, hlx, h1, h2, ← h3', h4', Bool.not_false, Bool.not_true, decide_true, decide_false, ↓v_guard, ne_eq, Bool.true_eq_false, not_true_eq_false, Bool.false_eq_true, and_true, false_implies, true_and, not_false_eq_true, true_implies, ↓h_pick, if_true, if_false, v_cond_t]
    exact tail (by unfold collBad; omega)
  have h4' : ¬ (v.length : Int) < 1 := by omega
  by_cases h5 : 32 < v.length
  · have h5' : 32 < (v.length : Int) := by omega
    simp only [↓v_lss, ↓v_gtr, ↓v_neq, hlv, hlx, h1, h2, ← h3', h4', h5', Bool.not_false, Bool.not_true, decide_true, decide_false, ↓v_guard, ne_eq, Bool.true_eq_false, not_true_eq_false, Bool.false_eq_true, and_true, false_implies, true_and, not_false_eq_true, true_implies, ↓h_pick, if_true, if_false, v_cond_t]
    exact tail (by unfold collBad; omega)
  have h5' : ¬ 32 < (v.length : Int) := by omega
  simp only [↓v_lss, ↓v_gtr, ↓v_neq, hlv, hlx, h1, h2, ← h3', h4', h5', Bool.not_false, Bool.not_true, decide_true, decide_false, ↓v_guard, ne_eq, Bool.true_eq_false, not_true_eq_false, Bool.false_eq_true, and_true, false_implies, true_and, not_false_eq_true, true_implies, ↓h_pick, if_true, if_false, v_cond_f]
  have hgood : ¬ collBad op v x := by unfold collBad; omega
  have hD : collD op v x = .agg [li32 (collWs op v x), .int .i64 0] := if_neg hgood
  rw [hD]
  rw [h_bld]
  refine ⟨fun p hp => by simp at hp, ?_⟩
  simp only [List.map_nil]
  rw [g_alloc]
  intro m1 t1
  have n01 : m0 ≠ m1 := t1.ne (by rw [a0]; simp)
  rw [g_st]
  simp only [upd_self, upd_upd]
  refine ⟨rfl, fun x hx => ?_, trivial, by simp, ?_⟩
  · have : x = .nil ∨ x = .int .i64 0 := by simpa [fillD] using hx
    rcases this with rfl | rfl <;> rfl
  have hset : setCells (D.agg [.nil, .int .i64 0]) 0 (D.agg (fillD [D.nil, D.int .i64 0] ([] : List (Nat × Nat × List D)))).cells = .agg [.nil, .int .i64 0] := rfl
  rw [hset]
  obtain ⟨hB, eB⟩ : ∃ hB, hB = upd hA m1 (.box (.agg [.nil, .int .i64 0])) := ⟨_, rfl⟩
  rw [← eB]
  have b0 : hB m0 = .box (.agg [.nil, .int .i64 0]) := by rw [eB, upd_other _ _ n01, a0]
  have b1 : hB m1 = .box (.agg [.nil, .int .i64 0]) := by rw [eB, upd_self]
  refine ⟨fun _ h' => ∃ out, h' m0 = .box (.agg [.nil, .int .i64 0]) ∧ h' m1 = .box (.agg [out, .int .i64 0]) ∧ Own 1 h' out ((collWs op v x).map (.int .i32)), ?_, ?_⟩
  · rintro f h' ⟨out, c0, c1, ho⟩
    obtain ⟨o1, o2⟩ := own_one ho
    simp only [↓g_ld, c1, cells_agg, ↓v_parta]
    refine ⟨trivial, by simp, ?_⟩
    simp only [↓g_st, c0, cells_agg]
    refine ⟨rfl, fun x hx => ?_, trivial, by simp, ?_⟩
    · have : x = out ∨ x = .int .i64 0 := by simpa using hx
      rcases this with rfl | rfl
      · exact o2
      · rfl
    have hs2 : setCells (D.agg [.nil, .int .i64 0]) 0 (List.take 2 (List.drop 0 [out, D.int .i64 0])) = .agg [out, .int .i64 0] := rfl
    rw [hs2]
    simp only [upd_self, cells_agg]
    refine ⟨trivial, by simp, ?_⟩
    have hne : (collWs op v x).map (D.int .i32) ≠ [] := fun hn => by
      have : (collWs op v x).length = 0 := by rw [List.map_eq_nil_iff.1 hn]; rfl
      rw [collWs_len] at this; omega
    exact vret_aggown1 (own_upd ho c0 _) (i32_one _) (fun he => absurd he hne) (fun he => absurd he hne) (fun _ => rfl)
  unfold V19_L0
  refine ⟨fun k l h' => ∃ (j : Nat) (out : D), l = [.int .i64 j] ∧ k + j = v.length ∧ h' m0 = .box (.agg [.nil, .int .i64 0]) ∧ h' m1 = .box (.agg [out, .int .i64 0]) ∧ Own 1 h' out (((List.range j).map (oneW op v x)).map (.int .i32)), v.length,
    ⟨0, .nil, rfl, by omega, b0, b1, Or.inl ⟨rfl, rfl⟩⟩, ?_⟩
  rintro k f hS ⟨j, out, hf, hkj, c0, c1, ho⟩
  simp only [List.cons.injEq, and_true] at hf
  rw [hf]
  by_cases hj : j < v.length
  case neg =>
    have hj' : ¬ (j : Int) < (v.length : Int) := by omega
    have hjl : j = v.length := by omega
    simp only [hlv, ↓v_lss, hj', decide_false, v_cond_f, keq_self, true_and]
    exact ⟨out, c0, c1, by rw [hjl] at ho; exact ho⟩
  have hj' : (j : Int) < (v.length : Int) := by omega
  have w1 : IntKind.i64.wrap ((j : Int) + 1) = ((j + 1 : Nat) : Int) := by rw [wrap64 (by omega) (by omega)]; rfl
  simp only [hlv, ↓v_lss, hj', decide_true, v_cond_t, ↓d_faddp, c1, ↓d_ld]
  refine ⟨⟨_, rfl⟩, ?_⟩
  simp only [↓g_ld, c1, cells_agg, ↓v_part1, Nat.add_zero, List.getElem?_cons_zero, true_and]
  refine d_call (r := .int .i32 (oneW op v x j)) (c35 ⟨by omega, by omega⟩ ⟨by omega, by omega⟩ h3 hj hxr) (fun d hd => ?_) ?_
  · simp [Arg.get] at hd
    rcases hd with rfl | rfl | rfl | rfl
    · exact ⟨rfl, by simp⟩
    · exact ⟨rfl, by simp⟩
    · exact li32_vd _
    · exact li32_vd _
  refine d_bld1 (by simp) rfl (fun y hy => by simp at hy; subst hy; rfl) (fun y hy => by simp at hy; subst hy; rfl) ?_
  refine ⟨⟨_, rfl⟩, ?_⟩
  have hl : (((List.range j).map (oneW op v x)).map (D.int .i32)).length = j := by simp
  refine g_appsl1 ho (by simp) rfl (by rw [hl]; omega) (by rw [hl]; omega) fun v' h' q1 q2 => ?_
  have g0 : h' m0 = .box (.agg [.nil, .int .i64 0]) := by rw [q2 m0 (by rw [c0]; simp) (own_box ho c0), c0]
  have g1 : h' m1 = .box (.agg [out, .int .i64 0]) := by rw [q2 m1 (by rw [c1]; simp) (own_box ho c1), c1]
  obtain ⟨p1, p2⟩ := own_one q1
  have hs : setCells (D.agg [out, .int .i64 0]) 0 [v'] = .agg [v', .int .i64 0] := rfl
  simp only [↓g_st, g1, cells_agg, p1, hs, true_and, ↓v_add, w1, keq_self]
  refine ⟨rfl, fun x hx => ?_, by simp, k - 1, by omega, j + 1, v', rfl, by omega, ?_, upd_self _ _ _, ?_⟩
  · rw [p1] at hx; simp at hx; subst hx; exact p2
  · rw [upd_other _ _ n01, g0]
  · have e : ((List.range (j + 1)).map (oneW op v x)).map (D.int .i32) = ((List.range j).map (oneW op v x)).map (.int .i32) ++ [.int .i32 (oneW op v x j)] := by
      rw [List.range_succ, List.map_append, List.map_append]; rfl
    rw [e]
    exact own_upd q1 g1 _
end Go.Am
/- LaunchCollects. No condition. -/
namespace Go.Am
open Go Go.Proofs

theorem vone_vd {d : D} (h : d.vone = true) : d.vd = true := by cases d <;> first | exact h | cases h
set_option maxRecDepth 20000 in
theorem law5 {op : Int} {v x : List Int} (hv : v.length ≤ 9223372036854775807) (hx : x.length ≤ 9223372036854775807) (hxr : ∀ a, a ∈ x → -2147483648 ≤ a ∧ a ≤ 2147483647) :
    VCall Tryd.prog 5 [.int .i64 op, li32 v, li32 x] (· = .bool true) := by
  refine vcall_V F5_ok (cDr_ok _ _ _) rfl (V5_ok _ _ _ _) ?_
  unfold V5
  refine a_call c9 (fun d hd => by cases hd) ?_
  rintro _ rfl
  rw [v_not, Bool.not_true, v_cond_f]
  have v2 : ∀ (y : List Int) (n : Int) (d : D), d ∈ [li32 y, .int .i64 n] → d.vd = true ∧ AllOne d := fun y n d hd => by
    simp at hd
    rcases hd with rfl | rfl
    · exact li32_vd _
    · exact ⟨rfl, by simp⟩
  refine a_call (c17 (n := 40) hv (by omega)) (v2 v 40) ?_
  rintro _ rfl
  refine a_call (c17 (n := 40) hx (by omega)) (v2 x 40) ?_
  rintro _ rfl
  have ha : (v.take 40).length ≤ 1000000 := by rw [List.length_take]; omega
  have hb : (x.take 40).length ≤ 1000000 := by rw [List.length_take]; omega
  have hbr : ∀ a, a ∈ x.take 40 → -2147483648 ≤ a ∧ a ≤ 2147483647 := fun a h => hxr a (List.mem_of_mem_take h)
  generalize v.take 40 = a at *
  generalize x.take 40 = b at *
  have v3 : ∀ (n : Int) (d : D), d ∈ [.int .i64 n, li32 a, li32 b] → d.vd = true ∧ AllOne d := fun n d hd => by
    simp at hd
    rcases hd with rfl | rfl | rfl
    · exact ⟨rfl, by simp⟩
    · exact li32_vd _
    · exact li32_vd _
  refine ⟨fun _ _ => True, ?_, ?_⟩
  · rintro f h' -
    refine a_call (c18 ha hbr) (v3 op) ?_
    rintro _ rfl
    rw [collD_eq]
    simp only [↓h_fld, ↓v_part1, List.getElem?_cons_succ, List.getElem?_cons_zero]
    refine a_call (c19 ha hb hbr) (v3 op) ?_
    rintro _ rfl
    rw [collD_eq]
    simp only [↓h_fld, ↓v_part1, List.getElem?_cons_succ, List.getElem?_cons_zero]
    simp [↓amR]
  unfold V5_L0
  refine ⟨fun k l _ => ∃ j : Nat, l = [.int .i64 j] ∧ k + j = 8, 8, ⟨0, rfl, rfl⟩, ?_⟩
  rintro k f hS ⟨j, hf, hkj⟩
  simp only [List.cons.injEq, and_true] at hf
  rw [hf]
  by_cases hj : j ≤ 7
  case neg =>
    have hj' : ¬ (j : Int) ≤ 7 := by omega
    simp only [↓v_leq, hj', decide_false, v_cond_f, keq_self, true_and]
  have hj' : (j : Int) ≤ 7 := by omega
  have w1 : IntKind.i64.wrap ((j : Int) + 1) = ((j + 1 : Nat) : Int) := by rw [wrap64 (by omega) (by omega)]; rfl
  simp only [↓v_leq, hj', decide_true, v_cond_t]
  refine a_call (c18 ha hbr) (v3 j) ?_
  rintro _ rfl
  refine a_call (c19 ha hb hbr) (v3 j) ?_
  rintro _ rfl
  have hvd := collD_vd j a b
  rw [collD_eq] at hvd ⊢
  have hc20 := c20L j a b ha
  obtain ⟨q1, q2, q3⟩ := collLD_vd j a b
  generalize collLD j a b = W at *
  generalize collE j a b = e at *
  rw [g_alloc]
  intro m0 t0
  rw [g_alloc]
  intro m1 t1
  have n01 : m0 ≠ m1 := t1.ne (by simp)
  rw [g_st]
  simp only [upd_other _ _ n01, upd_self, upd_upd]
  have hset : setCells (D.agg [.nil, .int .i64 0]) 0 (D.agg [W, .int .i64 e]).cells = .agg [W, .int .i64 e] := rfl
  rw [hset]
  refine ⟨rfl, hvd.2, trivial, by simp, ?_⟩
  rw [g_st]
  simp only [upd_other _ _ n01.symm, upd_self, upd_upd]
  rw [hset]
  refine ⟨rfl, hvd.2, trivial, by simp, ?_⟩
  generalize hHe : upd (upd (upd (upd hS m0 (.box (.agg [.nil, .int .i64 0]))) m1 (.box (.agg [.nil, .int .i64 0]))) m0 (.box (.agg [W, .int .i64 e]))) m1 (.box (.agg [W, .int .i64 e])) = hA
  have a0 : hA m0 = .box (.agg [W, .int .i64 e]) := by rw [← hHe, upd_other _ _ n01, upd_self]
  have a1 : hA m1 = .box (.agg [W, .int .i64 e]) := by rw [← hHe, upd_self]
  simp only [↓g_fadd, ↓g_ld, a0, a1, Slot.live, cells_agg, ↓v_part1, List.getElem?_cons_succ, List.getElem?_cons_zero, Nat.zero_add, true_and, ↓v_neq, decide_true, Bool.not_true, ↓v_guard, ne_eq, not_true_eq_false, false_implies, and_true, true_implies]
  refine a_call hc20 (fun d hd => ?_) ?_
  · obtain rfl : d = W := by simpa using hd
    exact ⟨vone_vd q1, fun x hx => by rw [q3] at hx; simp at hx; subst hx; exact q2⟩
  rintro _ rfl
  simp only [↓v_not, Bool.not_true, ↓h_pick, Bool.false_eq_true, if_false, v_cond_f, ↓v_add, w1, keq_self, true_and]
  exact ⟨k - 1, by omega, j + 1, rfl, by omega⟩

theorem u21 : Tryd.prog.underlying 21 = some (.int .i32) := by kernel_rfl
theorem u25 : Tryd.prog.underlying 25 = some (.slice 21) := by kernel_rfl
set_option maxRecDepth 100000 in
theorem is_words {m : Nat} {ds : List D} (h : HasTy Tryd.prog (m + 2) 25 ds) : ∃ xs : List Int, ds = [li32 xs] ∧ xs.length ≤ 9223372036854775807 ∧ ∀ x, x ∈ xs → -2147483648 ≤ x ∧ x ≤ 2147483647 := by
  obtain ⟨xs, h1, h2, h3⟩ := hasTy_ints u25 u21 h
  rw [show IntKind.i32.min = -2147483648 from rfl, show IntKind.i32.max = 2147483647 from rfl] at h3
  exact ⟨xs, h1, h2, h3⟩
theorem mk25 (d : D) : mkElem Tryd.prog 25 [d] = d := mk_slice u25 d
set_option maxRecDepth 100000 in
theorem law5H (xs : List D) (h : HasTys Tryd.prog 12 Tryd.f5.params.toList xs) : VCall Tryd.prog 5 xs (· = .bool true) := by
  have hp : Tryd.f5.params.toList = [3, 25, 25] := by kernel_rfl
  rw [hp] at h
  obtain ⟨c1, r1, rfl, h1, c2, r2, rfl, h2, c3, r3, rfl, h3, rfl⟩ := h
  obtain ⟨a, rfl, -, -⟩ := is_int h1
  obtain ⟨b, rfl, hb, -⟩ := is_words h2
  obtain ⟨c, rfl, hc, hr⟩ := is_words h3
  rw [mk25, mk25, mk_int u3]
  exact law5 hb hc hr
end Go.Am
/- Subgroup operations: plain laws of shuffles, ballots and sums. No condition. -/
namespace Go.Am
open Go Go.Proofs

theorem balN_bit (v : List Int) {i : Nat} : ∀ n, i < n → balN v n / 2 ^ i % 2 = if at0 v i = 0 then 0 else 1
  | 0, h => by omega
  | n + 1, h => by
    rw [balN]
    rcases Nat.lt_or_ge i n with h1 | h1
    · have ih := balN_bit v n h1
      split
      · rw [Nat.add_zero, ih]
      · have e : 2 ^ n = 2 ^ i * (2 * 2 ^ (n - i - 1)) := by
          rw [← Nat.pow_succ', ← Nat.pow_add]; congr 1; omega
        rw [e, Nat.add_mul_div_left _ _ (Nat.two_pow_pos i), Nat.add_mul_mod_self_left, ih]
    · obtain rfl : i = n := by omega
      have := balN_lt v i
      split
      · rw [Nat.add_zero, Nat.div_eq_of_lt this]
      · have := Nat.add_mul_div_left (balN v i) 1 (Nat.two_pow_pos i)
        rw [Nat.mul_one] at this
        rw [this, Nat.div_eq_of_lt (balN_lt v i)]
theorem bal_cnt (v : List Int) : ∀ n, (balN v n = 0 ↔ cntN v n = 0) ∧ (balN v n + 1 = 2 ^ n ↔ cntN v n = n)
  | 0 => by simp [balN, cntN]
  | n + 1 => by
    obtain ⟨h1, h2⟩ := bal_cnt v n
    have h3 := balN_lt v n
    have h4 := cntN_le v n
    have h5 := Nat.two_pow_pos n
    rw [balN, cntN, Nat.pow_succ]
    split
    · constructor
      · omega
      · omega
    · constructor
      · omega
      · omega
theorem w32_inj {a b : Nat} (ha : a < 4294967296) (hb : b < 4294967296) : w32 a = w32 b ↔ a = b := by
  rw [w32_eq, w32_eq]; omega
theorem w32_bit {b i : Nat} (hb : b < 4294967296) (hi : i < 32) : ibits .and .i32 (ishr .i32 (w32 b) (i : Int)) 1 = ((b / 2 ^ i % 2 : Nat) : Int) := by
  have e1 : (BitVec.ofInt 32 (w32 b)) = BitVec.ofNat 32 b := by
    apply BitVec.eq_of_toNat_eq
    rw [BitVec.toNat_ofInt, BitVec.toNat_ofNat, w32_eq]; omega
  have e2 : min ((i : Int).toNat) IntKind.i32.bits = i := by
    show min i 32 = i
    omega
  have hw := w32_eq b
  have e3 : BitVec.ofInt 32 ((w32 b).fdiv (2 ^ i)) &&& BitVec.ofNat 32 1 = BitVec.ofNat 32 (b / 2 ^ i % 2) := by
    have e4 : ((w32 b).fdiv (2 ^ i)) % 2 = ((b / 2 ^ i % 2 : Nat) : Int) := by
      have hp : (0 : Int) < 2 ^ i := Int.pow_pos (by omega)
      rw [Int.fdiv_eq_ediv_of_nonneg _ (Int.le_of_lt hp)]
      have hc : w32 b = b ∨ w32 b = b - 4294967296 := by omega
      have e5 : ((b / 2 ^ i : Nat) : Int) = (b : Int) / 2 ^ i := by simp
      rcases hc with hc | hc
      · rw [hc, ← e5]; omega
      · have e6 : (4294967296 : Int) = 2 ^ i * (2 * 2 ^ (31 - i)) := by
          have : (2 : Int) ^ i * (2 * 2 ^ (31 - i)) = 2 ^ 32 := by
            rw [← Int.pow_succ', ← Int.pow_add]; congr 1; omega
          rw [this]; rfl
        rw [hc, e6, Int.sub_eq_add_neg, ← Int.mul_neg, Int.add_mul_ediv_left _ _ (by omega), ← e5]
        have : ∀ z : Int, -(2 * z) = 2 * (-z) := fun z => by omega
        rw [this]
        generalize -(2 : Int) ^ (31 - i) = z
        omega
    apply BitVec.eq_of_toNat_eq
    rw [BitVec.toNat_and, BitVec.toNat_ofInt]
    simp only [BitVec.toNat_ofNat]
    rw [show 1 % 2 ^ 32 = 1 from rfl, Nat.and_one_is_mod]
    have hy : b / 2 ^ i % 2 < 2 := Nat.mod_lt _ (by omega)
    generalize (w32 b).fdiv (2 ^ i) = z at *
    generalize b / 2 ^ i % 2 = y at *
    omega
  have e7 : BitVec.ofInt 32 1 = BitVec.ofNat 32 1 := by decide
  show IntKind.i32.wrap ((BitVec.ofInt 32 ((w32 b).fdiv (2 ^ (min ((i : Int).toNat) IntKind.i32.bits))) &&& BitVec.ofInt 32 1).toNat : Int) = _
  rw [e2, e7, e3, BitVec.toNat_ofNat]
  have : b / 2 ^ i % 2 < 2 := Nat.mod_lt _ (by omega)
  generalize b / 2 ^ i % 2 = y at *
  exact (w32_eq _).trans (by omega)
theorem at0_ws {op : Int} {v x : List Int} {i : Nat} (h : i < v.length) : at0 (collWs op v x) i = oneW op v x i := by
  unfold at0 collWs
  rw [List.getElem?_map, List.getElem?_range h]; rfl
theorem ws_ext {a b : List Int} (h1 : a.length = b.length) (h2 : ∀ i, i < a.length → at0 a i = at0 b i) : a = b := by
  apply List.ext_getElem?
  intro i
  rcases Nat.lt_or_ge i a.length with h | h
  · rw [at0_get h, at0_get (by omega), h2 i h]
  · rw [List.getElem?_eq_none h, List.getElem?_eq_none (by omega)]
theorem shuffle_own {a o : List Int} (h : a.length = o.length) (ho : ∀ i, i < o.length → at0 o i = i) : collWs 4 a o = a := by
  refine ws_ext (collWs_len _ _ _) fun i hi => ?_
  rw [collWs_len] at hi
  rw [at0_ws hi]
  show at0 a ((at0 o i) % (a.length : Int)).toNat = _
  rw [ho i (by omega)]
  congr 1
  rw [Int.emod_eq_of_lt (by omega) (by omega)]; omega
theorem shuffle_two {a b c : List Int} (h1 : a.length = b.length) (h2 : b.length = c.length) : collWs 4 (collWs 4 a b) c = collWs 4 a (collWs 4 b c) := by
  refine ws_ext (by rw [collWs_len, collWs_len, collWs_len]) fun i hi => ?_
  rw [collWs_len, collWs_len] at hi
  rw [at0_ws (by rw [collWs_len]; exact hi), at0_ws hi]
  have hj : ((at0 c i) % (a.length : Int)).toNat < a.length := by
    have m1 : 0 ≤ at0 c i % (a.length : Int) := Int.emod_nonneg _ (by omega)
    have m2 : at0 c i % (a.length : Int) < a.length := Int.emod_lt_of_pos _ (by omega)
    omega
  show at0 (collWs 4 a b) ((at0 c i) % ((collWs 4 a b).length : Int)).toNat = at0 a ((at0 (collWs 4 b c) i) % (a.length : Int)).toNat
  rw [collWs_len, at0_ws hj, at0_ws (by omega)]
  show at0 a ((at0 b _) % (a.length : Int)).toNat = at0 a ((at0 b ((at0 c i) % (b.length : Int)).toNat) % (a.length : Int)).toNat
  rw [← h1]
theorem ws4_mem {v x : List Int} {P : Int → Prop} (h : ∀ a, a ∈ v → P a) : ∀ a, a ∈ collWs 4 v x → P a := by
  intro a ha
  unfold collWs at ha
  simp only [List.mem_map, List.mem_range] at ha
  obtain ⟨i, hi, rfl⟩ := ha
  have m1 : 0 ≤ at0 x i % (v.length : Int) := Int.emod_nonneg _ (by omega)
  have m2 : at0 x i % (v.length : Int) < v.length := Int.emod_lt_of_pos _ (by omega)
  exact h _ (List.mem_of_getElem? (at0_get (show ((at0 x i) % (v.length : Int)).toNat < v.length by omega)))
end Go.Am
/- LaunchShuffles. No condition. -/
namespace Go.Am
open Go Go.Proofs

theorem eqv_b {P : Program} (p q : Bool) {h : Heap} {K : D → Prop} : vdOp P (.eqv true false [.b] (.c (.bool p)) (.c (.bool q))) h K = K (.bool (!(p == q))) := by
  rw [d_eqv, h_eqv]
  cases p <;> cases q <;> simp [veqv, eqCells, D.cells]
theorem iaddI {P : Program} {ws : List Int} {k : Int} (h0 : 0 ≤ k) (h1 : k < (ws.length : Int)) {h : Heap} {K : D → Heap → Prop} : vhOp P (.iadd (.c (li32 ws)) (.c (.int .i64 k)) 1) h K = K (.vp (.int .i32 (at0 ws k.toNat)) 0) h := by
  rw [li32_sl, h_iadd]
  simp only [List.length_map, List.getElem?_map, at0_get (show k.toNat < ws.length by omega), Option.map_some]
  apply propext
  constructor
  · rintro ⟨-, -, h⟩; exact (h _ rfl).2
  · intro h; exact ⟨h0, h1, fun d hd => by cases hd; exact ⟨rfl, h⟩⟩
theorem ldI {P : Program} {a : Int} {h : Heap} {K : D → Heap → Prop} : vhOp P (.ld (.c (.vp (.int .i32 a) 0)) 1 false) h K = K (.int .i32 a) h := rfl
theorem lenI {ws : List Int} {h : Heap} {K : D → Prop} : vlen (li32 ws) h K = K (.int .i64 ws.length) := by rw [li32_sl, v_len, List.length_map]
theorem fldI {P : Program} {x : D} {e : Int} {h : Heap} {K : D → Heap → Prop} : vhOp P (.fld (.c (.agg [x, .int .i64 e])) 0 1 false) h K = K x h := rfl

theorem g1f {A : (D → Prop) → Prop} {K : D → Prop} : vguard1 (.bool false) false A K = A K := by rw [v_guard1]; simp
theorem g1t {A : (D → Prop) → Prop} {K : D → Prop} : vguard1 (.bool true) true A K = A K := by rw [v_guard1]; simp
theorem g1ft {A : (D → Prop) → Prop} {K : D → Prop} : vguard1 (.bool false) true A K = K .undef := by rw [v_guard1]; simp
/-- A call that reads a row of ours, its third argument. -/
theorem a_callms3 {P : Program} {f : FuncId} {n esz : Nat} {els : List D} {d1 d2 : D} {h : Heap} {KH : D → Heap → Prop} {R : D → Prop} (hn : h n = .arr esz els) (he : ∀ x, x ∈ els → ∀ y, y ∈ x.cells → y.vone = true)
    (hv : VCall P f [d1, d2, .sl els] R) (hds : ∀ d, d ∈ [d1, d2] → d.vd = true ∧ AllOne d) (hk : ∀ r h', R r → (∀ k, k ≠ n → h' k = h k) → KH r h') : ACall P f [d1, d2, .ms n 0 els.length] h KH := by
  have hrow : (h n).row = some (esz, els) := by rw [hn]; rfl
  have e0 : (D.ms n 0 els.length).fz h = .sl els := by simp [D.fz, D.fzc, hrow]
  obtain ⟨p1, p2⟩ := hds d1 (by simp)
  obtain ⟨p3, p4⟩ := hds d2 (by simp)
  have f1 := vd_fz (h := h) p1
  have f2 := vd_fz (h := h) p3
  have e1 : [d1, d2, D.ms n 0 els.length].map (D.fz h) = [d1, d2, .sl els] := by
    simp only [List.map_cons, List.map_nil, e0, f1.1, f2.1]
  have e2 : [d1, d2, D.ms n 0 els.length].flatMap D.nm = [n] := by
    simp only [List.flatMap_cons, List.flatMap_nil, f1.2.1, f2.2.1]; rfl
  refine ACall.mono ?_ (acall_of_vcall (K := R) (by rw [e1]; exact hv) (fun d hd => ?_))
  · rintro r h' ⟨k1, k2, k3⟩
    refine hk r h' k1 fun k hkn => ?_
    by_cases hr : r.flat = true ∨ [d1, d2, D.ms n 0 els.length].flatMap D.nm = []
    · rw [k2 hr]
    · rw [k3 hr, e2]
      simp [Heap.freezeAll, Heap.freeze, hn, upd_other _ _ hkn]
  · simp only [List.mem_cons, List.not_mem_nil, or_false] at hd
    rcases hd with rfl | rfl | rfl
    · exact ⟨p2, f1.2.2, by rw [f1.1]; exact p1⟩
    · exact ⟨p4, f2.2.2, by rw [f2.1]; exact p3⟩
    · refine ⟨by simp, ?_, by rw [e0]; rfl⟩
      intro x hx
      simp only [D.cells, List.mem_singleton] at hx
      subst hx
      exact ⟨esz, els, hrow, by simp, fun x hx y hy => he x (by simpa using hx) y hy⟩

theorem law6_loop {a b c : List Int} {n : Nat} {f26 : Nat → D} {h178 : Heap} {J : List D → Heap → Prop} {K : D → Heap → Prop} (hla : a.length = n) (hn1 : 1 ≤ n) (hn2 : n ≤ 32) (har : ∀ x, x ∈ a → -2147483648 ≤ x ∧ x ≤ 2147483647)
    (hJ : J [] h178) :
    V6_L0 h178 (.int .i64 n) (li32 (collWs 1 a b)) (li32 a) (li32 (collWs 6 a b)) (li32 (collWs 2 a b)) (li32 (collWs 3 a b)) (.int .i32 (w32 ((2 ^ n - 1 : Nat) : Int))) (li32 (collWs 5 a b)) (.bool true) (li32 b) (li32 c) f26 J K := by
  unfold V6_L0
  refine ⟨fun k l h' => ∃ i : Nat, l = [.int .i64 i] ∧ k + i = n ∧ h' = h178, n, ⟨0, rfl, by omega, rfl⟩, ?_⟩
  rintro k f h' ⟨i, hf, hki, hh⟩
  subst hh
  simp only [List.cons.injEq, and_true] at hf
  rw [hf]
  by_cases hi : i < n
  case neg =>
    have hi' : ¬ (i : Int) < (n : Int) := by omega
    simp only [↓v_lss, hi', decide_false, v_cond_f, keq_self, true_and]
    exact hJ
  have hi' : (i : Int) < (n : Int) := by omega
  have w1 : IntKind.i64.wrap ((i : Int) + 1) = ((i + 1 : Nat) : Int) := by rw [wrap64 (by omega) (by omega)]; rfl
  have w2 : IntKind.u64.wrap (i : Int) = (i : Int) := by rw [wrapu, Nat.mod_eq_of_lt (by omega)]
  have hbl := balN_lt a n
  have hp : (2 : Nat) ^ n ≤ 2 ^ 32 := Nat.pow_le_pow_right (by omega) hn2
  rw [show (2 : Nat) ^ 32 = 4294967296 by decide] at hp
  have hpos := Nat.two_pow_pos n
  obtain ⟨bc1, bc2⟩ := bal_cnt a n
  have hcl := cntN_le a n
  have v1 : ∀ j, j < n → at0 (collWs 1 a b) j = w32 (balN a n) := fun j hj => by rw [at0_ws (by omega)]; show w32 (balN a a.length) = _; rw [hla]
  have v2 : ∀ j, j < n → at0 (collWs 2 a b) j = if 0 < cntN a n then 1 else 0 := fun j hj => by rw [at0_ws (by omega)]; show (if 0 < cntN a a.length then 1 else 0) = _; rw [hla]
  have v3 : ∀ j, j < n → at0 (collWs 3 a b) j = if cntN a n = n then 1 else 0 := fun j hj => by rw [at0_ws (by omega)]; show (if cntN a a.length = a.length then 1 else 0) = _; rw [hla]
  have v5 : ∀ j, j < n → at0 (collWs 5 a b) j = w32 (sumN a (j + 1)) := fun j hj => by rw [at0_ws (by omega)]; rfl
  have v6 : ∀ j, j < n → at0 (collWs 6 a b) j = w32 (sumN a n) := fun j hj => by rw [at0_ws (by omega)]; show w32 (sumN a a.length) = _; rw [hla]
  have hbit : ibits .and .i32 (ishr .i32 (w32 (balN a n)) (i : Int)) 1 = if at0 a i = 0 then 0 else 1 := by
    rw [w32_bit (by omega) (by omega), balN_bit a n hi]; split <;> rfl
  have g0 : (i : Int).toNat = i := Int.toNat_natCast i
  have l1 : ∀ op, (i : Int) < ((collWs op a b).length : Int) := fun op => by rw [collWs_len, hla]; exact hi'
  have l2 : ∀ op, (0 : Int) < ((collWs op a b).length : Int) := fun op => by rw [collWs_len, hla]; omega
  have l3 : (i : Int) < (a.length : Int) := by rw [hla]; exact hi'
  have i0 : (0 : Int) ≤ (i : Int) := by omega
  have z0 : (0 : Int).toNat = 0 := rfl
  have c1 : (!((!decide ((if at0 a i = 0 then (0 : Int) else 1) = 0)) == (!decide (at0 a i = 0)))) = false := by
    by_cases h : at0 a i = 0 <;> simp [h]
  have c2 : (!(decide ((if 0 < cntN a n then (1 : Int) else 0) = 1) == (!decide (w32 (balN a n) = 0)))) = false := by
    have hz : w32 (balN a n) = 0 ↔ balN a n = 0 := by
      have := w32_inj (a := balN a n) (b := 0) (by omega) (by omega)
      rw [show w32 ((0 : Nat) : Int) = 0 by simp [w32_eq]] at this
      exact this
    by_cases h : 0 < cntN a n
    · have h' : ¬ w32 (balN a n) = 0 := by rw [hz, bc1]; omega
      simp [h, h']
    · have h' : w32 (balN a n) = 0 := by rw [hz, bc1]; omega
      simp [h, h']
  have c3 : (!(decide ((if cntN a n = n then (1 : Int) else 0) = 1) == decide (w32 (balN a n) = w32 ((2 ^ n - 1 : Nat) : Int)))) = false := by
    have hz : w32 (balN a n) = w32 ((2 ^ n - 1 : Nat) : Int) ↔ balN a n = 2 ^ n - 1 := w32_inj (by omega) (by omega)
    by_cases h : cntN a n = n
    · have h' : w32 (balN a n) = w32 ((2 ^ n - 1 : Nat) : Int) := by rw [hz]; have := bc2.2 h; omega
      simp [h, h']
    · have h' : ¬ w32 (balN a n) = w32 ((2 ^ n - 1 : Nat) : Int) := by rw [hz]; intro he; exact h (bc2.1 (by omega))
      simp [h, h']
  simp only [↓v_lss, hi', decide_true, v_cond_t, ↓iaddI i0 (l1 _), ↓iaddI i0 l3, ↓ldI, g0, v1 i hi, ↓h_conv, w2, ↓v_shr, ↓v_and, hbit, ↓v_neq]
  refine ⟨i0, ?_⟩
  simp only [↓d_iadd, ↓d_ld, ↓iaddI i0 (l1 _), ↓iaddI i0 l3, ↓iaddI (Int.le_refl 0) (l2 _), ↓ldI, g0, z0, v1 i hi, v2 i hi, v3 i hi, v5 i hi, v6 i hi, v6 0 hn1, ↓v_neq, ↓v_eql, ↓eqv_b, c1, c2, c3, decide_true, Bool.not_true, ↓g1f, g1f, ↓g1t, g1t, ↓g1ft, g1ft, decide_false, ↓d_pick, ↓h_pick, Bool.false_eq_true, if_false, ↓v_gtr]
  by_cases hz : i = 0
  · subst hz
    have hz' : ¬ (0 : Int) < ((0 : Nat) : Int) := by omega
    simp only [hz', decide_false, ↓g1ft, g1ft, Bool.false_eq_true, if_false, v_cond_f, ↓v_add, w1, keq_self, true_and]
    exact ⟨k - 1, by omega, 1, rfl, by omega, trivial⟩
  · have hz' : (0 : Int) < (i : Int) := by omega
    have wi : IntKind.i64.wrap ((i : Int) - 1) = ((i - 1 : Nat) : Int) := by rw [wrap64 (by omega) (by omega)]; omega
    have l4 : ((i - 1 : Nat) : Int) < ((collWs 5 a b).length : Int) := by rw [collWs_len, hla]; omega
    have i4 : (0 : Int) ≤ ((i - 1 : Nat) : Int) := by omega
    have g4 : ((i - 1 : Nat) : Int).toNat = i - 1 := Int.toNat_natCast _
    have v5' : at0 (collWs 5 a b) (i - 1) = w32 (sumN a i) := by rw [v5 _ (by omega), Nat.sub_add_cancel (by omega)]
    have hai := har _ (List.mem_of_getElem? (at0_get (v := a) (k := i) (by omega)))
    have hd : IntKind.i32.wrap (w32 (sumN a (i + 1)) - w32 (sumN a i)) = at0 a i := by
      show w32 _ = _
      rw [sumN]
      simp only [w32_eq]
      omega
    simp only [hz', decide_true, ↓g1t, g1t, ↓v_sub, wi, ↓iaddI i0 (l1 _), ↓iaddI i4 l4, ↓iaddI i0 l3, ↓ldI, g0, g4, v5 i hi, v5', hd, ↓v_neq, Bool.not_true, if_true, v_cond_f, ↓v_add, w1, keq_self, true_and]
    exact ⟨k - 1, by omega, i + 1, rfl, by omega, trivial⟩

theorem own_words {a14 : Nat} {a17 a19 a21 a4 : D} {n0 : Nat} {h24 : Heap} {J : List D → Heap → Prop} (hn : a14 ≤ 32) (h0 : h24 n0 = .arr 1 [])
    (hJ : ∀ m h, h m = .arr 1 ((ownL a14).map (.int .i32)) → J [.ms m 0 a14] h) : V6_L1 (.ms n0 0 0) h24 (.int .i64 a14) a4 a17 a19 a21 J := by
  unfold V6_L1
  refine ⟨fun k x h' => ∃ j n : Nat, x = [.ms n 0 j, .int .i64 j] ∧ k + j = a14 ∧ h' n = .arr 1 ((ownL j).map (.int .i32)), a14, ⟨0, n0, rfl, by omega, h0⟩, ?_⟩
  rintro k f h' ⟨j, n, hf, hkj, hn⟩
  simp only [List.cons.injEq, and_true] at hf
  obtain ⟨hf1, hf2⟩ := hf
  rw [hf1, hf2]
  by_cases hj : j < a14
  · have h1 : (j : Int) < (a14 : Int) := by omega
    have w1 : IntKind.i64.wrap ((j : Int) + 1) = ((j + 1 : Nat) : Int) := by rw [wrap64 (by omega) (by omega)]; rfl
    have w2 : IntKind.i32.wrap (j : Int) = (j : Int) := w32_id (by omega)
    simp only [↓v_lss, h1, decide_true, v_cond_t, ↓h_conv, w2, ↓v_add, w1, keq_self, true_and]
    have hl : ((ownL j).map (D.int .i32)).length = j := by rw [List.length_map, ownL_len]
    have key := g_appendms (P := Tryd.prog) (bytes := 4) (z := .int .i32 0) (z' := .int .i32 0) (d := .int .i32 j) (KH := fun a123 h124 => ∃ m, m < k ∧ (fun (k : Nat) (x : List D) (h' : Heap) => ∃ j n : Nat, x = [.ms n 0 j, .int .i64 j] ∧ k + j = a14 ∧ h' n = .arr 1 ((ownL j).map (.int .i32))) m [a123, .int .i64 ((j + 1 : Nat) : Int)] h124) hn rfl (by simp) rfl (by rw [hl]; omega) (by rw [hl]; omega) fun n' h'' r1 r2 r3 => ?_
    · rw [hl] at key; exact key
    · rw [hl]
      exact ⟨k - 1, by omega, j + 1, n', rfl, by omega, by rw [r2, ownL_succ, List.map_append]; rfl⟩
  · have h1 : ¬ (j : Int) < (a14 : Int) := by omega
    have hjl : j = a14 := by omega
    simp only [↓v_lss, h1, decide_false, v_cond_f, keq_self, true_and]
    rw [hjl] at hn ⊢
    exact hJ n h' hn
end Go.Am
/- LaunchShuffles. No condition. -/
namespace Go.Am
open Go Go.Proofs

theorem full_eq {n : Nat} (hn : n ≤ 32) : IntKind.i32.wrap (IntKind.u32.wrap (IntKind.u64.wrap (ishl .u64 1 (IntKind.u64.wrap (n : Int)) - 1))) = w32 ((2 ^ n - 1 : Nat) : Int) := by
  have hp : (2 : Nat) ^ n ≤ 2 ^ 32 := Nat.pow_le_pow_right (by omega) hn
  rw [show (2 : Nat) ^ 32 = 4294967296 by decide] at hp
  have hpos := Nat.two_pow_pos n
  have e1 : IntKind.u64.wrap (n : Int) = (n : Int) := by rw [wrapu, Nat.mod_eq_of_lt (by omega)]
  have e2 : ishl .u64 1 (n : Int) = ((2 ^ n : Nat) : Int) := by
    have := ishl64 1 n (by omega)
    rw [Nat.one_mul, Nat.mod_eq_of_lt (by omega)] at this
    exact this
  have e3 : IntKind.u64.wrap (((2 ^ n : Nat) : Int) - 1) = ((2 ^ n - 1 : Nat) : Int) := by
    rw [show ((2 ^ n : Nat) : Int) - 1 = ((2 ^ n - 1 : Nat) : Int) by omega, wrapu, Nat.mod_eq_of_lt (by omega)]
  have e4 : IntKind.u32.wrap ((2 ^ n - 1 : Nat) : Int) = ((2 ^ n - 1 : Nat) : Int) := by
    have hz : 2 ^ n - 1 < 4294967296 := by omega
    generalize 2 ^ n - 1 = z at *
    simp only [IntKind.wrap, IntKind.signed, IntKind.bits]
    simp
    omega
  rw [e1, e2, e3, e4]; rfl

set_option maxRecDepth 20000 in
theorem law6 {v x y : List Int} (hv : v.length ≤ 9223372036854775807) (hx : x.length ≤ 9223372036854775807) (hy : y.length ≤ 9223372036854775807) (hvr : ∀ a, a ∈ v → -2147483648 ≤ a ∧ a ≤ 2147483647) (hxr : ∀ a, a ∈ x → -2147483648 ≤ a ∧ a ≤ 2147483647) (hyr : ∀ a, a ∈ y → -2147483648 ≤ a ∧ a ≤ 2147483647) :
    VCall Tryd.prog 6 [li32 v, li32 x, li32 y] (· = .bool true) := by
  refine vcall_V F6_ok (cDr_ok _ _ _) rfl (V6_ok _ _ _ _) ?_
  unfold V6
  refine a_call c9 (fun d hd => by cases hd) ?_
  rintro _ rfl
  rw [v_not, Bool.not_true, v_cond_f]
  simp only [↓lenI, ↓h_mn]
  obtain ⟨n, hn, e⟩ : ∃ n : Nat, n = min (min v.length x.length) (min y.length 32) ∧
      (if (if (32 : Int) < (y.length : Int) then (32 : Int) else y.length) < (if (x.length : Int) < (v.length : Int) then (x.length : Int) else v.length) then (if (32 : Int) < (y.length : Int) then (32 : Int) else y.length) else (if (x.length : Int) < (v.length : Int) then (x.length : Int) else v.length)) = (n : Int) := by
    refine ⟨_, rfl, ?_⟩
    split <;> split <;> split <;> omega
  rw [e]
  by_cases h0 : n = 0
  · have h0' : (n : Int) = 0 := by omega
    simp only [↓v_eql, h0', decide_true, v_cond_t, vret_bool]
  have h0' : ¬ (n : Int) = 0 := by omega
  simp only [↓v_eql, h0', decide_false, v_cond_f]
  have v2 : ∀ (y : List Int) (n : Int) (d : D), d ∈ [li32 y, .int .i64 n] → d.vd = true ∧ AllOne d := fun y n d hd => by
    simp at hd
    rcases hd with rfl | rfl
    · exact li32_vd _
    · exact ⟨rfl, by simp⟩
  refine a_call (c17 (n := n) hv (by omega)) (v2 v n) ?_
  rintro _ rfl
  refine a_call (c17 (n := n) hx (by omega)) (v2 x n) ?_
  rintro _ rfl
  refine a_call (c17 (n := n) hy (by omega)) (v2 y n) ?_
  rintro _ rfl
  obtain ⟨a, ea⟩ : ∃ a, a = v.take n := ⟨_, rfl⟩
  obtain ⟨b, eb⟩ : ∃ b, b = x.take n := ⟨_, rfl⟩
  obtain ⟨c, ec⟩ : ∃ c, c = y.take n := ⟨_, rfl⟩
  have la : a.length = n := by rw [ea, List.length_take]; omega
  have lb : b.length = n := by rw [eb, List.length_take]; omega
  have lc : c.length = n := by rw [ec, List.length_take]; omega
  have ar : ∀ z, z ∈ a → -2147483648 ≤ z ∧ z ≤ 2147483647 := fun z h => hvr z (List.mem_of_mem_take (by rw [← ea]; exact h))
  have br : ∀ z, z ∈ b → -2147483648 ≤ z ∧ z ≤ 2147483647 := fun z h => hxr z (List.mem_of_mem_take (by rw [← eb]; exact h))
  have cr : ∀ z, z ∈ c → -2147483648 ≤ z ∧ z ≤ 2147483647 := fun z h => hyr z (List.mem_of_mem_take (by rw [← ec]; exact h))
  rw [← ea, ← eb, ← ec]
  have hn32 : n ≤ 32 := by omega
  have hn1 : 1 ≤ n := by omega
  clear ea eb ec hv hx hy hvr hxr hyr e
  have v3 : ∀ (o : Int) (p q : List Int) (d : D), d ∈ [.int .i64 o, li32 p, li32 q] → d.vd = true ∧ AllOne d := fun o p q d hd => by
    simp at hd
    rcases hd with rfl | rfl | rfl
    · exact ⟨rfl, by simp⟩
    · exact li32_vd _
    · exact li32_vd _
  have v4 : ∀ (p q : List Int) (d : D), d ∈ [li32 p, li32 q] → d.vd = true ∧ AllOne d := fun p q d hd => by
    simp at hd
    rcases hd with rfl | rfl
    · exact li32_vd _
    · exact li32_vd _
  have good : ∀ (o : Int) (p q : List Int), 1 ≤ o → o ≤ 6 → p.length = n → q.length = n → collD o p q = .agg [li32 (collWs o p q), .int .i64 0] := fun o p q h1 h2 h3 h4 => if_neg (by unfold collBad; omega)
  have c18' : ∀ (o : Int) (p q : List Int), 1 ≤ o → o ≤ 6 → p.length = n → q.length = n → (∀ z, z ∈ q → -2147483648 ≤ z ∧ z ≤ 2147483647) → VCall Tryd.prog 18 [.int .i64 o, li32 p, li32 q] (· = .agg [li32 (collWs o p q), .int .i64 0]) := fun o p q h1 h2 h3 h4 h5 => by
    have := c18 (op := o) (v := p) (x := q) (by omega) h5
    rw [good o p q h1 h2 h3 h4] at this
    exact this
  refine g_bld0 fun n0 t0 => ?_
  refine ⟨fun l h => ∃ m, l = [.ms m 0 n] ∧ h m = .arr 1 ((ownL n).map (.int .i32)), ?_, ?_⟩
  case refine_2 => exact own_words hn32 (upd_self _ _ _) fun m h hm => ⟨m, rfl, hm⟩
  rintro f26 h27 ⟨m, hf, hm⟩
  simp only [List.cons.injEq, and_true] at hf
  refine a_call (c18' 5 a b (by omega) (by omega) la lb br) (v3 5 a b) ?_
  rintro _ rfl
  rw [fldI]
  refine a_call (c18' 6 a b (by omega) (by omega) la lb br) (v3 6 a b) ?_
  rintro _ rfl
  rw [fldI]
  refine a_call (c18' 1 a b (by omega) (by omega) la lb br) (v3 1 a b) ?_
  rintro _ rfl
  rw [fldI]
  refine a_call (c18' 2 a b (by omega) (by omega) la lb br) (v3 2 a b) ?_
  rintro _ rfl
  rw [fldI]
  refine a_call (c18' 3 a b (by omega) (by omega) la lb br) (v3 3 a b) ?_
  rintro _ rfl
  rw [fldI]
  have w1 : IntKind.i64.wrap ((n : Int) - 1) = ((n - 1 : Nat) : Int) := by rw [wrap64 (by omega) (by omega)]; omega
  have i1 : (0 : Int) ≤ ((n - 1 : Nat) : Int) := by omega
  have l1 : ((n - 1 : Nat) : Int) < ((collWs 5 a b).length : Int) := by rw [collWs_len]; omega
  have l2 : (0 : Int) < ((collWs 6 a b).length : Int) := by rw [collWs_len]; omega
  have l3 : (0 : Int) < ((collWs 5 a b).length : Int) := by rw [collWs_len]; omega
  have l4 : (0 : Int) < (a.length : Int) := by omega
  have g1 : ((n - 1 : Nat) : Int).toNat = n - 1 := Int.toNat_natCast _
  have g0 : (0 : Int).toNat = 0 := rfl
  have e1 : at0 (collWs 5 a b) (n - 1) = w32 (sumN a n) := by rw [at0_ws (by omega)]; show w32 (sumN a (n - 1 + 1)) = _; rw [Nat.sub_add_cancel hn1]
  have e2 : at0 (collWs 6 a b) 0 = w32 (sumN a n) := by rw [at0_ws (by omega)]; show w32 (sumN a a.length) = _; rw [la]
  have e3 : at0 (collWs 5 a b) 0 = at0 a 0 := by
    rw [at0_ws (by omega)]
    show w32 (sumN a 1) = _
    have := ar _ (List.mem_of_getElem? (at0_get (v := a) (k := 0) (by omega)))
    rw [sumN, sumN, Int.zero_add, w32_id this]
  simp only [↓lenI, collWs_len, la, ↓v_neq, decide_true, Bool.not_true, ↓g1f, g1f, ↓d_pick, ↓h_pick, Bool.false_eq_true, if_false, ↓v_sub, w1, ↓d_iadd, ↓d_ld, ↓iaddI i1 l1, ↓iaddI (Int.le_refl 0) l2, ↓iaddI (Int.le_refl 0) l3, ↓iaddI (Int.le_refl 0) l4, ↓ldI, g1, g0, e1, e2, e3, v_cond_f, ↓h_conv, ↓v_shl]
  have u1 : IntKind.u64.wrap (n : Int) = (n : Int) := by rw [wrapu, Nat.mod_eq_of_lt (by omega)]
  refine ⟨by rw [u1]; omega, fun _ h => h = h27, ?_, ?_⟩
  case refine_2 =>
    rw [full_eq hn32]
    exact law6_loop (b := b) la hn1 hn32 ar rfl
  rintro f180 h181 rfl
  have so := shuffle_own (a := a) (o := ownL n) (by rw [la, ownL_len]) (fun i hi => by
    rw [ownL_len] at hi
    simp [at0, ownL, hi])
  have st := shuffle_two (a := a) (b := b) (c := c) (by omega) (by omega)
  have l4 : (collWs 4 a b).length = n := by rw [collWs_len, la]
  have l5 : (collWs 4 b c).length = n := by rw [collWs_len, lb]
  rw [hf]
  have e : D.ms m 0 n = .ms m 0 ((ownL n).map (D.int .i32)).length := by rw [List.length_map, ownL_len]
  rw [e]
  refine a_callms3 hm (i32_one _) (c18' 4 a (ownL n) (by omega) (by omega) la (ownL_len n) (fun z hz => ?_)) (fun d hd => ?_) ?_
  · simp only [ownL, List.mem_map, List.mem_range] at hz
    obtain ⟨i, hi, rfl⟩ := hz
    omega
  · exact v3 4 a a d (by
      simp only [List.mem_cons, List.not_mem_nil, or_false] at hd ⊢
      rcases hd with rfl | rfl
      · left; rfl
      · right; left; rfl)
  rintro _ h183 rfl -
  rw [fldI, so]
  refine a_call (c18' 4 a b (by omega) (by omega) la lb br) (v3 4 a b) ?_
  rintro _ rfl
  rw [fldI]
  refine a_call (c18' 4 (collWs 4 a b) c (by omega) (by omega) l4 lc cr) (v3 4 _ c) ?_
  rintro _ rfl
  rw [fldI]
  refine a_call (c18' 4 b c (by omega) (by omega) lb lc cr) (v3 4 b c) ?_
  rintro _ rfl
  rw [fldI]
  refine a_call (c20 a (by omega)) (v4 a a) ?_
  rintro _ rfl
  simp only [↓v_guard, ne_eq, not_true_eq_false, false_implies, and_true, true_implies]
  refine a_call (c18' 4 a (collWs 4 b c) (by omega) (by omega) la l5 (ws4_mem br)) (v3 4 a _) ?_
  rintro _ rfl
  rw [fldI, st]
  refine a_call (c20 _ (by rw [collWs_len]; omega)) (v4 _ _) ?_
  rintro _ rfl
  simp only [↓h_pick, if_true, ↓v_guard, ne_eq, not_true_eq_false, false_implies, and_true, true_implies, vret_bool]

set_option maxRecDepth 100000 in
theorem law6H (xs : List D) (h : HasTys Tryd.prog 12 Tryd.f6.params.toList xs) : VCall Tryd.prog 6 xs (· = .bool true) := by
  have hp : Tryd.f6.params.toList = [25, 25, 25] := by kernel_rfl
  rw [hp] at h
  obtain ⟨c1, r1, rfl, h1, c2, r2, rfl, h2, c3, r3, rfl, h3, rfl⟩ := h
  obtain ⟨a, rfl, ha, har⟩ := is_words h1
  obtain ⟨b, rfl, hb, hbr⟩ := is_words h2
  obtain ⟨c, rfl, hc, hcr⟩ := is_words h3
  rw [mk25, mk25, mk25]
  exact law6 ha hb hc har hbr hcr
end Go.Am
