/- What the functions of this chapter give, on plain data. No condition. -/
import Derived.Shelf.Spec.SlicesGrow
import Derived.Test.YtemgkmgmnnaloaaP2
set_option linter.unnecessarySimpa false
set_option linter.defProp false
set_option linter.unusedSectionVars false
set_option linter.unusedSimpArgs false
set_option linter.unusedVariables false
namespace Go.Am
open Go
def fitsM (s : Int) : List bO -> Mm -> Bool
 | [], [] => true
 | a :: r, w :: m => decide (a.sz s = (w.length : Int)) && fitsM s r m
 | _, _ => false
theorem z7 {s : Int} : ∀ {xs : List bO} {ms : Mm}, fitsM s xs ms = true -> xs.length = ms.length
 | [], [], _ => rfl
 | a :: r, w :: m, h => by simp [fitsM] at h; simp [z7 h.2]
 | [], _ :: _, h => by simp [fitsM] at h
 | _ :: _, [], h => by simp [fitsM] at h
theorem sR {s : Int} : ∀ {xs : List bO} {ms : Mm}, xs.length = ms.length -> (fitsM s xs ms = true ↔ ∀ (i : Nat) (a : bO) (w : List Int), xs[i]? = some a -> ms[i]? = some w -> a.sz s = (w.length : Int))
 | [], [], _ => by simp [fitsM]
 | a :: r, w :: m, h => by
  simp only [List.length_cons, Nat.add_right_cancel_iff] at h
  simp only [fitsM, Bool.and_eq_true, decide_eq_true_eq, sR h]
  constructor
  ·rintro ⟨h1, h2⟩ i a' w' ha hw
   cases i with
   | zero => simp at ha hw; subst ha hw; exact h1
   | succ i => exact h2 i a' w' (by simpa using ha) (by simpa using hw)
  ·intro h
   exact ⟨h 0 a w rfl rfl, fun i a' w' ha hw => h (i + 1) a' w' (by simpa using ha) (by simpa using hw)⟩
theorem Nj {s : Int} {xs : List bO} {ms : Mm} (h : xs.length ≠ ms.length) : fitsM s xs ms = false := by
 cases e : fitsM s xs ms with
 | false => rfl
 | true => exact absurd (z7 e) h
theorem Ni {s : Int} {xs : List bO} {ms : Mm} (hl : xs.length = ms.length) {i : Nat} {a : bO} {w : List Int} (ha : xs[i]? = some a) (hw : ms[i]? = some w) (h : a.sz s ≠ (w.length : Int)) : fitsM s xs ms = false := by
 cases e : fitsM s xs ms with
 | false => rfl
 | true => exact absurd ((sR hl).1 e i a w ha hw) h
theorem OQ (a : bO) (w : List Int) (n : Nat) (s : Int) {h : Heap} {K : HK} (hb : h n = .box (.int .i64 s)) (hk : ∀ h', Ext h h' -> K (.bool (decide (a.sz s = (w.length : Int)))) h') : ag PP gH [a.e, words w, .ptr n 0 0] h K := by
 refine aW tI (aA _ _ _) rfl (tA _ _ _ _) ?_
 (unfold nH; try dsimp only [xL, yL, xF, yF, xI, yI, xS, zI, zJ])
 rw [cF]
 refine ⟨(bO.vd a).2, fun m t => ?_⟩
 have hne : n ≠ m := t.ne (by rw [hb]; simp)
 have hm : ah h m (.box a.e) m = .box (.agg [.str a.name, .int .i64 a.space, .int .i64 a.type, .int .i64 a.len]) := ad _ _ _
 have hn : ah h m (.box a.e) n = .box (.int .i64 s) := by rw [aa _ _ hne]; exact hb
 have l4 : ∀ {K : HK}, ab PP (.ld (.c (.ptr m 0 0)) 4 true) (ah h m (.box a.e)) K = K a.e (ah h m (.box a.e)) := fun {K} => de hm
 rw [l4, GN hn rfl]
 refine aY (Mo a s) ⟨bO.bQ a, aX, trivial⟩ ?_
 rw [words, l8, List.length_map, aM]
 exact hk _ (Ext.new t _)
theorem RA : dU PP gH = true := by kernel_rfl
theorem Pw : dU PP fN = true := by kernel_rfl
theorem PE {P : Program} {l : List bO} {k : Nat} {r : bO} (hr : l[k]? = some r) {h : Heap} {KH : HK} : ab P (.iadd (.c (.sl (l.map bO.e))) (.c (.int .i64 (k : Int))) 4) h KH = KH (.vp r.e 0) h := by
 have hk := (List.getElem?_eq_some_iff.1 hr).1
 rw [ig, Int.toNat_natCast, List.getElem?_map, hr, List.length_map]
 apply propext
 constructor
 ·rintro ⟨-, -, h⟩; exact (h _ rfl).2
 ·intro hk'; exact ⟨by omega, by omega, fun d hd => by cases hd; exact ⟨rfl, hk'⟩⟩
theorem QU {xs : List bO} {ms : Mm} (hlx : xs.length <= 1000000) (s : Int) : aF PP mV [.sl (xs.map bO.e), .int .i64 s, aP ms] (· = .bool (fitsM s xs ms)) := by
 refine bc AN (aA _ _ _) rfl (Aw _ _ _ _) ?_
 (unfold uk; try dsimp only [xL, yL, xF, yF, xI, yI, xS, zI, zJ])
 rw [cF]
 refine ⟨ki.2, fun n t => ?_⟩
 have hb : ah aJ n (.box (.int .i64 s)) n = .box (.int .i64 s) := ad _ _ _
 generalize ah aJ n (.box (.int .i64 s)) = h at hb
 rw [SO]
 have hk : ∀ (h' : Heap) (b : Bool), b = fitsM s xs ms -> sV (· = .bool (fitsM s xs ms)) (.bool b) h' := fun h' b hb => bJ.mpr (by rw [hb])
 refine aW cA (aA _ _ _) rfl (cv _ _ _ _) ?_
 (unfold bC; try dsimp only [xL, yL, xF, yF, xI, yI, xS, zI, zJ])
 rw [l8, lE, cC, List.length_map]
 by_cases hl : xs.length = ms.length
 case neg =>
  simp only [show ((xs.length : Int) = (ms.length : Int)) = False from eq_false (by omega), decide_false, Bool.not_false, ↓af]
  exact hk _ _ (Nj hl).symm
 simp only [hl, decide_true, Bool.not_true, ↓ae]
 refine ⟨fun _ _ => fitsM s xs ms = true, fun _ h' h2 => hk _ _ h2.symm, ?_⟩
 rw [l8, List.length_map]
 (unfold bq; try dsimp only [xL, yL, xF, yF, xI, yI, xS, zI, zJ])
 refine ⟨fun k qs h' => ∃ i : Nat, qs = [.int .i64 (i : Int)] /\ k + i = xs.length /\ h' n = .box (.int .i64 s) /\ ∀ (j : Nat) (a : bO) (w : List Int), j < i -> xs[j]? = some a -> ms[j]? = some w -> a.sz s = (w.length : Int), xs.length, ⟨0, rfl, rfl, hb, fun j a w hj => by omega⟩, ?_⟩
 rintro k f h' ⟨i, hf, hki, hb, hall⟩
 simp only [List.cons.injEq, and_true] at hf
 rw [hf, bL]
 by_cases hi : i < xs.length
 case neg =>
  simp only [show ¬ ((i : Int) < (xs.length : Int)) by omega, decide_false, ↓ae, ai, true_and]
  refine (sR hl).2 fun j a w ha hw => hall j a w ?_ ha hw
  have := (List.getElem?_eq_some_iff.1 ha).1
  omega
 have ha : xs[i]? = some xs[i] := List.getElem?_eq_getElem hi
 have hw : ms[i]? = some (ms[i]'(by omega)) := List.getElem?_eq_getElem (by omega)
 obtain ⟨a, hae⟩ : ∃ a, a = xs[i] := ⟨_, rfl⟩
 obtain ⟨w, hwe⟩ : ∃ w, w = ms[i]'(by omega) := ⟨_, rfl⟩
 rw [<- hae] at ha
 rw [<- hwe] at hw
 simp only [show ((i : Int) < (xs.length : Int)) by omega, decide_true, ↓af, ↓PE ha, ↓Ka]
 rw [bS]
 intro m t2
 have hne : n ≠ m := t2.ne (by rw [hb]; simp)
 have es : setCells (.agg Tk) 0 a.e.cells = a.e := rfl
 rw [dt, ad]
 refine ⟨rfl, (bO.bQ a).one, rfl, by simp, ?_⟩
 rw [gY, es]
 have hm : ah h' m (.box a.e) m = .box (.agg [.str a.name, .int .i64 a.space, .int .i64 a.type, .int .i64 a.len]) := ad _ _ _
 have hn : ah h' m (.box a.e) n = .box (.int .i64 s) := by rw [aa _ _ hne]; exact hb
 generalize ah h' m (.box a.e) = h2 at hm hn
 have l4 : ∀ {K : HK}, ab PP (.ld (.c (.ptr m 0 0)) 4 true) h2 K = K a.e h2 := fun {K} => de hm
 rw [wX hw, qt, l4, JX]
 refine ⟨RA, OQ a w n s hn fun h3 x3 => ?_⟩
 have hn3 : h3 n = .box (.int .i64 s) := by rw [x3 n (by rw [hn]; simp), hn]
 by_cases hsz : a.sz s = (w.length : Int)
 case neg =>
  simp only [hsz, decide_false, ↓MD, ↓af]
  exact hk _ _ (Ni hl ha hw hsz).symm
 simp only [hsz, decide_true, ↓Ea, ↓ae]
 rw [br, F1 (i := i) (by omega)]
 refine ⟨by simp, k - 1, by omega, i + 1, rfl, by omega, hn3, fun j a' w' hj ha' hw' => ?_⟩
 rcases Nat.lt_or_ge j i with h3 | h3
 ·exact hall j a' w' h3 ha' hw'
 ·have : j = i := by omega
  subst this
  rw [ha] at ha'; rw [hw] at hw'
  cases ha'; cases hw'
  exact hsz
end Go.Am
namespace Go.Am
open Go Go.Proofs Go.Shelf
def lF : Ren where
 f := fun x => match x with
  | 4 => 72
  | n => n
 t := fun x => match x with
  | 22 => 39
  | 25 => 21
  | n => n
 g := fun n => n
theorem P1 : Lays8.n4 Try.prog lF where
 mixed := by kernel_rfl
 f4 := ⟨ "slices.Grow[[]int32,int32]", by decide, by kernel_rfl⟩
 t0 := Try.underlying0
 a0 := Try.isAgg0
 z0 := Try.sizeOf0
 v0 := Try.zeroValue0
 t3 := Try.underlying3
 a3 := Try.isAgg3
 z3 := Try.sizeOf3
 v3 := Try.zeroValue3
 t4 := Try.underlying4
 a4 := Try.isAgg4
 z4 := Try.sizeOf4
 v4 := Try.zeroValue4
 t9 := Try.underlying9
 a9 := Try.isAgg9
 z9 := Try.sizeOf9
 v9 := Try.zeroValue9
 t20 := Try.underlying20
 a20 := Try.isAgg20
 z20 := Try.sizeOf20
 v20 := Try.zeroValue20
 t22 := Try.underlying39
 a22 := Try.isAgg39
 z22 := Try.sizeOf39
 v22 := Try.zeroValue39
theorem KZ : ∃ i0 : TypeInfo, PP.info? (lF.t 25) = some i0 /\ i0.zero = some (.int .i32 0) /\ i0.size = 1 /\ i0.bytes = 4 := by
 have hs : (PP.info? (lF.t 25)).map (·.size) = some 1 := by kernel_rfl
 have hb : (PP.info? (lF.t 25)).map (·.bytes) = some 4 := by kernel_rfl
 have hz : (PP.info? (lF.t 25)).bind (·.zero) = some (Value.int .i32 0) := by kernel_rfl
 cases e : PP.info? (lF.t 25) with
 | none => rw [e] at hs; cases hs
 | some i0 =>
  rw [e] at hs hb hz
  exact ⟨i0, rfl, by simpa using hz, by simpa using hs, by simpa using hb⟩
theorem Rj : lF.f 4 = dB := by kernel_rfl
theorem QT {n : Nat} {h : Heap} {KH : HK} (hn : n <= 1000000) (h0 : n = 0 -> KH .nil h) (hk : ∀ q, nK h q -> KH (.ms q 0 0) (ah h q (.arr 1 []))) : ag PP dB [.nil, .int .i64 (n : Int)] h KH := by
 intro c w vals hh hp hr hs hrel
 obtain ⟨i0, hi, hz, hsz, hb⟩ := KZ
 have e0 : vals = #[.slice none 0 0, .int .i64 (n : Int)] := by
  have r0 := hrel 0 .nil rfl
  have r1 := hrel 1 (.int .i64 (n : Int)) rfl
  apply Array.ext
  ·simpa using hs
  ·intro i h1 h2
   have : i = 0 \/ i = 1 := by simp at h2; omega
   rcases this with rfl | rfl
   ·have e : vals.getD 0 Go.undef = vals[0] := by simp [Array.getD, h1]
    rw [e] at r0; show vals[0] = Value.slice none 0 0; generalize vals[0] = v at r0; cases r0; rfl
   ·have e : vals.getD 1 Go.undef = vals[1] := by simp [Array.getD, h1]
    rw [e] at r1; show vals[1] = Value.int .i64 (n : Int); generalize vals[1] = v at r1; cases r1; rfl
 rw [e0, <- Rj]
 by_cases hn0 : n = 0
 ·subst hn0
  refine (Any8.slices_Grow_room P1 none 0 0 0 w (Nat.le_refl _) (by omega) (by omega) (Nat.le_refl _)).mono ?_
  rintro e w' ⟨rfl, rfl⟩
  refine ⟨_, .nil, c.ρ, c.h, rfl, ?_, ?_, WS.refl _, .nil, by rw [hh]; exact h0 rfl⟩
  ·rw [<- hp]; exact Ctx.le.refl _
  ·rw [<- hp]; exact hr
 refine (Any8.slices_Grow_grow P1 i0 _ hi hz (by omega) none 0 0 n [] w (Nat.le_refl _) (by omega) (by rw [hb]; omega) (by omega) (by simp) (fun _ => rfl) (fun a ha => by cases ha)).mono ?_
 rintro e w' ⟨rfl, rfl⟩
 obtain ⟨q, htop⟩ := cZ hr
 have hq := htop.free
 have hG := grownCap_ge w (0 + n) 0 (lF.t 25)
 have hG2 := grownCap_le_maxLen w (0 + n) 0 (lF.t 25) (by unfold maxLen; omega)
 generalize grownCap w (0 + n) 0 (lF.t 25) = G at hG hG2 ⊢
 obtain ⟨cells, hcells⟩ : ∃ cells : Array Value, cells = ([] : List Value).toArray ++ Builtin.zeroCells (Value.int .i32 0).cells (0 + n - 0) ++ Builtin.zeroCells (Value.int .i32 0).cells (G - (0 + n)) := ⟨_, rfl⟩
 rw [<- hcells]
 have hsize : cells.size = G := by
  have h1 : (Value.int .i32 0).cells.size = 1 := rfl
  rw [hcells]; simp [Builtin.zeroCells, h1]; omega
 have hst := gX.new (c := c) (s := .arr 1 []) hq trivial (.cells cells (lF.t 25)) (hp' := (w.drew.alloc (.cells cells (lF.t 25))).heap) (by rw [hp]; rfl)
 have hsl : cR ⟨ah c.ρ q (some c.hp.size), c.X, ah c.h q (.arr 1 []), (w.drew.alloc (.cells cells (lF.t 25))).heap⟩ q (.arr 1 []) :=
  xu (hp := w.heap) rfl (by simp [ah, hp]) (by omega) (by simp) (by simp) (fun i j d hd => by simp [aU] at hd)
 refine ⟨_, .ms q 0 0, ah c.ρ q (some c.hp.size), ah c.h q (.arr 1 []), rfl, hst.le, hst.heap hr (by simpa using hsl), ⟨rfl, rfl, rfl⟩, ?_, by rw [hh]; exact hk q (by rw [<- hh]; exact htop)⟩
 have := au.ms (c := ⟨ah c.ρ q (some c.hp.size), c.X, ah c.h q (.arr 1 []), (w.drew.alloc (.cells cells (lF.t 25))).heap⟩) q 0 0 w.heap.size 1 G [] cells (lF.t 25) (0, 0) (by simp [ah, Slot.row]) (by simp [ah, hp])
  (by simp) (gp _ _) (by simp [hsize]) (by omega) hG2
 simpa using this
theorem PH {P : Program} {h : Heap} {KH : HK} {z s : D} {w u : List Int} (ho : Own 1 h s (wr w)) (hl : w.length + u.length <= 1000000)
  (hk : ∀ v h', Own 1 h' v (wr (w ++ u)) -> KH v h') : ab P (.app (.c s) (.c (words u)) 1 4 z) h KH := by
 refine ⟨fun d hd => ?_, fun y hy => ?_, ?_⟩
 ·simp only [words, List.mem_map] at hd; obtain ⟨z, -, rfl⟩ := hd; rfl
 ·simp only [words, List.mem_map] at hy; obtain ⟨z, -, rfl⟩ := hy; simp
 have e : wr (w ++ u) = wr w ++ wr u := by simp [wr]
 rcases ho with ⟨rfl, hw⟩ | ⟨m, rfl, hm⟩
 ·have hw : w = [] := by cases w <;> first | rfl | (simp [wr] at hw)
  subst hw
  refine ⟨⟨by simp at hl ⊢; omega, by simp at hl ⊢; omega⟩, fun n t => hk _ _ (Or.inr ⟨n, ?_, ad _ _ _⟩)⟩
  simp [wr]
 ·refine ⟨wr w, hm, rfl, rfl, ⟨by rw [og]; simp at hl ⊢; omega, by rw [og]; simp at hl ⊢; omega⟩, fun n t => hk _ _ (Or.inr ⟨n, ?_, ?_⟩)⟩
  ·rw [e]; simp [wr, words]
  ·rw [ad, e]; rfl
theorem MJ {ws : Mm} {i : Nat} {w : List Int} (hw : ws[i]? = some w) : (ws.take (i + 1)).flatten = (ws.take i).flatten ++ w := by
 rw [List.take_add_one, hw]; simp
theorem SF {ws : Mm} : ∀ i, (ws.take i).flatten.length <= ws.flatten.length := fun i => by
 conv => rhs; rw [<- List.take_append_drop i ws]
 rw [List.flatten_append, List.length_append]; omega
theorem Mp {ws : Mm} (hl : ws.flatten.length <= 1000000) (hn : ws.length <= 1000000) : aF PP bW [aP ws] (· = words ws.flatten) := by
 refine fX (aW jc (aA _ _ _) rfl (ja _ _) ?_)
 (unfold fQ; try dsimp only [xL, yL, xF, yF, xI, yI, xS, zI, zJ])
 refine ⟨fun qs h' => qs = [.int .i64 (ws.flatten.length : Int)], ?_, ?_⟩
 ·rintro f h' hf
  simp only [List.cons.injEq, and_true] at hf
  rw [hf]
  have fin : ∀ (v : D) (h6 : Heap), Own 1 h6 v (wr []) -> ∃ (J7 : HJ), (∀ (f8 : Nat -> D) (h9 : Heap), J7 [f8 6] h9 -> ES (· = words ws.flatten) (f8 6) h9) /\ cq (aP ws) h6 fun a10 => cw v h6 a10 (aP ws) J7 := by
   intro v h6 O
   refine ⟨fun qs h' => ∃ v, qs = [v] /\ Own 1 h' v (wr ws.flatten), ?_, ?_⟩
   ·rintro f8 h9 ⟨v, hv, O⟩
    simp only [List.cons.injEq, and_true] at hv
    rw [hv]
    have ht : ∀ ds, v ≠ .tup ds := by rcases O with ⟨rfl, -⟩ | ⟨n, rfl, -⟩ <;> simp
    exact eg ht (by simp [words]) (.refl _) (PZ O).d rfl
   rw [lE]
   (unfold cw; try dsimp only [xL, yL, xF, yF, xI, yI, xS, zI, zJ])
   refine ⟨fun k qs h' => ∃ (i : Nat) (v : D), qs = [v, .int .i64 (i : Int)] /\ k + i = ws.length /\ Own 1 h' v (wr (ws.take i).flatten), ws.length, ⟨0, v, rfl, rfl, by simpa using O⟩, ?_⟩
   rintro k f h' ⟨i, v, hf, hki, O⟩
   simp only [List.cons.injEq, and_true] at hf
   obtain ⟨hf1, hf2⟩ := hf
   rw [hf1, hf2, bL]
   by_cases hi : i < ws.length
   case neg =>
    simp only [show ¬ ((i : Int) < (ws.length : Int)) by omega, decide_false, ↓ae, ai, true_and]
    rw [List.take_of_length_le (by omega)] at O
    exact ⟨v, rfl, O⟩
   have hw : ws[i]? = some ws[i] := List.getElem?_eq_getElem hi
   have ht := MJ hw
   have hle := SF (ws := ws) (i + 1)
   rw [ht, List.length_append] at hle
   simp only [show ((i : Int) < (ws.length : Int)) by omega, decide_true, ↓af, ↓wX hw, ↓qt]
   refine PH O (by omega) fun v' h2 O2 => ?_
   rw [br, F1 (i := i) (by omega)]
   exact ⟨by simp, k - 1, by omega, i + 1, v', rfl, by omega, by rw [ht]; exact O2⟩
  exact QT hl (fun _ => fin _ _ (Or.inl ⟨rfl, rfl⟩)) fun q t => fin _ _ (Or.inr ⟨q, rfl, ad _ _ _⟩)
 rw [lE]
 (unfold eQ; try dsimp only [xL, yL, xF, yF, xI, yI, xS, zI, zJ])
 refine ⟨fun k qs h' => ∃ (i : Nat), qs = [.int .i64 ((ws.take i).flatten.length : Int), .int .i64 (i : Int)] /\ k + i = ws.length, ws.length, ⟨0, rfl, rfl⟩, ?_⟩
 rintro k f h' ⟨i, hf, hki⟩
 simp only [List.cons.injEq, and_true] at hf
 obtain ⟨hf1, hf2⟩ := hf
 rw [hf1, hf2, bL]
 by_cases hi : i < ws.length
 case neg =>
  simp only [show ¬ ((i : Int) < (ws.length : Int)) by omega, decide_false, ↓ae, ai, true_and]
  rw [List.take_of_length_le (by omega)]
 have hw : ws[i]? = some ws[i] := List.getElem?_eq_getElem hi
 have ht := MJ hw
 have hle := SF (ws := ws) (i + 1)
 rw [ht, List.length_append] at hle
 simp only [show ((i : Int) < (ws.length : Int)) by omega, decide_true, ↓af, ↓wX hw, ↓qt, ↓lZ]
 refine ⟨fun qs _ => qs = [.int .i64 ((ws.take (i + 1)).flatten.length : Int)], ?_, ?_⟩
 ·rintro f3 h3 hf3
  simp only [List.cons.injEq, and_true] at hf3
  rw [hf3, br, F1 (i := i) (by omega)]
  exact ⟨by simp, k - 1, by omega, i + 1, rfl, by omega⟩
 rw [br, wrap64 (by omega) (by omega), bL]
 simp only [show ¬ ((((ws.take i).flatten.length : Int) + (ws[i].length : Int)) < 0) by omega, decide_false, ↓ae, ai, true_and]
 rw [ht, List.length_append]; simp
theorem D3 {w : List Int} (hl : w.length <= 1000000) {h : Heap} {KH : HK} (hk : ∀ h', KH (.bool (w.any (· ≠ 0))) h') : ag PP bH [words w, .fn fN [] []] h KH := by
 refine aW gL (aA _ _ _) rfl (gK _ _ _) ?_
 (unfold dK; try dsimp only [xL, yL, xF, yF, xI, yI, xS, zI, zJ])
 refine aW im (aA _ _ _) rfl (il _ _ _) ?_
 (unfold eP; try dsimp only [xL, yL, xF, yF, xI, yI, xS, zI, zJ])
 refine ⟨fun _ _ => w.any (· ≠ 0) = false, fun _ h' he => ?_, ?_⟩
 ·show vbin .geq (.int .i64 (-1)) (.int .i64 0) _
  rw [iq]
  have := hk h'
  have he : w.any (· ≠ 0) = false := he
  rw [he] at this
  exact this
 rw [lZ]
 (unfold dJ; try dsimp only [xL, yL, xF, yF, xI, yI, xS, zI, zJ])
 refine ⟨fun k qs h' => ∃ (i : Nat), qs = [.int .i64 (i : Int)] /\ k + i = w.length /\ ∀ v, v ∈ w.take i -> v = 0, w.length, ⟨0, rfl, rfl, by simp⟩, ?_⟩
 rintro k f h' ⟨i, hf, hki, hall⟩
 simp only [List.cons.injEq, and_true] at hf
 rw [hf, bL]
 by_cases hi : i < w.length
 case neg =>
  simp only [show ¬ ((i : Int) < (w.length : Int)) by omega, decide_false, ↓ae, ai, true_and]
  rw [List.take_of_length_le (by omega)] at hall
  simpa using hall
 have hv : w[i]? = some w[i] := List.getElem?_eq_getElem hi
 simp only [show ((i : Int) < (w.length : Int)) by omega, decide_true, ↓af, ↓Dp hv, ↓Ef]
 rw [JX]
 refine ⟨Pw, ?_⟩
 refine aW wo (aA _ _ _) rfl (v8 _ _) ?_
 (unfold pI; try dsimp only [xL, yL, xF, yF, xI, yI, xS, zI, zJ])
 show vbin .neq (.int .i32 w[i]) (.int .i32 0) _
 rw [cC]
 by_cases h0 : w[i] = 0
 case neg =>
  simp only [h0, decide_false, Bool.not_false, ↓af]
  rw [iq]
  have := hk h'
  rw [show w.any (· ≠ 0) = true by simpa using ⟨w[i], List.getElem_mem _, h0⟩] at this
  simpa using this
 simp only [h0, decide_true, Bool.not_true, ↓ae]
 rw [br, F1 (i := i) (by omega)]
 refine ⟨by simp, k - 1, by omega, i + 1, rfl, by omega, fun v hv' => ?_⟩
 rw [List.take_add_one, hv] at hv'
 rcases List.mem_append.1 hv' with hv' | hv'
 ·exact hall v hv'
 ·simp at hv'; rw [hv', h0]
def mN (w : List Int) : Bool := w.all (· = 0)
theorem Ig {w : List Int} : mN w = true ↔ ∀ v ∈ w, v = 0 := by simp [mN]
def Es (m : Mm) : Bool := m.all mN
theorem I3 {m : Mm} : Es m = true ↔ ∀ w ∈ m, ∀ v ∈ w, v = 0 := by simp [Es, mN]
structure Ke where
 id : Int
 at_ : Int
 block : Int
 epoch : Int
 regs : List Int
 priv : Mm
 slots : List Int
abbrev Ke.cs (x : Ke) : List D := [.int .i64 x.id, .int .i64 x.at_, .int .i64 x.block, .int .i64 x.epoch, words x.regs, aP x.priv, words x.slots]
def Ke.e (x : Ke) : D := .agg x.cs
theorem Ke.bQ (x : Ke) : wu x.e := cQ (by simp [words, aP])
structure T2 (x : Ke) : Prop where
 r : x.regs.length <= 1000
 s : x.slots.length <= 1000
 p : x.priv.length <= 1000
def It.g (x : It) : Ke := ⟨x.id, x.at_, x.block, x.epoch, x.regs, x.priv, []⟩
theorem It.Uw (x : It) : x.g.e = x.e := rfl
structure vW (c : Code) (l : dh) (x : Ke) : Prop where
 id : 0 <= x.id /\ x.id < l.groups * c.group
 ep : 0 <= x.epoch
 bl : 0 <= x.block /\ x.block < (c.b.length : Int)
 rg : (x.regs.length : Int) = c.regs
 sl : (x.slots.length : Int) = c.slots
 ft : fitsM 3 c.arrays x.priv = true
 a : x.at_ = 1 \/ (x.at_ = 2 /\ ((fH c x.block).kind = 3 \/ (fH c x.block).kind = 4)) \/ (x.at_ = 3 /\ x.block = 0 /\ mN x.regs = true /\ mN x.slots = true /\ Es x.priv = true)
noncomputable def qv (c : Code) (l : dh) (x : Ke) : Bool := @decide (vW c l x) (Classical.propDecidable _)
theorem zf {c : Code} {l : dh} {x : Ke} (h : ¬ vW c l x) : qv c l x = false := by unfold qv; exact @decide_eq_false _ (Classical.propDecidable _) h
theorem oi {c : Code} {l : dh} {x : Ke} (h : vW c l x) : qv c l x = true := by unfold qv; exact @decide_eq_true _ (Classical.propDecidable _) h
theorem FC {c : Code} {l : dh} {x : Ke} {b : Bool} (h : b = true ↔ vW c l x) : qv c l x = b := by
 cases b with
 | true => exact oi (h.1 rfl)
 | false => exact zf fun k => by cases h.2 k
theorem Rk {P : Program} {h : Heap} {KH : HK} {z x y : D} (hx : x.vone = true) (hy : y.vone = true) (hk : ∀ n, nK h n -> KH (.ms n 0 2) (ah h n (.arr 1 [x, y]))) : ab P (.bldS true 1 2 z [(0, .c x), (1, .c y)]) h KH := by
 have cx := gE (D.dw hx)
 have cy := gE (D.dw hy)
 obtain ⟨x1, x2, x3⟩ := Dt (h := h) (sM hx)
 obtain ⟨y1, y2, y3⟩ := Dt (h := h) (sM hy)
 refine ⟨fun p hp => ?_, fun _ p hp => ?_, fun n t => ?_⟩
 ·simp [Arg.get] at hp
  rcases hp with rfl | rfl
  ·exact ⟨by simp, by simp [cx], fun d hd => by rw [cx] at hd; simp at hd; subst hd; exact D.dw hx⟩
  ·exact ⟨by simp, by simp [cy], fun d hd => by rw [cy] at hd; simp at hd; subst hd; exact D.dw hy⟩
 ·simp [Arg.get] at hp
  rcases hp with rfl | rfl
  ·first | exact x3 | exact ⟨x3, by rw [x1]; exact sM hx⟩
  ·first | exact y3 | exact ⟨y3, by rw [y1]; exact sM hy⟩
 ·have := hk n t
  simpa [Heap.freezeAll, setEls, Arg.get, x1, x2, y1, y2] using this
theorem PI {P : Program} {h : Heap} {KH : HK} {z : D} {n : Nat} {ws m : Mm} (hn : h n = .arr 1 (ws.map words)) (hl : ws.length + m.length <= 1000000)
  (hk : ∀ q h', h' q = .arr 1 ((ws ++ m).map words) -> (∀ k, h k ≠ .free -> k ≠ n -> h' k = h k) -> h q = .free -> KH (.ms q 0 (ws ++ m).length) h') : ab P (.app (.c (.ms n 0 ws.length)) (.c (aP m)) 1 24 z) h KH := by
 refine ⟨fun d hd => ?_, fun y hy => ?_, ws.map words, hn, rfl, by simp, ⟨by simp; omega, by simp; omega⟩, fun q t => ?_⟩
 ·simp only [aP, List.mem_map] at hd; obtain ⟨z, -, rfl⟩ := hd; rfl
 ·simp only [aP, List.mem_map] at hy; obtain ⟨z, -, rfl⟩ := hy; simp [words]
 ·have := hk q (ah (ah h n .dead) q (.arr 1 ((ws ++ m).map words))) (ad _ _ _) (fun k hk hkn => by rw [aa _ _ (t.ne hk), aa _ _ hkn]) t.free
  simpa using this
theorem L5 {P : Program} {f : FuncId} {n : Nat} {els : List D} {h : Heap} {KH : HK} {R : D -> Prop} (hn : h n = .arr 1 els) (he : ∀ x ∈ els, ∀ y ∈ x.cells, y.vone = true)
  (hv : aF P f [.sl els] R) (hk : ∀ r h', R r -> (∀ k, k ≠ n -> h' k = h k) -> KH r h') : ag P f [.ms n 0 els.length] h KH := by
 have hrow : (h n).row = some (1, els) := by rw [hn]; rfl
 have e0 : (D.ms n 0 els.length).fz h = .sl els := by simp [D.fz, D.fzc, hrow]
 refine ag.mono ?_ (iR (K := R) (by rw [List.map_cons, List.map_nil, e0]; exact hv) (fun d hd => ?_))
 ·rintro r h' ⟨k1, k2, k3⟩
  refine hk r h' k1 fun k hkn => ?_
  by_cases hr : r.flat = true \/ [D.ms n 0 els.length].flatMap D.nm = []
  ·rw [k2 hr]
  ·rw [k3 hr]
   simp [D.nm, D.jE, Heap.freezeAll, Heap.freeze, hn, aa _ _ hkn]
 ·simp only [List.mem_singleton] at hd
  subst hd
  refine ⟨by simp, ?_, by rw [e0]; rfl⟩
  intro x hx
  simp only [D.cells, List.mem_singleton] at hx
  subst hx
  exact ⟨1, els, hrow, by simp, fun x hx y hy => he x (by simpa using hx) y hy⟩
theorem TJ (m : Mm) : ∀ x, x ∈ m.map words -> ∀ y ∈ x.cells, y.vone = true := fun x hx y hy => by
 simp only [List.mem_map] at hx
 obtain ⟨z, -, rfl⟩ := hx
 simp [words] at hy; subst hy; rfl
theorem any_zero {w1 w2 : List Int} {m : Mm} : ((w1 :: w2 :: m).flatten.any (· ≠ 0) = false) ↔ mN w1 = true /\ mN w2 = true /\ Es m = true := by
 simp only [List.any_eq_false, List.mem_flatten, List.mem_cons, Ig, I3]
 constructor
 ·intro h
  refine ⟨fun v hv => by simpa using h v ⟨w1, Or.inl rfl, hv⟩, fun v hv => by simpa using h v ⟨w2, Or.inr (Or.inl rfl), hv⟩, fun w hw v hv => by simpa using h v ⟨w, Or.inr (Or.inr hw), hv⟩⟩
 ·rintro ⟨a, b, d⟩ v ⟨w, hw | hw | hw, hv⟩
  ·subst hw; simp [a v hv]
  ·subst hw; simp [b v hv]
  ·simp [d w hw v hv]
theorem Pp {c : Code} (hc : bk c) {m : Mm} (h : fitsM 3 c.arrays m = true) : m.length <= 8 /\ (∀ w ∈ m, w.length <= 8) /\ m.flatten.length <= 64 := by
 have hl := z7 h
 have hna := hc.nar
 have hw : ∀ w ∈ m, w.length <= 8 := fun w hw => by
  obtain ⟨i, hi⟩ := List.getElem?_of_mem hw
  have hlt := (List.getElem?_eq_some_iff.1 hi).1
  have ha : c.arrays[i]? = some (c.arrays[i]'(by omega)) := List.getElem?_eq_getElem (by omega)
  have := (sR hl).1 h i _ w ha hi
  have hao := (hc.ar _ (List.mem_of_getElem? ha)).2
  unfold bO.sz at this
  split at this <;> omega
 refine ⟨by omega, hw, ?_⟩
 have : ∀ (m : Mm), (∀ w ∈ m, w.length <= 8) -> m.flatten.length <= 8 * m.length := by
  intro m
  induction m with
  | nil => simp
  | cons a r ih =>
   intro h
   have := ih fun w hw => h w (by simp [hw])
   have := h a (by simp)
   simp only [List.flatten_cons, List.length_append, List.length_cons]
   omega
 have := this m hw
 omega
theorem OO {c : Code} {l : dh} {x : Ke} (hc : bk c) (hl : lT c l) (hb : T2 x) : aF PP kV [c.e, l.e, x.e] (· = .bool (qv c l x)) := by
 refine bc C6 (aA _ _ _) rfl (CL _ _ _ _) ?_
 (unfold ya; try dsimp only [xL, yL, xF, yF, xI, yI, xS, zI, zJ])
 refine bM.start.box (jK c).2 fun n1 h1 ro1 B => ?_
 refine B.box (oK l) fun n2 h2 ro2 B => ?_
 refine B.box x.bQ.one fun n3 h3 ro3 B => ?_
 obtain ⟨g1, g2, g3⟩ := Dh hc hl
 have u0 := B.used 0 rfl
 have u1 := B.used 1 rfl
 have u2 := B.used 2 rfl
 refine ⟨fun _ _ => ¬ vW c l x, fun _ h' hn => bJ.mpr (by rw [zf hn]), ?_⟩
 simp only [↓bf u0, Nat.zero_add, B.cJ 0 (j := 0) rfl rfl rfl, ↓bL]
 by_cases i1 : x.id < 0
 ·simp only [i1, decide_true, ↓M4, ↓dA, ↓af, ai, true_and]
  exact fun h => by have := h.id; omega
 simp only [i1, decide_false, ↓Fu, ↓bf u0, ↓bf u1, ↓bf u2, Nat.zero_add, B.cJ 0 (j := 0) rfl rfl rfl, B.cJ 1 (j := 0) rfl rfl rfl, B.cJ 2 (j := 0) rfl rfl rfl, ↓fZ, g1, ↓iq, ↓gr]
 by_cases i2 : l.groups * c.group <= x.id
 ·simp only [i2, decide_true, ↓M4, ↓dA, ↓af, ai, true_and]
  exact fun h => by have := h.id; omega
 simp only [i2, decide_false, ↓Fu, ↓bf u0, Nat.zero_add, B.cJ 0 (j := 3) rfl rfl rfl, ↓bL, ↓gr]
 by_cases i3 : x.epoch < 0
 ·simp only [i3, decide_true, ↓af, ai, true_and]
  exact fun h => by have := h.ep; omega
 simp only [i3, decide_false, ↓ae, ↓bf u0, Nat.zero_add, B.cJ 0 (j := 2) rfl rfl rfl, ↓bL]
 by_cases i4 : x.block < 0
 ·simp only [i4, decide_true, ↓M4, ↓dA, ↓af, ai, true_and]
  exact fun h => by have := h.bl; omega
 simp only [i4, decide_false, ↓Fu, ↓bf u0, ↓bf u2, Nat.zero_add, B.cJ 0 (j := 2) rfl rfl rfl, B.cJ 2 (j := 7) rfl rfl rfl, ↓l8, List.length_map, ↓iq, ↓gr]
 by_cases i5 : (c.b.length : Int) <= x.block
 ·simp only [i5, decide_true, ↓af, ai, true_and]
  exact fun h => by have := h.bl; omega
 simp only [i5, decide_false, ↓ae, ↓bf u0, ↓bf u2, Nat.zero_add, B.cJ 0 (j := 4) rfl rfl rfl, B.cJ 2 (j := 2) rfl rfl rfl, ↓lZ, ↓cC]
 by_cases i6 : (x.regs.length : Int) = c.regs
 case neg =>
  simp only [i6, decide_false, Bool.not_false, ↓M4, ↓dA, ↓af, ai, true_and]
  exact fun h => i6 h.rg
 simp only [i6, decide_true, Bool.not_true, ↓Fu, ↓bf u0, ↓bf u2, Nat.zero_add, B.cJ 0 (j := 6) rfl rfl rfl, B.cJ 2 (j := 3) rfl rfl rfl, ↓lZ, ↓cC, ↓gr]
 by_cases i7 : (x.slots.length : Int) = c.slots
 case neg =>
  simp only [i7, decide_false, Bool.not_false, ↓M4, ↓dA, ↓af, ai, true_and]
  exact fun h => i7 h.sl
 simp only [i7, decide_true, Bool.not_true, ↓Fu, ↓bf u0, ↓bf u2, Nat.zero_add, B.cJ 0 (j := 5) rfl rfl rfl, B.cJ 2 (j := 5) rfl rfl rfl]
 have hna := hc.nar
 refine aY (QU (by omega) 3) ⟨dZ, aX, dZ, trivial⟩ ?_
 by_cases i8 : fitsM 3 c.arrays x.priv = true
 case neg =>
  have i8' : fitsM 3 c.arrays x.priv = false := by simpa using i8
  simp only [i8', ↓Fu, ↓MD, ↓gr, ↓af, ai, true_and]
  exact fun h => i8 h.ft
 simp only [i8, ↓Fu, ↓Ea, ↓gr, ↓ae, ↓bf u0, Nat.zero_add, B.cJ 0 (j := 1) rfl rfl rfl, ↓aM]
 have base : ∀ (P : Prop), (P -> x.at_ = 1 \/ (x.at_ = 2 /\ ((fH c x.block).kind = 3 \/ (fH c x.block).kind = 4)) \/ (x.at_ = 3 /\ x.block = 0 /\ mN x.regs = true /\ mN x.slots = true /\ Es x.priv = true)) -> P -> vW c l x := fun P hP p =>
  ⟨⟨by omega, by omega⟩, by omega, ⟨by omega, by omega⟩, i6, i7, i8, hP p⟩
 by_cases a1 : x.at_ = 1
 ·simp only [a1, decide_true, ↓af]
  exact bJ.mpr (by rw [oi (base True (fun _ => Or.inl a1) trivial)])
 simp only [a1, decide_false, ↓ae, ↓bf u0, Nat.zero_add, B.cJ 0 (j := 1) rfl rfl rfl, ↓aM]
 by_cases a2 : x.at_ = 2
 ·obtain ⟨k, Q, hbk, hQ, hQm, ht, -⟩ := hc.Od (b := x.block) ⟨by omega, by omega⟩
  have hat : ∀ {g' : Heap} {K : HK}, ab PP (.iadd (.c (.sl (c.b.map Block.e))) (.c (.int .i64 x.block)) 14) g' K = K (.vp Q.e 0) g' := fun {g' K} => by rw [hbk, vU hQ]
  have hkd : ∀ {g' : Heap} {K : HK}, ab PP (.ld (.c (.vp Q.e 1)) 1 false) g' K = K (.int .i64 Q.t.kind) g' := fun {g' K} => by rw [iO, bm]; rfl
  simp only [a2, decide_true, ↓af, ↓bf u0, ↓bf u2, Nat.zero_add, B.cJ 0 (j := 2) rfl rfl rfl, B.cJ 2 (j := 7) rfl rfl rfl, hat, ↓kY, Nat.add_zero, hkd, ↓aM]
  by_cases k3 : Q.t.kind = 3
  ·simp only [k3, decide_true, ↓M4, ↓dA]
   exact bJ.mpr (by rw [oi (base True (fun _ => Or.inr (Or.inl ⟨a2, Or.inl (by rw [ht]; exact k3)⟩)) trivial)])
  simp only [k3, decide_false, ↓Fu, ↓gr, ↓aM]
  refine bJ.mpr ?_
  rw [FC (b := decide (Q.t.kind = 4))]
  simp only [decide_eq_true_eq]
  constructor
  ·exact base _ fun k4 => Or.inr (Or.inl ⟨a2, Or.inr (by rw [ht]; exact k4)⟩)
  ·intro h
   rcases h.a with e | ⟨-, e | e⟩ | ⟨e, -⟩
   ·exact absurd e a1
   ·rw [ht] at e; exact absurd e k3
   ·rw [ht] at e; exact e
   ·omega
 simp only [a2, decide_false, ↓ae, ↓bf u0, Nat.zero_add, B.cJ 0 (j := 1) rfl rfl rfl, ↓aM]
 by_cases a3 : x.at_ = 3
 case neg =>
  simp only [a3, decide_false, ↓ae, ai, true_and]
  intro h
  rcases h.a with e | ⟨e, -⟩ | ⟨e, -⟩
  ·exact a1 e
  ·exact a2 e
  ·exact a3 e
 simp only [a3, decide_true, ↓af, ↓bf u0, Nat.zero_add, B.cJ 0 (j := 4) rfl rfl rfl, B.cJ 0 (j := 6) rfl rfl rfl]
 refine Rk rfl rfl fun n4 t4 => ?_
 have f4 := t4.free
 have nb : ∀ p, p ∈ [(n3, x.e), (n2, l.e), (n1, c.e)] -> p.1 ≠ n4 := fun p hp e => by
  have := (B.at_ p hp).1; rw [e, f4] at this; cases this
 have B4 := B.re (h0 := aJ) (h' := ah h3 n4 (.arr 1 [words x.regs, words x.slots])) fun p hp => aa _ _ (nb p hp)
 have e4 : ah h3 n4 (.arr 1 [words x.regs, words x.slots]) n4 = .arr 1 ([x.regs, x.slots].map words) := ad _ _ _
 generalize ah h3 n4 (.arr 1 [words x.regs, words x.slots]) = h4 at B4 e4
 simp only [↓bf (B4.used 0 rfl), Nat.zero_add, B4.cJ 0 (j := 5) rfl rfl rfl]
 obtain ⟨p1, p2, p3⟩ := Pp hc i8
 refine PI (ws := [x.regs, x.slots]) (m := x.priv) e4 (by simp; omega) fun q h5 hq k5 fq => ?_
 have nf5 : ∀ p, p ∈ [(n3, x.e), (n2, l.e), (n1, c.e)] -> h4 p.1 ≠ .free := fun p hp => by rw [(B4.at_ p hp).1]; simp
 have B5 := B4.re (h0 := aJ) (h' := h5) fun p hp => k5 p.1 (nf5 p hp) (nb p hp)
 have nq : ∀ p, p ∈ [(n3, x.e), (n2, l.e), (n1, c.e)] -> p.1 ≠ q := fun p hp e => by
  have := (B4.at_ p hp).1; rw [e, fq] at this; cases this
 have hr := hb.r
 have hs := hb.s
 have cc := Mp (ws := [x.regs, x.slots] ++ x.priv) (by simp at p3 ⊢; omega) (by simp; omega)
 have rc := L5 (P := PP) (f := bW) (R := (· = words ([x.regs, x.slots] ++ x.priv).flatten)) hq (TJ _) cc (KH := fun a237 h238 => ab PP (.fadd (.c (.ptr n3 0 0)) 2) h238 fun a239 h240 =>
  ab PP (.ld (.c a239) 1 false) h240 fun a241 h242 => vbin .eql a241 (.int .i64 0) fun a243 => vguard a243 true (fun G244 => G244 a237 h242) h242 fun a245 h246 => vguard a243 true (fun G247 => G247 (.fn fN [] []) h246) h246 fun a248 h249 =>
  vguard a243 true (fun G250 => ag PP bH [a245, a248] h249 fun a253 h254 => G250 a253 h254) h249 fun a251 h252 => vguard a243 true (fun G255 => vun .not a251 fun a258 => G255 a258 h252) h252 fun a256 h257 =>
  ab PP (.pick (.c a243) (.c a256) (.c (.bool false))) h257 fun a259 h260 => sV (· = .bool (qv c l x)) a259 h260) ?_
 ·rw [List.length_map] at rc
  exact rc
 rintro _ h6 rfl k6
 have B6 := B5.re (h0 := aJ) (h' := h6) fun p hp => k6 p.1 (nq p hp)
 simp only [↓bf (B6.used 0 rfl), Nat.zero_add, B6.cJ 0 (j := 2) rfl rfl rfl, ↓aM]
 by_cases b0 : x.block = 0
 case neg =>
  simp only [b0, decide_false, ↓SS, ↓gr]
  refine bJ.mpr ?_
  rw [zf]
  intro h
  rcases h.a with e | ⟨e, -⟩ | ⟨-, e, -⟩
  ·exact a1 e
  ·exact a2 e
  ·exact b0 e
 simp only [b0, decide_true, ↓JY]
 refine D3 (by simp at p3 ⊢; omega) fun h7 => ?_
 have hv : qv c l x = !(([x.regs, x.slots] ++ x.priv).flatten.any (· ≠ 0)) := by
  refine FC ?_
  rw [Bool.not_eq_true', List.cons_append, List.cons_append, List.nil_append, any_zero]
  constructor
  ·exact base _ fun h => Or.inr (Or.inr ⟨a3, b0, h⟩)
  ·intro h
   rcases h.a with e | ⟨e, -⟩ | ⟨-, -, e⟩
   ·exact absurd e a1
   ·exact absurd e a2
   ·exact e
 cases e : ([x.regs, x.slots] ++ x.priv).flatten.any (· ≠ 0) with
 | false =>
  rw [e] at hv
  simp only [↓JY, ↓MD, ↓dA]
  exact bJ.mpr (by rw [hv]; rfl)
 | true =>
  rw [e] at hv
  simp only [↓JY, ↓Ea, ↓dA]
  exact bJ.mpr (by rw [hv]; rfl)
section
variable {h0 h : Heap} {ro0 ro : Ro} {L : List (Nat × D)} {KH : HK} {c : Code} {l : dh} {s : pd} {n : Nat}
theorem bM.RR (B : bM h0 ro0 h ro L) (i : Nat) (hi : L[i]? = some (n, Gh c l s)) : ab PP (.ld (.c (.ptr n 0 0)) 8 true) h KH = KH c.e h := B.qp i (j := 0) (s := 8) (e := c.e) hi rfl rfl (Nat.le_of_ble_eq_true rfl)
theorem bM.RQ (B : bM h0 ro0 h ro L) (i : Nat) (hi : L[i]? = some (n, Gh c l s)) : ab PP (.ld (.c (.ptr n 0 8)) 2 true) h KH = KH l.e h := B.qp i (j := 8) (s := 2) (e := l.e) hi rfl rfl (Nat.le_of_ble_eq_true rfl)
theorem bM.Uj (B : bM h0 ro0 h ro L) (i : Nat) (hi : L[i]? = some (n, Gh c l s)) : ab PP (.ld (.c (.ptr n 0 10)) 11 true) h KH = KH (dX s) h := B.qp i (j := 10) (s := 11) (e := dX s) hi rfl rfl (Nat.le_of_ble_eq_true rfl)
theorem bM.Oa (B : bM h0 ro0 h ro L) (i : Nat) (hi : L[i]? = some (n, Gh c l s)) : ab PP (.ld (.c (.ptr n 0 10)) 7 true) h KH = KH s.it.e h := B.qp i (j := 10) (s := 7) (e := s.it.e) hi rfl rfl (Nat.le_of_ble_eq_true rfl)
theorem bM.ite (B : bM h0 ro0 h ro L) (i : Nat) {p : It × Int} (hi : L[i]? = some (n, kh p)) : ab PP (.ld (.c (.ptr n 0 0)) 7 true) h KH = KH p.1.e h := B.qp i (j := 0) (s := 7) (e := p.1.e) hi rfl rfl (Nat.le_of_ble_eq_true rfl)
theorem bM.Ur (B : bM h0 ro0 h ro L) (i : Nat) {r : pd} (hi : L[i]? = some (n, dX r)) : ab PP (.ld (.c (.ptr n 0 0)) 7 true) h KH = KH r.it.e h := B.qp i (j := 0) (s := 7) (e := r.it.e) hi rfl rfl (Nat.le_of_ble_eq_true rfl)
theorem bM.Kv (B : bM h0 ro0 h ro L) (i : Nat) {sz : Nat} {d d' : D} (hi : L[i]? = some (n, d)) (hd : d = .agg d.cells) (hd' : d' = .agg d'.cells) (hl : d.cells.length = sz) (hl' : d'.cells.length = sz) (ho : av d')
  (hK : ∀ h', bM h0 ro0 h' ro (L.set i (n, d')) -> KH .undef h') : ab PP (.st (.c (.ptr n 0 0)) (.c d') sz) h KH := by
 rw [hd'] at hK ⊢
 exact B.mO i (cs := d.cells) (by rw [<- hd]; exact hi) hl hl' ho hK
end
theorem El {P : Program} {h : Heap} {KH : HK} {esz len : Nat} {z : D} {ps : List (Nat × Arg)} (hp : ∀ p ∈ ps, p.1 < len /\ (p.2.get []).cells.length = esz /\ av (p.2.get []) /\ (p.2.get []).vd = true)
  (hk : ∀ n, nK h n -> KH (.ms n 0 len) (ah h n (.arr esz (setEls (List.replicate len z) (ps.map fun p => (p.1, p.2.get [])))))) : ab P (.bldS true esz len z ps) h KH := by
 have fz : ∀ p ∈ ps, (p.2.get []).fz h = p.2.get [] /\ (p.2.get []).nm = [] /\ jS h (p.2.get []) := fun p hpm => Dt (hp p hpm).2.2.2
 refine ⟨fun p hpm => ?_, fun _ p hpm => ?_, fun n t => ?_⟩
 ·simp only [List.mem_map] at hpm
  obtain ⟨q, hq, rfl⟩ := hpm
  obtain ⟨a1, a2, a3, -⟩ := hp q hq
  exact ⟨a1, a2, a3⟩
 ·simp only [List.mem_map] at hpm
  obtain ⟨q, hq, rfl⟩ := hpm
  first | exact (fz q hq).2.2 | exact ⟨(fz q hq).2.2, by rw [(fz q hq).1]; exact (hp q hq).2.2.2⟩
 ·have e1 : ps.flatMap (fun p => (p.2.get []).nm) = [] := by
   rw [List.flatMap_eq_nil_iff]
   exact fun p hpm => (fz p hpm).2.1
  have e2 : (ps.map fun p => (p.1, if (true : Bool) = true then (p.2.get []).fz h else p.2.get [])) = ps.map fun p => (p.1, p.2.get []) := by
   refine List.map_congr_left fun p hpm => ?_
   simp only [if_true]
   rw [(fz p hpm).1]
  have := hk n t
  rw [e1, e2]
  simpa [Heap.freezeAll] using this
theorem Na {P : Program} {h : Heap} {KH : HK} {esz : Nat} {z d d' : D} (ho : av d) (hl : d.cells.length = esz) (hf : jS h d) (he : d.fz h = d') (hv : d'.vd = true)
  (hk : ∀ n h', h n = .free -> h' n = .arr esz [d'] -> (∀ k, h k ≠ .free -> (∀ m ∈ d.nm, k ≠ m) -> h' k = h k) -> KH (.ms n 0 1) h') : ab P (.bldS true esz 1 z [(0, .c d)]) h KH := by
 refine ⟨fun p hpm => ?_, fun _ p hpm => ?_, fun n t => ?_⟩
 ·simp only [List.map_cons, List.map_nil, List.mem_singleton] at hpm
  subst hpm
  exact ⟨Nat.one_pos, hl, ho⟩
 ·simp only [List.map_cons, List.map_nil, List.mem_singleton] at hpm
  subst hpm
  first | exact hf | exact ⟨hf, by show (d.fz h).vd = true; rw [he]; exact hv⟩
 ·have e : setEls (List.replicate 1 z) ([(0, Arg.c d)].map fun p => (p.1, if (true : Bool) = true then (p.2.get []).fz h else p.2.get [])) = [d'] := by
   show [d.fz h] = [d']
   rw [he]
  rw [e]
  refine hk n _ t.free (ad _ _ _) fun k hkf hm => ?_
  rw [aa _ _ (t.ne hkf)]
  simp only [if_true, List.flatMap_cons, List.flatMap_nil, List.append_nil]
  exact fO _ fun hmem => hm k hmem rfl
theorem bM.Ui {h0 h : Heap} {ro0 ro : Ro} {L : List (Nat × D)} {KH : HK} (B : bM h0 ro0 h ro L) (i : Nat) {n s : Nat} {cs cs' : List D} {d : D} (hd : d = .agg cs') (hi : L[i]? = some (n, .agg cs)) (hl : cs.length = s) (hl' : cs'.length = s) (ho : ∀ x, x ∈ cs' -> x.one = true)
  (hK : bM h0 ro0 (ah h n (.box (.agg cs'))) ro (L.set i (n, .agg cs')) -> KH .undef (ah h n (.box (.agg cs')))) : ab PP (.st (.c (.ptr n 0 0)) (.c d) s) h KH := by
 subst hd
 rw [Go.Am.mO (B.get i hi) hl hl' ho]
 exact hK (B.aw i hi _)
def HF (n : Int) : bO := ⟨⟨#[97]⟩, 1, 1, n⟩
def Dj : Block := ⟨[⟨5, 1, 0, fG 0, aq, aq, aq⟩, ⟨8, 0, 0, aq, fG 0, Const 7, aq⟩], ⟨5, 0, aq, aq, aq, 0, 0⟩⟩
def lk (n : Int) : Code := ⟨4, 1, 1, 0, 0, [HF n], [], [Dj]⟩
theorem J2 {n : Int} : aF PP hU [.int .i64 n] (· = (lk n).e) := by
 refine fX (aW wg (aA _ _ _) rfl (vY _ _) ?_)
 (unfold pE; try dsimp only [xL, yL, xF, yF, xI, yI, xS, zI, zJ])
 refine bM.start.alloc fun n1 h1 ro1 B => ?_
 refine aY Jb ⟨aX, trivial⟩ ?_
 rw [cE rfl]
 refine aY Jb ⟨aX, trivial⟩ ?_
 refine aY Jc ⟨aX, trivial⟩ ?_
 rw [cE rfl]
 obtain ⟨i0, hi0⟩ : ∃ i : aR, i = ⟨5, 1, 0, fG 0, aq, aq, aq⟩ := ⟨_, rfl⟩
 obtain ⟨i1, hi1⟩ : ∃ i : aR, i = ⟨8, 0, 0, aq, fG 0, Const 7, aq⟩ := ⟨_, rfl⟩
 have v15 : ∀ i : aR, (i.e.cells.length = 15) /\ av i.e /\ i.e.vd = true := fun i => ⟨rfl, (aR.bQ i).one, (aR.bQ i).pair.1⟩
 refine El (fun p hp => ?_) fun n2 t2 => ?_
 ·simp only [List.mem_cons, List.not_mem_nil, or_false] at hp
  rcases hp with rfl | rfl
  ·exact ⟨by simp, v15 ⟨5, 1, 0, fG 0, aq, aq, aq⟩⟩
  ·exact ⟨by simp, v15 ⟨8, 0, 0, aq, fG 0, Const 7, aq⟩⟩
 have f2 := t2.free
 have B := B.step (Fr.new (ro := ro1) f2 .ev (s := .arr 15 (Dj.i.map aR.e)))
 have e2 : ah h1 n2 (.arr 15 (Dj.i.map aR.e)) n2 = .arr 15 (Dj.i.map aR.e) := ad _ _ _
 have es2 : setEls (List.replicate 2 (.agg [(.int .i64 0), (.int .i64 0), (.int .i64 0), (.int .i64 0), (.int .i64 0), (.int .i32 0), (.int .i64 0), (.int .i64 0), (.int .i32 0), (.int .i64 0), (.int .i64 0), (.int .i32 0), (.int .i64 0), (.int .i64 0), (.int .i32 0)])) [(0, (⟨5, 1, 0, fG 0, aq, aq, aq⟩ : aR).e), (1, (⟨8, 0, 0, aq, fG 0, Const 7, aq⟩ : aR).e)] = Dj.i.map aR.e := rfl
 show ab PP _ (ah h1 n2 (.arr 15 (Dj.i.map aR.e))) _
 generalize ah h1 n2 (.arr 15 (Dj.i.map aR.e)) = h2 at B e2
 generalize ah ro1 n2 .ev = ro2 at B
 rw [cE rfl]
 refine El (fun p hp => ?_) fun n3 t3 => ?_
 ·simp only [List.mem_cons, List.not_mem_nil, or_false] at hp
  subst hp
  exact ⟨by simp, rfl, (bO.bQ (HF n)).one, (bO.bQ (HF n)).pair.1⟩
 have f3 := t3.free
 have B := B.step (Fr.new (ro := ro2) f3 .ev (s := .arr 4 ([HF n].map bO.e)))
 have n32 : n2 ≠ n3 := t3.ne (by rw [e2]; simp)
 have e2' : ah h2 n3 (.arr 4 ([HF n].map bO.e)) n2 = .arr 15 (Dj.i.map aR.e) := by rw [aa _ _ n32]; exact e2
 have e3 : ah h2 n3 (.arr 4 ([HF n].map bO.e)) n3 = .arr 4 ([HF n].map bO.e) := ad _ _ _
 show ab PP _ (ah h2 n3 (.arr 4 ([HF n].map bO.e))) _
 generalize ah h2 n3 (.arr 4 ([HF n].map bO.e)) = h3 at B e2' e3
 generalize ah ro2 n3 .ev = ro3 at B
 rw [cE rfl, cE rfl]
 have iv : ∀ x, x ∈ Dj.i.map aR.e -> ∀ y ∈ x.cells, y.vone = true := fun x hx y hy => by
  simp only [List.mem_map] at hx
  obtain ⟨z, -, rfl⟩ := hx
  exact (aR.bQ z).pair.1 |> fun h => by
   have := List.all_eq_true.1 h y hy
   exact this
 have fi := eK e2' iv
 have fb : Oe h3 (.agg (.ms n2 0 (Dj.i.map aR.e).length :: Dj.t.cs)) Dj.e := CO.agg (.cons fi (CO.SD fun x hx => by
  simp [Dj, Term.cs, du.cs, aq] at hx
  rcases hx with rfl | rfl | rfl | rfl | rfl | rfl | rfl | rfl | rfl | rfl | rfl | rfl | rfl <;> rfl))
 have hfz : D.fz h3 (.agg (.ms n2 0 2 :: Dj.t.cs)) = Dj.e := by
  have hr : (h3 n2).row = some (15, Dj.i.map aR.e) := by rw [e2']; rfl
  simp [D.fz, D.fzc, hr, Dj, Term.cs, du.cs, aq, Block.e]
 refine Na (d := .agg (.ms n2 0 2 :: Dj.t.cs)) (d' := Dj.e) fb.one rfl fb.ok hfz fb.v' fun n4 h4 f4 e4 k4 => ?_
 have nm2 : ∀ m, m ∈ D.nm (.agg (.ms n2 0 2 :: Dj.t.cs)) -> m = n2 := fun m hm => by
  simpa [D.nm, D.jE, Dj, Term.cs, du.cs, aq] using hm
 have e3' : h4 n3 = .arr 4 ([HF n].map bO.e) := by
  rw [k4 n3 (by rw [e3]; simp) (fun m hm => by rw [nm2 m hm]; exact n32.symm)]; exact e3
 have B := B.re (h0 := aJ) (h' := h4) fun p hp => k4 p.1 (by rw [(B.at_ p hp).1]; simp) fun m hm => by
  rw [nm2 m hm]
  rintro e
  have := (B.at_ p hp).1
  rw [e, e2'] at this; cases this
 rw [cE rfl]
 have n1b := B.get 0 rfl
 refine B.Ui 0 (cs' := [.int .i64 4, .int .i64 1, .int .i64 1, .int .i64 0, .int .i64 0, .ms n3 0 1, .nil, .ms n4 0 1]) rfl rfl rfl rfl (by simp) fun B5 => ?_
 have n31 : n3 ≠ n1 := by rintro rfl; rw [e3'] at n1b; cases n1b
 have n41 : n4 ≠ n1 := by rintro rfl; rw [e4] at n1b; cases n1b
 have e35 := aa h4 (.box (.agg [.int .i64 4, .int .i64 1, .int .i64 1, .int .i64 0, .int .i64 0, .ms n3 0 1, .nil, .ms n4 0 1])) n31
 have e45 := aa h4 (.box (.agg [.int .i64 4, .int .i64 1, .int .i64 1, .int .i64 0, .int .i64 0, .ms n3 0 1, .nil, .ms n4 0 1])) n41
 rw [e3'] at e35
 rw [e4] at e45
 generalize ah h4 n1 (.box (.agg [.int .i64 4, .int .i64 1, .int .i64 1, .int .i64 0, .int .i64 0, .ms n3 0 1, .nil, .ms n4 0 1])) = h5 at B5 e35 e45
 rw [B5.de (s := 8) 0 rfl rfl rfl]
 have fa := eK e35 (Qc _)
 have fbk := eK e45 (fun x hx y hy => by
  simp only [List.mem_singleton] at hx
  subst hx
  have := List.all_eq_true.1 (Block.bQ Dj).pair.1 y hy
  exact this)
 exact eg (by simp) (by simp [Code.e]) (.refl _) (CO.agg (.cons (aN rfl) (.cons (aN rfl) (.cons (aN rfl) (.cons (aN rfl) (.cons (aN rfl) (.cons fa (.cons gf (.cons fbk .nil))))))))) rfl
end Go.Am
namespace Go.Am
open Go Go.Proofs
def Lr : dh := ⟨1, []⟩
def Ep : D := .agg [.int .i64 1, .nil]
theorem FP {n : Int} (h : 1 <= n /\ n <= 8) : bk (lk n) where
 group := by simp [lk]
 sub := by simp [lk]
 regs := by simp [lk]
 slots := rfl
 params := by simp [lk]
 nar := by simp [lk]
 ar := fun a ha => by
  simp [lk] at ha
  subst ha
  exact ⟨by simp [HF], h⟩
 nb := by simp [lk]
 xs := fun b hb => by
  simp [lk] at hb
  subst hb
  refine ⟨fun x hx => ?_, by simp [Dj], .exit⟩
  simp [Dj] at hx
  rcases hx with rfl | rfl
  ·exact ⟨.id 1 (fG 0) (by omega) ⟨0, by omega, by simp [lk], rfl⟩, fun h => by simp at h, fun h => by simp at h⟩
  ·exact ⟨.store 0 (fG 0) (Const 7) (by omega) ⟨0, by omega, by simp [lk], rfl⟩ (Or.inr ⟨7, by omega, by omega, rfl⟩), fun _ => ⟨0, rfl, by simp [lk]⟩, fun h => by simp at h⟩
theorem HD {n : Int} : lT (lk n) Lr := ⟨by simp [Lr], by simp [Lr, lk], fun v hv => by simp [Lr] at hv⟩
theorem Qk {xs ys : List D} (h : Ie xs ys) : Wk (.sl xs) (.sl ys) := .sl _ _ h.get.1 h.get.2
theorem HE : Wk Ep Lr.e := .NV (.cons (.refl _) (.cons .nil .nil))
def gR : It := ⟨2, 1, 0, 0, [0], [[]]⟩
def Aa : Ev := ⟨2, 0, 2, 0, 0, 1, 0, 2, 7⟩
def Ps : pd := ⟨⟨2, 3, 0, 0, [0], [[]]⟩, [[0, 0, 7, 0]], [[]], [Aa], 0⟩
def S1 : pd := ⟨gR, [[0, 0]], [[]], [], 70⟩
def Pt (g : Mm) : D := .agg (gR.cs ++ [aP g, .sl [.nil], .nil, .int .i64 0])
theorem Nu (g : Mm) : Wk (Pt g) (dX ⟨gR, g, [[]], [], 0⟩) :=
 .NV (.cons (.refl _) (.cons (.refl _) (.cons (.refl _) (.cons (.refl _) (.cons (.refl _) (.cons (.refl _) (.cons (.refl _) (.cons (.refl _) (.cons (Qk (.cons .nil .nil)) (.cons .nil (.cons (.refl _) .nil)))))))))))
theorem I2 {n : Int} : N2 (lk n) Lr gR where
 id := by simp [gR, Lr, lk]
 at_ := by simp [gR]
 block := by simp [gR, lk]
 len := by simp [gR, lk]
 regs := fun v hv => by simp [gR] at hv; subst hv; exact ⟨by omega, by omega⟩
 priv := ⟨by simp [gR, lk], fun i a w ha hw => by
  have hi : i = 0 := by have := (List.getElem?_eq_some_iff.1 ha).1; simp [lk] at this; exact this
  subst hi
  simp [lk, gR] at ha hw
  subst ha hw
  exact ⟨by simp [BL, HF], by simp⟩⟩
theorem Gy {n : Int} {s : Nat} {w : List Int} (hl : w.length = BL (HF n) s) (hI : ∀ v ∈ w, gO v) : gT (lk n).arrays s [w] := ⟨by simp [lk], fun i a v ha hv => by
 have hi : i = 0 := by have := (List.getElem?_eq_some_iff.1 ha).1; simp [lk] at this; exact this
 subst hi
 simp [lk] at ha hv
 subst ha hv
 exact ⟨hl, hI⟩⟩
theorem SW : ∀ v : Int, v = 0 -> gO v := fun v h => by subst h; exact ⟨by omega, by omega⟩
theorem Nr : ga (lk 4) Lr gR [[0, 0, 0, 0]] [[]] 0 = Ps := by kernel_rfl
theorem Ns : ga (lk 2) Lr gR [[0, 0]] [[]] 0 = S1 := by kernel_rfl
theorem P4 {a b c d a' b' c' d' : D} (h1 : Wk a a') (h2 : Wk b b') (h3 : Wk c c') (h4 : Wk d d') : Ie [a, b, c, d] [a', b', c', d'] := .cons h1 (.cons h2 (.cons h3 (.cons h4 .nil)))
theorem Nt : aF PP eH [(lk 4).e, Ep, .int .i64 2] (· = kh (gR, 0)) := by
 have := Gq (id := 2) (FP (n := 4) (by omega)) HD
 have e : dY (lk 4) Lr 2 = (gR, 0) := by kernel_rfl
 rw [e] at this
 exact aF.arg (.cons (.refl _) (.cons HE (.cons (.refl _) .nil))) this
theorem Rt : aF PP eH [(lk 4).e, Ep, .int .i64 4] (· = kh (jY, 1)) := by
 have := Gq (id := 4) (FP (n := 4) (by omega)) HD
 have e : dY (lk 4) Lr 4 = (jY, 1) := by kernel_rfl
 rw [e] at this
 exact aF.arg (.cons (.refl _) (.cons HE (.cons (.refl _) .nil))) this
theorem TV : aF PP fA [(lk 4).e, Ep, Pt [[0, 0, 0, 0]], .int .i64 0] (· = dX Ps) := by
 have := IP (aw := 0) (r := ⟨gR, [[0, 0, 0, 0]], [[]], [], 0⟩) (FP (n := 4) (by omega)) HD I2 (Gy (by simp [BL, HF]) (by simp; exact SW 0 rfl)) (Gy (by simp [BL, HF]) (by simp))
 simp only [Nr] at this
 exact aF.arg (P4 (.refl _) HE (Nu _) (.refl _)) this
theorem TU : aF PP fA [(lk 2).e, Ep, Pt [[0, 0]], .int .i64 0] (· = dX S1) := by
 have := IP (aw := 0) (r := ⟨gR, [[0, 0]], [[]], [], 0⟩) (FP (n := 2) (by omega)) HD I2 (Gy (by simp [BL, HF]) (by simp; exact SW 0 rfl)) (Gy (by simp [BL, HF]) (by simp))
 simp only [Ns] at this
 exact aF.arg (P4 (.refl _) HE (Nu _) (.refl _)) this
theorem SX : vW (lk 4) Lr Ps.it.g where
 id := by decide
 ep := by decide
 bl := by decide
 rg := by decide
 sl := by decide
 ft := by decide
 a := Or.inr (Or.inr ⟨rfl, rfl, by decide, by decide, by decide⟩)
theorem Nq : aF PP kV [(lk 4).e, Ep, Ps.it.e] (· = .bool true) := by
 have := OO (x := Ps.it.g) (FP (n := 4) (by omega)) HD ⟨by decide, by decide, by decide⟩
 rw [oi SX, It.Uw] at this
 exact aF.arg (.cons (.refl _) (.cons HE (.cons (.refl _) .nil))) this
theorem Np : aF PP bX [gR.e, (Const 9).e] (· = .int .i32 9) := IE (it := gR) (o := Const 9) (fun h => by have : (1 : Int) = 2 := h; omega)
theorem Pr : aF PP iJ [(lk 4).e, gR.e, .int .i32 1] (· = kh (gR, 1)) := by
 have := MV (v := 1) (FP (n := 4) (by omega)) (I2 (n := 4))
 have e : kA (lk 4) gR 1 = (gR, 1) := wQ (by simp [gR])
 rw [e] at this
 exact aF.arg (.cons (.refl _) (.cons (.refl _) (.cons (.refl _) .nil))) this
theorem SY : PJ [[0, 0, 7, 0]] := ⟨by simp, by simp⟩
theorem SZ : PJ [[0, 0]] := ⟨by simp, by simp⟩
theorem tQ {d : D} {n : Nat} : ∀ (ns : List Nat) {h : Heap}, h n = .box d -> h.freezeAll ns n = .box d
 | [], _, hn => hn
 | a :: r, h, hn => by
  simp only [Heap.freezeAll]
  refine tQ r ?_
  unfold Heap.freeze
  cases he : h a <;> simp only [] <;> first | exact hn | (rw [aa _ _ (by rintro rfl; rw [hn] at he; cases he)]; exact hn)
theorem En {P : Program} {f : FuncId} {h : Heap} {ds ds' : List D} {r : D} {KH : HK} (k : Jp h ds ds') (hv : aF P f ds' (· = r)) (hK : ∀ h', (∀ n d, h n = .box d -> h' n = .box d) -> KH r h') : ag P f ds h KH := by
 obtain ⟨k1, k2, k3, -, k4⟩ := k.all
 refine ag.mono ?_ (iR (K := (· = r)) (aF.arg k4 hv) fun d hd => ⟨k1 d hd, k2 d hd, k3 _ (List.mem_map.2 ⟨d, hd, rfl⟩)⟩)
 rintro r' h' ⟨rfl, q2, q3⟩
 by_cases hr : r'.flat = true \/ ds.flatMap D.nm = []
 ·rw [q2 hr]; exact hK h fun n d hn => hn
 ·rw [q3 hr]; exact hK _ fun n d hn => tQ _ hn
theorem bM.bx {h h' : Heap} {ro0 ro : Ro} {L : List (Nat × D)} (B : bM aJ ro0 h ro L) (hk : ∀ n d, h n = .box d -> h' n = .box d) : bM aJ ro0 h' ro L :=
 B.re (h0 := aJ) fun p hp => by rw [hk _ _ (B.at_ p hp).1, (B.at_ p hp).1]
theorem rj : wu Ep := cQ (by simp)
theorem Ub (w : List Int) : ∀ x, x ∈ w.map (D.int .i32) -> ∀ y ∈ x.cells, y.vone = true := fun x hx y hy => by
 simp only [List.mem_map] at hx
 obtain ⟨z, -, rfl⟩ := hx
 simp at hy; subst hy; rfl
theorem Qb {h : Heap} {KH : D -> HK} {len : Nat} {z : D} {ps : List (Nat × Arg)} {w : List Int} (hlen : len = w.length) (hps : setEls (List.replicate len z) (ps.map fun p => (p.1, p.2.get [])) = w.map (D.int .i32))
  (hp : ∀ p ∈ ps, p.1 < len /\ (p.2.get []).cells.length = 1 /\ av (p.2.get []) /\ (p.2.get []).vd = true)
  (hK : ∀ nb nc h3, h3 nb = .arr 1 [words w] -> h3 nc = .arr 1 [.nil] -> (∀ n d, h n = .box d -> h3 n = .box d) -> KH (.ms nb 0 1) (.ms nc 0 1) h3) :
  ab PP (.bldS true 1 len z ps) h fun a h1 => ab PP (.bldS true 1 1 .nil [(0, .c a)]) h1 fun b h2 => ab PP (.bldS true 1 1 .nil [(0, .c .nil)]) h2 fun c h3 => KH b c h3 := by
 refine El hp fun n6 t6 => ?_
 rw [hps]
 have f6 := t6.free
 have e6 : ah h n6 (.arr 1 (w.map (D.int .i32))) n6 = .arr 1 (w.map (D.int .i32)) := ad _ _ _
 have k6 : ∀ n d, h n = .box d -> ah h n6 (.arr 1 (w.map (D.int .i32))) n = .box d := fun n d hn => by
  rw [aa _ _ (by rintro rfl; rw [hn] at f6; cases f6)]; exact hn
 generalize ah h n6 (.arr 1 (w.map (D.int .i32))) = h1 at e6 k6
 have fi := eK e6 (Ub w)
 rw [List.length_map] at fi
 subst hlen
 have hr : (h1 n6).row = some (1, w.map (D.int .i32)) := by rw [e6]; rfl
 refine Na (d' := words w) fi.d.one rfl fi.d.ok (by simp only [D.fz, D.fzc, hr, List.drop_zero]; rw [List.take_of_length_le (by simp)]; rfl) rfl fun nb h2 fb eb kb => ?_
 refine El (fun p hp => ?_) fun nc tc => ?_
 ·simp only [List.mem_singleton] at hp
  subst hp
  exact ⟨by simp, rfl, by simp, rfl⟩
 have fc := tc.free
 refine hK nb nc _ ?_ (ad _ _ _) fun n d hn => ?_
 ·rw [aa _ _ (by rintro rfl; rw [eb] at fc; cases fc)]; exact eb
 ·have h1n := k6 n d hn
  have h2n : h2 n = .box d := by
   rw [kb n (by rw [h1n]; simp) (fun m hm => by
    simp [D.nm, D.jE] at hm
    subst hm
    rintro rfl
    rw [e6] at h1n; cases h1n)]; exact h1n
  rw [aa _ _ (by rintro rfl; rw [h2n] at fc; cases fc)]; exact h2n
theorem GA {P : Program} {h : Heap} {K : D -> Prop} {fz : Bool} {esz len : Nat} {z : D} {ps : List (Nat × Arg)} (hp : ∀ p ∈ ps, p.1 < len /\ (p.2.get []).cells.length = esz /\ av (p.2.get [])) (hv : ∀ p ∈ ps, ∀ y, y ∈ (p.2.get []).cells -> y.vone = true) (hz : ∀ y ∈ z.cells, y.vone = true)
  (hk : K (.sl (setEls (List.replicate len z) (ps.map fun p => (p.1, p.2.get []))))) : an P (.bldS fz esz len z ps) h K := by
 refine ⟨fun p hpm => ?_, fun p hpm => ?_, hz, hk⟩
 ·simp only [List.mem_map] at hpm
  obtain ⟨q, hq, rfl⟩ := hpm
  exact hp q hq
 ·simp only [List.mem_map] at hpm
  obtain ⟨q, hq, rfl⟩ := hpm
  exact hv q hq
theorem J3 {h : Heap} {nb nc : Nat} {w : List Int} (hb : h nb = .arr 1 [words w]) (hc : h nc = .arr 1 [.nil]) : Oe h (.agg (gR.cs ++ [.ms nb 0 1, .ms nc 0 1, .nil, .int .i64 0])) (Pt [w]) := by
 have f1 := eK hb (fun x hx y hy => by simp at hx; subst hx; simp [words] at hy; subst hy; rfl)
 have f2 := eK hc (fun x hx y hy => by simp at hx; subst hx; simp at hy; subst hy; rfl)
 exact CO.agg (.cons (aN rfl) (.cons (aN rfl) (.cons (aN rfl) (.cons (aN rfl) (.cons (aN rfl) (.cons (aN rfl) (.cons (aN rfl) (.cons f1 (.cons f2 (.cons (aN rfl) (.cons (aN rfl) .nil)))))))))))
theorem HP : aF PP jo [] (· = .bool true) := by
 refine bc E2 (aA _ _ _) rfl (EL _) ?_
 (unfold Bh; try dsimp only [xL, yL, xF, yF, xI, yI, xS, zI, zJ])
 refine aY (J2 (n := 4)) ⟨aX, trivial⟩ ?_
 refine aY (J2 (n := 2)) ⟨aX, trivial⟩ ?_
 rw [cE rfl]
 refine bM.start.alloc fun n1 h1 ro1 B => ?_
 refine B.alloc fun n2 h2 ro2 B => ?_
 refine B.alloc fun n3 h3 ro3 B => ?_
 refine B.Kv 2 (d' := (lk 4).e) rfl rfl rfl rfl rfl (jK _).2 fun h4 B => ?_
 refine B.Kv 1 (d' := (lk 2).e) rfl rfl rfl rfl rfl (jK _).2 fun h5 B => ?_
 refine B.Sg 0 (cs' := [.int .i64 1, .nil]) rfl rfl rfl rfl (by simp) fun h6 B => ?_
 have B : bM aJ qJ h6 ro3 [(n3, Ep), (n2, (lk 2).e), (n1, (lk 4).e)] := B
 rw [B.de (s := 8) 2 rfl rfl rfl, B.de (s := 2) 0 rfl rfl rfl]
 refine aY Nt ⟨Code.bQ _, rj, aX, trivial⟩ ?_
 refine B.alloc fun n4 h7 ro7 B => ?_
 refine B.Kv 0 (d' := kh (gR, 0)) rfl rfl rfl rfl rfl (iM _) fun h8 B => ?_
 rw [B.de (s := 8) 3 rfl rfl rfl, B.de (s := 2) 1 rfl rfl rfl]
 refine aY Rt ⟨Code.bQ _, rj, aX, trivial⟩ ?_
 refine B.alloc fun n5 h9 ro9 B => ?_
 refine B.Kv 0 (d' := kh (jY, 1)) rfl rfl rfl rfl rfl (iM _) fun h10 B => ?_
 have B : bM aJ qJ h10 ro9 [(n5, kh (jY, 1)), (n4, kh (gR, 0)), (n3, Ep), (n2, (lk 2).e), (n1, (lk 4).e)] := B
 simp only [↓bf (B.used 1 rfl), ↓bf (B.used 0 rfl), Nat.zero_add, Nat.add_zero, B.cJ (e := .int .i64 0) 1 (j := 7) rfl rfl rfl, B.cJ (e := .int .i64 1) 0 (j := 7) rfl rfl rfl, B.cJ (e := .int .i64 1) 1 (j := 1) rfl rfl rfl, B.cJ (e := words [0]) 1 (j := 4) rfl rfl rfl,
  ↓cC, decide_true, Bool.not_true, ↓Fu, ↓gr, ↓lZ, List.length_singleton, show (((1 : Nat) : Int) = 1) = True from eq_true rfl, ↓ae]
 rw [B.de (s := 8) 4 rfl rfl rfl, B.de (s := 2) 2 rfl rfl rfl]
 simp only [↓bf (B.used 1 rfl), Nat.zero_add, B.ite 1 rfl]
 refine Qb (w := [0, 0, 0, 0]) rfl rfl (fun p hp => ?_) fun nb nc h11 eb ec kb => ?_
 ·simp only [List.mem_cons, List.not_mem_nil, or_false] at hp
  rcases hp with rfl | rfl | rfl | rfl <;> exact ⟨by simp, rfl, by simp, rfl⟩
 have B := B.bx kb
 rw [cE rfl]
 refine En (.cons (jA (Code.bQ _)) (.cons (jA rj) (.cons (J3 eb ec) (.cons (aN rfl).d .nil)))) TV fun h12 kb => ?_
 have B := B.bx kb
 refine B.alloc fun n6 h13 ro13 B => ?_
 refine B.Kv 0 (d' := dX Ps) rfl rfl rfl rfl rfl (om Ps) fun h14 B => ?_
 have B : bM aJ qJ h14 ro13 [(n6, dX Ps), (n5, kh (jY, 1)), (n4, kh (gR, 0)), (n3, Ep), (n2, (lk 2).e), (n1, (lk 4).e)] := B
 rw [B.de (s := 8) 4 rfl rfl rfl, B.de (s := 2) 3 rfl rfl rfl]
 simp only [↓bf (B.used 2 rfl), Nat.zero_add, B.ite 2 rfl]
 refine Qb (w := [0, 0]) rfl rfl (fun p hp => ?_) fun nb nc h15 eb ec kb => ?_
 ·simp only [List.mem_cons, List.not_mem_nil, or_false] at hp
  rcases hp with rfl | rfl <;> exact ⟨by simp, rfl, by simp, rfl⟩
 have B := B.bx kb
 rw [cE rfl]
 refine En (.cons (jA (Code.bQ _)) (.cons (jA rj) (.cons (J3 eb ec) (.cons (aN rfl).d .nil)))) TU fun h16 kb => ?_
 have B := B.bx kb
 refine B.alloc fun n7 h17 ro17 B => ?_
 refine B.Kv 0 (d' := dX S1) rfl rfl rfl rfl rfl (om S1) fun h18 B => ?_
 have B : bM aJ qJ h18 ro17 [(n7, dX S1), (n6, dX Ps), (n5, kh (jY, 1)), (n4, kh (gR, 0)), (n3, Ep), (n2, (lk 2).e), (n1, (lk 4).e)] := B
 simp only [↓bf (B.used 1 rfl), ↓bf (B.used 0 rfl), Nat.zero_add, Nat.add_zero, B.cJ (e := .int .i64 0) 1 (j := 10) rfl rfl rfl, B.cJ (e := .int .i64 70) 0 (j := 10) rfl rfl rfl, B.cJ (e := .sl [Aa.e]) 1 (j := 9) rfl rfl rfl, ↓cC, decide_true, Bool.not_true, ↓Fu, ↓gr]
 rw [cE rfl]
 refine El (fun p hp => ?_) fun n8 t8 => ?_
 ·simp only [List.mem_singleton] at hp
  subst hp
  exact ⟨by simp, rfl, (Ev.bQ Aa).one, (Ev.bQ Aa).pair.1⟩
 have f8 := t8.free
 have e8 : ah h18 n8 (.arr 9 ([Aa].map Ev.e)) n8 = .arr 9 ([Aa].map Ev.e) := ad _ _ _
 have B := B.bx (h' := ah h18 n8 (.arr 9 ([Aa].map Ev.e))) fun n d hn => by rw [aa _ _ (by rintro rfl; rw [hn] at f8; cases f8)]; exact hn
 show ag PP dC [.sl [Aa.e], .ms n8 0 1] (ah h18 n8 (.arr 9 ([Aa].map Ev.e))) _
 generalize ah h18 n8 (.arr 9 ([Aa].map Ev.e)) = h19 at B e8
 have fe := eK e8 (fun x hx y hy => by
  simp only [List.map_cons, List.map_nil, List.mem_singleton] at hx
  subst hx
  exact List.all_eq_true.1 (Ev.bQ Aa).pair.1 y hy)
 refine En (ds' := [.sl ([Aa].map Ev.e), .sl ([Aa].map Ev.e)]) (.cons (aN rfl).d (.cons fe.d .nil)) (G1 (by simp)) fun h20 kb => ?_
 have B := B.bx kb
 simp only [↓Fu, ↓Ea, ↓gr, ↓bf (B.used 0 rfl), ↓bf (B.used 1 rfl), Nat.zero_add, Nat.add_zero, B.cJ (e := .sl []) 0 (j := 9) rfl rfl rfl, B.cJ (e := .int .i64 3) 1 (j := 1) rfl rfl rfl, ↓l8, List.length_nil, show (((0 : Nat) : Int)) = 0 from rfl, ↓cC, decide_true, Bool.not_true, ↓ae]
 simp only [↓aB, B.used 1 rfl, Nat.zero_add, true_and, ↓bG, B.cJ (e := aP [[0, 0, 7, 0]]) 1 (j := 7) rfl rfl rfl]
 refine GA (fun p hp => ?_) (fun p hp => ?_) (by simp) ?_
 ·simp only [List.mem_cons, List.not_mem_nil, or_false] at hp
  rcases hp with rfl | rfl | rfl | rfl <;> exact ⟨by simp, rfl, by simp⟩
 ·simp only [List.mem_cons, List.not_mem_nil, or_false] at hp
  rcases hp with rfl | rfl | rfl | rfl <;> (intro y hy; simp at hy; subst hy; rfl)
 refine GA (fun p hp => ?_) (fun p hp => ?_) (by simp) ?_
 ·simp only [List.mem_singleton] at hp
  subst hp
  exact ⟨by simp, rfl, by simp⟩
 ·simp only [List.mem_singleton] at hp
  subst hp
  intro y hy; simp at hy; subst hy; rfl
 refine ea (G0 SY) ⟨dZ, dZ, trivial⟩ ?_
 simp only [↓Cq, ↓aB, B.used 0 rfl, Nat.zero_add, true_and, ↓bG, B.cJ (e := aP [[0, 0]]) 0 (j := 7) rfl rfl rfl]
 refine GA (fun p hp => ?_) (fun p hp => ?_) (by simp) ?_
 ·simp only [List.mem_cons, List.not_mem_nil, or_false] at hp
  rcases hp with rfl | rfl <;> exact ⟨by simp, rfl, by simp⟩
 ·simp only [List.mem_cons, List.not_mem_nil, or_false] at hp
  rcases hp with rfl | rfl <;> (intro y hy; simp at hy; subst hy; rfl)
 try simp only [↓Cq]
 refine GA (fun p hp => ?_) (fun p hp => ?_) (by simp) ?_
 ·simp only [List.mem_singleton] at hp
  subst hp
  exact ⟨by simp, rfl, by simp⟩
 ·simp only [List.mem_singleton] at hp
  subst hp
  intro y hy; simp at hy; subst hy; rfl
 try simp only [↓Cq]
 refine ea (G0 SZ) ⟨dZ, dZ, trivial⟩ ?_
 simp only [↓Cq, ↓lJ, ↓dA, ↓aB, B.used 1 rfl, Nat.zero_add, true_and, ↓bG, B.de (s := 8) 6 rfl rfl rfl, B.de (s := 2) 4 rfl rfl rfl, B.Ur 1 rfl]
 refine ea Nq ⟨Code.bQ _, rj, It.bQ _, trivial⟩ ?_
 simp only [↓Cq, ↓lJ, ↓dA, ↓aB, B.used 3 rfl, Nat.zero_add, true_and, ↓bG, B.ite 3 rfl]
 refine ea Jc ⟨aX, trivial⟩ ?_
 try simp only [↓Cq]
 refine ea Np ⟨It.bQ _, du.bQ _, trivial⟩ ?_
 simp only [↓Cq, ↓aM, decide_true, ↓lJ, ↓dA, ↓aB, B.used 3 rfl, Nat.zero_add, true_and, ↓bG, B.de (s := 8) 6 rfl rfl rfl, B.ite 3 rfl]
 refine ea Pr ⟨Code.bQ _, It.bQ _, aX, trivial⟩ ?_
 have hfl : ∀ {K : D -> Prop}, an PP (.fld (.c (kh (gR, 1))) 7 1 false) h20 K = K (.int .i64 1) := fun {K} => by
  rw [NA]
  have := M0 (P := PP) (h := h20) (cs := gR.cs ++ [.int .i64 1]) (o := 7) (s := 1) (g := false) (KH := fun x _ => K x)
  rw [show (kh (gR, 1)) = .agg (gR.cs ++ [.int .i64 1]) from rfl, this, bm]
  rfl
 simp only [↓Cq, hfl, ↓aM, decide_true, ↓lJ, ↓dA]
 exact bJ.mpr rfl
theorem MW {c : Code} {l : dh} {it : It} (hc : bk c) (h : N2 c l it) : RU it := ⟨by have := h.len; have := hc.regs; omega, h.priv.b hc⟩
theorem KU {c : Code} {l : dh} {id : Int} (hc : bk c) : RU (dY c l id).1 := by
 unfold dY
 split
 ·exact ⟨by simp [jY], ⟨by simp [jY], by simp [jY]⟩⟩
 ·have := hc.regs
  exact ⟨by simp [bA]; omega, (sL 3).b hc⟩
theorem On {c : Code} {l : dh} {s : pd} (hc : bk c) (h : Fx c l s) (he : s.ev.length <= 1000000) : Tf s := ⟨MW hc h.it.toN2, h.g.b hc, h.s.b hc, he⟩
theorem JI (bs : List Nat) : wu (jZ bs) := cQ (by simp [wy])
theorem Kz (g : Int) (zs : List Int) (id st : Int) : wu (cY g zs id st) := cQ (by
 intro x hx
 simp at hx
 rcases hx with rfl | ⟨z, -, rfl⟩ | rfl | rfl <;> rfl)
theorem Ho {bs : List Nat} {g : Int} {zs : List Int} {id st a b : Int} (hb : ∀ b ∈ bs, b <= 255) (hbl : bs.length <= 9223372036854775807) (hp : GJ g zs id st) :
  aF PP fK [jZ bs, cY g zs id st, .agg [.int .i64 a, .int .i64 b]] (· = .bool true) := by
 refine bc jd (aA _ _ _) rfl (jb _ _ _ _) ?_
 (unfold fR; try dsimp only [xL, yL, xF, yF, xI, yI, xS, zI, zJ])
 have hz := hp.z
 refine bM.start.box (JI bs).one fun n1 h1 ro1 B => ?_
 refine B.box (D5 g zs id st) fun n2 h2 ro2 B => ?_
 refine B.box (by simp) fun n3 h3 ro3 B => ?_
 refine aY HP trivial ?_
 try simp only [↓Ea, ↓ae]
 rw [B.de (s := 1) 2 rfl rfl rfl, B.de (s := 15) 1 rfl rfl (by simp [cY, hz])]
 refine bF (MU hb hbl hp) (fun d hd => by simp at hd; rcases hd with rfl | rfl; exact (JI bs).pair; exact (Kz g zs id st).pair) ?_
 rintro _ ⟨c, l, s, hc, hl, V, rfl⟩
 refine B.alloc fun n4 h4 ro4 B => ?_
 refine B.Kv 0 (d' := Gh c l s) rfl rfl rfl rfl rfl (JP c l s) fun h5 B => ?_
 have B : bM aJ qJ h5 ro4 [(n4, Gh c l s), (n3, .agg [.int .i64 a, .int .i64 b]), (n2, cY g zs id st), (n1, jZ bs)] := B
 try simp only [↓aB, B.used 0 rfl, Nat.zero_add, Nat.add_zero, true_and, ↓bG, B.RR 0 rfl, B.RQ 0 rfl, B.Uj 0 rfl, ↓gg, B.JW 1 (a := 0) rfl ⟨by omega, by omega⟩, Int.toNat_zero, B.cJ 1 (j := 0) rfl rfl rfl]
 refine ea (IP hc hl V.it.toN2 V.g V.s) ⟨Code.bQ c, dh.bQ l, pd.bQ s, aX, trivial⟩ ?_
 obtain ⟨V2, hev⟩ := Iq (aw := a) hc hl V.it V.g V.s
 obtain ⟨q, hq⟩ : ∃ q, q = ga c l s.it s.g s.s a := ⟨_, rfl⟩
 rw [<- hq] at V2 hev ⊢
 try simp only [↓aB, B.used 0 rfl, Nat.zero_add, Nat.add_zero, Nat.reduceAdd, true_and, ↓bG, B.RR 0 rfl, B.RQ 0 rfl, B.Oa 0 rfl, B.cJ 0 (j := 17) rfl rfl rfl, B.cJ 0 (j := 18) rfl rfl rfl, ↓gg, B.JW 1 (a := 0) rfl ⟨by omega, by omega⟩, Int.toNat_zero, B.cJ 1 (j := 0) rfl rfl rfl]
 rw [jf rfl]
 try simp only [↓gg, B.JW 1 (a := 0) rfl ⟨by omega, by omega⟩, ↓bG, Int.toNat_zero, Nat.add_zero, B.cJ 1 (j := 0) rfl rfl rfl]
 refine ea (G8 (g := s.g) (s := s.s) (aw := a) hc hl V.it.toN2 V.g V.s) ⟨Code.bQ c, dh.bQ l, It.bQ _, Hl _ _, aX, trivial⟩ ?_
 rw [<- hq]
 refine B.alloc fun n5 h6 ro6 B => ?_
 refine B.alloc fun n6 h7 ro7 B => ?_
 refine B.Kv 1 (d' := dX q) rfl rfl rfl rfl rfl (om q) fun h8 B => ?_
 refine B.Kv 0 (d' := dX q) rfl rfl rfl rfl rfl (om q) fun h9 B => ?_
 have B : bM aJ qJ h9 ro7 [(n6, dX q), (n5, dX q), (n4, Gh c l s), (n3, .agg [.int .i64 a, .int .i64 b]), (n2, cY g zs id st), (n1, jZ bs)] := B
 try simp only [↓aB, B.used 2 rfl, Nat.zero_add, Nat.add_zero, Nat.reduceAdd, true_and, ↓bG, B.RR 2 rfl, B.RQ 2 rfl, B.Oa 2 rfl, ↓gg, B.JW 3 (a := 1) rfl ⟨by omega, by omega⟩, show ((1 : Int)).toNat = 1 from rfl, B.cJ 3 (j := 1) rfl rfl rfl, ↓kl, ↓bY]
 refine ea (MV (v := IntKind.i32.wrap b) hc V.it.toN2) ⟨Code.bQ c, It.bQ _, aX, trivial⟩ ?_
 try simp only [↓aB, B.used 2 rfl, Nat.zero_add, Nat.add_zero, Nat.reduceAdd, true_and, ↓bG, B.RR 2 rfl, B.RQ 2 rfl, B.Oa 2 rfl, ↓gg, B.JW 3 (a := 1) rfl ⟨by omega, by omega⟩, show ((1 : Int)).toNat = 1 from rfl, B.cJ 3 (j := 1) rfl rfl rfl, ↓kl, ↓bY]
 refine ea (Ha (v := IntKind.i32.wrap b) hc V.it.toN2) ⟨Code.bQ c, It.bQ _, aX, trivial⟩ ?_
 have bp : RU (kA c s.it (IntKind.i32.wrap b)).1 := MW hc (IG hc V.it (cU b)).toN2
 obtain ⟨p, hp2⟩ : ∃ p, p = kA c s.it (IntKind.i32.wrap b) := ⟨_, rfl⟩
 rw [<- hp2] at bp ⊢
 refine B.alloc fun n7 h10 ro10 B => ?_
 refine B.alloc fun n8 h11 ro11 B => ?_
 refine B.Kv 1 (d' := kh p) rfl rfl rfl rfl rfl (iM p) fun h12 B => ?_
 refine B.Kv 0 (d' := kh p) rfl rfl rfl rfl rfl (iM p) fun h13 B => ?_
 have B : bM aJ qJ h13 ro11 [(n8, kh p), (n7, kh p), (n6, dX q), (n5, dX q), (n4, Gh c l s), (n3, .agg [.int .i64 a, .int .i64 b]), (n2, cY g zs id st), (n1, jZ bs)] := B
 try simp only [↓aB, B.used 4 rfl, Nat.zero_add, Nat.add_zero, Nat.reduceAdd, true_and, ↓bG, B.RR 4 rfl, B.RQ 4 rfl, B.Oa 4 rfl, ↓gg, B.JW 5 (a := 1) rfl ⟨by omega, by omega⟩, show ((1 : Int)).toNat = 1 from rfl, B.cJ 5 (j := 1) rfl rfl rfl]
 refine ea (Gq (id := b) hc hl) ⟨Code.bQ c, dh.bQ l, aX, trivial⟩ ?_
 try simp only [↓aB, B.used 4 rfl, Nat.zero_add, Nat.add_zero, Nat.reduceAdd, true_and, ↓bG, B.RR 4 rfl, B.RQ 4 rfl, B.Oa 4 rfl, ↓gg, B.JW 5 (a := 1) rfl ⟨by omega, by omega⟩, show ((1 : Int)).toNat = 1 from rfl, B.cJ 5 (j := 1) rfl rfl rfl]
 refine ea (FG (id := b) hc hl) ⟨Code.bQ c, dh.bQ l, aX, trivial⟩ ?_
 have bt : RU (dY c l b).1 := KU hc
 obtain ⟨t, ht⟩ : ∃ t, t = dY c l b := ⟨_, rfl⟩
 rw [<- ht] at bt ⊢
 refine B.alloc fun n9 h14 ro14 B => ?_
 refine B.alloc fun n10 h15 ro15 B => ?_
 refine B.Kv 1 (d' := kh t) rfl rfl rfl rfl rfl (iM t) fun h16 B => ?_
 refine B.Kv 0 (d' := kh t) rfl rfl rfl rfl rfl (iM t) fun h17 B => ?_
 have B : bM aJ qJ h17 ro15 [(n10, kh t), (n9, kh t), (n8, kh p), (n7, kh p), (n6, dX q), (n5, dX q), (n4, Gh c l s), (n3, .agg [.int .i64 a, .int .i64 b]), (n2, cY g zs id st), (n1, jZ bs)] := B
 rw [B.de (s := 11) 5 rfl rfl rfl, B.de (s := 11) 4 rfl rfl rfl]
 refine aY (Qw (On hc V2 (by omega))) ⟨pd.bQ q, pd.bQ q, trivial⟩ ?_
 try simp only [↓Ea, ↓Fu, ↓bf (B.used 3 rfl), ↓bf (B.used 2 rfl), Nat.zero_add, B.cJ 3 (j := 7) rfl rfl rfl, B.cJ 2 (j := 7) rfl rfl rfl, ↓cC, decide_true, Bool.not_true, ↓gr, B.ite 3 rfl, B.ite 2 rfl]
 refine aY (Iu bp) ⟨It.bQ _, It.bQ _, trivial⟩ ?_
 try simp only [↓Fu, ↓Ea, ↓gr, ↓bf (B.used 1 rfl), ↓bf (B.used 0 rfl), Nat.zero_add, B.cJ 1 (j := 7) rfl rfl rfl, B.cJ 0 (j := 7) rfl rfl rfl, ↓cC, decide_true, Bool.not_true, B.ite 1 rfl, B.ite 0 rfl]
 refine aY (Iu bt) ⟨It.bQ _, It.bQ _, trivial⟩ ?_
 try simp only [↓Fu, ↓Ea, ↓gr, ↓ae]
 have hvI := V.it.regs
 refine ⟨fun _ h' => bM aJ qJ h' ro15 [(n10, kh t), (n9, kh t), (n8, kh p), (n7, kh p), (n6, dX q), (n5, dX q), (n4, Gh c l s), (n3, .agg [.int .i64 a, .int .i64 b]), (n2, cY g zs id st), (n1, jZ bs)], ?_, ?_⟩
 ·rintro _ h' B
  try simp only [↓aB, B.used 6 rfl, Nat.zero_add, Nat.add_zero, Nat.reduceAdd, true_and, ↓bG, B.Oa 6 rfl, ↓gg, B.JW 7 (a := 0) rfl ⟨by omega, by omega⟩, Int.toNat_zero, B.cJ 7 (j := 0) rfl rfl rfl, ↓kl, ↓bY]
  refine aY Jc ⟨aX, trivial⟩ ?_
  try simp only [↓aB, B.used 6 rfl, Nat.zero_add, Nat.add_zero, Nat.reduceAdd, true_and, ↓bG, B.Oa 6 rfl, ↓gg, B.JW 7 (a := 0) rfl ⟨by omega, by omega⟩, Int.toNat_zero, B.cJ 7 (j := 0) rfl rfl rfl, ai, and_true]
  refine aY (IE (it := s.it) (o := Const (IntKind.i32.wrap a)) (fun h => by have : (1 : Int) = 2 := h; omega)) ⟨It.bQ _, du.bQ _, trivial⟩ ?_
  try simp only [↓gg, B.JW 7 (a := 0) rfl ⟨by omega, by omega⟩, Int.toNat_zero, Nat.add_zero, ↓bG, B.cJ 7 (j := 0) rfl rfl rfl, ai, and_true, true_and, ↓aM]
  rw [show ba s.it.regs (Const (IntKind.i32.wrap a)) = IntKind.i32.wrap a from rfl]
  try simp only [decide_true, ↓Cq, ↓lJ, ↓dA]
  exact bJ.mpr rfl
 (unfold eR; try dsimp only [xL, yL, xF, yF, xI, yI, xS, zI, zJ])
 refine ⟨fun k qs h' => ∃ i : Nat, qs = [.int .i64 (i : Int)] /\ k + i = s.it.regs.length /\ bM aJ qJ h' ro15 [(n10, kh t), (n9, kh t), (n8, kh p), (n7, kh p), (n6, dX q), (n5, dX q), (n4, Gh c l s), (n3, .agg [.int .i64 a, .int .i64 b]), (n2, cY g zs id st), (n1, jZ bs)],
  s.it.regs.length, ⟨0, rfl, rfl, B⟩, ?_⟩
 rintro k f h' ⟨i, hf, hki, B⟩
 simp only [List.cons.injEq, and_true] at hf
 have hrl := V.it.len
 have hcr := hc.regs
 try simp only [hf, ↓bf (B.used 6 rfl), Nat.zero_add, Nat.add_zero, Nat.reduceAdd, B.cJ 6 (j := 14) rfl rfl rfl, ↓lZ, ↓bL]
 by_cases hi : i < s.it.regs.length
 case neg =>
  try simp only [show ¬ ((i : Int) < (s.it.regs.length : Int)) by omega, decide_false, ↓ae, ai, true_and]
  exact B
 have hv : s.it.regs[i]? = some s.it.regs[i] := List.getElem?_eq_getElem hi
 try simp only [show ((i : Int) < (s.it.regs.length : Int)) by omega, decide_true, ↓af, ↓aB, B.used 6 rfl, Nat.zero_add, Nat.add_zero, Nat.reduceAdd, true_and, ↓bG, B.Oa 6 rfl, B.cJ 6 (j := 14) rfl rfl rfl, ↓eL, ↓Dp hv, ↓Ef]
 refine aY Jb ⟨aX, trivial⟩ ?_
 try simp only [↓aB, B.used 6 rfl, Nat.zero_add, Nat.add_zero, Nat.reduceAdd, true_and, ↓bG, B.Oa 6 rfl, B.cJ 6 (j := 14) rfl rfl rfl, ↓eL, ↓Dp hv, ↓Ef, ai, and_true]
 refine aY (IE (it := s.it) (o := fG (i : Int)) (fun _ => ⟨i, rfl, by omega⟩)) ⟨It.bQ _, du.bQ _, trivial⟩ ?_
 rw [show ba s.it.regs (fG (i : Int)) = s.it.regs[i] by simp [ba, fG, List.getD_eq_getElem?_getD, hv]]
 try simp only [↓aB, B.used 6 rfl, Nat.zero_add, Nat.add_zero, Nat.reduceAdd, true_and, ↓bG, B.Oa 6 rfl, B.cJ 6 (j := 14) rfl rfl rfl, ↓eL, ↓Dp hv, ↓Ef, ai, and_true, ↓cC, decide_true, Bool.not_true, ↓ae]
 rw [br, F1 (i := i) (by omega)]
 exact ⟨k - 1, by omega, i + 1, rfl, by omega, B⟩
end Go.Am
namespace Go.Am
open Go Go.Proofs
set_option maxRecDepth 100000
theorem Tt : Try.prog.underlying 22 = some (.slice 5) := by kernel_rfl
theorem T5 : Try.prog.underlying 5 = some (.int .u8) := by kernel_rfl
theorem Ts : Try.prog.underlying 25 = some (.int .i8) := by kernel_rfl
theorem Tr : Try.prog.underlying 26 = some (.array 8 25) := by kernel_rfl
theorem Tq : Try.prog.underlying 27 = some (.array 4 25) := by kernel_rfl
theorem Sd : Try.prog.underlying 32 = some (.array 2 3) := by kernel_rfl
theorem T6 : Try.prog.underlying 3 = some (.int .i64) := by kernel_rfl
theorem t24 : structL Try.prog 24 = some [(22, 0)] := by kernel_rfl
theorem t31 : structL Try.prog 31 = some [(29, 0), (5, 13), (5, 14)] := by kernel_rfl
theorem t29 : structL Try.prog 29 = some [(5, 0), (26, 1), (27, 9)] := by kernel_rfl
theorem Ug : Try.prog.cellsOf 24 = 1 := by kernel_rfl
theorem z22 : Try.prog.cellsOf 22 = 1 := by kernel_rfl
theorem Ud : Try.prog.cellsOf 31 = 15 := by kernel_rfl
theorem Ue : Try.prog.cellsOf 29 = 13 := by kernel_rfl
theorem z5 : Try.prog.cellsOf 5 = 1 := by kernel_rfl
theorem T4 : Try.prog.cellsOf 26 = 8 := by kernel_rfl
theorem T3 : Try.prog.cellsOf 27 = 4 := by kernel_rfl
theorem Uf : Try.prog.cellsOf 25 = 1 := by kernel_rfl
theorem z3 : Try.prog.cellsOf 3 = 1 := by kernel_rfl
theorem Uc : Try.prog.cellsOf 32 = 2 := by kernel_rfl
theorem PS : IntKind.u8.min = 0 := rfl
theorem Sc : IntKind.u8.max = 255 := rfl
theorem QL {m : Nat} {ds : List D} (h : HasTy Try.prog (m + 3) 24 ds) : ∃ bs : List Nat, mkElem Try.prog 24 ds = jZ bs /\ (∀ b ∈ bs, b <= 255) /\ bs.length <= 9223372036854775807 := by
 obtain ⟨k1, k2⟩ := oO t24 h
 rw [Ug] at k1
 have q := k2 (22, 0) (by simp)
 simp only [z22, List.drop_zero] at q
 match ds, k1 with
 | [d], _ =>
  obtain ⟨xs, h1, h2, h3⟩ := IW Tt T5 q
  simp at h1
  subst h1
  refine ⟨xs.map Int.toNat, ?_, fun b hb => ?_, by unfold maxLen at h2; simp; omega⟩
  ·rw [FJ t24, jZ, wy, List.map_map]
   congr 3
   refine List.map_congr_left fun x hx => ?_
   have := h3 x hx
   rw [PS] at this
   show D.int .u8 x = D.int .u8 ((x.toNat : Nat) : Int)
   rw [Int.toNat_of_nonneg this.1]
  ·simp only [List.mem_map] at hb
   obtain ⟨x, hx, rfl⟩ := hb
   have := h3 x hx
   rw [PS, Sc] at this
   omega
theorem Kb {m n : Nat} {t : TypeId} {ds : List D} (hu : Try.prog.underlying t = some (.array n 25)) (hn : Try.prog.cellsOf t = n) (h : HasTy Try.prog (m + 2) t ds) : ∃ zs : List Int, ds = zs.map (.int .i8) /\ zs.length = n := by
 obtain ⟨k1, k2⟩ := A0 hu h
 rw [hn] at k1
 simp only [Uf, Nat.mul_one] at k2
 have : ∀ d ∈ ds, ∃ z, d = D.int .i8 z := fun d hd => by
  obtain ⟨i, hi⟩ := List.getElem?_of_mem hd
  have hlt := (List.getElem?_eq_some_iff.1 hi).1
  obtain ⟨z, hz, -, -⟩ := nr Ts (k2 i (by omega))
  rw [List.drop_eq_getElem_cons hlt, List.take_succ_cons, List.take_zero] at hz
  rw [List.getElem?_eq_getElem hlt] at hi
  cases hi
  exact ⟨z, by simpa using hz⟩
 clear k2 h hu hn
 subst k1
 induction ds with
 | nil => exact ⟨[], rfl, rfl⟩
 | cons d r ih =>
  obtain ⟨z, rfl⟩ := this d (by simp)
  obtain ⟨zs, h1, h2⟩ := ih fun x hx => this x (by simp [hx])
  exact ⟨z :: zs, by rw [List.map_cons, <- h1], by simp [h2]⟩
theorem LI {m : Nat} {ds : List D} (h : HasTy Try.prog (m + 1) 5 ds) : ∃ g : Int, ds = [.int .u8 g] /\ 0 <= g /\ g <= 255 := by
 obtain ⟨g, h1, h2, h3⟩ := nr T5 h
 exact ⟨g, h1, h2, h3⟩
theorem Mu {m : Nat} {ds : List D} (h : HasTy Try.prog (m + 4) 31 ds) : ∃ (g : Int) (zs : List Int) (id st : Int), mkElem Try.prog 31 ds = cY g zs id st /\ GJ g zs id st := by
 obtain ⟨k1, k2⟩ := oO t31 h
 rw [Ud] at k1
 have q0 := k2 (29, 0) (by simp)
 have q1 := k2 (5, 13) (by simp)
 have q2 := k2 (5, 14) (by simp)
 simp only [Ue, z5, List.drop_zero] at q0 q1 q2
 obtain ⟨-, e⟩ := oO t29 q0
 have e0 := e (5, 0) (by simp)
 have e1 := e (26, 1) (by simp)
 have e2 := e (27, 9) (by simp)
 simp only [z5, T4, T3, List.drop_zero] at e0 e1 e2
 obtain ⟨g, hg, g1, g2⟩ := LI e0
 obtain ⟨id, hid, id1, id2⟩ := LI q1
 obtain ⟨st, hst, RP, st2⟩ := LI q2
 obtain ⟨z1, hz1, l1⟩ := Kb Tr T4 e1
 obtain ⟨z2, hz2, l2⟩ := Kb Tq T3 e2
 refine ⟨g, z1 ++ z2, id, st, ?_, ⟨⟨g1, g2⟩, by simp [l1, l2], ⟨id1, id2⟩, ⟨RP, st2⟩⟩⟩
 rw [FJ t31, cY]
 congr 1
 match ds, k1 with
 | [d0, d1, d2, d3, d4, d5, d6, d7, d8, d9, d10, d11, d12, d13, d14], _ =>
  simp at hg hid hst hz1 hz2
  simp [<- hz1, <- hz2, hg, hid, hst]
theorem OS {m : Nat} {ds : List D} (h : HasTy Try.prog (m + 2) 32 ds) : ∃ a b : Int, mkElem Try.prog 32 ds = .agg [.int .i64 a, .int .i64 b] := by
 obtain ⟨k1, k2⟩ := A0 Sd h
 rw [Uc] at k1
 simp only [z3, Nat.mul_one] at k2
 obtain ⟨a, ha, -, -⟩ := nr T6 (k2 0 (by omega))
 obtain ⟨b, hb, -, -⟩ := nr T6 (k2 1 (by omega))
 rw [MK Sd]
 match ds, k1 with
 | [d0, d1], _ =>
  simp at ha hb
  exact ⟨a, b, by rw [ha, hb]⟩
theorem SI (xs : List D) (h : EU Try.prog 12 Try.f3.params.toList xs) : aF Try.prog 3 xs (· = .bool true) := by
 have hp : Try.f3.params.toList = [24, 31, 32] := by kernel_rfl
 rw [hp] at h
 obtain ⟨c1, r1, rfl, h1, c2, r2, rfl, h2, c3, r3, rfl, h3, rfl⟩ := h
 obtain ⟨bs, e1, b1, b2⟩ := QL h1
 obtain ⟨g, zs, id, st, e2, P⟩ := Mu h2
 obtain ⟨a, b, e3⟩ := OS h3
 show aF Try.prog 3 [mkElem Try.prog 24 c1, mkElem Try.prog 31 c2, mkElem Try.prog 32 c3] _
 rw [e1, e2, e3]
 exact Ho b1 b2 P
end Go.Am
