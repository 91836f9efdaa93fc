/- What the functions of this chapter give, on plain data. No condition. -/
import Derived.Shelf.Spec.SlicesGrow
import Derived.Test.YtemgkmgmnnaloaaP2
set_option linter.unnecessarySimpa false
set_option linter.defProp false
set_option linter.unusedSectionVars false
set_option linter.unusedSimpArgs false
set_option linter.unusedVariables false
namespace Go.Am
open Go
def fitsM (s : Int) : List bM -> Mm -> Bool
 | [], [] => true
 | a :: r, w :: m => decide (a.sz s = (w.length : Int)) && fitsM s r m
 | _, _ => false
theorem zQ {s : Int} : ∀ {xs : List bM} {ms : Mm}, fitsM s xs ms = true -> xs.length = ms.length
 | [], [], _ => rfl
 | a :: r, w :: m, h => by simp [fitsM] at h; simp [zQ h.2]
 | [], _ :: _, h => by simp [fitsM] at h
 | _ :: _, [], h => by simp [fitsM] at h
theorem sK {s : Int} : ∀ {xs : List bM} {ms : Mm}, xs.length = ms.length -> (fitsM s xs ms = true ↔ ∀ (i : Nat) (a : bM) (w : List Int), xs[i]? = some a -> ms[i]? = some w -> a.sz s = (w.length : Int))
 | [], [], _ => by simp [fitsM]
 | a :: r, w :: m, h => by
  simp only [List.length_cons, Nat.add_right_cancel_iff] at h
  simp only [fitsM, Bool.and_eq_true, decide_eq_true_eq, sK h]
  constructor
  ·rintro ⟨h1, h2⟩ i a' w' ha hw
   cases i with
   | zero => simp at ha hw; subst ha hw; exact h1
   | succ i => exact h2 i a' w' (by simpa using ha) (by simpa using hw)
  ·intro h
   exact ⟨h 0 a w rfl rfl, fun i a' w' ha hw => h (i + 1) a' w' (by simpa using ha) (by simpa using hw)⟩
theorem MZ {s : Int} {xs : List bM} {ms : Mm} (h : xs.length ≠ ms.length) : fitsM s xs ms = false := by
 cases e : fitsM s xs ms with
 | false => rfl
 | true => exact absurd (zQ e) h
theorem MY {s : Int} {xs : List bM} {ms : Mm} (hl : xs.length = ms.length) {i : Nat} {a : bM} {w : List Int} (ha : xs[i]? = some a) (hw : ms[i]? = some w) (h : a.sz s ≠ (w.length : Int)) : fitsM s xs ms = false := by
 cases e : fitsM s xs ms with
 | false => rfl
 | true => exact absurd ((sK hl).1 e i a w ha hw) h
theorem OF (a : bM) (w : List Int) (n : Nat) (s : Int) {h : Heap} {K : HK} (hb : h n = .box (.int .i64 s)) (hk : ∀ h', Ext h h' -> K (.bool (decide (a.sz s = (w.length : Int)))) h') : ag PP gA [a.e, words w, .ptr n 0 0] h K := by
 refine aW tA (aA _ _ _) rfl (tk _ _ _ _) ?_
 (unfold nr; try dsimp only [xL, yL, xF, yF, xI, yI, xS, zI, zJ])
 rw [cC]
 refine ⟨(bM.vd a).2, fun m t => ?_⟩
 have hne : n ≠ m := t.ne (by rw [hb]; simp)
 have hm : ah h m (.box a.e) m = .box (.agg [.str a.name, .int .i64 a.space, .int .i64 a.type, .int .i64 a.len]) := ad _ _ _
 have hn : ah h m (.box a.e) n = .box (.int .i64 s) := by rw [aa _ _ hne]; exact hb
 have l4 : ∀ {K : HK}, ab PP (.ld (.c (.ptr m 0 0)) 4 true) (ah h m (.box a.e)) K = K a.e (ah h m (.box a.e)) := fun {K} => dh hm
 rw [l4, GC hn rfl]
 refine ba (L5 a s) ⟨bM.bZ a, bb, trivial⟩ ?_
 rw [words, kO, List.length_map, aM]
 exact hk _ (Ext.new t _)
theorem Rr : dO PP gA = true := by kernel_rfl
theorem Pk : dO PP fG = true := by kernel_rfl
theorem Ps {P : Program} {l : List bM} {k : Nat} {r : bM} (hr : l[k]? = some r) {h : Heap} {KH : HK} : ab P (.iadd (.c (.sl (l.map bM.e))) (.c (.int .i64 (k : Int))) 4) h KH = KH (.vp r.e 0) h := by
 have hk := (List.getElem?_eq_some_iff.1 hr).1
 rw [gX, Int.toNat_natCast, List.getElem?_map, hr, List.length_map]
 apply propext
 constructor
 ·rintro ⟨-, -, h⟩; exact (h _ rfl).2
 ·intro hk'; exact ⟨by omega, by omega, fun d hd => by cases hd; exact ⟨rfl, hk'⟩⟩
theorem QJ {xs : List bM} {ms : Mm} (hlx : xs.length <= 1000000) (s : Int) : aD PP mK [.sl (xs.map bM.e), .int .i64 s, aO ms] (· = .bool (fitsM s xs ms)) := by
 refine bc AE (aA _ _ _) rfl (An _ _ _ _) ?_
 (unfold uc; try dsimp only [xL, yL, xF, yF, xI, yI, xS, zI, zJ])
 rw [cC]
 refine ⟨jM.2, fun n t => ?_⟩
 have hb : ah aJ n (.box (.int .i64 s)) n = .box (.int .i64 s) := ad _ _ _
 generalize ah aJ n (.box (.int .i64 s)) = h at hb
 rw [SE]
 have hk : ∀ (h' : Heap) (b : Bool), b = fitsM s xs ms -> sQ (· = .bool (fitsM s xs ms)) (.bool b) h' := fun h' b hb => bH.mpr (by rw [hb])
 refine aW cv (aA _ _ _) rfl (ct _ _ _ _) ?_
 (unfold bA; try dsimp only [xL, yL, xF, yF, xI, yI, xS, zI, zJ])
 rw [kO, lf, cH, List.length_map]
 by_cases hl : xs.length = ms.length
 case neg =>
  simp only [show ((xs.length : Int) = (ms.length : Int)) = False from eq_false (by omega), decide_false, Bool.not_false, ↓af]
  exact hk _ _ (MZ hl).symm
 simp only [hl, decide_true, Bool.not_true, ↓ae]
 refine ⟨fun _ _ => fitsM s xs ms = true, fun _ h' h2 => hk _ _ h2.symm, ?_⟩
 rw [kO, List.length_map]
 (unfold bo; try dsimp only [xL, yL, xF, yF, xI, yI, xS, zI, zJ])
 refine ⟨fun k qs h' => ∃ i : Nat, qs = [.int .i64 (i : Int)] /\ k + i = xs.length /\ h' n = .box (.int .i64 s) /\ ∀ (j : Nat) (a : bM) (w : List Int), j < i -> xs[j]? = some a -> ms[j]? = some w -> a.sz s = (w.length : Int), xs.length, ⟨0, rfl, rfl, hb, fun j a w hj => by omega⟩, ?_⟩
 rintro k f h' ⟨i, hf, hki, hb, hall⟩
 simp only [List.cons.injEq, and_true] at hf
 rw [hf, bK]
 by_cases hi : i < xs.length
 case neg =>
  simp only [show ¬ ((i : Int) < (xs.length : Int)) by omega, decide_false, ↓ae, ai, true_and]
  refine (sK hl).2 fun j a w ha hw => hall j a w ?_ ha hw
  have := (List.getElem?_eq_some_iff.1 ha).1
  omega
 have ha : xs[i]? = some xs[i] := List.getElem?_eq_getElem hi
 have hw : ms[i]? = some (ms[i]'(by omega)) := List.getElem?_eq_getElem (by omega)
 obtain ⟨a, hae⟩ : ∃ a, a = xs[i] := ⟨_, rfl⟩
 obtain ⟨w, hwe⟩ : ∃ w, w = ms[i]'(by omega) := ⟨_, rfl⟩
 rw [<- hae] at ha
 rw [<- hwe] at hw
 simp only [show ((i : Int) < (xs.length : Int)) by omega, decide_true, ↓af, ↓Ps ha, ↓JR]
 rw [bQ]
 intro m t2
 have hne : n ≠ m := t2.ne (by rw [hb]; simp)
 have es : setCells (.agg S9) 0 a.e.cells = a.e := rfl
 rw [dq, ad]
 refine ⟨rfl, (bM.bZ a).one, rfl, by simp, ?_⟩
 rw [gP, es]
 have hm : ah h' m (.box a.e) m = .box (.agg [.str a.name, .int .i64 a.space, .int .i64 a.type, .int .i64 a.len]) := ad _ _ _
 have hn : ah h' m (.box a.e) n = .box (.int .i64 s) := by rw [aa _ _ hne]; exact hb
 generalize ah h' m (.box a.e) = h2 at hm hn
 have l4 : ∀ {K : HK}, ab PP (.ld (.c (.ptr m 0 0)) 4 true) h2 K = K a.e h2 := fun {K} => dh hm
 rw [wN hw, qg, l4, JH]
 refine ⟨Rr, OF a w n s hn fun h3 x3 => ?_⟩
 have hn3 : h3 n = .box (.int .i64 s) := by rw [x3 n (by rw [hn]; simp), hn]
 by_cases hsz : a.sz s = (w.length : Int)
 case neg =>
  simp only [hsz, decide_false, ↓Mp, ↓af]
  exact hk _ _ (MY hl ha hw hsz).symm
 simp only [hsz, decide_true, ↓DZ, ↓ae]
 rw [bt, GB (i := i) (by omega)]
 refine ⟨by simp, k - 1, by omega, i + 1, rfl, by omega, hn3, fun j a' w' hj ha' hw' => ?_⟩
 rcases Nat.lt_or_ge j i with h3 | h3
 ·exact hall j a' w' h3 ha' hw'
 ·have : j = i := by omega
  subst this
  rw [ha] at ha'; rw [hw] at hw'
  cases ha'; cases hw'
  exact hsz
end Go.Am
namespace Go.Am
open Go Go.Proofs Go.Shelf
def lh : Ren where
 f := fun x => match x with
  | 4 => 72
  | n => n
 t := fun x => match x with
  | 22 => 39
  | 25 => 21
  | n => n
 g := fun n => n
theorem PO : Lays8.n4 Try.prog lh where
 mixed := by kernel_rfl
 f4 := ⟨ "slices.Grow[[]int32,int32]", by decide, by kernel_rfl⟩
 t0 := Try.underlying0
 a0 := Try.isAgg0
 z0 := Try.sizeOf0
 v0 := Try.zeroValue0
 t3 := Try.underlying3
 a3 := Try.isAgg3
 z3 := Try.sizeOf3
 v3 := Try.zeroValue3
 t4 := Try.underlying4
 a4 := Try.isAgg4
 z4 := Try.sizeOf4
 v4 := Try.zeroValue4
 t9 := Try.underlying9
 a9 := Try.isAgg9
 z9 := Try.sizeOf9
 v9 := Try.zeroValue9
 t20 := Try.underlying20
 a20 := Try.isAgg20
 z20 := Try.sizeOf20
 v20 := Try.zeroValue20
 t22 := Try.underlying39
 a22 := Try.isAgg39
 z22 := Try.sizeOf39
 v22 := Try.zeroValue39
theorem KA : ∃ i0 : TypeInfo, PP.info? (lh.t 25) = some i0 /\ i0.zero = some (.int .i32 0) /\ i0.size = 1 /\ i0.bytes = 4 := by
 have hs : (PP.info? (lh.t 25)).map (·.size) = some 1 := by kernel_rfl
 have hb : (PP.info? (lh.t 25)).map (·.bytes) = some 4 := by kernel_rfl
 have hz : (PP.info? (lh.t 25)).bind (·.zero) = some (Value.int .i32 0) := by kernel_rfl
 cases e : PP.info? (lh.t 25) with
 | none => rw [e] at hs; cases hs
 | some i0 =>
  rw [e] at hs hb hz
  exact ⟨i0, rfl, by simpa using hz, by simpa using hs, by simpa using hb⟩
theorem Ra : lh.f 4 = dw := by kernel_rfl
theorem QI {n : Nat} {h : Heap} {KH : HK} (hn : n <= 1000000) (h0 : n = 0 -> KH .nil h) (hk : ∀ q, nw h q -> KH (.ms q 0 0) (ah h q (.arr 1 []))) : ag PP dw [.nil, .int .i64 (n : Int)] h KH := by
 intro c w vals hh hp hr hs hrel
 obtain ⟨i0, hi, hz, hsz, hb⟩ := KA
 have e0 : vals = #[.slice none 0 0, .int .i64 (n : Int)] := by
  have r0 := hrel 0 .nil rfl
  have r1 := hrel 1 (.int .i64 (n : Int)) rfl
  apply Array.ext
  ·simpa using hs
  ·intro i h1 h2
   have : i = 0 \/ i = 1 := by simp at h2; omega
   rcases this with rfl | rfl
   ·have e : vals.getD 0 Go.undef = vals[0] := by simp [Array.getD, h1]
    rw [e] at r0; show vals[0] = Value.slice none 0 0; generalize vals[0] = v at r0; cases r0; rfl
   ·have e : vals.getD 1 Go.undef = vals[1] := by simp [Array.getD, h1]
    rw [e] at r1; show vals[1] = Value.int .i64 (n : Int); generalize vals[1] = v at r1; cases r1; rfl
 rw [e0, <- Ra]
 by_cases hn0 : n = 0
 ·subst hn0
  refine (Any8.slices_Grow_room PO none 0 0 0 w (Nat.le_refl _) (by omega) (by omega) (Nat.le_refl _)).mono ?_
  rintro e w' ⟨rfl, rfl⟩
  refine ⟨_, .nil, c.ρ, c.h, rfl, ?_, ?_, WS.refl _, .nil, by rw [hh]; exact h0 rfl⟩
  ·rw [<- hp]; exact Ctx.le.refl _
  ·rw [<- hp]; exact hr
 refine (Any8.slices_Grow_grow PO i0 _ hi hz (by omega) none 0 0 n [] w (Nat.le_refl _) (by omega) (by rw [hb]; omega) (by omega) (by simp) (fun _ => rfl) (fun a ha => by cases ha)).mono ?_
 rintro e w' ⟨rfl, rfl⟩
 obtain ⟨q, htop⟩ := cY hr
 have hq := htop.free
 have hG := grownCap_ge w (0 + n) 0 (lh.t 25)
 have hG2 := grownCap_le_maxLen w (0 + n) 0 (lh.t 25) (by unfold maxLen; omega)
 generalize grownCap w (0 + n) 0 (lh.t 25) = G at hG hG2 ⊢
 obtain ⟨cells, hcells⟩ : ∃ cells : Array Value, cells = ([] : List Value).toArray ++ Builtin.zeroCells (Value.int .i32 0).cells (0 + n - 0) ++ Builtin.zeroCells (Value.int .i32 0).cells (G - (0 + n)) := ⟨_, rfl⟩
 rw [<- hcells]
 have hsize : cells.size = G := by
  have h1 : (Value.int .i32 0).cells.size = 1 := rfl
  rw [hcells]; simp [Builtin.zeroCells, h1]; omega
 have hst := gO.new (c := c) (s := .arr 1 []) hq trivial (.cells cells (lh.t 25)) (hp' := (w.drew.alloc (.cells cells (lh.t 25))).heap) (by rw [hp]; rfl)
 have hsl : cO ⟨ah c.ρ q (some c.hp.size), c.X, ah c.h q (.arr 1 []), (w.drew.alloc (.cells cells (lh.t 25))).heap⟩ q (.arr 1 []) :=
  xj (hp := w.heap) rfl (by simp [ah, hp]) (by omega) (by simp) (by simp) (fun i j d hd => by simp [aU] at hd)
 refine ⟨_, .ms q 0 0, ah c.ρ q (some c.hp.size), ah c.h q (.arr 1 []), rfl, hst.le, hst.heap hr (by simpa using hsl), ⟨rfl, rfl, rfl⟩, ?_, by rw [hh]; exact hk q (by rw [<- hh]; exact htop)⟩
 have := aq.ms (c := ⟨ah c.ρ q (some c.hp.size), c.X, ah c.h q (.arr 1 []), (w.drew.alloc (.cells cells (lh.t 25))).heap⟩) q 0 0 w.heap.size 1 G [] cells (lh.t 25) (0, 0) (by simp [ah, Slot.row]) (by simp [ah, hp])
  (by simp) (gb _ _) (by simp [hsize]) (by omega) hG2
 simpa using this
theorem Pv {P : Program} {h : Heap} {KH : HK} {z s : D} {w u : List Int} (ho : Own 1 h s (wr w)) (hl : w.length + u.length <= 1000000)
  (hk : ∀ v h', Own 1 h' v (wr (w ++ u)) -> KH v h') : ab P (.app (.c s) (.c (words u)) 1 4 z) h KH := by
 refine ⟨fun d hd => ?_, fun y hy => ?_, ?_⟩
 ·simp only [words, List.mem_map] at hd; obtain ⟨z, -, rfl⟩ := hd; rfl
 ·simp only [words, List.mem_map] at hy; obtain ⟨z, -, rfl⟩ := hy; simp
 have e : wr (w ++ u) = wr w ++ wr u := by simp [wr]
 rcases ho with ⟨rfl, hw⟩ | ⟨m, rfl, hm⟩
 ·have hw : w = [] := by cases w <;> first | rfl | (simp [wr] at hw)
  subst hw
  refine ⟨⟨by simp at hl ⊢; omega, by simp at hl ⊢; omega⟩, fun n t => hk _ _ (Or.inr ⟨n, ?_, ad _ _ _⟩)⟩
  simp [wr]
 ·refine ⟨wr w, hm, rfl, rfl, ⟨by rw [mC]; simp at hl ⊢; omega, by rw [mC]; simp at hl ⊢; omega⟩, fun n t => hk _ _ (Or.inr ⟨n, ?_, ?_⟩)⟩
  ·rw [e]; simp [wr, words]
  ·rw [ad, e]; rfl
theorem Mu {ws : Mm} {i : Nat} {w : List Int} (hw : ws[i]? = some w) : (ws.take (i + 1)).flatten = (ws.take i).flatten ++ w := by
 rw [List.take_add_one, hw]; simp
theorem Sv {ws : Mm} : ∀ i, (ws.take i).flatten.length <= ws.flatten.length := fun i => by
 conv => rhs; rw [<- List.take_append_drop i ws]
 rw [List.flatten_append, List.length_append]; omega
theorem Ma {ws : Mm} (hl : ws.flatten.length <= 1000000) (hn : ws.length <= 1000000) : aD PP bU [aO ws] (· = words ws.flatten) := by
 refine fR (aW iQ (aA _ _ _) rfl (iP _ _) ?_)
 (unfold fJ; try dsimp only [xL, yL, xF, yF, xI, yI, xS, zI, zJ])
 refine ⟨fun qs h' => qs = [.int .i64 (ws.flatten.length : Int)], ?_, ?_⟩
 ·rintro f h' hf
  simp only [List.cons.injEq, and_true] at hf
  rw [hf]
  have fin : ∀ (v : D) (h6 : Heap), Own 1 h6 v (wr []) -> ∃ (J7 : HJ), (∀ (f8 : Nat -> D) (h9 : Heap), J7 [f8 6] h9 -> EH (· = words ws.flatten) (f8 6) h9) /\ cj (aO ws) h6 fun a10 => cu v h6 a10 (aO ws) J7 := by
   intro v h6 O
   refine ⟨fun qs h' => ∃ v, qs = [v] /\ Own 1 h' v (wr ws.flatten), ?_, ?_⟩
   ·rintro f8 h9 ⟨v, hv, O⟩
    simp only [List.cons.injEq, and_true] at hv
    rw [hv]
    have ht : ∀ ds, v ≠ .tup ds := by rcases O with ⟨rfl, -⟩ | ⟨n, rfl, -⟩ <;> simp
    exact dW ht (by simp [words]) (.refl _) (PM O).d rfl
   rw [lf]
   (unfold cu; try dsimp only [xL, yL, xF, yF, xI, yI, xS, zI, zJ])
   refine ⟨fun k qs h' => ∃ (i : Nat) (v : D), qs = [v, .int .i64 (i : Int)] /\ k + i = ws.length /\ Own 1 h' v (wr (ws.take i).flatten), ws.length, ⟨0, v, rfl, rfl, by simpa using O⟩, ?_⟩
   rintro k f h' ⟨i, v, hf, hki, O⟩
   simp only [List.cons.injEq, and_true] at hf
   obtain ⟨hf1, hf2⟩ := hf
   rw [hf1, hf2, bK]
   by_cases hi : i < ws.length
   case neg =>
    simp only [show ¬ ((i : Int) < (ws.length : Int)) by omega, decide_false, ↓ae, ai, true_and]
    rw [List.take_of_length_le (by omega)] at O
    exact ⟨v, rfl, O⟩
   have hw : ws[i]? = some ws[i] := List.getElem?_eq_getElem hi
   have ht := Mu hw
   have hle := Sv (ws := ws) (i + 1)
   rw [ht, List.length_append] at hle
   simp only [show ((i : Int) < (ws.length : Int)) by omega, decide_true, ↓af, ↓wN hw, ↓qg]
   refine Pv O (by omega) fun v' h2 O2 => ?_
   rw [bt, GB (i := i) (by omega)]
   exact ⟨by simp, k - 1, by omega, i + 1, v', rfl, by omega, by rw [ht]; exact O2⟩
  exact QI hl (fun _ => fin _ _ (Or.inl ⟨rfl, rfl⟩)) fun q t => fin _ _ (Or.inr ⟨q, rfl, ad _ _ _⟩)
 rw [lf]
 (unfold eJ; try dsimp only [xL, yL, xF, yF, xI, yI, xS, zI, zJ])
 refine ⟨fun k qs h' => ∃ (i : Nat), qs = [.int .i64 ((ws.take i).flatten.length : Int), .int .i64 (i : Int)] /\ k + i = ws.length, ws.length, ⟨0, rfl, rfl⟩, ?_⟩
 rintro k f h' ⟨i, hf, hki⟩
 simp only [List.cons.injEq, and_true] at hf
 obtain ⟨hf1, hf2⟩ := hf
 rw [hf1, hf2, bK]
 by_cases hi : i < ws.length
 case neg =>
  simp only [show ¬ ((i : Int) < (ws.length : Int)) by omega, decide_false, ↓ae, ai, true_and]
  rw [List.take_of_length_le (by omega)]
 have hw : ws[i]? = some ws[i] := List.getElem?_eq_getElem hi
 have ht := Mu hw
 have hle := Sv (ws := ws) (i + 1)
 rw [ht, List.length_append] at hle
 simp only [show ((i : Int) < (ws.length : Int)) by omega, decide_true, ↓af, ↓wN hw, ↓qg, ↓nO]
 refine ⟨fun qs _ => qs = [.int .i64 ((ws.take (i + 1)).flatten.length : Int)], ?_, ?_⟩
 ·rintro f3 h3 hf3
  simp only [List.cons.injEq, and_true] at hf3
  rw [hf3, bt, GB (i := i) (by omega)]
  exact ⟨by simp, k - 1, by omega, i + 1, rfl, by omega⟩
 rw [bt, wrap64 (by omega) (by omega), bK]
 simp only [show ¬ ((((ws.take i).flatten.length : Int) + (ws[i].length : Int)) < 0) by omega, decide_false, ↓ae, ai, true_and]
 rw [ht, List.length_append]; simp
theorem DS {w : List Int} (hl : w.length <= 1000000) {h : Heap} {KH : HK} (hk : ∀ h', KH (.bool (w.any (· ≠ 0))) h') : ag PP bF [words w, .fn fG [] []] h KH := by
 refine aW gF (aA _ _ _) rfl (gD _ _ _) ?_
 (unfold dF; try dsimp only [xL, yL, xF, yF, xI, yI, xS, zI, zJ])
 refine aW hU (aA _ _ _) rfl (hO _ _ _) ?_
 (unfold eH; try dsimp only [xL, yL, xF, yF, xI, yI, xS, zI, zJ])
 refine ⟨fun _ _ => w.any (· ≠ 0) = false, fun _ h' he => ?_, ?_⟩
 ·show vbin .geq (.int .i64 (-1)) (.int .i64 0) _
  rw [hY]
  have := hk h'
  have he : w.any (· ≠ 0) = false := he
  rw [he] at this
  exact this
 rw [nO]
 (unfold dD; try dsimp only [xL, yL, xF, yF, xI, yI, xS, zI, zJ])
 refine ⟨fun k qs h' => ∃ (i : Nat), qs = [.int .i64 (i : Int)] /\ k + i = w.length /\ ∀ v, v ∈ w.take i -> v = 0, w.length, ⟨0, rfl, rfl, by simp⟩, ?_⟩
 rintro k f h' ⟨i, hf, hki, hall⟩
 simp only [List.cons.injEq, and_true] at hf
 rw [hf, bK]
 by_cases hi : i < w.length
 case neg =>
  simp only [show ¬ ((i : Int) < (w.length : Int)) by omega, decide_false, ↓ae, ai, true_and]
  rw [List.take_of_length_le (by omega)] at hall
  simpa using hall
 have hv : w[i]? = some w[i] := List.getElem?_eq_getElem hi
 simp only [show ((i : Int) < (w.length : Int)) by omega, decide_true, ↓af, ↓Lg hv, ↓MI]
 rw [JH]
 refine ⟨Pk, ?_⟩
 refine aW vZ (aA _ _ _) rfl (vS _ _) ?_
 (unfold pr; try dsimp only [xL, yL, xF, yF, xI, yI, xS, zI, zJ])
 show vbin .neq (.int .i32 w[i]) (.int .i32 0) _
 rw [cH]
 by_cases h0 : w[i] = 0
 case neg =>
  simp only [h0, decide_false, Bool.not_false, ↓af]
  rw [hY]
  have := hk h'
  rw [show w.any (· ≠ 0) = true by simpa using ⟨w[i], List.getElem_mem _, h0⟩] at this
  simpa using this
 simp only [h0, decide_true, Bool.not_true, ↓ae]
 rw [bt, GB (i := i) (by omega)]
 refine ⟨by simp, k - 1, by omega, i + 1, rfl, by omega, fun v hv' => ?_⟩
 rw [List.take_add_one, hv] at hv'
 rcases List.mem_append.1 hv' with hv' | hv'
 ·exact hall v hv'
 ·simp at hv'; rw [hv', h0]
def mB (w : List Int) : Bool := w.all (· = 0)
theorem HZ {w : List Int} : mB w = true ↔ ∀ v ∈ w, v = 0 := by simp [mB]
def Eh (m : Mm) : Bool := m.all mB
theorem IS {m : Mm} : Eh m = true ↔ ∀ w ∈ m, ∀ v ∈ w, v = 0 := by simp [Eh, mB]
structure JV where
 id : Int
 at_ : Int
 block : Int
 epoch : Int
 regs : List Int
 priv : Mm
 slots : List Int
abbrev JV.cs (x : JV) : List D := [.int .i64 x.id, .int .i64 x.at_, .int .i64 x.block, .int .i64 x.epoch, words x.regs, aO x.priv, words x.slots]
def JV.e (x : JV) : D := .agg x.cs
theorem JV.bZ (x : JV) : v7 x.e := cN (by simp [words, aO])
structure TQ (x : JV) : Prop where
 r : x.regs.length <= 1000
 s : x.slots.length <= 1000
 p : x.priv.length <= 1000
def It.g (x : It) : JV := ⟨x.id, x.at_, x.block, x.epoch, x.regs, x.priv, []⟩
theorem It.Ul (x : It) : x.g.e = x.e := rfl
structure vK (c : Code) (l : dt) (x : JV) : Prop where
 id : 0 <= x.id /\ x.id < l.groups * c.group
 ep : 0 <= x.epoch
 bl : 0 <= x.block /\ x.block < (c.b.length : Int)
 rg : (x.regs.length : Int) = c.regs
 sl : (x.slots.length : Int) = c.slots
 ft : fitsM 3 c.arrays x.priv = true
 a : x.at_ = 1 \/ (x.at_ = 2 /\ ((fy c x.block).kind = 3 \/ (fy c x.block).kind = 4)) \/ (x.at_ = 3 /\ x.block = 0 /\ mB x.regs = true /\ mB x.slots = true /\ Eh x.priv = true)
noncomputable def qi (c : Code) (l : dt) (x : JV) : Bool := @decide (vK c l x) (Classical.propDecidable _)
theorem yW {c : Code} {l : dt} {x : JV} (h : ¬ vK c l x) : qi c l x = false := by unfold qi; exact @decide_eq_false _ (Classical.propDecidable _) h
theorem nQ {c : Code} {l : dt} {x : JV} (h : vK c l x) : qi c l x = true := by unfold qi; exact @decide_eq_true _ (Classical.propDecidable _) h
theorem Fq {c : Code} {l : dt} {x : JV} {b : Bool} (h : b = true ↔ vK c l x) : qi c l x = b := by
 cases b with
 | true => exact nQ (h.1 rfl)
 | false => exact yW fun k => by cases h.2 k
theorem Rb {P : Program} {h : Heap} {KH : HK} {z x y : D} (hx : x.vone = true) (hy : y.vone = true) (hk : ∀ n, nw h n -> KH (.ms n 0 2) (ah h n (.arr 1 [x, y]))) : ab P (.bldS true 1 2 z [(0, .c x), (1, .c y)]) h KH := by
 have cx := gx (D.du hx)
 have cy := gx (D.du hy)
 obtain ⟨x1, x2, x3⟩ := Df (h := h) (sE hx)
 obtain ⟨y1, y2, y3⟩ := Df (h := h) (sE hy)
 refine ⟨fun p hp => ?_, fun _ p hp => ?_, fun n t => ?_⟩
 ·simp [Arg.get] at hp
  rcases hp with rfl | rfl
  ·exact ⟨by simp, by simp [cx], fun d hd => by rw [cx] at hd; simp at hd; subst hd; exact D.du hx⟩
  ·exact ⟨by simp, by simp [cy], fun d hd => by rw [cy] at hd; simp at hd; subst hd; exact D.du hy⟩
 ·simp [Arg.get] at hp
  rcases hp with rfl | rfl
  ·first | exact x3 | exact ⟨x3, by rw [x1]; exact sE hx⟩
  ·first | exact y3 | exact ⟨y3, by rw [y1]; exact sE hy⟩
 ·have := hk n t
  simpa [Heap.freezeAll, setEls, Arg.get, x1, x2, y1, y2] using this
theorem Pw {P : Program} {h : Heap} {KH : HK} {z : D} {n : Nat} {ws m : Mm} (hn : h n = .arr 1 (ws.map words)) (hl : ws.length + m.length <= 1000000)
  (hk : ∀ q h', h' q = .arr 1 ((ws ++ m).map words) -> (∀ k, h k ≠ .free -> k ≠ n -> h' k = h k) -> h q = .free -> KH (.ms q 0 (ws ++ m).length) h') : ab P (.app (.c (.ms n 0 ws.length)) (.c (aO m)) 1 24 z) h KH := by
 refine ⟨fun d hd => ?_, fun y hy => ?_, ws.map words, hn, rfl, by simp, ⟨by simp; omega, by simp; omega⟩, fun q t => ?_⟩
 ·simp only [aO, List.mem_map] at hd; obtain ⟨z, -, rfl⟩ := hd; rfl
 ·simp only [aO, List.mem_map] at hy; obtain ⟨z, -, rfl⟩ := hy; simp [words]
 ·have := hk q (ah (ah h n .dead) q (.arr 1 ((ws ++ m).map words))) (ad _ _ _) (fun k hk hkn => by rw [aa _ _ (t.ne hk), aa _ _ hkn]) t.free
  simpa using this
theorem LN {P : Program} {f : FuncId} {n : Nat} {els : List D} {h : Heap} {KH : HK} {R : D -> Prop} (hn : h n = .arr 1 els) (he : ∀ x ∈ els, ∀ y ∈ x.cells, y.vone = true)
  (hv : aD P f [.sl els] R) (hk : ∀ r h', R r -> (∀ k, k ≠ n -> h' k = h k) -> KH r h') : ag P f [.ms n 0 els.length] h KH := by
 have hrow : (h n).row = some (1, els) := by rw [hn]; rfl
 have e0 : (D.ms n 0 els.length).fz h = .sl els := by simp [D.fz, D.fzc, hrow]
 refine ag.mono ?_ (gl (K := R) (by rw [List.map_cons, List.map_nil, e0]; exact hv) (fun d hd => ?_))
 ·rintro r h' ⟨k1, k2, k3⟩
  refine hk r h' k1 fun k hkn => ?_
  by_cases hr : r.flat = true \/ [D.ms n 0 els.length].flatMap D.nm = []
  ·rw [k2 hr]
  ·rw [k3 hr]
   simp [D.nm, D.jo, Heap.freezeAll, Heap.freeze, hn, aa _ _ hkn]
 ·simp only [List.mem_singleton] at hd
  subst hd
  refine ⟨by simp, ?_, by rw [e0]; rfl⟩
  intro x hx
  simp only [D.cells, List.mem_singleton] at hx
  subst hx
  exact ⟨1, els, hrow, by simp, fun x hx y hy => he x (by simpa using hx) y hy⟩
theorem Su (m : Mm) : ∀ x, x ∈ m.map words -> ∀ y ∈ x.cells, y.vone = true := fun x hx y hy => by
 simp only [List.mem_map] at hx
 obtain ⟨z, -, rfl⟩ := hx
 simp [words] at hy; subst hy; rfl
theorem any_zero {w1 w2 : List Int} {m : Mm} : ((w1 :: w2 :: m).flatten.any (· ≠ 0) = false) ↔ mB w1 = true /\ mB w2 = true /\ Eh m = true := by
 simp only [List.any_eq_false, List.mem_flatten, List.mem_cons, HZ, IS]
 constructor
 ·intro h
  refine ⟨fun v hv => by simpa using h v ⟨w1, Or.inl rfl, hv⟩, fun v hv => by simpa using h v ⟨w2, Or.inr (Or.inl rfl), hv⟩, fun w hw v hv => by simpa using h v ⟨w, Or.inr (Or.inr hw), hv⟩⟩
 ·rintro ⟨a, b, d⟩ v ⟨w, hw | hw | hw, hv⟩
  ·subst hw; simp [a v hv]
  ·subst hw; simp [b v hv]
  ·simp [d w hw v hv]
theorem Pc {c : Code} (hc : bq c) {m : Mm} (h : fitsM 3 c.arrays m = true) : m.length <= 8 /\ (∀ w ∈ m, w.length <= 8) /\ m.flatten.length <= 64 := by
 have hl := zQ h
 have hna := hc.nar
 have hw : ∀ w ∈ m, w.length <= 8 := fun w hw => by
  obtain ⟨i, hi⟩ := List.getElem?_of_mem hw
  have hlt := (List.getElem?_eq_some_iff.1 hi).1
  have ha : c.arrays[i]? = some (c.arrays[i]'(by omega)) := List.getElem?_eq_getElem (by omega)
  have := (sK hl).1 h i _ w ha hi
  have hao := (hc.ar _ (List.mem_of_getElem? ha)).2
  unfold bM.sz at this
  split at this <;> omega
 refine ⟨by omega, hw, ?_⟩
 have : ∀ (m : Mm), (∀ w ∈ m, w.length <= 8) -> m.flatten.length <= 8 * m.length := by
  intro m
  induction m with
  | nil => simp
  | cons a r ih =>
   intro h
   have := ih fun w hw => h w (by simp [hw])
   have := h a (by simp)
   simp only [List.flatten_cons, List.length_append, List.length_cons]
   omega
 have := this m hw
 omega
theorem OD {c : Code} {l : dt} {x : JV} (hc : bq c) (hl : lF c l) (hb : TQ x) : aD PP kD [c.e, l.e, x.e] (· = .bool (qi c l x)) := by
 refine bc CT (aA _ _ _) rfl (Cz _ _ _ _) ?_
 (unfold xQ; try dsimp only [xL, yL, xF, yF, xI, yI, xS, zI, zJ])
 refine bJ.start.box (ju c).2 fun n1 h1 ro1 B => ?_
 refine B.box (om l) fun n2 h2 ro2 B => ?_
 refine B.box x.bZ.one fun n3 h3 ro3 B => ?_
 obtain ⟨g1, g2, g3⟩ := C5 hc hl
 have u0 := B.used 0 rfl
 have u1 := B.used 1 rfl
 have u2 := B.used 2 rfl
 refine ⟨fun _ _ => ¬ vK c l x, fun _ h' hn => bH.mpr (by rw [yW hn]), ?_⟩
 simp only [↓bf u0, Nat.zero_add, B.cP 0 (j := 0) rfl rfl rfl, ↓bK]
 by_cases i1 : x.id < 0
 ·simp only [i1, decide_true, ↓MO, ↓dY, ↓af, ai, true_and]
  exact fun h => by have := h.id; omega
 simp only [i1, decide_false, ↓Fi, ↓bf u0, ↓bf u1, ↓bf u2, Nat.zero_add, B.cP 0 (j := 0) rfl rfl rfl, B.cP 1 (j := 0) rfl rfl rfl, B.cP 2 (j := 0) rfl rfl rfl, ↓fT, g1, ↓hY, ↓gf]
 by_cases i2 : l.groups * c.group <= x.id
 ·simp only [i2, decide_true, ↓MO, ↓dY, ↓af, ai, true_and]
  exact fun h => by have := h.id; omega
 simp only [i2, decide_false, ↓Fi, ↓bf u0, Nat.zero_add, B.cP 0 (j := 3) rfl rfl rfl, ↓bK, ↓gf]
 by_cases i3 : x.epoch < 0
 ·simp only [i3, decide_true, ↓af, ai, true_and]
  exact fun h => by have := h.ep; omega
 simp only [i3, decide_false, ↓ae, ↓bf u0, Nat.zero_add, B.cP 0 (j := 2) rfl rfl rfl, ↓bK]
 by_cases i4 : x.block < 0
 ·simp only [i4, decide_true, ↓MO, ↓dY, ↓af, ai, true_and]
  exact fun h => by have := h.bl; omega
 simp only [i4, decide_false, ↓Fi, ↓bf u0, ↓bf u2, Nat.zero_add, B.cP 0 (j := 2) rfl rfl rfl, B.cP 2 (j := 7) rfl rfl rfl, ↓kO, List.length_map, ↓hY, ↓gf]
 by_cases i5 : (c.b.length : Int) <= x.block
 ·simp only [i5, decide_true, ↓af, ai, true_and]
  exact fun h => by have := h.bl; omega
 simp only [i5, decide_false, ↓ae, ↓bf u0, ↓bf u2, Nat.zero_add, B.cP 0 (j := 4) rfl rfl rfl, B.cP 2 (j := 2) rfl rfl rfl, ↓nO, ↓cH]
 by_cases i6 : (x.regs.length : Int) = c.regs
 case neg =>
  simp only [i6, decide_false, Bool.not_false, ↓MO, ↓dY, ↓af, ai, true_and]
  exact fun h => i6 h.rg
 simp only [i6, decide_true, Bool.not_true, ↓Fi, ↓bf u0, ↓bf u2, Nat.zero_add, B.cP 0 (j := 6) rfl rfl rfl, B.cP 2 (j := 3) rfl rfl rfl, ↓nO, ↓cH, ↓gf]
 by_cases i7 : (x.slots.length : Int) = c.slots
 case neg =>
  simp only [i7, decide_false, Bool.not_false, ↓MO, ↓dY, ↓af, ai, true_and]
  exact fun h => i7 h.sl
 simp only [i7, decide_true, Bool.not_true, ↓Fi, ↓bf u0, ↓bf u2, Nat.zero_add, B.cP 0 (j := 5) rfl rfl rfl, B.cP 2 (j := 5) rfl rfl rfl]
 have hna := hc.nar
 refine ba (QJ (by omega) 3) ⟨eR, bb, eR, trivial⟩ ?_
 by_cases i8 : fitsM 3 c.arrays x.priv = true
 case neg =>
  have i8' : fitsM 3 c.arrays x.priv = false := by simpa using i8
  simp only [i8', ↓Fi, ↓Mp, ↓gf, ↓af, ai, true_and]
  exact fun h => i8 h.ft
 simp only [i8, ↓Fi, ↓DZ, ↓gf, ↓ae, ↓bf u0, Nat.zero_add, B.cP 0 (j := 1) rfl rfl rfl, ↓aM]
 have base : ∀ (P : Prop), (P -> x.at_ = 1 \/ (x.at_ = 2 /\ ((fy c x.block).kind = 3 \/ (fy c x.block).kind = 4)) \/ (x.at_ = 3 /\ x.block = 0 /\ mB x.regs = true /\ mB x.slots = true /\ Eh x.priv = true)) -> P -> vK c l x := fun P hP p =>
  ⟨⟨by omega, by omega⟩, by omega, ⟨by omega, by omega⟩, i6, i7, i8, hP p⟩
 by_cases a1 : x.at_ = 1
 ·simp only [a1, decide_true, ↓af]
  exact bH.mpr (by rw [nQ (base True (fun _ => Or.inl a1) trivial)])
 simp only [a1, decide_false, ↓ae, ↓bf u0, Nat.zero_add, B.cP 0 (j := 1) rfl rfl rfl, ↓aM]
 by_cases a2 : x.at_ = 2
 ·obtain ⟨k, Q, hbk, hQ, hQm, ht, -⟩ := hc.Nz (b := x.block) ⟨by omega, by omega⟩
  have hat : ∀ {g' : Heap} {K : HK}, ab PP (.iadd (.c (.sl (c.b.map Block.e))) (.c (.int .i64 x.block)) 14) g' K = K (.vp Q.e 0) g' := fun {g' K} => by rw [hbk, rh hQ]
  have hkd : ∀ {g' : Heap} {K : HK}, ab PP (.ld (.c (.vp Q.e 1)) 1 false) g' K = K (.int .i64 Q.t.kind) g' := fun {g' K} => by rw [iD, bk]; rfl
  simp only [a2, decide_true, ↓af, ↓bf u0, ↓bf u2, Nat.zero_add, B.cP 0 (j := 2) rfl rfl rfl, B.cP 2 (j := 7) rfl rfl rfl, hat, ↓jk, Nat.add_zero, hkd, ↓aM]
  by_cases k3 : Q.t.kind = 3
  ·simp only [k3, decide_true, ↓MO, ↓dY]
   exact bH.mpr (by rw [nQ (base True (fun _ => Or.inr (Or.inl ⟨a2, Or.inl (by rw [ht]; exact k3)⟩)) trivial)])
  simp only [k3, decide_false, ↓Fi, ↓gf, ↓aM]
  refine bH.mpr ?_
  rw [Fq (b := decide (Q.t.kind = 4))]
  simp only [decide_eq_true_eq]
  constructor
  ·exact base _ fun k4 => Or.inr (Or.inl ⟨a2, Or.inr (by rw [ht]; exact k4)⟩)
  ·intro h
   rcases h.a with e | ⟨-, e | e⟩ | ⟨e, -⟩
   ·exact absurd e a1
   ·rw [ht] at e; exact absurd e k3
   ·rw [ht] at e; exact e
   ·omega
 simp only [a2, decide_false, ↓ae, ↓bf u0, Nat.zero_add, B.cP 0 (j := 1) rfl rfl rfl, ↓aM]
 by_cases a3 : x.at_ = 3
 case neg =>
  simp only [a3, decide_false, ↓ae, ai, true_and]
  intro h
  rcases h.a with e | ⟨e, -⟩ | ⟨e, -⟩
  ·exact a1 e
  ·exact a2 e
  ·exact a3 e
 simp only [a3, decide_true, ↓af, ↓bf u0, Nat.zero_add, B.cP 0 (j := 4) rfl rfl rfl, B.cP 0 (j := 6) rfl rfl rfl]
 refine Rb rfl rfl fun n4 t4 => ?_
 have f4 := t4.free
 have nb : ∀ p, p ∈ [(n3, x.e), (n2, l.e), (n1, c.e)] -> p.1 ≠ n4 := fun p hp e => by
  have := (B.at_ p hp).1; rw [e, f4] at this; cases this
 have B4 := B.re (h0 := aJ) (h' := ah h3 n4 (.arr 1 [words x.regs, words x.slots])) fun p hp => aa _ _ (nb p hp)
 have e4 : ah h3 n4 (.arr 1 [words x.regs, words x.slots]) n4 = .arr 1 ([x.regs, x.slots].map words) := ad _ _ _
 generalize ah h3 n4 (.arr 1 [words x.regs, words x.slots]) = h4 at B4 e4
 simp only [↓bf (B4.used 0 rfl), Nat.zero_add, B4.cP 0 (j := 5) rfl rfl rfl]
 obtain ⟨p1, p2, p3⟩ := Pc hc i8
 refine Pw (ws := [x.regs, x.slots]) (m := x.priv) e4 (by simp; omega) fun q h5 hq k5 fq => ?_
 have nf5 : ∀ p, p ∈ [(n3, x.e), (n2, l.e), (n1, c.e)] -> h4 p.1 ≠ .free := fun p hp => by rw [(B4.at_ p hp).1]; simp
 have B5 := B4.re (h0 := aJ) (h' := h5) fun p hp => k5 p.1 (nf5 p hp) (nb p hp)
 have nq : ∀ p, p ∈ [(n3, x.e), (n2, l.e), (n1, c.e)] -> p.1 ≠ q := fun p hp e => by
  have := (B4.at_ p hp).1; rw [e, fq] at this; cases this
 have hr := hb.r
 have hs := hb.s
 have cc := Ma (ws := [x.regs, x.slots] ++ x.priv) (by simp at p3 ⊢; omega) (by simp; omega)
 have rc := LN (P := PP) (f := bU) (R := (· = words ([x.regs, x.slots] ++ x.priv).flatten)) hq (Su _) cc (KH := fun a237 h238 => ab PP (.fadd (.c (.ptr n3 0 0)) 2) h238 fun a239 h240 =>
  ab PP (.ld (.c a239) 1 false) h240 fun a241 h242 => vbin .eql a241 (.int .i64 0) fun a243 => vguard a243 true (fun G244 => G244 a237 h242) h242 fun a245 h246 => vguard a243 true (fun G247 => G247 (.fn fG [] []) h246) h246 fun a248 h249 =>
  vguard a243 true (fun G250 => ag PP bF [a245, a248] h249 fun a253 h254 => G250 a253 h254) h249 fun a251 h252 => vguard a243 true (fun G255 => vun .not a251 fun a258 => G255 a258 h252) h252 fun a256 h257 =>
  ab PP (.pick (.c a243) (.c a256) (.c (.bool false))) h257 fun a259 h260 => sQ (· = .bool (qi c l x)) a259 h260) ?_
 ·rw [List.length_map] at rc
  exact rc
 rintro _ h6 rfl k6
 have B6 := B5.re (h0 := aJ) (h' := h6) fun p hp => k6 p.1 (nq p hp)
 simp only [↓bf (B6.used 0 rfl), Nat.zero_add, B6.cP 0 (j := 2) rfl rfl rfl, ↓aM]
 by_cases b0 : x.block = 0
 case neg =>
  simp only [b0, decide_false, ↓RI, ↓gf]
  refine bH.mpr ?_
  rw [yW]
  intro h
  rcases h.a with e | ⟨e, -⟩ | ⟨-, e, -⟩
  ·exact a1 e
  ·exact a2 e
  ·exact b0 e
 simp only [b0, decide_true, ↓GD]
 refine DS (by simp at p3 ⊢; omega) fun h7 => ?_
 have hv : qi c l x = !(([x.regs, x.slots] ++ x.priv).flatten.any (· ≠ 0)) := by
  refine Fq ?_
  rw [Bool.not_eq_true', List.cons_append, List.cons_append, List.nil_append, any_zero]
  constructor
  ·exact base _ fun h => Or.inr (Or.inr ⟨a3, b0, h⟩)
  ·intro h
   rcases h.a with e | ⟨e, -⟩ | ⟨-, -, e⟩
   ·exact absurd e a1
   ·exact absurd e a2
   ·exact e
 cases e : ([x.regs, x.slots] ++ x.priv).flatten.any (· ≠ 0) with
 | false =>
  rw [e] at hv
  simp only [↓GD, ↓Mp, ↓dY]
  exact bH.mpr (by rw [hv]; rfl)
 | true =>
  rw [e] at hv
  simp only [↓GD, ↓DZ, ↓dY]
  exact bH.mpr (by rw [hv]; rfl)
section
variable {h0 h : Heap} {ro0 ro : Ro} {L : List (Nat × D)} {KH : HK} {c : Code} {l : dt} {s : sO} {n : Nat}
theorem bJ.TW (B : bJ h0 ro0 h ro L) (i : Nat) (hi : L[i]? = some (n, F1 c l s)) : ab PP (.ld (.c (.ptr n 0 0)) 8 true) h KH = KH c.e h := B.qP i (j := 0) (s := 8) (e := c.e) hi rfl rfl (Nat.le_of_ble_eq_true rfl)
theorem bJ.T9 (B : bJ h0 ro0 h ro L) (i : Nat) (hi : L[i]? = some (n, F1 c l s)) : ab PP (.ld (.c (.ptr n 0 8)) 2 true) h KH = KH l.e h := B.qP i (j := 8) (s := 2) (e := l.e) hi rfl rfl (Nat.le_of_ble_eq_true rfl)
theorem bJ.T8 (B : bJ h0 ro0 h ro L) (i : Nat) (hi : L[i]? = some (n, F1 c l s)) : ab PP (.ld (.c (.ptr n 0 10)) 11 true) h KH = KH (gq s) h := B.qP i (j := 10) (s := 11) (e := gq s) hi rfl rfl (Nat.le_of_ble_eq_true rfl)
theorem bJ.S7 (B : bJ h0 ro0 h ro L) (i : Nat) (hi : L[i]? = some (n, F1 c l s)) : ab PP (.ld (.c (.ptr n 0 10)) 7 true) h KH = KH s.it.e h := B.qP i (j := 10) (s := 7) (e := s.it.e) hi rfl rfl (Nat.le_of_ble_eq_true rfl)
theorem bJ.ite (B : bJ h0 ro0 h ro L) (i : Nat) {p : It × Int} (hi : L[i]? = some (n, pa p)) : ab PP (.ld (.c (.ptr n 0 0)) 7 true) h KH = KH p.1.e h := B.qP i (j := 0) (s := 7) (e := p.1.e) hi rfl rfl (Nat.le_of_ble_eq_true rfl)
theorem bJ.TY (B : bJ h0 ro0 h ro L) (i : Nat) {r : sO} (hi : L[i]? = some (n, gq r)) : ab PP (.ld (.c (.ptr n 0 0)) 7 true) h KH = KH r.it.e h := B.qP i (j := 0) (s := 7) (e := r.it.e) hi rfl rfl (Nat.le_of_ble_eq_true rfl)
theorem bJ.NU (B : bJ h0 ro0 h ro L) (i : Nat) {sz : Nat} {d d' : D} (hi : L[i]? = some (n, d)) (hd : d = .agg d.cells) (hd' : d' = .agg d'.cells) (hl : d.cells.length = sz) (hl' : d'.cells.length = sz) (ho : aw d')
  (hK : ∀ h', bJ h0 ro0 h' ro (L.set i (n, d')) -> KH .undef h') : ab PP (.st (.c (.ptr n 0 0)) (.c d') sz) h KH := by
 rw [hd'] at hK ⊢
 exact B.mD i (cs := d.cells) (by rw [<- hd]; exact hi) hl hl' ho hK
end
theorem Ea {P : Program} {h : Heap} {KH : HK} {esz len : Nat} {z : D} {ps : List (Nat × Arg)} (hp : ∀ p ∈ ps, p.1 < len /\ (p.2.get []).cells.length = esz /\ aw (p.2.get []) /\ (p.2.get []).vd = true)
  (hk : ∀ n, nw h n -> KH (.ms n 0 len) (ah h n (.arr esz (setEls (List.replicate len z) (ps.map fun p => (p.1, p.2.get [])))))) : ab P (.bldS true esz len z ps) h KH := by
 have fz : ∀ p ∈ ps, (p.2.get []).fz h = p.2.get [] /\ (p.2.get []).nm = [] /\ jD h (p.2.get []) := fun p hpm => Df (hp p hpm).2.2.2
 refine ⟨fun p hpm => ?_, fun _ p hpm => ?_, fun n t => ?_⟩
 ·simp only [List.mem_map] at hpm
  obtain ⟨q, hq, rfl⟩ := hpm
  obtain ⟨a1, a2, a3, -⟩ := hp q hq
  exact ⟨a1, a2, a3⟩
 ·simp only [List.mem_map] at hpm
  obtain ⟨q, hq, rfl⟩ := hpm
  first | exact (fz q hq).2.2 | exact ⟨(fz q hq).2.2, by rw [(fz q hq).1]; exact (hp q hq).2.2.2⟩
 ·have e1 : ps.flatMap (fun p => (p.2.get []).nm) = [] := by
   rw [List.flatMap_eq_nil_iff]
   exact fun p hpm => (fz p hpm).2.1
  have e2 : (ps.map fun p => (p.1, if (true : Bool) = true then (p.2.get []).fz h else p.2.get [])) = ps.map fun p => (p.1, p.2.get []) := by
   refine List.map_congr_left fun p hpm => ?_
   simp only [if_true]
   rw [(fz p hpm).1]
  have := hk n t
  rw [e1, e2]
  simpa [Heap.freezeAll] using this
theorem MQ {P : Program} {h : Heap} {KH : HK} {esz : Nat} {z d d' : D} (ho : aw d) (hl : d.cells.length = esz) (hf : jD h d) (he : d.fz h = d') (hv : d'.vd = true)
  (hk : ∀ n h', h n = .free -> h' n = .arr esz [d'] -> (∀ k, h k ≠ .free -> (∀ m ∈ d.nm, k ≠ m) -> h' k = h k) -> KH (.ms n 0 1) h') : ab P (.bldS true esz 1 z [(0, .c d)]) h KH := by
 refine ⟨fun p hpm => ?_, fun _ p hpm => ?_, fun n t => ?_⟩
 ·simp only [List.map_cons, List.map_nil, List.mem_singleton] at hpm
  subst hpm
  exact ⟨Nat.one_pos, hl, ho⟩
 ·simp only [List.map_cons, List.map_nil, List.mem_singleton] at hpm
  subst hpm
  first | exact hf | exact ⟨hf, by show (d.fz h).vd = true; rw [he]; exact hv⟩
 ·have e : setEls (List.replicate 1 z) ([(0, Arg.c d)].map fun p => (p.1, if (true : Bool) = true then (p.2.get []).fz h else p.2.get [])) = [d'] := by
   show [d.fz h] = [d']
   rw [he]
  rw [e]
  refine hk n _ t.free (ad _ _ _) fun k hkf hm => ?_
  rw [aa _ _ (t.ne hkf)]
  simp only [if_true, List.flatMap_cons, List.flatMap_nil, List.append_nil]
  exact fH _ fun hmem => hm k hmem rfl
theorem bJ.T7 {h0 h : Heap} {ro0 ro : Ro} {L : List (Nat × D)} {KH : HK} (B : bJ h0 ro0 h ro L) (i : Nat) {n s : Nat} {cs cs' : List D} {d : D} (hd : d = .agg cs') (hi : L[i]? = some (n, .agg cs)) (hl : cs.length = s) (hl' : cs'.length = s) (ho : ∀ x, x ∈ cs' -> x.one = true)
  (hK : bJ h0 ro0 (ah h n (.box (.agg cs'))) ro (L.set i (n, .agg cs')) -> KH .undef (ah h n (.box (.agg cs')))) : ab PP (.st (.c (.ptr n 0 0)) (.c d) s) h KH := by
 subst hd
 rw [Go.Am.mD (B.get i hi) hl hl' ho]
 exact hK (B.av i hi _)
def Hp (n : Int) : bM := ⟨⟨#[97]⟩, 1, 1, n⟩
def C7 : Block := ⟨[⟨5, 1, 0, fQ 0, an, an, an⟩, ⟨8, 0, 0, an, fQ 0, Const 7, an⟩], ⟨5, 0, an, an, an, 0, 0⟩⟩
def kM (n : Int) : Code := ⟨4, 1, 1, 0, 0, [Hp n], [], [C7]⟩
theorem JL {n : Int} : aD PP gR [.int .i64 n] (· = (kM n).e) := by
 refine fR (aW vV (aA _ _ _) rfl (vO _ _) ?_)
 (unfold pj; try dsimp only [xL, yL, xF, yF, xI, yI, xS, zI, zJ])
 refine bJ.start.alloc fun n1 h1 ro1 B => ?_
 refine ba Nu ⟨bb, trivial⟩ ?_
 rw [cB rfl]
 refine ba Nu ⟨bb, trivial⟩ ?_
 refine ba Nw ⟨bb, trivial⟩ ?_
 rw [cB rfl]
 obtain ⟨i0, hi0⟩ : ∃ i : aR, i = ⟨5, 1, 0, fQ 0, an, an, an⟩ := ⟨_, rfl⟩
 obtain ⟨i1, hi1⟩ : ∃ i : aR, i = ⟨8, 0, 0, an, fQ 0, Const 7, an⟩ := ⟨_, rfl⟩
 have v15 : ∀ i : aR, (i.e.cells.length = 15) /\ aw i.e /\ i.e.vd = true := fun i => ⟨rfl, (aR.bZ i).one, (aR.bZ i).pair.1⟩
 refine Ea (fun p hp => ?_) fun n2 t2 => ?_
 ·simp only [List.mem_cons, List.not_mem_nil, or_false] at hp
  rcases hp with rfl | rfl
  ·exact ⟨by simp, v15 ⟨5, 1, 0, fQ 0, an, an, an⟩⟩
  ·exact ⟨by simp, v15 ⟨8, 0, 0, an, fQ 0, Const 7, an⟩⟩
 have f2 := t2.free
 have B := B.step (Fr.new (ro := ro1) f2 .ev (s := .arr 15 (C7.i.map aR.e)))
 have e2 : ah h1 n2 (.arr 15 (C7.i.map aR.e)) n2 = .arr 15 (C7.i.map aR.e) := ad _ _ _
 have es2 : setEls (List.replicate 2 (.agg [(.int .i64 0), (.int .i64 0), (.int .i64 0), (.int .i64 0), (.int .i64 0), (.int .i32 0), (.int .i64 0), (.int .i64 0), (.int .i32 0), (.int .i64 0), (.int .i64 0), (.int .i32 0), (.int .i64 0), (.int .i64 0), (.int .i32 0)])) [(0, (⟨5, 1, 0, fQ 0, an, an, an⟩ : aR).e), (1, (⟨8, 0, 0, an, fQ 0, Const 7, an⟩ : aR).e)] = C7.i.map aR.e := rfl
 show ab PP _ (ah h1 n2 (.arr 15 (C7.i.map aR.e))) _
 generalize ah h1 n2 (.arr 15 (C7.i.map aR.e)) = h2 at B e2
 generalize ah ro1 n2 .ev = ro2 at B
 rw [cB rfl]
 refine Ea (fun p hp => ?_) fun n3 t3 => ?_
 ·simp only [List.mem_cons, List.not_mem_nil, or_false] at hp
  subst hp
  exact ⟨by simp, rfl, (bM.bZ (Hp n)).one, (bM.bZ (Hp n)).pair.1⟩
 have f3 := t3.free
 have B := B.step (Fr.new (ro := ro2) f3 .ev (s := .arr 4 ([Hp n].map bM.e)))
 have n32 : n2 ≠ n3 := t3.ne (by rw [e2]; simp)
 have e2' : ah h2 n3 (.arr 4 ([Hp n].map bM.e)) n2 = .arr 15 (C7.i.map aR.e) := by rw [aa _ _ n32]; exact e2
 have e3 : ah h2 n3 (.arr 4 ([Hp n].map bM.e)) n3 = .arr 4 ([Hp n].map bM.e) := ad _ _ _
 show ab PP _ (ah h2 n3 (.arr 4 ([Hp n].map bM.e))) _
 generalize ah h2 n3 (.arr 4 ([Hp n].map bM.e)) = h3 at B e2' e3
 generalize ah ro2 n3 .ev = ro3 at B
 rw [cB rfl, cB rfl]
 have iv : ∀ x, x ∈ C7.i.map aR.e -> ∀ y ∈ x.cells, y.vone = true := fun x hx y hy => by
  simp only [List.mem_map] at hx
  obtain ⟨z, -, rfl⟩ := hx
  exact (aR.bZ z).pair.1 |> fun h => by
   have := List.all_eq_true.1 h y hy
   exact this
 have fi := db e2' iv
 have fb : NY h3 (.agg (.ms n2 0 (C7.i.map aR.e).length :: C7.t.cs)) C7.e := Bo.agg (.cons fi (Bo.Sr fun x hx => by
  simp [C7, Term.cs, dQ.cs, an] at hx
  rcases hx with rfl | rfl | rfl | rfl | rfl | rfl | rfl | rfl | rfl | rfl | rfl | rfl | rfl <;> rfl))
 have hfz : D.fz h3 (.agg (.ms n2 0 2 :: C7.t.cs)) = C7.e := by
  have hr : (h3 n2).row = some (15, C7.i.map aR.e) := by rw [e2']; rfl
  simp [D.fz, D.fzc, hr, C7, Term.cs, dQ.cs, an, Block.e]
 refine MQ (d := .agg (.ms n2 0 2 :: C7.t.cs)) (d' := C7.e) fb.one rfl fb.ok hfz fb.v' fun n4 h4 f4 e4 k4 => ?_
 have nm2 : ∀ m, m ∈ D.nm (.agg (.ms n2 0 2 :: C7.t.cs)) -> m = n2 := fun m hm => by
  simpa [D.nm, D.jo, C7, Term.cs, dQ.cs, an] using hm
 have e3' : h4 n3 = .arr 4 ([Hp n].map bM.e) := by
  rw [k4 n3 (by rw [e3]; simp) (fun m hm => by rw [nm2 m hm]; exact n32.symm)]; exact e3
 have B := B.re (h0 := aJ) (h' := h4) fun p hp => k4 p.1 (by rw [(B.at_ p hp).1]; simp) fun m hm => by
  rw [nm2 m hm]
  rintro e
  have := (B.at_ p hp).1
  rw [e, e2'] at this; cases this
 rw [cB rfl]
 have n1b := B.get 0 rfl
 refine B.T7 0 (cs' := [.int .i64 4, .int .i64 1, .int .i64 1, .int .i64 0, .int .i64 0, .ms n3 0 1, .nil, .ms n4 0 1]) rfl rfl rfl rfl (by simp) fun B5 => ?_
 have n31 : n3 ≠ n1 := by rintro rfl; rw [e3'] at n1b; cases n1b
 have n41 : n4 ≠ n1 := by rintro rfl; rw [e4] at n1b; cases n1b
 have e35 := aa h4 (.box (.agg [.int .i64 4, .int .i64 1, .int .i64 1, .int .i64 0, .int .i64 0, .ms n3 0 1, .nil, .ms n4 0 1])) n31
 have e45 := aa h4 (.box (.agg [.int .i64 4, .int .i64 1, .int .i64 1, .int .i64 0, .int .i64 0, .ms n3 0 1, .nil, .ms n4 0 1])) n41
 rw [e3'] at e35
 rw [e4] at e45
 generalize ah h4 n1 (.box (.agg [.int .i64 4, .int .i64 1, .int .i64 1, .int .i64 0, .int .i64 0, .ms n3 0 1, .nil, .ms n4 0 1])) = h5 at B5 e35 e45
 rw [B5.dh (s := 8) 0 rfl rfl rfl]
 have fa := db e35 (PV _)
 have fbk := db e45 (fun x hx y hy => by
  simp only [List.mem_singleton] at hx
  subst hx
  have := List.all_eq_true.1 (Block.bZ C7).pair.1 y hy
  exact this)
 exact dW (by simp) (by simp [Code.e]) (.refl _) (Bo.agg (.cons (aK rfl) (.cons (aK rfl) (.cons (aK rfl) (.cons (aK rfl) (.cons (aK rfl) (.cons fa (.cons fu (.cons fbk .nil))))))))) rfl
end Go.Am
namespace Go.Am
open Go Go.Proofs
def K9 : dt := ⟨1, []⟩
def Ef : D := .agg [.int .i64 1, .nil]
theorem FD {n : Int} (h : 1 <= n /\ n <= 8) : bq (kM n) where
 group := by simp [kM]
 sub := by simp [kM]
 regs := by simp [kM]
 slots := rfl
 params := by simp [kM]
 nar := by simp [kM]
 ar := fun a ha => by
  simp [kM] at ha
  subst ha
  exact ⟨by simp [Hp], h⟩
 nb := by simp [kM]
 xs := fun b hb => by
  simp [kM] at hb
  subst hb
  refine ⟨fun x hx => ?_, by simp [C7], .exit⟩
  simp [C7] at hx
  rcases hx with rfl | rfl
  ·exact ⟨.id 1 (fQ 0) (by omega) ⟨0, by omega, by simp [kM], rfl⟩, fun h => by simp at h, fun h => by simp at h⟩
  ·exact ⟨.store 0 (fQ 0) (Const 7) (by omega) ⟨0, by omega, by simp [kM], rfl⟩ (Or.inr ⟨7, by omega, by omega, rfl⟩), fun _ => ⟨0, rfl, by simp [kM]⟩, fun h => by simp at h⟩
theorem Hn {n : Int} : lF (kM n) K9 := ⟨by simp [K9], by simp [K9, kM], fun v hv => by simp [K9] at hv⟩
theorem P3 {xs ys : List D} (h : HY xs ys) : Wk (.sl xs) (.sl ys) := .sl _ _ h.get.1 h.get.2
theorem Ho : Wk Ef K9.e := .NK (.cons (.refl _) (.cons .nil .nil))
def gK : It := ⟨2, 1, 0, 0, [0], [[]]⟩
def zR : Ev := ⟨2, 0, 2, 0, 0, 1, 0, 2, 7⟩
def Pf : sO := ⟨⟨2, 3, 0, 0, [0], [[]]⟩, [[0, 0, 7, 0]], [[]], [zR], 0⟩
def SO : sO := ⟨gK, [[0, 0]], [[]], [], 70⟩
def Pg (g : Mm) : D := .agg (gK.cs ++ [aO g, .sl [.nil], .nil, .int .i64 0])
theorem Ng (g : Mm) : Wk (Pg g) (gq ⟨gK, g, [[]], [], 0⟩) :=
 .NK (.cons (.refl _) (.cons (.refl _) (.cons (.refl _) (.cons (.refl _) (.cons (.refl _) (.cons (.refl _) (.cons (.refl _) (.cons (.refl _) (.cons (P3 (.cons .nil .nil)) (.cons .nil (.cons (.refl _) .nil)))))))))))
theorem IQ {n : Int} : NR (kM n) K9 gK where
 id := by simp [gK, K9, kM]
 at_ := by simp [gK]
 block := by simp [gK, kM]
 len := by simp [gK, kM]
 regs := fun v hv => by simp [gK] at hv; subst hv; exact ⟨by omega, by omega⟩
 priv := ⟨by simp [gK, kM], fun i a w ha hw => by
  have hi : i = 0 := by have := (List.getElem?_eq_some_iff.1 ha).1; simp [kM] at this; exact this
  subst hi
  simp [kM, gK] at ha hw
  subst ha hw
  exact ⟨by simp [BB, Hp], by simp⟩⟩
theorem Gl {n : Int} {s : Nat} {w : List Int} (hl : w.length = BB (Hp n) s) (hI : ∀ v ∈ w, gE v) : gL (kM n).arrays s [w] := ⟨by simp [kM], fun i a v ha hv => by
 have hi : i = 0 := by have := (List.getElem?_eq_some_iff.1 ha).1; simp [kM] at this; exact this
 subst hi
 simp [kM] at ha hv
 subst ha hv
 exact ⟨hl, hI⟩⟩
theorem SK : ∀ v : Int, v = 0 -> gE v := fun v h => by subst h; exact ⟨by omega, by omega⟩
theorem Nc : dV (kM 4) K9 gK [[0, 0, 0, 0]] [[]] 0 = Pf := by kernel_rfl
theorem Nd : dV (kM 2) K9 gK [[0, 0]] [[]] 0 = SO := by kernel_rfl
theorem PR {a b c d a' b' c' d' : D} (h1 : Wk a a') (h2 : Wk b b') (h3 : Wk c c') (h4 : Wk d d') : HY [a, b, c, d] [a', b', c', d'] := .cons h1 (.cons h2 (.cons h3 (.cons h4 .nil)))
theorem Nf : aD PP fM [(kM 4).e, Ef, .int .i64 2] (· = pa (gK, 0)) := by
 have := JD (id := 2) (FD (n := 4) (by omega)) Hn
 have e : fN (kM 4) K9 2 = (gK, 0) := by kernel_rfl
 rw [e] at this
 exact aD.arg (.cons (.refl _) (.cons Ho (.cons (.refl _) .nil))) this
theorem Ri : aD PP fM [(kM 4).e, Ef, .int .i64 4] (· = pa (nN, 1)) := by
 have := JD (id := 4) (FD (n := 4) (by omega)) Hn
 have e : fN (kM 4) K9 4 = (nN, 1) := by kernel_rfl
 rw [e] at this
 exact aD.arg (.cons (.refl _) (.cons Ho (.cons (.refl _) .nil))) this
theorem TI : aD PP fo [(kM 4).e, Ef, Pg [[0, 0, 0, 0]], .int .i64 0] (· = gq Pf) := by
 have := IC (av := 0) (r := ⟨gK, [[0, 0, 0, 0]], [[]], [], 0⟩) (FD (n := 4) (by omega)) Hn IQ (Gl (by simp [BB, Hp]) (by simp; exact SK 0 rfl)) (Gl (by simp [BB, Hp]) (by simp))
 simp only [Nc] at this
 exact aD.arg (PR (.refl _) Ho (Ng _) (.refl _)) this
theorem TH : aD PP fo [(kM 2).e, Ef, Pg [[0, 0]], .int .i64 0] (· = gq SO) := by
 have := IC (av := 0) (r := ⟨gK, [[0, 0]], [[]], [], 0⟩) (FD (n := 2) (by omega)) Hn IQ (Gl (by simp [BB, Hp]) (by simp; exact SK 0 rfl)) (Gl (by simp [BB, Hp]) (by simp))
 simp only [Nd] at this
 exact aD.arg (PR (.refl _) Ho (Ng _) (.refl _)) this
theorem SL : vK (kM 4) K9 Pf.it.g where
 id := by decide
 ep := by decide
 bl := by decide
 rg := by decide
 sl := by decide
 ft := by decide
 a := Or.inr (Or.inr ⟨rfl, rfl, by decide, by decide, by decide⟩)
theorem Nb : aD PP kD [(kM 4).e, Ef, Pf.it.e] (· = .bool true) := by
 have := OD (x := Pf.it.g) (FD (n := 4) (by omega)) Hn ⟨by decide, by decide, by decide⟩
 rw [nQ SL, It.Ul] at this
 exact aD.arg (.cons (.refl _) (.cons Ho (.cons (.refl _) .nil))) this
theorem Na : aD PP cM [gK.e, (Const 9).e] (· = .int .i32 9) := QF (it := gK) (o := Const 9) (fun h => by have : (1 : Int) = 2 := h; omega)
theorem Pe : aD PP iB [(kM 4).e, gK.e, .int .i32 1] (· = pa (gK, 1)) := by
 have := MG (v := 1) (FD (n := 4) (by omega)) (IQ (n := 4))
 have e : jW (kM 4) gK 1 = (gK, 1) := qB (by simp [gK])
 rw [e] at this
 exact aD.arg (.cons (.refl _) (.cons (.refl _) (.cons (.refl _) .nil))) this
theorem SM : Px [[0, 0, 7, 0]] := ⟨by simp, by simp⟩
theorem SN : Px [[0, 0]] := ⟨by simp, by simp⟩
theorem tH {d : D} {n : Nat} : ∀ (ns : List Nat) {h : Heap}, h n = .box d -> h.freezeAll ns n = .box d
 | [], _, hn => hn
 | a :: r, h, hn => by
  simp only [Heap.freezeAll]
  refine tH r ?_
  unfold Heap.freeze
  cases he : h a <;> simp only [] <;> first | exact hn | (rw [aa _ _ (by rintro rfl; rw [hn] at he; cases he)]; exact hn)
theorem Ed {P : Program} {f : FuncId} {h : Heap} {ds ds' : List D} {r : D} {KH : HK} (k : HW h ds ds') (hv : aD P f ds' (· = r)) (hK : ∀ h', (∀ n d, h n = .box d -> h' n = .box d) -> KH r h') : ag P f ds h KH := by
 obtain ⟨k1, k2, k3, -, k4⟩ := k.all
 refine ag.mono ?_ (gl (K := (· = r)) (aD.arg k4 hv) fun d hd => ⟨k1 d hd, k2 d hd, k3 _ (List.mem_map.2 ⟨d, hd, rfl⟩)⟩)
 rintro r' h' ⟨rfl, q2, q3⟩
 by_cases hr : r'.flat = true \/ ds.flatMap D.nm = []
 ·rw [q2 hr]; exact hK h fun n d hn => hn
 ·rw [q3 hr]; exact hK _ fun n d hn => tH _ hn
theorem bJ.bx {h h' : Heap} {ro0 ro : Ro} {L : List (Nat × D)} (B : bJ aJ ro0 h ro L) (hk : ∀ n d, h n = .box d -> h' n = .box d) : bJ aJ ro0 h' ro L :=
 B.re (h0 := aJ) fun p hp => by rw [hk _ _ (B.at_ p hp).1, (B.at_ p hp).1]
theorem qV : v7 Ef := cN (by simp)
theorem T1 (w : List Int) : ∀ x, x ∈ w.map (D.int .i32) -> ∀ y ∈ x.cells, y.vone = true := fun x hx y hy => by
 simp only [List.mem_map] at hx
 obtain ⟨z, -, rfl⟩ := hx
 simp at hy; subst hy; rfl
theorem PU {h : Heap} {KH : D -> HK} {len : Nat} {z : D} {ps : List (Nat × Arg)} {w : List Int} (hlen : len = w.length) (hps : setEls (List.replicate len z) (ps.map fun p => (p.1, p.2.get [])) = w.map (D.int .i32))
  (hp : ∀ p ∈ ps, p.1 < len /\ (p.2.get []).cells.length = 1 /\ aw (p.2.get []) /\ (p.2.get []).vd = true)
  (hK : ∀ nb nc h3, h3 nb = .arr 1 [words w] -> h3 nc = .arr 1 [.nil] -> (∀ n d, h n = .box d -> h3 n = .box d) -> KH (.ms nb 0 1) (.ms nc 0 1) h3) :
  ab PP (.bldS true 1 len z ps) h fun a h1 => ab PP (.bldS true 1 1 .nil [(0, .c a)]) h1 fun b h2 => ab PP (.bldS true 1 1 .nil [(0, .c .nil)]) h2 fun c h3 => KH b c h3 := by
 refine Ea hp fun n6 t6 => ?_
 rw [hps]
 have f6 := t6.free
 have e6 : ah h n6 (.arr 1 (w.map (D.int .i32))) n6 = .arr 1 (w.map (D.int .i32)) := ad _ _ _
 have k6 : ∀ n d, h n = .box d -> ah h n6 (.arr 1 (w.map (D.int .i32))) n = .box d := fun n d hn => by
  rw [aa _ _ (by rintro rfl; rw [hn] at f6; cases f6)]; exact hn
 generalize ah h n6 (.arr 1 (w.map (D.int .i32))) = h1 at e6 k6
 have fi := db e6 (T1 w)
 rw [List.length_map] at fi
 subst hlen
 have hr : (h1 n6).row = some (1, w.map (D.int .i32)) := by rw [e6]; rfl
 refine MQ (d' := words w) fi.d.one rfl fi.d.ok (by simp only [D.fz, D.fzc, hr, List.drop_zero]; rw [List.take_of_length_le (by simp)]; rfl) rfl fun nb h2 fb eb kb => ?_
 refine Ea (fun p hp => ?_) fun nc tc => ?_
 ·simp only [List.mem_singleton] at hp
  subst hp
  exact ⟨by simp, rfl, by simp, rfl⟩
 have fc := tc.free
 refine hK nb nc _ ?_ (ad _ _ _) fun n d hn => ?_
 ·rw [aa _ _ (by rintro rfl; rw [eb] at fc; cases fc)]; exact eb
 ·have h1n := k6 n d hn
  have h2n : h2 n = .box d := by
   rw [kb n (by rw [h1n]; simp) (fun m hm => by
    simp [D.nm, D.jo] at hm
    subst hm
    rintro rfl
    rw [e6] at h1n; cases h1n)]; exact h1n
  rw [aa _ _ (by rintro rfl; rw [h2n] at fc; cases fc)]; exact h2n
theorem Gn {P : Program} {h : Heap} {K : D -> Prop} {fz : Bool} {esz len : Nat} {z : D} {ps : List (Nat × Arg)} (hp : ∀ p ∈ ps, p.1 < len /\ (p.2.get []).cells.length = esz /\ aw (p.2.get [])) (hv : ∀ p ∈ ps, ∀ y, y ∈ (p.2.get []).cells -> y.vone = true) (hz : ∀ y ∈ z.cells, y.vone = true)
  (hk : K (.sl (setEls (List.replicate len z) (ps.map fun p => (p.1, p.2.get []))))) : au P (.bldS fz esz len z ps) h K := by
 refine ⟨fun p hpm => ?_, fun p hpm => ?_, hz, hk⟩
 ·simp only [List.mem_map] at hpm
  obtain ⟨q, hq, rfl⟩ := hpm
  exact hp q hq
 ·simp only [List.mem_map] at hpm
  obtain ⟨q, hq, rfl⟩ := hpm
  exact hv q hq
theorem JM {h : Heap} {nb nc : Nat} {w : List Int} (hb : h nb = .arr 1 [words w]) (hc : h nc = .arr 1 [.nil]) : NY h (.agg (gK.cs ++ [.ms nb 0 1, .ms nc 0 1, .nil, .int .i64 0])) (Pg [w]) := by
 have f1 := db hb (fun x hx y hy => by simp at hx; subst hx; simp [words] at hy; subst hy; rfl)
 have f2 := db hc (fun x hx y hy => by simp at hx; subst hx; simp at hy; subst hy; rfl)
 exact Bo.agg (.cons (aK rfl) (.cons (aK rfl) (.cons (aK rfl) (.cons (aK rfl) (.cons (aK rfl) (.cons (aK rfl) (.cons (aK rfl) (.cons f1 (.cons f2 (.cons (aK rfl) (.cons (aK rfl) .nil)))))))))))
theorem Hy : aD PP iY [] (· = .bool true) := by
 refine bc ES (aA _ _ _) rfl (EB _) ?_
 (unfold A7; try dsimp only [xL, yL, xF, yF, xI, yI, xS, zI, zJ])
 refine ba (JL (n := 4)) ⟨bb, trivial⟩ ?_
 refine ba (JL (n := 2)) ⟨bb, trivial⟩ ?_
 rw [cB rfl]
 refine bJ.start.alloc fun n1 h1 ro1 B => ?_
 refine B.alloc fun n2 h2 ro2 B => ?_
 refine B.alloc fun n3 h3 ro3 B => ?_
 refine B.NU 2 (d' := (kM 4).e) rfl rfl rfl rfl rfl (ju _).2 fun h4 B => ?_
 refine B.NU 1 (d' := (kM 2).e) rfl rfl rfl rfl rfl (ju _).2 fun h5 B => ?_
 refine B.RT 0 (cs' := [.int .i64 1, .nil]) rfl rfl rfl rfl (by simp) fun h6 B => ?_
 have B : bJ aJ qC h6 ro3 [(n3, Ef), (n2, (kM 2).e), (n1, (kM 4).e)] := B
 rw [B.dh (s := 8) 2 rfl rfl rfl, B.dh (s := 2) 0 rfl rfl rfl]
 refine ba Nf ⟨Code.bZ _, qV, bb, trivial⟩ ?_
 refine B.alloc fun n4 h7 ro7 B => ?_
 refine B.NU 0 (d' := pa (gK, 0)) rfl rfl rfl rfl rfl (lU _) fun h8 B => ?_
 rw [B.dh (s := 8) 3 rfl rfl rfl, B.dh (s := 2) 1 rfl rfl rfl]
 refine ba Ri ⟨Code.bZ _, qV, bb, trivial⟩ ?_
 refine B.alloc fun n5 h9 ro9 B => ?_
 refine B.NU 0 (d' := pa (nN, 1)) rfl rfl rfl rfl rfl (lU _) fun h10 B => ?_
 have B : bJ aJ qC h10 ro9 [(n5, pa (nN, 1)), (n4, pa (gK, 0)), (n3, Ef), (n2, (kM 2).e), (n1, (kM 4).e)] := B
 simp only [↓bf (B.used 1 rfl), ↓bf (B.used 0 rfl), Nat.zero_add, Nat.add_zero, B.cP (e := .int .i64 0) 1 (j := 7) rfl rfl rfl, B.cP (e := .int .i64 1) 0 (j := 7) rfl rfl rfl, B.cP (e := .int .i64 1) 1 (j := 1) rfl rfl rfl, B.cP (e := words [0]) 1 (j := 4) rfl rfl rfl,
  ↓cH, decide_true, Bool.not_true, ↓Fi, ↓gf, ↓nO, List.length_singleton, show (((1 : Nat) : Int) = 1) = True from eq_true rfl, ↓ae]
 rw [B.dh (s := 8) 4 rfl rfl rfl, B.dh (s := 2) 2 rfl rfl rfl]
 simp only [↓bf (B.used 1 rfl), Nat.zero_add, B.ite 1 rfl]
 refine PU (w := [0, 0, 0, 0]) rfl rfl (fun p hp => ?_) fun nb nc h11 eb ec kb => ?_
 ·simp only [List.mem_cons, List.not_mem_nil, or_false] at hp
  rcases hp with rfl | rfl | rfl | rfl <;> exact ⟨by simp, rfl, by simp, rfl⟩
 have B := B.bx kb
 rw [cB rfl]
 refine Ed (.cons (iE (Code.bZ _)) (.cons (iE qV) (.cons (JM eb ec) (.cons (aK rfl).d .nil)))) TI fun h12 kb => ?_
 have B := B.bx kb
 refine B.alloc fun n6 h13 ro13 B => ?_
 refine B.NU 0 (d' := gq Pf) rfl rfl rfl rfl rfl (sG Pf) fun h14 B => ?_
 have B : bJ aJ qC h14 ro13 [(n6, gq Pf), (n5, pa (nN, 1)), (n4, pa (gK, 0)), (n3, Ef), (n2, (kM 2).e), (n1, (kM 4).e)] := B
 rw [B.dh (s := 8) 4 rfl rfl rfl, B.dh (s := 2) 3 rfl rfl rfl]
 simp only [↓bf (B.used 2 rfl), Nat.zero_add, B.ite 2 rfl]
 refine PU (w := [0, 0]) rfl rfl (fun p hp => ?_) fun nb nc h15 eb ec kb => ?_
 ·simp only [List.mem_cons, List.not_mem_nil, or_false] at hp
  rcases hp with rfl | rfl <;> exact ⟨by simp, rfl, by simp, rfl⟩
 have B := B.bx kb
 rw [cB rfl]
 refine Ed (.cons (iE (Code.bZ _)) (.cons (iE qV) (.cons (JM eb ec) (.cons (aK rfl).d .nil)))) TH fun h16 kb => ?_
 have B := B.bx kb
 refine B.alloc fun n7 h17 ro17 B => ?_
 refine B.NU 0 (d' := gq SO) rfl rfl rfl rfl rfl (sG SO) fun h18 B => ?_
 have B : bJ aJ qC h18 ro17 [(n7, gq SO), (n6, gq Pf), (n5, pa (nN, 1)), (n4, pa (gK, 0)), (n3, Ef), (n2, (kM 2).e), (n1, (kM 4).e)] := B
 simp only [↓bf (B.used 1 rfl), ↓bf (B.used 0 rfl), Nat.zero_add, Nat.add_zero, B.cP (e := .int .i64 0) 1 (j := 10) rfl rfl rfl, B.cP (e := .int .i64 70) 0 (j := 10) rfl rfl rfl, B.cP (e := .sl [zR.e]) 1 (j := 9) rfl rfl rfl, ↓cH, decide_true, Bool.not_true, ↓Fi, ↓gf]
 rw [cB rfl]
 refine Ea (fun p hp => ?_) fun n8 t8 => ?_
 ·simp only [List.mem_singleton] at hp
  subst hp
  exact ⟨by simp, rfl, (Ev.bZ zR).one, (Ev.bZ zR).pair.1⟩
 have f8 := t8.free
 have e8 : ah h18 n8 (.arr 9 ([zR].map Ev.e)) n8 = .arr 9 ([zR].map Ev.e) := ad _ _ _
 have B := B.bx (h' := ah h18 n8 (.arr 9 ([zR].map Ev.e))) fun n d hn => by rw [aa _ _ (by rintro rfl; rw [hn] at f8; cases f8)]; exact hn
 show ag PP ff [.sl [zR.e], .ms n8 0 1] (ah h18 n8 (.arr 9 ([zR].map Ev.e))) _
 generalize ah h18 n8 (.arr 9 ([zR].map Ev.e)) = h19 at B e8
 have fe := db e8 (fun x hx y hy => by
  simp only [List.map_cons, List.map_nil, List.mem_singleton] at hx
  subst hx
  exact List.all_eq_true.1 (Ev.bZ zR).pair.1 y hy)
 refine Ed (ds' := [.sl ([zR].map Ev.e), .sl ([zR].map Ev.e)]) (.cons (aK rfl).d (.cons fe.d .nil)) (LG (by simp)) fun h20 kb => ?_
 have B := B.bx kb
 simp only [↓Fi, ↓DZ, ↓gf, ↓bf (B.used 0 rfl), ↓bf (B.used 1 rfl), Nat.zero_add, Nat.add_zero, B.cP (e := .sl []) 0 (j := 9) rfl rfl rfl, B.cP (e := .int .i64 3) 1 (j := 1) rfl rfl rfl, ↓kO, List.length_nil, show (((0 : Nat) : Int)) = 0 from rfl, ↓cH, decide_true, Bool.not_true, ↓ae]
 simp only [↓aH, B.used 1 rfl, Nat.zero_add, true_and, ↓bO, B.cP (e := aO [[0, 0, 7, 0]]) 1 (j := 7) rfl rfl rfl]
 refine Gn (fun p hp => ?_) (fun p hp => ?_) (by simp) ?_
 ·simp only [List.mem_cons, List.not_mem_nil, or_false] at hp
  rcases hp with rfl | rfl | rfl | rfl <;> exact ⟨by simp, rfl, by simp⟩
 ·simp only [List.mem_cons, List.not_mem_nil, or_false] at hp
  rcases hp with rfl | rfl | rfl | rfl <;> (intro y hy; simp at hy; subst hy; rfl)
 refine Gn (fun p hp => ?_) (fun p hp => ?_) (by simp) ?_
 ·simp only [List.mem_singleton] at hp
  subst hp
  exact ⟨by simp, rfl, by simp⟩
 ·simp only [List.mem_singleton] at hp
  subst hp
  intro y hy; simp at hy; subst hy; rfl
 refine ir (GP SM) ⟨eR, eR, trivial⟩ ?_
 simp only [↓Eb, ↓aH, B.used 0 rfl, Nat.zero_add, true_and, ↓bO, B.cP (e := aO [[0, 0]]) 0 (j := 7) rfl rfl rfl]
 refine Gn (fun p hp => ?_) (fun p hp => ?_) (by simp) ?_
 ·simp only [List.mem_cons, List.not_mem_nil, or_false] at hp
  rcases hp with rfl | rfl <;> exact ⟨by simp, rfl, by simp⟩
 ·simp only [List.mem_cons, List.not_mem_nil, or_false] at hp
  rcases hp with rfl | rfl <;> (intro y hy; simp at hy; subst hy; rfl)
 try simp only [↓Eb]
 refine Gn (fun p hp => ?_) (fun p hp => ?_) (by simp) ?_
 ·simp only [List.mem_singleton] at hp
  subst hp
  exact ⟨by simp, rfl, by simp⟩
 ·simp only [List.mem_singleton] at hp
  subst hp
  intro y hy; simp at hy; subst hy; rfl
 try simp only [↓Eb]
 refine ir (GP SN) ⟨eR, eR, trivial⟩ ?_
 simp only [↓Eb, ↓mN, ↓dY, ↓aH, B.used 1 rfl, Nat.zero_add, true_and, ↓bO, B.dh (s := 8) 6 rfl rfl rfl, B.dh (s := 2) 4 rfl rfl rfl, B.TY 1 rfl]
 refine ir Nb ⟨Code.bZ _, qV, It.bZ _, trivial⟩ ?_
 simp only [↓Eb, ↓mN, ↓dY, ↓aH, B.used 3 rfl, Nat.zero_add, true_and, ↓bO, B.ite 3 rfl]
 refine ir Nw ⟨bb, trivial⟩ ?_
 try simp only [↓Eb]
 refine ir Na ⟨It.bZ _, dQ.bZ _, trivial⟩ ?_
 simp only [↓Eb, ↓aM, decide_true, ↓mN, ↓dY, ↓aH, B.used 3 rfl, Nat.zero_add, true_and, ↓bO, B.dh (s := 8) 6 rfl rfl rfl, B.ite 3 rfl]
 refine ir Pe ⟨Code.bZ _, It.bZ _, bb, trivial⟩ ?_
 have hfl : ∀ {K : D -> Prop}, au PP (.fld (.c (pa (gK, 1))) 7 1 false) h20 K = K (.int .i64 1) := fun {K} => by
  rw [Nm]
  have := MM (P := PP) (h := h20) (cs := gK.cs ++ [.int .i64 1]) (o := 7) (s := 1) (g := false) (KH := fun x _ => K x)
  rw [show (pa (gK, 1)) = .agg (gK.cs ++ [.int .i64 1]) from rfl, this, bk]
  rfl
 simp only [↓Eb, hfl, ↓aM, decide_true, ↓mN, ↓dY]
 exact bH.mpr rfl
theorem IE {c : Code} {l : dt} {it : It} (hc : bq c) (h : NR c l it) : Ta it := ⟨by have := h.len; have := hc.regs; omega, h.priv.b hc⟩
theorem Jt (bs : List Nat) : v7 (jJ bs) := cN (by simp [wg])
theorem Kk (g : Int) (zs : List Int) (id st : Int) : v7 (cX g zs id st) := cN (by
 intro x hx
 simp at hx
 rcases hx with rfl | ⟨z, -, rfl⟩ | rfl | rfl <;> rfl)
end Go.Am
namespace Go.Am
open Go Go.Proofs
set_option maxRecDepth 100000
theorem Tj : Try.prog.underlying 22 = some (.slice 5) := by kernel_rfl
theorem TU : Try.prog.underlying 5 = some (.int .u8) := by kernel_rfl
theorem Ti : Try.prog.underlying 25 = some (.int .i8) := by kernel_rfl
theorem Th : Try.prog.underlying 26 = some (.array 8 25) := by kernel_rfl
theorem Tg : Try.prog.underlying 27 = some (.array 4 25) := by kernel_rfl
theorem t24 : structL Try.prog 24 = some [(22, 0)] := by kernel_rfl
theorem t31 : structL Try.prog 31 = some [(29, 0), (5, 13), (5, 14)] := by kernel_rfl
theorem t29 : structL Try.prog 29 = some [(5, 0), (26, 1), (27, 9)] := by kernel_rfl
theorem T5 : Try.prog.cellsOf 24 = 1 := by kernel_rfl
theorem z22 : Try.prog.cellsOf 22 = 1 := by kernel_rfl
theorem T2 : Try.prog.cellsOf 31 = 15 := by kernel_rfl
theorem T3 : Try.prog.cellsOf 29 = 13 := by kernel_rfl
theorem z5 : Try.prog.cellsOf 5 = 1 := by kernel_rfl
theorem TS : Try.prog.cellsOf 26 = 8 := by kernel_rfl
theorem TR : Try.prog.cellsOf 27 = 4 := by kernel_rfl
theorem T4 : Try.prog.cellsOf 25 = 1 := by kernel_rfl
theorem z3 : Try.prog.cellsOf 3 = 1 := by kernel_rfl
theorem PF : IntKind.u8.min = 0 := rfl
theorem RP : IntKind.u8.max = 255 := rfl
theorem Qz {m : Nat} {ds : List D} (h : HasTy Try.prog (m + 3) 24 ds) : ∃ bs : List Nat, mkElem Try.prog 24 ds = jJ bs /\ (∀ b ∈ bs, b <= 255) /\ bs.length <= 9223372036854775807 := by
 obtain ⟨k1, k2⟩ := ou t24 h
 rw [T5] at k1
 have q := k2 (22, 0) (by simp)
 simp only [z22, List.drop_zero] at q
 match ds, k1 with
 | [d], _ =>
  obtain ⟨xs, h1, h2, h3⟩ := IJ Tj TU q
  simp at h1
  subst h1
  refine ⟨xs.map Int.toNat, ?_, fun b hb => ?_, by unfold maxLen at h2; simp; omega⟩
  ·rw [Fw t24, jJ, wg, List.map_map]
   congr 3
   refine List.map_congr_left fun x hx => ?_
   have := h3 x hx
   rw [PF] at this
   show D.int .u8 x = D.int .u8 ((x.toNat : Nat) : Int)
   rw [Int.toNat_of_nonneg this.1]
  ·simp only [List.mem_map] at hb
   obtain ⟨x, hx, rfl⟩ := hb
   have := h3 x hx
   rw [PF, RP] at this
   omega
theorem JS {m n : Nat} {t : TypeId} {ds : List D} (hu : Try.prog.underlying t = some (.array n 25)) (hn : Try.prog.cellsOf t = n) (h : HasTy Try.prog (m + 2) t ds) : ∃ zs : List Int, ds = zs.map (.int .i8) /\ zs.length = n := by
 obtain ⟨k1, k2⟩ := He hu h
 rw [hn] at k1
 simp only [T4, Nat.mul_one] at k2
 have : ∀ d ∈ ds, ∃ z, d = D.int .i8 z := fun d hd => by
  obtain ⟨i, hi⟩ := List.getElem?_of_mem hd
  have hlt := (List.getElem?_eq_some_iff.1 hi).1
  obtain ⟨z, hz, -, -⟩ := sI Ti (k2 i (by omega))
  rw [List.drop_eq_getElem_cons hlt, List.take_succ_cons, List.take_zero] at hz
  rw [List.getElem?_eq_getElem hlt] at hi
  cases hi
  exact ⟨z, by simpa using hz⟩
 clear k2 h hu hn
 subst k1
 induction ds with
 | nil => exact ⟨[], rfl, rfl⟩
 | cons d r ih =>
  obtain ⟨z, rfl⟩ := this d (by simp)
  obtain ⟨zs, h1, h2⟩ := ih fun x hx => this x (by simp [hx])
  exact ⟨z :: zs, by rw [List.map_cons, <- h1], by simp [h2]⟩
theorem Lq {m : Nat} {ds : List D} (h : HasTy Try.prog (m + 1) 5 ds) : ∃ g : Int, ds = [.int .u8 g] /\ 0 <= g /\ g <= 255 := by
 obtain ⟨g, h1, h2, h3⟩ := sI TU h
 exact ⟨g, h1, h2, h3⟩
theorem Mf {m : Nat} {ds : List D} (h : HasTy Try.prog (m + 4) 31 ds) : ∃ (g : Int) (zs : List Int) (id st : Int), mkElem Try.prog 31 ds = cX g zs id st /\ Gx g zs id st := by
 obtain ⟨k1, k2⟩ := ou t31 h
 rw [T2] at k1
 have q0 := k2 (29, 0) (by simp)
 have q1 := k2 (5, 13) (by simp)
 have q2 := k2 (5, 14) (by simp)
 simp only [T3, z5, List.drop_zero] at q0 q1 q2
 obtain ⟨-, e⟩ := ou t29 q0
 have e0 := e (5, 0) (by simp)
 have e1 := e (26, 1) (by simp)
 have e2 := e (27, 9) (by simp)
 simp only [z5, TS, TR, List.drop_zero] at e0 e1 e2
 obtain ⟨g, hg, g1, g2⟩ := Lq e0
 obtain ⟨id, hid, id1, id2⟩ := Lq q1
 obtain ⟨st, hst, RG, st2⟩ := Lq q2
 obtain ⟨z1, hz1, l1⟩ := JS Th TS e1
 obtain ⟨z2, hz2, l2⟩ := JS Tg TR e2
 refine ⟨g, z1 ++ z2, id, st, ?_, ⟨⟨g1, g2⟩, by simp [l1, l2], ⟨id1, id2⟩, ⟨RG, st2⟩⟩⟩
 rw [Fw t31, cX]
 congr 1
 match ds, k1 with
 | [d0, d1, d2, d3, d4, d5, d6, d7, d8, d9, d10, d11, d12, d13, d14], _ =>
  simp at hg hid hst hz1 hz2
  simp [<- hz1, <- hz2, hg, hid, hst]
end Go.Am
namespace Go.Am
open Go
theorem MK {P : Program} {f : FuncId} {h h'' : Heap} {ds ds' : List D} {r : D} {KH : HK} (i : FM h h'') (k : HW h'' ds ds') (hv : aD P f ds' (· = r)) (hfl : r.flat = true) (hK : KH r h'') : ag P f ds h KH := by
 obtain ⟨k1, k2, k3, -, k4⟩ := k.all
 refine KZ i (ag.mono ?_ (gl (K := (· = r)) (aD.arg k4 hv) fun d hd => ⟨k1 d hd, k2 d hd, k3 _ (List.mem_map.2 ⟨d, hd, rfl⟩)⟩))
 rintro r' h' ⟨rfl, q2, -⟩
 rw [q2 (Or.inl hfl)]; exact hK
theorem QU {h : Heap} {ro : Ro} {dR dP dL : D} {w : List Int} {m : Mm} (R : oM h ro dR w) (P : p8 h ro 3 dP m) (S : HU h ro dL) : ∃ h'', FM h h'' /\ yl h'' dR (words w) /\ yl h'' dP (aO m) /\ yl h'' dL (.sl []) /\ ∀ k, ro k = .no -> h'' k = h k := by
 obtain ⟨k, els, rfl, y⟩ := P
 obtain ⟨p1, p2, p3⟩ := y.II
 have far : ∀ j, (ro j = .regs \/ ro j = .sl \/ ro j = .no) -> dB h k 1 els j = h j := fun j hj => p3 j (fun i e => by rw [e] at hj; simp at hj) (by rintro rfl; rw [y.rk] at hj; simp at hj)
 refine ⟨dB h k 1 els, .step y.hk p1 (.refl _), ?_, ?_, ?_, fun j hj => far j (Or.inr (Or.inr hj))⟩
 ·obtain ⟨q, rfl, g1, g2⟩ := R
  have := db (h := dB h k 1 els) (n := q) (e := 1) (els := wr w) (by rw [far q (Or.inl g2)]; exact g1) (JY _)
  rw [mC] at this
  exact this
 ·have := db (h := dB h k 1 els) (n := k) (e := 1) (els := m.map words) (by rw [jb, p2]) (Su m)
  rw [List.length_map] at this
  exact this
 ·rcases S with rfl | rfl | ⟨q, rfl, g1, g2⟩
  ·exact fu
  ·exact aK rfl
  ·exact db (els := []) (by rw [far q (Or.inr (Or.inl g2))]; exact g1) (by simp)
theorem Ly {c : Code} {l : dt} {it : It} {g s : Mm} {av : Int} (h : (dV c l it g s av).e ≠ 0) : ∃ n, dV c l it g s av = ⟨it, g, s, [], n⟩ := by
 unfold dV at h ⊢
 split
 ·exact ⟨1, rfl⟩
 ·rename_i ha
  rw [if_neg ha] at h
  cases e : runP c l it.id av it.block (Gf c it.block) 0 (EZ it g s) with
  | none => exact ⟨70, rfl⟩
  | some st => rw [e] at h; exact absurd rfl h
theorem Oc {c : Code} {l : dt} {it : It} {g s : Mm} {av : Int} (h : it.at_ = 2) : (dV c l it g s av).e = 1 := by
 unfold dV; rw [if_pos (by omega)]
theorem IB {bs : List Nat} {g : Int} {zs : List Int} {id st v : Int} (hb : ∀ b ∈ bs, b <= 255) (hbl : bs.length <= 9223372036854775807) (hp : Gx g zs id st) (hvI : gE v) :
  aD PP lb [jJ bs, cX g zs id st, .int .i32 v] (· = .bool true) := by
 refine bc qe (aA _ _ _) rfl (p0 _ _ _ _) ?_
 (unfold lz; try dsimp only [xL, yL, xF, yF, xI, yI, xS, zI, zJ])
 have hz := hp.z
 refine bJ.start.box (Jt bs).one fun n1 h1 ro1 B => ?_
 refine B.box (DU g zs id st) fun n2 h2 ro2 B => ?_
 refine ba Hy trivial ?_
 simp only [↓DZ, ↓ae]
 rw [B.dh (s := 1) 1 rfl rfl rfl, B.dh (s := 15) 0 rfl rfl (by simp [cX, hz])]
 refine bE (MF hb hbl hp) (fun d hd => by simp at hd; rcases hd with rfl | rfl; exact (Jt bs).pair; exact (Kk g zs id st).pair) ?_
 rintro _ ⟨c, l, s, hc, hl, V, rfl⟩
 refine B.alloc fun n3 h3 ro3 B => ?_
 refine B.NU 0 (d' := F1 c l s) rfl rfl rfl rfl rfl (Jz c l s) fun h4 B => ?_
 have B : bJ aJ qC h4 ro3 [(n3, F1 c l s), (n2, cX g zs id st), (n1, jJ bs)] := B
 simp only [↓bf (B.used 0 rfl), Nat.zero_add, B.TW 0 rfl, B.T9 0 rfl, B.T8 0 rfl]
 refine ba (IC hc hl V.it.toNR V.g V.s) ⟨Code.bZ c, dt.bZ l, sO.bZ s, bb, trivial⟩ ?_
 obtain ⟨V2, hev⟩ := H8 (av := 0) hc hl V.it V.g V.s
 have herr := @Ly c l s.it s.g s.s 0
 have h2e := @Oc c l s.it s.g s.s 0
 obtain ⟨q, hq⟩ : ∃ q, q = dV c l s.it s.g s.s 0 := ⟨_, rfl⟩
 rw [<- hq] at V2 hev herr h2e ⊢
 refine B.alloc fun n4 h5 ro5 B => ?_
 refine B.NU 0 (d' := gq q) rfl rfl rfl rfl rfl (sG q) fun h6 B => ?_
 have B : bJ aJ qC h6 ro5 [(n4, gq q), (n3, F1 c l s), (n2, cX g zs id st), (n1, jJ bs)] := B
 simp only [↓bf (B.used 0 rfl), Nat.zero_add, B.cP 0 (j := 10) rfl rfl rfl, ↓cH]
 have two : q.e = 0 \/ (q.e ≠ 0 /\ q.it = s.it /\ q.g = s.g /\ q.s = s.s /\ q.ev = []) := by
  by_cases he : q.e = 0
  ·exact Or.inl he
  ·obtain ⟨n, hn⟩ := herr he
   exact Or.inr ⟨he, by rw [hn], by rw [hn], by rw [hn], by rw [hn]⟩
 rcases two with he | ⟨he, hqi, hqg, hqs, hqv⟩
 case' inl => simp only [he, decide_true, Bool.not_true, ↓RI, ↓Dn, ↓gf, ↓ae]
 case' inr =>
  simp only [he, decide_false, Bool.not_false, ↓GD, ↓bf (B.used 0 rfl), ↓bf (B.used 1 rfl), Nat.zero_add, Nat.add_zero, B.TY 0 rfl, B.S7 1 rfl, hqi]
  refine ba (Ie (IE hc V.it.toNR)) ⟨It.bZ _, It.bZ _, trivial⟩ ?_
  simp only [↓GD, ↓DZ, ↓Fi, ↓bf (B.used 0 rfl), ↓bf (B.used 1 rfl), Nat.zero_add, Nat.reduceAdd, B.cP 0 (j := 7) rfl rfl rfl, B.cP 1 (j := 17) rfl rfl rfl, hqg]
  refine ba (GP (V.g.b hc)) ⟨eR, eR, trivial⟩ ?_
  simp only [↓GD, ↓DZ, ↓Fi, ↓gf, ↓bf (B.used 0 rfl), ↓bf (B.used 1 rfl), Nat.zero_add, Nat.reduceAdd, B.cP 0 (j := 8) rfl rfl rfl, B.cP 1 (j := 18) rfl rfl rfl, hqs]
  refine ba (GP (V.s.b hc)) ⟨eR, eR, trivial⟩ ?_
  simp only [↓GD, ↓DZ, ↓Fi, ↓gf, ↓bf (B.used 0 rfl), Nat.zero_add, B.cP 0 (j := 9) rfl rfl rfl, hqv, List.map_nil, ↓kO, List.length_nil, ↓oX, show (((0 : Nat) : Int)) = 0 from rfl, Int.lt_irrefl, decide_false, ↓dY, ↓ae]
 all_goals
  clear herr
  have hat2 := h2e
  simp only [↓bf (B.used 1 rfl), Nat.zero_add, Nat.add_zero, B.TW 1 rfl, B.S7 1 rfl]
  refine ba (MG (v := v) hc V.it.toNR) ⟨Code.bZ c, It.bZ _, bb, trivial⟩ ?_
  have bp : Ta (jW c s.it v).1 := IE hc (Is hc V.it hvI).toNR
  have pno := @qB c s.it v
  have pyes := @kL c s.it v
  obtain ⟨p, hp2⟩ : ∃ p, p = jW c s.it v := ⟨_, rfl⟩
  rw [<- hp2] at bp pno pyes ⊢
  refine B.alloc fun n5 h7 ro7 B => ?_
  refine B.NU 0 (d' := pa p) rfl rfl rfl rfl rfl (lU p) fun h8 B => ?_
  have B : bJ aJ qC h8 ro7 [(n5, pa p), (n4, gq q), (n3, F1 c l s), (n2, cX g zs id st), (n1, jJ bs)] := B
  simp only [↓bf (B.used 2 rfl), Nat.zero_add, Nat.add_zero, Nat.reduceAdd, B.cP 2 (j := 11) rfl rfl rfl, ↓cH]
  by_cases ha : s.it.at_ = 2
  case neg =>
   have hp3 := pno ha
   subst hp3
   simp only [ha, decide_false, Bool.not_false, ↓af, ↓bf (B.used 0 rfl), ↓bf (B.used 2 rfl), Nat.zero_add, Nat.add_zero, B.cP 0 (j := 7) rfl rfl rfl, ↓aM, decide_true, ↓GD, B.ite 0 rfl, B.S7 2 rfl]
   refine ba (Ie (IE hc V.it.toNR)) ⟨It.bZ _, It.bZ _, trivial⟩ ?_
   simp only [↓GD, ↓dY]
   exact bH.mpr rfl
  have hp3 := pyes ha
  have hq1 := hat2 ha
  obtain ⟨k, Q, hbk, hQ, hQm, ht, -⟩ := hc.Nz V.it.block
  obtain ⟨-, -, hT⟩ := hc.xs Q hQm
  rw [ht] at hp3
  have hatb : ∀ {g' : Heap} {K : HK}, ab PP (.iadd (.c (.sl (c.b.map Block.e))) (.c (.int .i64 s.it.block)) 14) g' K = K (.vp Q.e 0) g' := fun {g' K} => by rw [hbk, rh hQ]
  simp only [ha, decide_true, Bool.not_true, ↓ae, ↓bf (B.used 2 rfl), Nat.zero_add, Nat.add_zero, Nat.reduceAdd, B.cP 2 (j := 7) rfl rfl rfl, B.cP 2 (j := 12) rfl rfl rfl, hatb, ↓jk, ↓HC]
  refine B.alloc fun n6 h9 ro9 B => ?_
  refine B.NU 0 (d' := Q.t.e) rfl rfl rfl rfl rfl (Term.bZ _).one fun h10 B => ?_
  have B : bJ aJ qC h10 ro9 [(n6, Q.t.e), (n5, pa p), (n4, gq q), (n3, F1 c l s), (n2, cX g zs id st), (n1, jJ bs)] := B
  simp only [↓bf (B.used 3 rfl), Nat.zero_add, Nat.add_zero, B.S7 3 rfl]
  have hrl := V.it.len
  have hcr := hc.regs
  refine DR (ro := ro9) (it := s.it) (by omega) (V.it.priv.b hc) fun dR dP dL h11 ro11 x11 R11 P11 L11 => ?_
  have B := B.step x11.fr
  have oR := R11.one
  have oP := P11.one
  have oL := L11.one
  refine B.I7 fun n7 h12 ro12 kp B => ?_
  have R12 := R11.aB kp
  have P12 := P11.aB kp
  have L12 := L11.aB kp
  refine B.Kf 0 (cs' := oq s.it dR dP dL) rfl rfl rfl (by simp [oR, oP, oL]) fun h13 kp B => ?_
  have R13 := R12.aB kp
  have P13 := P12.aB kp
  have L13 := L12.aB kp
  simp only [↓bf (B.used 0 rfl), Nat.zero_add]
  refine B.Ia 0 (j := 1) rfl (by simp) rfl fun h14 kp B => ?_
  have R14 := R13.aB kp
  have P14 := P13.aB kp
  have L14 := L13.aB kp
  simp only [↓bf (B.used 0 rfl), ↓bf (B.used 1 rfl), Nat.zero_add, B.SB 1 (j := 11) (a := 0) rfl ⟨by omega, by omega⟩, Int.toNat_zero, Nat.add_zero, B.cP 1 (j := 11) rfl rfl rfl]
  refine B.Ia 0 (j := 2) rfl (by simp) rfl fun h15 kp B => ?_
  have R15 := R14.aB kp
  have P15 := P14.aB kp
  have L15 := L14.aB kp
  have B : bJ aJ qC h15 ro12 [(n7, .agg [.int .i64 s.it.id, .int .i64 1, .int .i64 Q.t.to0, .int .i64 s.it.epoch, dR, dP, dL]), (n6, Q.t.e), (n5, pa p), (n4, gq q), (n3, F1 c l s), (n2, cX g zs id st), (n1, jJ bs)] := B
  refine ⟨fun _ h' => ∃ (ro' : Ro) (w : List Int), bJ aJ qC h' ro' [(n7, .agg [.int .i64 s.it.id, .int .i64 1, .int .i64 Q.t.to0, .int .i64 s.it.epoch, dR, dP, dL]), (n6, Q.t.e), (n5, pa p), (n4, gq q), (n3, F1 c l s), (n2, cX g zs id st), (n1, jJ bs)] /\
   oM h' ro' dR w /\ p8 h' ro' 3 dP s.it.priv /\ HU h' ro' dL /\ p = (⟨s.it.id, 1, Q.t.to0, s.it.epoch, w, s.it.priv⟩, 0), ?_, ?_⟩
  ·rintro _ h' ⟨ro', w, B, R, P, S, hpw⟩
   simp only [↓bf (B.used 2 rfl), Nat.zero_add, B.cP 2 (j := 7) rfl rfl rfl, ↓aM, show (p.2 = 0) = True from eq_true (by rw [hpw]), decide_true, ↓GD, B.ite 2 rfl, B.dh (s := 7) 0 rfl rfl rfl]
   obtain ⟨h'', i1, i2, i3, i4, far⟩ := QU R P S
   have B2 := B.re (h0 := aJ) (h' := h'') fun x hx => far x.1 (B.at_ x hx).2.1
   refine MK (ds' := [p.1.e, p.1.e]) i1 (.cons (iE (It.bZ _)) (.cons ?_ .nil)) (Ie bp) rfl ?_
   ·rw [hpw]
    exact Bo.agg (.cons (aK rfl) (.cons (aK rfl) (.cons (aK rfl) (.cons (aK rfl) (.cons i2 (.cons i3 (.cons i4 .nil)))))))
   simp only [↓GD, ↓dY, ↓bf (B2.used 3 rfl), Nat.zero_add, B2.cP 3 (j := 10) rfl rfl rfl, hq1, ↓aM, decide_true]
   exact bH.mpr rfl
  simp only [↓bf (B.used 1 rfl), Nat.zero_add, B.cP 1 (j := 0) rfl rfl rfl, ↓aM]
  by_cases h4 : Q.t.kind = 4
  case neg =>
   simp only [h4, decide_false, ↓ae, ai, true_and]
   rw [if_neg h4] at hp3
   exact ⟨ro12, s.it.regs, B, R15, P15.r, L15, hp3⟩
  obtain ⟨r, hr1, hr2⟩ := hT.dst h4
  simp only [h4, decide_true, ↓af, ↓bf (B.used 0 rfl), ↓bf (B.used 1 rfl), Nat.zero_add, Nat.reduceAdd, B.cP 0 (j := 4) rfl rfl rfl, B.cP 1 (j := 3) rfl rfl rfl, hr1]
  obtain ⟨qq, rfl, hq2, rq⟩ := R15
  refine Ig (w := s.it.regs) hq2 (by omega) ?_
  have kq : jC (fun r => r ≠ .regs) h15 ro12 (ah h15 qq (.arr 1 (wr (s.it.regs.set r v)))) ro12 := fun k _ hr => by
   rw [aa _ _ (by rintro rfl; exact hr rq)]; exact ⟨rfl, rfl⟩
  rw [if_pos h4, hr1, Int.toNat_natCast] at hp3
  refine ⟨ai.symm ▸ trivial, ro12, s.it.regs.set r v, B.step (Fr.av (by rw [rq]; simp) (by simp)), ⟨qq, by simp, ad _ _ _, rq⟩, (P15.cV kq (by simp) (by simp)).r, ?_, hp3⟩
  rcases L15 with rfl | rfl | ⟨pp, rfl, g1, g2⟩
  ·exact Or.inl rfl
  ·exact Or.inr (Or.inl rfl)
  ·exact Or.inr (Or.inr ⟨pp, rfl, by rw [aa _ _ (by rintro rfl; rw [rq] at g2; cases g2)]; exact g1, g2⟩)
end Go.Am
namespace Go.Am
open Go Go.Proofs
set_option maxRecDepth 100000
theorem RQ : Try.prog.underlying 21 = some (.int .i32) := by kernel_rfl
theorem QY : IntKind.i32.min = -2147483648 := rfl
theorem QZ : IntKind.i32.max = 2147483647 := rfl
theorem Sx (xs : List D) (h : EJ Try.prog 12 Try.f8.params.toList xs) : aD Try.prog 8 xs (· = .bool true) := by
 have hp : Try.f8.params.toList = [24, 31, 21] := by kernel_rfl
 rw [hp] at h
 obtain ⟨c1, r1, rfl, h1, c2, r2, rfl, h2, c3, r3, rfl, h3, rfl⟩ := h
 obtain ⟨bs, e1, b1, b2⟩ := Qz h1
 obtain ⟨g, zs, id, st, e2, P⟩ := Mf h2
 obtain ⟨v, rfl, v1, v2⟩ := sI RQ h3
 rw [QY] at v1
 rw [QZ] at v2
 show aD Try.prog 8 [mkElem Try.prog 24 c1, mkElem Try.prog 31 c2, mkElem Try.prog 21 [.int .i32 v]] _
 rw [e1, e2, Mv RQ]
 exact IB b1 b2 P ⟨v1, v2⟩
end Go.Am
