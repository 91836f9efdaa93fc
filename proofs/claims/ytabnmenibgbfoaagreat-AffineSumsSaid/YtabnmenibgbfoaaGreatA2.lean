/- The abstract machine: what the operations of the program do, on plain data. No condition. -/
import Derived.RangeFuncNested
import Derived.Test.YtabnmenibgbfoaaGreatA1
set_option linter.unnecessarySimpa false
set_option linter.defProp false
set_option linter.unusedSectionVars false
set_option linter.unusedSimpArgs false
set_option linter.unusedVariables false
/- The abstract machine: loops over functions. No condition. -/
namespace Go.Am
open Go

variable [GTab]

variable {P : Program} {nt : Nat}

/-- A block more, of which we know nothing. -/
theorem grow_step {c : Ctx} (hr : HeapRel c) (o : Obj) : c.le ⟨c.ρ, c.X, c.h, c.hp.push o⟩ ∧ HeapRel ⟨c.ρ, c.X, c.h, c.hp.push o⟩ := by
  have get : ∀ g, g < c.hp.size → (c.hp.push o)[g]? = c.hp[g]? := fun g hg => by rw [Array.getElem?_push, if_neg (by omega)]
  have hle : c.le ⟨c.ρ, c.X, c.h, c.hp.push o⟩ :=
    ⟨by simp, rfl, fun g hg _ => get g hg, fun g cur ty fr hg => ⟨cur, (get g (Array.getElem?_eq_some_iff.1 hg).1).trans hg, rfl⟩, fun g r hg => ⟨r, (get g (Array.getElem?_eq_some_iff.1 hg).1).trans hg, rfl⟩,
      fun _ _ => rfl, fun _ => Trans.refl _, fun n g hm hρ _ => ⟨n, hm, hρ⟩⟩
  exact ⟨hle, fun n => slot_mono hle (hr.slot n) (fun _ _ => rfl) (fun g hm hρ => get g (mine_lt hr hm hρ)), hr.inj, hr.apart, fun g hX => by have := hr.xlt g hX; simp; omega, hr.fin, hr.glob.mono hle, by rw [hle.X]; exact Nat.le_trans hr.lo hle.size⟩

/-- A name is given up. -/
theorem kill_step {c : Ctx} (hr : HeapRel c) {n : Nat} (hn : Trans (c.h n) .dead) (hf : c.h n ≠ .free) : c.le ⟨c.ρ, c.X, upd c.h n .dead, c.hp⟩ ∧ HeapRel ⟨c.ρ, c.X, upd c.h n .dead, c.hp⟩ := by
  have sub : ∀ k, (upd c.h n .dead k).mine → (c.h k).mine := by
    intro k hk
    by_cases h : k = n
    · subst h; simp [upd, Slot.mine] at hk
    · simpa [upd, h] using hk
  have hle : c.le ⟨c.ρ, c.X, upd c.h n .dead, c.hp⟩ := by
    refine ⟨Nat.le_refl _, rfl, fun _ _ _ => rfl, fun _ cur _ _ h => ⟨cur, h, rfl⟩, fun _ r h => ⟨r, h, rfl⟩, fun _ _ => rfl, fun k => ?_, fun k g hm hρ _ => ⟨k, sub k hm, hρ⟩⟩
    by_cases h : k = n
    · subst h; simp only [upd_self]; exact hn
    · simp only [upd_other _ _ h]; exact Trans.refl _
  refine ⟨hle, fun k => ?_, fun k1 k2 g m1 m2 r1 r2 => hr.inj k1 k2 g (sub k1 m1) (sub k2 m2) r1 r2, fun k g hm hρ => hr.apart k g (sub k hm) hρ, hr.xlt, ?_, hr.glob.mono hle, hr.lo⟩
  · by_cases h : k = n
    · subst h; simp only [upd_self]; trivial
    · simp only [upd_other _ _ h]
      exact slot_mono hle (hr.slot k) (fun _ _ => rfl) (fun _ _ _ => rfl)
  · obtain ⟨N, hN⟩ := hr.fin
    refine ⟨N + n + 1, fun k hk => ?_⟩
    simp only [upd_other _ _ (show k ≠ n by omega)]
    exact hN k (by omega)

/-- What a loop's record is. -/
def recOf (st : LSt) (B : LoopB) (tmps : Array Value) (dfs : Nat) : Loop :=
  { state := st.st, pending := st.pend, fn := B.fn, tmps := tmps, params := B.ps.toArray, assign := B.assign, body := B.body, defers := dfs }

/-- A loop's record is turned. -/
theorem lp_write {c : Ctx} {w : World} (hp : c.hp = w.heap) (hr : HeapRel c) {n g : Nat} {st : LSt} {B : LoopB} (hn : c.h n = .lp st B) (hρ : c.ρ n = some g) {tmps : Array Value} {dfs : Nat} (hg : w.heap[g]? = some (.loop (recOf st B tmps dfs)))
    (hsz : tmps.size = B.nt) (hrel : ∀ i, RelD c (B.env i) (tmps.getD i Go.undef)) (st' : LSt) :
    c.le ⟨c.ρ, c.X, upd c.h n (.lp st' B), (w.putObj g (.loop (recOf st' B tmps dfs))).heap⟩ ∧ HeapRel ⟨c.ρ, c.X, upd c.h n (.lp st' B), (w.putObj g (.loop (recOf st' B tmps dfs))).heap⟩ := by
  have hlt := (Array.getElem?_eq_some_iff.1 hg).1
  have hst : StepG c ⟨c.ρ, c.X, upd c.h n (.lp st' B), (w.putObj g (.loop (recOf st' B tmps dfs))).heap⟩ n n g := by
    refine ⟨rfl, fun k h1 _ => by simp [upd, h1], fun _ _ => rfl, Or.inl rfl, fun h => absurd rfl h, by simp [upd, Slot.mine], hρ, by simp only [upd_self]; rw [hn]; exact .lpLp _ _ _, fun _ => hρ,
      by simp [World.putObj_size, hp], fun k _ h2 => by rw [hp]; exact World.putObj_heap_other h2, fun cur ty fr h => (by rw [hp, hg] at h; cases h), fun r h => ?_, Or.inr ⟨by rw [hn]; trivial, hρ⟩⟩
    rw [hp, hg] at h
    cases h
    exact ⟨_, World.putObj_heap_same hlt, rfl⟩
  refine ⟨hst.le, hst.heap hr ?_⟩
  simp only [upd_self]
  exact ⟨g, tmps, dfs, hρ, World.putObj_heap_same hlt, hsz, fun i => (hrel i).mono hst.le⟩

theorem upd_upd {α : Type} (f : Nat → α) (n : Nat) (x y : α) : upd (upd f n x) n y = upd f n y := by
  funext k
  by_cases h : k = n <;> simp [upd, h]

theorem lp_slot {c : Ctx} {w : World} (hp : c.hp = w.heap) (hr : HeapRel c) {n g : Nat} {st : LSt} {B : LoopB} (hn : c.h n = .lp st B) (hρ : c.ρ n = some g) :
    ∃ (tmps : Array Value) (dfs : Nat), w.heap[g]? = some (.loop (recOf st B tmps dfs)) ∧ tmps.size = B.nt ∧ ∀ i, RelD c (B.env i) (tmps.getD i Go.undef) := by
  have hs := hr.slot n
  rw [hn] at hs
  obtain ⟨g', tmps, dfs, h1, h2, h3, h4⟩ := hs
  rw [hρ] at h1
  cases h1
  exact ⟨tmps, dfs, by rw [← hp]; exact h2, h3, h4⟩

theorem lp_stays {c c' : Ctx} (hle : c.le c') {n g : Nat} {st : LSt} {B : LoopB} (hn : c.h n = .lp st B) (hρ : c.ρ n = some g) {st' : LSt} {B' : LoopB} (hn' : c'.h n = .lp st' B') : B' = B ∧ c'.ρ n = some g := by
  have ht := hle.tr n
  rw [hn, hn'] at ht
  refine ⟨by cases ht; rfl, (hle.names n (by rw [hn]; simp)).trans hρ⟩

theorem resolve_fn {a : Act} {g : Operand} {f : FuncId} {cs : Array Value} (hg : a.eval g = .func (.func f) #[] cs) (l : Nat) (w : World) :
    (resolve a.eval (rangeCall g l) 0).run P w = .ok { target := .fn (.func f) cs, args := #[.func (.yield l) #[] #[]] } w := by
  simp only [resolve, hg]
  simp [go_sem]

theorem rel_cons {c : Ctx} {d : D} {ds : List D} {v : Value} {vs : Array Value} (h : RelD c d v) (hs : ∀ (i : Nat) (x : D), ds[i]? = some x → RelD c x (vs.getD i Go.undef)) :
    ∀ (i : Nat) (x : D), (d :: ds)[i]? = some x → RelD c x ((#[v] ++ vs).getD i Go.undef) := by
  intro i x hx
  cases i with
  | zero =>
    simp at hx; subst hx
    have e : (#[v] ++ vs).getD 0 Go.undef = v := by rw [← toList_getD]; simp
    rw [e]; exact h
  | succ i =>
    simp at hx
    have := hs i x hx
    have e : (#[v] ++ vs).getD (i + 1) Go.undef = vs.getD i Go.undef := by
      rw [← toList_getD, ← toList_getD]
      simp
    rw [e]
    exact this

theorem get_map (l : List Nat) (f : Nat → D) (i : Nat) : LEnv.get (l.map fun k => (k, f k)) i = .undef ∨ LEnv.get (l.map fun k => (k, f k)) i = f i := by
  induction l with
  | nil => exact Or.inl rfl
  | cons k r ih =>
    simp only [List.map_cons, LEnv.get]
    split
    · rename_i h; subst h; exact Or.inr rfl
    · exact ih

/-- A LOOP OVER A FUNCTION. -/
theorem awp_range {g : Operand} {g' : Arg} {ps : Array Nat} {keep exs : List Nat} {assign body : Code} {a' b' : ACode} (hg : cArg g = some g') (hnd : ps.toList.Nodup) (hlt : ∀ p, p ∈ ps.toList → p < nt)
    (iha : ∀ (Q : LPost) (e : LEnv) (h : Heap), vcC P a' Q e h → awp P nt assign (fun x => up (Q x)) e.get h)
    (ihb : ∀ (Q : LPost) (e : LEnv) (h : Heap), vcC P b' Q e h → awp P nt body (fun x => up (Q x)) e.get h)
    {Q : LPost} {e : LEnv} {h : Heap} (hv : vcC P (.range g' ps.toList keep exs a' b') Q e h) : awp P nt (.rangeFunc g ps assign body) (fun x => up (Q x)) e.get h := by
  intro r c w a hh hp hr hs0 ho
  simp only [vcC] at hv
  have rx := cArg_rel hg hs0
  obtain ⟨ke, hke⟩ : ∃ ke : LEnv, ke = keep.map fun k => (k, e.get k) := ⟨_, rfl⟩
  rw [← hke] at hv
  have hs : Sim c nt ke.get a := by
    refine ⟨hs0.glob, hs0.lo, hs0.defers, hs0.size, fun i => ?_⟩
    rw [hke]
    rcases get_map keep e.get i with h | h
    · rw [h]; exact .undef _
    · rw [h]; exact hs0.rel i
  generalize g'.get e = dx at hv rx
  cases dx <;> try exact hv.elim
  rename_i f fs cs
  obtain ⟨rfl, hcal, hv⟩ := hv
  generalize hge : a.eval g = vg at rx
  cases rx with
  | fn _ _ _ va vb hsa hsb hra hrb =>
  have hva : va = #[] := Array.eq_empty_of_size_eq_zero (by simpa using hsa)
  subst hva
  -- from the record on
  have core : ∀ (fn : FuncId) (c0 : Ctx) (W0 : World) (dfs : Nat) (mark : List Deferred), c.le c0 → c0.h = h → c0.hp = W0.heap → HeapRel c0 → WS w W0 → Sim c0 nt ke.get { a with defers := mark ++ a.defers } →
      CallsIn (rF r) 0 P f (#[.func (.yield W0.heap.size) #[] #[]] ++ vb) (W0.alloc (.loop { state := .ready, pending := none, fn, tmps := a.tmps, params := ps, assign, body, defers := dfs }))
        (rangePost (rF r) 0 P W0.heap.size (FinX c w nt fun x => up (Q x)) { a with defers := mark ++ a.defers }) := by
    intro fn c0 W0 dfs mark hle0 hh0 hp0 hr0 hws0 hs0
    obtain ⟨ρ0, X0, h0, hp0'⟩ := c0
    have hX0 : X0 = c.X := hle0.X
    subst hX0
    obtain ⟨c0, hc0⟩ : ∃ c0 : Ctx, c0 = ⟨ρ0, c.X, h0, hp0'⟩ := ⟨_, rfl⟩
    rw [← hc0] at hle0 hh0 hp0 hr0 hs0
    have hX : c0.X = c.X := hle0.X
    obtain ⟨n, top⟩ := exists_top hr0
    let B : LoopB := ⟨fn, nt, ke.get, ps.toList, assign, body⟩
    have hrec : (.loop { state := .ready, pending := none, fn, tmps := a.tmps, params := ps, assign, body, defers := dfs } : Obj) = .loop (recOf .ready B a.tmps dfs) := by
      simp [recOf, B, LSt.st, LSt.pend]
    rw [hrec]
    have hst := StepG.new (c := c0) (n := n) top.free (s := .lp .ready B) trivial (.loop (recOf .ready B a.tmps dfs)) (hp' := (W0.alloc (.loop (recOf .ready B a.tmps dfs))).heap) (by rw [hp0]; rfl)
    have hps0 : c0.hp.size = W0.heap.size := by rw [hp0]
    have hr1 := hst.heap hr0 (by
      simp only [upd_self]
      refine ⟨W0.heap.size, a.tmps, dfs, by simp [upd, hps0], ?_, hs0.size, fun i => (hs0.rel i).mono hst.le⟩
      show (W0.heap.push _)[W0.heap.size]? = _
      exact push_get _ _)
    have hcall := hv n B (hh0 ▸ top) rfl rfl hnd (fun p hp => hlt p hp) iha ihb
    have hc := hcall ⟨upd c0.ρ n (some c0.hp.size), c0.X, upd c0.h n (.lp .ready B), (W0.alloc (.loop (recOf .ready B a.tmps dfs))).heap⟩ (W0.alloc (.loop (recOf .ready B a.tmps dfs))) (#[.func (.yield W0.heap.size) #[] #[]] ++ vb)
      (by rw [hh0]) rfl hr1 (by simp [hsb]; omega)
      (rel_cons (.yld n W0.heap.size .ready B (by simp [upd]) (by simp [upd, hps0])) (fun i d hd => ((hrb i d hd).mono hle0).mono hst.le))
    refine (show CallsIn (rF r) 0 P f _ _ _ from callsIn_wide.2 hc).mono ?_
    rintro e' w3 ⟨v, rr, ρ2, h2, rfl, le2, hr2, ws2, _, hend⟩
    have hn1 : (⟨upd c0.ρ n (some c0.hp.size), c0.X, upd c0.h n (.lp .ready B), (W0.alloc (.loop (recOf .ready B a.tmps dfs))).heap⟩ : Ctx).h n = .lp .ready B := by simp [upd]
    have hρ1 : (⟨upd c0.ρ n (some c0.hp.size), c0.X, upd c0.h n (.lp .ready B), (W0.alloc (.loop (recOf .ready B a.tmps dfs))).heap⟩ : Ctx).ρ n = some W0.heap.size := by simp [upd, hps0]
    have go : ∀ (st : LSt), h2 n = .lp st B → st.st ≠ .busy → (∀ (w4 : World), (Instr.endLoop W0.heap.size).run P w3 = .ok st.pend w4 → ∀ (x : Ex), Q x ke (upd h2 n .dead) → Fin c w nt (up (Q x)) { a with defers := mark ++ a.defers } w4) ∧
        ∃ w4, (Instr.endLoop W0.heap.size).run P w3 = .ok st.pend w4 := by
      intro st hn2 hnb
      obtain ⟨_, hρ2⟩ := lp_stays le2 hn1 hρ1 hn2
      obtain ⟨tmps2, dfs2, q1, q2, q3⟩ := lp_slot (c := ⟨ρ2, c0.X, h2, w3.heap⟩) (w := w3) rfl hr2 hn2 hρ2
      have hrun := run_endLoop (P := P) q1 hnb
      have hover : (.loop { recOf st B tmps2 dfs2 with state := .exhausted } : Obj) = .loop (recOf (.over st.pend) B tmps2 dfs2) := rfl
      rw [hover] at hrun
      refine ⟨?_, _, hrun⟩
      intro w4 hrun4 x hq
      have hw4 : w4 = w3.putObj W0.heap.size (.loop (recOf (.over st.pend) B tmps2 dfs2)) := by
        have hcc := hrun4.symm.trans hrun
        have := (by simpa using hcc : _ ∧ _)
        exact this.2
      subst hw4
      obtain ⟨le3, hr3⟩ := lp_write (c := ⟨ρ2, c0.X, h2, w3.heap⟩) rfl hr2 hn2 hρ2 q1 q2 q3 (.over st.pend)
      obtain ⟨le4, hr4⟩ := kill_step hr3 (n := n) (by simp only [upd_self]; exact .lpDead _ _) (by simp [upd])
      simp only [upd_upd] at le4 hr4
      have lec := (((hle0.trans hst.le).trans le2).trans le3).trans le4
      unfold Fin; rw [← hX]
      exact ⟨ρ2, ke.get, upd h2 n .dead, lec, hr4, hws0.trans (show WS W0 (w3.putObj _ _) from ⟨ws2.os, ws2.tape, ws2.output⟩), hs0.mono (((hst.le).trans le2).trans (le3.trans le4)), ke, rfl, hq⟩
    unfold rangeEnd at hend
    cases hl2 : h2 n <;> simp only [hl2] at hend <;> try exact hend.elim
    rename_i st B2
    obtain ⟨rfl, _⟩ := lp_stays le2 hn1 hρ1 (show (⟨ρ2, c0.X, h2, w3.heap⟩ : Ctx).h n = _ from hl2)
    cases st with
    | ready =>
      obtain ⟨g1, w4, g2⟩ := go .ready hl2 (by simp [LSt.st])
      exact ⟨none, w4, g2, g1 w4 g2 .normal hend⟩
    | done x =>
      obtain ⟨g1, w4, g2⟩ := go (.done x) hl2 (by simp [LSt.st])
      cases x with
      | normal => exact hend.elim
      | exit id => exact ⟨some (.exit id), w4, g2, wpIn_exit (g1 w4 g2 (.exit id) (rangeExits_inv hend))⟩
      | ret => exact ⟨some .ret, w4, g2, wpIn_ret (g1 w4 g2 .ret (rangeRets_inv hend))⟩
    | busy => exact hend.elim
    | over p => exact hend.elim
  refine wpIn_rangeFunc fun fn _ => ?_
  cases r with
  | none =>
    obtain ⟨le0, hr0⟩ := grow_step hr (.deferred (some []))
    have hnew : ¬ c.own w.heap.size := by
      rintro (hX | ⟨n, hm, hρ⟩)
      · have := hr.xlt _ hX; rw [hp] at this; omega
      · have := mine_lt hr hm hρ; rw [hp] at this; omega
    have hget : (c.hp.push (.deferred (some [])))[w.heap.size]? = some (.deferred (some [])) := by rw [← hp]; exact push_get _ _
    have hs0 : Sim ⟨c.ρ, c.X, c.h, c.hp.push (.deferred (some []))⟩ nt ke.get { a with defers := [{ target := .collected w.heap.size, args := #[] }] ++ a.defers } := by
      have hm := hs.mono le0
      refine ⟨hm.glob, hm.lo, ⟨fun d hd => ?_, ?_⟩, hm.size, hm.rel⟩
      · simp only [List.singleton_append, List.mem_cons] at hd
        rcases hd with rfl | hd
        · exact ⟨w.heap.size, rfl, by have := hs.lo; rw [hp] at this; exact this, hget, hnew⟩
        · exact hm.defers.all d hd
      · simp only [List.singleton_append, List.pairwise_cons]
        refine ⟨fun d hd => ?_, hm.defers.nd⟩
        obtain ⟨k, rfl, _, h1, _⟩ := hs.defers.all d hd
        have := (Array.getElem?_eq_some_iff.1 h1).1
        rw [hp] at this
        intro heq
        simp at heq
        omega
    refine ⟨_, _, _, _, _, f, #[.func (.yield (w.heap.size + 1)) #[] #[]] ++ vb, (w.alloc (.deferred (some []))).alloc (.loop { state := .ready, pending := none, fn, tmps := a.tmps, params := ps, assign, body, defers := w.heap.size }), run_enterLoop_outer _ _ _ _ _, resolve_fn hge _ _, fun _ _ => trivial, ?_, fun h => by (cases h), ?_⟩
    rotate_left
    · have := core fn ⟨c.ρ, c.X, c.h, c.hp.push (.deferred (some []))⟩ (w.alloc (.deferred (some []))) w.heap.size [{ target := .collected w.heap.size, args := #[] }] le0 hh (by rw [hp]; rfl) hr0 ⟨rfl, rfl, rfl⟩ hs0
      rw [World.size_alloc] at this
      exact this
    simp only [World.size_alloc]
    simp [invoke, go_sem, run_callFunc hcal]
  | some l0 =>
    obtain ⟨rc, hrc⟩ := ho l0 rfl
    rw [hp] at hrc
    refine ⟨_, _, _, _, _, f, _, _, run_enterLoop_inner hrc _ _ _ _ _, resolve_fn hge _ _, fun _ _ => trivial, ?_, fun h => by (cases h), core fn c w rc.defers [] (Ctx.le.refl c) hh hp hr (WS.refl w) hs⟩
    simp [invoke, go_sem, run_callFunc hcal]

end Go.Am
/- The abstract machine, part 19: code in the short form; functions. No condition. -/
namespace Go.Am
open Go

variable [GTab]

variable {P : Program} {nt : Nat}

def cOper (P : Program) (fz : Bool) (nt : Nat) (ops : Array Oper) (o : Oper) : Option AOper :=
  if o.dst.all (· < nt) then
    match cOp P fz o with
    | some op => match o.guard with
      | none => some ⟨o.dst, op, none⟩
      | some (j, want) => match (ops[j]?).bind (·.dst) with
        | some s => some ⟨o.dst, op, some (s, want)⟩
        | none => none
    | none => none
  else none

theorem aop_mono {o : Oper} {K K' : Env → Heap → Prop} (hk : ∀ t h, K t h → K' t h) {t : Env} {h : Heap} (hx : aop P nt o K t h) : aop P nt o K' t h :=
  fun hnd r c w a Q hh hp hr hs => Oper.wpIn_mono (fun _ _ hf => Fin.mono hk hf) (hx hnd r c w a Q hh hp hr hs)

theorem aops_mono {ops : Array Oper} {l : List Nat} {K K' : Env → Heap → Prop} (hk : ∀ t h, K t h → K' t h) {t : Env} {h : Heap} (hx : aops P nt ops l K t h) : aops P nt ops l K' t h :=
  fun r c w a Q hh hp hr hs hq => hx r c w a Q hh hp hr hs (fun a' w' hf => hq a' w' (Fin.mono hk hf))

theorem cOp_nodefer {fz : Bool} {o : Oper} {op : AOp} (h : cOp P fz o = some op) : ∀ c, o.op ≠ .defer c := by
  unfold cOp at h
  split at h
  · rename_i op' h0
    intro c hc
    simp [cOp0, hc] at h0
  · exact (deadOp_spec h).2

theorem cOper_sound {fz : Bool} {ops : Array Oper} {i : Nat} {rest : List Nat} {o : Oper} {ao : AOper} (ho : ops[i]? = some o) (hc : cOper P fz nt ops o = some ao) {K : LEnv → Heap → Prop} {K2 : LEnv → Heap → Prop} {e : LEnv} {h : Heap}
    (hrest : ∀ e' h', K e' h' → aops P nt ops rest (up K2) e'.get h') (hv : vcOper P ao K e h) : aops P nt ops (i :: rest) (up K2) e.get h := by
  unfold cOper at hc
  split at hc
  case isFalse => cases hc
  rename_i hdst
  have hd : ∀ j, o.dst = some j → j < nt := by
    intro j hj
    rw [hj] at hdst
    simpa using hdst
  cases hop : cOp P fz o with
  | none => simp [hop] at hc
  | some op =>
    have hs := cOp_sound (nt := nt) hop hd
    have main : vcOp P op (fun d h' => K (e.put o.dst d) h') e h → aop P nt o (aops P nt ops rest (up K2)) e.get h := by
      intro hvc
      refine aop_mono ?_ (hs _ e h hvc)
      rintro t' h' ⟨d, rfl, hk⟩
      exact hrest _ _ hk
    simp only [hop] at hc
    cases hg : o.guard with
    | none =>
      simp [hg] at hc
      subst hc
      refine aops_cons ho (cOp_nodefer hop) none (by simp [hg]) (fun _ => rfl) hd ?_
      exact main hv
    | some p =>
      obtain ⟨j, want⟩ := p
      simp only [hg] at hc
      cases hj : (ops[j]?).bind (·.dst) with
      | none => simp [hj] at hc
      | some s =>
        simp [hj] at hc
        subst hc
        refine aops_cons ho (cOp_nodefer hop) (some (s, want)) (by
          intro j' want' hgg
          rw [hg] at hgg
          cases hgg
          exact ⟨s, hj, rfl⟩) (by simp [hg]) hd ?_
        simp only [vcOper, vguard] at hv
        cases hb : gv (e.get s) <;> simp only [hb] at hv <;> try exact hv.elim
        rename_i b
        refine ⟨b, hb, fun hbw => main (hv.1 hbw), fun hbw => ?_⟩
        have := hrest _ _ (hv.2 hbw)
        rw [LEnv.get_put] at this
        exact this

theorem cReg_sound {fz : Bool} {ops : Array Oper} : ∀ (l : List AOper) (i : Nat), (ops.toList.drop i).mapM (cOper P fz nt ops) = some l → ∀ {K : LEnv → Heap → Prop} {e : LEnv} {h : Heap}, vcOps P l K e h →
    aops P nt ops (List.range' i (ops.size - i)) (up K) e.get h := by
  intro l
  induction l with
  | nil =>
    intro i hm K e h hv
    have h0 : ops.toList.drop i = [] := by
      cases hd : ops.toList.drop i with
      | nil => rfl
      | cons x r =>
        rw [hd, List.mapM_cons] at hm
        cases h1 : cOper P fz nt ops x with
        | none => simp [h1] at hm
        | some y => cases h2 : r.mapM (cOper P fz nt ops) <;> simp [h1, h2] at hm
    have : ops.size - i = 0 := by simpa using congrArg List.length h0
    rw [this]
    exact aops_nil ⟨e, rfl, hv⟩
  | cons ao l ih =>
    intro i hm K e h hv
    cases hd : ops.toList.drop i with
    | nil => rw [hd] at hm; simp at hm
    | cons x r =>
      rw [hd, List.mapM_cons] at hm
      cases h1 : cOper P fz nt ops x with
      | none => simp [h1] at hm
      | some y =>
        cases h2 : r.mapM (cOper P fz nt ops) with
        | none => simp [h1, h2] at hm
        | some s =>
          simp [h1, h2] at hm
          obtain ⟨rfl, rfl⟩ := hm
          have hlt : i < ops.size := by
            rcases Nat.lt_or_ge i ops.size with h | h
            · exact h
            · rw [List.drop_eq_nil_of_le (by simpa using h)] at hd; cases hd
          have hcons : ops.toList.drop i = ops[i] :: ops.toList.drop (i + 1) := by
            rw [List.drop_eq_getElem_cons (by simpa using hlt)]; simp
          rw [hcons] at hd
          simp at hd
          obtain ⟨rfl, rfl⟩ := hd
          have hr : List.range' i (ops.size - i) = i :: List.range' (i + 1) (ops.size - (i + 1)) := by
            rw [show ops.size - i = (ops.size - (i + 1)) + 1 by omega, List.range'_succ]
          rw [hr]
          refine cOper_sound (by simp [hlt]) h1 (K := vcOps P s K) (fun e' h' hk => ih (i + 1) h2 hk) hv

/-- Code without regions that draw. -/
def cCode (P : Program) (fz : Bool) (nt : Nat) (loops : Nat → Option (List Nat × List Nat)) (dr : Nat → Array Oper → Option ACode) : Code → Option ACode
  | .skip => some .skip
  | .seq a b => match cCode P fz nt loops dr a, cCode P fz nt loops dr b with
    | some a', some b' => match loops (1000001 + firstReg b) with
      | some (keep, vars) => some (.seqj keep vars a' b')
      | none => some (.seq a' b')
    | _, _ => none
  | .cond c a b => match cArg c, cCode P fz nt loops dr a, cCode P fz nt loops dr b with
    | some c, some a, some b => some (.cond c a b)
    | _, _, _ => none
  | .block id a => (cCode P fz nt loops dr a).map (.block id)
  | .loop a => match cCode P fz nt loops dr a, loops (firstReg a) with
    | some a, some (keep, vars) => some (.loop keep vars a)
    | _, _ => none
  | .exit id => some (.exit id)
  | .ret => some .ret
  | .region _ ops false => (ops.toList.mapM (cOper P fz nt ops)).map .reg
  | .region id ops true => (dr id ops).map fun p => match loops (6000001 + id) with
    | some _ => .frz p
    | none => p
  | .rangeFunc g ps assign body => match cArg g, cCode P fz nt loops dr assign, cCode P fz nt loops dr body with
    | some g', some a', some b' => match loops (4000001 + firstReg body) with
      | some (keep, exs) => if ps.toList.Nodup ∧ (ps.toList.all fun p => decide (p < nt)) = true then some (.range g' ps.toList keep exs a' b') else none
      | none => none
    | _, _, _ => none
  | _ => none
where firstReg : Code → Nat
  | .region id _ _ => id
  | .seq a b => if firstReg a = 1000000 then firstReg b else firstReg a
  | .cond _ a b => if firstReg a = 1000000 then firstReg b else firstReg a
  | .block _ a => firstReg a
  | .loop a => firstReg a
  | _ => 1000000

/-- What is known of the drawn regions: a parameter here. -/
def DrOk (P : Program) (nt : Nat) (dr : Nat → Array Oper → Option ACode) : Prop :=
  ∀ id ops ac, dr id ops = some ac → ∀ (Q : LPost) (e : LEnv) (h : Heap), vcC P ac Q e h → awp P nt (.region id ops true) (fun x => up (Q x)) e.get h

theorem up_then {K : LEnv → Heap → Prop} {Q : LPost} {K' : Env → Heap → Prop} (hk : ∀ e h, K e h → K' e.get h) : ∀ x t h, up (LPost.then K Q x) t h → Post.then K' (fun x => up (Q x)) x t h := by
  rintro x t h ⟨e, rfl, hx⟩
  cases x with
  | normal => exact hk e h hx
  | exit id => exact ⟨e, rfl, hx⟩
  | ret => exact ⟨e, rfl, hx⟩

theorem awp_weaken {x : Code} {Q : Post} {t t' : Env} {h : Heap} (ht : ∀ i, t' i = .undef ∨ t' i = t i) (hx : awp P nt x Q t' h) : awp P nt x Q t h := by
  intro r c w a hh hp hr hs ho
  refine hx r c w a hh hp hr ⟨hs.glob, hs.lo, hs.defers, hs.size, fun i => ?_⟩ ho
  rcases ht i with h | h
  · rw [h]; exact .undef _
  · rw [h]; exact hs.rel i

theorem get_map_append (vars : List Nat) (f : Nat → D) (e : LEnv) (i : Nat) (he : e.get i = .undef ∨ e.get i = f i) : LEnv.get (vars.map (fun v => (v, f v)) ++ e) i = .undef ∨ LEnv.get (vars.map (fun v => (v, f v)) ++ e) i = f i := by
  induction vars with
  | nil => exact he
  | cons k r ih =>
    simp only [List.map_cons, List.cons_append, LEnv.get]
    split
    · rename_i h; subst h; exact Or.inr rfl
    · exact ih

theorem keep_eq {keep : List Nat} {e e' : LEnv} (hkeep : keep.map (LEnv.get e') = keep.map e.get) : (keep.map fun k => (k, e.get k)) = keep.map fun k => (k, e'.get k) := by
  have hk : ∀ k, k ∈ keep → e'.get k = e.get k := by
    intro k hk
    obtain ⟨j, hj⟩ := List.getElem?_of_mem hk
    have := congrArg (fun l => l[j]?) hkeep
    simpa [hj] using this
  apply List.map_congr_left
  intro k hk'
  rw [hk k hk']

theorem awp_frz {x : Code} {Q : Post} {t : Env} {h : Heap} (ns : List Nat) (hx : awp P nt x Q t (h.freezeAll ns)) : awp P nt x Q t h := by
  intro r c w a hh hp hr hs ho
  subst hh
  obtain ⟨hle, hr'⟩ := freezeAll_step hr ns
  refine wpIn_mono (hx r ⟨c.ρ, c.X, c.h.freezeAll ns, c.hp⟩ w a rfl hp hr' (hs.mono hle) (ho.mono hle)) fun x a' w' hf => ?_
  exact FinX.from hle (WS.refl w) _ _ _ hf

theorem cCode_sound {fz : Bool} {loops : Nat → Option (List Nat × List Nat)} {dr : Nat → Array Oper → Option ACode} (hdr : DrOk P nt dr) : ∀ (code : Code) (ac : ACode), cCode P fz nt loops dr code = some ac →
    ∀ (Q : LPost) (e : LEnv) (h : Heap), vcC P ac Q e h → awp P nt code (fun x => up (Q x)) e.get h := by
  intro code
  induction code with
  | skip => intro ac hc Q e h hv; simp [cCode] at hc; subst hc; exact awp_skip ⟨e, rfl, hv⟩
  | exit id => intro ac hc Q e h hv; simp [cCode] at hc; subst hc; exact awp_exit ⟨e, rfl, hv⟩
  | ret => intro ac hc Q e h hv; simp [cCode] at hc; subst hc; exact awp_ret ⟨e, rfl, hv⟩
  | seq a b iha ihb =>
    intro ac hc Q e h hv
    simp only [cCode] at hc
    split at hc
    · rename_i a' b' ha hb
      split at hc
      · rename_i keep vars _
        simp at hc; subst hc
        obtain ⟨J, h1, h2⟩ := hv
        refine awp_seq (awp_mono ?_ (iha a' ha _ e h h2))
        refine up_then ?_
        rintro e' h' ⟨hkeep, hJ⟩
        have hk : (keep.map fun k => (k, e.get k)) = keep.map fun k => (k, e'.get k) := keep_eq hkeep
        refine awp_weaken (fun i => get_map_append vars e'.get _ i ?_) (ihb b' hb Q _ h' (h1 e'.get h' hJ))
        rw [hk]
        exact get_map keep e'.get i
      · simp at hc; subst hc
        refine awp_seq (awp_mono ?_ (iha a' ha _ e h hv))
        exact up_then (fun e h hx => ihb b' hb Q e h hx)
    · cases hc
  | cond c a b iha ihb =>
    intro ac hc Q e h hv
    simp only [cCode] at hc
    split at hc
    · rename_i c' a' b' hcc ha hb
      simp at hc; subst hc
      simp only [vcC] at hv
      cases ht : c'.get e <;> simp only [ht] at hv <;> try exact hv.elim
      rename_i t
      refine awp_cond (b := t) (fun c a _ hs => ?_) ?_
      · have := cArg_rel hcc hs
        rw [ht] at this
        exact rel_bool this
      · cases t
        · exact ihb b' hb Q e h (hv.2 rfl)
        · exact iha a' ha Q e h (hv.1 rfl)
    · cases hc
  | block id a iha =>
    intro ac hc Q e h hv
    simp only [cCode] at hc
    cases ha : cCode P fz nt loops dr a with
    | none => simp [ha] at hc
    | some a' =>
      simp [ha] at hc; subst hc
      refine awp_block (awp_mono ?_ (iha a' ha _ e h hv))
      rintro x t h ⟨e', rfl, hx⟩
      cases x with
      | normal => exact ⟨e', rfl, hx⟩
      | ret => exact ⟨e', rfl, hx⟩
      | exit id' =>
        simp only [LPost.block] at hx
        simp only [Post.block]
        split
        · rename_i hid; rw [if_pos hid] at hx; exact ⟨e', rfl, hx⟩
        · rename_i hid; rw [if_neg hid] at hx; exact ⟨e', rfl, hx⟩
  | loop a iha =>
    intro ac hc Q e h hv
    simp only [cCode] at hc
    split at hc
    · rename_i a' keep vars ha _
      simp at hc; subst hc
      obtain ⟨I, n₀, h0, hround⟩ := hv
      let E : (Nat → D) → LEnv := fun f => vars.map (fun v => (v, f v)) ++ keep.map (fun k => (k, e.get k))
      refine awp_loop (fun n t h => ∃ f : Nat → D, I n (vars.map f) h ∧ ∀ i, (E f).get i = .undef ∨ (E f).get i = t i) n₀ ⟨e.get, h0, fun i => get_map_append vars e.get _ i (get_map keep e.get i)⟩ ?_
      rintro n t h' ⟨f, hI, hE⟩
      refine awp_weaken hE (awp_mono ?_ (iha a' ha _ (E f) h' (hround n f h' hI)))
      refine up_then ?_
      rintro e' h'' ⟨hkeep, m, hm, hI'⟩
      refine ⟨m, hm, e'.get, hI', fun i => get_map_append vars e'.get _ i ?_⟩
      have : (keep.map fun k => (k, e.get k)) = keep.map fun k => (k, e'.get k) := by
        have hk : ∀ k, k ∈ keep → e'.get k = e.get k := by
          intro k hk
          obtain ⟨j, hj⟩ := List.getElem?_of_mem hk
          have := congrArg (fun l => l[j]?) hkeep
          simpa [hj] using this
        apply List.map_congr_left
        intro k hk'
        rw [hk k hk']
      rw [this]
      exact get_map keep e'.get i
    · cases hc
  | region id ops draw =>
    intro ac hc Q e h hv
    cases draw with
    | false =>
      simp only [cCode] at hc
      cases hl : ops.toList.mapM (cOper P fz nt ops) with
      | none => simp [hl] at hc
      | some l =>
        simp [hl] at hc; subst hc
        refine awp_region ?_
        have := cReg_sound l 0 (by simpa using hl) hv
        rw [Nat.sub_zero, ← List.range_eq_range'] at this
        exact this
    | true =>
      simp only [cCode] at hc
      cases hl : dr id ops with
      | none => simp [hl] at hc
      | some p =>
        simp only [hl, Option.map_some, Option.some.injEq] at hc
        cases hlo : loops (6000001 + id) with
        | none =>
          rw [hlo] at hc
          simp only at hc
          subst hc
          exact hdr id ops p hl Q e h hv
        | some _ =>
          rw [hlo] at hc
          simp only at hc
          subst hc
          obtain ⟨ns, hv⟩ := hv
          exact awp_frz ns (hdr id ops p hl Q e _ hv)
  | rangeFunc g ps assign body iha ihb =>
    intro ac hc Q e h hv
    simp only [cCode] at hc
    split at hc
    · rename_i g' a' b' hg ha hb
      split at hc
      · split at hc
        · rename_i hps
          simp at hc; subst hc
          refine awp_range hg hps.1 (fun p hp => by simpa using List.all_eq_true.1 hps.2 p hp) (fun Q e h hv => iha a' ha Q e h hv) (fun Q e h hv => ihb b' hb Q e h hv) hv
        · cases hc
      · cases hc
    · cases hc
  | _ => intro ac hc; simp [cCode] at hc

end Go.Am
/- The abstract machine: a round of a loop over a function, seen from the function's side. No condition. -/
namespace Go.Am
open Go

variable [GTab]

variable {P : Program}

/-- What is left when a round has ended. -/
def roundEnd (x : Ex) (n : Nat) (B : LoopB) (K : D → Heap → Prop) (h : Heap) : Prop :=
  match x with
  | .normal => K (.bool true) (upd h n (.lp .ready B))
  | x => K (.bool false) (upd h n (.lp (.done x) B))

theorem fold_rel {c : Ctx} : ∀ (ps : List Nat) (ds : List D) (vals : List Value) (tmps : Array Value) (e : LEnv), ps.Nodup → (∀ p, p ∈ ps → p < tmps.size) → ds.length = ps.length → vals.length = ps.length →
    (∀ (i : Nat) (d : D), ds[i]? = some d → RelD c d (vals.getD i Go.undef)) → (∀ i, RelD c (e.get i) (tmps.getD i Go.undef)) →
    ((ps.zip vals).foldl (fun t (p : Nat × Value) => t.setIfInBounds p.1 p.2) tmps).size = tmps.size ∧
      ∀ i, RelD c (LEnv.get (ps.zip ds ++ e) i) (((ps.zip vals).foldl (fun t (p : Nat × Value) => t.setIfInBounds p.1 p.2) tmps).getD i Go.undef)
  | [], _, _, tmps, e, _, _, _, _, _, he => by simpa using he
  | p :: r, [], _, _, _, _, _, hd, _, _, _ => by simp at hd
  | p :: r, d :: ds, [], _, _, _, _, _, hv, _, _ => by simp at hv
  | p :: r, d :: ds, v :: vals, tmps, e, hnd, hlt, hd, hv, hrel, he => by
    rw [List.nodup_cons] at hnd
    have h1 := hrel 0 d rfl
    have hps := hlt p (by simp)
    have hbase : ∀ i, RelD c (LEnv.get ((p, d) :: e) i) ((tmps.setIfInBounds p v).getD i Go.undef) := by
      intro i
      simp only [LEnv.get]
      by_cases hi : i = p
      · subst hi
        rw [if_pos rfl]
        have : (tmps.setIfInBounds i v).getD i Go.undef = v := by simp [hps]
        rw [this]; simpa using h1
      · rw [if_neg hi]
        have hip : p ≠ i := fun e => hi e.symm
        have : (tmps.setIfInBounds p v).getD i Go.undef = tmps.getD i Go.undef := by simp [hip]
        rw [this]; exact he i
    obtain ⟨k1, k2⟩ := fold_rel r ds vals (tmps.setIfInBounds p v) ((p, d) :: e) hnd.2 (fun q hq => by rw [Array.size_setIfInBounds]; exact hlt q (by simp [hq])) (by simpa using hd) (by simpa using hv)
      (fun i x hx => by simpa using hrel (i + 1) x (by simpa using hx)) hbase
    refine ⟨by simp only [List.zip_cons_cons, List.foldl_cons]; rw [k1]; simp, fun i => ?_⟩
    simp only [List.zip_cons_cons, List.foldl_cons, List.cons_append]
    have := k2 i
    have eq : LEnv.get (r.zip ds ++ (p, d) :: e) i = LEnv.get ((p, d) :: (r.zip ds ++ e)) i := by
      have key : ∀ (l : List (Nat × D)), (∀ q, q ∈ l → q.1 ≠ p) → LEnv.get (l ++ (p, d) :: e) i = LEnv.get ((p, d) :: (l ++ e)) i := by
        intro l
        induction l with
        | nil => intro _; rfl
        | cons q s ih =>
          intro hq
          have ih' := ih (fun x hx => hq x (by simp [hx]))
          simp only [List.cons_append, LEnv.get] at ih' ⊢
          by_cases h2 : i = p
          · have : i ≠ q.1 := fun e => hq q (by simp) (e.symm.trans h2)
            rw [if_neg this, if_pos h2, ih', if_pos h2]
          · rw [if_neg h2]
            rw [if_neg h2] at ih'
            rw [ih']
      refine key _ (fun q hq => ?_)
      have hm := (List.of_mem_zip hq).1
      intro hqp
      rw [hqp] at hm
      exact hnd.1 hm
    rw [eq] at this
    exact this

/-- ONE ROUND. -/
theorem ayield_of {n : Nat} {B : LoopB} {ds : List D} {h : Heap} {K : D → Heap → Prop} {a b : ACode} (hn : h n = .lp .ready B)
    (hA : ∀ (Q : LPost) (e : LEnv) (h : Heap), vcC P a Q e h → awp P B.nt B.assign (fun x => up (Q x)) e.get h)
    (hB : ∀ (Q : LPost) (e : LEnv) (h : Heap), vcC P b Q e h → awp P B.nt B.body (fun x => up (Q x)) e.get h)
    (hnd : B.ps.Nodup) (hlt : ∀ p, p ∈ B.ps → p < B.nt) (hlen : ds.length = B.ps.length) {e : LEnv} (he : B.env = e.get)
    (hv : vcC P a (fun x e1 h1 => x = .normal ∧ h1 n = .lp .ready B ∧ vcC P b (fun x e2 h2 => h2 n = .lp .busy B ∧ roundEnd x n B K h2) e1 (upd h1 n (.lp .busy B))) (B.ps.zip ds ++ e) h) : AYield P n ds h K := by
  intro c w vals g hh hp hr hsz hrel hρ
  subst hh
  obtain ⟨tmps, dfs, q1, q2, q3⟩ := lp_slot hp hr hn hρ
  have hy := run_yield (P := P) (args := vals) q1 (by simp [recOf, hsz, hlen])
  refine ⟨_, _, _, _, hy, ?_⟩
  refine roundIn_of_wpIn (F := Fence.wide) trivial ?_
  have hfold : ((recOf .ready B tmps dfs).params.zip vals).foldl (fun tmps (t, a) => tmps.setIfInBounds t a) tmps = (B.ps.zip vals.toList).foldl (fun t (p : Nat × Value) => t.setIfInBounds p.1 p.2) tmps := by
    rw [← Array.foldl_toList]
    simp [recOf, Array.toList_zip]
  have hfr := fold_rel B.ps ds vals.toList tmps e hnd (fun p hp => by rw [q2]; exact hlt p hp) hlen (by rw [Array.length_toList, hsz, hlen]) (fun i d hd => by rw [toList_getD]; exact hrel i d hd) (fun i => by have := q3 i; rw [he] at this; exact this)
  have hs1 : Sim c B.nt (LEnv.get (B.ps.zip ds ++ e)) { tmps := ((recOf .ready B tmps dfs).params.zip vals).foldl (fun tmps (t, a) => tmps.setIfInBounds t a) (recOf .ready B tmps dfs).tmps, defers := [] } := by
    refine ⟨hr.glob, hr.lo, Marks.nil, ?_, fun i => ?_⟩
    · show (Array.foldl _ tmps _).size = _
      rw [hfold, hfr.1, q2]
    · show RelD c _ ((Array.foldl _ tmps _).getD i Go.undef)
      rw [hfold]; exact hfr.2 i
  refine wpIn_mono (show B.assign.wpIn (rF (some g)) 0 P _ _ w from hA _ _ _ hv (some g) c w _ rfl hp hr hs1 (fun l hl => by cases hl; exact ⟨_, by rw [hp]; exact q1⟩)) ?_
  intro x a1 w1 hf
  cases x with
  | normal =>
    obtain ⟨ρ1, t1, h1, le1, hr1, ws1, sim1, e1, rfl, _, hn1, hb⟩ := hf
    obtain ⟨_, hρ1⟩ := lp_stays le1 hn hρ hn1
    obtain ⟨tmps1, dfs1, p1, p2, p3⟩ := lp_slot (c := ⟨ρ1, c.X, h1, w1.heap⟩) (w := w1) rfl hr1 hn1 hρ1
    refine ⟨_, run_beginRound p1 rfl, ?_⟩
    obtain ⟨le2, hr2⟩ := lp_write (c := ⟨ρ1, c.X, h1, w1.heap⟩) rfl hr1 hn1 hρ1 p1 p2 p3 .busy
    have hrec : (.loop { recOf .ready B tmps1 dfs1 with state := .busy } : Obj) = .loop (recOf .busy B tmps1 dfs1) := rfl
    rw [hrec]
    refine wpIn_mono (show B.body.wpIn (rF (some g)) 0 P _ a1 _ from hB _ _ _ hb (some g) _ (w1.putObj g (.loop (recOf .busy B tmps1 dfs1))) a1 rfl rfl hr2 (sim1.mono le2) (fun l hl => by
      cases hl; exact ⟨_, World.putObj_heap_same (Array.getElem?_eq_some_iff.1 p1).1⟩)) ?_
    have fin : ∀ (y : Ex) (jump : Option Code) (st' : LSt), st'.st = (if jump.isNone then LoopState.ready else .done) → st'.pend = jump → ∀ (a2 : Act) (w2 : World), Fin ⟨ρ1, c.X, upd h1 n (.lp .busy B), (w1.putObj g (.loop (recOf .busy B tmps1 dfs1))).heap⟩ (w1.putObj g (.loop (recOf .busy B tmps1 dfs1))) B.nt (up fun e2 h2 => h2 n = .lp .busy B ∧ roundEnd y n B K h2) a2 w2 →
        (∀ h2, roundEnd y n B K h2 → K (.bool jump.isNone) (upd h2 n (.lp st' B))) →
        ∃ v w', (Instr.endRound g jump).run P w2 = .ok v w' ∧ ∃ (v' : Value) (r : D) (ρ : Nat → Option Nat) (h' : Heap), Ending.returned v = .returned v' ∧ c.le ⟨ρ, c.X, h', w'.heap⟩ ∧ HeapRel ⟨ρ, c.X, h', w'.heap⟩ ∧ WS w w' ∧ RelD ⟨ρ, c.X, h', w'.heap⟩ r v' ∧ K r h' := by
      rintro y jump st' e1 e2 a2 w2 ⟨ρ2, t2, h2, le3, hr3, ws3, sim3, e2', rfl, hn3, hend⟩ hk
      have hn2 : (⟨ρ1, c.X, upd h1 n (.lp .busy B), (w1.putObj g (.loop (recOf .busy B tmps1 dfs1))).heap⟩ : Ctx).h n = .lp .busy B := by simp [upd]
      obtain ⟨_, hρ3⟩ := lp_stays le3 hn2 hρ1 hn3
      obtain ⟨tmps3, dfs3, u1, u2, u3⟩ := lp_slot (c := ⟨ρ2, c.X, h2, w2.heap⟩) (w := w2) rfl hr3 hn3 hρ3
      have hrun := run_endRound (P := P) jump u1
      have hrec3 : (.loop { recOf .busy B tmps3 dfs3 with state := if jump.isNone then .ready else .done, pending := jump } : Obj) = .loop (recOf st' B tmps3 dfs3) := by simp [recOf, e1, e2]
      rw [hrec3] at hrun
      obtain ⟨le4, hr4⟩ := lp_write (c := ⟨ρ2, c.X, h2, w2.heap⟩) rfl hr3 hn3 hρ3 u1 u2 u3 st'
      refine ⟨_, _, hrun, _, .bool jump.isNone, ρ2, upd h2 n (.lp st' B), rfl, ((le1.trans le2).trans le3).trans le4, hr4, ⟨?_, ?_, ?_⟩, .bool _, hk h2 hend⟩
      · exact ws3.os.trans ws1.os
      · exact ws3.tape.trans ws1.tape
      · exact ws3.output.trans ws1.output
    intro y a2 w2 hf2
    cases y with
    | normal => exact fin .normal none .ready rfl rfl a2 w2 hf2 (fun h2 hk => hk)
    | exit id => exact fin (.exit id) (some (.exit id)) (.done (.exit id)) rfl rfl a2 w2 hf2 (fun h2 hk => hk)
    | ret => exact fin .ret (some .ret) (.done .ret) rfl rfl a2 w2 hf2 (fun h2 hk => hk)
    | goto t => exact hf2.elim
    | panic ch => exact hf2.elim
    | outgrown => exact hf2.elim
  | exit id => obtain ⟨ρ1, t1, h1, le1, hr1, ws1, sim1, e1, rfl, hx, _⟩ := hf; cases hx
  | ret => obtain ⟨ρ1, t1, h1, le1, hr1, ws1, sim1, e1, rfl, hx, _⟩ := hf; cases hx
  | goto t => exact hf.elim
  | panic ch => exact hf.elim
  | outgrown => exact hf.elim

end Go.Am
/- The abstract machine, part 20: functions; calls that take and give pure data. No condition. -/
namespace Go.Am
open Go

variable [GTab]

variable {P : Program}

inductive RV where
  | t (i : Nat)
  | cell (i size : Nat) (agg : Bool)

structure AFunc where
  nt : Nat
  code : ACode
  res : List RV

def vcRes (P : Program) (r : RV) (e : LEnv) (h : Heap) (K : D → Prop) : Prop :=
  match r with
  | .t i => K (e.get i)
  | .cell i size agg => vcOp P (.ld (.t i) size agg) (fun d _ => K d) e h

def vcRess (P : Program) : List RV → LEnv → Heap → (List D → Prop) → Prop
  | [], _, _, K => K []
  | r :: s, e, h, K => vcRes P r e h fun d => vcRess P s e h fun ds => K (d :: ds)

def vcRet (P : Program) (rs : List RV) (K : D → Heap → Prop) (e : LEnv) (h : Heap) : Prop :=
  match rs with
  | [r] => vcRes P r e h (K · h)
  | rs => vcRess P rs e h fun ds => K (.tup ds) h

def params : List D → Nat → LEnv
  | [], _ => []
  | d :: r, i => (i, d) :: params r (i + 1)

def vcFn (P : Program) (F : AFunc) (ds : List D) (K : D → Heap → Prop) (h : Heap) : Prop :=
  ds.length ≤ F.nt ∧ vcC P F.code (fun x e h' => match x with
    | .exit _ => False
    | _ => vcRet P F.res K e h') (params ds 0) h

def cRes (P : Program) : ResultVar → Option RV
  | .tmp i => some (.t i)
  | .cell i t => match cTy P t with
    | some (n, b) => some (.cell i n b)
    | none => none

def cFn (P : Program) (fz : Bool) (f : FuncId) (loops : Nat → Option (List Nat × List Nat)) (dr : Nat → Array Oper → Option ACode) : Option AFunc :=
  match P.funcs[f]? with
  | some fn => match fn.body with
    | some body => match cCode P fz fn.ntmps loops dr body, fn.results.toList.mapM (cRes P) with
      | some code, some res => some ⟨fn.ntmps, code, res⟩
      | _, _ => none
    | none => none
  | none => none

theorem params_get : ∀ (ds : List D) (k i : Nat), (params ds k).get i = if k ≤ i ∧ i < k + ds.length then ds.getD (i - k) .undef else .undef
  | [], k, i => by simp [params, LEnv.get]
  | d :: r, k, i => by
    simp only [params, LEnv.get, params_get r (k + 1) i, List.length_cons]
    by_cases h : i = k
    · subst h; simp
    · rw [if_neg h]
      by_cases h2 : k + 1 ≤ i ∧ i < k + 1 + r.length
      · rw [if_pos h2, if_pos (by omega), show i - k = (i - (k + 1)) + 1 by omega]; simp
      · rw [if_neg h2, if_neg (by omega)]

theorem getD_repl (vals : Array Value) (n i : Nat) : (vals ++ Array.replicate n Go.undef).getD i Go.undef = vals.getD i Go.undef := by
  by_cases h : i < vals.size
  · exact getD_append_l _ _ _ h
  · rw [getD_append_r _ _ _ (by omega)]
    simp [Array.getD, h]

def resFn (tmps : Array Value) : ResultVar → Sem Value
  | .tmp t => pure (tmps.getD t Go.undef)
  | .cell x t => do loadVar t (← asAddr (tmps.getD x Go.undef))

theorem run_res {c : Ctx} {w : World} {nt : Nat} {e : LEnv} {a : Act} (hp : c.hp = w.heap) (hr : HeapRel c) (hs : Sim c nt e.get a) {r : ResultVar} {rv : RV} (hc : cRes P r = some rv) {K : D → Prop} (hv : vcRes P rv e c.h K) :
    ∃ v d, (resFn a.tmps r).run P w = .ok v w ∧ RelD c d v ∧ K d := by
  cases r with
  | tmp i =>
    simp [cRes] at hc; subst hc
    exact ⟨_, _, rfl, hs.rel i, hv⟩
  | cell i t =>
    simp only [cRes] at hc
    split at hc
    · rename_i n b ht
      simp at hc; subst hc
      have ty := cTy_spec ht
      let o : Oper := ⟨none, .load t (.tmp i), 0, "", #[], none⟩
      have hv' : vcOp P (.ld (.t i) n b) (fun d _ => K d) e c.h := hv
      -- the same as a load
      have rx := hs.rel i
      simp only [vcOp, Arg.get] at hv'
      have fin : ∀ (g o' j : Nat) (cs : List D), a.tmps.getD i Go.undef = .pointer (some ⟨g, o' + j, none⟩) → Mem c g o' cs → vpart cs j n b K →
          ∃ v d, (resFn a.tmps (.cell i t)).run P w = .ok v w ∧ RelD c d v ∧ K d := by
        intro g o' j cs he hm hvp
        obtain ⟨v, d, h1, h2, h3⟩ := run_loadVar_mem (P := P) hp hm ty hvp
        refine ⟨v, d, ?_, h2, h3⟩
        simp only [resFn, he]
        simp [asAddr, h1]
      generalize hgx : e.get i = dx at hv' rx
      cases dx <;> try exact hv'.elim
      · rename_i m k j
        cases hn : c.h m <;> simp only [hn] at hv' <;> try exact hv'.elim
        · obtain ⟨rfl, hv'⟩ := hv'
          obtain ⟨g, he, _, _, hm⟩ := mem_box hr hn rx
          exact fin g 0 j _ (by rw [he]; simp) hm hv'
        · obtain ⟨hi, hv'⟩ := hv'
          rename_i esz els
          have hdd : els[k]? = some els[k] := by simp [hi]
          obtain ⟨g, he, _, hm⟩ := mem_row hr (by rw [hn]; rfl) hdd rx
          exact fin g _ j _ he hm (hv' _ hdd)
        · obtain ⟨hi, hv'⟩ := hv'
          rename_i esz els
          have hdd : els[k]? = some els[k] := by simp [hi]
          obtain ⟨g, he, _, hm⟩ := mem_row hr (by rw [hn]; rfl) hdd rx
          exact fin g _ j _ he hm (hv' _ hdd)
      · rename_i d j
        obtain ⟨g, o', he, hm⟩ := mem_vp rx
        exact fin g o' j _ he hm hv'
    · cases hc

theorem run_ress {c : Ctx} {w : World} {nt : Nat} {e : LEnv} {a : Act} (hp : c.hp = w.heap) (hr : HeapRel c) (hs : Sim c nt e.get a) : ∀ (rs : List ResultVar) (rvs : List RV), rs.mapM (cRes P) = some rvs → ∀ {K : List D → Prop}, vcRess P rvs e c.h K →
    ∃ (vs : List Value) (ds : List D), (rs.mapM (resFn a.tmps)).run P w = .ok vs w ∧ vs.length = ds.length ∧ ds.length = rs.length ∧ (∀ (i : Nat) (d : D), ds[i]? = some d → RelD c d (vs.getD i Go.undef)) ∧ K ds := by
  intro rs
  induction rs with
  | nil =>
    intro rvs hm K hv
    simp at hm; subst hm
    exact ⟨[], [], by simp, rfl, rfl, by simp, hv⟩
  | cons r s ih =>
    intro rvs hm K hv
    rw [List.mapM_cons] at hm
    cases h1 : cRes P r with
    | none => simp [h1] at hm
    | some rv =>
      cases h2 : s.mapM (cRes P) with
      | none => simp [h1, h2] at hm
      | some rvs' =>
        simp [h1, h2] at hm
        subst hm
        simp only [vcRess] at hv
        obtain ⟨v, d, g1, g2, g3⟩ := run_res (P := P) hp hr hs h1 hv
        obtain ⟨vs, ds, k1, k2, k5, k3, k4⟩ := ih rvs' h2 g3
        refine ⟨v :: vs, d :: ds, ?_, by simp [k2], by simp [k5], fun i x hx => ?_, k4⟩
        · rw [List.mapM_cons]
          simp only [Sem.run_bind, g1, Result.andThen_ok, k1, Sem.run_pure]
        · cases i with
          | zero => simp at hx; subst hx; simpa using g2
          | succ i => simp at hx; simpa using k3 i x hx

theorem results_eq (fn : Func) (tmps : Array Value) : results fn tmps = (do let vs ← fn.results.mapM (resFn tmps); pure (if h : vs.size = 1 then vs[0] else .tuple vs)) := by
  unfold results
  congr 1

theorem run_results {c : Ctx} {w : World} {nt : Nat} {e : LEnv} {a : Act} (hp : c.hp = w.heap) (hr : HeapRel c) (hs : Sim c nt e.get a) {fn : Func} {rvs : List RV} (hm : fn.results.toList.mapM (cRes P) = some rvs) {K : D → Heap → Prop}
    (hv : vcRet P rvs K e c.h) : ∃ v d, (results fn a.tmps).run P w = .ok v w ∧ RelD c d v ∧ K d c.h := by
  have one : ∀ r rv, fn.results.toList = [r] → rvs = [rv] → ∃ v d, (results fn a.tmps).run P w = .ok v w ∧ RelD c d v ∧ K d c.h := by
    rintro r rv hfr rfl
    rw [hfr] at hm
    have hc : cRes P r = some rv := by
      rw [List.mapM_cons] at hm
      cases h1 : cRes P r with
      | none => simp [h1] at hm
      | some x => simp [h1] at hm; rw [hm]
    obtain ⟨v, d, g1, g2, g3⟩ := run_res (P := P) (K := fun d => K d c.h) hp hr hs hc hv
    have harr : fn.results = #[r] := by apply Array.ext'; simpa using hfr
    refine ⟨v, d, ?_, g2, g3⟩
    rw [results_eq, harr]
    simp [g1]
  have many : fn.results.toList.length ≠ 1 → vcRess P rvs e c.h (fun ds => K (.tup ds) c.h) → ∃ v d, (results fn a.tmps).run P w = .ok v w ∧ RelD c d v ∧ K d c.h := by
    intro hne hv'
    obtain ⟨vs, ds, k1, k2, k5, k3, k4⟩ := run_ress (P := P) hp hr hs _ _ hm hv'
    refine ⟨.tuple vs.toArray, .tup ds, ?_, .tup _ _ (by simpa using k2) (fun i d hd => by rw [← toList_getD]; exact k3 i d hd), k4⟩
    rw [results_eq, Array.mapM_eq_mapM_toList]
    have hvs : vs.length ≠ 1 := by rw [k2, k5]; exact hne
    simp [k1, hvs]
  cases hfr : fn.results.toList with
  | nil =>
    rw [hfr] at hm; simp at hm; subst hm
    exact many (by simp [hfr]) hv
  | cons r s =>
    cases s with
    | nil =>
      have hm' := hm
      rw [hfr, List.mapM_cons] at hm'
      cases h1 : cRes P r with
      | none => simp [h1] at hm'
      | some x => simp [h1] at hm'; exact one r x hfr hm'.symm
    | cons r' s' =>
      have hm' := hm
      rw [hfr, List.mapM_cons] at hm'
      cases h1 : cRes P r with
      | none => simp [h1] at hm'
      | some x =>
        rw [List.mapM_cons] at hm'
        cases h2 : cRes P r' with
        | none => simp [h1, h2] at hm'
        | some x' =>
          cases h3 : s'.mapM (cRes P) with
          | none => simp [h1, h2, h3] at hm'
          | some x'' => simp [h1, h2, h3] at hm'; subst hm'; exact many (by simp [hfr]) hv

/-- Nothing that values are about has turned. -/
structure Same (c c' : Ctx) : Prop where
  ρ : c'.ρ = c.ρ
  h : c'.h = c.h
  X : ∀ g, c'.X g ↔ c.X g
  size : c'.hp.size = c.hp.size
  cells : ∀ (g : Nat) (cur : Array Value) (ty : TypeId) (fr : Nat × Nat), c.hp[g]? = some (Obj.cells cur ty fr) → c'.hp[g]? = some (Obj.cells cur ty fr)
  loops : ∀ (g : Nat) (r : Loop), c.hp[g]? = some (Obj.loop r) → c'.hp[g]? = some (Obj.loop r)

theorem Same.own {c c' : Ctx} (s : Same c c') (g : Nat) : c'.own g ↔ c.own g := by
  unfold Ctx.own
  rw [s.ρ, s.h, s.X g]
theorem Same.cell {c c' : Ctx} (s : Same c c') {b o : Nat} {v : Value} (h : cellOf c.hp b o = some v) : cellOf c'.hp b o = some v := by
  unfold cellOf at h ⊢
  split at h
  · rename_i cur ty fr hb
    rw [s.cells b cur ty fr hb]
    exact h
  · cases h

theorem RelD.turn {c c' : Ctx} (s : Same c c') {d : D} {v : Value} (h : RelD c d v) : RelD c' d v := by
  have hown : ∀ {g}, ¬ c.own g → ¬ c'.own g := fun hn h => hn ((s.own _).1 h)
  induction h with
  | undef v => exact .undef v
  | nil => exact .nil
  | nilfn => exact .nilfn
  | int k n => exact .int k n
  | bool b => exact .bool b
  | str s => exact .str s
  | slE p cap hm => exact .slE p cap hm
  | sl xs b o cap esz f hne hc hm he hlen hone hcell ho _ ih => exact .sl xs b o cap esz f hne hc hm he hlen hone (fun i j d hd => s.cell (hcell i j d hd)) (hown ho) ih
  | msDead n off len p l k hd => exact .msDead n off len p l k (by rw [s.h]; exact hd)
  | msNil n esz els hrow hρ => exact .msNil n esz els (by rw [s.h]; exact hrow) (by rw [s.ρ]; exact hρ)
  | ms n off len g esz cap els cur ty fr hrow hρ hl hg hs hc hm => exact .ms n off len g esz cap els cur ty fr (by rw [s.h]; exact hrow) (by rw [s.ρ]; exact hρ) hl (s.cells _ _ _ _ hg) hs hc hm
  | msE n off esz p els hrow => exact .msE n off esz p els (by rw [s.h]; exact hrow)
  | ptrDead n i j p hd => exact .ptrDead n i j p (by rw [s.h]; exact hd)
  | ptrBox n j g v hb hρ => exact .ptrBox n j g v (by rw [s.h]; exact hb) (by rw [s.ρ]; exact hρ)
  | ptrRow n i j g esz els hrow hρ hi => exact .ptrRow n i j g esz els (by rw [s.h]; exact hrow) (by rw [s.ρ]; exact hρ) hi
  | vp e j b o f hone hcell ho hb _ ih => exact .vp e j b o f hone (fun k d hd => s.cell (hcell k d hd)) (hown ho) (by rw [s.size]; exact hb) ih
  | agg cs vs hsz hone _ ih => exact .agg cs vs hsz hone ih
  | tup ds vs hsz _ ih => exact .tup ds vs hsz ih
  | fn f a b va vb hsa hsb _ _ iha ihb => exact .fn f a b va vb hsa hsb iha ihb
  | yld n g st B hl hρ => exact .yld n g st B (by rw [s.h]; exact hl) (by rw [s.ρ]; exact hρ)
  | yldDead n g hd => exact .yldDead n g (by rw [s.h]; exact hd)

theorem SlotRel.turn {c c' : Ctx} (s : Same c c') {n : Nat} {x : Slot} (h : SlotRel c n x) : SlotRel c' n x := by
  cases x with
  | free => trivial
  | dead => trivial
  | box v =>
    obtain ⟨g, cur, ty, h1, h2, h3, h4⟩ := h
    exact ⟨g, cur, ty, by rw [s.ρ]; exact h1, s.cells _ _ _ _ h2, h3, fun i d hd => ⟨(h4 i d hd).1, (h4 i d hd).2.turn s⟩⟩
  | arr e l =>
    obtain ⟨h1, h2, h3, h4⟩ := h
    refine ⟨h1, h2, h3, ?_⟩
    rcases h4 with ⟨q1, q2⟩ | ⟨g, cur, ty, q1, q2, q3, q4⟩
    · exact Or.inl ⟨by rw [s.ρ]; exact q1, q2⟩
    · exact Or.inr ⟨g, cur, ty, by rw [s.ρ]; exact q1, s.cells _ _ _ _ q2, q3, fun i j d hd => (q4 i j d hd).turn s⟩
  | frz e l =>
    obtain ⟨h1, h2, h3, h4⟩ := h
    refine ⟨h1, h2, h3, ?_⟩
    rcases h4 with ⟨q1, q2⟩ | ⟨g, cur, ty, fr, q1, q2, q3, q4, q5⟩
    · exact Or.inl ⟨by rw [s.ρ]; exact q1, q2⟩
    · exact Or.inr ⟨g, cur, ty, fr, by rw [s.ρ]; exact q1, s.cells _ _ _ _ q2, q3, fun h => q4 ((s.own g).1 h), fun i j d hd => (q5 i j d hd).turn s⟩
  | lp st B =>
    obtain ⟨g, tmps, dfs, h1, h2, h3, h4⟩ := h
    exact ⟨g, tmps, dfs, by rw [s.ρ]; exact h1, s.loops _ _ h2, h3, fun i => (h4 i).turn s⟩

theorem HeapRel.turn {c c' : Ctx} (s : Same c c') (hr : HeapRel c) (hg : GlobOk c') (hl : c'.X.lo ≤ c'.hp.size) : HeapRel c' := by
  refine ⟨fun n => ?_, ?_, ?_, fun g hX => ?_, ?_, hg, hl⟩
  · rw [s.h]; exact (hr.slot n).turn s
  · rw [s.h, s.ρ]; exact hr.inj
  · rw [s.h, s.ρ]; intro n g hm hρ hX; exact hr.apart n g hm hρ ((s.X g).1 hX)
  · rw [s.size]; exact hr.xlt g ((s.X g).1 hX)
  · rw [s.h]; exact hr.fin

theorem Ctx.le.reX {c c' : Ctx} (h : c.le c') (X X' : XT) (hX : X' = X) : (⟨c.ρ, X, c.h, c.hp⟩ : Ctx).le ⟨c'.ρ, X', c'.h, c'.hp⟩ :=
  ⟨h.size, hX, h.keep, h.shape, h.loop, h.names, h.tr, h.born⟩

/-- The marks are taken up where the function ends. -/
theorem leave_marks {fn : Func} {R : Ending → World → Prop} {c : Ctx} {nt : Nat} {e : LEnv} (hglob : GlobOk c) : ∀ (ds : List Deferred) (ρ : Nat → Option Nat) (h : Heap) (w : World) (tmps : Array Value), c.X.lo = c.hp.size → c.le ⟨ρ, c.X, h, w.heap⟩ →
    HeapRel ⟨ρ, c.X, h, w.heap⟩ → Sim ⟨ρ, c.X, h, w.heap⟩ nt e.get { tmps := tmps, defers := ds } →
    (∀ w', c.le ⟨ρ, c.X, h, w'.heap⟩ → HeapRel ⟨ρ, c.X, h, w'.heap⟩ → WS w w' → Sim ⟨ρ, c.X, h, w'.heap⟩ nt e.get { tmps := tmps, defers := [] } → LeavesIn Fence.wide 0 P fn tmps R [] .returning w') →
    LeavesInM Fence.wide 0 P fn tmps R ds .returning w := by
  intro ds
  induction ds with
  | nil =>
    intro ρ h w tmps hlo hle hr hs hk
    exact hk w hle hr (WS.refl w) hs
  | cons d ds ih =>
    intro ρ h w tmps hlo hle hr hs hk
    obtain ⟨k, rfl, hk1, hk2, hk3⟩ := hs.defers.all d (by simp)
    have hlt : k < w.heap.size := (Array.getElem?_eq_some_iff.1 hk2).1
    have hkc : c.hp.size ≤ k := by
      have h1 : c.X.lo ≤ k := hk1
      rw [hlo] at h1; exact h1
    refine ⟨by simp, Or.inl ⟨k, w.putObj k (.deferred none), rfl, run_takeDeferred hk2, ?_⟩⟩
    have other : ∀ g, g ≠ k → (w.putObj k (.deferred none)).heap[g]? = w.heap[g]? := fun g hg => World.putObj_heap_other hg
    have same : Same ⟨ρ, c.X, h, w.heap⟩ ⟨ρ, c.X, h, (w.putObj k (.deferred none)).heap⟩ := by
      refine ⟨rfl, rfl, fun _ => Iff.rfl, World.putObj_size, fun g cur ty fr hg => ?_, fun g r hg => ?_⟩
      · rw [← hg]
        refine other g ?_
        rintro rfl
        have := hk2.symm.trans hg
        cases this
      · rw [← hg]
        refine other g ?_
        rintro rfl
        have := hk2.symm.trans hg
        cases this
    have hle' : c.le ⟨ρ, c.X, h, (w.putObj k (.deferred none)).heap⟩ := by
      refine ⟨by rw [World.putObj_size]; exact hle.size, rfl, fun g hg hn => ?_, fun g cur ty fr hg => ?_, fun g r hg => ?_, hle.names, hle.tr, hle.born⟩
      · exact (other g (by omega)).trans (hle.keep g hg hn)
      · obtain ⟨cur', h1, h2⟩ := hle.shape g cur ty fr hg
        exact ⟨cur', same.cells _ _ _ _ h1, h2⟩
      · obtain ⟨r', h1, h2⟩ := hle.loop g r hg
        exact ⟨r', same.loops _ _ h1, h2⟩
    have hg' : GlobOk ⟨ρ, c.X, h, (w.putObj k (.deferred none)).heap⟩ := hglob.mono hle'
    have hr' := hr.turn same hg' (by rw [World.putObj_size]; exact hr.lo)
    have hnd := hs.defers.nd
    rw [List.pairwise_cons] at hnd
    have hs' : Sim ⟨ρ, c.X, h, (w.putObj k (.deferred none)).heap⟩ nt e.get { tmps := tmps, defers := ds } := by
      refine ⟨hg', hr'.lo, ⟨fun d hd => ?_, hnd.2⟩, hs.size, fun i => (hs.rel i).turn same⟩
      obtain ⟨k', rfl, u1, u2, u3⟩ := hs.defers.all d (by simp [hd])
      have hne : k' ≠ k := by
        rintro rfl
        exact hnd.1 _ hd rfl
      exact ⟨k', rfl, u1, (other k' hne).trans u2, fun ho => u3 ((same.own k').1 ho)⟩
    exact ih ρ h _ tmps hlo hle' hr' hs' (fun w' l1 r1 ws1 s1 => hk w' l1 r1 ⟨ws1.os, ws1.tape, ws1.output⟩ s1)

/-- A FUNCTION: what is shown of its short form goes for its calls. -/
theorem acall_of {fz : Bool} {f : FuncId} {loops : Nat → Option (List Nat × List Nat)} {dr : Nat → Array Oper → Option ACode} {F : AFunc} (hc : cFn P fz f loops dr = some F) (hdr : DrOk P F.nt dr)
    {ds : List D} {K : D → Heap → Prop} {h : Heap} (hv : vcFn P F ds K h) : ACall P f ds h K := by
  unfold cFn at hc
  cases hf : P.funcs[f]? with
  | none => simp [hf] at hc
  | some fn =>
    cases hb : fn.body with
    | none => simp [hf, hb] at hc
    | some body =>
      simp only [hf, hb] at hc
      split at hc
      · rename_i code res hcode hres
        simp at hc; subst hc
        obtain ⟨hlen, hv⟩ := hv
        intro c0 w vals hh hp hr0 hs hrel0
        subst hh
        obtain ⟨c, hcdef⟩ : ∃ c : Ctx, c = ⟨c0.ρ, ⟨c0.X.p, c0.hp.size⟩, c0.h, c0.hp⟩ := ⟨_, rfl⟩
        have hsame : Same c0 c := by subst hcdef; exact ⟨rfl, rfl, fun _ => Iff.rfl, rfl, fun _ _ _ _ h => h, fun _ _ h => h⟩
        have hlo : c.X.lo = c.hp.size := by subst hcdef; rfl
        have hg0 : GlobOk c := fun g o hg => ⟨by subst hcdef; exact (hr0.glob g o hg).1, fun ho => (hr0.glob g o hg).2 ((hsame.own g).1 ho), by subst hcdef; exact (hr0.glob g o hg).3⟩
        have hr : HeapRel c := hr0.turn hsame hg0 (by rw [hlo]; exact Nat.le_refl _)
        have hp' : c.hp = w.heap := by subst hcdef; exact hp
        refine (callsIn_wide (n := 0)).1 (callsIn_of_wp_marks hf hb trivial ?_)
        let a : Act := { tmps := vals ++ Array.replicate (fn.ntmps - vals.size) Go.undef, defers := [] }
        have hsim : Sim c fn.ntmps (params ds 0).get a := by
          refine ⟨hg0, hr.lo, Marks.nil, by simp [a]; simp only at hlen; omega, fun i => ?_⟩
          simp only [a]
          rw [getD_repl, params_get]
          split
          · rename_i hi
            rw [Nat.sub_zero]
            have hil : i < ds.length := by omega
            have : ds.getD i .undef = ds[i] := by simp [List.getD, hil]
            rw [this]
            exact (hrel0 i _ (by simp [hil])).turn hsame
          · exact .undef _
        have hch : c.h = c0.h := by subst hcdef; rfl
        have hcX : ∀ g, c.X g ↔ c0.X g := hsame.X
        have := cCode_sound hdr body code hcode _ _ _ hv none c w a hch hp' hr hsim RoundOk.none
        refine wpIn_mono (show body.wpIn Fence.wide 0 P _ a w from this) ?_
        intro e a' w' hfin
        have done : ∀ x, (∀ id, x ≠ Ex.exit id) → Fin c w fn.ntmps (up (fun e h' => vcRet P res K e h')) a' w' → LeavesInM Fence.wide 0 P fn a'.tmps (fun e w' => ∃ (v : Value) (r : D) (ρ : Nat → Option Nat) (h' : Heap), e = .returned v ∧ c0.le ⟨ρ, c0.X, h', w'.heap⟩ ∧
            HeapRel ⟨ρ, c0.X, h', w'.heap⟩ ∧ WS w w' ∧ RelD ⟨ρ, c0.X, h', w'.heap⟩ r v ∧ K r h') a'.defers .returning w' := by
          rintro x _ ⟨ρ, t, h', r1, r2, r3, r4, e', rfl, hk⟩
          refine leave_marks (c := c) hg0 a'.defers ρ h' w' a'.tmps hlo r1 r2 r4 (fun w2 l2 hr2 ws2 s2 => ?_)
          obtain ⟨v, d, g1, g2, g3⟩ := run_results (P := P) (c := ⟨ρ, c.X, h', w2.heap⟩) (a := { tmps := a'.tmps, defers := [] }) rfl hr2 s2 hres hk
          have hsm : Same ⟨ρ, c.X, h', w2.heap⟩ ⟨ρ, c0.X, h', w2.heap⟩ := ⟨rfl, rfl, fun g => (hcX g).symm, rfl, fun _ _ _ _ h => h, fun _ _ h => h⟩
          have hle0 : c0.le ⟨ρ, c0.X, h', w2.heap⟩ := by
            have := l2.reX c0.X c0.X rfl
            subst hcdef
            exact this
          refine ⟨v, g1, v, d, ρ, h', rfl, hle0, hr2.turn hsm (hr0.glob.mono hle0) (Nat.le_trans hr0.lo hle0.size), r3.trans ws2, g2.turn hsm, g3⟩
        cases e with
        | normal => exact done .normal (by simp) hfin
        | ret => exact done .ret (by simp) hfin
        | exit id =>
          obtain ⟨ρ, t, h', r1, r2, r3, r4, e', rfl, hk⟩ := hfin
          exact hk.elim
        | goto l => exact hfin.elim
        | panic ch => exact hfin.elim
        | outgrown => exact hfin.elim
      · cases hc

end Go.Am
/- The abstract machine, part 21: calls that take and give pure data. No condition. -/
namespace Go.Am
open Go

variable [GTab]

variable {P : Program}

theorem vd_cells {d : D} (h : d.vd = true) : d.vone = true ∨ ∃ cs, d = .agg cs ∧ ∀ x, x ∈ cs → x.vone = true := by
  cases d with
  | agg cs => exact Or.inr ⟨cs, rfl, by simpa [D.vd] using h⟩
  | _ => exact Or.inl h

/-- Pure data does not depend on our blocks. -/
theorem RelD.recast {c c' : Ctx} (hp : c'.hp = c.hp) (ho : ∀ g, ¬ c.own g → ¬ c'.own g) {d : D} {v : Value} (h : RelD c d v) : (d.vd = true → RelD c' d v) := by
  induction h with
  | undef v => intro hv; simp [D.vd, D.vone] at hv
  | nil => intro _; exact .nil
  | nilfn => intro _; exact .nilfn
  | int k n => intro _; exact .int k n
  | bool b => intro _; exact .bool b
  | str s => intro _; exact .str s
  | slE p cap hm => intro _; exact .slE p cap hm
  | sl xs b o cap esz f hne hc hm he hlen hone hcell hown _ ih =>
    intro _
    refine .sl xs b o cap esz f hne hc hm he hlen hone (fun i j d hd => by rw [hp]; exact hcell i j d hd) (ho b hown) (fun i j d hd => ih i j d hd ?_)
    have := hone i j d hd
    cases d <;> simp_all [D.vd, D.vone]
  | agg cs vs hsz hone _ ih =>
    intro hv
    refine .agg cs vs hsz hone (fun i d hd => ih i d hd ?_)
    have : d.vone = true := by
      simp only [D.vd, List.all_eq_true] at hv
      exact hv d (List.mem_of_getElem? hd)
    cases d <;> simp_all [D.vd, D.vone]
  | _ => intro hv; simp [D.vd, D.vone] at hv

theorem RelD.recastT {c c' : Ctx} (hp : c'.hp = c.hp) (ho : ∀ g, ¬ c.own g → ¬ c'.own g) {d : D} {v : Value} (h : RelD c d v) (hv : d.vdt = true) : RelD c' d v := by
  cases h with
  | tup ds vs hsz hrel =>
    refine .tup ds vs hsz (fun i d hd => (hrel i d hd).recast hp ho ?_)
    simp only [D.vdt, List.all_eq_true] at hv
    exact hv d (List.mem_of_getElem? hd)
  | agg cs vs hsz hone hrel => exact RelD.recast hp ho (.agg cs vs hsz hone hrel) hv
  | sl xs b o cap esz f hne hc hm he hlen hone hcell hown hrel => exact RelD.recast hp ho (.sl xs b o cap esz f hne hc hm he hlen hone hcell hown hrel) rfl
  | slE p cap hm => exact .slE p cap hm
  | nil => exact .nil
  | nilfn => exact .nilfn
  | int k n => exact .int k n
  | bool b => exact .bool b
  | str s => exact .str s
  | _ => simp [D.vdt, D.vd, D.vone] at hv

/-- What has no slice in it depends on nothing. -/
theorem RelD.recastF {c c' : Ctx} {d : D} {v : Value} (h : RelD c d v) (hv : d.flat = true) : RelD c' d v := by
  have cell : ∀ {d : D} {v : Value}, RelD c d v → d.flatc = true → RelD c' d v := by
    intro d v h hf
    cases h with
    | nil => exact .nil
    | nilfn => exact .nilfn
    | int k n => exact .int k n
    | bool b => exact .bool b
    | str s => exact .str s
    | _ => simp [D.flatc] at hf
  have one : ∀ {d : D} {v : Value}, RelD c d v → d.flat1 = true → RelD c' d v := by
    intro d v h hf
    cases h with
    | agg cs vs hsz hone hrel =>
      refine .agg cs vs hsz hone (fun i d hd => cell (hrel i d hd) ?_)
      simp only [D.flat1, List.all_eq_true] at hf
      exact hf d (List.mem_of_getElem? hd)
    | nil => exact .nil
    | nilfn => exact .nilfn
    | int k n => exact .int k n
    | bool b => exact .bool b
    | str s => exact .str s
    | _ => simp [D.flat1, D.flatc] at hf
  cases h with
  | tup ds vs hsz hrel =>
    refine .tup ds vs hsz (fun i d hd => one (hrel i d hd) ?_)
    simp only [D.flat, List.all_eq_true] at hv
    exact hv d (List.mem_of_getElem? hd)
  | agg cs vs hsz hone hrel => exact one (.agg cs vs hsz hone hrel) hv
  | nil => exact .nil
  | nilfn => exact .nilfn
  | int k n => exact .int k n
  | bool b => exact .bool b
  | str s => exact .str s
  | _ => simp [D.flat, D.flat1, D.flatc] at hv

def D.nmt : D → List Nat
  | .tup ds => ds.flatMap D.nm
  | d => d.nm
def AllOneT : D → Prop
  | .tup ds => ∀ x, x ∈ ds → AllOne x
  | d => AllOne d
def FzOkT (h : Heap) : D → Prop
  | .tup ds => ∀ x, x ∈ ds → FzOk h x
  | d => FzOk h d

theorem fzt_rel {c c' : Ctx} (hle : c.le c') (hr' : HeapRel c') {d : D} {v : Value} (h : RelD c d v) (h1 : AllOneT d) (hok : FzOkT c.h d) (hfr : ∀ n esz els, n ∈ d.nmt → (c.h n).row = some (esz, els) → c'.h n = .frz esz els) :
    RelD c' (d.fzt c.h) v := by
  by_cases ht : ∃ ds, d = .tup ds
  · obtain ⟨ds, rfl⟩ := ht
    cases h with
    | tup _ vs hsz hrel =>
      refine .tup _ vs (by simpa using hsz) (fun i x hx => ?_)
      rw [List.getElem?_map] at hx
      cases hi : ds[i]? with
      | none => simp [hi] at hx
      | some y =>
        simp [hi] at hx
        subst hx
        have hm := List.mem_of_getElem? hi
        exact (fz_rel hle hr' (hrel i y hi) (h1 y hm) (hok y hm) (fun n esz els hn hrow => hfr n esz els (by simp only [D.nmt, List.mem_flatMap]; exact ⟨y, hm, hn⟩) hrow)).1
  · have e1 : D.fzt c.h d = D.fz c.h d := by cases d <;> simp_all [D.fzt]
    have e2 : d.nmt = d.nm := by cases d <;> simp_all [D.nmt]
    have e3 : AllOne d := by cases d <;> simp_all [AllOneT]
    have e4 : FzOk c.h d := by cases d <;> simp_all [FzOkT]
    rw [e1]
    exact (fz_rel hle hr' h e3 e4 (by rw [← e2]; exact hfr)).1

def noHeap : Heap := fun _ => .free

/-- A FUNCTION ON PURE DATA. -/
theorem vcall_of {fz : Bool} {f : FuncId} {loops : Nat → Option (List Nat × List Nat)} {dr : Nat → Array Oper → Option ACode} {F : AFunc} (hc : cFn P fz f loops dr = some F) (hdr : DrOk P F.nt dr)
    {ds : List D} {K : D → Prop} (hv : vcFn P F ds (fun r h => AllOneT r ∧ FzOkT h r ∧ (r.fzt h).vdt = true ∧ K (r.fzt h)) noHeap) : VCall P f ds K := by
  intro c w vals hh hp hr hs hrel
  have hfree : c.h = noHeap := funext hh
  have := acall_of hc hdr hv c w vals hfree hp hr hs hrel
  refine this.mono ?_
  rintro e w' ⟨v, r, ρ, h', rfl, h1, h2, h3, h4, h5, h6, h7, h8⟩
  obtain ⟨g1, g2⟩ := freezeAll_step h2 r.nmt
  have hz := fzt_rel g1 g2 h4 h5 h6 (fun n esz els hn hrow => freezeAll_mem _ hrow hn)
  have hown : ∀ g, ¬ (⟨ρ, c.X, h'.freezeAll r.nmt, w'.heap⟩ : Ctx).own g → ¬ (⟨c.ρ, c.X, c.h, w'.heap⟩ : Ctx).own g := by
    rintro g hn (hX | ⟨n, hm, _⟩)
    · exact hn (Or.inl hX)
    · simp only [hh n] at hm; cases hm
  refine ⟨v, r.fzt h', rfl, ?_, h3, RelD.recastT (c := ⟨ρ, c.X, h'.freezeAll r.nmt, w'.heap⟩) (c' := ⟨c.ρ, c.X, c.h, w'.heap⟩) rfl hown hz h7, h7, h8⟩
  refine ⟨h1.size, rfl, h1.keep, h1.shape, h1.loop, fun _ _ => rfl, fun _ => Trans.refl _, fun n g hm hρ _ => ⟨n, hm, hρ⟩⟩

/-- The same call, made with a heap of one's own. -/
theorem acall_of_vcall {f : FuncId} {ds : List D} {h : Heap} {K : D → Prop} (hv : VCall P f (ds.map (D.fz h)) K) (h1 : ∀ d, d ∈ ds → AllOne d ∧ FzOk h d ∧ (d.fz h).vd = true) :
    ACall P f ds h fun r h' => K r ∧ ((r.flat = true ∨ ds.flatMap D.nm = []) → h' = h) ∧ (¬ (r.flat = true ∨ ds.flatMap D.nm = []) → h' = h.freezeAll (ds.flatMap D.nm)) := by
  intro c w vals hh hp hr hs hrel
  subst hh
  let ns := ds.flatMap D.nm
  let h1' : Heap := c.h.freezeAll ns
  let c1 : Ctx := ⟨c.ρ, c.X, h1', c.hp⟩
  obtain ⟨g1, g2⟩ := freezeAll_step hr ns
  let c0 : Ctx := ⟨fun _ => none, ⟨c1.own, 0⟩, noHeap, c.hp⟩
  have hr0 : HeapRel c0 := by
    refine ⟨fun n => trivial, fun n m g hm => (by cases hm), fun n g hm => (by cases hm), fun g hX => ?_, ⟨0, fun n _ => rfl⟩, fun g o hg => ⟨(g2.glob g o hg).1, fun ho => (g2.glob g o hg).2 ?_, (g2.glob g o hg).3⟩, Nat.zero_le _⟩
    rotate_left
    · rcases ho with hX | ⟨n, hm, _⟩
      · exact hX
      · cases hm
    have hX : c1.own g := hX
    rcases hX with hX | ⟨n, hm, hρ⟩
    · exact hr.xlt g hX
    · exact mine_lt g2 hm hρ
  have hown : ∀ g, ¬ c1.own g → ¬ c0.own g := by
    rintro g hn (hX | ⟨n, hm, _⟩)
    · exact hn hX
    · cases hm
  have hargs : ∀ (i : Nat) (d : D), (ds.map (D.fz c.h))[i]? = some d → RelD c0 d (vals.getD i Go.undef) := by
    intro i d hd
    rw [List.getElem?_map] at hd
    cases hi : ds[i]? with
    | none => simp [hi] at hd
    | some x =>
      simp [hi] at hd
      subst hd
      have hm := List.mem_of_getElem? hi
      obtain ⟨q1, q2, q3⟩ := h1 x hm
      have := (fz_rel (c' := c1) g1 g2 (hrel i x hi) q1 q2 (fun n esz els hn hrow => freezeAll_mem ns hrow (by simp only [ns, List.mem_flatMap]; exact ⟨x, hm, hn⟩))).1
      exact RelD.recast (c := c1) (c' := c0) rfl hown this q3
  refine (hv c0 w vals (fun _ => rfl) hp hr0 (by simpa using hs) hargs).mono ?_
  rintro e w' ⟨v, r, rfl, k1, k2, k3, hvd, k4⟩
  -- our own blocks are as they were
  have hsame : ∀ g, g < c.hp.size → w'.heap[g]? = c.hp[g]? := fun g hg => k1.keep g hg (fun n hm => by cases hm)
  have lift : ∀ h2 : Heap, HeapRel ⟨c.ρ, c.X, h2, c.hp⟩ → (⟨c.ρ, c.X, h2, c.hp⟩ : Ctx).le ⟨c.ρ, c.X, h2, w'.heap⟩ ∧ HeapRel ⟨c.ρ, c.X, h2, w'.heap⟩ := by
    intro h2 hr2
    have hle : (⟨c.ρ, c.X, h2, c.hp⟩ : Ctx).le ⟨c.ρ, c.X, h2, w'.heap⟩ :=
      ⟨k1.size, rfl, fun g hg _ => hsame g hg, fun g cur ty fr hg => ⟨cur, (hsame g (Array.getElem?_eq_some_iff.1 hg).1).trans hg, rfl⟩, fun g r hg => ⟨r, (hsame g (Array.getElem?_eq_some_iff.1 hg).1).trans hg, rfl⟩, fun _ _ => rfl, fun _ => Trans.refl _, fun n g hm hρ _ => ⟨n, hm, hρ⟩⟩
    refine ⟨hle, fun n => slot_mono hle (hr2.slot n) (fun _ _ => rfl) (fun g hm hρ => hsame g (mine_lt hr2 hm hρ)), hr2.inj, hr2.apart, fun g hX => Nat.lt_of_lt_of_le (hr2.xlt g hX) k1.size, hr2.fin, hr2.glob.mono hle, Nat.le_trans hr2.lo hle.size⟩
  by_cases hf : r.flat = true ∨ ds.flatMap D.nm = []
  · obtain ⟨l1, l2⟩ := lift c.h hr
    have hrelr : RelD ⟨c.ρ, c.X, c.h, w'.heap⟩ r v := by
      by_cases hr1 : r.flat = true
      · exact k3.recastF hr1
      · have hns : ns = [] := by rcases hf with h | h; exact absurd h hr1; exact h
        have hc1 : c1.h = c.h := by simp only [c1, h1', hns]; rfl
        refine RelD.recastT (c := ⟨c0.ρ, c0.X, c0.h, w'.heap⟩) (c' := ⟨c.ρ, c.X, c.h, w'.heap⟩) rfl ?_ k3 hvd
        rintro g hn ho
        refine hn (Or.inl ?_)
        show c1.own g
        rcases ho with hX | ⟨n, hm, hρ⟩
        · exact Or.inl hX
        · exact Or.inr ⟨n, by rw [hc1]; exact hm, hρ⟩
    exact ⟨v, r, c.ρ, c.h, rfl, l1, l2, k2, hrelr, k4, fun _ => rfl, fun h => absurd hf h⟩
  · obtain ⟨l1, l2⟩ := lift h1' g2
    have hrelr : RelD ⟨c.ρ, c.X, h1', w'.heap⟩ r v := by
      refine RelD.recastT (c := ⟨c0.ρ, c0.X, c0.h, w'.heap⟩) (c' := ⟨c.ρ, c.X, h1', w'.heap⟩) rfl ?_ k3 hvd
      rintro g hn ho
      exact hn (Or.inl ho)
    exact ⟨v, r, c.ρ, h1', rfl, g1.trans l1, l2, k2, hrelr, k4, fun h => absurd h hf, fun _ => rfl⟩

end Go.Am
/- The abstract machine, part 22: operations that leave the abstract heap as it is. No condition. -/
namespace Go.Am
open Go

variable [GTab]

variable {P : Program} {nt : Nat}

def Arg.reads : Arg → List Nat
  | .t i => [i]
  | .c _ => []
def optReads : Option Arg → List Nat
  | some a => a.reads
  | none => []
def argsReads (l : List Arg) : List Nat := l.flatMap Arg.reads

def AOp.reads : AOp → List Nat
  | .mov x => x.reads
  | .un _ x => x.reads
  | .conv _ x => x.reads
  | .ext x _ => x.reads
  | .fld x _ _ _ => x.reads
  | .len x => x.reads
  | .slen x => x.reads
  | .fadd x _ => x.reads
  | .ld x _ _ => x.reads
  | .box x => x.reads
  | .pick a b c => a.reads ++ b.reads ++ c.reads
  | .mn3 a b c => a.reads ++ b.reads ++ c.reads
  | .mx3 a b c => a.reads ++ b.reads ++ c.reads
  | .dead => []
  | .bin _ x y => x.reads ++ y.reads
  | .eqv _ _ _ x y => x.reads ++ y.reads
  | .iadd x y _ => x.reads ++ y.reads
  | .iadda x y _ _ => x.reads ++ y.reads
  | .sidx x y _ _ _ => x.reads ++ y.reads
  | .st x y _ => x.reads ++ y.reads
  | .mk _ _ _ x y => x.reads ++ y.reads
  | .app x y _ _ _ => x.reads ++ y.reads
  | .cpy x y _ => x.reads ++ y.reads
  | .mn x y => x.reads ++ y.reads
  | .mx x y => x.reads ++ y.reads
  | .bld _ ps => ps.flatMap fun p => p.2.2.reads
  | .bldS _ _ _ _ ps => ps.flatMap fun p => p.2.reads
  | .alloc _ => []
  | .slz x _ => x.reads
  | .nilq _ x => x.reads
  | .slc x a b c _ => x.reads ++ optReads a ++ optReads b ++ optReads c
  | .sslc x a b => x.reads ++ optReads a ++ optReads b
  | .call _ as => argsReads as
  | .callv x as => x.reads ++ argsReads as
  | .mkf _ a b => argsReads a ++ argsReads b

theorem Arg.get_congr {e e' : LEnv} {x : Arg} (h : ∀ i, i ∈ x.reads → e.get i = e'.get i) : x.get e = x.get e' := by
  cases x with
  | t i => exact h i (by simp [Arg.reads])
  | c d => rfl

theorem args_congr {e e' : LEnv} {l : List Arg} (h : ∀ i, i ∈ argsReads l → e.get i = e'.get i) : l.map (·.get e) = l.map (·.get e') := by
  apply List.map_congr_left
  intro x hx
  exact Arg.get_congr fun i hi => h i (by simp only [argsReads, List.mem_flatMap]; exact ⟨x, hx, hi⟩)

theorem opt_congr {e e' : LEnv} {x : Option Arg} (h : ∀ i, i ∈ optReads x → e.get i = e'.get i) (d : Nat) (K : Int → Prop) : vopt e x d K = vopt e' x d K := by
  cases x with
  | none => rfl
  | some a => simp only [vopt]; rw [Arg.get_congr h]

/-- An operation's meaning hangs on what it reads alone. -/
theorem vcOp_congr {op : AOp} {e e' : LEnv} (h : ∀ i, i ∈ op.reads → e.get i = e'.get i) (K : D → Heap → Prop) (hp : Heap) : vcOp P op K e hp → vcOp P op K e' hp := by
  cases op
  case bld zero ps =>
    simp only [AOp.reads, List.mem_flatMap] at h
    have hg : ∀ p, p ∈ ps → p.2.2.get e = p.2.2.get e' := fun p hpm => Arg.get_congr fun i hi => h i ⟨p, hpm, hi⟩
    simp only [vcOp, fillOkV_iff, fillOk]
    rintro ⟨h1, h2⟩
    refine ⟨fun p hpm => by rw [← hg p hpm]; exact h1 p hpm, ?_⟩
    have : (ps.map fun p => (p.1, p.2.1, (p.2.2.get e').cells)) = ps.map fun p => (p.1, p.2.1, (p.2.2.get e).cells) := List.map_congr_left fun p hpm => by rw [hg p hpm]
    rw [this]; exact h2
  case bldS fz esz len zero ps =>
    simp only [AOp.reads, List.mem_flatMap] at h
    have hg : ∀ p, p ∈ ps → p.2.get e = p.2.get e' := fun p hpm => Arg.get_congr fun i hi => h i ⟨p, hpm, hi⟩
    simp only [vcOp, bldOk_iff, bldFz_iff]
    rintro ⟨h1, h2, h3⟩
    refine ⟨fun p hpm => by rw [← hg p hpm]; exact h1 p hpm, fun hf p hpm => by rw [← hg p hpm]; exact h2 hf p hpm, fun n hn => ?_⟩
    have e1 : (ps.map fun p => (p.1, if fz then (p.2.get e').fz hp else p.2.get e')) = ps.map fun p => (p.1, if fz then (p.2.get e).fz hp else p.2.get e) := List.map_congr_left fun p hpm => by rw [hg p hpm]
    have e2 : (ps.flatMap fun p => (p.2.get e').nm) = ps.flatMap fun p => (p.2.get e).nm := by
      exact congrArg List.flatten (List.map_congr_left (fun p hpm => by rw [hg p hpm]))
    rw [e1, e2]; exact h3 n hn
  case slc x a b c n =>
    simp only [AOp.reads, List.mem_append] at h
    have hx : x.get e = x.get e' := Arg.get_congr fun i hi => h i (Or.inl (Or.inl (Or.inl hi)))
    have ha := fun d K => opt_congr (x := a) (fun i hi => h i (Or.inl (Or.inl (Or.inr hi)))) d K
    have hb := fun d K => opt_congr (x := b) (fun i hi => h i (Or.inl (Or.inr hi))) d K
    have hc := fun d K => opt_congr (x := c) (fun i hi => h i (Or.inr hi)) d K
    simp only [vcOp, hx, ha, hb, hc]
    exact id
  case sslc x a b =>
    simp only [AOp.reads, List.mem_append] at h
    have hx : x.get e = x.get e' := Arg.get_congr fun i hi => h i (Or.inl (Or.inl hi))
    have ha := fun d K => opt_congr (x := a) (fun i hi => h i (Or.inl (Or.inr hi))) d K
    have hb := fun d K => opt_congr (x := b) (fun i hi => h i (Or.inr hi)) d K
    simp only [vcOp, hx, ha, hb]
    exact id
  case call f as =>
    simp only [AOp.reads] at h
    simp only [vcOp, args_congr h]
    exact id
  case callv x as =>
    simp only [AOp.reads, List.mem_append] at h
    have hx : x.get e = x.get e' := Arg.get_congr fun i hi => h i (Or.inl hi)
    have ha := args_congr (l := as) fun i hi => h i (Or.inr hi)
    simp only [vcOp, hx, ha]
    exact id
  case mkf f a b =>
    simp only [AOp.reads, List.mem_append] at h
    have ha := args_congr (l := a) fun i hi => h i (Or.inl hi)
    have hb := args_congr (l := b) fun i hi => h i (Or.inr hi)
    simp only [vcOp, ha, hb]
    exact id
  case alloc z => exact id
  case pick x y z =>
    simp only [AOp.reads, List.mem_append] at h
    have hx : x.get e = x.get e' := Arg.get_congr fun i hi => h i (Or.inl (Or.inl hi))
    have hy : y.get e = y.get e' := Arg.get_congr fun i hi => h i (Or.inl (Or.inr hi))
    have hz : z.get e = z.get e' := Arg.get_congr fun i hi => h i (Or.inr hi)
    simp only [vcOp, hx, hy, hz]
    exact id
  case mn3 x y z =>
    simp only [AOp.reads, List.mem_append] at h
    have hx : x.get e = x.get e' := Arg.get_congr fun i hi => h i (Or.inl (Or.inl hi))
    have hy : y.get e = y.get e' := Arg.get_congr fun i hi => h i (Or.inl (Or.inr hi))
    have hz : z.get e = z.get e' := Arg.get_congr fun i hi => h i (Or.inr hi)
    simp only [vcOp, hx, hy, hz]
    exact id
  case mx3 x y z =>
    simp only [AOp.reads, List.mem_append] at h
    have hx : x.get e = x.get e' := Arg.get_congr fun i hi => h i (Or.inl (Or.inl hi))
    have hy : y.get e = y.get e' := Arg.get_congr fun i hi => h i (Or.inl (Or.inr hi))
    have hz : z.get e = z.get e' := Arg.get_congr fun i hi => h i (Or.inr hi)
    simp only [vcOp, hx, hy, hz]
    exact id
  case dead => exact id
  all_goals
    simp only [AOp.reads, List.mem_append] at h
    first
      | (rename_i x y; have hx : x.get e = x.get e' := Arg.get_congr fun i hi => h i (Or.inl hi); have hy : y.get e = y.get e' := Arg.get_congr fun i hi => h i (Or.inr hi); simp only [vcOp, hx, hy]; exact id)
      | (rename_i x y _; have hx : x.get e = x.get e' := Arg.get_congr fun i hi => h i (Or.inl hi); have hy : y.get e = y.get e' := Arg.get_congr fun i hi => h i (Or.inr hi); simp only [vcOp, hx, hy]; exact id)
      | (rename_i x y _ _; have hx : x.get e = x.get e' := Arg.get_congr fun i hi => h i (Or.inl hi); have hy : y.get e = y.get e' := Arg.get_congr fun i hi => h i (Or.inr hi); simp only [vcOp, hx, hy]; exact id)
      | (rename_i x y _ _ _; have hx : x.get e = x.get e' := Arg.get_congr fun i hi => h i (Or.inl hi); have hy : y.get e = y.get e' := Arg.get_congr fun i hi => h i (Or.inr hi); simp only [vcOp, hx, hy]; exact id)
      | (rename_i x; have hx : x.get e = x.get e' := Arg.get_congr h; simp only [vcOp, hx]; exact id)
      | (rename_i x _; have hx : x.get e = x.get e' := Arg.get_congr h; simp only [vcOp, hx]; exact id)
      | (rename_i x _ _; have hx : x.get e = x.get e' := Arg.get_congr h; simp only [vcOp, hx]; exact id)
      | (rename_i x _ _ _; have hx : x.get e = x.get e' := Arg.get_congr h; simp only [vcOp, hx]; exact id)


theorem vcdOp_congr {op : AOp} {e e' : LEnv} (h : ∀ i, i ∈ op.reads → e.get i = e'.get i) (K : D → Prop) (hp : Heap) : vcdOp P op K e hp → vcdOp P op K e' hp := by
  cases op
  case bldS fz esz len zero ps =>
    simp only [AOp.reads, List.mem_flatMap] at h
    have hg : ∀ p, p ∈ ps → p.2.get e = p.2.get e' := fun p hpm => Arg.get_congr fun i hi => h i ⟨p, hpm, hi⟩
    simp only [vcdOp, bldOk_iff, bldV_iff]
    rintro ⟨h1, h2, h3, h4⟩
    refine ⟨fun p hpm => by rw [← hg p hpm]; exact h1 p hpm, fun p hpm => by rw [← hg p hpm]; exact h2 p hpm, h3, ?_⟩
    have e1 : (ps.map fun p => (p.1, p.2.get e')) = ps.map fun p => (p.1, p.2.get e) := List.map_congr_left fun p hpm => by rw [hg p hpm]
    rw [e1]; exact h4
  case call f as =>
    simp only [AOp.reads] at h
    have hg : ∀ x, x ∈ as → x.get e = x.get e' := fun x hx => Arg.get_congr fun i hi => h i (by simp only [argsReads, List.mem_flatMap]; exact ⟨x, hx, hi⟩)
    simp only [vcdOp, callOk_iff]
    rintro ⟨r, h1, h2, h3, h4⟩
    have e1 : (as.map fun x => (x.get e').fz hp) = as.map fun x => (x.get e).fz hp := List.map_congr_left fun x hx => by rw [hg x hx]
    have e2 : (as.flatMap fun x => (x.get e').nm) = as.flatMap fun x => (x.get e).nm := congrArg List.flatten (List.map_congr_left (fun x hx => by rw [hg x hx]))
    refine ⟨r, by rw [e1]; exact h1, fun x hx => by rw [← hg x hx]; exact h2 x hx, by rw [e2]; exact h3, h4⟩
  case fadd x off =>
    have hx : x.get e = x.get e' := Arg.get_congr h
    simp only [vcdOp, hx]
    exact id
  all_goals exact vcOp_congr (P := P) h (fun d _ => K d) hp

def AOp.isVal : AOp → Bool
  | .alloc _ => false
  | .slz _ _ => false
  | .box _ => false
  | .mk _ _ _ _ _ => false
  | .st _ _ _ => false
  | .app _ _ _ _ _ => false
  | .cpy _ _ _ => false
  | .callv _ _ => false
  | _ => true

/-- Operations that do not look at what may be turned. -/
def AOp.stable : AOp → Bool
  | .len _ => false
  | .iadd _ _ _ => false
  | .iadda _ _ _ _ => false
  | .ld _ _ _ => false
  | .slc _ _ _ _ _ => false
  | .call _ _ => false
  | _ => true

def Ext (h h' : Heap) : Prop := ∀ n, h n ≠ .free → h' n = h n
def BoxExt (h h' : Heap) : Prop := ∀ n v, h n = .box v → ∃ v', h' n = .box v'
theorem Ext.box {h h' : Heap} (x : Ext h h') : BoxExt h h' := fun n v hn => ⟨v, by rw [x n (by rw [hn]; simp), hn]⟩
theorem Ext.row {h h' : Heap} (x : Ext h h') {n : Nat} {r : Nat × List D} (hr : (h n).row = some r) : (h' n).row = some r := by rw [x n (Slot.row_ne_free hr)]; exact hr
theorem Ext.live {h h' : Heap} (x : Ext h h') {n : Nat} (hl : (h n).live = true) : (h' n).live = true := by
  rw [x n (by intro hf; rw [hf] at hl; cases hl)]; exact hl

theorem vint_det {x : D} {K : Int → Prop} (hv : vint x K) : ∃ i, K i ∧ ∀ K' : Int → Prop, K' i → vint x K' := by
  cases x <;> first | exact ⟨_, hv, fun _ h => h⟩ | exact hv.elim
theorem vopt_det {e : LEnv} {x : Option Arg} {n : Nat} {K : Int → Prop} (hv : vopt e x n K) : ∃ i, K i ∧ ∀ K' : Int → Prop, K' i → vopt e x n K' := by
  cases x with
  | none => exact ⟨_, hv, fun _ h => h⟩
  | some a => exact vint_det hv
theorem vpart_det {cs : List D} {o n : Nat} {b : Bool} {K : D → Prop} (hv : vpart cs o n b K) : ∃ d, K d ∧ ∀ K' : D → Prop, K' d → vpart cs o n b K' := by
  unfold vpart at hv
  cases b with
  | true => simp only [if_true] at hv; exact ⟨_, hv.2, fun K' h => by simp only [vpart, if_true]; exact ⟨hv.1, h⟩⟩
  | false =>
    simp only [Bool.false_eq_true, if_false] at hv
    cases hd : cs[o]? with
    | none => simp [hd] at hv
    | some d => simp only [hd] at hv; exact ⟨d, hv, fun K' h => by simp only [vpart, Bool.false_eq_true, if_false, hd]; exact h⟩
theorem vbin_det {op : BinOp} {x y : D} {K : D → Prop} (hv : vbin op x y K) : ∃ d, K d ∧ ∀ K' : D → Prop, K' d → vbin op x y K' := by
  unfold vbin at hv ⊢
  cases x <;> try exact hv.elim
  · cases y <;> try exact hv.elim
    cases op <;> simp only at hv ⊢ <;> first
      | exact ⟨_, hv.2, fun _ h => ⟨hv.1, h⟩⟩
      | exact ⟨_, hv.2.2, fun _ h => ⟨hv.1, hv.2.1, h⟩⟩
  · cases y <;> try exact hv.elim
    cases op <;> simp only at hv ⊢ <;> first
      | exact ⟨_, hv, fun _ h => h⟩
      | exact ⟨_, hv.2, fun _ h => ⟨hv.1, h⟩⟩
      | exact hv.elim
theorem vun_det {op : UnOp} {x : D} {K : D → Prop} (hv : vun op x K) : ∃ d, K d ∧ ∀ K' : D → Prop, K' d → vun op x K' := by
  unfold vun at hv ⊢
  cases op <;> cases x <;> simp only at hv ⊢ <;> first | exact ⟨_, hv, fun _ h => h⟩ | exact hv.elim

theorem fz_ext {h h' : Heap} (x : Ext h h') {d : D} (hok : FzOk h d) : d.fz h' = d.fz h ∧ FzOk h' d := by
  have cell : ∀ c : D, FzOkc h c → c.fzc h' = c.fzc h ∧ FzOkc h' c := by
    intro c hc
    cases c with
    | ms n off len =>
      obtain ⟨esz, els, hr, h1, h2⟩ := hc
      exact ⟨by simp [D.fzc, hr, x.row hr], esz, els, x.row hr, h1, h2⟩
    | _ => exact ⟨rfl, trivial⟩
  constructor
  · cases d with
    | agg cs =>
      simp only [D.fz]
      congr 1
      exact List.map_congr_left fun c hc => (cell c (hok c hc)).1
    | ms n off len => exact (cell (.ms n off len) (hok (.ms n off len) (List.mem_singleton.2 rfl))).1
    | _ => rfl
  · exact fun c hc => (cell c (hok c hc)).2

/-- AN OPERATION THAT LEAVES THE HEAP HAS ONE RESULT, now and later. -/
theorem vcdOp_det {op : AOp} (hval : op.isVal = true) {K : D → Prop} {e : LEnv} {h : Heap} (hv : vcdOp P op K e h) :
    ∃ d, K d ∧ ∀ h', (if op.stable then BoxExt h h' else Ext h h') → ∀ K' : D → Prop, K' d → vcdOp P op K' e h' := by
  cases op <;> simp only [AOp.isVal] at hval <;> try (cases hval; done)
  case mov x => exact ⟨_, hv, fun _ _ _ h => h⟩
  case dead => exact (show False from hv).elim
  case pick c a b =>
    simp only [vcdOp, vcOp] at hv ⊢
    cases hc : c.get e <;> simp only [hc] at hv ⊢ <;> try exact hv.elim
    exact ⟨_, hv, fun _ _ _ h => h⟩
  case bin op x y => obtain ⟨d, h1, h2⟩ := vbin_det hv; exact ⟨d, h1, fun _ _ K' h => h2 K' h⟩
  case un op x => obtain ⟨d, h1, h2⟩ := vun_det hv; exact ⟨d, h1, fun _ _ K' h => h2 K' h⟩
  case eqv neg agg ks x y =>
    simp only [vcdOp, vcOp, veqv] at hv ⊢
    cases hc : eqCells ks (x.get e).cells (y.get e).cells <;> simp only [hc] at hv ⊢
    · exact hv.2.2.elim
    · exact ⟨_, hv.2.2, fun _ _ _ h => ⟨hv.1, hv.2.1, h⟩⟩
  case conv k x => obtain ⟨i, h1, h2⟩ := vint_det hv; exact ⟨_, h1, fun _ _ K' h => h2 _ h⟩
  case ext x i =>
    simp only [vcdOp, vcOp] at hv ⊢
    cases hc : x.get e <;> simp only [hc] at hv ⊢ <;> try exact hv.elim
    rename_i ds
    cases hd : ds[i]? <;> simp only [hd] at hv ⊢
    exact ⟨_, hv, fun _ _ _ h => h⟩
  case fld x off size agg =>
    simp only [vcdOp, vcOp] at hv ⊢
    cases hc : x.get e <;> simp only [hc] at hv ⊢ <;> try exact hv.elim
    obtain ⟨d, h1, h2⟩ := vpart_det hv
    exact ⟨d, h1, fun _ _ K' h => h2 K' h⟩
  case bld zero ps => exact ⟨_, hv.2, fun _ _ _ h => ⟨hv.1, h⟩⟩
  case bldS fz esz len zero ps => exact ⟨_, hv.2.2.2, fun _ _ _ h => ⟨hv.1, hv.2.1, hv.2.2.1, h⟩⟩
  case len x =>
    simp only [vcdOp, vcOp, vlen] at hv ⊢
    cases hc : x.get e <;> simp only [hc] at hv ⊢ <;> try exact hv.elim
    · exact ⟨_, hv, fun _ _ _ h => h⟩
    · exact ⟨_, hv, fun _ _ _ h => h⟩
    · exact ⟨_, hv.2, fun _ hx _ h => ⟨Ext.live (by simpa [AOp.stable] using hx) hv.1, h⟩⟩
  case slen x =>
    simp only [vcdOp, vcOp] at hv ⊢
    cases hc : x.get e <;> simp only [hc] at hv ⊢ <;> try exact hv.elim
    exact ⟨_, hv, fun _ _ _ h => h⟩
  case fadd x off =>
    simp only [vcdOp] at hv ⊢
    cases hc : x.get e <;> simp only [hc] at hv ⊢ <;> try exact hv.elim
    · obtain ⟨⟨v, hb⟩, hk⟩ := hv
      exact ⟨_, hk, fun _ hx _ h => ⟨(show BoxExt _ _ from by simpa [AOp.stable] using hx) _ v hb, h⟩⟩
    · exact ⟨_, hv, fun _ _ _ h => h⟩
  case iadd x i esz =>
    obtain ⟨n, h1, h2⟩ := vint_det (show vint (i.get e) _ from hv)
    cases hc : x.get e <;> simp only [hc] at h1 <;> try exact h1.elim
    · rename_i xs
      obtain ⟨a1, a2, a3⟩ := h1
      have hd : xs[n.toNat]? = some (xs[n.toNat]'(by omega)) := by rw [List.getElem?_eq_getElem]
      obtain ⟨b1, b2⟩ := a3 _ hd
      refine ⟨_, b2, fun h' _ K' hk => h2 _ ?_⟩
      simp only [hc]
      refine ⟨a1, a2, fun d hd' => ?_⟩
      rw [hd] at hd'
      cases hd'
      exact ⟨b1, hk⟩
    · obtain ⟨a1, a2, ⟨els, a3⟩, a4⟩ := h1
      refine ⟨_, a4, fun h' hx K' hk => h2 _ ?_⟩
      simp only [hc]
      exact ⟨a1, a2, ⟨els, Ext.row (by simpa [AOp.stable] using hx) a3⟩, hk⟩
  case iadda x i len esz =>
    obtain ⟨n, h1, h2⟩ := vint_det (show vint (i.get e) _ from hv)
    cases hc : x.get e <;> simp only [hc] at h1 <;> try exact h1.2.2.elim
    · obtain ⟨a1, a2, a3, a4⟩ := h1
      refine ⟨_, a4, fun h' hx K' hk => h2 _ ?_⟩
      simp only [hc]
      exact ⟨a1, a2, Ext.live (by simpa [AOp.stable] using hx) a3, hk⟩
    · obtain ⟨a1, a2, a4⟩ := h1
      refine ⟨_, a4, fun h' hx K' hk => h2 _ ?_⟩
      simp only [hc]
      exact ⟨a1, a2, hk⟩
  case sidx x i len size agg =>
    obtain ⟨n, h1, h2⟩ := vint_det (show vint (i.get e) _ from hv)
    cases hc : x.get e <;> simp only [hc] at h1 <;> try exact h1.elim
    · rename_i s
      obtain ⟨a0, a1, a2, a3⟩ := h1
      have hlt : n.toNat < s.size := by omega
      have hb : s[n.toNat]? = some s[n.toNat] := by rw [getElem?_pos s n.toNat hlt]
      refine ⟨_, a3 _ hb, fun h' _ K' hk => h2 _ ?_⟩
      simp only [hc]
      refine ⟨a0, a1, a2, fun b hb' => ?_⟩
      rw [hb] at hb'
      cases hb'
      exact hk
    · obtain ⟨a0, a1, a2, a3⟩ := h1
      obtain ⟨d, g1, g2⟩ := vpart_det a3
      refine ⟨_, g1, fun h' _ K' hk => h2 _ ?_⟩
      simp only [hc]
      exact ⟨a0, a1, a2, g2 K' hk⟩
  case ld x size agg =>
    simp only [vcdOp, vcOp] at hv ⊢
    cases hc : x.get e <;> simp only [hc] at hv ⊢ <;> try exact hv.elim
    · rename_i n i j
      cases hn : h n <;> simp only [hn] at hv <;> try exact hv.elim
      · obtain ⟨a1, a2⟩ := hv
        obtain ⟨d, b1, b2⟩ := vpart_det a2
        refine ⟨d, b1, fun h' hx K' hk => ?_⟩
        have hx' : Ext h h' := by simpa [AOp.stable] using hx
        rw [hx' n (by rw [hn]; simp), hn]
        exact ⟨a1, b2 K' hk⟩
      · obtain ⟨a1, a2⟩ := hv
        rename_i esz els
        have hd : els[i]? = some (els[i]'a1) := by rw [List.getElem?_eq_getElem]
        obtain ⟨d, b1, b2⟩ := vpart_det (a2 _ hd)
        refine ⟨d, b1, fun h' hx K' hk => ?_⟩
        have hx' : Ext h h' := by simpa [AOp.stable] using hx
        rw [hx' n (by rw [hn]; simp), hn]
        refine ⟨a1, fun y hy => ?_⟩
        rw [hd] at hy
        cases hy
        exact b2 K' hk
      · obtain ⟨a1, a2⟩ := hv
        rename_i esz els
        have hd : els[i]? = some (els[i]'a1) := by rw [List.getElem?_eq_getElem]
        obtain ⟨d, b1, b2⟩ := vpart_det (a2 _ hd)
        refine ⟨d, b1, fun h' hx K' hk => ?_⟩
        have hx' : Ext h h' := by simpa [AOp.stable] using hx
        rw [hx' n (by rw [hn]; simp), hn]
        refine ⟨a1, fun y hy => ?_⟩
        rw [hd] at hy
        cases hy
        exact b2 K' hk
    · obtain ⟨d, b1, b2⟩ := vpart_det hv
      exact ⟨d, b1, fun _ _ K' hk => b2 K' hk⟩
  case slc x lo hi mx esz =>
    simp only [vcdOp, vcOp] at hv ⊢
    cases hc : x.get e <;> simp only [hc] at hv ⊢ <;> try exact hv.elim
    · obtain ⟨l, h1, l2⟩ := vopt_det hv
      obtain ⟨r, h1, r2⟩ := vopt_det h1
      obtain ⟨m, h1, m2⟩ := vopt_det h1
      obtain ⟨a1, a2, a3, a4⟩ := h1
      exact ⟨_, a4, fun h' _ K' hk => l2 _ (r2 _ (m2 _ ⟨a1, a2, a3, hk⟩))⟩
    · obtain ⟨l, h1, l2⟩ := vopt_det hv
      obtain ⟨r, h1, r2⟩ := vopt_det h1
      obtain ⟨m, h1, m2⟩ := vopt_det h1
      obtain ⟨a1, a2, a3, a4, a5, a6⟩ := h1
      exact ⟨_, a6, fun h' _ K' hk => l2 _ (r2 _ (m2 _ ⟨a1, a2, a3, a4, a5, hk⟩))⟩
    · obtain ⟨l, h1, l2⟩ := vopt_det hv
      obtain ⟨r, h1, r2⟩ := vopt_det h1
      obtain ⟨m, h1, m2⟩ := vopt_det h1
      obtain ⟨a1, a2, a3, a4, ⟨els, a5⟩, a6⟩ := h1
      exact ⟨_, a6, fun h' hx K' hk => l2 _ (r2 _ (m2 _ ⟨a1, a2, a3, a4, ⟨els, Ext.row (by simpa [AOp.stable] using hx) a5⟩, hk⟩))⟩
  case nilq neg x =>
    simp only [vcdOp, vcOp] at hv ⊢
    cases hc : x.get e <;> simp only [hc] at hv ⊢ <;> try exact hv.elim
    · exact ⟨_, hv, fun _ _ _ h => h⟩
    · rename_i xs
      cases xs with
      | nil => exact hv.elim
      | cons d r => exact ⟨_, hv, fun _ _ _ h => h⟩
  case sslc x lo hi =>
    simp only [vcdOp, vcOp] at hv ⊢
    cases hc : x.get e <;> simp only [hc] at hv ⊢ <;> try exact hv.elim
    obtain ⟨l, h1, l2⟩ := vopt_det hv
    obtain ⟨r, h1, r2⟩ := vopt_det h1
    obtain ⟨a1, a2, a3, a4⟩ := h1
    exact ⟨_, a4, fun h' _ K' hk => l2 _ (r2 _ ⟨a1, a2, a3, hk⟩)⟩
  case call f as =>
    simp only [vcdOp, callOk_iff] at hv ⊢
    obtain ⟨r, h1, h2, h3, h4⟩ := hv
    refine ⟨r, h4, fun h' hx K' hk => ?_⟩
    have hx' : Ext h h' := by simpa [AOp.stable] using hx
    have e1 : (as.map fun x => (x.get e).fz h') = as.map fun x => (x.get e).fz h := List.map_congr_left fun x hm => (fz_ext hx' (h2 x hm).2.1).1
    refine ⟨r, by rw [e1]; exact h1, fun x hm => ⟨(h2 x hm).1, (fz_ext hx' (h2 x hm).2.1).2, by rw [(fz_ext hx' (h2 x hm).2.1).1]; exact (h2 x hm).2.2⟩, h3.imp id (fun hz n hn => by
      obtain ⟨e1, e2, e3⟩ := hz n hn
      exact ⟨e1, e2, by rw [hx' n (by rw [e3]; simp)]; exact e3⟩), hk⟩
  case mkf f a b => exact ⟨_, hv, fun _ _ _ h => h⟩
  case mn x y =>
    simp only [vcdOp, vcOp] at hv ⊢
    cases hc : x.get e <;> simp only [hc] at hv ⊢ <;> try exact hv.elim
    cases hd : y.get e <;> simp only [hd] at hv ⊢ <;> try exact hv.elim
    exact ⟨_, hv.2, fun _ _ _ h => ⟨hv.1, h⟩⟩
  case mx x y =>
    simp only [vcdOp, vcOp] at hv ⊢
    cases hc : x.get e <;> simp only [hc] at hv ⊢ <;> try exact hv.elim
    cases hd : y.get e <;> simp only [hd] at hv ⊢ <;> try exact hv.elim
    exact ⟨_, hv.2, fun _ _ _ h => ⟨hv.1, h⟩⟩
  case mn3 x y z =>
    simp only [vcdOp, vcOp] at hv ⊢
    cases hc : x.get e <;> simp only [hc] at hv ⊢ <;> try exact hv.elim
    cases hd : y.get e <;> simp only [hd] at hv ⊢ <;> try exact hv.elim
    cases hz : z.get e <;> simp only [hz] at hv ⊢ <;> try exact hv.elim
    exact ⟨_, hv.2.2, fun _ _ _ h => ⟨hv.1, hv.2.1, h⟩⟩
  case mx3 x y z =>
    simp only [vcdOp, vcOp] at hv ⊢
    cases hc : x.get e <;> simp only [hc] at hv ⊢ <;> try exact hv.elim
    cases hd : y.get e <;> simp only [hd] at hv ⊢ <;> try exact hv.elim
    cases hz : z.get e <;> simp only [hz] at hv ⊢ <;> try exact hv.elim
    exact ⟨_, hv.2.2, fun _ _ _ h => ⟨hv.1, hv.2.1, h⟩⟩

end Go.Am
/- The abstract machine, part 23: such operations do what is said of them. No condition. -/
namespace Go.Am
open Go

variable [GTab]

variable {P : Program} {nt : Nat}

theorem all_vone {d : D} (h : ∀ y, y ∈ d.cells → y.vone = true) : AllOne d := fun y hy => D.vone_one (h y hy)

theorem v_bldS {o : Oper} {t elem : TypeId} {len esz : Nat} {ps : Array (Nat × Operand)} {qs : List (Nat × Arg)} {zd : D} (ho : o.op = .buildSlice t len ps) (hu : P.underlying t = some (.slice elem))
    (ht : (P.info? elem).map (·.size) = some esz) (hpos : 0 < esz) (hz : cZero P elem = some zd) (hsz : zd.cells.length = esz) (hq : cPartsS len ps.toList = some qs) (hmax : len * esz ≤ 16777216)
    (hd : ∀ i, o.dst = some i → i < nt) {K : D → Prop} {e : LEnv} {h : Heap} {fz : Bool} (hv : vcdOp P (.bldS fz esz len zd qs) K e h) :
    aop P nt o (fun t' h' => ∃ d, t' = (e.put o.dst d).get ∧ K d ∧ h' = h) e.get h := by
  obtain ⟨z, hz1, hz2⟩ := cZero_spec hz
  intro hnd r c w a Q hh hp hr hs
  subst hh
  simp only [vcdOp, bldOk_iff, bldV_iff] at hv
  obtain ⟨hparts, hvone, hzone, hk⟩ := hv
  obtain ⟨hlen, hspec⟩ := cPartsS_spec hq
  have hpart : ∀ (k : Nat) (p : Nat × Operand) (q : Nat × Arg), ps.toList[k]? = some p → qs[k]? = some q → RelD c (q.2.get e) (a.eval p.2) ∧ AllOne (q.2.get e) ∧ (q.2.get e).cells.length = esz := by
    intro k p q hpk hqk
    obtain ⟨_, s2, _⟩ := hspec k p q hpk hqk
    obtain ⟨_, q2, q3⟩ := hparts q (List.mem_of_getElem? hqk)
    exact ⟨cArg_rel s2 hs, q3, q2⟩
  let els := setEls (List.replicate len zd) (qs.map fun p => (p.1, p.2.get e))
  have huni0 : ∀ e, e ∈ List.replicate len zd → e.cells.length = esz := fun e he => by rw [List.eq_of_mem_replicate he]; exact hsz
  have hDlen : ∀ p, p ∈ qs.map (fun p => (p.1, p.2.get e)) → p.2.cells.length = esz ∧ p.1 < (List.replicate len zd).length := by
    intro p hpm
    simp only [List.mem_map] at hpm
    obtain ⟨q, hqm, rfl⟩ := hpm
    exact ⟨(hparts q hqm).2.1, by simp; exact (hparts q hqm).1⟩
  have huni : ∀ e, e ∈ els → e.cells.length = esz := setEls_uni _ huni0 (fun p hp => (hDlen p hp).1)
  have hels : els.length = len := by simp only [els]; rw [setEls_len]; simp
  have hzr := rel_cells (ofV_rel hz2 c) (ofV_allOne hz2)
  let vs0 := (Array.range (len * esz)).map (fun k => z.cells[k % z.cells.size]!)
  let vals : List (Nat × Value) := ps.toList.map fun p => (p.1, a.eval p.2)
  obtain ⟨cells', g1, g2, g3⟩ := fill_rel (c := c) (fun i => some (i * esz, esz)) vals ((qs.map fun p => (p.1, p.2.get e)).map fun p => (p.1 * esz, esz, p.2.cells)) vs0 (flat (List.replicate len zd)) (zero_rows hzr hsz hpos)
    (by simp [vals, hlen]) (by
      intro k p q hpk hqk
      simp only [vals, List.getElem?_map, Option.map_eq_some_iff] at hpk hqk
      obtain ⟨p', hp', rfl⟩ := hpk
      obtain ⟨q'', ⟨q', hq', rfl⟩, rfl⟩ := hqk
      obtain ⟨s1, s2, s3⟩ := hspec k p' q' hp' hq'
      obtain ⟨f1, f2, f3⟩ := hpart k p' q' hp' hq'
      refine ⟨by simp [s1], rel_cells f1 f2, f3, ?_⟩
      rw [flat_len huni0]
      simp only [List.length_replicate]
      have := Nat.mul_le_mul_right esz (show q'.1 + 1 ≤ len from s3)
      rw [Nat.add_mul] at this
      omega)
  rw [fillD_flat _ huni0 hDlen] at g2
  have hc' : cells'.size = len * esz := by
    have := g2.len
    rw [flat_len huni, hels] at this
    simpa using this
  have hrun : (execOp a.eval o).run P w = .ok (.value (.slice (some ⟨w.heap.size, 0, none⟩) len len)) (w.alloc (.cells cells' elem)) := by
    have hvs : ps.map (fun (i, x) => (i, a.eval x)) = vals.toArray := by apply Array.ext'; simp [vals]
    by_cases h0 : len * esz = 0
    · have hv0 : vs0 = #[] := by apply Array.eq_empty_of_size_eq_zero; simp [vs0, h0]
      rw [hv0] at g1
      simp [execOp, ho, hvs, Instr.buildSlice, run_underlying hu, run_sizeOf ht, h0, Array.range_zero', g1, run_newRow]
    · simp [execOp, ho, hvs, Instr.buildSlice, run_underlying hu, run_sizeOf ht, h0, show ¬ (16777216 < len * esz) by omega, run_zeroValue hz1, vs0] at g1 ⊢
      simp [g1, run_newRow]
  have hgrow := grow_step hr (.cells cells' elem)
  have heap : (w.alloc (.cells cells' elem)).heap = c.hp.push (.cells cells' elem) := by rw [hp]; rfl
  have hvone' : ∀ i j d, cellIn els i j = some d → d.vone = true := by
    -- each element is one of the parts or a zero
    have mem : ∀ (l : List (Nat × D)) (e0 : List D), (∀ y, y ∈ e0 → ∀ x, x ∈ y.cells → x.vone = true) → (∀ p, p ∈ l → ∀ x, x ∈ p.2.cells → x.vone = true) → ∀ y, y ∈ setEls e0 l → ∀ x, x ∈ y.cells → x.vone = true := by
      intro l
      induction l with
      | nil => intro e0 h1 _; exact h1
      | cons p r ih =>
        intro e0 h1 h2
        obtain ⟨i, d⟩ := p
        refine ih _ (fun y hy => ?_) (fun q hq => h2 q (by simp [hq]))
        rcases List.mem_or_eq_of_mem_set hy with h | h
        · exact h1 y h
        · rw [h]; exact h2 (i, d) (by simp)
    intro i j d hd
    unfold cellIn at hd
    cases hz : els[i]? with
    | none => simp [hz] at hd
    | some y =>
      simp only [hz, Option.bind_some] at hd
      refine mem _ _ (fun y hy => by rw [List.eq_of_mem_replicate hy]; exact hzone) (fun p hpm => ?_) y (List.mem_of_getElem? hz) d (List.mem_of_getElem? hd)
      simp only [List.mem_map] at hpm
      obtain ⟨q, hqm, rfl⟩ := hpm
      exact hvone q hqm
  have hrel : RelD ⟨c.ρ, c.X, c.h, c.hp.push (.cells cells' elem)⟩ (.sl els) (.slice (some ⟨w.heap.size, 0, none⟩) len len) := by
    have hml : len ≤ maxLen := by unfold maxLen; have := Nat.le_mul_of_pos_right len hpos; omega
    by_cases h0 : len = 0
    · have : els = [] := List.eq_nil_of_length_eq_zero (by omega)
      rw [this, h0]
      exact .slE _ _ (by simp [maxLen])
    · have := RelD.sl (c := ⟨c.ρ, c.X, c.h, c.hp.push (.cells cells' elem)⟩) els w.heap.size 0 len esz (fun i j => cells'.getD (i * esz + j) Go.undef) (by intro e0; rw [e0] at hels; simp at hels; omega) (by omega) hml hpos huni hvone'
        (fun i j d hd => by
          rw [Nat.zero_add]
          refine cellOf_getD (ty := elem) (fr := (0, 0)) (by simp only; rw [← hp]; exact push_get _ _) ?_
          have := (List.getElem?_eq_some_iff.1 (flat_get huni hd)).1
          rw [flat_len huni, hels] at this
          omega) ?_ (fun i j d hd => by
          obtain ⟨_, p2⟩ := g2.rel _ d (flat_get huni hd)
          rw [toList_getD] at p2
          exact p2.mono hgrow.1)
      · rw [hels] at this; exact this
      · rintro (hX | ⟨n, hm, hρ⟩)
        · have := hr.xlt _ hX; rw [hp] at this; omega
        · have := mine_lt hr hm hρ; rw [hp] at this; omega
  refine rF_upon hnd hrun ?_
  refine ⟨c.ρ, (e.put o.dst (.sl els)).get, c.h, by rw [heap]; exact hgrow.1, by rw [heap]; exact hgrow.2, ⟨rfl, rfl, rfl⟩, ?_, .sl els, rfl, hk, rfl⟩
  rw [heap, LEnv.get_put]
  exact (hs.mono hgrow.1).put hd hrel

theorem vcOp_heap {op : AOp} (hval : op.isVal = true) (hb : ∀ a b c d e, op ≠ .bldS a b c d e) (hc : ∀ f as, op ≠ .call f as) {K : D → Heap → Prop} {e : LEnv} {h : Heap} (hv : vcOp P op (fun d _ => K d h) e h) : vcOp P op K e h := by
  cases op <;> simp only [AOp.isVal] at hval <;> first
    | (cases hval; done)
    | exact hv
    | exact absurd rfl (hb _ _ _ _ _)
    | exact absurd rfl (hc _ _)

def AOp.plainVal : AOp → Bool
  | .bldS _ _ _ _ _ => false
  | .call _ _ => false
  | op => op.isVal

/-- The short form of an operation that leaves the abstract heap as it is. -/
def cdOp (P : Program) (o : Oper) : Option AOp :=
  match o.op with
  | .buildSlice t len ps => match P.underlying t with
    | some (.slice e) => match (P.info? e).map (·.size), cZero P e, cPartsS len ps.toList with
      | some n, some z, some qs => if 0 < n ∧ z.cells.length = n ∧ len * n ≤ 16777216 then some (.bldS false n len z qs) else none
      | _, _, _ => none
    | _ => none
  | .call { callee := .value (.func f), args := args, argTypes := _ } => if cCallee P f then (args.toList.mapM cArg).map (.call f) else none
  | _ => match cOp P false o with
    | some op => if op.plainVal then some op else none
    | none => none

theorem v_plain {o : Oper} {op : AOp} (hcop : cOp P false o = some op) (hpl : op.plainVal = true) (hd : ∀ i, o.dst = some i → i < nt) {K : D → Prop} {e : LEnv} {h : Heap} (hv : vcdOp P op K e h) :
    aop P nt o (fun t' h' => ∃ d, t' = (e.put o.dst d).get ∧ K d ∧ h' = h) e.get h := by
  have hval : op.isVal = true := by cases op <;> simp_all [AOp.plainVal, AOp.isVal]
  have plain : vcOp P op (fun d _ => K d ∧ h = h) e h → aop P nt o (fun t' h' => ∃ d, t' = (e.put o.dst d).get ∧ K d ∧ h' = h) e.get h := by
    intro hv
    have := cOp_sound (nt := nt) hcop hd (fun d h' => K d ∧ h' = h) e h (vcOp_heap hval (by rintro a b c d e rfl; simp [AOp.plainVal] at hpl) (by rintro f as rfl; simp [AOp.plainVal] at hpl) hv)
    refine aop_mono ?_ this
    rintro t' h' ⟨d, rfl, hk, rfl⟩
    exact ⟨d, rfl, hk, rfl⟩
  obtain ⟨d, hk, hdet⟩ := vcdOp_det hval hv
  have again := hdet h (by split; exact fun n v hn => ⟨v, hn⟩; exact fun n _ => rfl) (fun d => K d ∧ h = h) ⟨hk, rfl⟩
  cases op <;> simp only [AOp.plainVal, AOp.isVal] at hpl <;> try (cases hpl; done)
  case fadd x off =>
    refine plain ?_
    simp only [vcdOp] at again
    simp only [vcOp]
    cases hx : x.get e <;> simp only [hx] at again ⊢ <;> try exact again.elim
    · obtain ⟨⟨v, hb⟩, hk'⟩ := again
      exact ⟨by rw [hb]; rfl, hk'⟩
    · exact again
  all_goals exact plain again

theorem freezeAll_same : ∀ (ns : List Nat) {h : Heap}, FrzAll h ns → h.freezeAll ns = h
  | [], _, _ => rfl
  | n :: r, h, hz => by
    obtain ⟨e, l, hn⟩ := hz n (List.mem_cons_self)
    have : h.freeze n = h := by unfold Heap.freeze; rw [hn]
    simp only [Heap.freezeAll, this]
    exact freezeAll_same r fun m hm => hz m (List.mem_cons_of_mem _ hm)

theorem v_call {o : Oper} {f : FuncId} {args : Array Operand} {ats : Array TypeId} {args' : List Arg} (ho : o.op = .call { callee := .value (.func f), args := args, argTypes := ats }) (ha : args.toList.mapM cArg = some args')
    (hd : ∀ i, o.dst = some i → i < nt) (hf : cCallee P f = true) {K : D → Prop} {e : LEnv} {h : Heap} (hv : vcdOp P (.call f args') K e h) :
    aop P nt o (fun t' h' => ∃ d, t' = (e.put o.dst d).get ∧ K d ∧ h' = h) e.get h := by
  simp only [vcdOp, callOk_iff] at hv
  obtain ⟨r, h1, h2, h3, h4⟩ := hv
  have hac : ACall P f (args'.map (·.get e)) h fun d h' => K d ∧ h' = h := by
    refine ACall.mono ?_ (acall_of_vcall (ds := args'.map (·.get e)) (K := (· = r)) (by rw [List.map_map]; exact h1) (fun d hd => ?_))
    · rintro d h' ⟨rfl, k1, k2⟩
      refine ⟨h4, ?_⟩
      by_cases hc : d.flat = true ∨ (args'.map (·.get e)).flatMap D.nm = []
      · exact k1 hc
      · rw [k2 hc]
        rcases h3 with h3 | h3
        · exact absurd (Or.inl h3) hc
        · refine freezeAll_same _ fun n hn => h3 n ?_
          rw [List.flatMap_map] at hn
          exact hn
    · simp only [List.mem_map] at hd
      obtain ⟨x, hx, rfl⟩ := hd
      exact h2 x hx
  have := s_call (nt := nt) ho ha hd hf (fun d h' => K d ∧ h' = h) e h hac
  refine aop_mono ?_ this
  rintro t' h' ⟨d, rfl, hk, rfl⟩
  exact ⟨d, rfl, hk, rfl⟩

theorem cdOp_sound {o : Oper} {op : AOp} (hc : cdOp P o = some op) (hd : ∀ i, o.dst = some i → i < nt) {K : D → Prop} {e : LEnv} {h : Heap} (hv : vcdOp P op K e h) :
    aop P nt o (fun t' h' => ∃ d, t' = (e.put o.dst d).get ∧ K d ∧ h' = h) e.get h := by
  unfold cdOp at hc
  split at hc
  · rename_i t len ps ho
    split at hc
    · rename_i el hu
      split at hc
      · rename_i h1 h2 h3
        split at hc
        · rename_i hcc
          simp at hc; subst hc
          exact v_bldS ho hu h1 hcc.1 h2 hcc.2.1 h3 hcc.2.2 hd hv
        · cases hc
      · cases hc
    · cases hc
  · rename_i f args ats ho
    split at hc
    · rename_i hf
      simp at hc; obtain ⟨ys, hy, rfl⟩ := hc
      exact v_call ho hy hd hf hv
    · cases hc
  · split at hc
    · rename_i op' hop
      split at hc
      · rename_i hpl
        simp at hc; subst hc
        exact v_plain hop hpl hd hv
      · cases hc
    · cases hc

theorem cdOp_nodefer {o : Oper} {op : AOp} (h : cdOp P o = some op) : ∀ c, o.op ≠ .defer c := by
  intro c hc
  simp [cdOp, cOp, cOp0, deadOp, hc] at h

theorem cdOp_isVal {o : Oper} {op : AOp} (hc : cdOp P o = some op) : op.isVal = true := by
  unfold cdOp at hc
  split at hc
  · split at hc
    · split at hc
      · split at hc
        · simp at hc; subst hc; rfl
        · cases hc
      · cases hc
    · cases hc
  · split at hc
    · simp at hc; obtain ⟨ys, _, rfl⟩ := hc; rfl
    · cases hc
  · split at hc
    · rename_i op' _
      split at hc
      · rename_i hpl
        simp at hc; subst hc
        cases op' <;> simp_all [AOp.plainVal, AOp.isVal]
      · cases hc
    · cases hc

end Go.Am
/- The abstract machine, part 24: regions whose order is open. No condition. -/
namespace Go.Am
open Go

variable [GTab]

variable {P : Program} {nt : Nat}

def AOper.rd (a : AOper) : List Nat := a.op.reads ++ (match a.guard with | some (g, _) => [g] | none => [])

def ValRdy (P : Program) (a : AOper) (e : LEnv) (h : Heap) : Prop :=
  ∃ d, (∀ s, a.dst = some s → e.get s = d) ∧ match a.guard with
    | none => ∀ K' : D → Prop, K' d → vcdOp P a.op K' e h
    | some (g, want) => ∃ b, gv (e.get g) = some b ∧ (b = some want → ∀ K' : D → Prop, K' d → vcdOp P a.op K' e h) ∧ (b ≠ some want → d = gU)

theorem ValRdy.congr {a : AOper} {e e' : LEnv} {h : Heap} (hrd : ∀ i, i ∈ a.rd → e.get i = e'.get i) (hd : ∀ s, a.dst = some s → e'.get s = e.get s) (hv : ValRdy P a e h) : ValRdy P a e' h := by
  obtain ⟨d, h1, h2⟩ := hv
  refine ⟨d, fun s hs => (hd s hs).trans (h1 s hs), ?_⟩
  have hop : ∀ i, i ∈ a.op.reads → e.get i = e'.get i := fun i hi => hrd i (by simp [AOper.rd, hi])
  cases hg : a.guard with
  | none => rw [hg] at h2; exact fun K' hk => vcdOp_congr hop K' h (h2 K' hk)
  | some p =>
    obtain ⟨g, want⟩ := p
    rw [hg] at h2
    obtain ⟨b, q1, q2, q3⟩ := h2
    exact ⟨b, by rw [← hrd g (by simp [AOper.rd, hg])]; exact q1, fun hb K' hk => vcdOp_congr hop K' h (q2 hb K' hk), q3⟩

theorem ValRdy.ext {a : AOper} (hval : a.op.isVal = true) {e : LEnv} {h h' : Heap} (hx : if a.op.stable then BoxExt h h' else Ext h h') (hv : ValRdy P a e h) : ValRdy P a e h' := by
  obtain ⟨d, h1, h2⟩ := hv
  have step : (∀ K' : D → Prop, K' d → vcdOp P a.op K' e h) → ∀ K' : D → Prop, K' d → vcdOp P a.op K' e h' := by
    intro hk K' hk'
    obtain ⟨d', rfl, hdet⟩ := vcdOp_det hval (hk (· = d) rfl)
    exact hdet h' hx K' hk'
  refine ⟨d, h1, ?_⟩
  cases hg : a.guard with
  | none => rw [hg] at h2; exact step h2
  | some p =>
    obtain ⟨g, want⟩ := p
    rw [hg] at h2
    obtain ⟨b, q1, q2, q3⟩ := h2
    exact ⟨b, q1, fun hb => step (q2 hb), q3⟩

/-- The operations that give values, one after the other: their end, and that each has its value there. -/
theorem vals_end : ∀ (vals : List AOper), (∀ a, a ∈ vals → a.op.isVal = true) → (∀ a, a ∈ vals → ∀ s, a.dst = some s → s ∉ a.rd) → vals.Pairwise (fun a b => ∀ s, b.dst = some s → a.dst ≠ some s ∧ s ∉ a.rd) →
    ∀ {K : LEnv → Heap → Prop} {e : LEnv} {h : Heap}, vcVals P vals K e h → ∃ T : LEnv, K T h ∧ (∀ s, (∀ a, a ∈ vals → a.dst ≠ some s) → T.get s = e.get s) ∧ ∀ a, a ∈ vals → ValRdy P a T h := by
  intro vals
  induction vals with
  | nil => intro _ _ _ K e h hv; exact ⟨e, hv, fun _ _ => rfl, by simp⟩
  | cons a r ih =>
    intro hval hself hpw K e h hv
    rw [List.pairwise_cons] at hpw
    obtain ⟨hpa, hpr⟩ := hpw
    have ih' := fun e' => @ih (fun b hb => hval b (by simp [hb])) (fun b hb => hself b (by simp [hb])) hpr K e' h
    have fin : ∀ d, vcVals P r K (e.put a.dst d) h → (match a.guard with
        | none => ∀ K' : D → Prop, K' d → vcdOp P a.op K' e h
        | some (g, want) => ∃ b, gv (e.get g) = some b ∧ (b = some want → ∀ K' : D → Prop, K' d → vcdOp P a.op K' e h) ∧ (b ≠ some want → d = gU)) →
        ∃ T : LEnv, K T h ∧ (∀ s, (∀ b, b ∈ a :: r → b.dst ≠ some s) → T.get s = e.get s) ∧ ∀ b, b ∈ a :: r → ValRdy P b T h := by
      intro d hr hm
      obtain ⟨T, t1, t2, t3⟩ := ih' _ hr
      have hput : ∀ s, a.dst ≠ some s → (e.put a.dst d).get s = e.get s := by
        intro s hs
        rw [LEnv.get_put]
        cases hd : a.dst with
        | none => rfl
        | some j =>
          have : s ≠ j := by rintro rfl; exact hs hd
          simp [Env.put, upd, this]
      have hrd : ∀ i, i ∈ a.rd → T.get i = e.get i := by
        intro i hi
        rw [t2 i (fun b hb hbd => (hpa b hb i hbd).2 hi), hput i (fun hd => hself a (by simp) i hd hi)]
      refine ⟨T, t1, fun s hs => ?_, fun b hb => ?_⟩
      · rw [t2 s (fun b hb => hs b (by simp [hb])), hput s (hs a (by simp))]
      · rcases List.mem_cons.1 hb with rfl | hb
        · refine ValRdy.congr (e := e.put b.dst d) (fun i hi => ?_) (fun s hs => ?_) ⟨d, fun s hs => by rw [LEnv.get_put, hs]; simp [Env.put, upd], ?_⟩
          · rw [hrd i hi, hput i (fun hd => hself b (by simp) i hd hi)]
          · exact t2 s (fun c hc hcd => (hpa c hc s hcd).1 hs)
          · have hop : ∀ i, i ∈ b.rd → e.get i = (e.put b.dst d).get i := fun i hi => (hput i (fun hd => hself b (by simp) i hd hi)).symm
            have hop' : ∀ i, i ∈ b.op.reads → e.get i = (e.put b.dst d).get i := fun i hi => hop i (by simp [AOper.rd, hi])
            cases hg : b.guard with
            | none => rw [hg] at hm; exact fun K' hk => vcdOp_congr hop' K' h (hm K' hk)
            | some p =>
              obtain ⟨g, want⟩ := p
              rw [hg] at hm
              obtain ⟨x, q1, q2, q3⟩ := hm
              exact ⟨x, by rw [← hop g (by simp [AOper.rd, hg])]; exact q1, fun hx K' hk => vcdOp_congr hop' K' h (q2 hx K' hk), q3⟩
        · exact t3 b hb
    simp only [vcVals, vcdOper, vguard1] at hv
    cases hg : a.guard with
    | none =>
      simp only [hg] at hv fin
      obtain ⟨d, k1, k2⟩ := vcdOp_det (hval a (by simp)) hv
      exact fin d k1 (fun K' hk => k2 h (by split; exact fun n v hn => ⟨v, hn⟩; exact fun n _ => rfl) K' hk)
    | some p =>
      obtain ⟨g, want⟩ := p
      simp only [hg] at hv fin
      cases hb : gv (e.get g) <;> simp only [hb] at hv <;> try exact hv.elim
      rename_i b
      by_cases hbw : b = some want
      · obtain ⟨d, k1, k2⟩ := vcdOp_det (hval a (by simp)) (hv.1 hbw)
        exact fin d k1 ⟨b, hb, fun _ K' hk => k2 h (by split; exact fun n v hn => ⟨v, hn⟩; exact fun n _ => rfl) K' hk, fun hne => absurd hbw hne⟩
      · exact fin gU (hv.2 hbw) ⟨b, hb, fun h => absurd h hbw, fun _ => rfl⟩

/-- Operations at the end of a region: those that make or turn memory, and assignments. -/
def AOp.isTail : AOp → Bool
  | .alloc _ => true
  | .box _ => true
  | .mk _ _ _ _ _ => true
  | .st _ _ _ => true
  | .app _ _ _ _ _ => true
  | .cpy _ _ _ => true
  | .mov _ => true
  | .fadd _ _ => false
  | op => op.plainVal
def AOp.mut : AOp → Bool
  | .st _ _ _ => true
  | .app _ _ _ _ _ => true
  | .cpy _ _ _ => true
  | _ => false

theorem ext_new {h : Heap} {n : Nat} (hn : h n = .free) (s : Slot) : Ext h (upd h n s) := by
  intro k hk
  have : k ≠ n := by rintro rfl; exact hk hn
  simp [upd, this]

theorem vint_mono {x : D} {K K' : Int → Prop} (hk : ∀ i, K i → K' i) (h : vint x K) : vint x K' := by
  unfold vint at h ⊢
  split at h
  · exact hk _ h
  · exact h.elim
theorem vopt_mono {e : LEnv} {x : Option Arg} {n : Nat} {K K' : Int → Prop} (hk : ∀ i, K i → K' i) (h : vopt e x n K) : vopt e x n K' := by
  cases x with
  | none => exact hk _ h
  | some a => exact vint_mono hk h
theorem vpart_mono {cs : List D} {o s : Nat} {g : Bool} {K K' : D → Prop} (hk : ∀ i, K i → K' i) (h : vpart cs o s g K) : vpart cs o s g K' := by
  unfold vpart at h ⊢
  cases g
  · simp only [Bool.false_eq_true, if_false] at h ⊢
    cases hc : cs[o]? <;> simp only [hc] at h ⊢
    exact hk _ h
  · simp only [if_true] at h ⊢
    exact ⟨h.1, hk _ h.2⟩
theorem vlen_mono {x : D} {h : Heap} {K K' : D → Prop} (hk : ∀ i, K i → K' i) (hv : vlen x h K) : vlen x h K' := by
  unfold vlen at hv ⊢
  split at hv
  · exact hk _ hv
  · exact hk _ hv
  · exact ⟨hv.1, hk _ hv.2⟩
  · exact hv.elim
theorem velems_mono {n : Nat} {x : D} {h : Heap} {K K' : List D → Prop} (hk : ∀ i, K i → K' i) (hv : velems n x h K) : velems n x h K' := by
  unfold velems at hv ⊢
  split at hv
  · exact hk _ hv
  · exact ⟨hv.1, hk _ hv.2⟩
  · obtain ⟨els, h1, h2, h3⟩ := hv
    exact ⟨els, h1, h2, hk _ h3⟩
  · exact hv.elim
theorem vbin_mono {op : BinOp} {x y : D} {K K' : D → Prop} (hk : ∀ i, K i → K' i) (h : vbin op x y K) : vbin op x y K' := by
  obtain ⟨d, h1, h2⟩ := vbin_det h
  exact h2 K' (hk d h1)
theorem vun_mono {op : UnOp} {x : D} {K K' : D → Prop} (hk : ∀ i, K i → K' i) (h : vun op x K) : vun op x K' := by
  obtain ⟨d, h1, h2⟩ := vun_det h
  exact h2 K' (hk d h1)

theorem vcOp_mono {op : AOp} {K K' : D → Heap → Prop} (hk : ∀ d h', K d h' → K' d h') {e : LEnv} {h : Heap} (hv : vcOp P op K e h) : vcOp P op K' e h := by
  cases op <;> simp only [vcOp] at hv ⊢
  case mov x => exact hk _ _ hv
  case pick c a b => cases hc : c.get e <;> simp only [hc] at hv ⊢; exact hk _ _ hv
  case bin op x y => exact vbin_mono (fun d hd => hk d h hd) hv
  case eqv neg agg ks x y =>
    refine ⟨hv.1, hv.2.1, ?_⟩
    have hv := hv.2.2
    unfold veqv at hv ⊢
    split at hv
    · exact hk _ _ hv
    · exact hv.elim
  case un op x => exact vun_mono (fun d hd => hk d h hd) hv
  case conv k x => exact vint_mono (fun i hi => hk _ _ hi) hv
  case ext x i =>
    cases hc : x.get e <;> simp only [hc] at hv ⊢
    rename_i ds
    cases hd : ds[i]? <;> simp only [hd] at hv ⊢
    exact hk _ _ hv
  case fld x o s g => cases hc : x.get e <;> simp only [hc] at hv ⊢; exact vpart_mono (fun d hd => hk d h hd) hv
  case bld z ps => exact ⟨hv.1, hk _ _ hv.2⟩
  case bldS fz esz len z ps => exact ⟨hv.1, hv.2.1, fun n t => hk _ _ (hv.2.2 n t)⟩
  case len x => exact vlen_mono (fun d hd => hk d h hd) hv
  case slen x => cases hc : x.get e <;> simp only [hc] at hv ⊢; exact hk _ _ hv
  case fadd x o =>
    cases hc : x.get e <;> simp only [hc] at hv ⊢
    · exact ⟨hv.1, hk _ _ hv.2⟩
    · exact hk _ _ hv
  case iadd x i n =>
    refine vint_mono (fun i hi => ?_) hv
    cases hc : x.get e <;> simp only [hc] at hi ⊢
    · exact ⟨hi.1, hi.2.1, fun d hd => ⟨(hi.2.2 d hd).1, hk _ _ (hi.2.2 d hd).2⟩⟩
    · exact ⟨hi.1, hi.2.1, hi.2.2.1, hk _ _ hi.2.2.2⟩
  case iadda x i l n =>
    refine vint_mono (fun i hi => ⟨hi.1, hi.2.1, ?_⟩) hv
    have hi := hi.2.2
    cases hc : x.get e <;> simp only [hc] at hi ⊢
    · exact ⟨hi.1, hk _ _ hi.2⟩
    · exact hk _ _ hi
  case sidx x i len size agg =>
    refine vint_mono (fun i hi => ?_) hv
    cases hc : x.get e <;> simp only [hc] at hi ⊢
    · exact ⟨hi.1, hi.2.1, hi.2.2.1, fun b hb => hk _ _ (hi.2.2.2 b hb)⟩
    · exact ⟨hi.1, hi.2.1, hi.2.2.1, vpart_mono (fun d hd => hk d h hd) hi.2.2.2⟩
  case ld x s g =>
    cases hc : x.get e <;> simp only [hc] at hv ⊢
    · rename_i n i j
      cases hn : h n <;> simp only [hn] at hv ⊢
      · exact ⟨hv.1, vpart_mono (fun d hd => hk d h hd) hv.2⟩
      · exact ⟨hv.1, fun d hd => vpart_mono (fun d hd => hk d h hd) (hv.2 d hd)⟩
      · exact ⟨hv.1, fun d hd => vpart_mono (fun d hd => hk d h hd) (hv.2 d hd)⟩
    · exact vpart_mono (fun d hd => hk d h hd) hv
  case st x v s =>
    refine ⟨hv.1, hv.2.1, ?_⟩
    have hv := hv.2.2
    cases hc : x.get e <;> simp only [hc] at hv ⊢
    rename_i n i j
    cases hn : h n <;> simp only [hn] at hv ⊢
    · exact ⟨hv.1, hv.2.1, hk _ _ hv.2.2⟩
    · exact ⟨hv.1, hv.2.1, fun d hd => hk _ _ (hv.2.2 d hd)⟩
  case alloc z => exact fun n t => hk _ _ (hv n t)
  case box x => exact ⟨hv.1, fun n t => hk _ _ (hv.2 n t)⟩
  case mk esz b z l c => exact vint_mono (fun i hi => vint_mono (fun j hj => ⟨hj.1, hj.2.1, hj.2.2.1, hj.2.2.2.1, fun n t => hk _ _ (hj.2.2.2.2 n t)⟩) hi) hv
  case slc x lo hi mx n =>
    cases hc : x.get e <;> simp only [hc] at hv ⊢
    · exact vopt_mono (fun _ h1 => vopt_mono (fun _ h2 => vopt_mono (fun _ h3 => ⟨h3.1, h3.2.1, h3.2.2.1, hk _ _ h3.2.2.2⟩) h2) h1) hv
    · exact vopt_mono (fun _ h1 => vopt_mono (fun _ h2 => vopt_mono (fun _ h3 => ⟨h3.1, h3.2.1, h3.2.2.1, h3.2.2.2.1, h3.2.2.2.2.1, hk _ _ h3.2.2.2.2.2⟩) h2) h1) hv
    · exact vopt_mono (fun _ h1 => vopt_mono (fun _ h2 => vopt_mono (fun _ h3 => ⟨h3.1, h3.2.1, h3.2.2.1, h3.2.2.2.1, h3.2.2.2.2.1, hk _ _ h3.2.2.2.2.2⟩) h2) h1) hv
  case nilq neg x =>
    cases hc : x.get e <;> simp only [hc] at hv ⊢
    · exact hk _ _ hv
    · rename_i xs
      cases xs with
      | nil => exact hv.elim
      | cons d r => exact hk _ _ hv
  case slz x n =>
    cases hc : x.get e <;> simp only [hc] at hv ⊢
    · exact fun n t => hk _ _ (hv n t)
    · exact fun n t => hk _ _ (hv n t)
    · exact ⟨hv.1, fun n t => hk _ _ (hv.2 n t)⟩
  case sslc x lo hi =>
    cases hc : x.get e <;> simp only [hc] at hv ⊢
    exact vopt_mono (fun _ h1 => vopt_mono (fun _ h2 => ⟨h2.1, h2.2.1, h2.2.2.1, hk _ _ h2.2.2.2⟩) h1) hv
  case app s x esz b z =>
    refine velems_mono (fun ys hy => ⟨hy.1, ?_⟩) hv
    have hy := hy.2
    cases hc : s.get e <;> simp only [hc] at hy ⊢
    · exact ⟨hy.1, fun n t => hk _ _ (hy.2 n t)⟩
    · obtain ⟨els, q1, q2, q3, q4, q5⟩ := hy
      exact ⟨els, q1, q2, q3, q4, fun n t => hk _ _ (q5 n t)⟩
  case cpy d s n =>
    refine velems_mono (fun ys hy => ⟨hy.1, ?_⟩) hv
    have hy := hy.2
    cases hc : d.get e <;> simp only [hc] at hy ⊢
    obtain ⟨els, q1, q2, q3⟩ := hy
    exact ⟨els, q1, q2, hk _ _ q3⟩
  case call f as => exact ACall.mono hk hv
  case callv x as =>
    cases hc : x.get e <;> simp only [hc] at hv ⊢
    · exact ⟨hv.1, ACall.mono hk hv.2⟩
    · exact ⟨hv.1, AYield.mono hk hv.2⟩
  case mkf f a b => exact hk _ _ hv
  case mn x y =>
    cases hx : x.get e <;> simp only [hx] at hv ⊢
    cases hy : y.get e <;> simp only [hy] at hv ⊢
    exact ⟨hv.1, hk _ _ hv.2⟩
  case mx x y =>
    cases hx : x.get e <;> simp only [hx] at hv ⊢
    cases hy : y.get e <;> simp only [hy] at hv ⊢
    exact ⟨hv.1, hk _ _ hv.2⟩
  case mn3 x y z =>
    cases hx : x.get e <;> simp only [hx] at hv ⊢
    cases hy : y.get e <;> simp only [hy] at hv ⊢
    cases hz : z.get e <;> simp only [hz] at hv ⊢
    exact ⟨hv.1, hv.2.1, hk _ _ hv.2.2⟩
  case mx3 x y z =>
    cases hx : x.get e <;> simp only [hx] at hv ⊢
    cases hy : y.get e <;> simp only [hy] at hv ⊢
    cases hz : z.get e <;> simp only [hz] at hv ⊢
    exact ⟨hv.1, hv.2.1, hk _ _ hv.2.2⟩

theorem tail_plain {op : AOp} (hp : op.plainVal = true) (hf : ∀ x o, op ≠ .fadd x o) {K : D → Heap → Prop} {e : LEnv} {h : Heap} (hv : vcOp P op K e h) : vcOp P op (fun d h' => K d h' ∧ h' = h) e h := by
  have hval : op.isVal = true := by cases op <;> simp_all [AOp.plainVal, AOp.isVal]
  have hv' : vcdOp P op (fun d => K d h) e h := by
    cases op <;> simp only [AOp.plainVal, AOp.isVal] at hp <;> first
      | (cases hp; done)
      | exact absurd rfl (hf _ _)
      | exact hv
  obtain ⟨d, h1, h2⟩ := vcdOp_det hval hv'
  have r := h2 h (by split; exact fun n v hn => ⟨v, hn⟩; exact fun n _ => rfl) (fun d => K d h ∧ h = h) ⟨h1, rfl⟩
  cases op <;> simp only [AOp.plainVal, AOp.isVal] at hp <;> first
    | (cases hp; done)
    | exact absurd rfl (hf _ _)
    | exact r

theorem tail_heap {op : AOp} (ht : op.isTail = true) {K : D → Heap → Prop} {e : LEnv} {h : Heap} (hv : vcOp P op K e h) : vcOp P op (fun d h' => K d h' ∧ if op.mut then BoxExt h h' else Ext h h') e h := by
  by_cases hp : op.plainVal = true ∧ ∀ x o, op ≠ .fadd x o
  · refine vcOp_mono ?_ (tail_plain hp.1 hp.2 hv)
    rintro d h' ⟨hk, rfl⟩
    refine ⟨hk, ?_⟩
    split
    · exact fun n v hn => ⟨v, hn⟩
    · exact fun n _ => rfl
  cases op <;> simp only [AOp.isTail] at ht <;> first | (cases ht; done) | (exfalso; apply hp; constructor; assumption; intro _ _ h; cases h; done) | skip
  case alloc z => exact fun n hn => ⟨hv n hn, by simpa [AOp.mut] using ext_new hn.free _⟩
  case box x => exact ⟨hv.1, fun n hn => ⟨hv.2 n hn, by simpa [AOp.mut] using ext_new hn.free _⟩⟩
  case mov x => exact ⟨hv, by simp [AOp.mut, Ext]⟩
  case mk esz bytes zero l c =>
    simp only [vcOp] at hv ⊢
    obtain ⟨i, h1, h2⟩ := vint_det hv
    refine h2 _ ?_
    obtain ⟨j, g1, g2⟩ := vint_det h1
    refine g2 _ ?_
    obtain ⟨a1, a2, a3, a4, a5⟩ := g1
    exact ⟨a1, a2, a3, a4, fun n hn => ⟨a5 n hn, by simpa [AOp.mut] using ext_new hn.free _⟩⟩
  case st x v size =>
    simp only [vcOp] at hv ⊢
    refine ⟨hv.1, hv.2.1, ?_⟩
    have hv := hv.2.2
    cases hx : x.get e <;> simp only [hx] at hv ⊢ <;> try exact hv.elim
    rename_i n i j
    cases hn : h n <;> simp only [hn] at hv ⊢ <;> try exact hv.elim
    · refine ⟨hv.1, hv.2.1, hv.2.2, ?_⟩
      simp only [AOp.mut, if_true]
      intro k u hk
      by_cases hkn : k = n
      · subst hkn; exact ⟨_, upd_self _ _ _⟩
      · exact ⟨u, by simp [upd, hkn, hk]⟩
    · refine ⟨hv.1, hv.2.1, fun d hd => ⟨hv.2.2 d hd, ?_⟩⟩
      simp only [AOp.mut, if_true]
      intro k u hk
      have hkn : k ≠ n := by rintro rfl; rw [hn] at hk; cases hk
      exact ⟨u, by simp [upd, hkn, hk]⟩
  case app s x esz bytes zero =>
    simp only [vcOp, velems] at hv ⊢
    have key : ∀ ys : List D, (match s.get e with
        | .nil => (ys.length * bytes ≤ 140737488355328 ∧ ys.length ≤ 9223372036854775807) ∧ ∀ n, Top h n → K (.ms n 0 ys.length) (upd h n (.arr esz ys))
        | .ms m off len => ∃ els, h m = .arr esz els ∧ off = 0 ∧ len = els.length ∧ ((len + ys.length) * bytes ≤ 140737488355328 ∧ len + ys.length ≤ 9223372036854775807) ∧
            ∀ n, Top h n → K (.ms n 0 (len + ys.length)) (upd (upd h m .dead) n (.arr esz (els ++ ys)))
        | _ => False) → (match s.get e with
        | .nil => (ys.length * bytes ≤ 140737488355328 ∧ ys.length ≤ 9223372036854775807) ∧ ∀ n, Top h n → (K (.ms n 0 ys.length) (upd h n (.arr esz ys)) ∧ if (AOp.app s x esz bytes zero).mut then BoxExt h (upd h n (.arr esz ys)) else Ext h (upd h n (.arr esz ys)))
        | .ms m off len => ∃ els, h m = .arr esz els ∧ off = 0 ∧ len = els.length ∧ ((len + ys.length) * bytes ≤ 140737488355328 ∧ len + ys.length ≤ 9223372036854775807) ∧
            ∀ n, Top h n → (K (.ms n 0 (len + ys.length)) (upd (upd h m .dead) n (.arr esz (els ++ ys))) ∧ if (AOp.app s x esz bytes zero).mut then BoxExt h (upd (upd h m .dead) n (.arr esz (els ++ ys))) else Ext h (upd (upd h m .dead) n (.arr esz (els ++ ys))))
        | _ => False) := by
      intro ys hv
      cases hs : s.get e <;> simp only [hs] at hv ⊢ <;> try exact hv.elim
      · exact ⟨hv.1, fun n hn => ⟨hv.2 n hn, by simpa [AOp.mut] using (ext_new hn.free _).box⟩⟩
      · rename_i m off len
        obtain ⟨els, hm, a1, a2, a3, a4⟩ := hv
        refine ⟨els, hm, a1, a2, a3, fun n hn => ⟨a4 n hn, ?_⟩⟩
        simp only [AOp.mut, if_true]
        intro k u hk
        have k1 : k ≠ n := by rintro rfl; rw [hn.free] at hk; cases hk
        have k2 : k ≠ m := by rintro rfl; rw [hm] at hk; cases hk
        exact ⟨u, by simp [upd, k1, k2, hk]⟩
    cases hx : x.get e <;> simp only [hx] at hv ⊢ <;> try exact hv.elim
    · exact ⟨hv.1, key _ hv.2⟩
    · exact ⟨hv.1, hv.2.1, key _ hv.2.2⟩
    · obtain ⟨els, b1, b2, b3, b4⟩ := hv
      exact ⟨els, b1, b2, b3, key _ b4⟩
  case cpy d s esz =>
    simp only [vcOp, velems] at hv ⊢
    have key : ∀ ys : List D, (match d.get e with
        | .ms m off len => ∃ els, h m = .arr esz els ∧ off + len ≤ els.length ∧ K (.int .i64 (min ys.length len : Nat)) (upd h m (.arr esz (els.take off ++ ys.take len ++ els.drop (off + min ys.length len))))
        | _ => False) → (match d.get e with
        | .ms m off len => ∃ els, h m = .arr esz els ∧ off + len ≤ els.length ∧ (K (.int .i64 (min ys.length len : Nat)) (upd h m (.arr esz (els.take off ++ ys.take len ++ els.drop (off + min ys.length len)))) ∧
            if (AOp.cpy d s esz).mut then BoxExt h (upd h m (.arr esz (els.take off ++ ys.take len ++ els.drop (off + min ys.length len)))) else Ext h (upd h m (.arr esz (els.take off ++ ys.take len ++ els.drop (off + min ys.length len)))))
        | _ => False) := by
      intro ys hv
      cases hs : d.get e <;> simp only [hs] at hv ⊢ <;> try exact hv.elim
      rename_i m off len
      obtain ⟨els, hm, a1, a2⟩ := hv
      refine ⟨els, hm, a1, a2, ?_⟩
      simp only [AOp.mut, if_true]
      intro k u hk
      have k2 : k ≠ m := by rintro rfl; rw [hm] at hk; cases hk
      exact ⟨u, by simp [upd, k2, hk]⟩
    cases hx : s.get e <;> simp only [hx] at hv ⊢ <;> try exact hv.elim
    · exact ⟨hv.1, key _ hv.2⟩
    · exact ⟨hv.1, hv.2.1, key _ hv.2.2⟩
    · obtain ⟨els, b1, b2, b3, b4⟩ := hv
      exact ⟨els, b1, b2, b3, key _ b4⟩

end Go.Am
/- The abstract machine, part 25: a region whose order is open, whole. No condition. -/
namespace Go.Am
open Go

variable [GTab]

variable {P : Program} {nt : Nat}

def cdOper (P : Program) (nt : Nat) (ops : Array Oper) (o : Oper) : Option AOper :=
  if o.dst.all (· < nt) then
    match cdOp P o with
    | some op => match o.guard with
      | none => some ⟨o.dst, op, none⟩
      | some (j, want) => match (ops[j]?).bind (·.dst) with
        | some s => some ⟨o.dst, op, some (s, want)⟩
        | none => none
    | none => none
  else none

def ctOper (P : Program) (nt : Nat) (ops : Array Oper) (o : Oper) : Option AOper :=
  match cOper P true nt ops o with
  | some a => if a.op.isTail then some a else none
  | none => none

/-- Facts on an operation and its short form. -/
structure Item (P : Program) (nt : Nat) (ops : Array Oper) (tail : Bool) (o : Oper) (a : AOper) : Prop where
  dst : a.dst = o.dst
  dlt : ∀ j, o.dst = some j → j < nt
  op : if tail then cOp P true o = some a.op ∧ a.op.isTail = true else cdOp P o = some a.op
  gn : o.guard = none → a.guard = none
  gs : ∀ j want, o.guard = some (j, want) → ∃ s, (ops[j]?).bind (·.dst) = some s ∧ a.guard = some (s, want)

theorem cdOper_item {ops : Array Oper} {o : Oper} {a : AOper} (h : cdOper P nt ops o = some a) : Item P nt ops false o a := by
  unfold cdOper at h
  split at h
  case isFalse => cases h
  rename_i hdst
  have hd : ∀ j, o.dst = some j → j < nt := by intro j hj; rw [hj] at hdst; simpa using hdst
  cases hop : cdOp P o with
  | none => simp [hop] at h
  | some op =>
    simp only [hop] at h
    cases hg : o.guard with
    | none => simp [hg] at h; subst h; exact ⟨rfl, hd, by simpa using hop, fun _ => rfl, fun j w hh => by rw [hg] at hh; cases hh⟩
    | some p =>
      obtain ⟨j, want⟩ := p
      simp only [hg] at h
      cases hj : (ops[j]?).bind (·.dst) with
      | none => simp [hj] at h
      | some s => simp [hj] at h; subst h; exact ⟨rfl, hd, by simpa using hop, fun hh => by rw [hg] at hh; (cases hh), fun j' w hh => by rw [hg] at hh; cases hh; exact ⟨s, hj, rfl⟩⟩

theorem ctOper_item {ops : Array Oper} {o : Oper} {a : AOper} (h : ctOper P nt ops o = some a) : Item P nt ops true o a := by
  unfold ctOper at h
  cases hc : cOper P true nt ops o with
  | none => simp [hc] at h
  | some a' =>
    simp only [hc] at h
    split at h
    case isFalse => cases h
    rename_i ht
    simp at h; subst h
    unfold cOper at hc
    split at hc
    case isFalse => cases hc
    rename_i hdst
    have hd : ∀ j, o.dst = some j → j < nt := by intro j hj; rw [hj] at hdst; simpa using hdst
    cases hop : cOp P true o with
    | none => simp [hop] at hc
    | some op =>
      simp only [hop] at hc
      cases hg : o.guard with
      | none => simp [hg] at hc; subst hc; exact ⟨rfl, hd, by simpa using ⟨hop, ht⟩, fun _ => rfl, fun j w hh => by rw [hg] at hh; cases hh⟩
      | some p =>
        obtain ⟨j, want⟩ := p
        simp only [hg] at hc
        cases hj : (ops[j]?).bind (·.dst) with
        | none => simp [hj] at hc
        | some s => simp [hj] at hc; subst hc; exact ⟨rfl, hd, by simpa using ⟨hop, ht⟩, fun hh => by rw [hg] at hh; (cases hh), fun j' w hh => by rw [hg] at hh; cases hh; exact ⟨s, hj, rfl⟩⟩

/-- What is looked at once and for all: which operations come before which. 'masks': for each operation the bits of those before it. -/
structure DChk (P : Program) (nt : Nat) (ops : Array Oper) (items : List AOper) (masks : List Nat) (tl : List Nat) (rev : List AOper) (tw : Bool) : Prop where
  len : items.length = ops.size
  item : ∀ (i : Nat) (o : Oper) (a : AOper), ops[i]? = some o → items[i]? = some a → Item P nt ops (tl.contains i) o a
  edge : ∀ (i : Nat) (o : Oper), ops[i]? = some o → ∀ e, e ∈ o.after.toList → Region.binds .any e = true → e.on < i
  mask : ∀ (i : Nat) (o : Oper), ops[i]? = some o → ∀ k, (masks.getD i 0).testBit k = true → ∃ e, e ∈ o.after.toList ∧ Region.binds .any e = true ∧ (k = e.on ∨ (masks.getD e.on 0).testBit k = true)
  tlt : ∀ i, i ∈ tl → i < ops.size
  tord : ∀ l k i i' : Nat, tl[l]? = some i → tl[k]? = some i' → l < k → (tw = true ∧ l = 0 ∧ k = 1) ∨ (masks.getD i' 0).testBit i = true
  -- a value is read behind it, and written once
  rdv : ∀ (i k : Nat) (a b : AOper), items[i]? = some a → items[k]? = some b → i ∉ tl → ∀ s, a.dst = some s → (i ≠ k → b.dst ≠ some s) ∧ (s ∈ b.rd → i < k ∧ (masks.getD k 0).testBit i = true)
  -- what the end writes is read ahead of it
  rdt : ∀ (i k : Nat) (a b : AOper), items[i]? = some a → items[k]? = some b → i ∈ tl → k ∉ tl → ∀ s, a.dst = some s → s ∈ b.rd → (masks.getD i 0).testBit k = true
  mt : ∀ (i k : Nat) (a b : AOper), items[i]? = some a → items[k]? = some b → i ∈ tl → k ∉ tl → a.op.mut = true → b.op.stable = false → (masks.getD i 0).testBit k = true ∨ b ∈ rev
  rev : ∀ b, b ∈ rev → b.guard = none ∧ b.op.isVal = true ∧ b.dst.isSome = true

def lst (listed : Array Bool) (i : Nat) : Bool := listed.getD i true

structure J (P : Program) (nt : Nat) (ops : Array Oper) (items : List AOper) (masks tl : List Nat) (rev : List AOper) (tw : Bool) (c₀ : Ctx) (w₀ : World) (K : LEnv → Heap → Prop) (listed : Array Bool) (a : Act) (w : World) : Prop where
  size : listed.size = ops.size
  dc : ∀ i k, i < ops.size → lst listed i = true → (masks.getD i 0).testBit k = true → lst listed k = true
  st : ∃ (ρ : Nat → Option Nat) (h : Heap) (e : LEnv) (j : Nat), c₀.le ⟨ρ, c₀.X, h, w.heap⟩ ∧ HeapRel ⟨ρ, c₀.X, h, w.heap⟩ ∧ WS w₀ w ∧ Marks ⟨ρ, c₀.X, h, w.heap⟩ a.defers ∧ a.tmps.size = nt ∧
    (j ≤ tl.length ∧ (tw = true → 2 ≤ j)) ∧ vcTailR P rev ((tl.drop j).filterMap (fun i => items[i]?)) K e h ∧
    (∀ l i, tl[l]? = some i → (lst listed i = true ↔ l < j)) ∧
    (∀ s, (∃ i b, items[i]? = some b ∧ i ∉ tl ∧ lst listed i = false ∧ b.dst = some s) ∨ RelD ⟨ρ, c₀.X, h, w.heap⟩ (e.get s) (a.tmps.getD s Go.undef)) ∧
    (∀ i b, items[i]? = some b → i ∉ tl → lst listed i = false → ValRdy P b e h)

theorem get_list (l : List Nat) (f : Nat → D) (i : Nat) : LEnv.get (l.map fun k => (k, f k)) i = if i ∈ l then f i else .undef := by
  induction l with
  | nil => rfl
  | cons k r ih =>
    simp only [List.map_cons, LEnv.get, List.mem_cons]
    by_cases h : i = k
    · subst h; simp
    · rw [if_neg h, ih]; simp [h]

/-- The other ways out do not matter to one operation. -/
theorem wpOp_other {r : Option Nat} {ops : Array Oper} {Q Q' : Exit → Act → World → Prop} (hq : ∀ e, e ≠ .normal → Q e = Q' e) {i : Nat} {K : Act → World → Prop} {a : Act} {w : World} (h : wpOpIn (rF r) 0 P ops Q i K a w) : wpOpIn (rF r) 0 P ops Q' i K a w := by
  have hl : LetsOut Q = LetsOut Q' := by unfold LetsOut; rw [hq .outgrown (by simp)]
  unfold wpOpIn at h ⊢
  cases ho : ops[i]? with
  | none => simpa [ho] using h
  | some o =>
    simp only [ho] at h ⊢
    split
    · rename_i hw
      rw [if_pos hw] at h
      unfold Oper.wpIn at h ⊢
      refine ⟨h.1, ?_⟩
      have h := h.2
      generalize (o.semAt (rF r).round a.eval).run P w = res at h ⊢
      cases res with
      | ok n w' =>
        cases n <;> simp only [Oper.uponIn] at h ⊢ <;> first
          | exact h
          | (refine ⟨h.1, CallsIn.mono h.2 (fun e w'' he => ?_)⟩
             cases e
             · exact he
             · rename_i ch; show Q' (.panic ch) a w''; rw [← hq (.panic ch) (by simp)]; exact he
             · show LetsOut Q'; rw [← hl]; exact he)
          | (refine ⟨h.1, RoundIn.mono h.2 (fun e w'' he => ?_)⟩
             cases e
             · exact he
             · rename_i ch; show Q' (.panic ch) a w''; rw [← hq (.panic ch) (by simp)]; exact he
             · show LetsOut Q'; rw [← hl]; exact he)
      | halt x w' =>
        cases x <;> simp only [Oper.uponIn] at h ⊢ <;> first
          | exact h
          | (rw [← hq (.panic _) (by simp)]; exact h)
    · rename_i hw
      rw [if_neg hw] at h
      exact h

theorem one_op {ops : Array Oper} {i : Nat} {Kenv : Env → Heap → Prop} {t : Env} {c : Ctx} {w : World} {a : Act} {Q : Exit → Act → World → Prop} {K' : Act → World → Prop} {r : Option Nat}
    (hx : aops P nt ops [i] Kenv t c.h) (hp : c.hp = w.heap) (hr : HeapRel c) (hs : Sim c nt t a) (hk : ∀ a' w', Fin c w nt Kenv a' w' → K' a' w') : wpOpIn (rF r) 0 P ops Q i K' a w := by
  let Q2 : Exit → Act → World → Prop := fun e => match e with | .normal => K' | e => Q e
  have := hx r c w a Q2 rfl hp hr hs hk
  rw [wpOpsIn_cons] at this
  refine wpOp_other (Q := Q2) (fun e he => ?_) this
  cases e <;> first | exact absurd rfl he | rfl

end Go.Am
/- The abstract machine, part 26: a region whose order is open: each step, and the whole. No condition. -/
namespace Go.Am
open Go

variable [GTab]

variable {P : Program} {nt : Nat}

theorem lst_set {listed : Array Bool} {i k : Nat} (hi : i < listed.size) : lst (listed.setIfInBounds i true) k = if k = i then true else lst listed k := by
  unfold lst
  by_cases h : k = i
  · subst h; simp [Array.getD, hi]
  · rw [if_neg h]
    have : i ≠ k := fun e => h e.symm
    by_cases hk : k < listed.size
    · simp [Array.getD, hk, this]
    · simp [Array.getD, hk]

theorem mask_lt {ops : Array Oper} {items : List AOper} {masks tl : List Nat} {rev : List AOper} {tw : Bool} (Dk : DChk P nt ops items masks tl rev tw) : ∀ (i : Nat), i < ops.size → ∀ k, (masks.getD i 0).testBit k = true → k < i := by
  intro i
  induction i using Nat.strongRecOn with
  | _ i ih =>
    intro hi k hk
    have ho : ops[i]? = some ops[i] := by simp [hi]
    obtain ⟨e, he, hb, hc⟩ := Dk.mask i _ ho k hk
    have hlt := Dk.edge i _ ho e he hb
    rcases hc with h | h
    · omega
    · have := ih e.on hlt (by omega) k h
      omega

structure Rdy (ops : Array Oper) (masks : List Nat) (listed : Array Bool) (i : Nat) : Prop where
  lt : i < ops.size
  un : lst listed i = false
  anc : ∀ k, (masks.getD i 0).testBit k = true → lst listed k = true

theorem ready_spec {ops : Array Oper} {listed : Array Bool} {i : Nat} (h : i ∈ Region.ready .any ops listed) : i < ops.size ∧ lst listed i = false ∧ ∀ o, ops[i]? = some o → ∀ e, e ∈ o.after.toList → Region.binds .any e = true → listed.getD e.on false = true := by
  unfold Region.ready at h
  simp only [List.mem_filter, List.mem_range, Bool.and_eq_true, Bool.not_eq_true'] at h
  obtain ⟨h1, h2, h3⟩ := h
  refine ⟨h1, h2, fun o ho e he hb => ?_⟩
  rw [ho] at h3
  simp only [Option.map_some, Option.getD_some, Array.all_eq_true'] at h3
  have := h3 e (by simpa using he)
  simpa [hb] using this

theorem rdy_of' {ops : Array Oper} {items : List AOper} {masks tl : List Nat} {rev : List AOper} {tw : Bool} (Dk : DChk P nt ops items masks tl rev tw) {listed : Array Bool}
    (hsz : listed.size = ops.size) (hdc : ∀ i k, i < ops.size → lst listed i = true → (masks.getD i 0).testBit k = true → lst listed k = true) {i : Nat} (hi : i ∈ Region.ready .any ops listed) : Rdy ops masks listed i := by
  obtain ⟨h1, h2, h3⟩ := ready_spec hi
  refine ⟨h1, h2, fun k hk => ?_⟩
  have ho : ops[i]? = some ops[i] := by simp [h1]
  obtain ⟨e, he, hb, hc⟩ := Dk.mask i _ ho k hk
  have hon := Dk.edge i _ ho e he hb
  have hl : lst listed e.on = true := by
    have := h3 _ ho e he hb
    unfold lst
    have hsz : e.on < listed.size := by rw [hsz]; omega
    simpa [Array.getD, hsz] using this
  rcases hc with rfl | h
  · exact hl
  · exact hdc e.on k (by omega) hl h
theorem rdy_of {ops : Array Oper} {items : List AOper} {masks tl : List Nat} {rev : List AOper} {tw : Bool} (Dk : DChk P nt ops items masks tl rev tw) {c₀ : Ctx} {w₀ : World} {K : LEnv → Heap → Prop} {listed : Array Bool} {a : Act} {w : World}
    (hJ : J P nt ops items masks tl rev tw c₀ w₀ K listed a w) {i : Nat} (hi : i ∈ Region.ready .any ops listed) : Rdy ops masks listed i :=
  rdy_of' Dk hJ.size hJ.dc hi

theorem vcRev_mem : ∀ {rev : List AOper}, (∀ b, b ∈ rev → b.guard = none ∧ b.op.isVal = true) → ∀ {e : LEnv} {h : Heap}, vcRev P rev e h → ∀ b, b ∈ rev → b.dst.isSome = true → ValRdy P b e h
  | [], _, _, _, _, b, hb, _ => by simp at hb
  | x :: r, hrev, e, h, hv, b, hb, hds => by
    rcases List.mem_cons.1 hb with rfl | hb
    · obtain ⟨g1, g2⟩ := hrev b (by simp)
      have hv1 := hv.1
      cases hd : b.dst with
      | none => rw [hd] at hds; cases hds
      | some s =>
        rw [hd] at hv1
        obtain ⟨d', hk, hdet⟩ := vcdOp_det g2 hv1
        have hk' : d' = e.get s := by
          have : [d'] = [e.get s] := hk
          simpa using this
        refine ⟨e.get s, fun s' hs' => by rw [hd] at hs'; cases hs'; rfl, ?_⟩
        rw [g1]
        intro K' hK
        exact hdet h (by split; exact fun n v hn => ⟨v, hn⟩; exact fun n _ => rfl) K' (hk' ▸ hK)
    · exact vcRev_mem (fun b hb => hrev b (by simp [hb])) hv.2 b hb hds

open Classical in
theorem J_step {ops : Array Oper} {items : List AOper} {masks tl : List Nat} {rev : List AOper} {tw : Bool} (Dk : DChk P nt ops items masks tl rev tw) {c₀ : Ctx} {w₀ : World} {K : LEnv → Heap → Prop} {listed : Array Bool} {a : Act} {w : World} {Q : Exit → Act → World → Prop} {r : Option Nat}
    (hJ : J P nt ops items masks tl rev tw c₀ w₀ K listed a w) {i : Nat} (hi : i ∈ Region.ready .any ops listed) :
    wpOpIn (rF r) 0 P ops Q i (J P nt ops items masks tl rev tw c₀ w₀ K (listed.setIfInBounds i true)) a w := by
  have R := rdy_of Dk hJ hi
  have hil : i < listed.size := by rw [hJ.size]; exact R.lt
  have hset := fun k => lst_set (k := k) hil
  obtain ⟨o, ho⟩ : ∃ o, ops[i]? = some o := ⟨ops[i]'R.lt, by simp [R.lt]⟩
  have hitl : i < items.length := by rw [Dk.len]; exact R.lt
  obtain ⟨a0, hai⟩ : ∃ x, items[i]? = some x := ⟨items[i]'hitl, by simp [hitl]⟩
  have It := Dk.item i o a0 ho hai
  obtain ⟨ρ, h, e, j, hle, hr, hws, hdef, hsz, hj, htail, hprog, hrel, hval⟩ := hJ.st
  let c : Ctx := ⟨ρ, c₀.X, h, w.heap⟩
  let pend : Nat → Prop := fun s => ∃ k b, items[k]? = some b ∧ k ∉ tl ∧ lst listed k = false ∧ b.dst = some s
  let ef : LEnv := (a0.rd ++ List.range nt).map fun s => (s, if pend s then D.undef else e.get s)
  have efget : ∀ s, ef.get s = if s ∈ a0.rd ++ List.range nt then (if pend s then .undef else e.get s) else .undef := fun s => get_list _ _ s
  have hsim : Sim c nt ef.get a := by
    refine ⟨hr.glob, hr.lo, hdef, hsz, fun s => ?_⟩
    rw [efget]
    split
    · split
      · exact .undef _
      · rename_i hp
        exact (hrel s).resolve_left hp
    · exact .undef _
  have hread : ∀ r, r ∈ a0.rd → ef.get r = e.get r := by
    intro r hr'
    rw [efget, if_pos (by simp [hr']), if_neg]
    rintro ⟨k, b, hb, hk, hun, hd⟩
    obtain ⟨_, hm⟩ := (Dk.rdv k i b a0 hb hai hk r hd).2 hr'
    have := R.anc k hm
    rw [hun] at this
    cases this
  have hread' : ∀ r, r ∈ a0.op.reads → e.get r = ef.get r := fun r hr' => (hread r (by simp [AOper.rd, hr'])).symm
  have dc' : ∀ i' k, i' < ops.size → lst (listed.setIfInBounds i true) i' = true → (masks.getD i' 0).testBit k = true → lst (listed.setIfInBounds i true) k = true := by
    intro i' k hi' hl hm
    rw [hset] at hl ⊢
    split
    · rfl
    · by_cases h : i' = i
      · subst h; exact R.anc k hm
      · rw [if_neg h] at hl; exact hJ.dc i' k hi' hl hm
  -- what the others have kept
  have keep : ∀ {ρ' : Nat → Option Nat} {h' : Heap} {t' : Env} {a' : Act} {w' : World} {d : D}, c.le ⟨ρ', c.X, h', w'.heap⟩ → Sim ⟨ρ', c.X, h', w'.heap⟩ nt t' a' → t' = (ef.put o.dst d).get → ∀ s, o.dst ≠ some s → ¬ pend s → RelD ⟨ρ', c.X, h', w'.heap⟩ (e.get s) (a'.tmps.getD s Go.undef) := by
    intro ρ' h' t' a' w' d hle' hs' ht s hs hp
    by_cases hsn : s < nt
    · have := hs'.rel s
      rw [ht, LEnv.get_put] at this
      have e1 : Env.put ef.get o.dst d s = e.get s := by
        have : Env.put ef.get o.dst d s = ef.get s := by
          cases hd : o.dst with
          | none => rfl
          | some x =>
            have : s ≠ x := by rintro rfl; exact hs hd
            simp [Env.put, upd, this]
        rw [this, efget, if_pos (by simp [hsn]), if_neg hp]
      rw [e1] at this
      exact this
    · have h1 := (hrel s).resolve_left hp
      have e1 : a.tmps.getD s Go.undef = Go.undef := by simp [Array.getD, hsz, hsn]
      have e2 : a'.tmps.getD s Go.undef = Go.undef := by simp [Array.getD, hs'.size, hsn]
      rw [e1] at h1
      rw [e2]
      exact h1.mono hle'
  by_cases htl : i ∈ tl
  · -- at the region's end
    obtain ⟨l, hl⟩ := List.getElem?_of_mem htl
    have hlj : l = j := by
      have h1 : ¬ l < j := by
        intro hlt
        have := (hprog l i hl).2 hlt
        rw [R.un] at this
        cases this
      rcases Nat.lt_or_ge j l with hgt | hge
      · have hjl : j < tl.length := Nat.lt_trans hgt (List.getElem?_eq_some_iff.1 hl).1
        rcases Dk.tord j l tl[j] i (by simp [hjl]) hl hgt with ⟨t1, t2, t3⟩ | hpw
        · have := hj.2 t1; omega
        have := (hprog j tl[j] (by simp [hjl])).1 (R.anc _ hpw)
        omega
      · omega
    subst hlj
    have hlt := (List.getElem?_eq_some_iff.1 hl).1
    have hli : tl[l] = i := (List.getElem?_eq_some_iff.1 hl).2
    have hdrop : (tl.drop l).filterMap (fun k => items[k]?) = a0 :: (tl.drop (l + 1)).filterMap (fun k => items[k]?) := by
      rw [List.drop_eq_getElem_cons hlt, hli, List.filterMap_cons, hai]
    rw [hdrop] at htail
    let rest := (tl.drop (l + 1)).filterMap (fun k => items[k]?)
    let HR : Heap → Prop := fun h' => if a0.op.mut then BoxExt h h' else Ext h h'
    have hrefl : HR h := by
      simp only [HR]
      split
      · exact fun n v hn => ⟨v, hn⟩
      · exact fun n _ => rfl
    have hop : cOp P true o = some a0.op ∧ a0.op.isTail = true := by have := It.op; rw [if_pos (by simpa using htl)] at this; exact this
    have hnod := cOp_nodefer hop.1
    let Kenv : Env → Heap → Prop := fun t' h' => ∃ d, t' = (ef.put o.dst d).get ∧ (vcRev P rev (e.put a0.dst d) h' ∧ vcTailR P rev rest K (e.put a0.dst d) h') ∧ HR h'
    have run : vcOp P a0.op (fun d h' => vcRev P rev (e.put a0.dst d) h' ∧ vcTailR P rev rest K (e.put a0.dst d) h') e h → aop P nt o (aops P nt ops [] Kenv) ef.get h := by
      intro hv
      have := cOp_sound (nt := nt) hop.1 It.dlt _ ef h (vcOp_congr hread' _ h (tail_heap hop.2 hv))
      refine aop_mono ?_ this
      rintro t' h' ⟨d, rfl, hk⟩
      exact aops_nil ⟨d, rfl, hk.1, hk.2⟩
    have hx : aops P nt ops [i] Kenv ef.get h := by
      refine aops_cons ho hnod a0.guard (fun j' want hg => by obtain ⟨s, h1, h2⟩ := It.gs j' want hg; exact ⟨s, h1, h2⟩) It.gn It.dlt ?_
      simp only [vcTailR, vcOper, vguard] at htail
      cases hg : a0.guard with
      | none => simp only [hg] at htail; exact run htail
      | some p =>
        obtain ⟨g, want⟩ := p
        simp only [hg] at htail
        cases hb : gv (e.get g) <;> simp only [hb] at htail <;> try exact htail.elim
        rename_i b
        refine ⟨b, by rw [hread g (by simp [AOper.rd, hg])]; exact hb, fun hbw => run (htail.1 hbw), fun hbw => ?_⟩
        exact aops_nil ⟨gU, by rw [LEnv.get_put], htail.2 hbw, hrefl⟩
    refine one_op (c := c) hx rfl hr hsim ?_
    rintro a' w' ⟨ρ', t', h', k1, k2, k3, k4, d, ht, hk, hhr⟩
    have hput : ∀ s, a0.dst ≠ some s → (e.put a0.dst d).get s = e.get s := by
      intro s hs
      rw [LEnv.get_put]
      cases hd : a0.dst with
      | none => rfl
      | some x =>
        have : s ≠ x := by rintro rfl; exact hs hd
        simp [Env.put, upd, this]
    refine ⟨by simp [hJ.size], dc', ρ', h', e.put a0.dst d, l + 1, hle.trans k1, k2, hws.trans k3, k4.defers, k4.size, ⟨by omega, fun t => by have := hj.2 t; omega⟩, hk.2, fun l' i' hl' => ?_, fun s => ?_, fun k b hb hk' hun => ?_⟩
    · rw [hset]
      by_cases hii : i' = i
      · subst hii
        rw [if_pos rfl]
        have hl'lt := (List.getElem?_eq_some_iff.1 hl').1
        have hl'i : tl[l'] = i' := (List.getElem?_eq_some_iff.1 hl').2
        have : l' = l := by
          rcases Nat.lt_trichotomy l' l with h1 | h1 | h1
          · rcases Dk.tord l' l i' i' hl' hl h1 with ⟨t1, t2, t3⟩ | hpw
            · have := hj.2 t1; omega
            have := mask_lt Dk i' R.lt i' hpw
            omega
          · exact h1
          · rcases Dk.tord l l' i' i' hl hl' h1 with ⟨t1, t2, t3⟩ | hpw
            · have := hj.2 t1; omega
            have := mask_lt Dk i' R.lt i' hpw
            omega
        simp [this]
      · rw [if_neg hii, hprog l' i' hl']
        have : l' ≠ l := by rintro rfl; rw [hl] at hl'; cases hl'; exact hii rfl
        omega
    · by_cases hs : a0.dst = some s
      · right
        have := k4.rel s
        rw [ht, LEnv.get_put, ← It.dst, hs] at this
        rw [LEnv.get_put, hs]
        simpa [Env.put, upd] using this
      · rw [hput s hs]
        by_cases hp : pend s
        · left
          obtain ⟨k, b, hb, hk', hun, hd⟩ := hp
          refine ⟨k, b, hb, hk', ?_, hd⟩
          rw [hset, if_neg (by rintro rfl; exact hk' htl)]
          exact hun
        · right
          exact keep k1 k4 ht s (by rw [← It.dst]; exact hs) hp
    · rw [hset] at hun
      split at hun
      · cases hun
      · rename_i hki
        have v0 := hval k b hb hk' hun
        have hnanc : (masks.getD i 0).testBit k ≠ true := by
          intro hm
          have := R.anc k hm
          rw [hun] at this
          cases this
        have ob : ∃ ok, ops[k]? = some ok := by
          have : k < ops.size := by rw [← Dk.len]; exact (List.getElem?_eq_some_iff.1 hb).1
          exact ⟨ops[k], by simp [this]⟩
        obtain ⟨ok, hok⟩ := ob
        have Ib := Dk.item k ok b hok hb
        have hopb : cdOp P ok = some b.op := by have := Ib.op; rw [if_neg (by simpa using hk')] at this; exact this
        by_cases hrv : b ∈ rev
        · exact vcRev_mem (fun b hb => ⟨(Dk.rev b hb).1, (Dk.rev b hb).2.1⟩) hk.1 b hrv (Dk.rev b hrv).2.2
        refine ValRdy.congr (e := e) (fun r hr' => ?_) (fun s hs => ?_) (v0.ext (cdOp_isVal hopb) ?_)
        · rw [hput r]
          intro hd
          exact hnanc (Dk.rdt i k a0 b hai hb htl hk' r hd hr')
        · exact hput s ((Dk.rdv k i b a0 hb hai hk' s hs).1 hki)
        · simp only [HR] at hhr
          by_cases hm : a0.op.mut = true
          · rw [if_pos hm] at hhr
            by_cases hst : b.op.stable = true
            · rw [if_pos hst]; exact hhr
            · exact absurd ((Dk.mt i k a0 b hai hb htl hk' hm (by simpa using hst)).resolve_right hrv) hnanc
          · rw [if_neg hm] at hhr
            split
            · exact hhr.box
            · exact hhr
  · -- a value
    obtain ⟨d, hd1, hd2⟩ := hval i a0 hai htl R.un
    have hop : cdOp P o = some a0.op := by have := It.op; rw [if_neg (by simpa using htl)] at this; exact this
    have hnod := cdOp_nodefer hop
    let Kenv : Env → Heap → Prop := fun t' h' => t' = (ef.put o.dst d).get ∧ h' = h
    have run : (∀ K' : D → Prop, K' d → vcdOp P a0.op K' e h) → aop P nt o (aops P nt ops [] Kenv) ef.get h := by
      intro hv
      have := cdOp_sound (nt := nt) hop It.dlt (vcdOp_congr hread' (· = d) h (hv (· = d) rfl))
      refine aop_mono ?_ this
      rintro t' h' ⟨d', rfl, rfl, rfl⟩
      exact aops_nil ⟨rfl, rfl⟩
    have hx : aops P nt ops [i] Kenv ef.get h := by
      refine aops_cons ho hnod a0.guard (fun j' want hg => by obtain ⟨s, h1, h2⟩ := It.gs j' want hg; exact ⟨s, h1, h2⟩) It.gn It.dlt ?_
      cases hg : a0.guard with
      | none => rw [hg] at hd2; exact run hd2
      | some p =>
        obtain ⟨g, want⟩ := p
        rw [hg] at hd2
        obtain ⟨b, q1, q2, q3⟩ := hd2
        refine ⟨b, by rw [hread g (by simp [AOper.rd, hg])]; exact q1, fun hbw => run (q2 hbw), fun hbw => ?_⟩
        exact aops_nil ⟨by rw [LEnv.get_put, q3 hbw], rfl⟩
    refine one_op (c := c) hx rfl hr hsim ?_
    rintro a' w' ⟨ρ', t', h', k1, k2, k3, k4, ht, rfl⟩
    refine ⟨by simp [hJ.size], dc', ρ', h', e, j, hle.trans k1, k2, hws.trans k3, k4.defers, k4.size, hj, htail, fun l' i' hl' => ?_, fun s => ?_, fun k b hb hk' hun => ?_⟩
    · rw [hset, if_neg (by rintro rfl; exact htl (List.mem_of_getElem? hl'))]
      exact hprog l' i' hl'
    · by_cases hs : a0.dst = some s
      · right
        have := k4.rel s
        rw [ht, LEnv.get_put, ← It.dst, hs] at this
        rw [hd1 s hs]
        simpa [Env.put, upd] using this
      · by_cases hp : pend s
        · left
          obtain ⟨k, b, hb, hk', hun, hd⟩ := hp
          refine ⟨k, b, hb, hk', ?_, hd⟩
          rw [hset, if_neg (by rintro rfl; rw [hai] at hb; cases hb; exact hs hd)]
          exact hun
        · right
          exact keep k1 k4 ht s (by rw [← It.dst]; exact hs) hp
    · rw [hset] at hun
      split at hun
      · cases hun
      · exact hval k b hb hk' hun

end Go.Am
/- The abstract machine, part 43: a region whose order is open and that begins its end by two new boxes, in either order. No condition. -/
namespace Go.Am
open Go

variable [GTab]

variable {P : Program} {nt : Nat}

/-- A new box gets any free name. -/
theorem alloc_at {o : Oper} {t : TypeId} {zd : D} (ho : o.op = .alloc t) (hz : cZero P t = some zd) (hd : ∀ i, o.dst = some i → i < nt) {n : Nat} {e : LEnv} {h : Heap} (hn : h n = .free) :
    aop P nt o (fun t' h' => t' = (e.put o.dst (.ptr n 0 0)).get ∧ h' = upd h n (.box zd)) e.get h := by
  obtain ⟨z, hz1, hz2⟩ := cZero_spec hz
  have key : OpS P nt o (.alloc zd) → True := fun _ => trivial
  have gen : aop P nt o (fun t' h' => ∃ d, t' = (e.put o.dst d).get ∧ (d = .ptr n 0 0 ∧ h' = upd h n (.box zd))) e.get h := by
    intro hnd r c w a Q hh hp hr hs
    subst hh
    have hrun : (execOp a.eval o).run P w = .ok (.value (.pointer (some ⟨w.heap.size, 0, none⟩))) (w.alloc (.cells z.cells t)) := by
      simp [execOp, ho, Instr.alloc, run_zeroValue hz1, newVar, run_newRow]
    have hst := StepG.new hn (s := .box zd) trivial (.cells z.cells t) (hp' := (w.alloc (.cells z.cells t)).heap) (by rw [hp]; rfl)
    have h1 : SlotRel ⟨upd c.ρ n (some c.hp.size), c.X, upd c.h n (.box zd), (w.alloc (.cells z.cells t)).heap⟩ n (.box zd) :=
      box_slot (hp := w.heap) rfl (by rw [← hp]; simp [upd]) (rel_cells (ofV_rel hz2 _) (ofV_allOne hz2))
    have h2 : RelD ⟨upd c.ρ n (some c.hp.size), c.X, upd c.h n (.box zd), (w.alloc (.cells z.cells t)).heap⟩ (.ptr n 0 0) (.pointer (some ⟨w.heap.size, 0, none⟩)) :=
      .ptrBox n 0 _ zd (by simp [upd]) (by rw [← hp]; simp [upd])
    refine rF_upon hnd hrun ?_
    refine ⟨_, (e.put o.dst (.ptr n 0 0)).get, _, hst.le, hst.heap hr (by simpa [upd] using h1), ⟨rfl, rfl, rfl⟩, ?_, .ptr n 0 0, rfl, rfl, rfl⟩
    rw [LEnv.get_put]
    exact (hs.mono hst.le).put hd h2
  refine aop_mono ?_ gen
  rintro t' h' ⟨d, rfl, rfl, rfl⟩
  exact ⟨rfl, rfl⟩


open Classical in
/-- One operation while some places are not yet known. -/
theorem pend_step {ops : Array Oper} {items : List AOper} {masks tl : List Nat} {X : XT} {ρ : Nat → Option Nat} {h : Heap} {e : LEnv} {a : Act} {w : World} {Q : Exit → Act → World → Prop} {r : Option Nat} {K' : Act → World → Prop} {pend : Nat → Prop}
    (hr : HeapRel ⟨ρ, X, h, w.heap⟩) (hdef : Marks ⟨ρ, X, h, w.heap⟩ a.defers) (hsz : a.tmps.size = nt) (hrel : ∀ s, pend s ∨ RelD ⟨ρ, X, h, w.heap⟩ (e.get s) (a.tmps.getD s Go.undef))
    {i : Nat} {o : Oper} (rd : List Nat) (hrd : ∀ s, s ∈ rd → ¬ pend s) {d : D} {h' : Heap} (hdst : ∀ s, o.dst = some s → e.get s = d)
    (run : ∀ ef : LEnv, (∀ s, s ∈ rd → ef.get s = e.get s) → aops P nt ops [i] (fun t' h'' => t' = (ef.put o.dst d).get ∧ h'' = h') ef.get h)
    (hk : ∀ a' w' ρ', Ctx.le ⟨ρ, X, h, w.heap⟩ ⟨ρ', X, h', w'.heap⟩ → HeapRel ⟨ρ', X, h', w'.heap⟩ → WS w w' → Marks ⟨ρ', X, h', w'.heap⟩ a'.defers → a'.tmps.size = nt →
      (∀ s, (pend s ∧ o.dst ≠ some s) ∨ RelD ⟨ρ', X, h', w'.heap⟩ (e.get s) (a'.tmps.getD s Go.undef)) → K' a' w') : wpOpIn (rF r) 0 P ops Q i K' a w := by
  let c : Ctx := ⟨ρ, X, h, w.heap⟩
  let ef : LEnv := (rd ++ List.range nt).map fun s => (s, if pend s then D.undef else e.get s)
  have efget : ∀ s, ef.get s = if s ∈ rd ++ List.range nt then (if pend s then .undef else e.get s) else .undef := fun s => get_list _ _ s
  have hsim : Sim c nt ef.get a := by
    refine ⟨hr.glob, hr.lo, hdef, hsz, fun s => ?_⟩
    rw [efget]
    split
    · split
      · exact .undef _
      · rename_i hp
        exact (hrel s).resolve_left hp
    · exact .undef _
  have hread : ∀ s, s ∈ rd → ef.get s = e.get s := by
    intro s hs
    rw [efget, if_pos (by simp [hs]), if_neg (hrd s hs)]
  refine one_op (c := c) (run ef hread) rfl hr hsim ?_
  rintro a' w' ⟨ρ', t', h2, k1, k2, k3, k4, ht, rfl⟩
  refine hk a' w' ρ' k1 k2 k3 k4.defers k4.size fun s => ?_
  by_cases hs : o.dst = some s
  · right
    have := k4.rel s
    rw [ht, LEnv.get_put, hs] at this
    rw [hdst s hs]
    simpa [Env.put, upd] using this
  · by_cases hp : pend s
    · exact Or.inl ⟨hp, hs⟩
    · right
      by_cases hsn : s < nt
      · have := k4.rel s
        rw [ht, LEnv.get_put] at this
        have e1 : Env.put ef.get o.dst d s = e.get s := by
          have : Env.put ef.get o.dst d s = ef.get s := by
            cases hd : o.dst with
            | none => rfl
            | some x =>
              have : s ≠ x := by rintro rfl; exact hs hd
              simp [Env.put, upd, this]
          rw [this, efget, if_pos (by simp [hsn]), if_neg hp]
        rw [e1] at this
        exact this
      · have h1 := (hrel s).resolve_left hp
        have e1 : a.tmps.getD s Go.undef = Go.undef := by simp [Array.getD, hsz, hsn]
        have e2 : a'.tmps.getD s Go.undef = Go.undef := by simp [Array.getD, k4.size, hsn]
        rw [e1] at h1
        rw [e2]
        exact h1.mono k1

def hS (h0 : Heap) (N : Nat) (za zb : D) (A B : Bool) : Heap := fun n => if n = N then (if A then .box za else .free) else if n = N + 1 then (if B then .box zb else .free) else h0 n
theorem hS_a {h0 : Heap} {N : Nat} {za zb : D} {B : Bool} : upd (hS h0 N za zb false B) N (.box za) = hS h0 N za zb true B := by
  funext n
  unfold upd hS
  by_cases h : n = N <;> simp [h]
theorem hS_b {h0 : Heap} {N : Nat} {za zb : D} {A : Bool} : upd (hS h0 N za zb A false) (N + 1) (.box zb) = hS h0 N za zb A true := by
  funext n
  unfold upd hS
  by_cases h : n = N
  · subst h; simp
  · by_cases h1 : n = N + 1 <;> simp [h, h1]
theorem hS_0 {h0 : Heap} {N : Nat} {za zb : D} (h1 : h0 N = .free) (h2 : h0 (N + 1) = .free) : hS h0 N za zb false false = h0 := by
  funext n
  unfold hS
  by_cases h : n = N
  · subst h; simp [h1]
  · by_cases h1 : n = N + 1
    · subst h1; simp [h2]
    · simp [h, h1]
theorem hS_2 {h0 : Heap} {N : Nat} {za zb : D} (h1 : h0 N = .free) (h2 : h0 (N + 1) = .free) : hS h0 N za zb true true = upd (upd h0 N (.box za)) (N + 1) (.box zb) := by
  rw [← hS_b, ← hS_a, hS_0 h1 h2]

structure Two (P : Program) (nt : Nat) (ops : Array Oper) (items : List AOper) (masks tl : List Nat) (ia ib : Nat) (r : List Nat) (sa sb : Nat) (za zb : D) : Prop where
  etl : tl = ia :: ib :: r
  nd : ia ≠ ib ∧ ia ∉ r ∧ ib ∉ r
  oa : ∃ o t, ops[ia]? = some o ∧ o.op = .alloc t ∧ cZero P t = some za ∧ o.dst = some sa ∧ o.guard = none
  ob : ∃ o t, ops[ib]? = some o ∧ o.op = .alloc t ∧ cZero P t = some zb ∧ o.dst = some sb ∧ o.guard = none
  ne : sa ≠ sb
  anc : ∀ k, k ∈ r → (masks.getD k 0).testBit ia = true ∧ (masks.getD k 0).testBit ib = true
  vals : ∀ (k : Nat) (b : AOper), items[k]? = some b → k ∉ tl → sa ∉ b.rd ∧ sb ∉ b.rd ∧ b.dst ≠ some sa ∧ b.dst ≠ some sb
  lt : sa < nt ∧ sb < nt

structure J1 (P : Program) (nt : Nat) (ops : Array Oper) (items : List AOper) (masks tl : List Nat) (rev : List AOper) (ia ib : Nat) (r : List Nat) (sa sb : Nat) (za zb : D) (c₀ : Ctx) (w₀ : World) (K : LEnv → Heap → Prop) (listed : Array Bool) (a : Act) (w : World) : Prop where
  size : listed.size = ops.size
  dc : ∀ i k, i < ops.size → lst listed i = true → (masks.getD i 0).testBit k = true → lst listed k = true
  st : ∃ (ρ : Nat → Option Nat) (h0 : Heap) (N : Nat) (e : LEnv) (A B : Bool), (A && B) = false ∧ lst listed ia = A ∧ lst listed ib = B ∧ (∀ i, i ∈ r → lst listed i = false) ∧
    c₀.le ⟨ρ, c₀.X, hS h0 N za zb A B, w.heap⟩ ∧ HeapRel ⟨ρ, c₀.X, hS h0 N za zb A B, w.heap⟩ ∧ WS w₀ w ∧ Marks ⟨ρ, c₀.X, hS h0 N za zb A B, w.heap⟩ a.defers ∧ a.tmps.size = nt ∧
    vcTailR P rev (r.filterMap (fun i => items[i]?)) K e (hS h0 N za zb true true) ∧
    e.get sa = .ptr N 0 0 ∧ e.get sb = .ptr (N + 1) 0 0 ∧
    (∀ s, ((s = sa ∧ A = false) ∨ (s = sb ∧ B = false) ∨ ∃ i b, items[i]? = some b ∧ i ∉ tl ∧ lst listed i = false ∧ b.dst = some s) ∨ RelD ⟨ρ, c₀.X, hS h0 N za zb A B, w.heap⟩ (e.get s) (a.tmps.getD s Go.undef)) ∧
    (∀ i b, items[i]? = some b → i ∉ tl → lst listed i = false → ValRdy P b e (hS h0 N za zb A B))

theorem dc_set {ops : Array Oper} {masks : List Nat} {listed : Array Bool} {i : Nat} (hil : i < listed.size) (R : Rdy ops masks listed i) (dc : ∀ i k, i < ops.size → lst listed i = true → (masks.getD i 0).testBit k = true → lst listed k = true) :
    ∀ i' k, i' < ops.size → lst (listed.setIfInBounds i true) i' = true → (masks.getD i' 0).testBit k = true → lst (listed.setIfInBounds i true) k = true := by
  intro i' k hi' hl hm
  rw [lst_set hil] at hl ⊢
  split
  · rfl
  · by_cases h : i' = i
    · subst h; exact R.anc k hm
    · rw [if_neg h] at hl; exact dc i' k hi' hl hm

theorem ext_new' {h : Heap} {n : Nat} (hn : h n = .free) (s : Slot) {b : AOper} : if b.op.stable then BoxExt h (upd h n s) else Ext h (upd h n s) := by
  split
  · exact (ext_new hn s).box
  · exact ext_new hn s

theorem J1_step {ops : Array Oper} {items : List AOper} {masks tl : List Nat} {rev : List AOper} (Dk : DChk P nt ops items masks tl rev true) {ia ib : Nat} {r : List Nat} {sa sb : Nat} {za zb : D} (T : Two P nt ops items masks tl ia ib r sa sb za zb)
    {c₀ : Ctx} {w₀ : World} {K : LEnv → Heap → Prop} {listed : Array Bool} {a : Act} {w : World} {Q : Exit → Act → World → Prop} {rr : Option Nat}
    (hJ : J1 P nt ops items masks tl rev ia ib r sa sb za zb c₀ w₀ K listed a w) {i : Nat} (hi : i ∈ Region.ready .any ops listed) :
    wpOpIn (rF rr) 0 P ops Q i (fun a w => J1 P nt ops items masks tl rev ia ib r sa sb za zb c₀ w₀ K (listed.setIfInBounds i true) a w ∨ J P nt ops items masks tl rev true c₀ w₀ K (listed.setIfInBounds i true) a w) a w := by
  have R := rdy_of' Dk hJ.size hJ.dc hi
  have hil : i < listed.size := by rw [hJ.size]; exact R.lt
  have hset := fun k => lst_set (k := k) hil
  obtain ⟨ρ, h0, N, e, A, B, hAB, hA, hB, hrun, hle, hr, hws, hdef, hsz, htail, esa, esb, hrel, hval⟩ := hJ.st
  have dc' := dc_set hil R hJ.dc
  have itl : ∀ k, k ∈ tl ↔ k = ia ∨ k = ib ∨ k ∈ r := by intro k; rw [T.etl]; simp
  by_cases hia : i = ia
  · subst hia
    obtain ⟨o, t, ho, hop, hz, hd, hg⟩ := T.oa
    have hAf : A = false := by rw [← hA]; exact R.un
    subst hAf
    have hfree : hS h0 N za zb false B N = .free := by simp [hS]
    refine pend_step (items := items) (masks := masks) (tl := tl) hr hdef hsz hrel (o := o) [] (by simp) (d := .ptr N 0 0) (h' := upd (hS h0 N za zb false B) N (.box za)) (fun s hs => by rw [hd] at hs; cases hs; exact esa) (fun ef _ => ?_) ?_
    · refine aops_cons ho (by rw [hop]; intro c hc; cases hc) none (fun j w hh => by rw [hg] at hh; cases hh) (fun _ => rfl) (fun j hj => by rw [hd] at hj; cases hj; exact T.lt.1) ?_
      refine aop_mono ?_ (alloc_at hop hz (fun j hj => by rw [hd] at hj; cases hj; exact T.lt.1) hfree)
      rintro t' h'' ⟨h1, h2⟩
      exact aops_nil ⟨h1, h2⟩
    · intro a' w' ρ' k1 k2 k3 k4 k5 k6
      rw [hS_a] at k1 k2 k4 k6
      have vals' : ∀ k b, items[k]? = some b → k ∉ tl → lst (listed.setIfInBounds i true) k = false → ValRdy P b e (hS h0 N za zb true B) := by
        intro k b hb hk hun
        rw [hset] at hun
        split at hun
        · cases hun
        · have hopb : b.op.isVal = true := by
            have hkl : k < ops.size := by rw [← Dk.len]; exact (List.getElem?_eq_some_iff.1 hb).1
            have := (Dk.item k ops[k] b (by simp [hkl]) hb).op
            rw [if_neg (by simpa using hk)] at this
            exact cdOp_isVal this
          have := (hval k b hb hk hun).ext hopb (ext_new' hfree (.box za))
          rw [hS_a] at this
          exact this
      have rel' : ∀ s, ((s = sb ∧ B = false) ∨ ∃ i' b, items[i']? = some b ∧ i' ∉ tl ∧ lst (listed.setIfInBounds i true) i' = false ∧ b.dst = some s) ∨ RelD ⟨ρ', c₀.X, hS h0 N za zb true B, w'.heap⟩ (e.get s) (a'.tmps.getD s Go.undef) := by
        intro s
        rcases k6 s with ⟨hp, hne⟩ | h
        · left
          rcases hp with ⟨rfl, _⟩ | hp | ⟨i', b, h1, h2, h3, h4⟩
          · exact absurd hd hne
          · exact Or.inl hp
          · right
            refine ⟨i', b, h1, h2, ?_, h4⟩
            rw [hset, if_neg (by rintro rfl; exact h2 ((itl i').2 (Or.inl rfl)))]
            exact h3
        · exact Or.inr h
      cases B with
      | false =>
        left
        refine ⟨by simp [hJ.size], dc', ρ', h0, N, e, true, false, rfl, ?_, ?_, fun k hk => ?_, hle.trans k1, k2, hws.trans k3, k4, k5, htail, esa, esb, fun s => ?_, vals'⟩
        · rw [hset, if_pos rfl]
        · rw [hset, if_neg (fun h => T.nd.1 h.symm)]; exact hB
        · rw [hset, if_neg (by rintro rfl; exact T.nd.2.1 hk)]; exact hrun k hk
        · rcases rel' s with h | h
          · exact Or.inl (Or.inr h)
          · exact Or.inr h
      | true =>
        right
        refine ⟨by simp [hJ.size], dc', ρ', _, e, 2, hle.trans k1, k2, hws.trans k3, k4, k5, ⟨by rw [T.etl]; simp, fun _ => Nat.le_refl 2⟩, ?_, fun l i' hl => ?_, fun s => ?_, vals'⟩
        · rw [T.etl]; simpa using htail
        · rw [hset]
          rw [T.etl] at hl
          match l, hl with
          | 0, hl => simp at hl; subst hl; simp
          | 1, hl =>
            simp at hl; subst hl
            rw [if_neg (fun h => T.nd.1 h.symm)]
            simp [hB]
          | l + 2, hl =>
            have hm : i' ∈ r := List.mem_of_getElem? (by simpa using hl)
            rw [if_neg (by rintro rfl; exact T.nd.2.1 hm), hrun i' hm]
            simp
        · rcases rel' s with (⟨_, h⟩ | h) | h
          · cases h
          · exact Or.inl h
          · exact Or.inr h
  by_cases hib : i = ib
  · subst hib
    obtain ⟨o, t, ho, hop, hz, hd, hg⟩ := T.ob
    have hBf : B = false := by rw [← hB]; exact R.un
    subst hBf
    have hfree : hS h0 N za zb A false (N + 1) = .free := by simp [hS]
    refine pend_step (items := items) (masks := masks) (tl := tl) hr hdef hsz hrel (o := o) [] (by simp) (d := .ptr (N + 1) 0 0) (h' := upd (hS h0 N za zb A false) (N + 1) (.box zb)) (fun s hs => by rw [hd] at hs; cases hs; exact esb) (fun ef _ => ?_) ?_
    · refine aops_cons ho (by rw [hop]; intro c hc; cases hc) none (fun j w hh => by rw [hg] at hh; cases hh) (fun _ => rfl) (fun j hj => by rw [hd] at hj; cases hj; exact T.lt.2) ?_
      refine aop_mono ?_ (alloc_at hop hz (fun j hj => by rw [hd] at hj; cases hj; exact T.lt.2) hfree)
      rintro t' h'' ⟨h1, h2⟩
      exact aops_nil ⟨h1, h2⟩
    · intro a' w' ρ' k1 k2 k3 k4 k5 k6
      rw [hS_b] at k1 k2 k4 k6
      have vals' : ∀ k b, items[k]? = some b → k ∉ tl → lst (listed.setIfInBounds i true) k = false → ValRdy P b e (hS h0 N za zb A true) := by
        intro k b hb hk hun
        rw [hset] at hun
        split at hun
        · cases hun
        · have hopb : b.op.isVal = true := by
            have hkl : k < ops.size := by rw [← Dk.len]; exact (List.getElem?_eq_some_iff.1 hb).1
            have := (Dk.item k ops[k] b (by simp [hkl]) hb).op
            rw [if_neg (by simpa using hk)] at this
            exact cdOp_isVal this
          have := (hval k b hb hk hun).ext hopb (ext_new' hfree (.box zb))
          rw [hS_b] at this
          exact this
      have rel' : ∀ s, ((s = sa ∧ A = false) ∨ ∃ i' b, items[i']? = some b ∧ i' ∉ tl ∧ lst (listed.setIfInBounds i true) i' = false ∧ b.dst = some s) ∨ RelD ⟨ρ', c₀.X, hS h0 N za zb A true, w'.heap⟩ (e.get s) (a'.tmps.getD s Go.undef) := by
        intro s
        rcases k6 s with ⟨hp, hne⟩ | h
        · left
          rcases hp with hp | ⟨rfl, _⟩ | ⟨i', b, h1, h2, h3, h4⟩
          · exact Or.inl hp
          · exact absurd hd hne
          · right
            refine ⟨i', b, h1, h2, ?_, h4⟩
            rw [hset, if_neg (by rintro rfl; exact h2 ((itl i').2 (Or.inr (Or.inl rfl))))]
            exact h3
        · exact Or.inr h
      cases A with
      | false =>
        left
        refine ⟨by simp [hJ.size], dc', ρ', h0, N, e, false, true, rfl, ?_, ?_, fun k hk => ?_, hle.trans k1, k2, hws.trans k3, k4, k5, htail, esa, esb, fun s => ?_, vals'⟩
        · rw [hset, if_neg (fun h => hia h.symm)]; exact hA
        · rw [hset, if_pos rfl]
        · rw [hset, if_neg (by rintro rfl; exact T.nd.2.2 hk)]; exact hrun k hk
        · rcases rel' s with (h | h) | h
          · exact Or.inl (Or.inl h)
          · exact Or.inl (Or.inr (Or.inr h))
          · exact Or.inr h
      | true =>
        right
        refine ⟨by simp [hJ.size], dc', ρ', _, e, 2, hle.trans k1, k2, hws.trans k3, k4, k5, ⟨by rw [T.etl]; simp, fun _ => Nat.le_refl 2⟩, ?_, fun l i' hl => ?_, fun s => ?_, vals'⟩
        · rw [T.etl]; simpa using htail
        · rw [hset]
          rw [T.etl] at hl
          match l, hl with
          | 0, hl =>
            simp at hl; subst hl
            rw [if_neg (fun h => hia h.symm)]
            simp [hA]
          | 1, hl => simp at hl; subst hl; simp
          | l + 2, hl =>
            have hm : i' ∈ r := List.mem_of_getElem? (by simpa using hl)
            rw [if_neg (by rintro rfl; exact T.nd.2.2 hm), hrun i' hm]
            simp
        · rcases rel' s with (⟨_, h⟩ | h) | h
          · cases h
          · exact Or.inl h
          · exact Or.inr h
  have hitl : i ∉ tl := by
    intro hm
    rcases (itl i).1 hm with h | h | h
    · exact hia h
    · exact hib h
    · obtain ⟨h1, h2⟩ := T.anc i h
      have e1 := R.anc _ h1
      have e2 := R.anc _ h2
      rw [hA] at e1; rw [hB] at e2; rw [e1, e2] at hAB; cases hAB
  -- a value
  obtain ⟨o, ho⟩ : ∃ o, ops[i]? = some o := ⟨ops[i]'R.lt, by simp [R.lt]⟩
  have hilen : i < items.length := by rw [Dk.len]; exact R.lt
  obtain ⟨a0, hai⟩ : ∃ x, items[i]? = some x := ⟨items[i]'hilen, by simp [hilen]⟩
  have It := Dk.item i o a0 ho hai
  obtain ⟨nsa, nsb, dsa, dsb⟩ := T.vals i a0 hai hitl
  obtain ⟨d, hd1, hd2⟩ := hval i a0 hai hitl R.un
  have hop : cdOp P o = some a0.op := by have := It.op; rw [if_neg (by simpa using hitl)] at this; exact this
  have hnod := cdOp_nodefer hop
  have hrd : ∀ s, s ∈ a0.rd → ¬ ((s = sa ∧ A = false) ∨ (s = sb ∧ B = false) ∨ ∃ i b, items[i]? = some b ∧ i ∉ tl ∧ lst listed i = false ∧ b.dst = some s) := by
    rintro s hs (⟨rfl, _⟩ | ⟨rfl, _⟩ | ⟨k, b, hb, hk, hun, hd⟩)
    · exact nsa hs
    · exact nsb hs
    · obtain ⟨_, hm⟩ := (Dk.rdv k i b a0 hb hai hk s hd).2 hs
      have := R.anc k hm
      rw [hun] at this
      cases this
  refine pend_step (items := items) (masks := masks) (tl := tl) hr hdef hsz hrel (o := o) a0.rd hrd (d := d) (h' := hS h0 N za zb A B) (fun s hs => hd1 s (by rw [It.dst]; exact hs)) (fun ef hef => ?_) ?_
  · have run : (∀ K' : D → Prop, K' d → vcdOp P a0.op K' e (hS h0 N za zb A B)) → aop P nt o (aops P nt ops [] (fun t' h'' => t' = (ef.put o.dst d).get ∧ h'' = hS h0 N za zb A B)) ef.get (hS h0 N za zb A B) := by
      intro hv
      have := cdOp_sound (nt := nt) hop It.dlt (vcdOp_congr (fun s hs => (hef s (by simp [AOper.rd, hs])).symm) (· = d) (hS h0 N za zb A B) (hv (· = d) rfl))
      refine aop_mono ?_ this
      rintro t' h' ⟨d', rfl, rfl, rfl⟩
      exact aops_nil ⟨rfl, rfl⟩
    refine aops_cons ho hnod a0.guard (fun j' want hg => by obtain ⟨s, h1, h2⟩ := It.gs j' want hg; exact ⟨s, h1, h2⟩) It.gn It.dlt ?_
    cases hg : a0.guard with
    | none => rw [hg] at hd2; exact run hd2
    | some p =>
      obtain ⟨g, want⟩ := p
      rw [hg] at hd2
      obtain ⟨b, q1, q2, q3⟩ := hd2
      refine ⟨b, by rw [hef g (by simp [AOper.rd, hg])]; exact q1, fun hbw => run (q2 hbw), fun hbw => ?_⟩
      exact aops_nil ⟨by rw [LEnv.get_put, q3 hbw], rfl⟩
  · intro a' w' ρ' k1 k2 k3 k4 k5 k6
    left
    refine ⟨by simp [hJ.size], dc', ρ', h0, N, e, A, B, hAB, ?_, ?_, fun k hk => ?_, hle.trans k1, k2, hws.trans k3, k4, k5, htail, esa, esb, fun s => ?_, fun k b hb hk hun => ?_⟩
    · rw [hset, if_neg (fun h => hia h.symm)]; exact hA
    · rw [hset, if_neg (fun h => hib h.symm)]; exact hB
    · rw [hset, if_neg (by rintro rfl; exact hitl ((itl k).2 (Or.inr (Or.inr hk))))]; exact hrun k hk
    · rcases k6 s with ⟨hp, hne⟩ | h
      · left
        rcases hp with hp | hp | ⟨k, b, hb, hk, hun, hd⟩
        · exact Or.inl hp
        · exact Or.inr (Or.inl hp)
        · refine Or.inr (Or.inr ⟨k, b, hb, hk, ?_, hd⟩)
          rw [hset, if_neg (by rintro rfl; rw [hai] at hb; cases hb; exact hne (by rw [← It.dst]; exact hd))]
          exact hun
      · exact Or.inr h
    · rw [hset] at hun
      split at hun
      · cases hun
      · exact hval k b hb hk hun

end Go.Am
/- The abstract machine, part 27: regions whose order is open, by program. No condition. -/
namespace Go.Am
open Go

variable [GTab]

variable {P : Program} {nt : Nat}

theorem filt_lt {p q : Nat → Bool} : ∀ {l : List Nat}, (∀ x, x ∈ l → q x = true → p x = true) → ∀ {i : Nat}, i ∈ l → p i = true → q i = false → (l.filter q).length < (l.filter p).length
  | [], _, i, hi, _, _ => by simp at hi
  | x :: r, hle, i, hi, hp, hq => by
    have hmono : (r.filter q).length ≤ (r.filter p).length := by
      have : ∀ (l : List Nat), (∀ x, x ∈ l → q x = true → p x = true) → (l.filter q).length ≤ (l.filter p).length := by
        intro l
        induction l with
        | nil => intro _; simp
        | cons y s ih =>
          intro h
          have := ih (fun x hx => h x (by simp [hx]))
          by_cases hy : q y = true
          · rw [List.filter_cons_of_pos hy, List.filter_cons_of_pos (h y (by simp) hy)]; simpa using this
          · rw [List.filter_cons_of_neg hy]
            by_cases hy2 : p y = true
            · rw [List.filter_cons_of_pos hy2]; simp; omega
            · rw [List.filter_cons_of_neg hy2]; exact this
      exact this r (fun x hx => hle x (by simp [hx]))
    rcases List.mem_cons.1 hi with rfl | hi
    · rw [List.filter_cons_of_pos hp, List.filter_cons_of_neg (by simp [hq])]
      simp; omega
    · have ih := filt_lt (fun x hx => hle x (by simp [hx])) hi hp hq
      by_cases hx : q x = true
      · rw [List.filter_cons_of_pos hx, List.filter_cons_of_pos (hle x (by simp) hx)]; simpa using ih
      · rw [List.filter_cons_of_neg hx]
        by_cases hx2 : p x = true
        · rw [List.filter_cons_of_pos hx2]; simp; omega
        · rw [List.filter_cons_of_neg hx2]; exact ih

def left (n : Nat) (listed : Array Bool) : Nat := ((List.range n).filter fun i => !lst listed i).length

theorem all_listed {ops : Array Oper} {items : List AOper} {masks tl : List Nat} {rev : List AOper} {tw : Bool} (Dk : DChk P nt ops items masks tl rev tw) {listed : Array Bool} (hsz : listed.size = ops.size) (hr : Region.ready .any ops listed = []) : ∀ i, i < ops.size → lst listed i = true := by
  intro i
  induction i using Nat.strongRecOn with
  | _ i ih =>
    intro hi
    by_cases hl : lst listed i = true
    · exact hl
    · exfalso
      have hmem : i ∈ Region.ready .any ops listed := by
        unfold Region.ready
        simp only [List.mem_filter, List.mem_range, Bool.and_eq_true, Bool.not_eq_true']
        refine ⟨hi, by unfold lst at hl; simpa using hl, ?_⟩
        have ho : ops[i]? = some ops[i] := by simp [hi]
        rw [ho]
        simp only [Option.map_some, Option.getD_some, Array.all_eq_true']
        intro e he
        by_cases hb : Region.binds .any e = true
        · have hlt := Dk.edge i _ ho e (by simpa using he) hb
          have := ih e.on hlt (by omega)
          unfold lst at this
          have hs : e.on < listed.size := by omega
          simp [Array.getD, hs] at this ⊢
          simp [this]
        · simp [hb]
      rw [hr] at hmem
      simp at hmem

theorem any_of {ops : Array Oper} {items : List AOper} {masks tl : List Nat} {rev : List AOper} {tw : Bool} (Dk : DChk P nt ops items masks tl rev tw) {JJ : Array Bool → Act → World → Prop} {Q : Exit → Act → World → Prop} {r : Option Nat}
    (hsz : ∀ listed a w, JJ listed a w → listed.size = ops.size) (hdc : ∀ listed a w, JJ listed a w → ∀ i k, i < ops.size → lst listed i = true → (masks.getD i 0).testBit k = true → lst listed k = true)
    (step : ∀ listed a w i, JJ listed a w → i ∈ Region.ready .any ops listed → wpOpIn (rF r) 0 P ops Q i (JJ (listed.setIfInBounds i true)) a w)
    (hq : ∀ listed a w, JJ listed a w → (∀ i, i < ops.size → lst listed i = true) → Q .normal a w) : ∀ (fuel : Nat) (listed : Array Bool) (a : Act) (w : World), left ops.size listed ≤ fuel → JJ listed a w → wpAnyIn (rF r) 0 P .any ops Q fuel listed a w := by
  have done : ∀ (listed : Array Bool) (a : Act) (w : World), JJ listed a w → Region.ready .any ops listed = [] → Q .normal a w := by
    intro listed a w hJ hr
    exact hq listed a w hJ (all_listed Dk (hsz _ _ _ hJ) hr)
  intro fuel
  induction fuel with
  | zero =>
    intro listed a w hl hJ
    have hr : Region.ready .any ops listed = [] := by
      cases hrd : Region.ready .any ops listed with
      | nil => rfl
      | cons x r =>
        exfalso
        have hm : x ∈ Region.ready .any ops listed := by rw [hrd]; simp
        have R := rdy_of' Dk (hsz _ _ _ hJ) (hdc _ _ _ hJ) hm
        have : x ∈ (List.range ops.size).filter fun i => !lst listed i := by simp [R.lt, R.un]
        have h0 := List.length_pos_of_mem this
        unfold left at hl
        omega
    exact ⟨hr, done listed a w hJ hr⟩
  | succ fuel ih =>
    intro listed a w hl hJ
    refine ⟨done listed a w hJ, fun i hi => ?_⟩
    have R := rdy_of' Dk (hsz _ _ _ hJ) (hdc _ _ _ hJ) hi
    refine wpOpIn_mono (fun a' w' hJ' => ih _ a' w' ?_ hJ') (step listed a w i hJ hi)
    have hil : i < listed.size := by rw [hsz _ _ _ hJ]; exact R.lt
    have := filt_lt (l := List.range ops.size) (p := fun i => !lst listed i) (q := fun k => !lst (listed.setIfInBounds i true) k) (fun x _ hx => by
      rw [lst_set hil] at hx
      split at hx
      · simp at hx
      · exact hx) (i := i) (by simpa using R.lt) (by simp [R.un]) (by simp [lst_set hil])
    unfold left at hl ⊢
    omega

theorem J_fin {ops : Array Oper} {items : List AOper} {masks tl : List Nat} {rev : List AOper} {tw : Bool} (Dk : DChk P nt ops items masks tl rev tw) {c₀ : Ctx} {w₀ : World} {K : LEnv → Heap → Prop} {listed : Array Bool} {a : Act} {w : World}
    (hJ : J P nt ops items masks tl rev tw c₀ w₀ K listed a w) (hall : ∀ i, i < ops.size → lst listed i = true) : Fin c₀ w₀ nt (up K) a w := by
  obtain ⟨ρ, h, e, j, hle, hrr, hws, hdef, hsz, hj, htail, hprog, hrel, hval⟩ := hJ.st
  have hjl : j = tl.length := by
    rcases Nat.lt_or_ge j tl.length with hlt | hge
    · have := (hprog j tl[j] (by simp [hlt])).1 (hall _ (Dk.tlt _ (List.getElem_mem hlt)))
      omega
    · have := hj.1; omega
  subst hjl
  rw [List.drop_length] at htail
  refine ⟨ρ, e.get, h, hle, hrr, hws, ⟨hrr.glob, hrr.lo, hdef, hsz, fun s => ?_⟩, e, rfl, htail⟩
  rcases hrel s with ⟨i, b, hb, _, hun, _⟩ | h
  · have : i < ops.size := by rw [← Dk.len]; exact (List.getElem?_eq_some_iff.1 hb).1
    rw [hall i this] at hun
    cases hun
  · exact h

theorem vcTailR_nil : ∀ {l : List AOper} {K : LEnv → Heap → Prop} {e : LEnv} {h : Heap}, vcOps P l K e h → vcTailR P [] l K e h
  | [], _, _, _, hv => hv
  | o :: r, K, e, h, hv => by
    have hk : ∀ e h, vcOps P r K e h → vcRev P [] e h ∧ vcTailR P [] r K e h := fun e h hv => ⟨trivial, vcTailR_nil hv⟩
    simp only [vcOps, vcTailR, vcOper, vguard] at hv ⊢
    cases hg : o.guard with
    | none => simp only [hg] at hv ⊢; exact vcOp_mono (fun d h' hh => hk _ _ hh) hv
    | some q =>
      obtain ⟨j, want⟩ := q
      simp only [hg] at hv ⊢
      cases hb : gv (e.get j) <;> simp only [hb] at hv ⊢
      exact ⟨fun hb => vcOp_mono (fun d h' hh => hk _ _ hh) (hv.1 hb), fun hb => hk _ _ (hv.2 hb)⟩
theorem vcTailR_of {rev l : List AOper} {K : LEnv → Heap → Prop} {e : LEnv} {h : Heap} (hv : vcTail P rev l K e h) : vcTailR P rev l K e h := by
  cases rev with
  | nil => exact vcTailR_nil hv
  | cons b r => exact hv

theorem region_core {id : Nat} {ops : Array Oper} {items : List AOper} {masks tl : List Nat} {rev : List AOper} {tw : Bool} (Dk : DChk P nt ops items masks tl rev tw) (hm : P.follows .mixedOrders = true) {K : LEnv → Heap → Prop} {Q : LPost} {e : LEnv} {h : Heap}
    (hq : ∀ e h, K e h → Q .normal e h)
    (hv : vcVals P (((List.range ops.size).filter (fun i => !tl.contains i)).filterMap (fun i => items[i]?)) (vcTail P rev (tl.filterMap (fun i => items[i]?)) K) e h)
    (JJ : Ctx → World → Array Bool → Act → World → Prop)
    (hsz : ∀ c w₀ listed a w, JJ c w₀ listed a w → listed.size = ops.size) (hdc : ∀ c w₀ listed a w, JJ c w₀ listed a w → ∀ i k, i < ops.size → lst listed i = true → (masks.getD i 0).testBit k = true → lst listed k = true)
    (step : ∀ c w₀ r Q listed a w i, JJ c w₀ listed a w → i ∈ Region.ready .any ops listed → wpOpIn (rF r) 0 P ops Q i (JJ c w₀ (listed.setIfInBounds i true)) a w)
    (fin : ∀ c w₀ listed a w, JJ c w₀ listed a w → (∀ i, i < ops.size → lst listed i = true) → Fin c w₀ nt (up K) a w)
    (init : ∀ c w a T, c.h = h → c.hp = w.heap → HeapRel c → Marks c a.defers → a.tmps.size = nt → vcTailR P rev (tl.filterMap (fun i => items[i]?)) K T c.h → (∀ i, i < ops.size → lst (Array.replicate ops.size false) i = false) →
      (∀ s, (∃ i b, items[i]? = some b ∧ i ∉ tl ∧ lst (Array.replicate ops.size false) i = false ∧ b.dst = some s) ∨ RelD c (T.get s) (a.tmps.getD s Go.undef)) → (∀ i b, items[i]? = some b → i ∉ tl → ValRdy P b T c.h) → JJ c w (Array.replicate ops.size false) a { w with drawn := w.drawn + 1 }) :
    awp P nt (.region id ops true) (fun x => up (Q x)) e.get h := by
  intro rd c w a hh hp hr hs _
  subst hh
  refine wpIn_region_any hm ?_
  let V := (List.range ops.size).filter (fun i => !tl.contains i)
  let vals := V.filterMap (fun i => items[i]?)
  have hV : ∀ b, b ∈ vals → ∃ i o, items[i]? = some b ∧ i ∉ tl ∧ ops[i]? = some o := by
    intro b hb
    simp only [vals, V, List.mem_filterMap, List.mem_filter, List.mem_range] at hb
    obtain ⟨i, ⟨hi, hn⟩, hb⟩ := hb
    exact ⟨i, ops[i], hb, by simpa using hn, by simp [hi]⟩
  have hVmem : ∀ i b, items[i]? = some b → i ∉ tl → b ∈ vals := by
    intro i b hb hn
    have : i < ops.size := by rw [← Dk.len]; exact (List.getElem?_eq_some_iff.1 hb).1
    simp only [vals, V, List.mem_filterMap, List.mem_filter, List.mem_range]
    exact ⟨i, ⟨this, by simpa using hn⟩, hb⟩
  obtain ⟨T, t1, t2, t3⟩ := vals_end vals (fun b hb => by
      obtain ⟨i, o, h1, h2, h3⟩ := hV b hb
      have := (Dk.item i o b h3 h1).op
      rw [if_neg (by simpa using h2)] at this
      exact cdOp_isVal this) (fun b hb s hs hrd => by
      obtain ⟨i, o, h1, h2, h3⟩ := hV b hb
      have := ((Dk.rdv i i b b h1 h1 h2 s hs).2 hrd).1
      omega) (by
      have hpw : V.Pairwise (· < ·) := List.Pairwise.filter _ List.pairwise_lt_range
      have hall : ∀ i, i ∈ V → i ∉ tl := by intro i hi; simp only [V, List.mem_filter] at hi; simpa using hi.2
      have : ∀ (l : List Nat), (∀ i, i ∈ l → i ∉ tl) → l.Pairwise (· < ·) → (l.filterMap (fun i => items[i]?)).Pairwise (fun a b => ∀ s, b.dst = some s → a.dst ≠ some s ∧ s ∉ a.rd) := by
        intro l
        induction l with
        | nil => intro _ _; simp
        | cons x r ih =>
          intro hn hp'
          rw [List.pairwise_cons] at hp'
          have ih' := ih (fun i hi => hn i (by simp [hi])) hp'.2
          cases hx : items[x]? with
          | none => rw [List.filterMap_cons_none hx]; exact ih'
          | some ax =>
            rw [List.filterMap_cons_some hx, List.pairwise_cons]
            refine ⟨fun b hb s hs => ?_, ih'⟩
            simp only [List.mem_filterMap] at hb
            obtain ⟨k, hk, hb⟩ := hb
            have hlt := hp'.1 k hk
            have hkn := hn k (by simp [hk])
            refine ⟨(Dk.rdv k x b ax hb hx hkn s hs).1 (by omega), fun hrd => ?_⟩
            have := ((Dk.rdv k x b ax hb hx hkn s hs).2 hrd).1
            omega
      exact this V hall hpw) hv
  have hfalse : ∀ i, i < ops.size → lst (Array.replicate ops.size false) i = false := by intro i hi; unfold lst; simp [Array.getD, hi]
  refine any_of Dk (JJ := JJ c w) (hsz c w) (hdc c w) (step c w _ _) (fun listed a' w' hJ hall => Fin.mono (fun t h hk => by obtain ⟨e', rfl, hk⟩ := hk; exact ⟨e', rfl, hq e' h hk⟩) (fin c w listed a' w' hJ hall)) ops.size _ a _ ?_ ?_
  · unfold left
    exact Nat.le_trans (List.length_filter_le _ _) (by simp)
  · refine init c w a T rfl hp hr hs.defers hs.size (vcTailR_of t1) hfalse (fun s => ?_) (fun i b hb hn => t3 b (hVmem i b hb hn))
    by_cases hex : ∃ i b, items[i]? = some b ∧ i ∉ tl ∧ b.dst = some s
    · obtain ⟨i, b, hb, hn, hd⟩ := hex
      left
      exact ⟨i, b, hb, hn, hfalse i (by rw [← Dk.len]; exact (List.getElem?_eq_some_iff.1 hb).1), hd⟩
    · right
      rw [t2 s (fun b hb hbd => by
        obtain ⟨i, o, h1, h2, h3⟩ := hV b hb
        exact hex ⟨i, b, h1, h2, hbd⟩)]
      exact hs.rel s

theorem region_dr {id : Nat} {ops : Array Oper} {items : List AOper} {masks tl : List Nat} {rev : List AOper} (Dk : DChk P nt ops items masks tl rev false) (hm : P.follows .mixedOrders = true) {K : LEnv → Heap → Prop} {Q : LPost} {e : LEnv} {h : Heap}
    (hq : ∀ e h, K e h → Q .normal e h)
    (hv : vcVals P (((List.range ops.size).filter (fun i => !tl.contains i)).filterMap (fun i => items[i]?)) (vcTail P rev (tl.filterMap (fun i => items[i]?)) K) e h) : awp P nt (.region id ops true) (fun x => up (Q x)) e.get h := by
  refine region_core Dk hm hq hv (fun c w₀ => J P nt ops items masks tl rev false c w₀ K) (fun _ _ _ _ _ hJ => hJ.size) (fun _ _ _ _ _ hJ => hJ.dc) (fun _ _ _ _ _ _ _ _ hJ hi => J_step Dk hJ hi) (fun _ _ _ _ _ hJ hall => J_fin Dk hJ hall) ?_
  intro c w a T hh hp hr hdef hsz t1 hfalse hrel hval
  have hce : (⟨c.ρ, c.X, c.h, w.heap⟩ : Ctx) = c := by rw [← hp]
  have hw : ({ w with drawn := w.drawn + 1 } : World).heap = w.heap := rfl
  refine ⟨by simp, fun i k hi hl => (by rw [hfalse i hi] at hl; cases hl), c.ρ, c.h, T, 0, ?_, ?_, ⟨rfl, rfl, rfl⟩, (by rw [hw, hce]; exact hdef), hsz, ⟨Nat.zero_le _, fun h => by cases h⟩, by simpa using t1, fun l i hl => ?_, fun s => ?_, fun i b hb hn _ => hval i b hb hn⟩
  · rw [hw, hce]; exact Ctx.le.refl c
  · rw [hw, hce]; exact hr
  · rw [hfalse i (Dk.tlt i (List.mem_of_getElem? hl))]; simp
  · rw [hw, hce]; exact hrel s

theorem region_dr2 {id : Nat} {ops : Array Oper} {items : List AOper} {masks tl : List Nat} {rev : List AOper} (Dk : DChk P nt ops items masks tl rev true) {ia ib : Nat} {r : List Nat} {sa sb : Nat} {za zb : D} (T : Two P nt ops items masks tl ia ib r sa sb za zb)
    (hm : P.follows .mixedOrders = true) {K : LEnv → Heap → Prop} {Q : LPost} {e : LEnv} {h : Heap} (hq : ∀ e h, K e h → Q .normal e h)
    (hv : vcVals P (((List.range ops.size).filter (fun i => !tl.contains i)).filterMap (fun i => items[i]?)) (vcTail P rev (tl.filterMap (fun i => items[i]?)) K) e h) : awp P nt (.region id ops true) (fun x => up (Q x)) e.get h := by
  refine region_core Dk hm hq hv (fun c w₀ listed a w => J1 P nt ops items masks tl rev ia ib r sa sb za zb c w₀ K listed a w ∨ J P nt ops items masks tl rev true c w₀ K listed a w)
    (fun _ _ _ _ _ hJ => hJ.elim (·.size) (·.size)) (fun _ _ _ _ _ hJ => hJ.elim (·.dc) (·.dc)) (fun _ _ _ _ _ _ _ _ hJ hi => hJ.elim (fun hJ => J1_step Dk T hJ hi) fun hJ => wpOpIn_mono (fun _ _ h => Or.inr h) (J_step Dk hJ hi)) (fun c w₀ listed a w hJ hall => hJ.elim (fun hJ => ?_) fun hJ => J_fin Dk hJ hall) ?_
  · exfalso
    obtain ⟨ρ, h0, N, e, A, B, hAB, hA, hB, _⟩ := hJ.st
    have h1 := hall ia (Dk.tlt ia (by rw [T.etl]; simp))
    have h2 := hall ib (Dk.tlt ib (by rw [T.etl]; simp))
    rw [hA] at h1; rw [hB] at h2; rw [h1, h2] at hAB; cases hAB
  · intro c w a E hh hp hr hdef hsz t1 hfalse hrel hval
    left
    have hce : (⟨c.ρ, c.X, c.h, w.heap⟩ : Ctx) = c := by rw [← hp]
    have hw : ({ w with drawn := w.drawn + 1 } : World).heap = w.heap := rfl
    obtain ⟨N, ht⟩ := exists_top hr
    have item : ∀ (k s : Nat) (z : D), (∃ o t, ops[k]? = some o ∧ o.op = .alloc t ∧ cZero P t = some z ∧ o.dst = some s ∧ o.guard = none) → k ∈ tl → items[k]? = some ⟨some s, .alloc z, none⟩ := by
      rintro k s z ⟨o, t, ho, hop, hz, hd, hg⟩ hk
      have hlt : k < items.length := by rw [Dk.len]; exact Dk.tlt k hk
      have It := Dk.item k o items[k] ho (by simp [hlt])
      have h1 := It.op
      rw [if_pos (by simpa using hk)] at h1
      have h2 : items[k].op = .alloc z := by
        have := h1.1
        simp only [cOp, cOp0, hop, hz, Option.map_some] at this
        exact (Option.some.inj this).symm
      have h3 := It.dst
      have h4 := It.gn hg
      rw [hd] at h3
      rw [List.getElem?_eq_getElem hlt]
      congr 1
      cases hx : items[k] with
      | mk dst op guard =>
        rw [hx] at h2 h3 h4
        simp only at h2 h3 h4
        rw [h2, h3, h4]
    have ita := item ia sa za T.oa (by rw [T.etl]; simp)
    have itb := item ib sb zb T.ob (by rw [T.etl]; simp)
    rw [T.etl, List.filterMap_cons_some ita, List.filterMap_cons_some itb] at t1
    have f1 : c.h N = .free := ht.free
    have f2 : c.h (N + 1) = .free := ht.1 _ (by omega)
    have ht2 : Top (upd c.h N (.box za)) (N + 1) := ⟨fun m hm => by
        have : m ≠ N := by omega
        simp [upd, this]; exact ht.1 m (by omega), fun k hk => by
        have : k = N := by omega
        subst this; simp [upd]⟩
    have u1 := (t1 N ht).2
    have u2 := (u1 (N + 1) ht2).2
    rw [← hS_2 f1 f2] at u2
    have h00 : hS c.h N za zb false false = c.h := hS_0 f1 f2
    have g1 : ∀ s, s ≠ sa → s ≠ sb → (((E.put (some sa) (.ptr N 0 0)).put (some sb) (.ptr (N + 1) 0 0)).get s) = E.get s := by
      intro s h1 h2
      rw [LEnv.get_put, Env.put, upd_other _ _ h2, LEnv.get_put, Env.put, upd_other _ _ h1]
    refine ⟨by simp, fun i k hi hl => (by rw [hfalse i hi] at hl; cases hl), c.ρ, c.h, N, _, false, false, rfl, hfalse _ (Dk.tlt _ (by rw [T.etl]; simp)), hfalse _ (Dk.tlt _ (by rw [T.etl]; simp)), fun i hi => hfalse _ (Dk.tlt _ (by rw [T.etl]; simp [hi])), ?_, ?_, ⟨rfl, rfl, rfl⟩, ?_, hsz, u2, ?_, ?_, fun s => ?_, fun i b hb hn _ => ?_⟩
    · rw [h00, hw, hce]; exact Ctx.le.refl c
    · rw [h00, hw, hce]; exact hr
    · rw [h00, hw, hce]; exact hdef
    · rw [LEnv.get_put, Env.put, upd_other _ _ T.ne, LEnv.get_put]; simp [Env.put, upd]
    · rw [LEnv.get_put]; simp [Env.put, upd]
    · by_cases h1 : s = sa
      · exact Or.inl (Or.inl ⟨h1, rfl⟩)
      · by_cases h2 : s = sb
        · exact Or.inl (Or.inr (Or.inl ⟨h2, rfl⟩))
        · rcases hrel s with h | h
          · exact Or.inl (Or.inr (Or.inr h))
          · right
            rw [h00, hw, hce, g1 s h1 h2]
            exact h
    · obtain ⟨n1, n2, n3, n4⟩ := T.vals i b hb hn
      rw [h00]
      exact ValRdy.congr (fun s hs => (g1 s (by rintro rfl; exact n1 hs) (by rintro rfl; exact n2 hs)).symm) (fun s hs => g1 s (by rintro rfl; exact n3 hs) (by rintro rfl; exact n4 hs)) (hval i b hb hn)

def pairOk (masks tl rv : List Nat) (i k : Nat) (a b : AOper) : Bool :=
  (match a.dst with
    | none => true
    | some s => if tl.contains i then tl.contains k || !b.rd.contains s || (masks.getD i 0).testBit k
      else (i == k || b.dst != some s) && (!b.rd.contains s || (decide (i < k) && (masks.getD k 0).testBit i))) &&
  (!(tl.contains i && !tl.contains k && a.op.mut && !b.op.stable) || (masks.getD i 0).testBit k || rv.contains k)

def maskOf (masks : List Nat) (l : List Edge) : Nat := l.foldl (fun s e => if Region.binds .any e then s ||| 2 ^ e.on ||| masks.getD e.on 0 else s) 0

def ordOk (masks : List Nat) : List Nat → Bool
  | [] => true
  | i :: r => r.all (fun k => (masks.getD k 0).testBit i) && ordOk masks r

def itemsOf (P : Program) (nt : Nat) (ops : Array Oper) (tl : List Nat) : List Oper → Nat → Option (List AOper)
  | [], _ => some []
  | o :: r, i => match (if tl.contains i then ctOper P nt ops o else cdOper P nt ops o), itemsOf P nt ops tl r (i + 1) with
    | some a, some s => some (a :: s)
    | _, _ => none

/-- As 'ordOk', but the first two are in any order. -/
def ord2 (masks : List Nat) : List Nat → Bool
  | a :: b :: r => r.all (fun k => (masks.getD k 0).testBit a && (masks.getD k 0).testBit b) && ordOk masks r
  | _ => false

def dchk (tw : Bool) (ops : Array Oper) (items : List AOper) (masks tl rv : List Nat) : Bool :=
  (ops.toList.zipIdx.all fun p => (p.1.after.toList.all fun e => !Region.binds .any e || decide (e.on < p.2)) && (masks.getD p.2 0 == maskOf masks p.1.after.toList)) &&
  tl.all (fun i => decide (i < ops.size)) && (if tw then ord2 masks tl else ordOk masks tl) && (rv.all fun k => !tl.contains k && (match items[k]? with | some b => b.guard.isNone && b.dst.isSome | none => false)) &&
  items.zipIdx.all fun p => items.zipIdx.all fun q => pairOk masks tl rv p.2 q.2 p.1 q.1

/-- A region whose order is open, in its short form. -/
def cDr0 (P : Program) (nt : Nat) (tbl : Nat → Option (List Nat × List Nat × List Nat)) (id : Nat) (ops : Array Oper) : Option ACode :=
  if P.follows .mixedOrders then
    match tbl id with
    | some (masks, tl, rv) => match itemsOf P nt ops tl ops.toList 0 with
      | some items => if dchk false ops items masks tl rv then
          some (.dreg (((List.range ops.size).filter (fun i => !tl.contains i)).filterMap (fun i => items[i]?)) (tl.filterMap (fun i => items[i]?)) (rv.filterMap (fun i => items[i]?))) else none
      | none => none
    | none => none
  else none

theorem itemsOf_spec {ops : Array Oper} {tl : List Nat} : ∀ {l : List Oper} {i : Nat} {items : List AOper}, itemsOf P nt ops tl l i = some items → items.length = l.length ∧ ∀ (k : Nat) (o : Oper) (a : AOper), l[k]? = some o → items[k]? = some a → Item P nt ops (tl.contains (i + k)) o a
  | [], i, items, h => by simp [itemsOf] at h; subst h; simp
  | o :: r, i, items, h => by
    simp only [itemsOf] at h
    split at h
    · rename_i a s h1 h2
      simp at h; subst h
      obtain ⟨l1, l2⟩ := itemsOf_spec h2
      refine ⟨by simp [l1], fun k o' a' ho ha => ?_⟩
      cases k with
      | zero =>
        simp at ho ha; subst ho ha
        rw [Nat.add_zero]
        by_cases ht : tl.contains i = true
        · rw [if_pos ht] at h1; rw [ht]; exact ctOper_item h1
        · rw [if_neg ht] at h1
          have : tl.contains i = false := by simpa using ht
          rw [this]; exact cdOper_item h1
      | succ k =>
        have := l2 k o' a' (by simpa using ho) (by simpa using ha)
        rw [show i + (k + 1) = i + 1 + k by omega]
        exact this
    · cases h

theorem maskOf_bit {masks : List Nat} {k : Nat} : ∀ (l : List Edge) (s : Nat), (l.foldl (fun s e => if Region.binds .any e then s ||| 2 ^ e.on ||| masks.getD e.on 0 else s) s).testBit k = true →
    s.testBit k = true ∨ ∃ e, e ∈ l ∧ Region.binds .any e = true ∧ (k = e.on ∨ (masks.getD e.on 0).testBit k = true) := by
  intro l
  induction l with
  | nil => intro s h; exact Or.inl h
  | cons e r ih =>
    intro s h
    rw [List.foldl_cons] at h
    rcases ih _ h with h | ⟨e', he, hb, hc⟩
    · split at h
      · rename_i hb
        simp only [Nat.testBit_or, Bool.or_eq_true] at h
        rcases h with (h | h) | h
        · exact Or.inl h
        · rw [Nat.testBit_two_pow] at h
          exact Or.inr ⟨e, by simp, hb, Or.inl (by have := of_decide_eq_true h; omega)⟩
        · exact Or.inr ⟨e, by simp, hb, Or.inr h⟩
      · exact Or.inl h
    · exact Or.inr ⟨e', by simp [he], hb, hc⟩

theorem ordOk_spec {masks : List Nat} : ∀ {l : List Nat}, ordOk masks l = true → l.Pairwise (fun i k => (masks.getD k 0).testBit i = true)
  | [], _ => by simp
  | i :: r, h => by
    simp only [ordOk, Bool.and_eq_true, List.all_eq_true] at h
    exact List.pairwise_cons.2 ⟨fun k hk => h.1 k hk, ordOk_spec h.2⟩

theorem mem_zipIdx {α : Type} {l : List α} {i : Nat} {x : α} (h : l[i]? = some x) : (x, i) ∈ l.zipIdx := by
  refine List.mem_of_getElem? (i := i) ?_
  rw [List.getElem?_zipIdx, h]
  simp

theorem ord_get {tw : Bool} {masks tl : List Nat} (h : (if tw then ord2 masks tl else ordOk masks tl) = true) : ∀ l k i i' : Nat, tl[l]? = some i → tl[k]? = some i' → l < k → (tw = true ∧ l = 0 ∧ k = 1) ∨ (masks.getD i' 0).testBit i = true := by
  have one : ∀ {t : List Nat}, ordOk masks t = true → ∀ l k i i' : Nat, t[l]? = some i → t[k]? = some i' → l < k → (masks.getD i' 0).testBit i = true := by
    intro t ht l k i i' hl hk hlt
    have hl1 := (List.getElem?_eq_some_iff.1 hl)
    have hk1 := (List.getElem?_eq_some_iff.1 hk)
    have := List.pairwise_iff_getElem.1 (ordOk_spec ht) l k hl1.1 hk1.1 hlt
    rw [hl1.2, hk1.2] at this
    exact this
  intro l k i i' hl hk hlt
  cases tw with
  | false => exact Or.inr (one (by simpa using h) l k i i' hl hk hlt)
  | true =>
    rw [if_pos rfl] at h
    match tl, h with
    | a :: b :: r, h =>
      simp only [ord2, Bool.and_eq_true, List.all_eq_true] at h
      match l, k, hl, hk, hlt with
      | 0, 1, _, _, _ => exact Or.inl ⟨rfl, rfl, rfl⟩
      | 0, k + 2, hl, hk, _ =>
        simp at hl hk
        subst hl
        exact Or.inr (h.1 i' (List.mem_of_getElem? hk)).1
      | 1, k + 2, hl, hk, _ =>
        simp at hl hk
        subst hl
        exact Or.inr (h.1 i' (List.mem_of_getElem? hk)).2
      | l + 2, k + 2, hl, hk, hlt =>
        simp at hl hk
        exact Or.inr (one h.2 l k i i' hl hk (by omega))
    | [], h => simp [ord2] at h
    | [_], h => simp [ord2] at h

theorem dchk_ok {tw : Bool} {ops : Array Oper} {items : List AOper} {masks tl rv : List Nat} (hi : itemsOf P nt ops tl ops.toList 0 = some items) (hc : dchk tw ops items masks tl rv = true) : DChk P nt ops items masks tl (rv.filterMap (fun i => items[i]?)) tw := by
  obtain ⟨l1, l2⟩ := itemsOf_spec hi
  simp only [dchk, Bool.and_eq_true, List.all_eq_true] at hc
  obtain ⟨⟨⟨⟨c1, c2⟩, c3⟩, c5⟩, c4⟩ := hc
  have pair : ∀ (i k : Nat) (a b : AOper), items[i]? = some a → items[k]? = some b → pairOk masks tl rv i k a b = true := fun i k a b ha hb => c4 (a, i) (mem_zipIdx ha) (b, k) (mem_zipIdx hb)
  refine ⟨by simpa using l1, fun i o a ho ha => ?_, fun i o ho ed he hb => ?_, fun i o ho k hk => ?_, fun i hi => by simpa using c2 i hi, ord_get c3, fun i k a b ha hb hn s hs => ?_, fun i k a b ha hb hn hk s hs hr => ?_, fun i k a b ha hb hn hk hmu hst => ?_, fun b hb => ?_⟩
  · have := l2 i o a (by simpa using ho) ha
    rw [Nat.zero_add] at this
    exact this
  · have := (c1 (o, i) (mem_zipIdx (by simpa using ho))).1 ed he
    simpa [hb] using this
  · have := (c1 (o, i) (mem_zipIdx (by simpa using ho))).2
    have hme : masks.getD i 0 = maskOf masks o.after.toList := by simpa using this
    rw [hme] at hk
    rcases maskOf_bit _ _ hk with h | h
    · simp at h
    · exact h
  · have := pair i k a b ha hb
    simp only [pairOk, hs, Bool.and_eq_true] at this
    have h1 := this.1
    rw [if_neg (by simpa using hn)] at h1
    simp only [Bool.and_eq_true, Bool.or_eq_true, beq_iff_eq, bne_iff_ne, ne_eq, Bool.not_eq_true', decide_eq_true_eq] at h1
    refine ⟨fun hne => h1.1.resolve_left hne, fun hr => ?_⟩
    have := h1.2.resolve_left (by simp [hr])
    exact this
  · have := pair i k a b ha hb
    simp only [pairOk, hs, Bool.and_eq_true] at this
    have h1 := this.1
    rw [if_pos (by simpa using hn)] at h1
    simp only [Bool.or_eq_true, Bool.not_eq_true'] at h1
    rcases h1 with (h1 | h1) | h1
    · exact absurd (by simpa using h1) hk
    · exfalso
      rw [List.contains_eq_mem] at h1
      simp [hr] at h1
    · exact h1
  · have := pair i k a b ha hb
    simp only [pairOk, Bool.and_eq_true] at this
    have h2 := this.2
    have hk' : tl.contains k = false := by simpa using hk
    have hn' : tl.contains i = true := by simpa using hn
    simp only [hn', hk', hmu, hst] at h2
    rcases (by simpa using h2 : _ ∨ _) with h3 | h3
    · exact Or.inl h3
    · right
      simp only [List.mem_filterMap]
      exact ⟨k, h3, hb⟩
  · simp only [List.mem_filterMap] at hb
    obtain ⟨k, hk, hb⟩ := hb
    have := c5 k hk
    rw [hb] at this
    simp only [Bool.and_eq_true, Bool.not_eq_true', Option.isNone_iff_eq_none] at this
    have hkl : k < ops.size := by
      have h1 := (List.getElem?_eq_some_iff.1 hb).1
      rw [l1] at h1
      simpa using h1
    have It := l2 k ops[k] b (by simp [hkl]) hb
    rw [Nat.zero_add] at It
    have hop := It.op
    rw [if_neg (by rw [this.1]; simp)] at hop
    exact ⟨this.2.1, cdOp_isVal hop, this.2.2⟩


theorem cDr0_ok (P : Program) (nt : Nat) (tbl : Nat → Option (List Nat × List Nat × List Nat)) : DrOk P nt (cDr0 P nt tbl) := by
  intro id ops ac h Q e hp hv
  unfold cDr0 at h
  split at h
  case isFalse => cases h
  rename_i hm
  cases ht : tbl id with
  | none => simp [ht] at h
  | some p =>
    obtain ⟨masks, tl, rv⟩ := p
    simp only [ht] at h
    cases hi : itemsOf P nt ops tl ops.toList 0 with
    | none => simp [hi] at h
    | some items =>
      simp only [hi] at h
      split at h
      case isFalse => cases h
      rename_i hc
      simp only [Option.some.injEq] at h
      subst h
      exact region_dr (K := Q .normal) (dchk_ok hi hc) hm (fun _ _ h => h) hv

def twoOk (P : Program) (nt : Nat) (ops : Array Oper) (items : List AOper) (masks tl : List Nat) : Bool :=
  match tl with
  | ia :: ib :: r => match ops[ia]?, ops[ib]? with
    | some oa, some ob => match oa.op, ob.op, oa.dst, ob.dst, oa.guard, ob.guard with
      | .alloc ta, .alloc tb, some sa, some sb, none, none => (cZero P ta).isSome && (cZero P tb).isSome && ia != ib && !r.contains ia && !r.contains ib && sa != sb && decide (sa < nt) && decide (sb < nt) &&
          r.all (fun k => (masks.getD k 0).testBit ia && (masks.getD k 0).testBit ib) && items.zipIdx.all (fun q => tl.contains q.2 || (!q.1.rd.contains sa && !q.1.rd.contains sb && q.1.dst != some sa && q.1.dst != some sb))
      | _, _, _, _, _, _ => false
    | _, _ => false
  | _ => false
theorem twoOk_ok {ops : Array Oper} {items : List AOper} {masks tl : List Nat} (h : twoOk P nt ops items masks tl = true) : ∃ ia ib r sa sb za zb, Two P nt ops items masks tl ia ib r sa sb za zb := by
  unfold twoOk at h
  split at h
  case h_2 => cases h
  rename_i ia ib r
  split at h
  case h_2 => cases h
  rename_i oa ob hoa hob
  split at h
  case h_2 => cases h
  rename_i ta tb sa sb h1 h2 h3 h4 h5 h6
  simp only [Bool.and_eq_true, Bool.not_eq_true', bne_iff_ne, ne_eq, decide_eq_true_eq, List.all_eq_true, Option.isSome_iff_exists] at h
  obtain ⟨⟨⟨⟨⟨⟨⟨⟨⟨⟨za, c1⟩, ⟨zb, c2⟩⟩, c3⟩, c4⟩, c5⟩, c6⟩, c7⟩, c8⟩, c9⟩, c10⟩ := h
  refine ⟨ia, ib, r, sa, sb, za, zb, rfl, ⟨c3, by simpa using c4, by simpa using c5⟩, ⟨oa, ta, hoa, h1, c1, h3, h5⟩, ⟨ob, tb, hob, h2, c2, h4, h6⟩, c6, c9, fun k b hb hk => ?_, ⟨c7, c8⟩⟩
  have := c10 (b, k) (mem_zipIdx hb)
  have hk' : (ia :: ib :: r).contains k = false := by simpa using hk
  simp only [hk', Bool.false_or, Bool.and_eq_true, Bool.not_eq_true', bne_iff_ne, ne_eq] at this
  obtain ⟨⟨⟨t1, t2⟩, t3⟩, t4⟩ := this
  exact ⟨by simpa using t1, by simpa using t2, t3, t4⟩

def cDr2 (P : Program) (nt : Nat) (tbl : Nat → Option (List Nat × List Nat × List Nat)) (id : Nat) (ops : Array Oper) : Option ACode :=
  if P.follows .mixedOrders then
    match tbl id with
    | some (masks, tl, rv) => match itemsOf P nt ops tl ops.toList 0 with
      | some items => if dchk true ops items masks tl rv && twoOk P nt ops items masks tl then
          some (.dreg (((List.range ops.size).filter (fun i => !tl.contains i)).filterMap (fun i => items[i]?)) (tl.filterMap (fun i => items[i]?)) (rv.filterMap (fun i => items[i]?))) else none
      | none => none
    | none => none
  else none
theorem cDr2_ok (P : Program) (nt : Nat) (tbl : Nat → Option (List Nat × List Nat × List Nat)) : DrOk P nt (cDr2 P nt tbl) := by
  intro id ops ac h Q e hp hv
  unfold cDr2 at h
  split at h
  case isFalse => cases h
  rename_i hm
  cases ht : tbl id with
  | none => simp [ht] at h
  | some p =>
    obtain ⟨masks, tl, rv⟩ := p
    simp only [ht] at h
    cases hi : itemsOf P nt ops tl ops.toList 0 with
    | none => simp [hi] at h
    | some items =>
      simp only [hi] at h
      split at h
      case isFalse => cases h
      rename_i hc
      simp only [Bool.and_eq_true] at hc
      simp only [Option.some.injEq] at h
      subst h
      obtain ⟨_, _, _, _, _, _, _, T⟩ := twoOk_ok hc.2
      exact region_dr2 (K := Q .normal) (dchk_ok hi hc.1) T hm (fun _ _ h => h) hv


end Go.Am
/- The abstract machine, part S: regions whose order is open, with operations in a chain that make or turn memory or call; values come at any time. No condition. -/
namespace Go.Am
open Go

variable [GTab]

variable {P : Program} {nt : Nat}

/-- Operations whose value does not depend on memory. -/
def AOp.hfree : AOp → Bool
  | .mov _ => true
  | .pick _ _ _ => true
  | .bin _ _ _ => true
  | .eqv _ _ _ _ _ => true
  | .un _ _ => true
  | .conv _ _ => true
  | .ext _ _ => true
  | .fld _ _ _ _ => true
  | .bld _ _ => true
  | .bldS _ _ _ _ _ => true
  | .slen _ => true
  | .sidx _ _ _ _ _ => true
  | .sslc _ _ _ => true
  | .mkf _ _ _ => true
  | .mn _ _ => true
  | .mx _ _ => true
  | .mn3 _ _ _ => true
  | .mx3 _ _ _ => true
  | _ => false
theorem vcdOp_free {op : AOp} (hf : op.hfree = true) {K : D → Prop} {e : LEnv} {h h' : Heap} (hv : vcdOp P op K e h) : vcdOp P op K e h' := by
  cases op <;> first | exact hv | cases hf
theorem ValRdy.free {a : AOper} (hf : a.op.hfree = true) {e : LEnv} {h h' : Heap} (hv : ValRdy P a e h) : ValRdy P a e h' := by
  obtain ⟨d, h1, h2⟩ := hv
  refine ⟨d, h1, ?_⟩
  cases hg : a.guard with
  | none => rw [hg] at h2; exact fun K' hk => vcdOp_free hf (h2 K' hk)
  | some p =>
    obtain ⟨g, want⟩ := p
    rw [hg] at h2
    obtain ⟨b, q1, q2, q3⟩ := h2
    exact ⟨b, q1, fun hb K' hk => vcdOp_free hf (q2 hb K' hk), q3⟩

def sSt (masks tl : List Nat) (k : Nat) : Nat := (tl.filter fun i => (masks.getD k 0).testBit i).length
def sVals (items : List AOper) (masks tl : List Nat) (j : Nat) : List AOper := ((List.range items.length).filter fun k => !tl.contains k && sSt masks tl k == j).filterMap fun k => items[k]?
def sRevI (items : List AOper) (masks tl : List Nat) (j i : Nat) : List Nat :=
  (List.range items.length).filter fun k => !tl.contains k && decide (sSt masks tl k < j) && !(masks.getD i 0).testBit k && (match items[k]? with | some b => !b.op.hfree | none => false)
def sRev (items : List AOper) (masks tl : List Nat) (j i : Nat) : List AOper := (sRevI items masks tl j i).filterMap fun k => items[k]?
def sCode (items : List AOper) (masks tl : List Nat) : List Nat → Nat → ACode
  | [], j => .dreg (sVals items masks tl j) [] []
  | i :: r, j => .seq (.dreg (sVals items masks tl j) (match items[i]? with | some a => [a] | none => [⟨none, .dead, none⟩]) (sRev items masks tl (j + 1) i)) (sCode items masks tl r (j + 1))
def sRest (P : Program) (items : List AOper) (masks tl : List Nat) : List Nat → Nat → (LEnv → Heap → Prop) → LEnv → Heap → Prop
  | [], _, K => K
  | i :: r, j, K => match items[i]? with
    | some a => vcOper P a fun e h => vcRev P (sRev items masks tl (j + 1) i) e h ∧ vcVals P (sVals items masks tl (j + 1)) (sRest P items masks tl r (j + 1) K) e h
    | none => fun _ _ => False

def sPure : AOp → Bool
  | .bldS .. => false
  | .call .. => false
  | .fadd .. => false
  | _ => true
theorem vcd_pure {op : AOp} (hp : sPure op = true) {K : D → Prop} {e : LEnv} {h : Heap} : vcdOp P op K e h = vcOp P op (fun d _ => K d) e h := by
  cases op <;> first | rfl | cases hp
theorem vcdOp_mono {op : AOp} {K K' : D → Prop} (hk : ∀ d, K d → K' d) {e : LEnv} {h : Heap} (hv : vcdOp P op K e h) : vcdOp P op K' e h := by
  by_cases hp : sPure op = true
  · rw [vcd_pure hp] at hv ⊢
    exact vcOp_mono (fun d _ hd => hk d hd) hv
  cases op with
  | bldS a b c d f => exact ⟨hv.1, hv.2.1, hv.2.2.1, hk _ hv.2.2.2⟩
  | call f as =>
    obtain ⟨r, h1, h2, h3, h4⟩ := hv
    exact ⟨r, h1, h2, h3, hk _ h4⟩
  | fadd x o =>
    simp only [vcdOp] at hv ⊢
    split at hv
    · exact ⟨hv.1, hk _ hv.2⟩
    · exact hk _ hv
    · exact hv
  | _ => exact absurd rfl hp
theorem vcVals_mono : ∀ {l : List AOper} {K K' : LEnv → Heap → Prop}, (∀ e h, K e h → K' e h) → ∀ {e : LEnv} {h : Heap}, vcVals P l K e h → vcVals P l K' e h
  | [], _, _, hk, e, h, hv => hk e h hv
  | o :: r, K, K', hk, e, h, hv => by
    simp only [vcVals, vcdOper] at hv ⊢
    cases hg : o.guard with
    | none =>
      simp only [hg] at hv ⊢
      exact vcdOp_mono (fun d hd => vcVals_mono hk hd) hv
    | some q =>
      obtain ⟨j, want⟩ := q
      simp only [hg, vguard1] at hv ⊢
      cases hb : gv (e.get j) <;> simp only [hb] at hv ⊢ <;> try exact hv
      exact ⟨fun hb => vcdOp_mono (fun d hd => vcVals_mono hk hd) (hv.1 hb), fun hb => vcVals_mono hk (hv.2 hb)⟩
theorem vcOper_mono' {o : AOper} {K K' : LEnv → Heap → Prop} (hk : ∀ e h, K e h → K' e h) {e : LEnv} {h : Heap} (hv : vcOper P o K e h) : vcOper P o K' e h := by
  simp only [vcOper, vguard] at hv ⊢
  cases hg : o.guard with
  | none => simp only [hg] at hv ⊢; exact vcOp_mono (fun d h' hh => hk _ _ hh) hv
  | some q =>
    obtain ⟨j, want⟩ := q
    simp only [hg] at hv ⊢
    cases hb : gv (e.get j) <;> simp only [hb] at hv ⊢ <;> try exact hv
    exact ⟨fun hb => vcOp_mono (fun d h' hh => hk _ _ hh) (hv.1 hb), fun hb => hk _ _ (hv.2 hb)⟩

theorem sCode_rest {items : List AOper} {masks tl : List Nat} : ∀ (l : List Nat) (j : Nat) {Q : LPost} {e : LEnv} {h : Heap}, vcC P (sCode items masks tl l j) Q e h → vcVals P (sVals items masks tl j) (sRest P items masks tl l j (Q .normal)) e h
  | [], j, Q, e, h, hv => hv
  | i :: r, j, Q, e, h, hv => by
    simp only [sCode, vcC] at hv
    refine vcVals_mono (fun e h hv => ?_) hv
    simp only [sRest]
    have hv := vcTailR_of hv
    cases hi : items[i]? with
    | none => simp only [hi, vcTailR, vcOper, vcOp] at hv
    | some a =>
      simp only [hi, vcTailR] at hv ⊢
      exact vcOper_mono' (fun e h hh => ⟨hh.1, sCode_rest r (j + 1) hh.2⟩) hv

/-- What is looked at once and for all. -/
structure SChk (P : Program) (nt : Nat) (ops : Array Oper) (items : List AOper) (masks tl : List Nat) : Prop where
  len : items.length = ops.size
  itv : ∀ (i : Nat) (o : Oper) (a : AOper), ops[i]? = some o → items[i]? = some a → i ∉ tl → Item P nt ops false o a
  itt : ∀ (i : Nat) (o : Oper), ops[i]? = some o → i ∈ tl → cOper P true nt ops o = items[i]?
  edge : ∀ (i : Nat) (o : Oper), ops[i]? = some o → ∀ e, e ∈ o.after.toList → Region.binds .any e = true → e.on < i
  mask : ∀ (i : Nat) (o : Oper), ops[i]? = some o → ∀ k, (masks.getD i 0).testBit k = true → ∃ e, e ∈ o.after.toList ∧ Region.binds .any e = true ∧ (k = e.on ∨ (masks.getD e.on 0).testBit k = true)
  tlt : ∀ i, i ∈ tl → i < ops.size
  tord : ∀ l k i i' : Nat, tl[l]? = some i → tl[k]? = some i' → l < k → (masks.getD i' 0).testBit i = true
  -- a value's stage: so many of the chain come ahead of it
  stg : ∀ (k l i : Nat), k < ops.size → k ∉ tl → tl[l]? = some i → ((masks.getD k 0).testBit i = true ↔ l < sSt masks tl k)
  rdv : ∀ (i k : Nat) (a b : AOper), items[i]? = some a → items[k]? = some b → i ∉ tl → ∀ s, a.dst = some s → (i ≠ k → b.dst ≠ some s) ∧ (s ∈ b.rd → i < k ∧ (masks.getD k 0).testBit i = true ∧ (k ∉ tl → sSt masks tl i ≤ sSt masks tl k))
  rdt : ∀ (i k : Nat) (a b : AOper), items[i]? = some a → items[k]? = some b → i ∈ tl → k ∉ tl → ∀ s, a.dst = some s → s ∈ b.rd → (masks.getD k 0).testBit i = true ∨ (masks.getD i 0).testBit k = true
  rev : ∀ (l i : Nat), tl[l]? = some i → ∀ b, b ∈ sRev items masks tl (l + 1) i → b.guard = none ∧ b.dst.isSome = true

variable {ops : Array Oper} {items : List AOper} {masks tl : List Nat}

theorem mask_ltS (S : SChk P nt ops items masks tl) : ∀ (i : Nat), i < ops.size → ∀ k, (masks.getD i 0).testBit k = true → k < i := by
  intro i
  induction i using Nat.strongRecOn with
  | _ i ih =>
    intro hi k hk
    have ho : ops[i]? = some ops[i] := by simp [hi]
    obtain ⟨e, he, hb, hc⟩ := S.mask i _ ho k hk
    have hlt := S.edge i _ ho e he hb
    rcases hc with h | h
    · omega
    · have := ih e.on hlt (by omega) k h
      omega
theorem rdy_S (S : SChk P nt ops items masks tl) {listed : Array Bool} (hsz : listed.size = ops.size) (hdc : ∀ i k, i < ops.size → lst listed i = true → (masks.getD i 0).testBit k = true → lst listed k = true)
    {i : Nat} (hi : i ∈ Region.ready .any ops listed) : Rdy ops masks listed i := by
  obtain ⟨h1, h2, h3⟩ := ready_spec hi
  refine ⟨h1, h2, fun k hk => ?_⟩
  have ho : ops[i]? = some ops[i] := by simp [h1]
  obtain ⟨e, he, hb, hc⟩ := S.mask i _ ho k hk
  have hon := S.edge i _ ho e he hb
  have hl : lst listed e.on = true := by
    have := h3 _ ho e he hb
    unfold lst
    have hsz : e.on < listed.size := by rw [hsz]; omega
    simpa [Array.getD, hsz] using this
  rcases hc with rfl | h
  · exact hl
  · exact hdc e.on k (by omega) hl h
theorem all_listedS (S : SChk P nt ops items masks tl) {listed : Array Bool} (hsz : listed.size = ops.size) (hr : Region.ready .any ops listed = []) : ∀ i, i < ops.size → lst listed i = true := by
  intro i
  induction i using Nat.strongRecOn with
  | _ i ih =>
    intro hi
    by_cases hl : lst listed i = true
    · exact hl
    · exfalso
      have hmem : i ∈ Region.ready .any ops listed := by
        unfold Region.ready
        simp only [List.mem_filter, List.mem_range, Bool.and_eq_true, Bool.not_eq_true']
        refine ⟨hi, by unfold lst at hl; simpa using hl, ?_⟩
        have ho : ops[i]? = some ops[i] := by simp [hi]
        rw [ho]
        simp only [Option.map_some, Option.getD_some, Array.all_eq_true']
        intro e he
        by_cases hb : Region.binds .any e = true
        · have hlt := S.edge i _ ho e (by simpa using he) hb
          have := ih e.on hlt (by omega)
          unfold lst at this
          have hs : e.on < listed.size := by omega
          simp [Array.getD, hs] at this ⊢
          simp [this]
        · simp [hb]
      rw [hr] at hmem
      simp at hmem
theorem any_S (S : SChk P nt ops items masks tl) {JJ : Array Bool → Act → World → Prop} {Q : Exit → Act → World → Prop} {r : Option Nat}
    (hsz : ∀ listed a w, JJ listed a w → listed.size = ops.size) (hdc : ∀ listed a w, JJ listed a w → ∀ i k, i < ops.size → lst listed i = true → (masks.getD i 0).testBit k = true → lst listed k = true)
    (step : ∀ listed a w i, JJ listed a w → i ∈ Region.ready .any ops listed → wpOpIn (rF r) 0 P ops Q i (JJ (listed.setIfInBounds i true)) a w)
    (hq : ∀ listed a w, JJ listed a w → (∀ i, i < ops.size → lst listed i = true) → Q .normal a w) : ∀ (fuel : Nat) (listed : Array Bool) (a : Act) (w : World), left ops.size listed ≤ fuel → JJ listed a w → wpAnyIn (rF r) 0 P .any ops Q fuel listed a w := by
  have done : ∀ (listed : Array Bool) (a : Act) (w : World), JJ listed a w → Region.ready .any ops listed = [] → Q .normal a w := by
    intro listed a w hJ hr
    exact hq listed a w hJ (all_listedS S (hsz _ _ _ hJ) hr)
  intro fuel
  induction fuel with
  | zero =>
    intro listed a w hl hJ
    have hr : Region.ready .any ops listed = [] := by
      cases hrd : Region.ready .any ops listed with
      | nil => rfl
      | cons x r =>
        exfalso
        have hm : x ∈ Region.ready .any ops listed := by rw [hrd]; simp
        have R := rdy_S S (hsz _ _ _ hJ) (hdc _ _ _ hJ) hm
        have : x ∈ (List.range ops.size).filter fun i => !lst listed i := by simp [R.lt, R.un]
        have h0 := List.length_pos_of_mem this
        unfold left at hl
        omega
    exact ⟨hr, done listed a w hJ hr⟩
  | succ fuel ih =>
    intro listed a w hl hJ
    refine ⟨done listed a w hJ, fun i hi => ?_⟩
    have R := rdy_S S (hsz _ _ _ hJ) (hdc _ _ _ hJ) hi
    refine wpOpIn_mono (fun a' w' hJ' => ih _ a' w' ?_ hJ') (step listed a w i hJ hi)
    have hil : i < listed.size := by rw [hsz _ _ _ hJ]; exact R.lt
    have := filt_lt (l := List.range ops.size) (p := fun i => !lst listed i) (q := fun k => !lst (listed.setIfInBounds i true) k) (fun x _ hx => by
      rw [lst_set hil] at hx
      split at hx
      · simp at hx
      · exact hx) (i := i) (by simpa using R.lt) (by simp [R.un]) (by simp [lst_set hil])
    unfold left at hl ⊢
    omega

structure JS (P : Program) (nt : Nat) (ops : Array Oper) (items : List AOper) (masks tl : List Nat) (c₀ : Ctx) (w₀ : World) (K : LEnv → Heap → Prop) (listed : Array Bool) (a : Act) (w : World) : Prop where
  size : listed.size = ops.size
  dc : ∀ i k, i < ops.size → lst listed i = true → (masks.getD i 0).testBit k = true → lst listed k = true
  st : ∃ (ρ : Nat → Option Nat) (h : Heap) (e : LEnv) (j : Nat), c₀.le ⟨ρ, c₀.X, h, w.heap⟩ ∧ HeapRel ⟨ρ, c₀.X, h, w.heap⟩ ∧ WS w₀ w ∧ Marks ⟨ρ, c₀.X, h, w.heap⟩ a.defers ∧ a.tmps.size = nt ∧
    j ≤ tl.length ∧ sRest P items masks tl (tl.drop j) j K e h ∧
    (∀ l i, tl[l]? = some i → (lst listed i = true ↔ l < j)) ∧
    (∀ s, (∃ i b, items[i]? = some b ∧ i ∉ tl ∧ lst listed i = false ∧ b.dst = some s) ∨ RelD ⟨ρ, c₀.X, h, w.heap⟩ (e.get s) (a.tmps.getD s Go.undef)) ∧
    (∀ i b, items[i]? = some b → i ∉ tl → lst listed i = false → sSt masks tl i ≤ j → ValRdy P b e h)

theorem sVals_mem {j : Nat} {b : AOper} (hb : b ∈ sVals items masks tl j) : ∃ i, items[i]? = some b ∧ i ∉ tl ∧ sSt masks tl i = j := by
  simp only [sVals, List.mem_filterMap, List.mem_filter, List.mem_range, Bool.and_eq_true, beq_iff_eq, Bool.not_eq_true'] at hb
  obtain ⟨i, ⟨_, h1, h2⟩, h3⟩ := hb
  exact ⟨i, h3, by simpa using h1, h2⟩
theorem sVals_in {i : Nat} {b : AOper} (hi : items[i]? = some b) (hn : i ∉ tl) : b ∈ sVals items masks tl (sSt masks tl i) := by
  simp only [sVals, List.mem_filterMap, List.mem_filter, List.mem_range, Bool.and_eq_true, beq_iff_eq, Bool.not_eq_true']
  exact ⟨i, ⟨(List.getElem?_eq_some_iff.1 hi).1, by simpa using hn, rfl⟩, hi⟩

/-- A stage's values, ahead of time. -/
theorem stage_S (S : SChk P nt ops items masks tl) {j : Nat} {K : LEnv → Heap → Prop} {e : LEnv} {h : Heap} (hv : vcVals P (sVals items masks tl j) K e h) :
    ∃ T : LEnv, K T h ∧ (∀ s, (∀ a, a ∈ sVals items masks tl j → a.dst ≠ some s) → T.get s = e.get s) ∧ ∀ a, a ∈ sVals items masks tl j → ValRdy P a T h := by
  have opOf : ∀ (i : Nat) (b : AOper), items[i]? = some b → i ∉ tl → Item P nt ops false (ops[i]!) b := by
    intro i b hi hn
    have hl : i < ops.size := by rw [← S.len]; exact (List.getElem?_eq_some_iff.1 hi).1
    exact S.itv i _ b (by simp [hl]) hi hn
  refine vals_end _ (fun b hb => ?_) (fun b hb s hs hrd => ?_) ?_ hv
  · obtain ⟨i, h1, h2, h3⟩ := sVals_mem hb
    have := (opOf i b h1 h2).op
    rw [if_neg (by simp)] at this
    exact cdOp_isVal this
  · obtain ⟨i, h1, h2, h3⟩ := sVals_mem hb
    have := ((S.rdv i i b b h1 h1 h2 s hs).2 hrd).1
    omega
  · have hpw : ((List.range items.length).filter fun k => !tl.contains k && sSt masks tl k == j).Pairwise (· < ·) := List.Pairwise.filter _ List.pairwise_lt_range
    have hall : ∀ i, i ∈ ((List.range items.length).filter fun k => !tl.contains k && sSt masks tl k == j) → i ∉ tl := by
      intro i hi
      simp only [List.mem_filter, Bool.and_eq_true] at hi
      simpa using hi.2.1
    have : ∀ (l : List Nat), (∀ i, i ∈ l → i ∉ tl) → l.Pairwise (· < ·) → (l.filterMap (fun i => items[i]?)).Pairwise (fun a b => ∀ s, b.dst = some s → a.dst ≠ some s ∧ s ∉ a.rd) := by
      intro l
      induction l with
      | nil => intro _ _; simp
      | cons x r ih =>
        intro hn hp'
        rw [List.pairwise_cons] at hp'
        have ih' := ih (fun i hi => hn i (by simp [hi])) hp'.2
        cases hx : items[x]? with
        | none => rw [List.filterMap_cons_none hx]; exact ih'
        | some ax =>
          rw [List.filterMap_cons_some hx, List.pairwise_cons]
          refine ⟨fun b hb s hs => ?_, ih'⟩
          simp only [List.mem_filterMap] at hb
          obtain ⟨k, hk, hb⟩ := hb
          have hlt := hp'.1 k hk
          have hkn := hn k (by simp [hk])
          refine ⟨(S.rdv k x b ax hb hx hkn s hs).1 (by omega), fun hrd => ?_⟩
          have := ((S.rdv k x b ax hb hx hkn s hs).2 hrd).1
          omega
    exact this _ hall hpw

open Classical in
theorem JS_step (S : SChk P nt ops items masks tl) {c₀ : Ctx} {w₀ : World} {K : LEnv → Heap → Prop} {listed : Array Bool} {a : Act} {w : World} {Q : Exit → Act → World → Prop} {r : Option Nat}
    (hJ : JS P nt ops items masks tl c₀ w₀ K listed a w) {i : Nat} (hi : i ∈ Region.ready .any ops listed) :
    wpOpIn (rF r) 0 P ops Q i (JS P nt ops items masks tl c₀ w₀ K (listed.setIfInBounds i true)) a w := by
  have R := rdy_S S hJ.size hJ.dc hi
  have hil : i < listed.size := by rw [hJ.size]; exact R.lt
  have hset := fun k => lst_set (k := k) hil
  obtain ⟨o, ho⟩ : ∃ o, ops[i]? = some o := ⟨ops[i]'R.lt, by simp [R.lt]⟩
  have hitl : i < items.length := by rw [S.len]; exact R.lt
  obtain ⟨a0, hai⟩ : ∃ x, items[i]? = some x := ⟨items[i]'hitl, by simp [hitl]⟩
  obtain ⟨ρ, h, e, j, hle, hr, hws, hdef, hsz, hj, htail, hprog, hrel, hval⟩ := hJ.st
  let c : Ctx := ⟨ρ, c₀.X, h, w.heap⟩
  let pend : Nat → Prop := fun s => ∃ k b, items[k]? = some b ∧ k ∉ tl ∧ lst listed k = false ∧ b.dst = some s
  let ef : LEnv := (a0.rd ++ List.range nt).map fun s => (s, if pend s then D.undef else e.get s)
  have efget : ∀ s, ef.get s = if s ∈ a0.rd ++ List.range nt then (if pend s then .undef else e.get s) else .undef := fun s => get_list _ _ s
  have hsim : Sim c nt ef.get a := by
    refine ⟨hr.glob, hr.lo, hdef, hsz, fun s => ?_⟩
    rw [efget]
    split
    · split
      · exact .undef _
      · rename_i hp
        exact (hrel s).resolve_left hp
    · exact .undef _
  have hread : ∀ r, r ∈ a0.rd → ef.get r = e.get r := by
    intro r hr'
    rw [efget, if_pos (by simp [hr']), if_neg]
    rintro ⟨k, b, hb, hk, hun, hd⟩
    have hm := ((S.rdv k i b a0 hb hai hk r hd).2 hr').2.1
    have := R.anc k hm
    rw [hun] at this
    cases this
  have hread' : ∀ r, r ∈ a0.op.reads → e.get r = ef.get r := fun r hr' => (hread r (by simp [AOper.rd, hr'])).symm
  have dc' := dc_set hil R hJ.dc
  have keep : ∀ {ρ' : Nat → Option Nat} {h' : Heap} {t' : Env} {a' : Act} {w' : World} {d : D}, c.le ⟨ρ', c.X, h', w'.heap⟩ → Sim ⟨ρ', c.X, h', w'.heap⟩ nt t' a' → t' = (ef.put o.dst d).get → ∀ s, o.dst ≠ some s → ¬ pend s → RelD ⟨ρ', c.X, h', w'.heap⟩ (e.get s) (a'.tmps.getD s Go.undef) := by
    intro ρ' h' t' a' w' d hle' hs' ht s hs hp
    by_cases hsn : s < nt
    · have := hs'.rel s
      rw [ht, LEnv.get_put] at this
      have e1 : Env.put ef.get o.dst d s = e.get s := by
        have : Env.put ef.get o.dst d s = ef.get s := by
          cases hd : o.dst with
          | none => rfl
          | some x =>
            have : s ≠ x := by rintro rfl; exact hs hd
            simp [Env.put, upd, this]
        rw [this, efget, if_pos (by simp [hsn]), if_neg hp]
      rw [e1] at this
      exact this
    · have h1 := (hrel s).resolve_left hp
      have e1 : a.tmps.getD s Go.undef = Go.undef := by simp [Array.getD, hsz, hsn]
      have e2 : a'.tmps.getD s Go.undef = Go.undef := by simp [Array.getD, hs'.size, hsn]
      rw [e1] at h1
      rw [e2]
      exact h1.mono hle'
  by_cases htl : i ∈ tl
  · -- in the chain
    obtain ⟨l, hl⟩ := List.getElem?_of_mem htl
    have hlj : l = j := by
      have h1 : ¬ l < j := by
        intro hlt
        have := (hprog l i hl).2 hlt
        rw [R.un] at this
        cases this
      rcases Nat.lt_or_ge j l with hgt | hge
      · have hjl : j < tl.length := Nat.lt_trans hgt (List.getElem?_eq_some_iff.1 hl).1
        have hpw := S.tord j l tl[j] i (by simp [hjl]) hl hgt
        have := (hprog j tl[j] (by simp [hjl])).1 (R.anc _ hpw)
        omega
      · omega
    subst hlj
    have hlt := (List.getElem?_eq_some_iff.1 hl).1
    have hli : tl[l] = i := (List.getElem?_eq_some_iff.1 hl).2
    rw [List.drop_eq_getElem_cons hlt, hli] at htail
    simp only [sRest, hai] at htail
    have hco : cOper P true nt ops o = some a0 := by rw [S.itt i o ho htl, hai]
    unfold cOper at hco
    split at hco
    case isFalse => cases hco
    rename_i hdst
    have hd : ∀ j, o.dst = some j → j < nt := by intro j hj; rw [hj] at hdst; simpa using hdst
    have hop : ∃ op, cOp P true o = some op ∧ a0.op = op ∧ a0.dst = o.dst ∧ (o.guard = none → a0.guard = none) ∧ ∀ j want, o.guard = some (j, want) → ∃ s, (ops[j]?).bind (·.dst) = some s ∧ a0.guard = some (s, want) := by
      cases hop : cOp P true o with
      | none => simp [hop] at hco
      | some op =>
        simp only [hop] at hco
        cases hg : o.guard with
        | none => simp [hg] at hco; subst hco; exact ⟨op, rfl, rfl, rfl, fun _ => rfl, fun j w hh => by cases hh⟩
        | some p =>
          obtain ⟨j, want⟩ := p
          simp only [hg] at hco
          cases hj : (ops[j]?).bind (·.dst) with
          | none => simp [hj] at hco
          | some s => simp [hj] at hco; subst hco; exact ⟨op, rfl, rfl, rfl, fun hh => by (cases hh), fun j' w hh => by cases hh; exact ⟨s, hj, rfl⟩⟩
    obtain ⟨op, hop, e1, e2, gn, gs⟩ := hop
    subst e1
    have hnod := cOp_nodefer hop
    let KK : LEnv → Heap → Prop := fun e h => vcRev P (sRev items masks tl (l + 1) i) e h ∧ vcVals P (sVals items masks tl (l + 1)) (sRest P items masks tl (tl.drop (l + 1)) (l + 1) K) e h
    let Kenv : Env → Heap → Prop := fun t' h' => ∃ d, t' = (ef.put o.dst d).get ∧ KK (e.put a0.dst d) h'
    have run : vcOp P a0.op (fun d h' => KK (e.put a0.dst d) h') e h → aop P nt o (aops P nt ops [] Kenv) ef.get h := by
      intro hv
      have := cOp_sound (nt := nt) hop hd _ ef h (vcOp_congr hread' _ h hv)
      refine aop_mono ?_ this
      rintro t' h' ⟨d, rfl, hk⟩
      exact aops_nil ⟨d, rfl, hk⟩
    have hx : aops P nt ops [i] Kenv ef.get h := by
      refine aops_cons ho hnod a0.guard (fun j' want hg => by obtain ⟨s, h1, h2⟩ := gs j' want hg; exact ⟨s, h1, h2⟩) gn hd ?_
      simp only [vcOper, vguard] at htail
      cases hg : a0.guard with
      | none => simp only [hg] at htail; exact run htail
      | some p =>
        obtain ⟨g, want⟩ := p
        simp only [hg] at htail
        cases hb : gv (e.get g) <;> simp only [hb] at htail <;> try exact htail.elim
        rename_i b
        refine ⟨b, by rw [hread g (by simp [AOper.rd, hg])]; exact hb, fun hbw => run (htail.1 hbw), fun hbw => ?_⟩
        exact aops_nil ⟨gU, by rw [LEnv.get_put], htail.2 hbw⟩
    refine one_op (c := c) hx rfl hr hsim ?_
    rintro a' w' ⟨ρ', t', h', k1, k2, k3, k4, d, ht, hk1, hk2⟩
    have hput : ∀ s, a0.dst ≠ some s → (e.put a0.dst d).get s = e.get s := by
      intro s hs
      rw [LEnv.get_put]
      cases hd : a0.dst with
      | none => rfl
      | some x =>
        have : s ≠ x := by rintro rfl; exact hs hd
        simp [Env.put, upd, this]
    obtain ⟨T, t1, t2, t3⟩ := stage_S S hk2
    -- a value of the stage that begins is not done yet
    have unl : ∀ k b, items[k]? = some b → k ∉ tl → sSt masks tl k = l + 1 → lst listed k = false := by
      intro k b hb hk hst
      have hkl : k < ops.size := by rw [← S.len]; exact (List.getElem?_eq_some_iff.1 hb).1
      have hm := (S.stg k l i hkl hk hl).2 (by omega)
      cases hlk : lst listed k with
      | false => rfl
      | true =>
        have := hJ.dc k i hkl hlk hm
        rw [R.un] at this
        cases this
    refine ⟨by simp [hJ.size], dc', ρ', h', T, l + 1, hle.trans k1, k2, hws.trans k3, k4.defers, k4.size, by omega, t1, fun l' i' hl' => ?_, fun s => ?_, fun k b hb hk' hun hst => ?_⟩
    · rw [hset]
      by_cases hii : i' = i
      · subst hii
        rw [if_pos rfl]
        have : l' = l := by
          rcases Nat.lt_trichotomy l' l with h1 | h1 | h1
          · have := mask_ltS S i' R.lt i' (S.tord l' l i' i' hl' hl h1)
            omega
          · exact h1
          · have := mask_ltS S i' R.lt i' (S.tord l l' i' i' hl hl' h1)
            omega
        simp [this]
      · rw [if_neg hii, hprog l' i' hl']
        have : l' ≠ l := by rintro rfl; rw [hl] at hl'; cases hl'; exact hii rfl
        omega
    · by_cases hex : ∃ b, b ∈ sVals items masks tl (l + 1) ∧ b.dst = some s
      · obtain ⟨b, hb, hbd⟩ := hex
        obtain ⟨k, h1, h2, h3⟩ := sVals_mem hb
        left
        refine ⟨k, b, h1, h2, ?_, hbd⟩
        rw [hset, if_neg (by rintro rfl; exact h2 htl)]
        exact unl k b h1 h2 h3
      · rw [t2 s (fun b hb hbd => hex ⟨b, hb, hbd⟩)]
        by_cases hs : a0.dst = some s
        · right
          have := k4.rel s
          rw [ht, LEnv.get_put, ← e2, hs] at this
          rw [LEnv.get_put, hs]
          simpa [Env.put, upd] using this
        · rw [hput s hs]
          by_cases hp : pend s
          · left
            obtain ⟨k, b, hb, hk', hun, hd⟩ := hp
            refine ⟨k, b, hb, hk', ?_, hd⟩
            rw [hset, if_neg (by rintro rfl; exact hk' htl)]
            exact hun
          · right
            exact keep k1 k4 ht s (by rw [← e2]; exact hs) hp
    · rw [hset] at hun
      split at hun
      · cases hun
      · rename_i hki
        rcases Nat.lt_or_ge (sSt masks tl k) (l + 1) with hlt' | hge
        case inr =>
          have : sSt masks tl k = l + 1 := by omega
          have hm := sVals_in (masks := masks) hb hk'
          rw [this] at hm
          exact t3 b hm
        have hkl : k < ops.size := by rw [← S.len]; exact (List.getElem?_eq_some_iff.1 hb).1
        have v0 := hval k b hb hk' hun (by omega)
        have hnanc : (masks.getD i 0).testBit k ≠ true := by
          intro hm
          have := R.anc k hm
          rw [hun] at this
          cases this
        have hni : ¬ (masks.getD k 0).testBit i = true := by
          intro hm
          have := (S.stg k l i hkl hk' hl).1 hm
          omega
        have vput : ValRdy P b (e.put a0.dst d) h' := by
          by_cases hf : b.op.hfree = true
          · refine ValRdy.congr (e := e) (fun r hr' => ?_) (fun s hs => ?_) (ValRdy.free hf v0)
            · rw [hput r]
              intro hd
              rcases S.rdt i k a0 b hai hb htl hk' r hd hr' with hm | hm
              · exact hni hm
              · exact hnanc hm
            · exact hput s ((S.rdv k i b a0 hb hai hk' s hs).1 hki)
          · have hm : b ∈ sRev items masks tl (l + 1) i := by
              simp only [sRev, sRevI, List.mem_filterMap, List.mem_filter, List.mem_range, Bool.and_eq_true, decide_eq_true_eq, Bool.not_eq_true']
              exact ⟨k, ⟨by rw [S.len]; exact hkl, ⟨⟨by simpa using hk', hlt'⟩, by simpa using hnanc⟩, by rw [hb]; simpa using hf⟩, hb⟩
            have hopb : ∀ b', b' ∈ sRev items masks tl (l + 1) i → b'.guard = none ∧ b'.op.isVal = true := by
              intro b' hb'
              refine ⟨(S.rev l i hl b' hb').1, ?_⟩
              simp only [sRev, sRevI, List.mem_filterMap, List.mem_filter, List.mem_range, Bool.and_eq_true, decide_eq_true_eq, Bool.not_eq_true'] at hb'
              obtain ⟨k2, ⟨q1, ⟨⟨q2, q3⟩, q4⟩, q5⟩, q6⟩ := hb'
              have q7 : k2 < ops.size := by rw [← S.len]; exact q1
              have := (S.itv k2 ops[k2] b' (by simp [q7]) q6 (by simpa using q2)).op
              rw [if_neg (by simp)] at this
              exact cdOp_isVal this
            exact vcRev_mem hopb hk1 b hm (S.rev l i hl b hm).2
        refine ValRdy.congr (fun r hr' => (t2 r fun x hx hxd => ?_).symm) (fun s hs => t2 s fun x hx hxd => ?_) vput
        · obtain ⟨m, m1, m2, m3⟩ := sVals_mem hx
          have := ((S.rdv m k x b m1 hb m2 r hxd).2 hr').2.2 hk'
          omega
        · obtain ⟨m, m1, m2, m3⟩ := sVals_mem hx
          have hmk : k ≠ m := by rintro rfl; omega
          exact (S.rdv k m b x hb m1 hk' s hs).1 hmk hxd
  · -- a value
    have It := S.itv i o a0 ho hai htl
    have hsti : sSt masks tl i ≤ j := by
      rcases Nat.lt_or_ge j (sSt masks tl i) with hlt | hge
      · exfalso
        have hjl : j < tl.length := by
          have : sSt masks tl i ≤ tl.length := List.length_filter_le _ _
          omega
        have hm := (S.stg i j tl[j] R.lt htl (by simp [hjl])).2 hlt
        have := (hprog j tl[j] (by simp [hjl])).1 (R.anc _ hm)
        omega
      · exact hge
    obtain ⟨d, hd1, hd2⟩ := hval i a0 hai htl R.un hsti
    have hop : cdOp P o = some a0.op := by have := It.op; rw [if_neg (by simp)] at this; exact this
    have hnod := cdOp_nodefer hop
    let Kenv : Env → Heap → Prop := fun t' h' => t' = (ef.put o.dst d).get ∧ h' = h
    have run : (∀ K' : D → Prop, K' d → vcdOp P a0.op K' e h) → aop P nt o (aops P nt ops [] Kenv) ef.get h := by
      intro hv
      have := cdOp_sound (nt := nt) hop It.dlt (vcdOp_congr hread' (· = d) h (hv (· = d) rfl))
      refine aop_mono ?_ this
      rintro t' h' ⟨d', rfl, rfl, rfl⟩
      exact aops_nil ⟨rfl, rfl⟩
    have hx : aops P nt ops [i] Kenv ef.get h := by
      refine aops_cons ho hnod a0.guard (fun j' want hg => by obtain ⟨s, h1, h2⟩ := It.gs j' want hg; exact ⟨s, h1, h2⟩) It.gn It.dlt ?_
      cases hg : a0.guard with
      | none => rw [hg] at hd2; exact run hd2
      | some p =>
        obtain ⟨g, want⟩ := p
        rw [hg] at hd2
        obtain ⟨b, q1, q2, q3⟩ := hd2
        refine ⟨b, by rw [hread g (by simp [AOper.rd, hg])]; exact q1, fun hbw => run (q2 hbw), fun hbw => ?_⟩
        exact aops_nil ⟨by rw [LEnv.get_put, q3 hbw], rfl⟩
    refine one_op (c := c) hx rfl hr hsim ?_
    rintro a' w' ⟨ρ', t', h', k1, k2, k3, k4, ht, rfl⟩
    refine ⟨by simp [hJ.size], dc', ρ', h', e, j, hle.trans k1, k2, hws.trans k3, k4.defers, k4.size, hj, htail, fun l' i' hl' => ?_, fun s => ?_, fun k b hb hk' hun hst => ?_⟩
    · rw [hset, if_neg (by rintro rfl; exact htl (List.mem_of_getElem? hl'))]
      exact hprog l' i' hl'
    · by_cases hs : a0.dst = some s
      · right
        have := k4.rel s
        rw [ht, LEnv.get_put, ← It.dst, hs] at this
        rw [hd1 s hs]
        simpa [Env.put, upd] using this
      · by_cases hp : pend s
        · left
          obtain ⟨k, b, hb, hk', hun, hd⟩ := hp
          refine ⟨k, b, hb, hk', ?_, hd⟩
          rw [hset, if_neg (by rintro rfl; rw [hai] at hb; cases hb; exact hs hd)]
          exact hun
        · right
          exact keep k1 k4 ht s (by rw [← It.dst]; exact hs) hp
    · rw [hset] at hun
      split at hun
      · cases hun
      · exact hval k b hb hk' hun hst

theorem region_S {id : Nat} (S : SChk P nt ops items masks tl) (hm : P.follows .mixedOrders = true) {Q : LPost} {e : LEnv} {h : Heap} (hv : vcC P (sCode items masks tl tl 0) Q e h) : awp P nt (.region id ops true) (fun x => up (Q x)) e.get h := by
  intro rd c w a hh hp hr hs _
  subst hh
  refine wpIn_region_any hm ?_
  obtain ⟨T, t1, t2, t3⟩ := stage_S S (sCode_rest tl 0 hv)
  have hfalse : ∀ i, i < ops.size → lst (Array.replicate ops.size false) i = false := by intro i hi; unfold lst; simp [Array.getD, hi]
  have hlt : ∀ i b, items[i]? = some b → i < ops.size := fun i b hb => by rw [← S.len]; exact (List.getElem?_eq_some_iff.1 hb).1
  have hce : (⟨c.ρ, c.X, c.h, w.heap⟩ : Ctx) = c := by rw [← hp]
  refine any_S S (JJ := JS P nt ops items masks tl c w (Q .normal)) (fun _ _ _ hJ => hJ.size) (fun _ _ _ hJ => hJ.dc) (fun _ _ _ _ hJ hi => JS_step S hJ hi) (fun listed a' w' hJ hall => ?_) ops.size _ a _ (Nat.le_trans (List.length_filter_le _ _) (by simp)) ?_
  · obtain ⟨ρ, h, e', j, hle, hrr, hws, hdef, hsz, hj, htail, hprog, hrel, hval⟩ := hJ.st
    have hjl : j = tl.length := by
      rcases Nat.lt_or_ge j tl.length with hlt | hge
      · have := (hprog j tl[j] (by simp [hlt])).1 (hall _ (S.tlt _ (List.getElem_mem hlt)))
        omega
      · omega
    subst hjl
    rw [List.drop_length] at htail
    refine ⟨ρ, e'.get, h, hle, hrr, hws, ⟨hrr.glob, hrr.lo, hdef, hsz, fun s => ?_⟩, e', rfl, htail⟩
    rcases hrel s with ⟨i, b, hb, _, hun, _⟩ | h
    · rw [hall i (hlt i b hb)] at hun
      cases hun
    · exact h
  · have hw : ({ w with drawn := w.drawn + 1 } : World).heap = w.heap := rfl
    refine ⟨by simp, fun i k hi hl => (by rw [hfalse i hi] at hl; cases hl), c.ρ, c.h, T, 0, ?_, ?_, ⟨rfl, rfl, rfl⟩, (by rw [hw, hce]; exact hs.defers), hs.size, Nat.zero_le _, by simpa using t1, fun l i hl => ?_, fun s => ?_, fun i b hb hn _ hst => ?_⟩
    · rw [hw, hce]; exact Ctx.le.refl c
    · rw [hw, hce]; exact hr
    · rw [hfalse i (S.tlt i (List.mem_of_getElem? hl))]; simp
    · by_cases hex : ∃ b, b ∈ sVals items masks tl 0 ∧ b.dst = some s
      · obtain ⟨b, hb, hbd⟩ := hex
        obtain ⟨k, h1, h2, h3⟩ := sVals_mem hb
        exact Or.inl ⟨k, b, h1, h2, hfalse k (hlt k b h1), hbd⟩
      · right
        rw [t2 s (fun b hb hbd => hex ⟨b, hb, hbd⟩), hw, hce]
        exact hs.rel s
    · have := sVals_in (masks := masks) hb hn
      rw [show sSt masks tl i = 0 by omega] at this
      exact t3 b this

/-- The looking, by program. -/
def sItems (P : Program) (nt : Nat) (ops : Array Oper) (tl : List Nat) : List Oper → Nat → Option (List AOper)
  | [], _ => some []
  | o :: r, i => match (if tl.contains i then cOper P true nt ops o else cdOper P nt ops o), sItems P nt ops tl r (i + 1) with
    | some a, some s => some (a :: s)
    | _, _ => none
def sPair (masks tl : List Nat) (i k : Nat) (a b : AOper) : Bool :=
  match a.dst with
  | none => true
  | some s => if tl.contains i then tl.contains k || !b.rd.contains s || (masks.getD k 0).testBit i || (masks.getD i 0).testBit k
    else (i == k || b.dst != some s) && (!b.rd.contains s || (decide (i < k) && (masks.getD k 0).testBit i && (tl.contains k || decide (sSt masks tl i ≤ sSt masks tl k))))
def sChk (ops : Array Oper) (items : List AOper) (masks tl : List Nat) : Bool :=
  (ops.toList.zipIdx.all fun p => (p.1.after.toList.all fun e => !Region.binds .any e || decide (e.on < p.2)) && (masks.getD p.2 0 == maskOf masks p.1.after.toList)) &&
  tl.all (fun i => decide (i < ops.size)) && ordOk masks tl &&
  ((List.range ops.size).all fun k => tl.contains k || tl.zipIdx.all fun p => (masks.getD k 0).testBit p.1 == decide (p.2 < sSt masks tl k)) &&
  (items.zipIdx.all fun p => items.zipIdx.all fun q => sPair masks tl p.2 q.2 p.1 q.1) &&
  (tl.zipIdx.all fun p => (sRev items masks tl (p.2 + 1) p.1).all fun b => b.guard.isNone && b.dst.isSome)

theorem sItems_spec : ∀ {l : List Oper} {i : Nat} {items : List AOper}, sItems P nt ops tl l i = some items → items.length = l.length ∧ ∀ (k : Nat) (o : Oper), l[k]? = some o → (if tl.contains (i + k) then cOper P true nt ops o else cdOper P nt ops o) = items[k]?
  | [], i, items, h => by simp [sItems] at h; subst h; simp
  | o :: r, i, items, h => by
    simp only [sItems] at h
    split at h
    · rename_i a s h1 h2
      simp at h; subst h
      obtain ⟨l1, l2⟩ := sItems_spec h2
      refine ⟨by simp [l1], fun k o' ho => ?_⟩
      cases k with
      | zero => simp at ho; subst ho; simpa using h1
      | succ k =>
        have := l2 k o' (by simpa using ho)
        rw [show i + (k + 1) = i + 1 + k by omega, this]
        simp
    · cases h

theorem sChk_ok (hi : sItems P nt ops tl ops.toList 0 = some items) (hc : sChk ops items masks tl = true) : SChk P nt ops items masks tl := by
  obtain ⟨l1, l2⟩ := sItems_spec hi
  simp only [sChk, Bool.and_eq_true, List.all_eq_true] at hc
  obtain ⟨⟨⟨⟨⟨c1, c2⟩, c3⟩, c4⟩, c5⟩, c6⟩ := hc
  have pair : ∀ (i k : Nat) (a b : AOper), items[i]? = some a → items[k]? = some b → sPair masks tl i k a b = true := fun i k a b ha hb => c5 (a, i) (mem_zipIdx ha) (b, k) (mem_zipIdx hb)
  refine ⟨by simpa using l1, fun i o a ho ha hn => ?_, fun i o ho hm => ?_, fun i o ho ed he hb => ?_, fun i o ho k hk => ?_, fun i hi => by simpa using c2 i hi, fun l k i i' hl hk hlt => ?_, fun k l i hk hn hl => ?_, fun i k a b ha hb hn s hs => ?_, fun i k a b ha hb hm hn s hs hr => ?_, fun l i hl b hb => ?_⟩
  · have := l2 i o (by simpa using ho)
    rw [Nat.zero_add, if_neg (by simpa using hn), ha] at this
    exact cdOper_item this
  · have := l2 i o (by simpa using ho)
    rw [Nat.zero_add, if_pos (by simpa using hm)] at this
    exact this
  · have := (c1 (o, i) (mem_zipIdx (by simpa using ho))).1 ed he
    simpa [hb] using this
  · have := (c1 (o, i) (mem_zipIdx (by simpa using ho))).2
    have hme : masks.getD i 0 = maskOf masks o.after.toList := by simpa using this
    rw [hme] at hk
    rcases maskOf_bit _ _ hk with h | h
    · simp at h
    · exact h
  · have hl1 := List.getElem?_eq_some_iff.1 hl
    have hk1 := List.getElem?_eq_some_iff.1 hk
    have := List.pairwise_iff_getElem.1 (ordOk_spec c3) l k hl1.1 hk1.1 hlt
    rw [hl1.2, hk1.2] at this
    exact this
  · have := c4 k (by simpa using hk)
    simp only [Bool.or_eq_true, List.all_eq_true] at this
    have := (this.resolve_left (by simpa using hn)) (i, l) (mem_zipIdx hl)
    simp only [beq_iff_eq] at this
    rw [this]; simp
  · have := pair i k a b ha hb
    simp only [sPair, hs] at this
    rw [if_neg (by simpa using hn)] at this
    simp only [Bool.and_eq_true, Bool.or_eq_true, beq_iff_eq, bne_iff_ne, ne_eq, Bool.not_eq_true', decide_eq_true_eq] at this
    refine ⟨fun hne => this.1.resolve_left hne, fun hr => ?_⟩
    have h2 := this.2.resolve_left (by simp [hr])
    exact ⟨h2.1.1, h2.1.2, fun hk => h2.2.resolve_left (by simpa using hk)⟩
  · have := pair i k a b ha hb
    simp only [sPair, hs] at this
    rw [if_pos (by simpa using hm)] at this
    simp only [Bool.or_eq_true, Bool.not_eq_true'] at this
    rcases this with ((h1 | h1) | h1) | h1
    · exact absurd (by simpa using h1) hn
    · exfalso
      rw [List.contains_eq_mem] at h1
      simp [hr] at h1
    · exact Or.inl h1
    · exact Or.inr h1
  · have := c6 (i, l) (mem_zipIdx hl) b hb
    simp only [Bool.and_eq_true, Option.isNone_iff_eq_none] at this
    exact this

/-- A region with a chain: the table's third list is [999999]. -/
def cDrS (P : Program) (nt : Nat) (tbl : Nat → Option (List Nat × List Nat × List Nat)) (id : Nat) (ops : Array Oper) : Option ACode :=
  if P.follows .mixedOrders then
    match tbl id with
    | some (masks, tl, [999999]) => match sItems P nt ops tl ops.toList 0 with
      | some items => if sChk ops items masks tl then some (sCode items masks tl tl 0) else none
      | none => none
    | _ => none
  else none
theorem cDrS_ok (P : Program) (nt : Nat) (tbl : Nat → Option (List Nat × List Nat × List Nat)) : DrOk P nt (cDrS P nt tbl) := by
  intro id ops ac h Q e hp hv
  unfold cDrS at h
  split at h
  case isFalse => cases h
  rename_i hm
  split at h
  case h_2 => cases h
  rename_i masks tl _
  cases hi : sItems P nt ops tl ops.toList 0 with
  | none => simp [hi] at h
  | some items =>
    simp only [hi] at h
    split at h
    case isFalse => cases h
    rename_i hc
    simp only [Option.some.injEq] at h
    subst h
    exact region_S (sChk_ok hi hc) hm hv

/-- A region that is not known is taken as one that is never reached. -/
def cDr (P : Program) (nt : Nat) (tbl : Nat → Option (List Nat × List Nat × List Nat)) (id : Nat) (ops : Array Oper) : Option ACode :=
  match cDrS P nt tbl id ops with
  | some x => some x
  | none => match cDr0 P nt tbl id ops with
    | some x => some x
    | none => match cDr2 P nt tbl id ops with
      | some x => some x
      | none => some (.dreg [⟨none, .dead, none⟩] [] [])

theorem cDr_ok (P : Program) (nt : Nat) (tbl : Nat → Option (List Nat × List Nat × List Nat)) : DrOk P nt (cDr P nt tbl) := by
  intro id ops ac h Q e hp hv
  unfold cDr at h
  split at h
  · rename_i x h0
    cases h
    exact cDrS_ok P nt tbl id ops _ h0 Q e hp hv
  split at h
  · rename_i x h0
    cases h
    exact cDr0_ok P nt tbl id ops _ h0 Q e hp hv
  split at h
  · rename_i x h0
    cases h
    exact cDr2_ok P nt tbl id ops _ h0 Q e hp hv
  · simp at h
    subst h
    exact hv.elim

end Go.Am
/- The abstract machine, part 28: what has to be shown as text with bound names; rules for it. No condition. -/
namespace Go.Am
open Go

variable [GTab]

def vhOp (P : Program) (op : AOp) (h : Heap) (K : D → Heap → Prop) : Prop := vcOp P op K [] h
def vdOp (P : Program) (op : AOp) (h : Heap) (K : D → Prop) : Prop := vcdOp P op K [] h
def vcond (x : D) (A B : Prop) : Prop :=
  match x with
  | .bool t => (t = true → A) ∧ (t = false → B)
  | _ => False
def vjoin {α : Type} (K : α) (f : α → Prop) : Prop := f K

/-- What is known of a loop's piece of code. -/
def LSem (P : Program) (a : ACode) (nt : Nat) (c : Code) : Prop := ∀ (Q : LPost) (e : LEnv) (h : Heap), vcC P a Q e h → awp P nt c (fun x => up (Q x)) e.get h
def vrange (P : Program) (g : D) (ps : List Nat) (e : LEnv) (a b : ACode) (h : Heap) (E : Nat → Heap → Prop) : Prop :=
  match g with
  | .fn f fs cs => fs = [] ∧ cCallee P f = true ∧ ∀ (n : Nat) (B : LoopB), Top h n → B.env = LEnv.get e → B.ps = ps → ps.Nodup → (∀ p, p ∈ ps → p < B.nt) → LSem P a B.nt B.assign → LSem P b B.nt B.body →
      ACall P f (.yld n :: cs) (upd h n (.lp .ready B)) fun _ h' => E n h'
  | _ => False
/-- One round, as what has to be shown of a loop's body. -/
def vround (P : Program) (n : Nat) (B : LoopB) (ps : List Nat) (ds : List D) (e : LEnv) (a b : ACode) (h : Heap) (K : D → Heap → Prop) : Prop :=
  vcC P a (fun x e1 h1 => x = .normal ∧ h1 n = .lp .ready B ∧ vcC P b (fun x e2 h2 => h2 n = .lp .busy B ∧ roundEnd x n B K h2) e1 (upd h1 n (.lp .busy B))) (ps.zip ds ++ e) h
theorem ayield_round {P : Program} {n : Nat} {B : LoopB} {ds : List D} {h : Heap} {K : D → Heap → Prop} {a b : ACode} {ps : List Nat} (hn : h n = .lp .ready B) (hps : B.ps = ps) (hA : LSem P a B.nt B.assign) (hB : LSem P b B.nt B.body) (hnd : ps.Nodup)
    (hlt : ∀ p, p ∈ ps → p < B.nt) (hlen : ds.length = ps.length) {e : LEnv} (he : B.env = e.get) (hv : vround P n B ps ds e a b h K) : AYield P n ds h K :=
  ayield_of hn hA hB (hps ▸ hnd) (hps ▸ hlt) (hps ▸ hlen) he (by rw [hps]; exact hv)
def vrangeEnd (n : Nat) (h : Heap) (KN : Prop) (KE : Nat → Prop) (KR : Prop) : Prop :=
  match h n with
  | .lp .ready _ => KN
  | .lp (.done (.exit id)) _ => KE id
  | .lp (.done .ret) _ => KR
  | _ => False

variable {P : Program} {h : Heap} {K : D → Prop} {KH : D → Heap → Prop} {k : IntKind} {a b : Int}

theorem v_cond {p : Prop} [Decidable p] {A B : Prop} : vcond (.bool (decide p)) A B = ((p → A) ∧ (¬ p → B)) := by
  simp [vcond]
theorem v_condn {p : Prop} [Decidable p] {A B : Prop} : vcond (.bool (!decide p)) A B = ((¬ p → A) ∧ (p → B)) := by
  simp [vcond]
theorem v_condb {t : Bool} {A B : Prop} : vcond (.bool t) A B = ((t = true → A) ∧ (t = false → B)) := rfl
theorem v_join {α : Type} {K : α} {f : α → Prop} : vjoin K f = f K := rfl
theorem v_guard {t w : Bool} {A : (D → Heap → Prop) → Prop} : vguard (.bool t) w A h KH = ((t = w → A KH) ∧ (t ≠ w → KH gU h)) := by simp [vguard, gv]
theorem v_guardU {ds : List D} {w : Bool} {A : (D → Heap → Prop) → Prop} : vguard (.tup ds) w A h KH = KH gU h := by simp [vguard, gv]
theorem v_guard1 {t w : Bool} {A : (D → Prop) → Prop} : vguard1 (.bool t) w A K = ((t = w → A K) ∧ (t ≠ w → K gU)) := by simp [vguard1, gv]
theorem v_guard1U {ds : List D} {w : Bool} {A : (D → Prop) → Prop} : vguard1 (.tup ds) w A K = K gU := by simp [vguard1, gv]

theorem v_add : vbin .add (.int k a) (.int k b) K = K (.int k (k.wrap (a + b))) := by simp [vbin]
theorem v_sub : vbin .sub (.int k a) (.int k b) K = K (.int k (k.wrap (a - b))) := by simp [vbin]
theorem v_mul : vbin .mul (.int k a) (.int k b) K = K (.int k (k.wrap (a * b))) := by simp [vbin]
theorem v_quo : vbin .quo (.int k a) (.int k b) K = (b ≠ 0 ∧ K (.int k (k.wrap (a.tdiv b)))) := by simp [vbin]
theorem v_rem : vbin .rem (.int k a) (.int k b) K = (b ≠ 0 ∧ K (.int k (a.tmod b))) := by simp [vbin]
theorem v_and : vbin .and (.int k a) (.int k b) K = K (.int k (ibits .and k a b)) := by simp [vbin]
theorem v_or : vbin .or (.int k a) (.int k b) K = K (.int k (ibits .or k a b)) := by simp [vbin]
theorem v_xor : vbin .xor (.int k a) (.int k b) K = K (.int k (ibits .xor k a b)) := by simp [vbin]
theorem v_andNot : vbin .andNot (.int k a) (.int k b) K = K (.int k (ibits .andNot k a b)) := by simp [vbin]
theorem v_shl {k' : IntKind} : vbin .shl (.int k a) (.int k' b) K = (0 ≤ b ∧ K (.int k (ishl k a b))) := rfl
theorem v_shr {k' : IntKind} : vbin .shr (.int k a) (.int k' b) K = (0 ≤ b ∧ K (.int k (ishr k a b))) := rfl
theorem v_eql : vbin .eql (.int k a) (.int k b) K = K (.bool (decide (a = b))) := by simp [vbin]
theorem v_neq : vbin .neq (.int k a) (.int k b) K = K (.bool (!decide (a = b))) := by simp [vbin]
theorem v_lss : vbin .lss (.int k a) (.int k b) K = K (.bool (decide (a < b))) := by simp [vbin]
theorem v_leq : vbin .leq (.int k a) (.int k b) K = K (.bool (decide (a ≤ b))) := by simp [vbin]
theorem v_gtr : vbin .gtr (.int k a) (.int k b) K = K (.bool (decide (b < a))) := by simp [vbin]
theorem v_geq : vbin .geq (.int k a) (.int k b) K = K (.bool (decide (b ≤ a))) := by simp [vbin]
theorem toList_inj {a b : ByteArray} : (a.toList == b.toList) = decide (a = b) := by
  by_cases h : a = b
  · subst h; simp
  · have : ¬ a.toList = b.toList := fun e => h (by
      have := congrArg List.toArray e
      simp [ByteArray.toList_eq] at this
      cases a; cases b; simp_all)
    simp [h, this]
theorem v_seql {s t : ByteArray} : vbin .eql (.str s) (.str t) K = K (.bool (decide (s = t))) := by simp [vbin, toList_inj]
theorem v_sneq {s t : ByteArray} : vbin .neq (.str s) (.str t) K = K (.bool (!decide (s = t))) := by simp [vbin, toList_inj]
theorem v_neg : vun .neg (.int k a) K = K (.int k (k.wrap (0 - a))) := rfl
theorem v_not {t : Bool} : vun .not (.bool t) K = K (.bool !t) := rfl
theorem v_cpl : vun .xor (.int k a) K = K (.int k (ibits .xor k (if k.signed then -1 else k.max) a)) := rfl
theorem v_lennil : vlen .nil h K = K (.int .i64 0) := rfl
theorem v_len {xs : List D} : vlen (.sl xs) h K = K (.int .i64 xs.length) := rfl
theorem v_lenms {n o l : Nat} : vlen (.ms n o l) h K = ((h n).live = true ∧ K (.int .i64 l)) := rfl
theorem h_conv {k' : IntKind} : vhOp P (.conv k (.c (.int k' a))) h KH = KH (.int k (k.wrap a)) h := rfl
theorem h_pick {t : Bool} {x y : D} : vhOp P (.pick (.c (.bool t)) (.c x) (.c y)) h KH = KH (if t then x else y) h := rfl
theorem h_ext {ds : List D} {i : Nat} : vhOp P (.ext (.c (.tup ds)) i) h KH = (match ds[i]? with | some d => KH d h | none => False) := rfl
theorem h_fld {cs : List D} {o s : Nat} {g : Bool} : vhOp P (.fld (.c (.agg cs)) o s g) h KH = vpart cs o s g (KH · h) := rfl
theorem h_slen {s : ByteArray} : vhOp P (.slen (.c (.str s))) h KH = KH (.int .i64 s.size) h := rfl
theorem h_faddp {n i j o : Nat} : vhOp P (.fadd (.c (.ptr n i j)) o) h KH = ((h n).live = true ∧ KH (.ptr n i (j + o)) h) := rfl
theorem h_faddv {d : D} {j o : Nat} : vhOp P (.fadd (.c (.vp d j)) o) h KH = KH (.vp d (j + o)) h := rfl
theorem h_iadd {xs : List D} {s : Nat} : vhOp P (.iadd (.c (.sl xs)) (.c (.int k a)) s) h KH = (0 ≤ a ∧ a < xs.length ∧ ∀ d, xs[a.toNat]? = some d → d.cells.length = s ∧ KH (.vp d 0) h) := rfl
theorem h_iaddm {α : Type} {f : α → D} {xs : List α} {s : Nat} : vhOp P (.iadd (.c (.sl (xs.map f))) (.c (.int k a)) s) h KH = (0 ≤ a ∧ a < xs.length ∧ ∀ d, xs[a.toNat]? = some d → (f d).cells.length = s ∧ KH (.vp (f d) 0) h) := by
  simp [vhOp, vcOp, vint, Arg.get]
theorem h_iaddms {n o l s : Nat} : vhOp P (.iadd (.c (.ms n o l)) (.c (.int k a)) s) h KH = (0 ≤ a ∧ a < l ∧ (∃ els, (h n).row = some (s, els)) ∧ KH (.ptr n (o + a.toNat) 0) h) := rfl
theorem h_ldv {d : D} {j s : Nat} {g : Bool} : vhOp P (.ld (.c (.vp d j)) s g) h KH = vpart d.cells j s g (KH · h) := rfl
theorem v_part1 {cs : List D} {o s : Nat} : vpart cs o s false K = (match cs[o]? with | some d => K d | none => False) := rfl
theorem v_parta {cs : List D} {o s : Nat} : vpart cs o s true K = (o + s ≤ cs.length ∧ K (.agg ((cs.drop o).take s))) := rfl

def vdPure : AOp → Bool
  | .bldS .. => false
  | .call .. => false
  | .fadd .. => false
  | _ => true
theorem d_pure {op : AOp} (hp : vdPure op = true) : vdOp P op h K = vhOp P op h (fun d _ => K d) := by
  cases op <;> first | rfl | cases hp

theorem wrap64 {n : Int} (h1 : -9223372036854775808 ≤ n) (h2 : n ≤ 9223372036854775807) : IntKind.i64.wrap n = n := by
  simp only [IntKind.wrap, IntKind.signed, IntKind.bits]
  first | omega | (simp; omega)
end Go.Am
/- The abstract machine, part 29: an evaluator for the short form of code. No condition. -/
namespace Go.Am
open Go

variable [GTab]

/-- The used blocks, in order. -/
abbrev LH := List Slot
def LH.h (l : LH) : Heap := fun n => l.getD n .free
def LH.nf (l : LH) : Prop := ∀ s, s ∈ l → s ≠ .free

/- Values are put into a form that is worked out, before they are used. -/
def fi {α : Type} (n : Int) (k : Int → α) : α := match n with
  | .ofNat m => Nat.rec (k 0) (fun p _ => k (.ofNat (p + 1))) m
  | .negSucc m => Nat.rec (k (.negSucc 0)) (fun p _ => k (.negSucc (p + 1))) m
theorem fi_eq {α : Type} {n : Int} {k : Int → α} : fi n k = k n := by
  cases n with
  | ofNat m => cases m <;> rfl
  | negSucc m => cases m <;> rfl
def fn' {α : Type} (n : Nat) (k : Nat → α) : α := Nat.rec (k 0) (fun p _ => k (p + 1)) n
theorem fn_eq {α : Type} {n : Nat} {k : Nat → α} : fn' n k = k n := by cases n <;> rfl
def fb {α : Type} (b : Bool) (k : Bool → α) : α := match b with
  | true => k true
  | false => k false
theorem fb_eq {α : Type} {b : Bool} {k : Bool → α} : fb b k = k b := by cases b <;> rfl
def fl {α β : Type} : List α → (List α → β) → β
  | [], k => k []
  | a :: r, k => fl r fun r' => k (a :: r')
theorem fl_eq {α β : Type} : ∀ {l : List α} {k : List α → β}, fl l k = k l
  | [], _ => rfl
  | a :: r, k => by rw [fl, fl_eq]

mutual
def fD {α : Type} : D → (D → α) → α
  | .undef, k => k .undef
  | .nil, k => k .nil
  | .nilfn, k => k .nilfn
  | .int q n, k => fi n fun n => k (.int q n)
  | .bool b, k => fb b fun b => k (.bool b)
  | .str s, k => k (.str s)
  | .sl xs, k => fDL xs fun xs => k (.sl xs)
  | .ms n o m, k => fn' n fun n => fn' o fun o => fn' m fun m => k (.ms n o m)
  | .ptr n i j, k => fn' n fun n => fn' i fun i => fn' j fun j => k (.ptr n i j)
  | .vp e j, k => fD e fun e => fn' j fun j => k (.vp e j)
  | .agg cs, k => fDL cs fun cs => k (.agg cs)
  | .tup ds, k => fDL ds fun ds => k (.tup ds)
  | .fn f a b, k => fDL a fun a => fDL b fun b => k (.fn f a b)
  | .yld n, k => k (.yld n)
def fDL {α : Type} : List D → (List D → α) → α
  | [], k => k []
  | d :: r, k => fD d fun d => fDL r fun r => k (d :: r)
end
mutual
theorem fD_eq {α : Type} : ∀ (d : D) (k : D → α), fD d k = k d
  | .undef, _ => rfl
  | .nil, _ => rfl
  | .nilfn, _ => rfl
  | .int q n, k => by rw [fD, fi_eq]
  | .bool b, k => by rw [fD, fb_eq]
  | .str s, _ => rfl
  | .sl xs, k => by rw [fD, fDL_eq xs]
  | .ms n o m, k => by simp only [fD, fn_eq]
  | .ptr n i j, k => by simp only [fD, fn_eq]
  | .vp e j, k => by rw [fD, fD_eq e, fn_eq]
  | .agg cs, k => by rw [fD, fDL_eq cs]
  | .tup ds, k => by rw [fD, fDL_eq ds]
  | .fn f a b, k => by rw [fD, fDL_eq a, fDL_eq b]
  | .yld n, _ => rfl
theorem fDL_eq {α : Type} : ∀ (l : List D) (k : List D → α), fDL l k = k l
  | [], _ => rfl
  | d :: r, k => by rw [fDL, fD_eq d, fDL_eq r]
end

def strEq (a b : ByteArray) : Bool := a.data.toList == b.data.toList
theorem strEq_eq {a b : ByteArray} : (a.toList == b.toList) = strEq a b := by simp [strEq, ByteArray.toList_eq]
theorem eq_of_strEq {a b : ByteArray} (h : strEq a b = true) : a = b := by
  rw [← strEq_eq, toList_inj] at h; simpa using h

mutual
def D.same : D → D → Bool
  | .undef, .undef => true
  | .nil, .nil => true
  | .nilfn, .nilfn => true
  | .int q n, .int q' n' => decide (q = q') && decide (n = n')
  | .bool b, .bool b' => b == b'
  | .str s, .str s' => strEq s s'
  | .sl xs, .sl ys => D.sameL xs ys
  | .ms n o m, .ms n' o' m' => n == n' && o == o' && m == m'
  | .ptr n o m, .ptr n' o' m' => n == n' && o == o' && m == m'
  | .vp e j, .vp e' j' => D.same e e' && j == j'
  | .agg xs, .agg ys => D.sameL xs ys
  | .tup xs, .tup ys => D.sameL xs ys
  | .fn f a b, .fn f' a' b' => f == f' && D.sameL a a' && D.sameL b b'
  | .yld n, .yld n' => n == n'
  | _, _ => false
def D.sameL : List D → List D → Bool
  | [], [] => true
  | d :: r, e :: s => D.same d e && D.sameL r s
  | _, _ => false
end
mutual
theorem D.eq_of_same : ∀ (a b : D), D.same a b = true → a = b
  | .undef, b, h => by cases b <;> simp_all [D.same]
  | .nil, b, h => by cases b <;> simp_all [D.same]
  | .nilfn, b, h => by cases b <;> simp_all [D.same]
  | .int q n, b, h => by cases b <;> simp_all [D.same]
  | .bool x, b, h => by cases b <;> simp_all [D.same]
  | .str s, b, h => by
    cases b <;> simp_all [D.same]
    exact eq_of_strEq h
  | .sl xs, b, h => by
    cases b <;> simp only [D.same] at h <;> first | (cases h; done) | rw [D.eq_of_sameL xs _ h]
  | .ms n o m, b, h => by cases b <;> simp_all [D.same]
  | .ptr n o m, b, h => by cases b <;> simp_all [D.same]
  | .vp e j, b, h => by
    cases b <;> simp only [D.same, Bool.and_eq_true, beq_iff_eq] at h <;> first | (cases h; done) | rw [D.eq_of_same e _ h.1, h.2]
  | .agg xs, b, h => by
    cases b <;> simp only [D.same] at h <;> first | (cases h; done) | rw [D.eq_of_sameL xs _ h]
  | .tup xs, b, h => by
    cases b <;> simp only [D.same] at h <;> first | (cases h; done) | rw [D.eq_of_sameL xs _ h]
  | .fn f x y, b, h => by
    cases b <;> simp only [D.same, Bool.and_eq_true, beq_iff_eq] at h <;> first | (cases h; done) | rw [h.1.1, D.eq_of_sameL x _ h.1.2, D.eq_of_sameL y _ h.2]
  | .yld n, b, h => by cases b <;> simp_all [D.same]
theorem D.eq_of_sameL : ∀ (a b : List D), D.sameL a b = true → a = b
  | [], b, h => by cases b <;> simp_all [D.sameL]
  | d :: r, b, h => by
    cases b with
    | nil => simp [D.sameL] at h
    | cons e s =>
      simp only [D.sameL, Bool.and_eq_true] at h
      rw [D.eq_of_same d e h.1, D.eq_of_sameL r s h.2]
end

def ebin (op : BinOp) (x y : D) : Option D :=
  match x, y with
  | .int k a, .int k' b =>
    match op with
    | .shl => if 0 ≤ b then some (.int k (ishl k a b)) else none
    | .shr => if 0 ≤ b then some (.int k (ishr k a b)) else none
    | .add => if k = k' then some (.int k (k.wrap (a + b))) else none
    | .sub => if k = k' then some (.int k (k.wrap (a - b))) else none
    | .mul => if k = k' then some (.int k (k.wrap (a * b))) else none
    | .quo => if k = k' ∧ b ≠ 0 then some (.int k (k.wrap (a.tdiv b))) else none
    | .rem => if k = k' ∧ b ≠ 0 then some (.int k (a.tmod b)) else none
    | .and => if k = k' then some (.int k (ibits .and k a b)) else none
    | .or => if k = k' then some (.int k (ibits .or k a b)) else none
    | .xor => if k = k' then some (.int k (ibits .xor k a b)) else none
    | .andNot => if k = k' then some (.int k (ibits .andNot k a b)) else none
    | .eql => if k = k' then some (.bool (decide (a = b))) else none
    | .neq => if k = k' then some (.bool (!decide (a = b))) else none
    | .lss => if k = k' then some (.bool (decide (a < b))) else none
    | .leq => if k = k' then some (.bool (decide (a ≤ b))) else none
    | .gtr => if k = k' then some (.bool (decide (b < a))) else none
    | .geq => if k = k' then some (.bool (decide (b ≤ a))) else none
  | .str a, .str b =>
    match op with
    | .eql => some (.bool (strEq a b))
    | .neq => some (.bool (!strEq a b))
    | .add => if a.size + b.size ≤ 9223372036854775807 then some (.str (a ++ b)) else none
    | _ => none
  | _, _ => none
theorem ebin_ok {op : BinOp} {x y d : D} (h : ebin op x y = some d) {K : D → Prop} (hk : K d) : vbin op x y K := by
  unfold ebin at h
  split at h
  · cases op <;> simp only at h <;> (try split at h) <;> simp only [Option.some.injEq, reduceCtorEq] at h <;> subst h <;> simp_all [vbin]
  · cases op <;> simp only at h <;> (try split at h) <;> simp only [Option.some.injEq, reduceCtorEq] at h <;> subst h <;> simp_all [vbin, strEq_eq]
  · cases h

def eun (op : UnOp) (x : D) : Option D :=
  match op, x with
  | .neg, .int k n => some (.int k (k.wrap (0 - n)))
  | .xor, .int k n => some (.int k (ibits .xor k (if k.signed then -1 else k.max) n))
  | .not, .bool b => some (.bool !b)
  | _, _ => none
theorem eun_ok {op : UnOp} {x d : D} (h : eun op x = some d) {K : D → Prop} (hk : K d) : vun op x K := by
  unfold eun at h
  split at h <;> simp only [Option.some.injEq, reduceCtorEq] at h <;> subst h <;> exact hk

def eqCellsE : List CK → List D → List D → Option Bool
  | [], [], [] => some true
  | .i :: ks, .int k a :: r, .int k' b :: s => if k = k' then (eqCellsE ks r s).map (fun t => decide (a = b) && t) else none
  | .b :: ks, .bool a :: r, .bool b :: s => (eqCellsE ks r s).map (fun t => (a == b) && t)
  | .s :: ks, .str a :: r, .str b :: s => (eqCellsE ks r s).map (fun t => strEq a b && t)
  | _, _, _ => none
theorem eqCellsE_eq : ∀ (ks : List CK) (x y : List D), eqCells ks x y = eqCellsE ks x y := by
  intro ks x y
  induction ks, x, y using eqCells.induct <;> simp_all [eqCells, eqCellsE, strEq_eq]

def epart (cs : List D) (off size : Nat) (agg : Bool) : Option D :=
  if agg then if off + size ≤ cs.length then some (.agg ((cs.drop off).take size)) else none
  else cs[off]?
theorem epart_ok {cs : List D} {off size : Nat} {agg : Bool} {d : D} (h : epart cs off size agg = some d) {K : D → Prop} (hk : K d) : vpart cs off size agg K := by
  unfold epart at h
  unfold vpart
  cases agg
  · simp only [Bool.false_eq_true, if_false] at h ⊢
    rw [h]; exact hk
  · simp only [if_true] at h ⊢
    split at h
    · simp at h; subst h; exact ⟨by assumption, hk⟩
    · cases h

def eelems (esz : Nat) (x : D) (l : LH) : Option (List D) :=
  match x with
  | .nil => some []
  | .sl xs => if xs.all (fun e => e.cells.length == esz) then some xs else none
  | .ms n off len => match (l.h n).row with
    | some (e, els) => if e = esz ∧ off + len ≤ els.length then some ((els.drop off).take len) else none
    | none => none
  | _ => none
theorem eelems_ok {esz : Nat} {x : D} {l : LH} {ys : List D} (h : eelems esz x l = some ys) {K : List D → Prop} (hk : K ys) : velems esz x l.h K := by
  unfold eelems at h
  unfold velems
  split at h
  · simp at h; subst h; exact hk
  · split at h
    · rename_i xs hx
      simp at h; subst h
      exact ⟨fun e he => by simpa using List.all_eq_true.1 hx e he, hk⟩
    · cases h
  · split at h
    · rename_i e els hr
      split at h
      · rename_i hc
        simp at h; subst h
        exact ⟨els, by rw [hr, hc.1], hc.2, hk⟩
      · cases h
    · cases h
  · cases h

def eint : D → Option Int
  | .int _ i => some i
  | _ => none
theorem eint_ok {x : D} {i : Int} (h : eint x = some i) {K : Int → Prop} (hk : K i) : vint x K := by
  unfold eint at h
  split at h <;> simp at h
  subst h; exact hk

def eopt (e : LEnv) (x : Option Arg) (dflt : Nat) : Option Int :=
  match x with
  | none => some dflt
  | some a => eint (a.get e)
theorem eopt_ok {e : LEnv} {x : Option Arg} {dflt : Nat} {i : Int} (h : eopt e x dflt = some i) {K : Int → Prop} (hk : K i) : vopt e x dflt K := by
  cases x with
  | none => simp [eopt] at h; subst h; exact hk
  | some a => exact eint_ok h hk

def allOneB (d : D) : Bool := d.cells.all D.one
theorem allOneB_ok {d : D} (h : allOneB d = true) : AllOne d := fun x hx => List.all_eq_true.1 h x hx
def voneB (d : D) : Bool := d.cells.all D.vone
theorem voneB_ok {d : D} (h : voneB d = true) : ∀ y, y ∈ d.cells → y.vone = true := fun x hx => List.all_eq_true.1 h x hx
def fzOkcB (l : LH) : D → Bool
  | .ms n off len => match (l.h n).row with
    | some (_, els) => decide (off + len ≤ els.length) && ((els.drop off).take len).all voneB
    | none => false
  | _ => true
def fzOkB (l : LH) (d : D) : Bool := d.cells.all (fzOkcB l)
theorem fzOkcB_ok {l : LH} {d : D} (h : fzOkcB l d = true) : FzOkc l.h d := by
  cases d <;> try exact trivial
  rename_i n off len
  simp only [fzOkcB] at h
  split at h
  · rename_i e els hr
    simp only [Bool.and_eq_true, decide_eq_true_eq, List.all_eq_true] at h
    exact ⟨e, els, hr, h.1, fun x hx => voneB_ok (h.2 x hx)⟩
  · cases h
theorem fzOkB_ok {l : LH} {d : D} (h : fzOkB l d = true) : FzOk l.h d := fun x hx => fzOkcB_ok (List.all_eq_true.1 h x hx)
def allOneTB : D → Bool
  | .tup ds => ds.all allOneB
  | d => allOneB d
def fzOkTB (l : LH) : D → Bool
  | .tup ds => ds.all (fzOkB l)
  | d => fzOkB l d
theorem allOneTB_ok {d : D} (h : allOneTB d = true) : AllOneT d := by
  cases d <;> first
    | exact allOneB_ok h
    | exact fun x hx => allOneB_ok (List.all_eq_true.1 h x hx)
theorem fzOkTB_ok {l : LH} {d : D} (h : fzOkTB l d = true) : FzOkT l.h d := by
  cases d <;> first
    | exact fzOkB_ok h
    | exact fun x hx => fzOkB_ok (List.all_eq_true.1 h x hx)

/- The heap as a list. -/
theorem LH.h_lt {l : LH} {n : Nat} (hn : n < l.length) : l.h n = l[n] := by simp [LH.h, hn]
theorem LH.h_ge {l : LH} {n : Nat} (hn : l.length ≤ n) : l.h n = .free := by simp [LH.h, hn]
theorem LH.top {l : LH} (h : l.nf) {n : Nat} (t : Top l.h n) : n = l.length := by
  rcases Nat.lt_trichotomy n l.length with h1 | h1 | h1
  · have := t.free
    rw [LH.h_lt h1] at this
    exact absurd this (h _ (List.getElem_mem h1))
  · exact h1
  · exfalso
    obtain ⟨k, rfl⟩ : ∃ k, n = k + 1 := ⟨n - 1, by omega⟩
    exact t.2 k rfl (LH.h_ge (by omega))
theorem LH.h_push (l : LH) (s : Slot) : LH.h (l ++ [s]) = upd l.h l.length s := by
  funext n
  unfold LH.h upd
  by_cases h : n = l.length
  · subst h; simp
  · rw [if_neg h]
    rcases Nat.lt_or_ge n l.length with h1 | h1
    · simp [List.getD, List.getElem?_append_left h1]
    · have : (l ++ [s]).length ≤ n := by simp; omega
      simp [List.getD, List.getElem?_eq_none this, List.getElem?_eq_none h1]
theorem LH.h_set {l : LH} {n : Nat} (s : Slot) (hn : n < l.length) : LH.h (l.set n s) = upd l.h n s := by
  funext m
  unfold LH.h upd
  by_cases h : m = n
  · subst h; simp [List.getD, hn]
  · have : n ≠ m := fun e => h e.symm
    simp [List.getD, this, h]
theorem LH.lt_of {l : LH} {n : Nat} (h : l.h n ≠ .free) : n < l.length := by
  rcases Nat.lt_or_ge n l.length with h1 | h1
  · exact h1
  · exact absurd (LH.h_ge h1) h
theorem LH.nf_push {l : LH} (h : l.nf) {s : Slot} (hs : s ≠ .free) : LH.nf (l ++ [s]) := by
  intro x hx
  rcases List.mem_append.1 hx with h1 | h1
  · exact h x h1
  · simp at h1; subst h1; exact hs
theorem LH.nf_set {l : LH} (h : l.nf) {n : Nat} {s : Slot} (hs : s ≠ .free) : LH.nf (l.set n s) := by
  intro x hx
  rcases List.mem_or_eq_of_mem_set hx with h1 | h1
  · exact h x h1
  · subst h1; exact hs
def LH.frz (l : LH) (n : Nat) : LH := match l.h n with
  | .arr e x => l.set n (.frz e x)
  | _ => l
theorem LH.frz_h (l : LH) (n : Nat) : (l.frz n).h = l.h.freeze n := by
  unfold LH.frz Heap.freeze
  cases hn : l.h n <;> simp only
  exact LH.h_set _ (LH.lt_of (by rw [hn]; simp))
theorem LH.frz_nf {l : LH} (h : l.nf) (n : Nat) : (l.frz n).nf := by
  unfold LH.frz
  cases hn : l.h n <;> simp only <;> first | exact h | exact LH.nf_set h (by simp)
def LH.frzAll (l : LH) : List Nat → LH
  | [] => l
  | n :: r => LH.frzAll (l.frz n) r
theorem LH.frzAll_ok : ∀ (ns : List Nat) {l : LH}, l.nf → (l.frzAll ns).h = l.h.freezeAll ns ∧ (l.frzAll ns).nf
  | [], _, h => ⟨rfl, h⟩
  | n :: r, l, h => by
    have := LH.frzAll_ok r (LH.frz_nf h n)
    simp only [LH.frzAll, Heap.freezeAll]
    rw [LH.frz_h] at this
    exact this

end Go.Am
