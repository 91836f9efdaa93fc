/- The abstract machine: what the operations of the program do, on plain data. No condition. -/
import Derived.OpenShut
import Derived.ReadAgain
import Derived.RowKit
import Derived.Test.YtemgkmgmnnaloaaA2
set_option linter.unnecessarySimpa false
set_option linter.defProp false
set_option linter.unusedSectionVars false
set_option linter.unusedSimpArgs false
set_option linter.unusedVariables false
namespace Go.Am
open Go
variable [bS]
variable {P : Program} {nt : Nat}
structure K3 (c c' : Ctx) : Prop where
 hp : c'.hp = c.hp
 h : ∀ k, c.h k ≠ .free -> c'.h k = c.h k
 ρ : ∀ k, c.h k ≠ .free -> c'.ρ k = c.ρ k
 own : ∀ b, b < c.hp.size -> c'.own b -> c.own b
theorem aq.qu {c c' : Ctx} (s : K3 c c') {d : D} {v : Value} (h : aq c d v) : aq c' d v := by
 have row : ∀ {n : Nat} {x : Nat × List D}, (c.h n).row = some x -> (c'.h n).row = some x := fun {n x} hx => by rw [s.h n (Slot.eX hx)]; exact hx
 induction h with
 | undef v => exact .undef v
 | nil => exact .nil
 | nilfn => exact .nilfn
 | nilmap => exact .nilmap
 | int k n => exact .int k n
 | bool b => exact .bool b
 | str s => exact .str s
 | slE p cap hm => exact .slE p cap hm
 | sl xs b o cap esz f hne hc hm he hlen hone hcell ho _ ih =>
  have hb : b < c.hp.size := by
   cases xs with
   | nil => exact absurd rfl hne
   | cons e r =>
    have hl := hlen e (by simp)
    cases hcs : e.cells with
    | nil => rw [hcs] at hl; simp at hl; omega
    | cons d ds => exact zU (hcell 0 0 d (by simp [aU, hcs]))
  exact .sl xs b o cap esz f hne hc hm he hlen hone (fun i j d hd => by rw [s.hp]; exact hcell i j d hd) (fun h => ho (s.own b hb h)) ih
 | msDead n off len p l k hd => exact .msDead n off len p l k (by rw [s.h n (by rw [hd]; simp)]; exact hd)
 | msNil n esz els hrow hρ => exact .msNil n esz els (row hrow) (by rw [s.ρ n (Slot.eX hrow)]; exact hρ)
 | ms n off len g esz cap els cur ty fr hrow hρ hl hg hs hc hm => exact .ms n off len g esz cap els cur ty fr (row hrow) (by rw [s.ρ n (Slot.eX hrow)]; exact hρ) hl (by rw [s.hp]; exact hg) hs hc hm
 | msE n off esz p els hrow => exact .msE n off esz p els (row hrow)
 | ptrDead n i j b o hd => exact .ptrDead n i j b o (by rw [s.h n (by rw [hd]; simp)]; exact hd)
 | ptrBox n j g v hb hρ => exact .ptrBox n j g v (by rw [s.h n (by rw [hb]; simp)]; exact hb) (by rw [s.ρ n (by rw [hb]; simp)]; exact hρ)
 | ptrRow n i j g esz els hrow hρ hi => exact .ptrRow n i j g esz els (row hrow) (by rw [s.ρ n (Slot.eX hrow)]; exact hρ) hi
 | vp e j b o f hone hcell ho hb _ ih => exact .vp e j b o f hone (fun k d hd => by rw [s.hp]; exact hcell k d hd) (fun h => ho (s.own b hb h)) (by rw [s.hp]; exact hb) ih
 | agg cs vs hsz hone _ ih => exact .agg cs vs hsz hone ih
 | tup ds vs hsz _ ih => exact .tup ds vs hsz ih
 | fn f a b va vb hsa hsb _ _ iha ihb => exact .fn f a b va vb hsa hsb iha ihb
 | yld n g st B hl hρ => exact .yld n g st B (by rw [s.h n (by rw [hl]; simp)]; exact hl) (by rw [s.ρ n (by rw [hl]; simp)]; exact hρ)
 | yldDead n g hd => exact .yldDead n g (by rw [s.h n (by rw [hd]; simp)]; exact hd)
 | mp n g kt l hl hρ => exact .mp n g kt l (by rw [s.h n (by rw [hl]; simp)]; exact hl) (by rw [s.ρ n (by rw [hl]; simp)]; exact hρ)
 | mpDead n p hd => exact .mpDead n p (by rw [s.h n (by rw [hd]; simp)]; exact hd)
theorem cO.qu {c c' : Ctx} (s : K3 c c') {n : Nat} {x : Slot} (hρ : x ≠ .free -> c'.ρ n = c.ρ n) (h : cO c n x) : cO c' n x := by
 cases x with
 | free => trivial
 | dead => trivial
 | box v =>
  obtain ⟨g, cur, ty, h1, h2, h3, h4⟩ := h
  exact ⟨g, cur, ty, by rw [hρ (by simp)]; exact h1, by rw [s.hp]; exact h2, h3, fun i d hd => ⟨(h4 i d hd).1, (h4 i d hd).2.qu s⟩⟩
 | arr e l =>
  obtain ⟨h1, h2, h3, h4⟩ := h
  refine ⟨h1, h2, h3, ?_⟩
  rcases h4 with ⟨q1, q2⟩ | ⟨g, cur, ty, q1, q2, q3, q4⟩
  ·exact Or.inl ⟨by rw [hρ (by simp)]; exact q1, q2⟩
  ·exact Or.inr ⟨g, cur, ty, by rw [hρ (by simp)]; exact q1, by rw [s.hp]; exact q2, q3, fun i j d hd => (q4 i j d hd).qu s⟩
 | frz e l =>
  obtain ⟨h1, h2, h3, h4⟩ := h
  refine ⟨h1, h2, h3, ?_⟩
  rcases h4 with ⟨q1, q2⟩ | ⟨g, cur, ty, fr, q1, q2, q3, q4, q5⟩
  ·exact Or.inl ⟨by rw [hρ (by simp)]; exact q1, q2⟩
  ·exact Or.inr ⟨g, cur, ty, fr, by rw [hρ (by simp)]; exact q1, by rw [s.hp]; exact q2, q3, fun h => q4 (s.own g (Array.getElem?_eq_some_iff.1 q2).1 h), fun i j d hd => (q5 i j d hd).qu s⟩
 | lp st B =>
  obtain ⟨g, tmps, dfs, h1, h2, h3, h4⟩ := h
  exact ⟨g, tmps, dfs, by rw [hρ (by simp)]; exact h1, by rw [s.hp]; exact h2, h3, fun i => (h4 i).qu s⟩
 | map kt l =>
  obtain ⟨g, es, clock, h1, h2, h3, h4⟩ := h
  refine ⟨g, es, clock, by rw [hρ (by simp)]; exact h1, by rw [s.hp]; exact h2, h3, fun i p hp => ?_⟩
  obtain ⟨q1, q2, e, q3, q4, q5⟩ := h4 i p hp
  exact ⟨q1, q2, e, q3, q4.qu s, q5.qu s⟩
theorem dM.qu {c c' : Ctx} (s : K3 c c') (k : dM c) : dM c' := fun g o hg => by
 obtain ⟨h1, h2, h3⟩ := k g o hg
 exact ⟨fun i v hi => by rw [s.hp]; exact h1 i v hi, fun ho => h2 (s.own g h3 ho), by rw [s.hp]; exact h3⟩
theorem eE.qu {c c' : Ctx} (s : K3 c c') (hl : c'.X.lo = c.X.lo) (hd : c'.X.dfs = c.X.dfs) {ds : List Deferred} (k : eE c ds) : eE c' ds := by
 refine ⟨⟨fun d hd' => ?_, k.marks.nd⟩, by rw [hd]; exact k.rest⟩
 obtain ⟨j, e, h0, h1, h2⟩ := k.marks.all d hd'
 exact ⟨j, e, by rw [hl]; exact h0, by rw [s.hp]; exact h1, fun ho => h2 (s.own j (Array.getElem?_eq_some_iff.1 h1).1 ho)⟩
def XT.plus (X : XT) (g : Nat) : XT := ⟨fun x => X.p x \/ x = g, X.lo, X.dfs⟩
structure EX (P : Program) where
 op : AOp
 obj : Obj
 slot : Slot
 val : Nat -> Value
 dv : Nat -> D
 hop : ∀ (K : HK) (e : LEnv) (h : Heap), vcOp P op K e h -> ∀ n, nw h n -> K (dv n) (ah h n slot)
 hslot : ∀ (c : Ctx) (n g : Nat), c.ρ n = some g -> c.hp[g]? = some obj -> cO c n slot
 hrel : ∀ (c : Ctx) (n g : Nat), c.h n = slot -> c.ρ n = some g -> aq c (dv n) (val g)
def NN (P : Program) (k : EX P) (o : Oper) : Prop := (∀ c, o.op ≠ .defer c) /\ ∀ (a : Act) (w : World), (execOp a.eval o).run P w = .ok (.value (k.val w.heap.size)) (w.alloc k.obj)
def MX (P : Program) (kt : KeyT) : EX P :=
 ⟨.mkm kt, .map #[] 0, .map kt [], fun g => .map (some g), fun n => .mp n, fun _ _ _ h => h, fun c n g h1 h2 => ⟨g, #[], 0, h1, h2, rfl, fun i p hi => by simp at hi⟩, fun c n g h1 h2 => .mp n g kt [] h1 h2⟩
theorem Ks {kt : KeyT} {o : Oper} {t : TypeId} (hop : o.op = .makeMap t none) : NN P (MX P kt) o :=
 ⟨fun c hc => (by rw [hop] at hc; cases hc), fun a w => (by simp [execOp, hop, Instr.makeMap, run_newObj, MX])⟩
def PQ (P : Program) (zd : D) (cs : Array Value) (t : TypeId) (h : ∀ c : Ctx, cs.size = zd.cells.length /\ ∀ (i : Nat) (d : D), zd.cells[i]? = some d -> d.one = true /\ aq c d (cs.getD i Go.undef)) : EX P :=
 ⟨.alloc zd, .cells cs t, .box zd, fun g => .pointer (some ⟨g, 0, none⟩), fun n => .ptr n 0 0, fun _ _ _ h => h, fun c n g h1 h2 => ⟨g, cs, t, h1, h2, (h c).1, (h c).2⟩, fun c n g h1 h2 => .ptrBox n 0 g zd h1 h2⟩
theorem KU {t : TypeId} {zd : D} (hz : dU P t = some zd) : ∃ z, (P.info? t).bind (·.zero) = some z /\ ∀ c : Ctx, z.cells.size = zd.cells.length /\ ∀ (i : Nat) (d : D), zd.cells[i]? = some d -> d.one = true /\ aq c d (z.cells.getD i Go.undef) := by
 obtain ⟨z, hz1, hz2⟩ := fw hz
 refine ⟨z, hz1, fun c => ?_⟩
 have h := cR (gQ hz2 c) (eY hz2)
 refine ⟨by simpa using h.len, fun i x hx => ?_⟩
 obtain ⟨h1, h2⟩ := h.rel i x hx
 rw [aE] at h2
 exact ⟨h1, h2⟩
structure HV (P : Program) (nt : Nat) (ops : Array Oper) (items : List AOper) (masks tl : List Nat) (p m s : Nat) (fk : EX P) : Prop extends Bc P nt ops items masks tl where
 tord : ∀ l k i i' : Nat, tl[l]? = some i -> tl[k]? = some i' -> l < k -> k ≠ p -> (masks.getD i' 0).testBit i = true
 nd : ∀ l l' i : Nat, tl[l]? = some i -> tl[l']? = some i -> l = l'
 fm : tl[p]? = some m
 it : items[m]? = some ⟨some s, fk.op, none⟩
 us : ∀ (k : Nat) (b : AOper), items[k]? = some b -> k ≠ m -> b.dst ≠ some s
 sn : s < nt
 mko : ∃ (o : Oper), ops[m]? = some o /\ NN P fk o /\ o.dst = some s /\ o.guard = none
 ntm : ∀ l i : Nat, tl[l]? = some i -> l < p -> (masks.getD i 0).testBit m = false
variable {ops : Array Oper} {items : List AOper} {masks tl : List Nat} {p m s : Nat} {fk : EX P}
theorem NQ.congr {X : XT} {L : (Nat -> Option Nat) -> Heap -> World -> Prop} {w₀ : World} {K : LEnv -> Heap -> Prop} {l1 l2 : Array Bool} {a : Act} {w : World} {ρ : Nat -> Option Nat} {h : Heap} {e : LEnv} {j : Nat} (hs : l2.size = l1.size) (hl : ∀ k, da l2 k = da l1 k)
  (J : NQ P nt ops items masks tl X L w₀ K l1 a w ρ h e j) : NQ P nt ops items masks tl X L w₀ K l2 a w ρ h e j :=
 ⟨hs.trans J.size, fun i k hi h1 h2 => by rw [hl] at h1 ⊢; exact J.dc i k hi h1 h2, J.le, J.hr, J.ws, J.defers, J.tsz, J.jle, J.rest, fun l i hi => by rw [hl]; exact J.prog l i hi,
  fun s => by
   rcases J.rel s with ⟨i, b, h1, h2, h3, h4⟩ | h
   ·exact Or.inl ⟨i, b, h1, h2, by rw [hl]; exact h3, h4⟩
   ·exact Or.inr h, fun i b h1 h2 h3 h4 => J.val i b h1 h2 (by rw [<- hl]; exact h3) h4⟩
def LP (ob : Obj) (c₀ : Ctx) (g : Nat) (ρ : Nat -> Option Nat) (h : Heap) (w : World) : Prop :=
 c₀.le ⟨ρ, c₀.X, h, w.heap⟩ /\ c₀.hp.size <= g /\ w.heap[g]? = some ob /\ ∀ n, (h n).mine -> ρ n ≠ some g
theorem LP.mono {ob : Obj} {c₀ : Ctx} {g : Nat} {X : XT} {ρ ρ' : Nat -> Option Nat} {h h' : Heap} {w w' : World} (l : LP ob c₀ g ρ h w) (k : Ctx.le ⟨ρ, X, h, w.heap⟩ ⟨ρ', X, h', w'.heap⟩) : LP ob c₀ g ρ' h' w' := by
 obtain ⟨l1, l2, l3, l4⟩ := l
 have hlt := (Array.getElem?_eq_some_iff.1 l3).1
 refine ⟨l1.trans (k.Oq c₀.X c₀.X rfl), l2, (k.aB g hlt l4).trans l3, fun n hm hρ => ?_⟩
 obtain ⟨m, h1, h2⟩ := k.born n g hm hρ hlt
 exact l4 m h1 h2
def M3 (listed : Array Bool) (m : Nat) : Array Bool := listed.setIfInBounds m false
theorem js (listed : Array Bool) (m : Nat) : (M3 listed m).size = listed.size := by simp [M3]
theorem eO {listed : Array Bool} {m : Nat} (hm : m < listed.size) (k : Nat) : da (M3 listed m) k = if k = m then false else da listed k := by
 unfold da M3
 by_cases h : k = m
 ·subst h; simp [Array.getD, hm]
 ·have h' : m ≠ k := fun e => h e.symm
  rw [if_neg h]
  by_cases hk : k < listed.size
  ·simp [Array.getD, hk, h']
  ·simp [Array.getD, hk]
inductive JF (P : Program) (nt : Nat) (ops : Array Oper) (items : List AOper) (masks tl : List Nat) (p m s : Nat) (fk : EX P) (c₀ : Ctx) (w₀ : World) (K : LEnv -> Heap -> Prop) (listed : Array Bool) (a : Act) (w : World) : Prop
 | A (ρ : Nat -> Option Nat) (h : Heap) (e : LEnv) (j : Nat) (hJ : NQ P nt ops items masks tl c₀.X (fun ρ h w => c₀.le ⟨ρ, c₀.X, h, w.heap⟩) w₀ K listed a w ρ h e j) (he : j <= p -> e.get s = .undef)
 | B (g : Nat) (ρ : Nat -> Option Nat) (h : Heap) (e : LEnv) (j : Nat) (hjp : j < p) (hm : da listed m = true) (hanc : ∀ k, (masks.getD m 0).testBit k = true -> da listed k = true) (hJ : NQ P nt ops items masks tl (c₀.X.plus g) (LP fk.obj c₀ g) w₀ K (M3 listed m) a w ρ h e j)
   (he : e.get s = .undef) (ht : a.tmps.getD s Go.undef = fk.val g)
theorem JF.size {c₀ : Ctx} {w₀ : World} {K : LEnv -> Heap -> Prop} {listed : Array Bool} {a : Act} {w : World} (hJ : JF P nt ops items masks tl p m s fk c₀ w₀ K listed a w) : listed.size = ops.size := by
 cases hJ with
 | A ρ h e j hJ he => exact hJ.size
 | B g ρ h e j hjp hm hanc hJ he ht => rw [<- hJ.size, js]
theorem JF.dc (S : HV P nt ops items masks tl p m s fk) {c₀ : Ctx} {w₀ : World} {K : LEnv -> Heap -> Prop} {listed : Array Bool} {a : Act} {w : World} (hJ : JF P nt ops items masks tl p m s fk c₀ w₀ K listed a w) :
  ∀ i k, i < ops.size -> da listed i = true -> (masks.getD i 0).testBit k = true -> da listed k = true := by
 cases hJ with
 | A ρ h e j hJ he => exact hJ.dc
 | B g ρ h e j hjp hm hanc hJ he ht =>
  have hmlt : m < listed.size := by
   have := S.tlt m (List.mem_of_getElem? S.fm)
   have hs := hJ.size
   rw [js] at hs
   omega
  intro i k hi h1 h2
  by_cases him : i = m
  ·subst him; exact hanc k h2
  ·have := hJ.dc i k hi (by rw [eO hmlt, if_neg him]; exact h1) h2
   rw [eO hmlt] at this
   split at this
   ·cases this
   ·exact this
theorem Kr (S : HV P nt ops items masks tl p m s fk) {c₀ : Ctx} (hX0 : ∀ g, c₀.X g -> g < c₀.hp.size) {w₀ : World} {K : LEnv -> Heap -> Prop} {listed : Array Bool} {a : Act} {w : World} {g : Nat} {ρ : Nat -> Option Nat} {h : Heap} {e : LEnv} {j : Nat} (hjp : j = p) (hm : da listed m = true)
  (hsz : listed.size = ops.size) (hanc : ∀ k, (masks.getD m 0).testBit k = true -> da listed k = true) (hJ : NQ P nt ops items masks tl (c₀.X.plus g) (LP fk.obj c₀ g) w₀ K (M3 listed m) a w ρ h e j) (ht : a.tmps.getD s Go.undef = fk.val g) :
  JF P nt ops items masks tl p m s fk c₀ w₀ K listed a w := by
 subst hjp
 obtain ⟨_, hdc, ⟨l1, l2, l3, l4⟩, hr, hws, hdef, htsz, hj, htail, hprog, hrel, hval⟩ := hJ
 have hmop : m < ops.size := S.tlt m (List.mem_of_getElem? S.fm)
 have hmlt : m < listed.size := by rw [hsz]; exact hmop
 have hlt : j < tl.length := (List.getElem?_eq_some_iff.1 S.fm).1
 have hli : tl[j] = m := (List.getElem?_eq_some_iff.1 S.fm).2
 rw [List.drop_eq_getElem_cons hlt, hli] at htail
 simp only [sRest, S.it, iU] at htail
 have htail := fk.hop _ _ _ htail
 obtain ⟨n, top⟩ := cY hr
 have top : nw h n := top
 have hn := top.free
 obtain ⟨hk1, hk2⟩ := htail n top
 let c1 : Ctx := ⟨ρ, c₀.X.plus g, h, w.heap⟩
 let c2 : Ctx := ⟨ah ρ n (some g), c₀.X, ah h n fk.slot, w.heap⟩
 have hglt := (Array.getElem?_eq_some_iff.1 l3).1
 have sc : K3 c1 c2 := by
  refine ⟨rfl, fun k hk => ?_, fun k hk => ?_, fun b hb ho => ?_⟩
  ·have : k ≠ n := by rintro rfl; exact hk hn
   simp [c1, c2, ah, this]
  ·have : k ≠ n := by rintro rfl; exact hk hn
   simp [c1, c2, ah, this]
  ·rcases ho with hx | ⟨k, h1, h2⟩
   ·exact Or.inl (Or.inl hx)
   ·by_cases hk : k = n
    ·subst hk
     simp [c2, ah] at h2
     exact Or.inl (Or.inr h2.symm)
    ·simp [c2, ah, hk] at h1 h2
     exact Or.inr ⟨k, h1, h2⟩
 have hle2 : c₀.le c2 := by
  have fr : ∀ k, c₀.h k ≠ .free -> k ≠ n := by
   rintro k hk rfl
   have := l1.tr k
   simp only at this
   rw [hn] at this
   cases hx : c₀.h k <;> rw [hx] at this hk <;> first | exact hk rfl | cases this
  refine ⟨l1.size, rfl, l1.aB, l1.shape, l1.loop, fun k hk => ?_, fun k => ?_, fun k b h1 h2 hb => ?_⟩
  ·show ah ρ n (some g) k = _
   rw [aa _ _ (fr k hk)]; exact l1.names k hk
  ·show Trans _ (ah h n _ k)
   by_cases hk : k = n
   ·subst hk
    have : c₀.h k = .free := by
     cases hx : c₀.h k <;> first | rfl | exact absurd rfl (fr k (by rw [hx]; simp))
    rw [this]; exact .free _
   ·rw [aa _ _ hk]; exact l1.tr k
  ·by_cases hk : k = n
   ·subst hk
    have h2' : ah ρ k (some g) k = some b := h2
    rw [ad] at h2'
    cases h2'
    omega
   ·have h1' : (ah h n fk.slot k).mine := h1
    have h2' : ah ρ n (some g) k = some b := h2
    rw [aa _ _ hk] at h1' h2'
    exact l1.born k b h1' h2' hb
 have hg2 : dM c2 := hr.glob.qu sc
 have hr2 : aj c2 := by
  refine ⟨fun k => ?_, fun k1 k2 b m1 m2 r1 r2 => ?_, fun k b hm hb hX => ?_, fun b hX => ?_, ?_, hg2, hr.lo⟩
  ·show cO c2 k (ah h n fk.slot k)
   by_cases hk : k = n
   ·subst hk
    rw [ad]
    exact fk.hslot c2 k g (by simp [c2, ah]) l3
   ·rw [aa _ _ hk]
    exact cO.qu sc (fun _ => by simp [c1, c2, ah, hk]) (hr.slot k)
  ·have m1' : (ah h n fk.slot k1).mine := m1
   have m2' : (ah h n fk.slot k2).mine := m2
   have r1' : ah ρ n (some g) k1 = some b := r1
   have r2' : ah ρ n (some g) k2 = some b := r2
   by_cases e1 : k1 = n
   ·by_cases e2 : k2 = n
    ·rw [e1, e2]
    ·exfalso
     subst e1
     rw [ad] at r1'
     cases r1'
     rw [aa _ _ e2] at m2' r2'
     exact l4 k2 m2' r2'
   ·by_cases e2 : k2 = n
    ·exfalso
     subst e2
     rw [ad] at r2'
     cases r2'
     rw [aa _ _ e1] at m1' r1'
     exact l4 k1 m1' r1'
    ·rw [aa _ _ e1] at m1' r1'
     rw [aa _ _ e2] at m2' r2'
     exact hr.inj k1 k2 b m1' m2' r1' r2'
  ·have hm' : (ah h n fk.slot k).mine := hm
   have hb' : ah ρ n (some g) k = some b := hb
   have hX' : c₀.X b := hX
   by_cases hk : k = n
   ·subst hk
    rw [ad] at hb'
    cases hb'
    have := hX0 g hX'
    omega
   ·rw [aa _ _ hk] at hm' hb'
    exact hr.apart k b hm' hb' (Or.inl hX')
  ·exact hr.xlt b (Or.inl hX)
  ·obtain ⟨N, hN⟩ := hr.fin
   refine ⟨N + n + 1, fun k hk => ?_⟩
   show ah h n _ k = _
   rw [aa _ _ (show k ≠ n by omega)]
   exact hN k (by omega)
 obtain ⟨T, t1, t2, t3⟩ := CY S.toBc hk2
 have mtl : m ∈ tl := List.mem_of_getElem? S.fm
 have vals : ∀ b, b ∈ jn items masks tl (j + 1) -> b.dst ≠ some s := by
  intro b hb
  obtain ⟨k, h1, h2, h3⟩ := dk hb
  exact S.us k b h1 (by rintro rfl; exact h2 mtl)
 have hput : ∀ s', s' ≠ s -> (e.put (some s) (fk.dv n)).get s' = e.get s' := by
  intro s' hs
  rw [LEnv.bj]
  simp [Env.put, ah, hs]
 refine .A (ah ρ n (some g)) (ah h n fk.slot) T (j + 1) ⟨hsz, fun i k hi h1 h2 => ?_, hle2, hr2, hws, eE.qu sc rfl rfl hdef, htsz, by omega, t1, fun l i hl => ?_, fun s' => ?_, fun k b hb hk hun hst => ?_⟩ (fun h => by omega)
 ·by_cases him : i = m
  ·subst him; exact hanc k h2
  ·have := hdc i k hi (by rw [eO hmlt, if_neg him]; exact h1) h2
   rw [eO hmlt] at this
   split at this
   ·cases this
   ·exact this
 ·by_cases him : i = m
  ·subst him
   have := S.nd l j i hl S.fm
   simp [hm, this]
  ·have := hprog l i hl
   rw [eO hmlt, if_neg him] at this
   rw [this]
   have : l ≠ j := by rintro rfl; rw [S.fm] at hl; cases hl; exact him rfl
   omega
 ·by_cases hex : ∃ b, b ∈ jn items masks tl (j + 1) /\ b.dst = some s'
  ·obtain ⟨b, hb, hbd⟩ := hex
   obtain ⟨k, h1, h2, h3⟩ := dk hb
   left
   refine ⟨k, b, h1, h2, ?_, hbd⟩
   have hkl : k < ops.size := by rw [<- S.len]; exact (List.getElem?_eq_some_iff.1 h1).1
   have hmk := (S.stg k j m hkl h2 S.fm).2 (by omega)
   have hkm : k ≠ m := by rintro rfl; exact h2 mtl
   cases hlk : da listed k with
   | false => rfl
   | true =>
    have := hdc k m hkl (by rw [eO hmlt, if_neg hkm]; exact hlk) hmk
    rw [eO hmlt, if_pos rfl] at this
    cases this
  ·rw [t2 s' (fun b hb hbd => hex ⟨b, hb, hbd⟩)]
   by_cases hs : s' = s
   ·subst hs
    right
    rw [LEnv.bj, ht]
    have : Env.put e.get (some s') (fk.dv n) s' = fk.dv n := by simp [Env.put, ah]
    rw [this]
    exact fk.hrel _ n g (by simp [ah]) (by simp [ah])
   ·rw [hput s' hs]
    rcases hrel s' with ⟨k, b, h1, h2, h3, h4⟩ | h
    ·left
     refine ⟨k, b, h1, h2, ?_, h4⟩
     rw [eO hmlt] at h3
     split at h3
     ·rename_i hkm; subst hkm; exact absurd mtl h2
     ·exact h3
    ·exact Or.inr (aq.qu sc h)
 ·have hkm : k ≠ m := by rintro rfl; exact hk mtl
  rcases Nat.lt_or_ge (C0 masks tl k) (j + 1) with hlt' | hge
  case inr =>
   have : C0 masks tl k = j + 1 := by omega
   have hmm := wz (masks := masks) hb hk
   rw [this] at hmm
   exact t3 b hmm
  have hkl : k < ops.size := by rw [<- S.len]; exact (List.getElem?_eq_some_iff.1 hb).1
  have v0 := hval k b hb hk (by rw [eO hmlt, if_neg hkm]; exact hun) (by omega)
  have hnanc : (masks.getD m 0).testBit k ≠ true := by
   intro hmk
   have := hanc k hmk
   rw [hun] at this
   cases this
  have hni : ¬ (masks.getD k 0).testBit m = true := by
   intro hmk
   have := (S.stg k j m hkl hk S.fm).1 hmk
   omega
  have vput : bW P b (e.put (some s) (fk.dv n)) (ah h n fk.slot) := by
   by_cases hf : b.op.gH = true
   ·refine bW.congr (e := e) (fun r hr' => ?_) (fun s' hs => ?_) (bW.free hf v0)
    ·rw [hput r]
     rintro rfl
     rcases S.rdt m k _ b S.it hb mtl hk r rfl hr' with hmm | hmm
     ·exact hni hmm
     ·exact hnanc hmm
    ·exact hput s' (by rintro rfl; exact S.us k b hb hkm hs)
   ·have hmm : b ∈ wA items masks tl (j + 1) m := by
     simp only [wA, sRevI, List.mem_filterMap, List.mem_filter, List.mem_range, Bool.and_eq_true, decide_eq_true_eq, Bool.not_eq_true']
     exact ⟨k, ⟨by rw [S.len]; exact hkl, ⟨⟨by simpa using hk, hlt'⟩, by simpa using hnanc⟩, by rw [hb]; simpa using hf⟩, hb⟩
    have hopb : ∀ b', b' ∈ wA items masks tl (j + 1) m -> b'.guard = none /\ b'.op.isVal = true := by
     intro b' hb'
     refine ⟨(S.rev j m S.fm b' hb').1, ?_⟩
     simp only [wA, sRevI, List.mem_filterMap, List.mem_filter, List.mem_range, Bool.and_eq_true, decide_eq_true_eq, Bool.not_eq_true'] at hb'
     obtain ⟨k2, ⟨q1, ⟨⟨q2, q3⟩, q4⟩, q5⟩, q6⟩ := hb'
     have q7 : k2 < ops.size := by rw [<- S.len]; exact q1
     have := (S.itv k2 ops[k2] b' (by simp [q7]) q6 (by simpa using q2)).op
     rw [if_neg (by simp)] at this
     exact gj this
    exact sF hopb hk1 b hmm (S.rev j m S.fm b hmm).2
  refine bW.congr (fun r hr' => (t2 r fun x hx hxd => ?_).symm) (fun s' hs => t2 s' fun x hx hxd => ?_) vput
  ·obtain ⟨m', m1, m2, m3⟩ := dk hx
   have := ((S.rdv m' k x b m1 hb m2 r hxd).2 hr').2.2 hk
   omega
  ·obtain ⟨m', m1, m2, m3⟩ := dk hx
   have hmk : k ≠ m' := by rintro rfl; omega
   exact (S.rdv k m' b x hb m1 hk s' hs).1 hmk hxd
theorem PA (S : HV P nt ops items masks tl p m s fk) {c₀ : Ctx} (hX0 : ∀ g, c₀.X g -> g < c₀.hp.size) {w₀ : World} {K : LEnv -> Heap -> Prop} {listed : Array Bool} {a : Act} {w : World} {Q : Exit -> Act -> World -> Prop} {rd : Option Nat}
  (hJ : JF P nt ops items masks tl p m s fk c₀ w₀ K listed a w) {i : Nat} (hi : i ∈ Region.ready .any ops listed) : wpOpIn (rF rd) 0 P ops Q i (JF P nt ops items masks tl p m s fk c₀ w₀ K (listed.setIfInBounds i true)) a w := by
 have R := Js S.toBc hJ.size (hJ.dc S) hi
 have mtl : m ∈ tl := List.mem_of_getElem? S.fm
 have hmop : m < ops.size := S.tlt m mtl
 have hmlt : m < listed.size := by rw [hJ.size]; exact hmop
 have hil : i < listed.size := by rw [hJ.size]; exact R.lt
 have hp := (List.getElem?_eq_some_iff.1 S.fm).1
 cases hJ with
 | A ρ h e j hJ he =>
  by_cases him : i = m
  ·subst him
   have hjp : j <= p := by
    have := (hJ.prog p i S.fm).2
    rcases Nat.lt_or_ge p j with hlt | hge
    ·have := this hlt
     rw [R.un] at this
     cases this
    ·exact hge
   by_cases hj : j = p
   ·refine wpOpIn_mono (fun a' w' ⟨ρ', h', e', j', hJ', _⟩ => ?_) (yk S.toBc (fun ρ h w ρ' h' w' l k => Ctx.le.trans l k) hJ R fun l hl => by rw [hj]; exact S.nd l p i hl S.fm)
    refine .A ρ' h' e' j' hJ' fun hle => ?_
    have := (hJ'.prog p i S.fm).1 (by rw [eN hil, if_pos rfl])
    omega
   ·
    have hj : j < p := by omega
    obtain ⟨o, ho, hmk, hdst, hg⟩ := S.mko
    have hrun := hmk.2 a w
    unfold wpOpIn
    simp only [ho]
    rw [if_pos (by simp [Region.wanted, hg])]
    refine gw hmk.1 hrun ?_
    rw [Oper.uponIn_value, hdst]
    obtain ⟨hsz, hdc, hle, hr, hws, hdef, htsz, hjl, htail, hprog, hrel, hval⟩ := hJ
    let g := w.heap.size
    have hpush : (w.alloc fk.obj).heap = w.heap.push fk.obj := rfl
    let C : Ctx := ⟨ρ, c₀.X, h, w.heap⟩
    let Cp : Ctx := ⟨ρ, c₀.X.plus g, h, w.heap⟩
    let C1 : Ctx := ⟨ρ, c₀.X.plus g, h, w.heap.push fk.obj⟩
    have sc : K3 C Cp := by
     refine ⟨rfl, fun _ _ => rfl, fun _ _ => rfl, fun b hb ho => ?_⟩
     rcases ho with hx | hx
     ·rcases hx with hx | hx
      ·exact Or.inl hx
      ·exact absurd hx (Nat.ne_of_lt hb)
     ·exact Or.inr hx
    obtain ⟨gle, _⟩ := sJ hr fk.obj
    have le1 : Cp.le C1 := gle.Oq (c₀.X.plus g) (c₀.X.plus g) rfl
    have mlt : ∀ k b, (h k).mine -> ρ k = some b -> b < g := fun k b hm hb => jj hr hm hb
    have hr1 : aj C1 := by
     refine ⟨fun k => ?_, hr.inj, fun k b hm hb hX => ?_, fun b hX => ?_, hr.fin, (hr.glob.qu sc).mono le1, by have := hr.lo; simp only at this; show c₀.X.lo <= (w.heap.push _).size; simp; omega⟩
     ·exact gr le1 (cO.qu sc (fun _ => rfl) (hr.slot k)) (fun _ _ => rfl) (fun b hm hb => by
       have := mlt k b hm hb
       show (w.heap.push _)[b]? = w.heap[b]?
       rw [Array.getElem?_push, if_neg (by omega)])
     ·have := mlt k b hm hb
      rcases hX with hx | hx
      ·exact hr.apart k b hm hb hx
      ·have : b = g := hx
       omega
     ·show b < (w.heap.push _).size
      simp only [Array.size_push]
      rcases hX with hx | hx
      ·have := hr.xlt b hx
       simp only at this
       omega
      ·have : b = w.heap.size := hx
       omega
    have hls : ∀ k, da (M3 (listed.setIfInBounds i true) i) k = da listed k := by
     intro k
     rw [eO (by simpa using hmlt), eN hil]
     by_cases hk : k = i
     ·subst hk; simp [R.un]
     ·simp [hk]
    have hes := he hjp
    refine .B g ρ h e j hj (by rw [eN hil, if_pos rfl]) (fun k hk => by rw [eN hil]; split; rfl; exact R.anc k hk) (NQ.congr (l1 := listed) (by rw [js]; simp) hls ?_) hes (by simp [Act.put, htsz, S.sn, g])
    refine ⟨hsz, hdc, ⟨hle.trans gle, by have := hle.size; simpa using this, gb _ _, fun k hm hb => by have := mlt k _ hm hb; omega⟩, hr1, ⟨hws.os, hws.tape, hws.output⟩, (eE.qu sc rfl rfl hdef).mono le1, by simpa [Act.put] using htsz, hjl, htail, hprog, fun s' => ?_, hval⟩
    by_cases hs : s' = s
    ·subst hs; rw [hes]; exact Or.inr (.undef _)
    ·rcases hrel s' with h0 | h0
     ·exact Or.inl h0
     ·right
      have hs' : s ≠ s' := fun e => hs e.symm
      have : ((a.put (some s) (fk.val w.heap.size)).tmps.getD s' Go.undef) = a.tmps.getD s' Go.undef := by simp [Act.put, hs']
      rw [this]
      exact (aq.qu sc h0).mono le1
  ·refine wpOpIn_mono (fun a' w' hh => ?_) (yk S.toBc (fun ρ h w ρ' h' w' l k => Ctx.le.trans l k) hJ R fun l hl => ?_)
   ·obtain ⟨ρ', h', e', j', hJ', hj', _, hes⟩ := hh
    refine .A ρ' h' e' j' hJ' fun hle => ?_
    rw [hes s fun k b hb hk => S.us k b hb ?_]
    ·exact he (by omega)
    ·rintro rfl
     rcases hk with hk | hk
     ·exact hk mtl
     ·exact him hk.symm
   ·have h1 : ¬ l < j := by
     intro hlt
     have := (hJ.prog l i hl).2 hlt
     rw [R.un] at this
     cases this
    rcases Nat.lt_or_ge j l with hgt | hge
    ·have hjl : j < tl.length := Nat.lt_trans hgt (List.getElem?_eq_some_iff.1 hl).1
     have hpw := S.tord j l tl[j] i (by simp [hjl]) hl hgt (by rintro rfl; rw [S.fm] at hl; cases hl; exact him rfl)
     have := (hJ.prog j tl[j] (by simp [hjl])).1 (R.anc _ hpw)
     omega
    ·omega
 | B g ρ h e j hjp hm hanc hJ he ht =>
  have him : i ≠ m := by
   rintro rfl
   have := R.un
   rw [hm] at this
   cases this
  have hjl : j < tl.length := Nat.lt_trans hjp hp
  have htj : tl[j]? = some tl[j] := by simp [hjl]
  have hjm : tl[j] ≠ m := by
   intro hq
   have := S.nd j p m (by rw [htj, hq]) S.fm
   omega
  have unl : da listed tl[j] = false := by
   cases hl : da listed tl[j] with
   | false => rfl
   | true =>
    have := (hJ.prog j tl[j] htj).1 (by rw [eO hmlt, if_neg hjm]; exact hl)
    omega
  have nom : (masks.getD i 0).testBit m ≠ true := by
   intro hq
   by_cases hit : i ∈ tl
   ·obtain ⟨l, hl⟩ := List.getElem?_of_mem hit
    have hlp : l ≠ p := by rintro rfl; rw [S.fm] at hl; cases hl; exact him rfl
    rcases Nat.lt_or_ge l p with hlt | hge
    ·rw [S.ntm l i hl hlt] at hq; cases hq
    ·have := R.anc _ (S.tord j l tl[j] i htj hl (by omega) hlp)
     rw [unl] at this
     cases this
   ·have h1 := (S.stg i p m R.lt hit S.fm).1 hq
    have := R.anc _ ((S.stg i j tl[j] R.lt hit htj).2 (by omega))
    rw [unl] at this
    cases this
  have RV : RJ ops masks (M3 listed m) i := by
   refine ⟨R.lt, by rw [eO hmlt, if_neg him]; exact R.un, fun k hk => ?_⟩
   rw [eO hmlt, if_neg (by rintro rfl; exact nom hk)]
   exact R.anc k hk
  have hitl : i < items.length := by rw [S.len]; exact R.lt
  have hdst : ∀ o, ops[i]? = some o -> o.dst ≠ some s := by
   intro o ho hq
   obtain ⟨b, hb⟩ : ∃ b, items[i]? = some b := ⟨items[i]'hitl, by simp [hitl]⟩
   refine S.us i b hb him ?_
   by_cases hit : i ∈ tl
   ·have hc := S.itt i o ho hit
    rw [hb] at hc
    unfold cOper at hc
    split at hc
    case isFalse => cases hc
    cases hop : cOp P true o with
    | none => simp [hop] at hc
    | some op =>
     simp only [hop] at hc
     split at hc
     ·cases hc; exact hq
     ·split at hc
      ·cases hc; exact hq
      ·cases hc
   ·have := (S.itv i o b ho hb hit).dst
    rw [this]; exact hq
  refine wpOpIn_mono (fun a' w' hh => ?_) (wpOp_put (yk S.toBc (fun ρ h w ρ' h' w' l k => LP.mono l k) hJ RV fun l hl => ?_))
  ·obtain ⟨⟨ρ', h', e', j', hJ', hj', _, hes⟩, hput⟩ := hh
   have hsz' : (listed.setIfInBounds i true).size = ops.size := by
    have := hJ.size
    rw [js] at this
    simpa using this
   have hls : ∀ k, da (M3 (listed.setIfInBounds i true) m) k = da ((M3 listed m).setIfInBounds i true) k := by
    intro k
    rw [eO (by simpa using hmlt), eN hil, eN (by rw [js]; exact hil), eO hmlt]
    by_cases hk : k = m
    ·subst hk
     have : ¬ k = i := fun e => him e.symm
     simp [this]
    ·simp [hk]
   have hJ2 := NQ.congr (l2 := M3 (listed.setIfInBounds i true) m) (by rw [js]; simp [js]) hls hJ'
   have hm' : da (listed.setIfInBounds i true) m = true := by rw [eN hil]; split; rfl; exact hm
   have hanc' : ∀ k, (masks.getD m 0).testBit k = true -> da (listed.setIfInBounds i true) k = true := fun k hk => by rw [eN hil]; split; rfl; exact hanc k hk
   have ht' : a'.tmps.getD s Go.undef = fk.val g := (hput s hdst).trans ht
   have he' : e'.get s = .undef := by
    rw [hes s fun k b hb hk => S.us k b hb ?_]
    ·exact he
    ·rintro rfl
     rcases hk with hk | hk
     ·exact hk mtl
     ·exact him hk.symm
   rcases Nat.lt_or_ge j' p with hlt | hge
   ·exact .B g ρ' h' e' j' hlt hm' hanc' hJ2 he' ht'
   ·exact Kr S hX0 (by omega) hm' hsz' hanc' hJ2 ht'
  ·have hlp : l ≠ p := by rintro rfl; rw [S.fm] at hl; cases hl; exact him rfl
   have h1 : ¬ l < j := by
    intro hlt
    have := (hJ.prog l i hl).2 hlt
    rw [RV.un] at this
    cases this
   rcases Nat.lt_or_ge j l with hgt | hge
   ·have hpw := S.tord j l tl[j] i htj hl hgt hlp
    have := (hJ.prog j tl[j] htj).1 (RV.anc _ hpw)
    omega
   ·omega
theorem LU {id : Nat} (S : HV P nt ops items masks tl p m s fk) (hm : P.follows .mixedOrders = true) {Q : LPost} {e : LEnv} {h : Heap} (hes : e.get s = .undef) (hv : vcC P (sCode items masks tl tl 0) Q e h) : tg P nt (.region id ops true) (fun x => up (Q x)) e.get h := by
 intro rd c w a hh hp hr hs _
 subst hh
 refine wpIn_region_any hm ?_
 obtain ⟨T, t1, t2, t3⟩ := CY S.toBc (u9 tl 0 hv)
 have hfalse : ∀ i, i < ops.size -> da (Array.replicate ops.size false) i = false := by intro i hi; unfold da; simp [Array.getD, hi]
 have hlt : ∀ i b, items[i]? = some b -> i < ops.size := fun i b hb => by rw [<- S.len]; exact (List.getElem?_eq_some_iff.1 hb).1
 have hce : (⟨c.ρ, c.X, c.h, w.heap⟩ : Ctx) = c := by rw [<- hp]
 have mtl : m ∈ tl := List.mem_of_getElem? S.fm
 refine PW S.toBc (JJ := JF P nt ops items masks tl p m s fk c w (Q .normal)) (fun _ _ _ hJ => hJ.size) (fun _ _ _ hJ => hJ.dc S) (fun listed a' w' i hJ hi => PA S hr.xlt hJ hi) (fun listed a' w' hJ hall => ?_) ops.size _ a _ (Nat.le_trans (List.length_filter_le _ _) (by simp)) ?_
 ·cases hJ with
  | B g ρ h e' j hjp hm hanc hJ he ht =>
   exfalso
   have hmlt : m < listed.size := by
    have := S.tlt m mtl
    have hs := hJ.size
    rw [js] at hs
    omega
   have hjl : j < tl.length := Nat.lt_trans hjp (List.getElem?_eq_some_iff.1 S.fm).1
   have htj : tl[j]? = some tl[j] := by simp [hjl]
   have hjm : tl[j] ≠ m := by
    intro hq
    have := S.nd j p m (by rw [htj, hq]) S.fm
    omega
   have := (hJ.prog j tl[j] htj).1 (by rw [eO hmlt, if_neg hjm]; exact hall _ (S.tlt _ (List.getElem_mem hjl)))
   omega
  | A ρ h e' j hJ he =>
   obtain ⟨_, _, hle, hrr, hws, hdef, hsz, hj, htail, hprog, hrel, hval⟩ := hJ
   have hjl : j = tl.length := by
    rcases Nat.lt_or_ge j tl.length with hlt | hge
    ·have := (hprog j tl[j] (by simp [hlt])).1 (hall _ (S.tlt _ (List.getElem_mem hlt)))
     omega
    ·omega
   subst hjl
   rw [List.drop_length] at htail
   refine ⟨ρ, e'.get, h, hle, hrr, hws, ⟨hrr.glob, hrr.lo, hdef, hsz, fun s => ?_⟩, e', rfl, htail⟩
   rcases hrel s with ⟨i, b, hb, _, hun, _⟩ | h
   ·rw [hall i (hlt i b hb)] at hun
    cases hun
   ·exact h
 ·have hw : ({ w with drawn := w.drawn + 1 } : World).heap = w.heap := rfl
  refine .A c.ρ c.h T 0 ⟨by simp, fun i k hi hl => (by rw [hfalse i hi] at hl; cases hl), ?_, ?_, ⟨rfl, rfl, rfl⟩, (by rw [hw, hce]; exact hs.defers), hs.size, Nat.zero_le _, by simpa using t1, fun l i hl => ?_, fun s => ?_, fun i b hb hn _ hst => ?_⟩ (fun _ => ?_)
  ·rw [hw, hce]; exact Ctx.le.refl c
  ·rw [hw, hce]; exact hr
  ·rw [hfalse i (S.tlt i (List.mem_of_getElem? hl))]; simp
  ·by_cases hex : ∃ b, b ∈ jn items masks tl 0 /\ b.dst = some s
   ·obtain ⟨b, hb, hbd⟩ := hex
    obtain ⟨k, h1, h2, h3⟩ := dk hb
    exact Or.inl ⟨k, b, h1, h2, hfalse k (hlt k b h1), hbd⟩
   ·right
    rw [t2 s (fun b hb hbd => hex ⟨b, hb, hbd⟩), hw, hce]
    exact hs.rel s
  ·have := wz (masks := masks) hb hn
   rw [show C0 masks tl i = 0 by omega] at this
   exact t3 b this
  ·rw [t2 s fun b hb => ?_]
   ·exact hes
   ·obtain ⟨k, h1, h2, h3⟩ := dk hb
    exact S.us k b h1 (by rintro rfl; exact h2 mtl)
def Sp (masks : List Nat) (p : Nat) (tl : List Nat) : Bool :=
 (List.range tl.length).all fun k => k == p || (List.range k).all fun l => (masks.getD (tl.getD k 0) 0).testBit (tl.getD l 0)
def LL (ops : Array Oper) (items : List AOper) (masks tl : List Nat) : Bool :=
 (ops.toList.zipIdx.all fun p => (p.1.after.toList.all fun e => !Region.binds .any e || decide (e.on < p.2)) && (masks.getD p.2 0 == zr masks p.1.after.toList)) &&
 tl.all (fun i => decide (i < ops.size)) &&
 ((List.range ops.size).all fun k => tl.contains k || tl.zipIdx.all fun p => (masks.getD k 0).testBit p.1 == decide (p.2 < C0 masks tl k)) &&
 (items.zipIdx.all fun p => items.zipIdx.all fun q => AK masks tl p.2 q.2 p.1 q.1) &&
 (tl.zipIdx.all fun p => (wA items masks tl (p.2 + 1) p.1).all fun b => b.guard.isNone && b.dst.isSome)
def sMk (P : Program) (op : AOp) (o : Oper) : Bool :=
 match op, o.op with
 | .mkm _, .makeMap _ none => true
 | .alloc _, .alloc _ => true
 | _, _ => false
def sChkF (P : Program) (ops : Array Oper) (nt : Nat) (items : List AOper) (masks tl : List Nat) (p : Nat) : Option Nat :=
 match tl[p]? with
 | some m => match items[m]?, ops[m]? with
  | some ⟨some s, op, none⟩, some o => match o.dst, o.guard with
   | some s', none => if s' = s /\ s < nt /\ sMk P op o = true /\ LL ops items masks tl = true /\ Sp masks p tl = true /\ tl.Nodup /\ (items.zipIdx.all fun q => decide (q.2 = m) || q.1.dst != some s) = true /\ ((List.range p).all fun l => !(masks.getD (tl.getD l 0) 0).testBit m) = true then some s else none
   | _, _ => none
  | _, _ => none
 | none => none
theorem LK (hi : sItems P nt ops tl ops.toList 0 = some items) (hc : LL ops items masks tl = true) : Bc P nt ops items masks tl := by
 obtain ⟨l1, l2⟩ := qv hi
 simp only [LL, Bool.and_eq_true, List.all_eq_true] at hc
 obtain ⟨⟨⟨⟨c1, c2⟩, c4⟩, c5⟩, c6⟩ := hc
 have pair : ∀ (i k : Nat) (a b : AOper), items[i]? = some a -> items[k]? = some b -> AK masks tl i k a b = true := fun i k a b ha hb => c5 (a, i) (mem_zipIdx ha) (b, k) (mem_zipIdx hb)
 refine ⟨by simpa using l1, fun i o a ho ha hn => ?_, fun i o ho hm => ?_, fun i o ho ed he hb => ?_, fun i o ho k hk => ?_, fun i hi => by simpa using c2 i hi, fun k l i hk hn hl => ?_, fun i k a b ha hb hn s hs => ?_, fun i k a b ha hb hm hn s hs hr => ?_, fun l i hl b hb => ?_⟩
 ·have := l2 i o (by simpa using ho)
  rw [Nat.zero_add, if_neg (by simpa using hn), ha] at this
  exact qZ this
 ·have := l2 i o (by simpa using ho)
  rw [Nat.zero_add, if_pos (by simpa using hm)] at this
  exact this
 ·have := (c1 (o, i) (mem_zipIdx (by simpa using ho))).1 ed he
  simpa [hb] using this
 ·have := (c1 (o, i) (mem_zipIdx (by simpa using ho))).2
  have hme : masks.getD i 0 = zr masks o.after.toList := by simpa using this
  rw [hme] at hk
  rcases vn _ _ hk with h | h
  ·simp at h
  ·exact h
 ·have := c4 k (by simpa using hk)
  simp only [Bool.or_eq_true, List.all_eq_true] at this
  have := (this.resolve_left (by simpa using hn)) (i, l) (mem_zipIdx hl)
  simp only [beq_iff_eq] at this
  rw [this]; simp
 ·have := pair i k a b ha hb
  simp only [AK, hs] at this
  rw [if_neg (by simpa using hn)] at this
  simp only [Bool.and_eq_true, Bool.or_eq_true, beq_iff_eq, bne_iff_ne, ne_eq, Bool.not_eq_true', decide_eq_true_eq] at this
  refine ⟨fun hne => this.1.resolve_left hne, fun hr => ?_⟩
  have h2 := this.2.resolve_left (by simp [hr])
  exact ⟨h2.1.1, h2.1.2, fun hk => h2.2.resolve_left (by simpa using hk)⟩
 ·have := pair i k a b ha hb
  simp only [AK, hs] at this
  rw [if_pos (by simpa using hm)] at this
  simp only [Bool.or_eq_true, Bool.not_eq_true'] at this
  rcases this with ((h1 | h1) | h1) | h1
  ·exact absurd (by simpa using h1) hn
  ·exfalso
   rw [List.contains_eq_mem] at h1
   simp [hr] at h1
  ·exact Or.inl h1
  ·exact Or.inr h1
 ·have := c6 (i, l) (mem_zipIdx hl) b hb
  simp only [Bool.and_eq_true, Option.isNone_iff_eq_none] at this
  exact this
theorem LJ (hi : sItems P nt ops tl ops.toList 0 = some items) (hc : sChkF P ops nt items masks tl p = some s) : ∃ m fk, HV P nt ops items masks tl p m s fk := by
 unfold sChkF at hc
 split at hc <;> try (cases hc; done)
 rename_i m hm
 split at hc <;> try (cases hc; done)
 rename_i s0 op o hit hop
 split at hc <;> try (cases hc; done)
 rename_i s' h2 h3
 split at hc <;> try (cases hc; done)
 rename_i hcc
 obtain ⟨rfl, c1, cm, c2, c3, c4, c5, c6⟩ := hcc
 cases hc
 have S0 := LK hi c2
 obtain ⟨fk, rfl, hmk⟩ : ∃ fk : EX P, op = fk.op /\ NN P fk o := by
  have hc := S0.itt m o hop (List.mem_of_getElem? hm)
  unfold sMk at cm
  split at cm <;> try (cases cm; done)
  ·rename_i kt t h1
   exact ⟨MX P kt, rfl, Ks h1⟩
  ·rename_i zd t h1
   rw [hit] at hc
   have hz : dU P t = some zd := by
    unfold cOper at hc
    split at hc
    case isFalse => cases hc
    cases hcp : cOp P true o with
    | none => simp [hcp] at hc
    | some op' =>
     simp only [hcp] at hc
     have : op' = .alloc zd := by
      split at hc
      ·simp only [Option.some.injEq, AOper.mk.injEq] at hc; exact hc.2.1
      ·split at hc
       ·simp only [Option.some.injEq, AOper.mk.injEq] at hc; exact hc.2.1
       ·cases hc
     subst this
     unfold cOp at hcp
     cases hz : dU P t with
     | none => simp [cOp0, h1, hz, cOpM, deadOp] at hcp
     | some z => simp [cOp0, h1, hz] at hcp; rw [hcp]
   obtain ⟨z, z1, z2⟩ := KU (P := P) hz
   refine ⟨PQ P zd z.cells t z2, rfl, fun c hc => (by rw [h1] at hc; cases hc), fun a w => ?_⟩
   simp [execOp, h1, Instr.alloc, bR z1, newVar, cW, PQ]
 refine ⟨m, fk, S0, fun l k i i' hl hk hlt hkp => ?_, fun l l' i hl hl' => ?_, hm, hit, fun k b hb hk => ?_, c1, ⟨o, hop, hmk, h2, h3⟩, fun l i hl hlt => ?_⟩
 ·simp only [Sp, List.all_eq_true, List.mem_range, Bool.or_eq_true, beq_iff_eq] at c3
  have hk1 := List.getElem?_eq_some_iff.1 hk
  have := (c3 k hk1.1).resolve_left hkp l hlt
  simpa [List.getD, hl, hk] using this
 ·have h1 := (List.getElem?_eq_some_iff.1 hl).1
  exact (List.getElem?_inj h1 c4).1 (hl.trans hl'.symm)
 ·have := List.all_eq_true.1 c5 (b, k) (mem_zipIdx hb)
  simp only [Bool.or_eq_true, decide_eq_true_eq, bne_iff_ne, ne_eq] at this
  exact this.resolve_left hk
 ·have := List.all_eq_true.1 c6 l (by simpa using hlt)
  simp only [Bool.not_eq_true'] at this
  simpa [List.getD, hl] using this
def cDrF (P : Program) (nt : Nat) (tbl : TT) (id : Nat) (ops : Array Oper) : Option bT :=
 if P.follows .mixedOrders then
  match tbl id with
  | some (masks, tl, [999998, p]) => match sItems P nt ops tl ops.toList 0 with
   | some items => match sChkF P ops nt items masks tl p with
    | some s => some (.seq (.dreg [⟨some s, .mov (.c .undef), none⟩] [] []) (sCode items masks tl tl 0))
    | none => none
   | none => none
  | _ => none
 else none
theorem Pn (P : Program) (nt : Nat) (tbl : TT) : v5 P nt (cDrF P nt tbl) := by
 intro id ops ac h Q e hp hv
 unfold cDrF at h
 split at h
 case isFalse => cases h
 rename_i hm
 split at h
 case h_2 => cases h
 rename_i masks tl p _
 cases hi : sItems P nt ops tl ops.toList 0 with
 | none => simp [hi] at h
 | some items =>
  simp only [hi] at h
  split at h
  case h_2 => cases h
  rename_i s hc
  simp only [Option.some.injEq] at h
  subst h
  obtain ⟨m, fk, S⟩ := LJ hi hc
  have hv' : vcC P (sCode items masks tl tl 0) Q (e.put (some s) .undef) hp := hv
  refine vJ (fun i => ?_) (LU S hm (e := e.put (some s) .undef) (by simp [LEnv.put, LEnv.get]) hv')
  simp only [LEnv.put, LEnv.get]
  split
  ·exact Or.inl rfl
  ·exact Or.inr rfl
def cDr (P : Program) (nt : Nat) (tbl : TT) (id : Nat) (ops : Array Oper) : Option bT :=
 match cDrS P nt tbl id ops with
 | some x => some x
 | none => match cDrF P nt tbl id ops with
 | some x => some x
 | none => match cDr0 P nt tbl id ops with
  | some x => some x
  | none => match Rv P nt tbl id ops with
   | some x => some x
   | none => some (.dreg [⟨none, .dead, none⟩] [] [])
theorem aA (P : Program) (nt : Nat) (tbl : TT) : v5 P nt (cDr P nt tbl) := by
 intro id ops ac h Q e hp hv
 unfold cDr at h
 split at h
 ·rename_i x h0
  cases h
  exact Pm P nt tbl id ops _ h0 Q e hp hv
 split at h
 ·rename_i x h0
  cases h
  exact Pn P nt tbl id ops _ h0 Q e hp hv
 split at h
 ·rename_i x h0
  cases h
  exact Pp P nt tbl id ops _ h0 Q e hp hv
 split at h
 ·rename_i x h0
  cases h
  exact Po P nt tbl id ops _ h0 Q e hp hv
 ·simp at h
  subst h
  exact hv.elim
end Go.Am
namespace Go.Am
open Go
variable [bS]
def ab (P : Program) (op : AOp) (h : Heap) (K : HK) : Prop := vcOp P op K [] h
def au (P : Program) (op : AOp) (h : Heap) (K : D -> Prop) : Prop := vcdOp P op K [] h
def vcond (x : D) (A B : Prop) : Prop :=
 match x with
 | .bool t => (t = true -> A) /\ (t = false -> B)
 | _ => False
variable {P : Program} {h : Heap} {K : D -> Prop} {KH : HK} {k : IntKind} {a b : Int}
theorem CX {t w : Bool} {A : (HK) -> Prop} : vguard (.bool t) w A h KH = ((t = w -> A KH) /\ (t ≠ w -> KH gU h)) := by simp [vguard, gv]
theorem Dn {ds : List D} {w : Bool} {A : (HK) -> Prop} : vguard (.tup ds) w A h KH = KH gU h := by simp [vguard, gv]
theorem we {t w : Bool} {A : (D -> Prop) -> Prop} : aP (.bool t) w A K = ((t = w -> A K) /\ (t ≠ w -> K gU)) := by simp [aP, gv]
theorem yX {ds : List D} {w : Bool} {A : (D -> Prop) -> Prop} : aP (.tup ds) w A K = K gU := by simp [aP, gv]
theorem bt : vbin .add (.int k a) (.int k b) K = K (.int k (k.wrap (a + b))) := by simp [vbin]
theorem gG : vbin .sub (.int k a) (.int k b) K = K (.int k (k.wrap (a - b))) := by simp [vbin]
theorem fT : vbin .mul (.int k a) (.int k b) K = K (.int k (k.wrap (a * b))) := by simp [vbin]
theorem jU : vbin .quo (.int k a) (.int k b) K = (b ≠ 0 /\ K (.int k (k.wrap (a.tdiv b)))) := by simp [vbin]
theorem bI : vbin .rem (.int k a) (.int k b) K = (b ≠ 0 /\ K (.int k (a.tmod b))) := by simp [vbin]
theorem RO : vbin .and (.int k a) (.int k b) K = K (.int k (ibits .and k a b)) := by simp [vbin]
theorem Te : vbin .or (.int k a) (.int k b) K = K (.int k (ibits .or k a b)) := by simp [vbin]
theorem RM : vbin .xor (.int k a) (.int k b) K = K (.int k (ibits .xor k a b)) := by simp [vbin]
theorem Lp {k' : IntKind} : vbin .shl (.int k a) (.int k' b) K = (0 <= b /\ K (.int k (G4 k a b))) := rfl
theorem PD {k' : IntKind} : vbin .shr (.int k a) (.int k' b) K = (0 <= b /\ K (.int k (IF k a b))) := rfl
theorem aM : vbin .eql (.int k a) (.int k b) K = K (.bool (decide (a = b))) := by simp [vbin]
theorem cH : vbin .neq (.int k a) (.int k b) K = K (.bool (!decide (a = b))) := by simp [vbin]
theorem bK : vbin .lss (.int k a) (.int k b) K = K (.bool (decide (a < b))) := by simp [vbin]
theorem Jg : vbin .leq (.int k a) (.int k b) K = K (.bool (decide (a <= b))) := by simp [vbin]
theorem oX : vbin .gtr (.int k a) (.int k b) K = K (.bool (decide (b < a))) := by simp [vbin]
theorem hY : vbin .geq (.int k a) (.int k b) K = K (.bool (decide (b <= a))) := by simp [vbin]
theorem Fs : vun .neg (.int k a) K = K (.int k (k.wrap (0 - a))) := rfl
theorem PE {t : Bool} : vun .not (.bool t) K = K (.bool !t) := rfl
theorem RN : vun .xor (.int k a) K = K (.int k (ibits .xor k (if k.signed then -1 else k.max) a)) := rfl
theorem kO {xs : List D} : cj (.sl xs) h K = K (.int .i64 xs.length) := rfl
theorem lN {n o l : Nat} : cj (.ms n o l) h K = ((h n).live = true /\ K (.int .i64 l)) := rfl
theorem cq {k' : IntKind} : ab P (.conv k (.c (.int k' a))) h KH = KH (.int k (k.wrap a)) h := rfl
theorem h_ext {ds : List D} {i : Nat} : ab P (.ext (.c (.tup ds)) i) h KH = (match ds[i]? with | some d => KH d h | none => False) := rfl
theorem MM {cs : List D} {o s : Nat} {g : Bool} : ab P (.fld (.c (.agg cs)) o s g) h KH = vpart cs o s g (KH · h) := rfl
theorem jk {d : D} {j o : Nat} : ab P (.fadd (.c (.vp d j)) o) h KH = KH (.vp d (j + o)) h := rfl
theorem gX {xs : List D} {s : Nat} : ab P (.iadd (.c (.sl xs)) (.c (.int k a)) s) h KH = (0 <= a /\ a < xs.length /\ ∀ d, xs[a.toNat]? = some d -> d.cells.length = s /\ KH (.vp d 0) h) := rfl
theorem bN {n o l s : Nat} : ab P (.iadd (.c (.ms n o l)) (.c (.int k a)) s) h KH = (0 <= a /\ a < l /\ (∃ els, (h n).row = some (s, els)) /\ KH (.ptr n (o + a.toNat) 0) h) := rfl
theorem iD {d : D} {j s : Nat} {g : Bool} : ab P (.ld (.c (.vp d j)) s g) h KH = vpart d.cells j s g (KH · h) := rfl
theorem bk {cs : List D} {o s : Nat} : vpart cs o s false K = (match cs[o]? with | some d => K d | none => False) := rfl
theorem cw {cs : List D} {o s : Nat} : vpart cs o s true K = (o + s <= cs.length /\ K (.agg ((cs.drop o).take s))) := rfl
theorem wrap64 {n : Int} (h1 : -9223372036854775808 <= n) (h2 : n <= 9223372036854775807) : IntKind.i64.wrap n = n := by
 simp only [IntKind.wrap, IntKind.signed, IntKind.bits]
 first | omega | (simp; omega)
end Go.Am
namespace Go.Am
open Go
variable [bS]
abbrev LH := List Slot
def LH.h (l : LH) : Heap := fun n => l.getD n .free
def LH.nf (l : LH) : Prop := ∀ s ∈ l, s ≠ .free
def fi {α : Type} (n : Int) (k : Int -> α) : α := match n with
 | .ofNat m => Nat.rec (k 0) (fun p _ => k (.ofNat (p + 1))) m
 | .negSucc m => Nat.rec (k (.negSucc 0)) (fun p _ => k (.negSucc (p + 1))) m
def fb {α : Type} (b : Bool) (k : Bool -> α) : α := match b with
 | true => k true
 | false => k false
def fl {α β : Type} : List α -> (List α -> β) -> β
 | [], k => k []
 | a :: r, k => fl r fun r' => k (a :: r')
def RS (a b : ByteArray) : Bool := a.data.toList == b.data.toList
mutual
def D.same : D -> D -> Bool
 | .undef, .undef => true
 | .nil, .nil => true
 | .nilfn, .nilfn => true
 | .nilmap, .nilmap => true
 | .int q n, .int q' n' => decide (q = q') && decide (n = n')
 | .bool b, .bool b' => b == b'
 | .str s, .str s' => RS s s'
 | .sl xs, .sl ys => D.sameL xs ys
 | .ms n o m, .ms n' o' m' => n == n' && o == o' && m == m'
 | .ptr n o m, .ptr n' o' m' => n == n' && o == o' && m == m'
 | .vp e j, .vp e' j' => D.same e e' && j == j'
 | .agg xs, .agg ys => D.sameL xs ys
 | .tup xs, .tup ys => D.sameL xs ys
 | .fn f a b, .fn f' a' b' => f == f' && D.sameL a a' && D.sameL b b'
 | .yld n, .yld n' => n == n'
 | .mp n, .mp n' => n == n'
 | _, _ => false
def D.sameL : List D -> List D -> Bool
 | [], [] => true
 | d :: r, e :: s => D.same d e && D.sameL r s
 | _, _ => false
end
def Gv (d : D) : Bool := d.cells.all D.one
theorem En {d : D} (h : Gv d = true) : aw d := fun x hx => List.all_eq_true.1 h x hx
theorem LH.SF {l : LH} {n : Nat} (hn : n < l.length) : l.h n = l[n] := by simp [LH.h, hn]
theorem LH.Q5 {l : LH} {n : Nat} (hn : l.length <= n) : l.h n = .free := by simp [LH.h, hn]
theorem LH.top {l : LH} (h : l.nf) {n : Nat} (t : nw l.h n) : n = l.length := by
 rcases Nat.lt_trichotomy n l.length with h1 | h1 | h1
 ·have := t.free
  rw [LH.SF h1] at this
  exact absurd this (h _ (List.getElem_mem h1))
 ·exact h1
 ·exfalso
  obtain ⟨k, rfl⟩ : ∃ k, n = k + 1 := ⟨n - 1, by omega⟩
  exact t.2 k rfl (LH.Q5 (by omega))
theorem LH.ML (l : LH) (s : Slot) : LH.h (l ++ [s]) = ah l.h l.length s := by
 funext n
 unfold LH.h ah
 by_cases h : n = l.length
 ·subst h; simp
 ·rw [if_neg h]
  rcases Nat.lt_or_ge n l.length with h1 | h1
  ·simp [List.getD, List.getElem?_append_left h1]
  ·have : (l ++ [s]).length <= n := by simp; omega
   simp [List.getD, List.getElem?_eq_none this, List.getElem?_eq_none h1]
theorem LH.SD {l : LH} {n : Nat} (s : Slot) (hn : n < l.length) : LH.h (l.set n s) = ah l.h n s := by
 funext m
 unfold LH.h ah
 by_cases h : m = n
 ·subst h; simp [List.getD, hn]
 ·have : n ≠ m := fun e => h e.symm
  simp [List.getD, this, h]
def LH.frz (l : LH) (n : Nat) : LH := match l.h n with
 | .arr e x => l.set n (.frz e x)
 | _ => l
end Go.Am
namespace Go.Am
open Go
variable [bS]
structure GA where
 call : FuncId -> List D -> LH -> Option (D × LH)
 vcall : FuncId -> List D -> Option D
 own : FuncId -> Bool
def xe (n : Nat) (l : List (Nat × Nat × D)) : Bool := l.all fun p => p.2.2.cells.length == p.2.1 && decide (p.1 + p.2.1 <= n) && Gv p.2.2
theorem vF {n : Nat} {l : List (Nat × Nat × D)} (h : xe n l = true) : fv n l := by
 intro p hp
 have := List.all_eq_true.1 h p hp
 simp only [Bool.and_eq_true, beq_iff_eq, decide_eq_true_eq] at this
 exact ⟨this.1.1, this.1.2, En this.2⟩
def Ry (len esz : Nat) (l : List (Nat × D)) : Bool := l.all fun p => decide (p.1 < len) && p.2.cells.length == esz && Gv p.2
theorem sN {len esz : Nat} {l : List (Nat × D)} (h : Ry len esz l = true) : HE len esz l := by
 intro p hp
 have := List.all_eq_true.1 h p hp
 simp only [Bool.and_eq_true, beq_iff_eq, decide_eq_true_eq] at this
 exact ⟨this.1.1, this.1.2, En this.2⟩
structure Tc (P : Program) (C : GA) : Prop where
 call : ∀ f ds l d l', C.call f ds l = some (d, l') -> l.nf -> l'.nf /\ ∀ K : HK, K d l'.h -> ag P f ds l.h K
 vcall : ∀ f ds r, C.vcall f ds = some r -> aD P f ds (· = r)
variable {P : Program} {C : GA}
end Go.Am
namespace Go.Am
open Go
variable [bS]
variable {P : Program} {C : GA}
end Go.Am
namespace Go.Am
open Go
variable [bS]
variable {P : Program} {C : GA}
structure Up (P : Program) (fs : FuncId -> Option aI) where
 a : ∀ f F, fs f = some F -> ∀ ds K h, Lo P F ds K h -> ag P f ds h K
 spec : FuncId -> Option (List D -> Option D)
 sp : ∀ f s, spec f = some s -> ∀ ds r, s ds = some r -> aD P f ds (· = r)
 v : ∀ f F, fs f = some F -> ∀ ds (K : D -> Prop), Lo P F ds (fun r h => gV r /\ pG h r /\ (r.fzt h).EY = true /\ K (r.fzt h)) aJ -> aD P f ds K
theorem cT : aJ = LH.h [] := by funext n; simp [aJ, LH.h]
end Go.Am
namespace Go.Am
open Go
variable [bS]
variable {P : Program} {l : LH} {KH : HK} {K : D -> Prop}
theorem Ob (hn : l.nf) : nw l.h l.length := by
 refine ⟨fun m hm => LH.Q5 hm, fun k hk => ?_⟩
 have : k < l.length := by omega
 rw [LH.SF this]
 exact hn _ (List.getElem_mem this)
theorem JU (hn : l.nf) {Q : Nat -> Prop} : (∀ n, nw l.h n -> Q n) = Q l.length := by
 apply propext
 constructor
 ·exact fun h => h _ (Ob hn)
 ·intro h n t
  rw [LH.top hn t]; exact h
theorem QS : LH.nf [] := fun _ h => by cases h
theorem OS {s : Slot} {l : LH} : LH.nf (s :: l) = (s ≠ .free /\ LH.nf l) := by
 apply propext
 constructor
 ·exact fun h => ⟨h s (by simp), fun x hx => h x (by simp [hx])⟩
 ·rintro ⟨h1, h2⟩ x hx
  rcases List.mem_cons.1 hx with rfl | hx
  ·exact h1
  ·exact h2 x hx
theorem Sy {d : D} (hn : l.nf) : ab P (.box (.c d)) l.h KH = (aw d /\ KH (.ptr l.length 0 0) (LH.h (l ++ [.box d]))) := by
 simp only [ab, vcOp, Arg.get]
 rw [JU hn, LH.ML]
theorem gT {d : D} (hn : l.nf) : ab P (.alloc d) l.h KH = KH (.ptr l.length 0 0) (LH.h (l ++ [.box d])) := by
 simp only [ab, vcOp]
 rw [JU hn, LH.ML]
theorem MN {n i j o : Nat} : ab P (.fadd (.c (.ptr n i j)) o) l.h KH = ((l.h n).used = true /\ KH (.ptr n i (j + o)) l.h) := rfl
theorem h_ldp {n i j s : Nat} {g : Bool} : ab P (.ld (.c (.ptr n i j)) s g) l.h KH = (match l.h n with
   | .box v => i = 0 /\ vpart v.cells j s g (KH · l.h)
   | .arr _ els => i < els.length /\ ∀ d, els[i]? = some d -> vpart d.cells j s g (KH · l.h)
   | .frz _ els => i < els.length /\ ∀ d, els[i]? = some d -> vpart d.cells j s g (KH · l.h)
   | _ => False) := rfl
theorem h_stp {n i j s : Nat} {v : D} : ab P (.st (.c (.ptr n i j)) (.c v) s) l.h KH = (v.cells.length = s /\ aw v /\ match l.h n with
   | .box d => i = 0 /\ j + s <= d.cells.length /\ KH .undef (ah l.h n (.box (setCells d j v.cells)))
   | .arr esz els => i < els.length /\ j + s <= esz /\ ∀ d, els[i]? = some d -> KH .undef (ah l.h n (.arr esz (els.set i (setCells d j v.cells))))
   | _ => False) := rfl
theorem kF {s : Slot} {l : LH} : LH.h (s :: l) 0 = s := rfl
theorem xb {s : Slot} {l : LH} {n : Nat} : LH.h (s :: l) (n + 1) = LH.h l n := rfl
theorem Dp {n : Nat} {s : Slot} (hn : n < l.length) : ah l.h n s = LH.h (l.set n s) := (LH.SD s hn).symm
theorem SE {f : FuncId} {a b : List Arg} {h : Heap} : ab P (.mkf f a b) h KH = KH (.fn f (a.map (·.get [])) (b.map (·.get []))) h := rfl
theorem JH {f : FuncId} {a b : List D} {as : List Arg} {h : Heap} : ab P (.callv (.c (.fn f a b)) as) h KH = (dO P f = true /\ ag P f (a ++ as.map (·.get []) ++ b) h KH) := rfl
theorem jY {z : List D} {ps : List (Nat × Nat × Arg)} {h : Heap} : ab P (.bld z ps) h KH = (fv z.length (ps.map fun p => (p.1, p.2.1, p.2.2.get [])) /\ KH (.agg (fillD z (ps.map fun p => (p.1, p.2.1, (p.2.2.get []).cells)))) h) := rfl
theorem Hg {neg agg : Bool} {ks : List CK} {x y : D} {h : Heap} : ab P (.eqv neg agg ks (.c x) (.c y)) h KH = (x.isAgg = agg /\ y.isAgg = agg /\ veqv neg ks x y (KH · h)) := rfl
theorem cC {d : D} {h : Heap} : ab P (.box (.c d)) h KH = (aw d /\ ∀ n, nw h n -> KH (.ptr n 0 0) (ah h n (.box d))) := rfl
theorem bQ {d : D} {h : Heap} : ab P (.alloc d) h KH = ∀ n, nw h n -> KH (.ptr n 0 0) (ah h n (.box d)) := rfl
theorem O9 {esz bytes : Nat} {z : D} {k k' : IntKind} {a b : Int} {h : Heap} : ab P (.mk esz bytes z (.c (.int k a)) (.c (.int k' b))) h KH =
  (0 <= a /\ a <= b /\ b * bytes <= 140737488355328 /\ b <= 9223372036854775807 /\ ∀ n, nw h n -> KH (.ms n 0 a.toNat) (ah h n (.arr esz (List.replicate a.toNat z)))) := rfl
theorem qQ {n i j o : Nat} {h : Heap} : ab P (.fadd (.c (.ptr n i j)) o) h KH = ((h n).used = true /\ KH (.ptr n i (j + o)) h) := rfl
theorem lk {n i j s : Nat} {g : Bool} {h : Heap} : ab P (.ld (.c (.ptr n i j)) s g) h KH = (match h n with
   | .box v => i = 0 /\ vpart v.cells j s g (KH · h)
   | .arr _ els => i < els.length /\ ∀ d, els[i]? = some d -> vpart d.cells j s g (KH · h)
   | .frz _ els => i < els.length /\ ∀ d, els[i]? = some d -> vpart d.cells j s g (KH · h)
   | _ => False) := rfl
theorem dq {n i j s : Nat} {v : D} {h : Heap} : ab P (.st (.c (.ptr n i j)) (.c v) s) h KH = (v.cells.length = s /\ aw v /\ match h n with
   | .box d => i = 0 /\ j + s <= d.cells.length /\ KH .undef (ah h n (.box (setCells d j v.cells)))
   | .arr esz els => i < els.length /\ j + s <= esz /\ ∀ d, els[i]? = some d -> KH .undef (ah h n (.arr esz (els.set i (setCells d j v.cells))))
   | _ => False) := rfl
theorem nw.ne {h : Heap} {n m : Nat} (t : nw h n) (hm : h m ≠ .free) : m ≠ n := by rintro rfl; exact hm t.free
theorem Ext.refl {h : Heap} : Ext h h := fun _ _ => rfl
theorem Ext.trans {a b c : Heap} (h : Ext a b) (k : Ext b c) : Ext a c := fun n hn => by rw [k n (by rw [h n hn]; exact hn), h n hn]
theorem Ext.new {h : Heap} {n : Nat} (t : nw h n) (s : Slot) : Ext h (ah h n s) := lW t.free s
theorem bE {f : FuncId} {ds : List D} {h : Heap} {KH : HK} {R : D -> Prop} (hv : aD P f ds R) (hds : ∀ d ∈ ds, d.vd = true /\ aw d) (hk : ∀ r, R r -> KH r h) : ag P f ds h KH := by
 have wJ : ∀ (x : D), x.vone = true -> x.fzc h = x /\ x.jo = [] /\ lG h x := by
  intro x hx
  cases x <;> simp_all [D.vone, D.fzc, D.jo, lG]
 have hfz : ∀ d ∈ ds, d.fz h = d /\ d.nm = [] /\ jD h d := by
  intro d hd
  obtain ⟨h1, h2⟩ := hds d hd
  rcases Dg h1 with hv | ⟨cs, rfl, hcs⟩
  ·have := wJ d hv
   cases d <;> simp_all [D.fz, D.nm, D.vone, jD, D.cells]
  ·refine ⟨?_, ?_, fun x hx => (wJ x (hcs x hx)).2.2⟩
   ·simp only [D.fz]
    congr 1
    rw [List.map_congr_left (fun x hx => (wJ x (hcs x hx)).1)]
    simp
   ·simp only [D.nm]
    rw [List.flatMap_eq_nil_iff]
    exact fun x hx => (wJ x (hcs x hx)).2.1
 have e1 : ds.map (D.fz h) = ds := by
  rw [List.map_congr_left (fun d hd => (hfz d hd).1)]
  simp
 have e2 : ds.flatMap D.nm = [] := by
  rw [List.flatMap_eq_nil_iff]
  exact fun d hd => (hfz d hd).2.1
 refine ag.mono ?_ (gl (K := R) (by rw [e1]; exact hv) (fun d hd => ⟨(hds d hd).2, (hfz d hd).2.2, by rw [(hfz d hd).1]; exact (hds d hd).1⟩))
 rintro r h' ⟨k1, k2, _⟩
 rw [k2 (Or.inr e2)]
 exact hk r k1
theorem AO {d : D} (h : d.one = true) : aw d = True := by
 apply propext; refine ⟨fun _ => trivial, fun _ x hx => ?_⟩
 cases d <;> simp_all [D.cells, D.one]
theorem LX {cs : List D} : aw (.agg cs) = ∀ x ∈ cs, x.one = true := rfl
theorem af {A B : Prop} : vcond (.bool true) A B = A := by simp [vcond]
theorem ae {A B : Prop} : vcond (.bool false) A B = B := by simp [vcond]
theorem Ii {d : D} {h : Heap} {K : D -> Prop} (hd : d.vd = true) (ho : aw d) (hk : K d) : gV d /\ pG h d /\ (d.fzt h).EY = true /\ K (d.fzt h) := by
 have wJ : ∀ (x : D), x.vone = true -> x.fzc h = x /\ lG h x := by
  intro x hx
  cases x <;> simp_all [D.vone, D.fzc, lG]
 have e : d.fzt h = d /\ pG h d /\ gV d /\ d.EY = true := by
  rcases Dg hd with hv | ⟨cs, rfl, hcs⟩
  ·have := wJ d hv
   have hc : d.cells = [d] := by cases d <;> simp_all [D.vone, D.cells]
   refine ⟨?_, ?_, ?_, ?_⟩
   ·cases d <;> simp_all [D.fzt, D.fz, D.vone]
   ·cases d <;> simp_all [pG, jD, D.vone]
   ·cases d <;> simp_all [gV, D.vone]
   ·cases d <;> simp_all [D.EY, D.vone]
  ·refine ⟨?_, fun x hx => (wJ x (hcs x hx)).2, ho, hd⟩
   simp only [D.fzt, D.fz]
   congr 1
   rw [List.map_congr_left (fun x hx => (wJ x (hcs x hx)).1)]
   simp
 exact ⟨e.2.2.1, e.2.1, by rw [e.1]; exact e.2.2.2, by rw [e.1]; exact hk⟩
def sQ (K : D -> Prop) (r : D) (h : Heap) : Prop := gV r /\ pG h r /\ (r.fzt h).EY = true /\ K (r.fzt h)
theorem bG {k : IntKind} {n : Int} {h : Heap} {K : D -> Prop} : sQ K (.int k n) h = K (.int k n) := by
 apply propext; exact ⟨fun h => h.2.2.2, fun hk => Ii rfl (fun x hx => by simp [D.cells] at hx; subst hx; rfl) hk⟩
theorem bH {b : Bool} {h : Heap} {K : D -> Prop} : sQ K (.bool b) h = K (.bool b) := by
 apply propext; exact ⟨fun h => h.2.2.2, fun hk => Ii rfl (fun x hx => by simp [D.cells] at hx; subst hx; rfl) hk⟩
theorem Je {d : D} {h : Heap} {K : D -> Prop} (hd : d.vd = true /\ aw d) (hk : K d) : sQ K d h := Ii hd.1 hd.2 hk
theorem N1 {n esz : Nat} {els : List D} {h : Heap} {K : D -> Prop} (hn : (h n).row = some (esz, els)) (hv : ∀ x ∈ els, ∀ y ∈ x.cells, y.vone = true) (hk : K (.sl els)) : sQ K (.ms n 0 els.length) h := by
 refine ⟨fun x hx => by simp [D.cells] at hx; subst hx; rfl, fun x hx => ?_, ?_, ?_⟩
 ·simp only [D.cells, List.mem_singleton] at hx
  subst hx
  exact ⟨esz, els, hn, by simp, fun x hx y hy => hv x (by simpa using hx) y hy⟩
 ·simp [D.fzt, D.fz, D.fzc, hn, D.EY, D.vd, D.vone]
 ·simpa [D.fzt, D.fz, D.fzc, hn] using hk
theorem bc {fz : Bool} {f : FuncId} {loops : TL} {dr : Nat -> Array Oper -> Option bT} {F : aI} (hc : cFn P fz f loops dr = some F) (hdr : v5 P F.nt dr)
  {ds : List D} {K : D -> Prop} (hlen : Nat.ble ds.length F.nt = true) {V : (HK) -> Prop} (hV : ∀ K, V K = vcC P F.code (fun x e h' => match x with | .exit _ => False | .pan => False | _ => iq P F.res K e h') (params ds 0) aJ)
  (hv : V (sQ K)) : aD P f ds K :=
 Lm hc hdr ⟨Nat.le_of_ble_eq_true hlen, Eq.mp (hV _) hv⟩
theorem aW {fz : Bool} {f : FuncId} {loops : TL} {dr : Nat -> Array Oper -> Option bT} {F : aI} (hc : cFn P fz f loops dr = some F) (hdr : v5 P F.nt dr)
  {ds : List D} {h : Heap} {K : HK} (hlen : Nat.ble ds.length F.nt = true) {V : (HK) -> Prop} (hV : ∀ K, V K = vcC P F.code (fun x e h' => match x with | .exit _ => False | .pan => False | _ => iq P F.res K e h') (params ds 0) h)
  (hv : V K) : ag P f ds h K :=
 HS hc hdr ⟨Nat.le_of_ble_eq_true hlen, Eq.mp (hV _) hv⟩
theorem bV {cs : List D} : (D.agg cs).cells = cs := rfl
theorem m6 {k : IntKind} {n : Int} : (D.int k n).cells = [.int k n] := rfl
theorem IW {b : Bool} : (D.bool b).cells = [.bool b] := rfl
theorem KJ {s : ByteArray} : (D.str s).cells = [.str s] := rfl
theorem Nq {xs : List D} : (D.sl xs).cells = [.sl xs] := rfl
theorem KM : D.nil.cells = [.nil] := rfl
theorem Hv : D.nilfn.cells = [.nilfn] := rfl
theorem Gp : D.nilmap.cells = [.nilmap] := rfl
theorem Nr {n : Nat} : (D.mp n).cells = [.mp n] := rfl
theorem Iu : D.nilmap.one = true := rfl
theorem QO {n : Nat} : (D.mp n).one = true := rfl
theorem Ei {n o l : Nat} : (D.ms n o l).cells = [.ms n o l] := rfl
theorem KL {n o l : Nat} : (D.ptr n o l).cells = [.ptr n o l] := rfl
theorem Ns {f : FuncId} {a b : List D} : (D.fn f a b).cells = [.fn f a b] := rfl
theorem ai {a : List D} : aG a a = True := by simp [aG]
theorem OM {k : IntKind} {n : Int} : aw (.int k n) = True := AO rfl
theorem Mj {b : Bool} : aw (.bool b) = True := AO rfl
theorem OJ {s : ByteArray} : aw (.str s) = True := AO rfl
theorem QM {xs : List D} : aw (.sl xs) = True := AO rfl
theorem OL : aw .nil = True := AO rfl
theorem QN {n o l : Nat} : aw (.ms n o l) = True := AO rfl
theorem OK {n o l : Nat} : aw (.ptr n o l) = True := AO rfl
theorem QP {f : FuncId} {a b : List D} : aw (.fn f a b) = True := AO rfl
theorem MP {e : LEnv} {d : D} : Arg.get e (.c d) = d := rfl
theorem LB {cs new : List D} {j : Nat} : setCells (.agg cs) j new = .agg (cs.take j ++ new ++ cs.drop (j + new.length)) := rfl
theorem LA {k : IntKind} {n : Int} {j : Nat} {x : D} : setCells (.int k n) j [x] = x := rfl
theorem Kg {b : Bool} {j : Nat} {x : D} : setCells (.bool b) j [x] = x := rfl
theorem Of {xs : List D} {j : Nat} {x : D} : setCells (.sl xs) j [x] = x := rfl
theorem Lz {j : Nat} {x : D} : setCells .nil j [x] = x := rfl
attribute [simp] LB LA Kg Of Lz
theorem GJ {k : IntKind} {n : Int} : (D.int k n).vone = true := rfl
theorem J4 {b : Bool} : (D.bool b).vone = true := rfl
theorem Lj {s : ByteArray} : (D.str s).vone = true := rfl
theorem Jf {xs : List D} : (D.sl xs).vone = true := rfl
theorem Lk : D.nil.vone = true := rfl
theorem Mo {k : IntKind} {n : Int} : (D.int k n).one = true := rfl
theorem Km {b : Bool} : (D.bool b).one = true := rfl
theorem Mk {s : ByteArray} : (D.str s).one = true := rfl
theorem ON {xs : List D} : (D.sl xs).one = true := rfl
theorem Mn : D.nil.one = true := rfl
theorem OO {n o l : Nat} : (D.ms n o l).one = true := rfl
theorem Ml {n o l : Nat} : (D.ptr n o l).one = true := rfl
theorem OP {f : FuncId} {a b : List D} : (D.fn f a b).one = true := rfl
theorem Qc {cs : List D} : (D.agg cs).vd = cs.all D.vone := rfl
theorem Qb {k : IntKind} {n : Int} : (D.int k n).vd = true := rfl
theorem N2 {b : Bool} : (D.bool b).vd = true := rfl
theorem P5 {s : ByteArray} : (D.str s).vd = true := rfl
theorem RK {xs : List D} : (D.sl xs).vd = true := rfl
theorem Qa : D.nil.vd = true := rfl
theorem Kz {cs : List D} : (D.agg cs).isAgg = true := rfl
theorem Ky {k : IntKind} {n : Int} : (D.int k n).isAgg = false := rfl
theorem IG {b : Bool} : (D.bool b).isAgg = false := rfl
theorem Kx {s : ByteArray} : (D.str s).isAgg = false := rfl
attribute [simp] GJ J4 Lj Jf Lk Mo Km Mk ON Mn OO Ml OP Qc Qb N2 P5 RK Qa Kz Ky IG Kx
attribute [simp] QS OS Slot.live Slot.used bV m6 IW KJ Nq KM Hv Gp Nr Iu QO Ei KL Ns ai OM Mj OJ QM OL QN OK QP LX ad MP
end Go.Am
namespace Go.Am
open Go
variable [bS]
variable {P : Program} {KH : HK} {h : Heap}
def Own (esz : Nat) (h : Heap) (v : D) (els : List D) : Prop := (v = .nil /\ els = []) \/ ∃ n, v = .ms n 0 els.length /\ h n = .arr esz els
def Pz (h h' : Heap) (v : D) : Prop := ∀ k, h k ≠ .free -> (∀ l, v ≠ .ms k 0 l) -> h' k = h k
theorem wJ {x : D} (hx : x.vone = true) : x.fzc h = x /\ x.jo = [] /\ lG h x := by
 cases x <;> simp_all [D.vone, D.fzc, D.jo, lG]
theorem Df {d : D} (h1 : d.vd = true) : d.fz h = d /\ d.nm = [] /\ jD h d := by
 rcases Dg h1 with hv | ⟨cs, rfl, hcs⟩
 ·have := wJ (h := h) hv
  cases d <;> simp_all [D.fz, D.nm, D.vone, jD, D.cells]
 ·refine ⟨?_, ?_, fun x hx => (wJ (hcs x hx)).2.2⟩
  ·simp only [D.fz]
   congr 1
   rw [List.map_congr_left (fun x hx => (wJ (h := h) (hcs x hx)).1)]
   simp
  ·simp only [D.nm]
   rw [List.flatMap_eq_nil_iff]
   exact fun x hx => (wJ (h := h) (hcs x hx)).2.1
theorem MR {esz : Nat} {z d : D} (h1 : d.vd = true) (h2 : aw d) (h3 : d.cells.length = esz) (hk : ∀ n, nw h n -> KH (.ms n 0 1) (ah h n (.arr esz [d]))) : ab P (.bldS true esz 1 z [(0, .c d)]) h KH := by
 obtain ⟨a1, a2, a3⟩ := Df (h := h) h1
 refine ⟨fun p hp => by simp [Arg.get] at hp; subst hp; exact ⟨Nat.one_pos, h3, h2⟩, fun _ p hp => by simp [Arg.get] at hp; subst hp; exact a3, fun n t => ?_⟩
 have := hk n t
 simpa [Arg.get, a1, a2, Heap.freezeAll, setEls] using this
theorem qR {esz : Nat} {z : D} {fz : Bool} (hk : ∀ n, nw h n -> KH (.ms n 0 0) (ah h n (.arr esz []))) : ab P (.bldS fz esz 0 z []) h KH := by
 refine ⟨fun p hp => by simp at hp, fun _ p hp => by simp at hp, fun n t => ?_⟩
 have := hk n t
 cases fz <;> simpa [Heap.freezeAll, setEls] using this
end Go.Am
namespace Go.Am
open Go
variable [bS]
variable {P : Program} {KH : HK} {K : D -> Prop} {h : Heap}
theorem bO {x : Arg} {s : Nat} {g : Bool} : au P (.ld x s g) h K = ab P (.ld x s g) h fun d _ => K d := rfl
theorem SR {x : Arg} {a b c : Option Arg} {n : Nat} : au P (.slc x a b c n) h K = ab P (.slc x a b c n) h fun d _ => K d := rfl
theorem Rl {x : Arg} {a b : Option Arg} : au P (.sslc x a b) h K = ab P (.sslc x a b) h fun d _ => K d := rfl
theorem TJ {x y : Arg} : au P (.mn x y) h K = ab P (.mn x y) h fun d _ => K d := rfl
theorem SS {x y : Arg} : au P (.mx x y) h K = ab P (.mx x y) h fun d _ => K d := rfl
theorem fO {x y : Arg} {n : Nat} : au P (.iadd x y n) h K = ab P (.iadd x y n) h fun d _ => K d := rfl
theorem C8 {x y : Arg} {l n : Nat} : au P (.iadda x y l n) h K = ab P (.iadda x y l n) h fun d _ => K d := rfl
theorem Rp {x y : Arg} {len size : Nat} {agg : Bool} : au P (.sidx x y len size agg) h K = ab P (.sidx x y len size agg) h fun d _ => K d := rfl
theorem ow {k : IntKind} {x : Arg} : au P (.conv k x) h K = ab P (.conv k x) h fun d _ => K d := rfl
theorem mN {c x y : Arg} : au P (.pick c x y) h K = ab P (.pick c x y) h fun d _ => K d := rfl
theorem SV {x : Arg} {i : Nat} : au P (.ext x i) h K = ab P (.ext x i) h fun d _ => K d := rfl
theorem Nm {x : Arg} {o s : Nat} {g : Bool} : au P (.fld x o s g) h K = ab P (.fld x o s g) h fun d _ => K d := rfl
theorem Ht {z : List D} {ps : List (Nat × Nat × Arg)} : au P (.bld z ps) h K = ab P (.bld z ps) h fun d _ => K d := rfl
theorem PS {n g : Bool} {ks : List CK} {x y : Arg} : au P (.eqv n g ks x y) h K = ab P (.eqv n g ks x y) h fun d _ => K d := rfl
theorem Rm {x : Arg} : au P (.slen x) h K = ab P (.slen x) h fun d _ => K d := rfl
theorem SU {f : FuncId} {a b : List Arg} : au P (.mkf f a b) h K = ab P (.mkf f a b) h fun d _ => K d := rfl
theorem Gm {d : D} {j o : Nat} : au P (.fadd (.c (.vp d j)) o) h K = K (.vp d (j + o)) := rfl
theorem aH {n i j o : Nat} : au P (.fadd (.c (.ptr n i j)) o) h K = ((h n).used = true /\ K (.ptr n i (j + o))) := rfl
theorem O5 {xs : List D} {a b c : Option Arg} {n : Nat} : ab P (.slc (.c (.sl xs)) a b c n) h KH = vopt [] a 0 fun l => vopt [] b xs.length fun r => vopt [] c xs.length fun m => 0 <= l /\ l <= r /\ r <= m /\ m <= xs.length /\ (∀ d ∈ xs, d.cells.length = n) /\
    KH (.sl ((xs.drop l.toNat).take (r - l).toNat)) h := rfl
theorem O6 {m off len : Nat} {a b c : Option Arg} {n : Nat} : ab P (.slc (.c (.ms m off len)) a b c n) h KH = vopt [] a 0 fun l => vopt [] b len fun r => vopt [] c len fun q => 0 <= l /\ l <= r /\ r <= q /\ q <= len /\ (∃ els, (h m).row = some (n, els)) /\
    KH (.ms m (off + l.toNat) (r - l).toNat) h := rfl
theorem J3 {n : Nat} {Q : Int -> Prop} : vopt [] none n Q = Q n := rfl
theorem J2 {k : IntKind} {i : Int} {n : Nat} {Q : Int -> Prop} : vopt [] (some (.c (.int k i))) n Q = Q i := rfl
theorem O8 {k : IntKind} {a b : Int} : ab P (.mn (.c (.int k a)) (.c (.int k b))) h KH = KH (.int k (if b < a then b else a)) h := by simp [ab, vcOp, Arg.get]
theorem IK {k : IntKind} {a b : Int} : ab P (.mx (.c (.int k a)) (.c (.int k b))) h KH = KH (.int k (if a < b then b else a)) h := by simp [ab, vcOp, Arg.get]
theorem SC {n : Nat} {as : List Arg} : ab P (.callv (.c (.yld n)) as) h KH = ((∃ st B, h n = .lp st B) /\ AG P n (as.map (·.get [])) h KH) := rfl
theorem ox {f : FuncId} {as : List Arg} {r : D} (hv : aD P f (as.map (·.get [])) (· = r)) (hds : ∀ d, d ∈ as.map (·.get []) -> d.vd = true /\ aw d) (hk : K r) : au P (.call f as) h K := by
 have hz : ∀ d, d ∈ as.map (·.get []) -> d.fz h = d /\ d.nm = [] /\ jD h d := fun d hd => Df (hds d hd).1
 have e : (as.map fun x => (x.get []).fz h) = as.map (·.get []) := by
  refine List.map_congr_left fun x hx => (hz _ (List.mem_map.2 ⟨x, hx, rfl⟩)).1
 refine ⟨r, by rw [e]; exact hv, fun d hd => ⟨(hds d hd).2, (hz d hd).2.2, by rw [(hz d hd).1]; exact (hds d hd).1⟩, Or.inr ?_, hk⟩
 have en : (as.flatMap fun x => (x.get []).nm) = [] := by
  rw [List.flatMap_eq_nil_iff]
  exact fun x hx => (hz _ (List.mem_map.2 ⟨x, hx, rfl⟩)).2.1
 rw [en]
 exact fun n hn => by cases hn
theorem O7 {cs : List D} {k : IntKind} {a : Int} {len size : Nat} {agg : Bool} : ab P (.sidx (.c (.agg cs)) (.c (.int k a)) len size agg) h KH = (0 < len /\ 0 <= a /\ a < len /\ vpart cs (a.toNat * size) size agg (KH · h)) := rfl
def dR := And.intro @O7 <| And.intro @bO (And.intro @SR (And.intro @Rl (And.intro @TJ (And.intro @SS (And.intro @fO (And.intro @C8 (And.intro @Rp (And.intro @ow (And.intro @mN (And.intro @SV (And.intro @Nm (And.intro @Ht (And.intro @PS (And.intro @Rm (And.intro @SU (And.intro @Gm (And.intro @aH (And.intro @O5 (And.intro @O6 (And.intro @J3 (And.intro @J2 (And.intro @O8 (And.intro @IK (@SC))))))))))))))))))))))))
end Go.Am
namespace Go.Am
open Go
variable [bS]
variable {P : Program}
theorem HL {c : Ctx} (hr : aj c) {M esz : Nat} {els els' : List D} (hM : c.h M = .arr esz els) (hl : els'.length = els.length) (hc : ∀ e, e ∈ els' -> e.cells.length = esz) (ho : nM els')
  (hv : ∀ i j d', aU els' i j = some d' -> ∃ d, aU els i j = some d /\ ∀ v, aq c d v -> aq c d' v) :
  c.le ⟨c.ρ, c.X, ah c.h M (.arr esz els'), c.hp⟩ /\ aj ⟨c.ρ, c.X, ah c.h M (.arr esz els'), c.hp⟩ := by
 have sub : ∀ k, (ah c.h M (.arr esz els') k).mine -> (c.h k).mine := by
  intro k hk
  by_cases h : k = M
  ·subst h; rw [hM]; trivial
  ·simpa [ah, h] using hk
 have hle : c.le ⟨c.ρ, c.X, ah c.h M (.arr esz els'), c.hp⟩ := by
  refine ⟨Nat.le_refl _, rfl, fun _ _ _ => rfl, fun _ cur _ _ h => ⟨cur, h, rfl⟩, fun _ r h => ⟨r, h, rfl⟩, fun _ _ => rfl, fun k => ?_, fun k g hm hρ _ => ⟨k, sub k hm, hρ⟩⟩
  by_cases h : k = M
  ·subst h; simp only [ad]; rw [hM]; exact .arrArr _ _ _ (Nat.le_of_eq hl.symm)
  ·simp only [aa _ _ h]; exact Trans.refl _
 refine ⟨hle, fun k => ?_, fun k1 k2 g m1 m2 r1 r2 => hr.inj k1 k2 g (sub k1 m1) (sub k2 m2) r1 r2, fun k g hm hρ => hr.apart k g (sub k hm) hρ, hr.xlt, ?_, hr.glob.mono hle, hr.lo⟩
 ·by_cases h : k = M
  ·subst h
   simp only [ad]
   have hs := hr.slot k
   rw [hM] at hs
   obtain ⟨h1, h2, h3, h4⟩ := hs
   refine ⟨h1, hc, ho, ?_⟩
   rcases h4 with ⟨q, q'⟩ | ⟨g, cur, ty, q1, q2, q3, q4⟩
   ·refine Or.inl ⟨q, ?_⟩
    subst q'
    exact List.length_eq_zero_iff.1 hl
   ·refine Or.inr ⟨g, cur, ty, q1, q2, by rw [hl]; exact q3, fun i j d' hd' => ?_⟩
    obtain ⟨d, hd, hrel⟩ := hv i j d' hd'
    exact (hrel _ (q4 i j d hd)).mono hle
  ·simp only [aa _ _ h]
   exact gr hle (hr.slot k) (fun _ _ => rfl) (fun _ _ _ => rfl)
 ·obtain ⟨N, hN⟩ := hr.fin
  refine ⟨N + M + 1, fun k hk => ?_⟩
  simp only [aa _ _ (show k ≠ M by omega)]
  exact hN k (by omega)
theorem Gj {h : Heap} {n m : Nat} (hne : m ≠ n) : h.freeze n m = h m := by
 unfold Heap.freeze
 cases h n <;> simp only <;> try rfl
 exact aa _ _ hne
theorem fH {m : Nat} : ∀ (ns : List Nat) {h : Heap}, m ∉ ns -> h.freezeAll ns m = h m
 | [], _, _ => rfl
 | n :: r, h, hm => by
  simp only [List.mem_cons, not_or] at hm
  show (h.freeze n).freezeAll r m = h m
  rw [fH r hm.2, Gj hm.1]
theorem Gi {h : Heap} {m : Nat} (n : Nat) : (h.freeze m n).row = (h n).row := by
 unfold Heap.freeze
 cases hm : h m <;> simp only <;> try rfl
 by_cases he : n = m
 ·subst he; rw [ad, hm]; rfl
 ·rw [aa _ _ he]
theorem jN : ∀ (ns : List Nat) {h : Heap} (n : Nat), (h.freezeAll ns n).row = (h n).row
 | [], _, _ => rfl
 | m :: r, h, n => by
  show ((h.freeze m).freezeAll r n).row = _
  rw [jN r, Gi]
theorem KB {h h' : Heap} (hr : ∀ n, (h' n).row = (h n).row) (d : D) : d.fzc h' = d.fzc h := by
 cases d <;> simp [D.fzc, hr]
theorem Hi {h h' : Heap} (hr : ∀ n, (h' n).row = (h n).row) (d : D) : d.fz h' = d.fz h := by
 have e : D.fzc h' = D.fzc h := funext (KB hr)
 cases d <;> simp only [D.fz, e]
theorem Ec {h h' : Heap} (hr : ∀ n, (h' n).row = (h n).row) {d : D} (hd : jD h d) : jD h' d := by
 intro x hx
 have := hd x hx
 cases x <;> simp only [lG, hr] at this ⊢
 exact this
structure Deep (h : Heap) (M : Nat) (els : List D) : Prop where
 out : M ∉ els.flatMap D.nm
 el : ∀ e ∈ els, e.cells = [e] /\ jD h e /\ (e.fz h).vone = true /\ e.one = true
def II (h : Heap) (M : Nat) (els : List D) : Heap := ah (h.freezeAll (els.flatMap D.nm)) M (.arr 1 (els.map (D.fz h)))
theorem MJ {h : Heap} {M : Nat} {els : List D} : II h M els M = .arr 1 (els.map (D.fz h)) := ad _ _ _
theorem nP {d : D} (h : d.vone = true) : d.cells = [d] := by cases d <;> first | rfl | cases h
theorem IH {c : Ctx} (hr : aj c) {M : Nat} {els : List D} (hM : c.h M = .arr 1 els) (hd : Deep c.h M els) :
  c.le ⟨c.ρ, c.X, II c.h M els, c.hp⟩ /\ aj ⟨c.ρ, c.X, II c.h M els, c.hp⟩ := by
 obtain ⟨g1, g2⟩ := cQ hr (els.flatMap D.nm)
 have hM1 : (c.h.freezeAll (els.flatMap D.nm)) M = .arr 1 els := by rw [fH _ hd.out, hM]
 have key := HL (c := ⟨c.ρ, c.X, c.h.freezeAll (els.flatMap D.nm), c.hp⟩) g2 (els' := els.map (D.fz c.h)) hM1 (by simp) (fun e he => ?_) (fun i j d h => ?_) (fun i j d' h => ?_)
 ·exact ⟨g1.trans key.1, key.2⟩
 ·simp only [List.mem_map] at he
  obtain ⟨x, hx, rfl⟩ := he
  rw [nP (hd.el x hx).2.2.1]; rfl
 ·simp only [aU, List.getElem?_map, Option.bind_eq_some_iff, Option.map_eq_some_iff] at h
  obtain ⟨e, ⟨x, hx, rfl⟩, h2⟩ := h
  have hv := (hd.el x (List.mem_of_getElem? hx)).2.2.1
  rw [nP hv] at h2
  have : d = x.fz c.h := by
   cases j with
   | zero => simpa using h2.symm
   | succ j => simp at h2
  subst this
  exact D.du hv
 ·simp only [aU, List.getElem?_map, Option.bind_eq_some_iff, Option.map_eq_some_iff] at h
  obtain ⟨e, ⟨x, hx, rfl⟩, h2⟩ := h
  obtain ⟨q1, q2, q3, q4⟩ := hd.el x (List.mem_of_getElem? hx)
  rw [nP q3] at h2
  have hj : j = 0 /\ d' = x.fz c.h := by
   cases j with
   | zero => exact ⟨rfl, by simpa using h2.symm⟩
   | succ j => simp at h2
  obtain ⟨rfl, rfl⟩ := hj
  refine ⟨x, by simp [aU, hx, q1], fun v hv => ?_⟩
  have h1 : aw x := fun y hy => by rw [q1] at hy; simp at hy; subst hy; exact q4
  have hre : ∀ n, ((c.h.freezeAll (els.flatMap D.nm)) n).row = (c.h n).row := fun n => jN _ n
  have := (vE (Ctx.le.refl _) g2 hv h1 (Ec hre q2) (fun n esz es hn hrow => ?_)).1
  ·rw [Hi hre] at this; exact this
  ·rw [hre n] at hrow
   exact dj _ hrow (List.mem_flatMap.2 ⟨x, List.mem_of_getElem? hx, hn⟩)
theorem H3 {f : FuncId} {ds : List D} {K : D -> Prop} (ha : ag P f ds aJ (fun r h' => ∃ M els, r = .ms M 0 els.length /\ h' M = .arr 1 els /\ Deep h' M els /\ K (.sl (els.map (D.fz h'))))) : aD P f ds K := by
 intro c w vals hh hp hr hs hrel
 have gH : c.h = aJ := funext hh
 have := ha c w vals gH hp hr hs hrel
 refine this.mono ?_
 rintro e w' ⟨v, r, ρ, h', rfl, h1, h2, h3, h4, M, els, rfl, hM, hd, hk⟩
 obtain ⟨k1, k2⟩ := IH h2 hM hd
 have hM2 : (II h' M els) M = .arr 1 (els.map (D.fz h')) := MJ
 have hrow2 : ((II h' M els) M).row = some (1, els.map (D.fz h')) := by rw [hM2]; rfl
 obtain ⟨g1, g2⟩ := cQ k2 [M]
 have e0 : (D.ms M 0 els.length).fz (II h' M els) = .sl (els.map (D.fz h')) := by
  simp only [D.fz, D.fzc, hrow2, List.drop_zero]
  rw [List.take_of_length_le (by simp)]
 have hz := (vE g1 g2 (h4.mono k1) (fun y hy => by simp [D.cells] at hy; subst hy; rfl) (fun y hy => by
   simp only [D.cells, List.mem_singleton] at hy
   subst hy
   refine ⟨1, _, hrow2, by simp, fun x hx z hz => ?_⟩
   have hx' : x ∈ els.map (D.fz h') := List.mem_of_mem_drop (List.mem_of_mem_take hx)
   simp only [List.mem_map] at hx'
   obtain ⟨a, ha, rfl⟩ := hx'
   have hv := (hd.el a ha).2.2.1
   rw [nP hv] at hz; simp at hz; subst hz; exact hv) (fun n esz es hn hrow => dj _ hrow (by simpa [D.nm, D.jo] using hn))).1
 rw [e0] at hz
 have hown : ∀ g, ¬ (⟨ρ, c.X, (II h' M els).freezeAll [M], w'.heap⟩ : Ctx).own g -> ¬ (⟨c.ρ, c.X, c.h, w'.heap⟩ : Ctx).own g := by
  rintro g hn (hX | ⟨n, hm, _⟩)
  ·exact hn (Or.inl hX)
  ·simp only [hh n] at hm; cases hm
 refine ⟨v, _, rfl, ?_, h3, aq.wE (c := ⟨ρ, c.X, (II h' M els).freezeAll [M], w'.heap⟩) (c' := ⟨c.ρ, c.X, c.h, w'.heap⟩) rfl hown hz rfl, rfl, hk⟩
 refine ⟨h1.size, rfl, h1.aB, h1.shape, h1.loop, fun _ _ => rfl, fun _ => Trans.refl _, fun n g hm hρ _ => ⟨n, hm, hρ⟩⟩
end Go.Am
namespace Go.Am
open Go
section aB
variable {H : Type} {enc : TypeId × Value -> H} {P : Program} {w w' : World} {base : Nat} {spare : Nat -> Bool} {held : Bool}
theorem ja {α β : Type} {f g : α -> Option β} (hk : ∀ a b, f a = some b -> g a = some b) : ∀ {l : List α} {r : List β}, l.mapM f = some r -> l.mapM g = some r
 | [], r, h => by simpa using h
 | a :: l, r, h => by
  simp only [List.mapM_cons, Option.bind_eq_bind, Option.bind_eq_some_iff, Option.pure_def, Option.some.injEq] at h ⊢
  obtain ⟨b, hb, r', hr', rfl⟩ := h
  exact ⟨b, hk a b hb, r', ja hk hr', rfl⟩
theorem KO (hk : ∀ b, b < w.heap.size -> w'.heap[b]? = w.heap[b]?) {a : Addr} {v : Value} (h : w.cell? a = some v) : w'.cell? a = some v := by
 unfold World.cell? at h ⊢
 have hlt : a.block < w.heap.size := by
  rcases Nat.lt_or_ge a.block w.heap.size with h1 | h1
  ·exact h1
  ·simp [Array.getElem?_eq_none h1] at h
 rw [hk _ hlt]; exact h
theorem IV (hk : ∀ b, b < w.heap.size -> w'.heap[b]? = w.heap[b]?) {a : Addr} {n : Nat} {cs : List Value} (h : w.cells? base a n = some cs) : w'.cells? base a n = some cs := by
 unfold World.cells? at h ⊢
 split at h
 ·rename_i hb
  rw [if_pos hb]
  exact ja (fun i v hv => KO hk hv) h
 ·cases h
theorem J9 (hk : ∀ b, b < w.heap.size -> w'.heap[b]? = w.heap[b]?) : ∀ (n : Nat) (t : TypeId) (cs : List Value) (x : DataW H × List MemPlace), DataW.trod enc P w base spare held n t cs = some x -> DataW.trod enc P w' base spare held n t cs = some x := by
 intro n
 induction n with
 | zero => intro t cs x h; simp [DataW.trod] at h
 | succ n ih =>
  intro t cs x h
  have el : ∀ (a : Addr) (k : Nat) (e : TypeId) y, (w.cells? base a k).bind (DataW.trod enc P w base spare held n e) = some y -> (w'.cells? base a k).bind (DataW.trod enc P w' base spare held n e) = some y := by
   intro a k e y hy
   rw [Option.bind_eq_some_iff] at hy ⊢
   obtain ⟨cs, h1, h2⟩ := hy
   exact ⟨cs, IV hk h1, ih _ _ _ h2⟩
  unfold DataW.trod at h ⊢
  generalize P.underlying t = ut at h ⊢
  split at h
  case h_6 e a =>
   rw [Option.map_eq_some_iff] at h ⊢
   obtain ⟨y, hy, rfl⟩ := h
   exact ⟨y, el _ _ _ _ hy, rfl⟩
  case h_8 e a len cap =>
   simp only at h ⊢
   split at h
   ·rename_i hc
    rw [if_pos hc]
    rw [Option.bind_eq_some_iff] at h ⊢
    obtain ⟨elems, h1, h2⟩ := h
    refine ⟨elems, ja (fun i y hy => el _ _ _ _ hy) h1, ?_⟩
    rw [Option.map_eq_some_iff] at h2 ⊢
    obtain ⟨rest, h3, rfl⟩ := h2
    refine ⟨rest, ?_, rfl⟩
    split at h3
    ·rename_i hs; rw [if_pos hs]; exact ja (fun i y hy => el _ _ _ _ hy) h3
    ·rename_i hs; rw [if_neg hs]; exact h3
   ·cases h
  case h_9 fs =>
   split at h
   ·rename_i hc
    rw [if_pos hc]
    rw [Option.map_eq_some_iff] at h ⊢
    obtain ⟨y, hy, rfl⟩ := h
    exact ⟨y, ja (fun i y hy => ih _ _ _ hy) hy, rfl⟩
   ·cases h
  case h_10 m e =>
   split at h
   ·rename_i hc
    rw [if_pos hc]
    rw [Option.map_eq_some_iff] at h ⊢
    obtain ⟨y, hy, rfl⟩ := h
    exact ⟨y, ja (fun i y hy => ih _ _ _ hy) hy, rfl⟩
   ·cases h
  case h_12 u v =>
   split at h
   ·exact h
   ·rw [Option.map_eq_some_iff] at h ⊢
    obtain ⟨y, hy, rfl⟩ := h
    exact ⟨y, ih _ _ _ hy, rfl⟩
   ·cases h
  case h_14 k e b =>
   cases hb : w.heap[b]? with
   | none => simp [hb] at h
   | some o =>
    have hlt := (Array.getElem?_eq_some_iff.1 hb).1
    rw [hk b hlt]
    rw [hb] at h ⊢
    cases o <;> simp only at h ⊢ <;> try (cases h; done)
    split at h
    ·rename_i hc
     rw [if_pos hc]
     rw [Option.bind_eq_some_iff] at h ⊢
     obtain ⟨es, h1, h2⟩ := h
     refine ⟨es, ja (fun i y hy => ?_) h1, h2⟩
     rw [Option.bind_eq_some_iff] at hy ⊢
     obtain ⟨key, h3, h4⟩ := hy
     refine ⟨key, h3, ?_⟩
     split at h4
     ·rename_i hf
      rw [if_pos hf]
      rw [Option.map_eq_some_iff] at h4 ⊢
      obtain ⟨z, hz, rfl⟩ := h4
      exact ⟨z, ih _ _ _ hz, rfl⟩
     ·cases h4
    ·cases h
  all_goals first | exact h | (cases h; done)
theorem wh (hk : ∀ b, b < w.heap.size -> w'.heap[b]? = w.heap[b]?) : ∀ {ts : List TypeId} {vs : List Value} {ds : List (DataW H)} {ps : List MemPlace}, DataW.TrodAll enc P w base spare held ts vs ds ps -> DataW.TrodAll enc P w' base spare held ts vs ds ps
 | [], [], [], _, h => h
 | _ :: _, _ :: _, _ :: _, _, ⟨p, q, ⟨n, h1⟩, h2, e⟩ => ⟨p, q, ⟨n, J9 hk n _ _ _ h1⟩, wh hk h2, e⟩
end aB
end Go.Am
namespace Go.Am
open Go
variable [bS]
variable {H : Type} {enc : TypeId × Value -> H} {P : Program}
def mkElem (P : Program) (e : TypeId) (cs : List D) : D :=
 match P.underlying e with
 | some (.struct _) => .agg cs
 | some (.array _ _) => .agg cs
 | _ => cs.headD .undef
def HasTy (P : Program) : Nat -> TypeId -> List D -> Prop
 | 0, _, _ => False
 | n + 1, t, ds => match P.underlying t with
  | some .bool => ∃ b, ds = [.bool b]
  | some (.int k) => ∃ i, ds = [.int k i] /\ (Lit.int k i).wf = true
  | some .string => ∃ s : ByteArray, ds = [.str s] /\ s.size <= maxLen
  | some (.slice e) => ∃ xs : List (List D), ds = [.sl (xs.map (mkElem P e))] /\ xs.length <= maxLen /\ ∀ x ∈ xs, HasTy P n e x
  | some (.struct fs) => ds.length = P.cellsOf t /\ ∀ f ∈ fs.toList, HasTy P n f.type ((ds.drop f.offset).take (P.cellsOf f.type))
  | some (.array m e) => ds.length = P.cellsOf t /\ ∀ i, i < m -> HasTy P n e ((ds.drop (i * P.cellsOf e)).take (P.cellsOf e))
  | _ => False
def contig (P : Program) (total : Nat) : List (TypeId × Nat) -> Nat -> Bool
 | [], o => o == total
 | f :: r, o => f.2 == o && contig P total r (o + P.cellsOf f.1)
def plainT (P : Program) : Nat -> TypeId -> Bool
 | 0, _ => false
 | n + 1, t => match P.underlying t with
  | some .bool => P.cellsOf t == 1
  | some (.int _) => P.cellsOf t == 1
  | some .string => P.cellsOf t == 1
  | some (.slice e) => P.cellsOf t == 1 && decide (0 < P.cellsOf e) && plainT P n e
  | some (.struct fs) => fs.toList.all (fun f => plainT P n f.type) && contig P (P.cellsOf t) (fs.toList.map fun f => (f.type, f.offset)) 0
  | some (.array m e) => plainT P n e && contig P (P.cellsOf t) ((List.range m).map fun i => (e, i * P.cellsOf e)) 0
  | _ => false
theorem ot {cs : List D} (h1 : cs.length = 1) (hv : ∀ (i : Nat) (x : D), cs[i]? = some x -> x.vone = true) : (cs.headD .undef).cells = cs := by
 cases cs with
 | nil => simp at h1
 | cons d r =>
  have : r = [] := List.eq_nil_of_length_eq_zero (by simpa using h1)
  subst this
  have := hv 0 d rfl
  cases d <;> simp_all [D.vone, D.cells]
theorem F6 {n : Nat} {e : TypeId} {cs : List D} (hp : plainT P n e = true) (hl : cs.length = P.cellsOf e) (hv : ∀ (i : Nat) (x : D), cs[i]? = some x -> x.vone = true) : (mkElem P e cs).cells = cs := by
 unfold mkElem
 split
 ·rfl
 ·rfl
 ·cases n with
  | zero => simp [plainT] at hp
  | succ n =>
   unfold plainT at hp
   split at hp
   ·exact ot (by rw [hl]; simpa using hp) hv
   ·exact ot (by rw [hl]; simpa using hp) hv
   ·exact ot (by rw [hl]; simpa using hp) hv
   ·simp only [Bool.and_eq_true] at hp
    exact ot (by rw [hl]; simpa using hp.1.1) hv
   ·rename_i h1 h1' _ fs h2; first | exact absurd h2 (h1 _) | exact absurd h2 (h1' _)
   ·rename_i h1 h1' _ m e' h2; first | exact absurd h2 (h1' _ _) | exact absurd h2 (h1 _ _)
   ·cases hp
theorem parts {c : Ctx} {m : Nat} {total : Nat} (cs : List Value) (hcs : cs.length = total) : ∀ (l : List (TypeId × Nat)) (o : Nat), contig P total l o = true ->
  (∀ f ∈ l, ∃ ds : List D, HasTy P m f.1 ds /\ ds.length = P.cellsOf f.1 /\ ∀ (i : Nat) (d : D), ds[i]? = some d -> d.vone = true /\ aq c d (((cs.drop f.2).take (P.cellsOf f.1)).getD i Go.undef)) ->
  ∃ ds : List D, ds.length = cs.length - o /\ (∀ f ∈ l, HasTy P m f.1 ((ds.drop (f.2 - o)).take (P.cellsOf f.1)) /\ o <= f.2) /\ ∀ (i : Nat) (d : D), ds[i]? = some d -> d.vone = true /\ aq c d (cs.getD (o + i) Go.undef)
 | [], o, hc, _ => by
  simp only [contig, beq_iff_eq] at hc
  exact ⟨[], by simp; omega, by simp, by simp⟩
 | f :: r, o, hc, hf => by
  simp only [contig, Bool.and_eq_true, beq_iff_eq] at hc
  obtain ⟨hfo, hcr⟩ := hc
  obtain ⟨d1, a1, a2, a3⟩ := hf f (by simp)
  obtain ⟨d2, b1, b2, b3⟩ := parts cs hcs r (o + P.cellsOf f.1) hcr (fun g hg => hf g (by simp [hg]))
  have hle : o + P.cellsOf f.1 <= total := by
   have : ∀ (l : List (TypeId × Nat)) (o : Nat), contig P total l o = true -> o <= total := by
    intro l
    induction l with
    | nil => intro o h; simp [contig] at h; omega
    | cons g s ih => intro o h; simp only [contig, Bool.and_eq_true, beq_iff_eq] at h; have := ih _ h.2; omega
   exact this _ _ hcr
  refine ⟨d1 ++ d2, by simp; omega, fun g hg => ?_, fun i d hd => ?_⟩
  ·rcases List.mem_cons.1 hg with rfl | hg
   ·refine ⟨?_, by omega⟩
    rw [hfo, Nat.sub_self, List.drop_zero, List.take_append_of_le_length (by omega), List.take_of_length_le (by omega)]
    exact a1
   ·obtain ⟨k1, k2⟩ := b2 g hg
    refine ⟨?_, by omega⟩
    rw [show g.2 - o = d1.length + (g.2 - (o + P.cellsOf f.1)) by omega, List.drop_append, List.drop_eq_nil_of_le (by omega), List.nil_append, Nat.add_sub_cancel_left]
    exact k1
  ·by_cases hi : i < d1.length
   ·rw [List.getElem?_append_left hi] at hd
    obtain ⟨k1, k2⟩ := a3 i d hd
    refine ⟨k1, ?_⟩
    have e1 : ((cs.drop f.2).take (P.cellsOf f.1)).getD i Go.undef = cs.getD (o + i) Go.undef := by
     simp only [List.getD, List.getElem?_take, List.getElem?_drop]
     rw [if_pos (by omega), hfo]
    rw [e1] at k2; exact k2
   ·rw [List.getElem?_append_right (by omega)] at hd
    obtain ⟨k1, k2⟩ := b3 _ d hd
    refine ⟨k1, ?_⟩
    rw [show o + P.cellsOf f.1 + (i - d1.length) = o + i by omega] at k2
    exact k2
theorem Lu {W : World} {sp : Nat -> Bool} {c : Ctx} (hp : c.hp = W.heap) (hown : ∀ g, ¬ c.own g) : ∀ (m : Nat) (t : TypeId), plainT P m t = true -> ∀ (n : Nat) (cs : List Value) (x : DataW H × List MemPlace), DataW.trod enc P W 0 sp true n t cs = some x ->
  cs.length = P.cellsOf t /\ ∃ ds : List D, HasTy P m t ds /\ ds.length = cs.length /\ ∀ (i : Nat) (d : D), ds[i]? = some d -> d.vone = true /\ aq c d (cs.getD i Go.undef) := by
 intro m
 induction m with
 | zero => intro t h; simp [plainT] at h
 | succ m ih =>
  intro t hpt n cs x h
  unfold plainT at hpt
  have one : ∀ (d : D) (v : Value), cs = [v] -> d.vone = true -> aq c d v -> ([d] : List D).length = cs.length /\ ∀ (i : Nat) (d' : D), [d][i]? = some d' -> d'.vone = true /\ aq c d' (cs.getD i Go.undef) := by
   rintro d v rfl h1 h2
   refine ⟨rfl, fun i d' hd => ?_⟩
   cases i with
   | zero => simp at hd; subst hd; exact ⟨h1, by simpa using h2⟩
   | succ i => simp at hd
  split at hpt
  ·
   rename_i hu
   cases n with
   | zero => simp [DataW.trod] at h
   | succ n =>
    unfold DataW.trod at h
    rw [hu] at h
    split at h <;> simp_all
    rename_i b
    exact ⟨[.bool b], by unfold HasTy; rw [hu]; exact ⟨b, rfl⟩, by simp, fun i d hd => by
     cases i with
     | zero => simp at hd; subst hd; exact ⟨rfl, by simpa using aq.bool (c := c) b⟩
     | succ i => simp at hd⟩
  ·rename_i k hu
   cases n with
   | zero => simp [DataW.trod] at h
   | succ n =>
    unfold DataW.trod at h
    rw [hu] at h
    split at h <;> simp_all
    rename_i kq kq' i' hq
    have hkk := h.1.1
    subst hkk
    exact ⟨[.int kq' i'], by unfold HasTy; rw [hu]; exact ⟨i', rfl, h.1.2⟩, by simp, fun i d hd => by
     cases i with
     | zero => simp at hd; subst hd; exact ⟨rfl, by simpa using aq.int (c := c) kq' i'⟩
     | succ i => simp at hd⟩
  ·rename_i hu
   cases n with
   | zero => simp [DataW.trod] at h
   | succ n =>
    unfold DataW.trod at h
    rw [hu] at h
    split at h <;> simp_all
    rename_i s
    exact ⟨[.str s], by unfold HasTy; rw [hu]; exact ⟨s, rfl, h.1⟩, by simp, fun i d hd => by
     cases i with
     | zero => simp at hd; subst hd; exact ⟨rfl, by simpa using aq.str (c := c) s⟩
     | succ i => simp at hd⟩
  ·
   rename_i e hu
   simp only [Bool.and_eq_true, beq_iff_eq, decide_eq_true_eq] at hpt
   obtain ⟨⟨hc1, hpos⟩, hpe⟩ := hpt
   rcases DataW.trod_slice hu h with ⟨rfl, _⟩ | ⟨a, len, cap, elems, rest, n', rfl, rfl, _, hb, hl, hm, hlen, hel, _, _⟩
   ·refine ⟨by rw [hc1]; rfl, [.sl []], ?_, one (.sl []) _ rfl rfl (.slE none 0 (by simp [maxLen]))⟩
    unfold HasTy; rw [hu]
    exact ⟨[], rfl, by simp [maxLen], by simp⟩
   ·
    have each : ∀ i, i < len -> ∃ (vs : List Value) (ds : List D), W.cells? 0 (a.add (i * P.cellsOf e)) (P.cellsOf e) = some vs /\ HasTy P m e ds /\ ds.length = P.cellsOf e /\ vs.length = P.cellsOf e /\ ∀ (j : Nat) (d : D), ds[j]? = some d -> d.vone = true /\ aq c d (vs.getD j Go.undef) := by
     intro i hi
     have h1 := hel i hi
     have h2 : elems[i]? = some (elems[i]'(by omega)) := by simp [show i < elems.length by omega]
     rw [h2, Option.bind_eq_some_iff] at h1
     obtain ⟨vs, h3, h4⟩ := h1
     obtain ⟨k1, ds, k2, k3, k4⟩ := ih e hpe n' vs _ h4
     exact ⟨vs, ds, h3, k2, k3.trans k1, k1, k4⟩
    let vf : Nat -> List Value := fun i => if h : i < len then (each i h).choose else []
    let df : Nat -> List D := fun i => if h : i < len then (each i h).choose_spec.choose else []
    have spec : ∀ i, i < len -> W.cells? 0 (a.add (i * P.cellsOf e)) (P.cellsOf e) = some (vf i) /\ HasTy P m e (df i) /\ (df i).length = P.cellsOf e /\ (vf i).length = P.cellsOf e /\ ∀ (j : Nat) (d : D), (df i)[j]? = some d -> d.vone = true /\ aq c d ((vf i).getD j Go.undef) := by
     intro i hi
     simp only [vf, df, dif_pos hi]
     exact (each i hi).choose_spec.choose_spec
    let xs : List (List D) := (List.range len).map df
    have hxl : xs.length = len := by simp [xs]
    have hxi : ∀ i, i < len -> xs[i]? = some (df i) := by intro i hi; simp [xs, hi]
    have hcellsE : ∀ i, i < len -> (mkElem P e (df i)).cells = df i := fun i hi => F6 hpe (spec i hi).2.2.1 (fun j x hx => ((spec i hi).2.2.2.2 j x hx).1)
    refine ⟨by rw [hc1]; rfl, [.sl (xs.map (mkElem P e))], ?_, ?_⟩
    ·unfold HasTy; rw [hu]
     refine ⟨xs, rfl, by rw [hxl]; omega, fun x hx => ?_⟩
     obtain ⟨i, hi, rfl⟩ := List.mem_map.1 hx
     exact (spec i (by simpa using hi)).2.1
    ·have hl0 : len = (xs.map (mkElem P e)).length := by simp [hxl]
     refine one _ _ rfl rfl ?_
     by_cases h0 : len = 0
     ·subst h0
      have : xs = [] := List.eq_nil_of_length_eq_zero hxl
      rw [this]
      exact .slE _ cap hm
     ·have hz := (World.cells?_some (spec 0 (by omega)).1).2.2 0 (by omega)
      have hcell0 : ∃ v, W.cell? a = some v := by
       have e0 : (a.add (0 * P.cellsOf e)).add 0 = a := by simp [Addr.add]
       rw [e0] at hz
       have : 0 < (vf 0).length := by rw [(spec 0 (by omega)).2.2.2.1]; exact hpos
       exact ⟨(vf 0)[0], by rw [hz]; simp [this]⟩
      obtain ⟨v0, hv0⟩ := hcell0
      have hspot : a = ⟨a.block, a.off, none⟩ := by
       unfold World.cell? at hv0
       split at hv0
       ·split at hv0
        ·cases hv0
        ·rename_i hs
         obtain ⟨b, o, s⟩ := a
         cases s with
         | none => rfl
         | some s => simp at hs
       ·cases hv0
      have hci : ∀ i j d, aU (xs.map (mkElem P e)) i j = some d -> i < len /\ (df i)[j]? = some d := by
       intro i j d hd
       unfold aU at hd
       rw [List.getElem?_map] at hd
       by_cases hi : i < len
       ·rw [hxi i hi] at hd
        simp only [Option.map_some, Option.bind_some] at hd
        rw [hcellsE i hi] at hd
        exact ⟨hi, hd⟩
       ·have : xs[i]? = none := List.getElem?_eq_none (by omega)
        rw [this] at hd; simp at hd
      have := aq.sl (c := c) (xs.map (mkElem P e)) a.block a.off cap (P.cellsOf e) (fun i j => (vf i).getD j Go.undef) (by intro he; rw [he] at hl0; simp at hl0; omega) (by rw [<- hl0]; exact hl) hm hpos
       (fun x hx => by
        obtain ⟨y, hy, rfl⟩ := List.mem_map.1 hx
        obtain ⟨i, hi, rfl⟩ := List.mem_map.1 hy
        rw [hcellsE i (by simpa using hi)]
        exact (spec i (by simpa using hi)).2.2.1)
       (fun i j d hd => by
        obtain ⟨hi, hj⟩ := hci i j d hd
        exact ((spec i hi).2.2.2.2 j d hj).1)
       (fun i j d hd => by
        obtain ⟨hi, hj⟩ := hci i j d hd
        have hjl := (List.getElem?_eq_some_iff.1 hj).1
        rw [(spec i hi).2.2.1] at hjl
        have hz := (World.cells?_some (spec i hi).1).2.2 j hjl
        have e1 : (a.add (i * P.cellsOf e)).add j = ⟨a.block, a.off + (i * P.cellsOf e + j), none⟩ := by
         have hadd : ∀ (b o x : Nat), ((⟨b, o, none⟩ : Addr).add x).add j = ⟨b, o + (x + j), none⟩ := by
          intro b o x
          rw [Addr.add_lit, Addr.add_lit, Nat.add_assoc]
         have := hadd a.block a.off (i * P.cellsOf e)
         rw [<- hspot] at this
         exact this
        rw [e1, qY] at hz
        rw [hp, hz]
        have hjv : j < (vf i).length := by rw [(spec i hi).2.2.2.1]; exact hjl
        simp [List.getD, hjv])
       (hown _) (fun i j d hd => by
        obtain ⟨hi, hj⟩ := hci i j d hd
        exact ((spec i hi).2.2.2.2 j d hj).2)
      rw [<- hl0] at this
      rw [hspot]
      exact this
  ·
   rename_i fs hu
   simp only [Bool.and_eq_true, List.all_eq_true] at hpt
   obtain ⟨hpf, hcov⟩ := hpt
   obtain ⟨xs, n', rfl, _, hcl, hxl, hf⟩ := DataW.trod_struct hu h
   obtain ⟨ds, q1, q2, q3⟩ := parts (c := c) (m := m) cs (by rw [hcl]) _ 0 hcov (fun f hfm => by
    simp only [List.mem_map] at hfm
    obtain ⟨f', hf', rfl⟩ := hfm
    obtain ⟨i, hi⟩ := List.getElem?_of_mem hf'
    have h1 := hf i f' (by simpa using hi)
    have hix : i < xs.length := by
     have := (List.getElem?_eq_some_iff.1 hi).1
     rw [hxl]; simpa using this
    have h2 : xs[i]? = some xs[i] := by simp [hix]
    rw [h2] at h1
    obtain ⟨k1, ds, k2, k3, k4⟩ := ih f'.type (hpf f' hf') n' _ _ h1
    exact ⟨ds, k2, k3.trans k1, k4⟩)
   refine ⟨hcl, ds, ?_, by simpa using q1, fun i d hd => by simpa using q3 i d hd⟩
   unfold HasTy; rw [hu]
   exact ⟨by rw [q1, hcl]; rfl, fun f hf => by simpa using (q2 (f.type, f.offset) (List.mem_map.2 ⟨f, hf, rfl⟩)).1⟩
  ·
   rename_i k e hu
   simp only [Bool.and_eq_true] at hpt
   obtain ⟨hpe, hcov⟩ := hpt
   obtain ⟨xs, n', rfl, _, hcl, hxl, hf⟩ := DataW.trod_array hu h
   obtain ⟨ds, q1, q2, q3⟩ := parts (c := c) (m := m) cs (by rw [hcl]) _ 0 hcov (fun f hfm => by
    simp only [List.mem_map, List.mem_range] at hfm
    obtain ⟨i, hi, rfl⟩ := hfm
    have h1 := hf i hi
    have h2 : xs[i]? = some (xs[i]'(by omega)) := by simp [show i < xs.length by omega]
    rw [h2] at h1
    obtain ⟨k1, ds, k2, k3, k4⟩ := ih e hpe n' _ _ h1
    exact ⟨ds, k2, k3.trans k1, k4⟩)
   refine ⟨hcl, ds, ?_, by simpa using q1, fun i d hd => by simpa using q3 i d hd⟩
   unfold HasTy; rw [hu]
   exact ⟨by rw [q1, hcl]; rfl, fun i hi => by simpa using (q2 (e, i * P.cellsOf e) (List.mem_map.2 ⟨i, by simpa using hi, rfl⟩)).1⟩
  ·cases hpt
end Go.Am
namespace Go.Am
open Go
variable [bS]
variable {H : Type} {enc : TypeId × Value -> H} {P : Program}
theorem QR {W : World} {r : Reach} {b : Nat} {t : TypeId} {cs : Array Value} (h : Cell.okWide P W r b t (.agg cs)) : False := by
 unfold Cell.okWide at h
 split at h <;> first
  | (rename_i h2; cases h2; done)
  | (rename_i h2 _; cases h2; done)
  | skip
 unfold Cell.ok at h
 split at h <;> first
  | exact h
  | (rename_i h2; cases h2; done)
theorem Pt {W : World} {sp : Nat -> Bool} {c : Ctx} (hp : c.hp = W.heap) (hown : ∀ g, ¬ c.own g) {m : Nat} {t : TypeId} (hpt : plainT P m t = true) {base : Nat} {v : Value} {d : DataW H} {ps : List MemPlace}
    (hval : Value.okWide P W .any base t v) (hd : DataW.Trod enc P W 0 sp true t v d ps) : ∃ ds : List D, HasTy P m t ds /\ aq c (mkElem P t ds) v := by
  obtain ⟨n, hn⟩ := hd
  obtain ⟨hl, ds, h1, h2, h3⟩ := Lu hp hown m t hpt n _ _ hn
  refine ⟨ds, h1, ?_⟩
  have one : (∀ cs, v ≠ .agg cs) -> ds.length = 1 -> aq c (ds.headD .undef) v := by
    intro hna h1'
    have hc : v.cells = #[v] := by cases v <;> first | rfl | exact absurd rfl (hna _)
    obtain ⟨x, hx⟩ : ∃ x, ds[0]? = some x := ⟨ds[0]'(by omega), by simp [show 0 < ds.length by omega]⟩
    have := (h3 0 x hx).2
    rw [hc] at this
    have e : ds.headD .undef = x := by
      cases ds with
      | nil => simp at hx
      | cons a r => simpa using hx
    rw [e]; simpa using this
  have agg : ∀ cs, v = .agg cs -> aq c (.agg ds) v := by
    rintro cs rfl
    refine .agg ds cs (by simpa [Value.cells] using h2.symm) (fun i x hx => D.du (h3 i x hx).1) (fun i x hx => ?_)
    have := (h3 i x hx).2
    rw [<- aE]
    exact this
  unfold Value.okWide at hval
  unfold mkElem
  cases m with
  | zero => simp [plainT] at hpt
  | succ m =>
    unfold plainT at hpt
    cases hu : P.underlying t with
    | none => rw [hu] at hpt; simp at hpt
    | some u =>
      rw [hu] at hval hpt
      cases u <;> simp only at hval hpt ⊢ <;> first
        | (obtain ⟨cs, rfl, _⟩ := hval; exact agg cs rfl)
        | (refine one (fun cs hc => ?_) ?_
           · subst hc; exact QR hval
           · rw [h2, hl]; simp only [Bool.and_eq_true, beq_iff_eq] at hpt; first | exact hpt.1.1 | exact hpt)
        | cases hpt
def EJ (P : Program) (m : Nat) : List TypeId -> List D -> Prop
 | [], ds => ds = []
 | t :: ts, ds => ∃ cs r, ds = mkElem P t cs :: r /\ HasTy P m t cs /\ EJ P m ts r
theorem HM {W : World} {sp : Nat -> Bool} {c : Ctx} (hp : c.hp = W.heap) (hown : ∀ g, ¬ c.own g) {m base : Nat} : ∀ (ts : List TypeId) (vs : List Value) (ds : List (DataW H)) (ps : List MemPlace), ts.all (plainT P m) = true ->
  (∀ (j : Nat) t v, ts[j]? = some t -> vs[j]? = some v -> Value.okWide P W .any base t v) -> DataW.TrodAll enc P W 0 sp true ts vs ds ps -> vs.length = ts.length /\ ds.length = ts.length /\
   ∃ xs : List D, EJ P m ts xs /\ xs.length = ts.length /\ ∀ (i : Nat) (x : D), xs[i]? = some x -> aq c x (vs.getD i Go.undef)
 | [], vs, ds, ps, _, _, h => by
  obtain ⟨rfl, rfl, rfl⟩ := trodAll_nil' h
  exact ⟨rfl, rfl, [], rfl, rfl, by simp⟩
 | t :: ts, vs, ds, ps, hpt, hval, h => by
  simp only [List.all_cons, Bool.and_eq_true] at hpt
  obtain ⟨v, vs', d, ds', p, q, rfl, rfl, rfl, h1, h2⟩ := ChangeShapes.trodAll_cons h
  obtain ⟨cs, k1, k2⟩ := Pt hp hown hpt.1 (hval 0 t v rfl rfl) h1
  obtain ⟨l1, l2, xs, k3, k4, k5⟩ := HM hp hown ts vs' ds' q hpt.2 (fun j t v ht hv => hval (j + 1) t v (by simpa using ht) (by simpa using hv)) h2
  refine ⟨by simp [l1], by simp [l2], mkElem P t cs :: xs, ⟨cs, xs, rfl, k1, k3⟩, by simp [k4], fun i x hx => ?_⟩
  cases i with
  | zero => simp at hx; subst hx; simpa using k2
  | succ i => simp at hx; simpa using k5 i x hx
where
 trodAll_nil' {vs : List Value} {ds : List (DataW H)} {ps : List MemPlace} (h : DataW.TrodAll enc P W 0 sp true [] vs ds ps) : vs = [] /\ ds = [] /\ ps = [] := ChangeShapes.trodAll_nil h
theorem Kv {f : FuncId} {fn : Func} {s : ChangeSpec} {m : Nat} {tb : TypeId} (hpl : fn.params.toList.all (plainT P m) = true) (hrt : fn.resultTypes = #[tb]) (htb : P.underlying tb = some .bool)
  (hvars : s.vars = []) (hspec : ∀ ds : List (DataW H), ds.length = fn.params.size -> s.fn H (ds ++ []) = { results := [.lit (.bool true)], args := ds })
  (hl : laidOutB P = true) (hm : mapsRowed P = true) (hfull : ((List.range P.types.size).all fun t => match P.underlying t with | some (.slice e) => decide (0 < P.cellsOf e) | _ => true) = true)
  (hin : ∀ t ∈ fn.params.toList, t < P.types.size)
  (hv : ∀ xs, EJ P m fn.params.toList xs -> aD P f xs (· = .bool true))
  (W : World) (base : Nat) (args : Array Value) (ds gs : List (DataW H)) (before : List MemPlace)
  (hval : ∀ (j : Nat) t v, fn.params[j]? = some t -> args[j]? = some v -> Value.okWide P W .any base t v)
  (hW : DataW.Whole enc P fn.params.toList s.vars false W args.toList ds gs before)
  (htab : ∀ g vs, bS.tab g = some vs -> g < W.heap.size /\ ∀ (k : Nat) (v : Value), vs[k]? = some v -> cellOf W.heap g k = some v) :
  Calls P f args W fun e W' => ∃ v, e = .returned v /\ s.post enc P fn false true false false W args v W' := by
 have hW' := hW
 obtain ⟨p, q, hA, hV, rfl, hfz, hnd⟩ := hW
 rw [hvars] at hV
 obtain ⟨rfl, rfl⟩ := ChangeShapes.trodVars_none hV
 let c : Ctx := ⟨fun _ => none, ⟨fun _ => False, 0, []⟩, aJ, W.heap⟩
 have hown : ∀ g, ¬ c.own g := by
  rintro g (h | ⟨n, h, _⟩)
  ·exact h
  ·cases h
 have hr : aj c := ⟨fun n => trivial, fun n m' g h => (by cases h), fun n g h => (by cases h), fun g h => h.elim, ⟨0, fun n _ => rfl⟩, fun g vs hg => ⟨(htab g vs hg).2, hown g, (htab g vs hg).1⟩, Nat.zero_le _⟩
 obtain ⟨l1, l2, xs, h1, h2, h3⟩ := HM (c := c) rfl hown fn.params.toList args.toList ds p hpl (fun j t v ht hv => hval j t v (by simpa using ht) (by simpa using hv)) hA
 refine (hv xs h1 c W args (fun _ => rfl) rfl hr (by rw [h2, <- l1]; simp) (fun i x hx => by rw [<- aE]; exact h3 i x hx)).mono ?_
 rintro e W' ⟨v, r, rfl, hle, hws, hrel, _, rfl⟩
 have hvt : v = .bool true := by cases hrel; rfl
 subst hvt
 have hk : ∀ b, b < W.heap.size -> W'.heap[b]? = W.heap[b]? := fun b hb => hle.aB b hb (fun n hn => by cases hn)
 have hdl : ds.length = fn.params.size := by rw [l2]; simp
 have hsp := hspec ds hdl
 refine ⟨_, rfl, ds, [], p ++ [], [], p, [], hW', ?_, ?_, ?_, ?_, fun h => by cases h⟩
 ·rw [hsp, hrt]
  exact ChangeShapes.trodAll_mk1 (RowKit.shut_bool htb true)
 ·rw [hsp]
  refine wh hk ?_
  exact DataW.TrodAll.respare (kids_rows hl hm) (slices_full_of P hfull) hin hA (fun x hx => by simpa using hW'.lt x (by simpa using hx))
 ·rw [hvars, hsp]; rfl
 ·refine ⟨hws.os, hws.output, fun i hi => ?_⟩
  rw [hk i hi]
  cases hb : W.heap[i]? with
  | none => rfl
  | some o => cases o <;> simp
end Go.Am
namespace Go.Am
open Go
variable {P : Program} {m : Nat} {t e : TypeId} {k : IntKind} {ds : List D}
theorem sI (h : P.underlying t = some (.int k)) (hd : HasTy P (m + 1) t ds) : ∃ i, ds = [.int k i] /\ k.min <= i /\ i <= k.max := by
 unfold HasTy at hd
 rw [h] at hd
 obtain ⟨i, h1, h2⟩ := hd
 simp [Lit.wf] at h2
 exact ⟨i, h1, h2.1, h2.2⟩
theorem Hc (h : P.underlying t = some (.slice e)) (hd : HasTy P (m + 1) t ds) : ∃ xs : List (List D), ds = [.sl (xs.map (mkElem P e))] /\ xs.length <= maxLen /\ ∀ x ∈ xs, HasTy P m e x := by
 unfold HasTy at hd
 rw [h] at hd
 exact hd
def structL (P : Program) (t : TypeId) : Option (List (TypeId × Nat)) := match P.underlying t with
 | some (.struct fs) => some (fs.toList.map fun f => (f.type, f.offset))
 | _ => none
theorem ou {l : List (TypeId × Nat)} (h : structL P t = some l) (hd : HasTy P (m + 1) t ds) : ds.length = P.cellsOf t /\ ∀ q ∈ l, HasTy P m q.1 ((ds.drop q.2).take (P.cellsOf q.1)) := by
 unfold HasTy at hd
 unfold structL at h
 split at h
 ·rename_i fs hu
  rw [hu] at hd
  cases h
  refine ⟨hd.1, fun q hq => ?_⟩
  obtain ⟨f, hf, rfl⟩ := List.mem_map.1 hq
  exact hd.2 f hf
 ·cases h
theorem He {n : Nat} (h : P.underlying t = some (.array n e)) (hd : HasTy P (m + 1) t ds) : ds.length = P.cellsOf t /\ ∀ i, i < n -> HasTy P m e ((ds.drop (i * P.cellsOf e)).take (P.cellsOf e)) := by
 unfold HasTy at hd
 rw [h] at hd
 exact hd
theorem Fw {l : List (TypeId × Nat)} (h : structL P t = some l) (cs : List D) : mkElem P t cs = .agg cs := by
 unfold structL at h
 unfold mkElem
 split at h
 ·rename_i hu; rw [hu]
 ·cases h
theorem Mv (h : P.underlying t = some (.int k)) (d : D) : mkElem P t [d] = d := by unfold mkElem; rw [h]; rfl
theorem IJ (h : P.underlying t = some (.slice e)) (he : P.underlying e = some (.int k)) (hd : HasTy P (m + 2) t ds) : ∃ xs : List Int, ds = [.sl (xs.map (.int k))] /\ xs.length <= maxLen /\ ∀ x ∈ xs, k.min <= x /\ x <= k.max := by
 obtain ⟨xs, h1, h2, h3⟩ := Hc h hd
 have : ∃ ys : List Int, xs.map (mkElem P e) = ys.map (.int k) /\ ys.length = xs.length /\ ∀ x ∈ ys, k.min <= x /\ x <= k.max := by
  clear h1 h2
  induction xs with
  | nil => exact ⟨[], rfl, rfl, fun x hx => by cases hx⟩
  | cons x r ih =>
   obtain ⟨ys, g1, g2, g3⟩ := ih fun x hx => h3 x (List.mem_cons_of_mem _ hx)
   obtain ⟨i, hi, hi1, hi2⟩ := sI he (h3 x List.mem_cons_self)
   refine ⟨i :: ys, ?_, by simp [g2], fun y hy => ?_⟩
   ·simp only [List.map_cons, g1, hi, Mv he]
   ·rcases List.mem_cons.1 hy with rfl | hy
    ·exact ⟨hi1, hi2⟩
    ·exact g3 y hy
 obtain ⟨ys, g1, g2, g3⟩ := this
 exact ⟨ys, by rw [h1, g1], by omega, g3⟩
end Go.Am
namespace Go.Am
open Go
variable [bS]
variable {P : Program}
structure JW (h : Heap) (M esz : Nat) (els : List D) : Prop where
 out : M ∉ els.flatMap D.nm
 el : ∀ e ∈ els, aw e /\ jD h e /\ ∀ y, y ∈ (e.fz h).cells -> y.vone = true
def dB (h : Heap) (M esz : Nat) (els : List D) : Heap := ah (h.freezeAll (els.flatMap D.nm)) M (.arr esz (els.map (D.fz h)))
theorem jb {h : Heap} {M esz : Nat} {els : List D} : dB h M esz els M = .arr esz (els.map (D.fz h)) := ad _ _ _
theorem D6 {h : Heap} {M esz k : Nat} {els : List D} (h1 : k ≠ M) (h2 : k ∉ els.flatMap D.nm) : dB h M esz els k = h k := by
 unfold dB; rw [aa _ _ h1, fH _ h2]
theorem Gh {h : Heap} {e : D} : (e.fz h).cells.length = e.cells.length := by
 cases e with
 | ms n off len =>
  simp only [D.fz, D.fzc]
  cases hr : (h n).row with
  | none => rfl
  | some p => obtain ⟨a, b⟩ := p; rfl
 | agg cs => simp [D.fz, D.cells]
 | _ => rfl
theorem Pb {h : Heap} {e : D} {j : Nat} : (e.fz h).cells[j]? = (e.cells[j]?).map (D.fzc h) := by
 cases e with
 | agg cs => simp [D.fz, D.cells]
 | ms n off len =>
  simp only [D.fz, D.cells, D.fzc]
  cases j with
  | zero =>
   cases hr : (h n).row with
   | none => simp [D.fzc, hr]
   | some p => obtain ⟨a, b⟩ := p; simp [D.fzc, hr]
  | succ j =>
   cases hr : (h n).row with
   | none => simp
   | some p => obtain ⟨a, b⟩ := p; simp
 | _ => cases j <;> simp [D.fz, D.fzc, D.cells]
theorem Ha {c : Ctx} (hr : aj c) {M esz : Nat} {els : List D} (hM : c.h M = .arr esz els) (hd : JW c.h M esz els) :
  c.le ⟨c.ρ, c.X, dB c.h M esz els, c.hp⟩ /\ aj ⟨c.ρ, c.X, dB c.h M esz els, c.hp⟩ := by
 obtain ⟨g1, g2⟩ := cQ hr (els.flatMap D.nm)
 have hM1 : (c.h.freezeAll (els.flatMap D.nm)) M = .arr esz els := by rw [fH _ hd.out, hM]
 have hlen : ∀ e ∈ els, e.cells.length = esz := by
  have := hr.slot M
  rw [hM] at this
  exact this.2.1
 have key := HL (c := ⟨c.ρ, c.X, c.h.freezeAll (els.flatMap D.nm), c.hp⟩) g2 (els' := els.map (D.fz c.h)) hM1 (by simp) (fun e he => ?_) (fun i j d h => ?_) (fun i j d' h => ?_)
 ·exact ⟨g1.trans key.1, key.2⟩
 ·simp only [List.mem_map] at he
  obtain ⟨x, hx, rfl⟩ := he
  rw [Gh]; exact hlen x hx
 ·simp only [aU, List.getElem?_map, Option.bind_eq_some_iff, Option.map_eq_some_iff] at h
  obtain ⟨e, ⟨x, hx, rfl⟩, h2⟩ := h
  exact D.du ((hd.el x (List.mem_of_getElem? hx)).2.2 d (List.mem_of_getElem? h2))
 ·simp only [aU, List.getElem?_map, Option.bind_eq_some_iff, Option.map_eq_some_iff] at h
  obtain ⟨e, ⟨x, hx, rfl⟩, h2⟩ := h
  obtain ⟨q1, q2, q3⟩ := hd.el x (List.mem_of_getElem? hx)
  rw [Pb, Option.map_eq_some_iff] at h2
  obtain ⟨y, hy, rfl⟩ := h2
  refine ⟨y, by simp [aU, hx, hy], fun v hv => ?_⟩
  have hym := List.mem_of_getElem? hy
  have hre : ∀ n, ((c.h.freezeAll (els.flatMap D.nm)) n).row = (c.h n).row := fun n => jN _ n
  have hy1 := q1 y hym
  have hyc : y.cells = [y] := by cases y <;> first | rfl | cases hy1
  have hfz : y.fz c.h = y.fzc c.h := by cases y <;> first | rfl | cases hy1
  have hnm : y.nm = y.jo := by cases y <;> first | rfl | cases hy1
  have := (vE (Ctx.le.refl _) g2 hv (fun z hz => by rw [hyc] at hz; simp at hz; subst hz; exact hy1) (Ec hre (fun z hz => by rw [hyc] at hz; simp at hz; subst hz; exact q2 z hym)) (fun n esz' es hn hrow => ?_)).1
  ·rw [Hi hre, hfz] at this; exact this
  ·rw [hre n] at hrow
   refine dj _ hrow (List.mem_flatMap.2 ⟨x, List.mem_of_getElem? hx, ?_⟩)
   rw [hnm] at hn
   cases x with
   | agg cs => exact List.mem_flatMap.2 ⟨y, hym, hn⟩
   | _ => simp only [D.cells, List.mem_singleton] at hym; subst hym; exact hn
inductive FM : Heap -> Heap -> Prop where
 | refl (h : Heap) : FM h h
 | step {h h' : Heap} {M esz : Nat} {els : List D} (hM : h M = .arr esz els) (hd : JW h M esz els) (k : FM (dB h M esz els) h') : FM h h'
theorem Fz {h h' : Heap} (k : FM h h') : ∀ {c : Ctx}, c.h = h -> aj c -> c.le ⟨c.ρ, c.X, h', c.hp⟩ /\ aj ⟨c.ρ, c.X, h', c.hp⟩ := by
 induction k with
 | refl h => intro c hc hr; subst hc; exact ⟨Ctx.le.refl c, hr⟩
 | step hM hd _ ih =>
  intro c hc hr
  subst hc
  obtain ⟨g1, g2⟩ := Ha hr hM hd
  obtain ⟨g3, g4⟩ := ih (c := ⟨c.ρ, c.X, _, c.hp⟩) rfl g2
  exact ⟨g1.trans g3, g4⟩
theorem KZ {f : FuncId} {ds : List D} {h h' : Heap} {K : HK} (k : FM h h') (hc : ag P f ds h' K) : ag P f ds h K := by
 intro c w vals hh hp hr hs hrel
 obtain ⟨g1, g2⟩ := Fz k hh hr
 refine (hc ⟨c.ρ, c.X, h', c.hp⟩ w vals rfl hp g2 hs (fun i d hi => (hrel i d hi).mono g1)).mono ?_
 rintro e w' ⟨v, r, ρ, h'', r1, r2, r3, r4, r5, r6⟩
 exact ⟨v, r, ρ, h'', r1, g1.trans r2, r3, r4, r5, r6⟩
theorem Fp {f : FuncId} {ds : List D} {K : D -> Prop} (ha : ag P f ds aJ (fun r h' => ∃ h'', FM h' h'' /\ gV r /\ pG h'' r /\ (r.fzt h'').EY = true /\ K (r.fzt h''))) : aD P f ds K := by
 intro c w vals hh hp hr hs hrel
 have gH : c.h = aJ := funext hh
 have := ha c w vals gH hp hr hs hrel
 refine this.mono ?_
 rintro e w' ⟨v, r, ρ, h', rfl, h1, h2, h3, h4, h'', hi, h5, h6, h7, h8⟩
 obtain ⟨k1, k2⟩ := Fz hi (c := ⟨ρ, c.X, h', w'.heap⟩) rfl h2
 obtain ⟨g1, g2⟩ := cQ k2 r.nmt
 have hz := JI g1 g2 (h4.mono k1) h5 h6 (fun n esz els hn hrow => dj _ hrow hn)
 have hown : ∀ g, ¬ (⟨ρ, c.X, h''.freezeAll r.nmt, w'.heap⟩ : Ctx).own g -> ¬ (⟨c.ρ, c.X, c.h, w'.heap⟩ : Ctx).own g := by
  rintro g hn (hX | ⟨n, hm, _⟩)
  ·exact hn (Or.inl hX)
  ·simp only [hh n] at hm; cases hm
 refine ⟨v, r.fzt h'', rfl, ?_, h3, aq.wE (c := ⟨ρ, c.X, h''.freezeAll r.nmt, w'.heap⟩) (c' := ⟨c.ρ, c.X, c.h, w'.heap⟩) rfl hown hz h7, h7, h8⟩
 refine ⟨h1.size, rfl, h1.aB, h1.shape, h1.loop, fun _ _ => rfl, fun _ => Trans.refl _, fun n g hm hρ _ => ⟨n, hm, hρ⟩⟩
end Go.Am
namespace Go.Am
open Go
variable [bS]
variable {P : Program}
theorem FM.trans {a b c : Heap} (h : FM a b) (k : FM b c) : FM a c := by
 induction h with
 | refl _ => exact k
 | step hM hd _ ih => exact .step hM hd (ih k)
structure TZ (P : Program) (fs : FuncId -> Option aI) where
 a : ∀ f F, fs f = some F -> ∀ ds K h, Lo P F ds K h -> ag P f ds h K
 spec : FuncId -> Option (List D -> Option D)
 sp : ∀ f s, spec f = some s -> ∀ ds r, s ds = some r -> aD P f ds (· = r)
 hspec : FuncId -> Option (List D -> LH -> Option (D × LH))
 hsp : ∀ f s, hspec f = some s -> ∀ ds l d l', s ds l = some (d, l') -> l.nf -> l'.nf /\ ∀ K : HK, K d l'.h -> ag P f ds l.h K
end Go.Am
namespace Go.Am
open Go
variable [bS]
variable {P : Program}
inductive Wk : D -> D -> Prop where
 | refl (d : D) : Wk d d
 | nil : Wk .nil (.sl [])
 | sl (xs ys : List D) (hl : xs.length = ys.length) (h : ∀ (i : Nat) (x y : D), xs[i]? = some x -> ys[i]? = some y -> Wk x y) : Wk (.sl xs) (.sl ys)
 | agg (xs ys : List D) (hl : xs.length = ys.length) (h : ∀ (i : Nat) (x y : D), xs[i]? = some x -> ys[i]? = some y -> Wk x y) : Wk (.agg xs) (.agg ys)
 | tup (xs ys : List D) (hl : xs.length = ys.length) (h : ∀ (i : Nat) (x y : D), xs[i]? = some x -> ys[i]? = some y -> Wk x y) : Wk (.tup xs) (.tup ys)
theorem Wk.one {d d' : D} (h : Wk d d') : d'.one = d.one := by cases h <;> rfl
theorem Wk.vone {d d' : D} (h : Wk d d') : d'.vone = d.vone := by cases h <;> rfl
theorem Wk.RB {xs : List D} {y : D} (h : Wk (.agg xs) y) : ∃ ys, y = .agg ys /\ xs.length = ys.length /\ ∀ (i : Nat) (x y : D), xs[i]? = some x -> ys[i]? = some y -> Wk x y := by
 cases h with
 | refl => exact ⟨xs, rfl, rfl, fun i x y h1 h2 => by rw [h1] at h2; cases h2; exact .refl _⟩
 | agg _ ys hl h => exact ⟨ys, rfl, hl, h⟩
theorem Wk.cells {e e' : D} (h : Wk e e') : e.cells.length = e'.cells.length := by
 cases h with
 | agg xs ys hl h => exact hl
 | _ => rfl
theorem Wk.isAgg {e e' : D} (h : Wk e e') : e'.isAgg = e.isAgg := by cases h <;> rfl
theorem xf {e : D} (h : e.isAgg = false) : e.cells = [e] := by cases e <;> first | rfl | cases h
theorem lV {α : Type} {xs ys : List α} (hl : xs.length = ys.length) {i : Nat} {y : α} (hy : ys[i]? = some y) : ∃ x, xs[i]? = some x := by
 have := (List.getElem?_eq_some_iff.1 hy).1
 exact ⟨xs[i]'(by omega), List.getElem?_eq_getElem (by omega)⟩
theorem H2 {c : Ctx} {d d' : D} (h : Wk d d') : ∀ v, aq c d v -> aq c d' v := by
 induction h with
 | refl d => exact fun v hv => hv
 | nil => intro v hv; cases hv; exact .slE none 0 (by simp [maxLen])
 | agg xs ys hl h ih =>
  intro v hv
  cases hv with
  | agg _ vs hsz hone hrel =>
   refine .agg ys vs (by omega) (fun i d hd => ?_) (fun i d hd => ?_)
   ·obtain ⟨x, hx⟩ := lV hl hd
    rw [(h i x d hx hd).one]; exact hone i x hx
   ·obtain ⟨x, hx⟩ := lV hl hd
    exact ih i x d hx hd _ (hrel i x hx)
 | tup xs ys hl h ih =>
  intro v hv
  cases hv with
  | tup _ vs hsz hrel =>
   refine .tup ys vs (by omega) (fun i d hd => ?_)
   obtain ⟨x, hx⟩ := lV hl hd
   exact ih i x d hx hd _ (hrel i x hx)
 | sl xs ys hl h ih =>
  intro v hv
  cases hv with
  | slE p cap hm =>
   have : ys = [] := List.length_eq_zero_iff.1 hl.symm
   subst this
   exact .slE p cap hm
  | sl _ b o cap esz f hne hc hm he hlen hone hcell hown hrel =>
   have key : ∀ i j d', aU ys i j = some d' -> ∃ d, aU xs i j = some d /\ d'.vone = true /\ aq c d' (f i j) := by
    intro i j d' hd'
    simp only [aU, Option.bind_eq_some_iff] at hd'
    obtain ⟨y, hy, hj⟩ := hd'
    obtain ⟨x, hx⟩ := lV hl hy
    have hw := h i x y hx hy
    by_cases ha : x.isAgg = true
    ·cases x with
     | agg cs =>
      obtain ⟨cs', rfl, hcl, hcw⟩ := hw.RB
      simp only [D.cells] at hj
      obtain ⟨a, haj⟩ := lV hcl hj
      have hin : ∀ k z, cs[k]? = some z -> aU xs i k = some z := fun k z hz => by simp [aU, hx, D.cells, hz]
      have hr : aq c (.agg cs) (.agg ((List.range cs.length).map (f i)).toArray) := by
       refine .agg _ _ (by simp) (fun k z hz => D.du (hone i k z (hin k z hz))) (fun k z hz => ?_)
       have hk := (List.getElem?_eq_some_iff.1 hz).1
       have : ((List.range cs.length).map (f i)).toArray.getD k Go.undef = f i k := by simp [Array.getD, hk]
       rw [this]; exact hrel i k z (hin k z hz)
      have hr' := ih i _ _ hx hy _ hr
      refine ⟨a, hin j a haj, ?_, ?_⟩
      ·rw [(hcw j a d' haj hj).vone]; exact hone i j a (hin j a haj)
      ·cases hr' with
       | agg _ _ _ _ hrel' =>
        have hk := (List.getElem?_eq_some_iff.1 hj).1
        have := hrel' j d' hj
        have e : ((List.range cs.length).map (f i)).toArray.getD j Go.undef = f i j := by simp [Array.getD, show j < cs.length by omega]
        rw [e] at this; exact this
     | _ => cases ha
    ·have ha : x.isAgg = false := by simpa using ha
     have hc1 := xf ha
     have hc2 := xf (hw.isAgg.trans ha)
     rw [hc2] at hj
     cases j with
     | succ j => simp at hj
     | zero =>
      simp at hj; subst hj
      have hin : aU xs i 0 = some x := by simp [aU, hx, hc1]
      exact ⟨x, hin, by rw [hw.vone]; exact hone i 0 x hin, ih i x y hx hy _ (hrel i 0 x hin)⟩
   rw [hl]
   refine .sl ys b o cap esz f (fun e => hne (by subst e; exact List.length_eq_zero_iff.1 hl)) (by omega) hm he (fun y hy => ?_) (fun i j d' hd' => (key i j d' hd').choose_spec.2.1) (fun i j d' hd' => ?_) hown (fun i j d' hd' => (key i j d' hd').choose_spec.2.2)
   ·obtain ⟨i, hi⟩ := List.getElem?_of_mem hy
    obtain ⟨x, hx⟩ := lV hl hi
    rw [<- (h i x y hx hi).cells]; exact hlen x (List.mem_of_getElem? hx)
   ·obtain ⟨d, hd, -⟩ := key i j d' hd'
    exact hcell i j d hd
theorem aD.wk {f : FuncId} {ds : List D} {K K' : D -> Prop} (hc : aD P f ds K) (hk : ∀ r, K r -> ∃ r', Wk r r' /\ r'.EY = true /\ K' r') : aD P f ds K' := by
 intro c w vals hh hp hr hs hv
 refine (hc c w vals hh hp hr hs hv).mono ?_
 rintro e w' ⟨v, r, r1, r2, r3, r4, r5, r6⟩
 obtain ⟨r', h1, h2, h3⟩ := hk r r6
 exact ⟨v, r', r1, r2, r3, H2 h1 v r4, h2, h3⟩
inductive HY : List D -> List D -> Prop where
 | nil : HY [] []
 | cons {x y : D} {xs ys : List D} (h : Wk x y) (k : HY xs ys) : HY (x :: xs) (y :: ys)
theorem HY.get {xs ys : List D} (h : HY xs ys) : xs.length = ys.length /\ ∀ (i : Nat) (x y : D), xs[i]? = some x -> ys[i]? = some y -> Wk x y := by
 induction h with
 | nil => exact ⟨rfl, fun i x y h => by simp at h⟩
 | cons h k ih =>
  refine ⟨by simp [ih.1], fun i x y h1 h2 => ?_⟩
  cases i with
  | zero => simp at h1 h2; subst h1 h2; exact h
  | succ i => exact ih.2 i x y (by simpa using h1) (by simpa using h2)
theorem aD.arg {f : FuncId} {ds ds' : List D} {K : D -> Prop} (hw : HY ds ds') (hc : aD P f ds' K) : aD P f ds K := by
 intro c w vals hh hp hr hs hv
 obtain ⟨hl, hw⟩ := hw.get
 refine hc c w vals hh hp hr (by omega) fun i d hd => ?_
 obtain ⟨x, hx⟩ := lV hl hd
 exact H2 (hw i x d hx hd) _ (hv i x hx)
theorem ag.arg {f : FuncId} {ds ds' : List D} {h : Heap} {K : HK} (hw : HY ds ds') (hc : ag P f ds' h K) : ag P f ds h K := by
 intro c w vals hh hp hr hs hv
 obtain ⟨hl, hw⟩ := hw.get
 refine hc c w vals hh hp hr (by omega) fun i d hd => ?_
 obtain ⟨x, hx⟩ := lV hl hd
 exact H2 (hw i x d hx hd) _ (hv i x hx)
theorem Wk.NK {xs ys : List D} (h : HY xs ys) : Wk (.agg xs) (.agg ys) := .agg _ _ h.get.1 h.get.2
theorem HY.rfl : ∀ {xs : List D}, HY xs xs
 | [] => .nil
 | x :: r => .cons (.refl x) HY.rfl
end Go.Am
namespace Go.Am
open Go
variable [bS]
structure dQ where
 kind : Int
 n : Int
 v : Int
deriving DecidableEq, Inhabited
structure aR where
 op : Int
 sub : Int
 n : Int
 d : dQ
 a : dQ
 b : dQ
 c : dQ
deriving DecidableEq, Inhabited
structure Term where
 kind : Int
 sub : Int
 d : dQ
 a : dQ
 b : dQ
 to0 : Int
 to1 : Int
deriving DecidableEq, Inhabited
structure Block where
 i : List aR
 t : Term
deriving DecidableEq, Inhabited
structure bM where
 name : ByteArray
 space : Int
 type : Int
 len : Int
structure Loop where
 head : Int
 oZ : Int
 bound : Int
deriving DecidableEq, Inhabited
structure Code where
 group : Int
 sub : Int
 regs : Int
 slots : Int
 params : Int
 arrays : List bM
 loops : List Loop
 b : List Block
def an : dQ := ⟨0, 0, 0⟩
def iw : Term := ⟨0, 0, an, an, an, 0, 0⟩
def fQ (n : Int) : dQ := ⟨2, n, 0⟩
def Const (v : Int) : dQ := ⟨1, 0, v⟩
def dQ.cs (o : dQ) : List D := [.int .i64 o.kind, .int .i64 o.n, .int .i32 o.v]
def dQ.e (o : dQ) : D := .agg o.cs
def aR.cs (x : aR) : List D :=
  [.int .i64 x.op, .int .i64 x.sub, .int .i64 x.n, .int .i64 x.d.kind, .int .i64 x.d.n, .int .i32 x.d.v, .int .i64 x.a.kind, .int .i64 x.a.n, .int .i32 x.a.v,
   .int .i64 x.b.kind, .int .i64 x.b.n, .int .i32 x.b.v, .int .i64 x.c.kind, .int .i64 x.c.n, .int .i32 x.c.v]
def aR.e (x : aR) : D := .agg x.cs
def Term.cs (t : Term) : List D :=
  [.int .i64 t.kind, .int .i64 t.sub, .int .i64 t.d.kind, .int .i64 t.d.n, .int .i32 t.d.v, .int .i64 t.a.kind, .int .i64 t.a.n, .int .i32 t.a.v,
   .int .i64 t.b.kind, .int .i64 t.b.n, .int .i32 t.b.v, .int .i64 t.to0, .int .i64 t.to1]
def Term.e (t : Term) : D := .agg t.cs
def Block.e (x : Block) : D := .agg (.sl (x.i.map aR.e) :: x.t.cs)
def bM.e (x : bM) : D := .agg [.str x.name, .int .i64 x.space, .int .i64 x.type, .int .i64 x.len]
def Loop.e (x : Loop) : D := .agg [.int .i64 x.head, .int .i64 x.oZ, .int .i64 x.bound]
def Code.e (c : Code) : D :=
 .agg [.int .i64 c.group, .int .i64 c.sub, .int .i64 c.regs, .int .i64 c.slots, .int .i64 c.params, .sl (c.arrays.map bM.e), .sl (c.loops.map Loop.e), .sl (c.b.map Block.e)]
def words (l : List Int) : D := .sl (l.map (.int .i32))
structure v7 (d : D) : Prop where
 vd : d.vd = true
 one : aw d
theorem v7.pair {d : D} (h : v7 d) : d.vd = true /\ aw d := ⟨h.vd, h.one⟩
theorem bb {k : IntKind} {n : Int} : v7 (.int k n) := ⟨rfl, by simp⟩
theorem eR {xs : List D} : v7 (.sl xs) := ⟨rfl, by simp⟩
theorem cN {cs : List D} (h : ∀ x ∈ cs, x.vone = true) : v7 (.agg cs) := ⟨by simpa [D.vd] using h, fun x hx => D.du (h x hx)⟩
theorem dQ.bZ (o : dQ) : v7 o.e := cN (by simp [dQ.cs])
theorem aR.bZ (o : aR) : v7 o.e := cN (by simp [aR.cs])
theorem Term.bZ (o : Term) : v7 o.e := cN (by simp [Term.cs])
theorem Block.bZ (o : Block) : v7 o.e := cN (by simp [Term.cs])
theorem bM.bZ (o : bM) : v7 o.e := cN (by simp)
theorem Loop.bZ (o : Loop) : v7 o.e := cN (by simp)
theorem Code.bZ (o : Code) : v7 o.e := cN (by simp)
theorem Fo {l : List Int} : v7 (words l) := eR
def K8 : List D -> Prop
 | [] => True
 | d :: r => v7 d /\ K8 r
theorem K8.all : ∀ {ds : List D}, K8 ds -> ∀ d ∈ ds, d.vd = true /\ aw d
 | [], _, d, h => by cases h
 | x :: r, hd, d, h => by
  rcases List.mem_cons.1 h with rfl | h
  ·exact hd.1.pair
  ·exact K8.all hd.2 d h
theorem ba {P : Program} {f : FuncId} {ds : List D} {h : Heap} {KH : HK} {r : D} (hv : aD P f ds (· = r)) (hds : K8 ds) (hk : KH r h) : ag P f ds h KH := bE hv hds.all (by rintro _ rfl; exact hk)
theorem ir {P : Program} {f : FuncId} {as : List Arg} {h : Heap} {K : D -> Prop} {r : D} (hv : aD P f (as.map (·.get [])) (· = r)) (hds : K8 (as.map (·.get []))) (hk : K r) : au P (.call f as) h K := ox hv hds.all hk
theorem il {d : D} {h : Heap} {K : D -> Prop} (hd : v7 d) (hk : K d) : sQ K d h := Je hd.pair hk
end Go.Am
namespace Go.Am
open Go
variable [bS]
variable {P : Program} {KH : HK} {K : D -> Prop} {h : Heap}
theorem GD {A : (HK) -> Prop} : vguard (.bool true) true A h KH = A KH := by rw [CX]; simp
theorem Fi {A : (HK) -> Prop} : vguard (.bool false) false A h KH = A KH := by rw [CX]; simp
theorem MO {A : (HK) -> Prop} : vguard (.bool true) false A h KH = KH gU h := by rw [CX]; simp
theorem RI {A : (HK) -> Prop} : vguard (.bool false) true A h KH = KH gU h := by rw [CX]; simp
theorem Eb {A : (D -> Prop) -> Prop} : aP (.bool true) true A K = A K := by rw [we]; simp
theorem TF {A : (D -> Prop) -> Prop} : aP (.bool false) false A K = A K := by rw [we]; simp
theorem TE {A : (D -> Prop) -> Prop} : aP (.bool true) false A K = K gU := by rw [we]; simp
theorem Rd {A : (D -> Prop) -> Prop} : aP (.bool false) true A K = K gU := by rw [we]; simp
theorem dY {x y : D} : ab P (.pick (.c (.bool true)) (.c x) (.c y)) h KH = KH x h := rfl
theorem gf {x y : D} : ab P (.pick (.c (.bool false)) (.c x) (.c y)) h KH = KH y h := rfl
theorem DZ {KK : D -> Prop} : vun .not (.bool true) KK = KK (.bool false) := rfl
theorem Mp {KK : D -> Prop} : vun .not (.bool false) KK = KK (.bool true) := rfl
theorem S8 {n o : Nat} {d : D} (a : h n = .box d) : ab P (.fadd (.c (.ptr n 0 0)) o) h KH = KH (.ptr n 0 o) h := by
 rw [qQ, a]; simp
theorem eG {n j s : Nat} {cs : List D} {d : D} (a : h n = .box (.agg cs)) (hj : cs[j]? = some d) : ab P (.ld (.c (.ptr n 0 j)) s false) h KH = KH d h := by
 rw [lk, a]; simp [bk, hj]
theorem bY {n j s : Nat} {cs : List D} {d : D} (a : h n = .box (.agg cs)) (hj : cs[j]? = some d) : au P (.ld (.c (.ptr n 0 j)) s false) h K = K d := by
 rw [bO, eG a hj]
theorem dh {n : Nat} {cs : List D} (a : h n = .box (.agg cs)) : ab P (.ld (.c (.ptr n 0 0)) cs.length true) h KH = KH (.agg cs) h := by
 rw [lk, a]; simp [cw]
theorem qP {n j s : Nat} {cs : List D} (a : h n = .box (.agg cs)) (hj : j + s <= cs.length) : ab P (.ld (.c (.ptr n 0 j)) s true) h KH = KH (.agg ((cs.drop j).take s)) h := by
 rw [lk, a]; simp [cw, hj]
theorem PG {n : Nat} {x y z p q r : D} (a : h n = .box (.agg [x, y, z])) (h1 : p.one = true) (h2 : q.one = true) (h3 : r.one = true) :
  ab P (.st (.c (.ptr n 0 0)) (.c (.agg [p, q, r])) 3) h KH = KH .undef (ah h n (.box (.agg [p, q, r]))) := by
 rw [dq, a]
 apply propext
 constructor
 ·exact fun hh => by simpa using hh.2.2
 ·intro hk
  refine ⟨rfl, fun w hw => ?_, rfl, by simp, by simpa using hk⟩
  simp at hw; rcases hw with rfl | rfl | rfl <;> assumption
theorem Tl {n : Nat} {x y z : D} {k1 k2 k3 : IntKind} {p q r : Int} (a : h n = .box (.agg [x, y, z])) :
  ab P (.st (.c (.ptr n 0 0)) (.c (.agg [.int k1 p, .int k2 q, .int k3 r])) 3) h KH = KH .undef (ah h n (.box (.agg [.int k1 p, .int k2 q, .int k3 r]))) := PG a rfl rfl rfl
theorem SY {x y : D} {p q : Int} : ab P (.bld [x, y] [(0, 1, (.c (.int .i64 p))), (1, 1, (.c (.int .i64 q)))]) h KH = KH (.agg [.int .i64 p, .int .i64 q]) h := by
 rw [jY]
 simp [fv, fillD]
theorem SX {x y z : D} {p q : Int} : ab P (.bld [x, y, z] [(0, 1, (.c (.int .i64 p))), (1, 1, (.c (.int .i64 q)))]) h KH = KH (.agg [.int .i64 p, .int .i64 q, z]) h := by
 rw [jY]
 simp [fv, fillD]
theorem TN {x y z : D} {p q r : Int} : ab P (.bld [x, y, z] [(0, 1, (.c (.int .i64 p))), (1, 1, (.c (.int .i64 q))), (2, 1, (.c (.int .i64 r)))]) h KH = KH (.agg [.int .i64 p, .int .i64 q, .int .i64 r]) h := by
 rw [jY]
 simp [fv, fillD]
theorem TM {z : List D} : ab P (.bld z []) h KH = KH (.agg z) h := by
 rw [jY]
 simp [fv, fillD]
theorem M7 {x : D} {r : List D} : ab P (.ext (.c (.tup (x :: r))) 0) h KH = KH x h := rfl
theorem M4 {x y : D} {r : List D} : ab P (.ext (.c (.tup (x :: y :: r))) 1) h KH = KH y h := rfl
theorem TG {x y z : D} {r : List D} : ab P (.ext (.c (.tup (x :: y :: z :: r))) 2) h KH = KH z h := rfl
theorem Nk {x : D} {r : List D} : au P (.ext (.c (.tup (x :: r))) 0) h K = K x := rfl
theorem Nj {x y : D} {r : List D} : au P (.ext (.c (.tup (x :: y :: r))) 1) h K = K y := rfl
section
variable {k : IntKind} {a b : Int}
theorem Ue (h0 : a <= b) : vbin .leq (.int k a) (.int k b) K = K (.bool true) := by rw [Jg]; simp [h0]
theorem Uf (h0 : b < a) : vbin .leq (.int k a) (.int k b) K = K (.bool false) := by rw [Jg]; simp [show ¬ a <= b by omega]
theorem Uc (h0 : a < b) : vbin .lss (.int k a) (.int k b) K = K (.bool true) := by rw [bK]; simp [h0]
theorem Ud (h0 : b <= a) : vbin .lss (.int k a) (.int k b) K = K (.bool false) := by rw [bK]; simp [show ¬ a < b by omega]
theorem Uh (h0 : b < a) : vbin .gtr (.int k a) (.int k b) K = K (.bool true) := by rw [oX]; simp [h0]
theorem Ui (h0 : a <= b) : vbin .gtr (.int k a) (.int k b) K = K (.bool false) := by rw [oX]; simp [show ¬ b < a by omega]
theorem Uj (h0 : b <= a) : vbin .geq (.int k a) (.int k b) K = K (.bool true) := by rw [hY]; simp [h0]
theorem Uk (h0 : a < b) : vbin .geq (.int k a) (.int k b) K = K (.bool false) := by rw [hY]; simp [show ¬ b <= a by omega]
theorem Um (h0 : a = b) : vbin .eql (.int k a) (.int k b) K = K (.bool true) := by rw [aM]; simp [h0]
theorem Un (h0 : a ≠ b) : vbin .eql (.int k a) (.int k b) K = K (.bool false) := by rw [aM]; simp [h0]
theorem Ua (h0 : a ≠ b) : vbin .neq (.int k a) (.int k b) K = K (.bool true) := by rw [cH]; simp [h0]
theorem Ub (h0 : a = b) : vbin .neq (.int k a) (.int k b) K = K (.bool false) := by rw [cH]; simp [h0]
theorem TO (h1 : -9223372036854775808 <= a + b) (h2 : a + b <= 9223372036854775807) : vbin .add (.int .i64 a) (.int .i64 b) K = K (.int .i64 (a + b)) := by rw [bt, wrap64 h1 h2]
theorem Tk (h1 : -9223372036854775808 <= a - b) (h2 : a - b <= 9223372036854775807) : vbin .sub (.int .i64 a) (.int .i64 b) K = K (.int .i64 (a - b)) := by rw [gG, wrap64 h1 h2]
theorem Ty (h1 : -9223372036854775808 <= a * b) (h2 : a * b <= 9223372036854775807) : vbin .mul (.int .i64 a) (.int .i64 b) K = K (.int .i64 (a * b)) := by rw [fT, wrap64 h1 h2]
theorem Tq (h1 : b ≠ 0) : vbin .rem (.int k a) (.int k b) K = K (.int k (a.tmod b)) := by rw [bI]; simp [h1]
theorem Tx (h1 : -9223372036854775808 <= 0 - a) (h2 : 0 - a <= 9223372036854775807) : vun .neg (.int .i64 a) K = K (.int .i64 (0 - a)) := by rw [Fs, wrap64 h1 h2]
end
def gS := And.intro @GD <| And.intro @Fi <| And.intro @MO <| And.intro @RI <| And.intro @Dn <| And.intro @Eb <| And.intro @TF <| And.intro @TE <| And.intro @Rd <| And.intro @yX <| And.intro @dY <| And.intro @gf <| And.intro @DZ <| And.intro @Mp <| And.intro @af <| And.intro @ae <| And.intro @M7 <| And.intro @M4 <| And.intro @TG <| And.intro @SY <| And.intro @TN <| And.intro @SX <| And.intro @TM <| And.intro @Nk @Nj
def cS := And.intro @Ue <| And.intro @Uf <| And.intro @Uc <| And.intro @Ud <| And.intro @Uh <| And.intro @Ui <| And.intro @Uj <| And.intro @Uk <| And.intro @Um <| And.intro @Un <| And.intro @Ua <| And.intro @Ub <| And.intro @TO <| And.intro @Tk <| And.intro @Ty <| And.intro @Tq @Tx
end Go.Am
