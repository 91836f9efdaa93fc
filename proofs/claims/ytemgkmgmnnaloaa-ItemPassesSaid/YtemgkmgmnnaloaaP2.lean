/- What the functions of this chapter give, on plain data. No condition. -/
import Derived.Tactics
import Derived.Tactics2
import Derived.Defers
import Derived.Recover
import Derived.Laws.Pointers
import Derived.TacticsInMore
import Derived.RegionIn
import Derived.RecoverIn
import Derived.Test.YtemgkmgmnnaloaaP1
set_option linter.unnecessarySimpa false
set_option linter.defProp false
set_option linter.unusedSectionVars false
set_option linter.unusedSimpArgs false
set_option linter.unusedVariables false
namespace Go.Am
open Go
section
variable {h : Heap}
structure yl (h : Heap) (d d' : D) : Prop where
 one : d.one = true
 ok : lG h d
 v : (d.fzc h).vone = true
 wk : Wk (d.fzc h) d'
theorem aK {d : D} (hv : d.vone = true) : yl h d d := by
 obtain ⟨a1, -, a3⟩ := wJ (h := h) hv
 exact ⟨D.du hv, a3, by rw [a1]; exact hv, by rw [a1]; exact .refl d⟩
theorem fu : yl h .nil (.sl []) := ⟨rfl, trivial, rfl, .nil⟩
theorem db {n e : Nat} {els : List D} (hn : h n = .arr e els) (hv : ∀ x ∈ els, ∀ y ∈ x.cells, y.vone = true) : yl h (.ms n 0 els.length) (.sl els) := by
 have hr : (h n).row = some (e, els) := by rw [hn]; rfl
 refine ⟨rfl, ⟨e, els, hr, by simp, fun x hx => hv x (List.mem_of_mem_drop (List.mem_of_mem_take hx))⟩, ?_, ?_⟩
 ·simp [D.fzc, hr, D.vone]
 ·simp only [D.fzc, hr, List.drop_zero]
  rw [List.take_of_length_le (Nat.le_refl _)]
  exact .refl _
inductive Bo (h : Heap) : List D -> List D -> Prop where
 | nil : Bo h [] []
 | cons {d d' : D} {r r' : List D} (a : yl h d d') (k : Bo h r r') : Bo h (d :: r) (d' :: r')
theorem Bo.all {cs cs' : List D} (k : Bo h cs cs') : (∀ x ∈ cs, x.one = true) /\ (∀ x ∈ cs, lG h x) /\ (∀ x, x ∈ cs.map (D.fzc h) -> x.vone = true) /\ HY (cs.map (D.fzc h)) cs' := by
 induction k with
 | nil => exact ⟨by simp, by simp, by simp, .nil⟩
 | cons a k ih =>
  obtain ⟨i1, i2, i3, i4⟩ := ih
  refine ⟨fun x hx => ?_, fun x hx => ?_, fun x hx => ?_, .cons a.wk i4⟩
  ·rcases List.mem_cons.1 hx with rfl | hx
   ·exact a.one
   ·exact i1 x hx
  ·rcases List.mem_cons.1 hx with rfl | hx
   ·exact a.ok
   ·exact i2 x hx
  ·rcases List.mem_cons.1 hx with rfl | hx
   ·exact a.v
   ·exact i3 x hx
structure NY (h : Heap) (d d' : D) : Prop where
 one : aw d
 ok : jD h d
 v : (d.fz h).vd = true
 v' : d'.vd = true
 wk : Wk (d.fz h) d'
theorem gx {d : D} (h1 : d.one = true) : d.cells = [d] := by cases d <;> first | rfl | cases h1
theorem MU {d : D} (h1 : d.one = true) : d.fz h = d.fzc h := by cases d <;> first | rfl | cases h1
theorem sE {d : D} (h1 : d.vone = true) : d.vd = true := by cases d <;> first | rfl | cases h1
theorem yl.d {d d' : D} (a : yl h d d') : NY h d d' := by
 have hc := gx a.one
 refine ⟨fun x hx => ?_, fun x hx => ?_, ?_, ?_, ?_⟩
 ·rw [hc] at hx; simp at hx; subst hx; exact a.one
 ·rw [hc] at hx; simp at hx; subst hx; exact a.ok
 ·rw [MU a.one]; exact sE a.v
 ·exact sE (by rw [a.wk.vone]; exact a.v)
 ·rw [MU a.one]; exact a.wk
theorem Lf {xs ys : List D} (w : HY xs ys) (hv : ∀ x ∈ xs, x.vone = true) : ∀ y ∈ ys, y.vone = true := by
 induction w with
 | nil => simp
 | cons a k ih =>
  intro y hy
  rcases List.mem_cons.1 hy with rfl | hy
  ·rw [a.vone]; exact hv _ (by simp)
  ·exact ih (fun x hx => hv x (by simp [hx])) y hy
theorem Bo.agg {cs cs' : List D} (k : Bo h cs cs') : NY h (.agg cs) (.agg cs') := by
 obtain ⟨i1, i2, i3, i4⟩ := k.all
 refine ⟨i1, i2, ?_, ?_, .NK i4⟩
 ·simp only [D.fz, D.vd, List.all_eq_true]; exact i3
 ·simp only [D.vd, List.all_eq_true]; exact Lf i4 i3
inductive HW (h : Heap) : List D -> List D -> Prop where
 | nil : HW h [] []
 | cons {d d' : D} {r r' : List D} (a : NY h d d') (k : HW h r r') : HW h (d :: r) (d' :: r')
theorem HW.all {cs cs' : List D} (k : HW h cs cs') : (∀ x ∈ cs, aw x) /\ (∀ x ∈ cs, jD h x) /\ (∀ x, x ∈ cs.map (D.fz h) -> x.vd = true) /\ (∀ x, x ∈ cs' -> x.vd = true) /\ HY (cs.map (D.fz h)) cs' := by
 induction k with
 | nil => exact ⟨by simp, by simp, by simp, by simp, .nil⟩
 | cons a k ih =>
  obtain ⟨i1, i2, i3, i5, i4⟩ := ih
  refine ⟨fun x hx => ?_, fun x hx => ?_, fun x hx => ?_, fun x hx => ?_, .cons a.wk i4⟩
  ·rcases List.mem_cons.1 hx with rfl | hx
   ·exact a.one
   ·exact i1 x hx
  ·rcases List.mem_cons.1 hx with rfl | hx
   ·exact a.ok
   ·exact i2 x hx
  ·rcases List.mem_cons.1 hx with rfl | hx
   ·exact a.v
   ·exact i3 x hx
  ·rcases List.mem_cons.1 hx with rfl | hx
   ·exact a.v'
   ·exact i5 x hx
def EH (K : D -> Prop) (r : D) (h' : Heap) : Prop := ∃ h'', FM h' h'' /\ gV r /\ pG h'' r /\ (r.fzt h'').EY = true /\ ∃ r', Wk (r.fzt h'') r' /\ r'.EY = true /\ K r'
theorem fR {P : Program} {f : FuncId} {ds : List D} {K : D -> Prop} (ha : ag P f ds aJ (EH K)) : aD P f ds K :=
 aD.wk (K := fun r => ∃ r', Wk r r' /\ r'.EY = true /\ K r') (Fp ha) fun _ hr => hr
theorem mU {h h'' : Heap} {K : D -> Prop} {ds ds' : List D} (i : FM h h'') (k : HW h'' ds ds') (hK : K (.tup ds')) : EH K (.tup ds) h := by
 obtain ⟨i1, i2, i3, i5, i4⟩ := k.all
 refine ⟨h'', i, i1, i2, ?_, .tup ds', ?_, ?_, hK⟩
 ·simp only [D.fzt, D.EY, List.all_eq_true]; exact i3
 ·exact .tup _ _ i4.get.1 i4.get.2
 ·simp only [D.EY, List.all_eq_true]; exact i5
theorem dW {h h'' : Heap} {K : D -> Prop} {d d' : D} (ht : ∀ ds, d ≠ .tup ds) (ht' : ∀ ds, d' ≠ .tup ds) (i : FM h h'') (k : NY h'' d d') (hK : K d') : EH K d h := by
 have e1 : d.fzt h'' = d.fz h'' := by cases d <;> first | rfl | exact absurd rfl (ht _)
 have e2 : ∀ x : D, (∀ ds, x ≠ .tup ds) -> x.EY = x.vd := fun x hx => by cases x <;> first | rfl | exact absurd rfl (hx _)
 have nt : ∀ ds, d.fz h'' ≠ .tup ds := fun ds e => by
  have := k.v; rw [e] at this; cases this
 refine ⟨h'', i, ?_, ?_, ?_, d', by rw [e1]; exact k.wk, by rw [e2 _ ht']; exact k.v', hK⟩
 ·cases d <;> first | exact k.one | exact absurd rfl (ht _)
 ·cases d <;> first | exact k.ok | exact absurd rfl (ht _)
 ·rw [e1, e2 _ nt]; exact k.v
theorem Bo.Sr : ∀ {cs : List D}, (∀ x ∈ cs, x.vone = true) -> Bo h cs cs
 | [], _ => .nil
 | x :: r, hv => .cons (aK (hv x (by simp))) (Bo.Sr fun y hy => hv y (by simp [hy]))
theorem iE {d : D} (hd : v7 d) : NY h d d := by
 obtain ⟨a1, -, a3⟩ := Df (h := h) hd.vd
 exact ⟨hd.one, a3, by rw [a1]; exact hd.vd, hd.vd, by rw [a1]; exact .refl _⟩
end
theorem JY (w : List Int) : ∀ x, x ∈ wr w -> ∀ y ∈ x.cells, y.vone = true := fun x hx y hy => by
 simp only [wr, List.mem_map] at hx
 obtain ⟨z, -, rfl⟩ := hx
 simp at hy; subst hy; rfl
theorem p6.fz {h : Heap} {ro : Ro} {r : mP} {d : D} {w : List Int} (x : p6 h ro r d w) : d.fz h = words w /\ aw d /\ jD h d /\ ∀ n ∈ d.nm, ro n = r := by
 rcases x with rfl | ⟨q, rfl, h2, h3⟩
 ·obtain ⟨a1, a2, a3⟩ := Df (h := h) (d := words w) rfl
  exact ⟨a1, by simp [words], a3, by rw [a2]; simp⟩
 ·have f := db (h := h) h2 (JY w)
  rw [mC] at f
  have hr : (h q).row = some (1, wr w) := by rw [h2]; rfl
  refine ⟨?_, by simp, f.d.ok, fun n hn => ?_⟩
  ·simp only [D.fz, D.fzc, hr, List.drop_zero]
   rw [List.take_of_length_le (by rw [mC]; exact Nat.le_refl _)]; rfl
  ·simp [D.nm, D.jo] at hn; subst hn; exact h3
theorem nE.II {h : Heap} {ro : Ro} {s k : Nat} {m : Mm} {els : List D} (y : nE h ro s m k els) :
  JW h k 1 els /\ els.map (D.fz h) = m.map words /\ ∀ j, (∀ i, ro j ≠ .row s i) -> j ≠ k -> dB h k 1 els j = h j := by
 have hl := y.len
 have get : ∀ e ∈ els, ∃ i w, p6 h ro (.row s i) e w := fun e he => by
  obtain ⟨i, hi⟩ := List.getElem?_of_mem he
  have := (List.getElem?_eq_some_iff.1 hi).1
  exact ⟨i, m[i], y.el i e _ hi (List.getElem?_eq_getElem (by omega))⟩
 have nm : ∀ n, n ∈ els.flatMap D.nm -> ∃ i, ro n = .row s i := fun n hn => by
  obtain ⟨e, he, hn⟩ := List.mem_flatMap.1 hn
  obtain ⟨i, w, hr⟩ := get e he
  exact ⟨i, hr.fz.2.2.2 n hn⟩
 refine ⟨⟨fun hm => ?_, fun e he => ?_⟩, ?_, fun j hj hne => ?_⟩
 ·obtain ⟨i, hi⟩ := nm k hm
  rw [y.rk] at hi; cases hi
 ·obtain ⟨i, w, hr⟩ := get e he
  obtain ⟨f1, f2, f3, -⟩ := hr.fz
  exact ⟨f2, f3, by rw [f1]; intro z hz; simp [words] at hz; subst hz; rfl⟩
 ·refine List.ext_getElem? fun i => ?_
  rw [List.getElem?_map, List.getElem?_map]
  rcases Nat.lt_or_ge i els.length with hi | hi
  ·have h1 := List.getElem?_eq_getElem hi
   have h2 : m[i]? = some (m[i]'(by omega)) := List.getElem?_eq_getElem (by omega)
   rw [h1, h2]
   simp only [Option.map_some]
   rw [(y.el i _ _ h1 h2).fz.1]
  ·rw [List.getElem?_eq_none hi, List.getElem?_eq_none (by omega)]; rfl
 ·exact D6 hne fun hm => by
   obtain ⟨i, hi⟩ := nm j hm
   exact hj i hi
theorem I9.out {h : Heap} {ro : Ro} {dR dE dL : D} {dm : Nat -> D} {st : St} (x : I9 h ro dR dE dL dm st) :
  ∃ h'', FM h h'' /\ yl h'' dR (words st.regs) /\ yl h'' dE (.sl (st.ev.map Ev.e)) /\ yl h'' dL (.sl []) /\ (∀ s, 1 <= s -> s <= 3 -> yl h'' (dm s) (aO (st.mem s))) /\ ∀ k, ro k = .no -> h'' k = h k := by
 obtain ⟨k1, e1, d1, y1⟩ := x.mem 1 (by omega) (by omega)
 obtain ⟨k2, e2, d2, y2⟩ := x.mem 2 (by omega) (by omega)
 obtain ⟨k3, e3, d3, y3⟩ := x.mem 3 (by omega) (by omega)
 have n12 : k1 ≠ k2 := by rintro rfl; have := y1.rk; rw [y2.rk] at this; simp at this
 have n13 : k1 ≠ k3 := by rintro rfl; have := y1.rk; rw [y3.rk] at this; simp at this
 have n23 : k2 ≠ k3 := by rintro rfl; have := y2.rk; rw [y3.rk] at this; simp at this
 obtain ⟨p1, p2, p3⟩ := y1.II
 have kp1 : jC (fun r => r ≠ .mem 1 /\ ∀ i, r ≠ .row 1 i) h ro (dB h k1 1 e1) ro := fun k _ hr => ⟨p3 k hr.2 (by rintro rfl; exact hr.1 y1.rk), rfl⟩
 have z2 := y2.cV kp1 (by simp) (by simp)
 have z3 := y3.cV kp1 (by simp) (by simp)
 obtain ⟨q1, q2, q3⟩ := z2.II
 have kp2 : jC (fun r => r ≠ .mem 2 /\ ∀ i, r ≠ .row 2 i) (dB h k1 1 e1) ro (dB (dB h k1 1 e1) k2 1 e2) ro := fun k _ hr => ⟨q3 k hr.2 (by rintro rfl; exact hr.1 y2.rk), rfl⟩
 have w3 := z3.cV kp2 (by simp) (by simp)
 obtain ⟨r1, r2, r3⟩ := w3.II
 have i1 : dB h k1 1 e1 k1 = .arr 1 (st.mem 1 |>.map words) := by rw [jb, p2]
 have i2 : dB (dB h k1 1 e1) k2 1 e2 k2 = .arr 1 (st.mem 2 |>.map words) := by rw [jb, q2]
 have i3 : dB (dB (dB h k1 1 e1) k2 1 e2) k3 1 e3 k3 = .arr 1 (st.mem 3 |>.map words) := by rw [jb, r2]
 have far : ∀ k, (∀ s, ro k ≠ .mem s) -> (∀ s i, ro k ≠ .row s i) -> dB (dB (dB h k1 1 e1) k2 1 e2) k3 1 e3 k = h k := fun k a b => by
  rw [r3 k (b 3) (by rintro rfl; exact a _ y3.rk), q3 k (b 2) (by rintro rfl; exact a _ y2.rk), p3 k (b 1) (by rintro rfl; exact a _ y1.rk)]
 have mv : ∀ (m : Mm) (x : D), x ∈ m.map words -> ∀ y ∈ x.cells, y.vone = true := fun m x hx y hy => by
  simp only [List.mem_map] at hx
  obtain ⟨z, -, rfl⟩ := hx
  simp [words] at hy; subst hy; rfl
 refine ⟨_, .step y1.hk p1 (.step z2.hk q1 (.step w3.hk r1 (.refl _))), ?_, ?_, ?_, fun s s1 s2 => ?_, fun k hk => far k (by rw [hk]; simp) (by rw [hk]; simp)⟩
 ·obtain ⟨q, rfl, g1, g2⟩ := x.regs
  have := db (h := dB (dB (dB h k1 1 e1) k2 1 e2) k3 1 e3) (n := q) (e := 1) (els := wr st.regs) (by rw [far q (by rw [g2]; simp) (by rw [g2]; simp)]; exact g1) (JY _)
  rw [mC] at this
  exact this
 ·rcases x.ev with ⟨rfl, hz⟩ | ⟨q, rfl, g1, g2⟩
  ·rw [hz]; exact fu
  ·have := db (h := dB (dB (dB h k1 1 e1) k2 1 e2) k3 1 e3) (n := q) (e := 9) (els := st.ev.map Ev.e) (by rw [far q (by rw [g2]; simp) (by rw [g2]; simp)]; exact g1) (fun x hx y hy => by
    simp only [List.mem_map] at hx
    obtain ⟨z, -, rfl⟩ := hx
    simp [Ev.e, Ev.cs] at hy
    rcases hy with rfl | rfl | rfl | rfl | rfl | rfl | rfl | rfl | rfl <;> rfl)
   rw [List.length_map] at this
   exact this
 ·rcases x.sl with rfl | rfl | ⟨q, rfl, g1, g2⟩
  ·exact fu
  ·exact aK rfl
  ·exact db (els := []) (by rw [far q (by rw [g2]; simp) (by rw [g2]; simp)]; exact g1) (by simp)
 ·have : s = 1 \/ s = 2 \/ s = 3 := by omega
  rcases this with rfl | rfl | rfl
  ·rw [d1]
   have := db (h := dB (dB (dB h k1 1 e1) k2 1 e2) k3 1 e3) (n := k1) (e := 1) (els := (st.mem 1).map words) (by rw [r3 k1 (by rw [y1.rk]; simp) n13, q3 k1 (by rw [y1.rk]; simp) n12]; exact i1) (mv _)
   rw [List.length_map] at this
   exact this
  ·rw [d2]
   have := db (h := dB (dB (dB h k1 1 e1) k2 1 e2) k3 1 e3) (n := k2) (e := 1) (els := (st.mem 2).map words) (by rw [r3 k2 (by rw [y2.rk]; simp) n23]; exact i2) (mv _)
   rw [List.length_map] at this
   exact this
  ·rw [d3]
   have := db (h := dB (dB (dB h k1 1 e1) k2 1 e2) k3 1 e3) (n := k3) (e := 1) (els := (st.mem 3).map words) i3 (mv _)
   rw [List.length_map] at this
   exact this
end Go.Am
namespace Go.Am
open Go
theorem SG {P : Program} {m off len esz : Nat} {x : D} {h : Heap} {KH : HK} : ab P (.cpy (.c (.ms m off len)) (.c x) esz) h KH = velems esz x h fun ys => (∀ y ∈ ys, aw y) /\ ∃ els, h m = .arr esz els /\ off + len <= els.length /\
    KH (.int .i64 (min ys.length len : Nat)) (ah h m (.arr esz (els.take off ++ ys.take len ++ els.drop (off + min ys.length len)))) := rfl
theorem lf {m : Mm} {h : Heap} {K : D -> Prop} : cj (aO m) h K = K (.int .i64 (m.length : Int)) := by simp [aO, kO]
theorem FY {h : Heap} {m : Mm} (hl : m.length <= 1000000) {KH : HK} (hK : ∀ q, h q = .free -> KH (.ms q 0 m.length) (ah h q (.arr 1 (m.map words)))) : ag PP eg [aO m] h KH := by
 refine aW CQ (aA _ _ _) rfl (Cw _ _) ?_
 (unfold xN; try dsimp only [xL, yL, xF, yF, xI, yI, xS, zI, zJ])
 rw [lf, O9]
 refine ⟨by omega, by omega, by omega, by omega, fun q t => ?_⟩
 rw [Int.toNat_natCast, SG]
 refine ⟨fun e he => ?_, fun y hy => ?_, _, ad _ _ _, by simp, ?_⟩
 ·simp only [List.mem_map] at he; obtain ⟨z, -, rfl⟩ := he; rfl
 ·simp only [List.mem_map] at hy; obtain ⟨z, -, rfl⟩ := hy; simp [words]
 ·rw [gP]
  have := hK q t.free
  have e : (List.replicate m.length D.nil).take 0 ++ (m.map words).take m.length ++ (List.replicate m.length D.nil).drop (0 + min (m.map words).length m.length) = m.map words := by
   rw [List.take_zero, List.nil_append, List.take_of_length_le (by simp), List.drop_of_length_le (by simp), List.append_nil]
  rw [e]; exact this
theorem zm (n : Nat) : D.sl (List.replicate n (.int .i32 0)) = words (List.replicate n 0) := by simp [words]
theorem Jx {c : Code} (hc : bq c) {id ep at_ : Int} : aD PP kC [c.e, .int .i64 id, .int .i64 ep, .int .i64 at_] (· = (bD c id ep at_).e) := by
 refine bc CR (aA _ _ _) rfl (Cx _ _ _ _ _) ?_
 (unfold xO; try dsimp only [xL, yL, xF, yF, xI, yI, xS, zI, zJ])
 rw [cT, jX NV (Code.on c), gT (by simp)]
 have hr := hc.regs
 have hs := hc.slots
 obtain ⟨H, hH⟩ : ∃ H, H = LH.h ([] ++ [Slot.box c.e] ++ [.box (.agg [.int .i64 0, .int .i64 0, .int .i64 0, .int .i64 0, .nil, .nil, .nil])]) := ⟨_, rfl⟩
 rw [<- hH]
 have h0 : H 0 = .box (.agg [.int .i64 c.group, .int .i64 c.sub, .int .i64 c.regs, .int .i64 c.slots, .int .i64 c.params, .sl (c.arrays.map bM.e), .sl (c.loops.map Loop.e), .sl (c.b.map Block.e)]) := by rw [hH]; rfl
 have h1 : H 1 = .box (.agg [.int .i64 0, .int .i64 0, .int .i64 0, .int .i64 0, .nil, .nil, .nil]) := by rw [hH]; rfl
 have u0 : (H 0).used = true := by rw [h0]; rfl
 have hmk : ∀ {K : D -> Prop} {n : Int}, 0 <= n -> n <= 1000 -> K (words (List.replicate n.toNat 0)) -> au PP (.mk 1 4 (.int .i32 0) (.c (.int .i64 n)) (.c (.int .i64 n))) H K := fun {K n} a1 a2 hk =>
  ⟨⟨a1, by omega, by omega, by omega⟩, ⟨rfl, by simp⟩, by rw [zm]; exact hk⟩
 simp only [List.nil_append, List.length_nil, List.length_singleton, ↓aH, u0, Nat.zero_add, ↓bY h0 (j := 2) rfl, true_and]
 refine hmk (by omega) (by omega) ?_
 simp only [↓aH, u0, Nat.zero_add, ↓bY h0 (j := 5) rfl, true_and]
 refine ox (QE hc.nar (fun a ha => ⟨by have := (hc.ar a ha).2; omega, by have := (hc.ar a ha).2; omega⟩) 3) ?_ ?_
 ·intro z hz
  simp [Arg.get] at hz
  rcases hz with rfl | rfl
  ·exact SZ rfl
  ·exact jM
 simp only [↓aH, u0, Nat.zero_add, ↓bY h0 (j := 3) rfl, true_and]
 refine hmk (by omega) (by omega) ?_
 rw [jt rfl, dq, h1]
 have e : (D.agg (fillD [.int .i64 0, .int .i64 0, .int .i64 0, .int .i64 0, .nil, .nil, .nil] ([(0, 1, Arg.c (D.int .i64 id)), (1, 1, .c (.int .i64 at_)), (3, 1, .c (.int .i64 ep)), (4, 1, .c (words (List.replicate c.regs.toNat 0))), (5, 1, .c (aO (zW 3 c.arrays))), (6, 1, .c (words (List.replicate c.slots.toNat 0)))].map fun p => (p.1, p.2.1, (p.2.2.get []).cells)))) = (bD c id ep at_).e := by
  rw [hs]; rfl
 rw [e]
 refine ⟨rfl, (It.bZ _).one, rfl, Nat.le_refl _, ?_⟩
 have es : setCells (.agg [.int .i64 0, .int .i64 0, .int .i64 0, .int .i64 0, .nil, .nil, .nil]) 0 (bD c id ep at_).e.cells = (bD c id ep at_).e := rfl
 rw [es]
 have : ∀ {K : HK}, ab PP (.ld (.c (.ptr 1 0 0)) 7 true) (ah H 1 (.box (bD c id ep at_).e)) K = K (bD c id ep at_).e (ah H 1 (.box (bD c id ep at_).e)) := fun {K} => dh (cs := (bD c id ep at_).cs) (ad _ _ _)
 rw [this]
 exact il (It.bZ _) rfl
theorem bq.Nz {c : Code} (_hc : bq c) {b : Int} (hb : 0 <= b /\ b < (c.b.length : Int)) : ∃ (k : Nat) (B : Block), b = (k : Int) /\ c.b[k]? = some B /\ B ∈ c.b /\ fy c b = B.t /\ Gf c b = B.i := by
 have hk : b.toNat < c.b.length := by omega
 have hg := List.getElem?_eq_getElem hk
 exact ⟨b.toNat, _, by omega, hg, List.getElem_mem hk, by simp [fy, hg], by simp [Gf, hg]⟩
theorem rh {P : Program} {c : Code} {k : Nat} {B : Block} (hb : c.b[k]? = some B) {h : Heap} {KH : HK} : ab P (.iadd (.c (.sl (c.b.map Block.e))) (.c (.int .i64 (k : Int))) 14) h KH = KH (.vp B.e 0) h := by
 have hk := (List.getElem?_eq_some_iff.1 hb).1
 rw [gX, Int.toNat_natCast, List.getElem?_map, hb, List.length_map]
 apply propext
 constructor
 ·rintro ⟨-, -, h⟩; exact (h _ rfl).2
 ·intro hk'; exact ⟨by omega, by omega, fun d hd => by cases hd; exact ⟨rfl, hk'⟩⟩
theorem HC {P : Program} {B : Block} {h : Heap} {KH : HK} : ab P (.ld (.c (.vp B.e 1)) 13 true) h KH = KH B.t.e h := by
 rw [iD, cw]
 have e : (B.e.cells.drop 1).take 13 = B.t.cs := rfl
 have l : B.e.cells.length = 14 := rfl
 rw [e, l]; simp [Term.e]
theorem PT {P : Program} {B : Block} {h : Heap} {KH : HK} : ab P (.ld (.c (.vp B.e 0)) 1 false) h KH = KH (.sl (B.i.map aR.e)) h := by rw [iD, bk]; rfl
theorem GG.ops {N : Nat} {R : Int} {t : Term} (h : GG N R t) : vT R t.a /\ (t.kind = 1 \/ t.kind = 2 \/ t.kind = 3 \/ t.kind = 4 \/ t.kind = 5) := by
 cases h with
 | jump a h => exact ⟨cI, by simp⟩
 | branch o a b ho h1 h2 => exact ⟨ho.val.r, by simp⟩
 | barrier a h => exact ⟨cI, by simp⟩
 | collect s d a b t hs hd ha hb h => exact ⟨ha.r, by simp⟩
 | exit => exact ⟨cI, by simp⟩
section
variable {h : Heap} {ro : Ro} {n : Nat} {c : Code} {l : dt} {it : It} {dR dL dE : D} {dm : Nat -> D} {nm : Nat} {ents : List (D × D)} {st : St}
theorem dJ.LC (x : dJ h ro n c l it dR dL dE dm nm ents st) (it' : It) : dJ (ah h n (.box (.agg (iW c l it' dR (dm 3) dL (dm 1) (dm 2) dE nm)))) ro n c l it' dR dL dE dm nm ents st := by
 have kp : jC (fun r => r ≠ .box) h ro (ah h n (.box (.agg (iW c l it' dR (dm 3) dL (dm 1) (dm 2) dE nm)))) ro := fun k _ hr => ⟨aa _ _ (by rintro rfl; exact hr x.rb), rfl⟩
 obtain ⟨m1, m2⟩ := kp nm (by rw [x.map]; simp) (by rw [x.rm]; simp)
 refine ⟨ad _ _ _, x.rb, x.sr.aB (cE.av (by rw [x.rb]; rfl)), by rw [m1]; exact x.map, by rw [m2]; exact x.rm, x.keys, x.tru, fun s i k els e w s1 s2 hd hk he hw => ?_⟩
 obtain ⟨k0, els0, g1, g2⟩ := x.sr.mem s s1 s2
 rw [g1] at hd; simp only [D.ms.injEq, true_and, and_true] at hd; subst hd
 rw [(kp k0 (cr g2.hk) (by rw [g2.rk]; simp)).1] at hk
 obtain ⟨a1, a2⟩ := x.own s i k0 els e w s1 s2 g1 hk he hw
 refine ⟨a1, fun hh => ?_⟩
 obtain ⟨q', c1, c2, c3⟩ := a2 hh
 obtain ⟨d1, d2⟩ := kp q' (cr c2) (by rw [c3]; simp)
 exact ⟨q', c1, by rw [d1]; exact c2, by rw [d2]; exact c3⟩
def zp (c : Code) (it1 : It) (dR dP dL : D) : D := if (fy c it1.block).kind = 5 then (bD c it1.id it1.epoch 3).e else sH (aT c it1) dR dP dL
theorem OB (x : dJ h ro n c l it dR dL dE dm nm ents st) (hc : bq c) (hw : qf c st) (hb : 0 <= it.block /\ it.block < (c.b.length : Int)) {KH : HK}
  (hK : ∀ h' ro' it', Fr ro h ro' h' -> dJ h' ro' n c l it' dR dL dE dm nm ents st -> KH (zp c { it with regs := st.regs, priv := st.mem 3 } dR (dm 3) dL) h') : ag PP gB [.ptr n 0 0] h KH := by
 refine aW tC (aA _ _ _) rfl (tq _ _) ?_
 (unfold nv; try dsimp only [xL, yL, xF, yF, xI, yI, xS, zI, zJ])
 obtain ⟨k, B, hbk, hB, hBm, ht, hi⟩ := hc.Nz hb
 obtain ⟨-, -, hT⟩ := hc.xs B hBm
 obtain ⟨ho, hkd⟩ := hT.ops
 rw [bQ]
 intro m t
 have x1 := x.new t.free (.box (.agg [.int .i64 0, .int .i64 0, .int .i64 0, .int .i64 0, .nil, .nil, .nil]))
 have f1 : Fr ro h (ah ro m .no) (ah h m (.box (.agg [.int .i64 0, .int .i64 0, .int .i64 0, .int .i64 0, .nil, .nil, .nil]))) := Fr.new t.free _
 have hm : ah h m (.box (.agg [.int .i64 0, .int .i64 0, .int .i64 0, .int .i64 0, .nil, .nil, .nil])) m = .box (.agg [.int .i64 0, .int .i64 0, .int .i64 0, .int .i64 0, .nil, .nil, .nil]) := ad _ _ _
 have rm : ah ro m .no m = .no := ad _ _ _
 have hmf := t.free
 generalize ah h m (.box (.agg [.int .i64 0, .int .i64 0, .int .i64 0, .int .i64 0, .nil, .nil, .nil])) = h1 at x1 f1 hm
 generalize ah ro m .no = ro1 at x1 f1 rm
 clear x t
 have hat : ∀ {K : D -> Prop}, au PP (.iadd (.c (.sl (c.b.map Block.e))) (.c (.int .i64 it.block)) 14) h1 K = K (.vp B.e 0) := fun {K} => by rw [hbk, fO, rh hB]
 have hld : ∀ {K : D -> Prop}, au PP (.ld (.c (.vp B.e 1)) 13 true) h1 K = K B.t.e := fun {K} => by rw [bO, HC]
 simp only [↓aH, x1.used, Nat.zero_add, Nat.reduceAdd, ↓bY x1.box (j := 7) rfl, ↓bY x1.box (j := 12) rfl, hat, ↓Gm, hld, true_and]
 rw [bQ]
 intro p t2
 rw [dq, ad]
 refine ⟨rfl, B.t.bZ.one, rfl, Nat.le_refl _, ?_⟩
 rw [gP]
 have es : setCells (.agg [(.int .i64 0), (.int .i64 0), (.int .i64 0), (.int .i64 0), (.int .i32 0), (.int .i64 0), (.int .i64 0), (.int .i32 0), (.int .i64 0), (.int .i64 0), (.int .i32 0), (.int .i64 0), (.int .i64 0)]) 0 B.t.e.cells = .agg B.t.cs := rfl
 rw [es]
 have hmp : m ≠ p := t2.ne (by rw [hm]; simp)
 have x2 := x1.new t2.free (.box (.agg B.t.cs))
 have f2 : Fr ro h (ah ro1 p .no) (ah h1 p (.box (.agg B.t.cs))) := f1.trans (Fr.new t2.free _)
 have hm2 : ah h1 p (.box (.agg B.t.cs)) m = .box (.agg [.int .i64 0, .int .i64 0, .int .i64 0, .int .i64 0, .nil, .nil, .nil]) := by rw [aa _ _ hmp]; exact hm
 have hp2 : ah h1 p (.box (.agg B.t.cs)) p = .box (.agg B.t.cs) := ad _ _ _
 have rm2 : ah ro1 p .no m = .no := by rw [aa _ _ hmp]; exact rm
 have rp2 : ah ro1 p .no p = .no := ad _ _ _
 generalize ah h1 p (.box (.agg B.t.cs)) = h2 at x2 f2 hm2 hp2
 generalize ah ro1 p .no = ro2 at x2 f2 rm2 rp2
 clear x1 f1 hm rm t2 hat hld
 have up : (h2 p).used = true := by rw [hp2]; rfl
 obtain ⟨it1, hit1⟩ : ∃ it1 : It, it1 = { it with regs := st.regs, priv := st.mem 3 } := ⟨_, rfl⟩
 rw [<- hit1] at hK
 have tt : fy c it1.block = B.t := by rw [hit1]; exact ht
 have o3 := (x2.sr.mem 3 (by omega) (by omega)).one
 have oR := x2.sr.regs.one
 have oL := x2.sr.sl.one
 refine ⟨fun qs h' => Fr ro h ro2 h' /\ dJ h' ro2 n c l (aT c it1) dR dL dE dm nm ents st /\ h' m = .box (.agg [.int .i64 0, .int .i64 0, .int .i64 0, .int .i64 0, .nil, .nil, .nil]) /\ (fy c it1.block).kind ≠ 5, ?_, ?_⟩
 ·rintro f h' ⟨f3, x3, hm3, h5⟩
  have e7 : ∀ {K : HK}, ab PP (.ld (.c (.ptr n 0 10)) 7 true) h' K = K (sH (aT c it1) dR (dm 3) dL) h' := fun {K} => by rw [qP x3.box (by simp [iW])]; rfl
  simp only [↓bf x3.used, Nat.zero_add, e7, true_and]
  rw [dq, hm3]
  refine ⟨rfl, fun z hz => ?_, rfl, Nat.le_refl _, ?_⟩
  ·simp [sH] at hz
   rcases hz with rfl | rfl | rfl | rfl | rfl | rfl | rfl <;> first | rfl | assumption
  have e8 : setCells (.agg [.int .i64 0, .int .i64 0, .int .i64 0, .int .i64 0, .nil, .nil, .nil]) 0 (sH (aT c it1) dR (dm 3) dL).cells = sH (aT c it1) dR (dm 3) dL := rfl
  rw [e8]
  have e9 : ∀ {g : Heap} {K : HK}, ab PP (.ld (.c (.ptr m 0 0)) 7 true) (ah g m (.box (sH (aT c it1) dR (dm 3) dL))) K = K (sH (aT c it1) dR (dm 3) dL) (ah g m (.box (sH (aT c it1) dR (dm 3) dL))) := fun {g K} => dh (ad _ _ _)
  rw [e9]
  have := hK (ah h' m (.box (sH (aT c it1) dR (dm 3) dL))) ro2 _ (f3.H6 hmf) (x3.av rm2 _)
  simp only [zp, h5, if_false] at this
  exact this
 have GC : ∀ {g : Heap} {j : Nat} {d : D} {K : HK}, g p = .box (.agg B.t.cs) -> B.t.cs[j]? = some d -> ab PP (.ld (.c (.ptr p 0 j)) 1 false) g K = K d g := fun a b => eG a b
 have ia : ∀ {g : Heap} {a : Int} {i : Nat} {K : HK}, a = (i : Int) -> i < 2 -> g p = .box (.agg B.t.cs) -> ab PP (.iadda (.c (.ptr p 0 11)) (.c (.int .i64 a)) 2 1) g K = K (.ptr p 0 (11 + i)) g := fun {g a i K} ha hi hg => by
  subst ha
  have : ab PP (.iadda (.c (.ptr p 0 11)) (.c (.int .i64 (i : Int))) 2 1) g K = (0 <= (i : Int) /\ (i : Int) < ((2 : Nat) : Int) /\ (g p).live = true /\ K (.ptr p 0 (11 + (i : Int).toNat * 1)) g) := rfl
  rw [this, hg]
  apply propext
  constructor
  ·rintro ⟨-, -, -, h⟩; simpa using h
  ·intro h; exact ⟨by omega, by omega, rfl, by simpa using h⟩
 have GB : ∀ {g : Heap} {ro2' : Ro} {it' : It} {b : Int} {K : Heap -> Prop}, dJ g ro2' n c l it dR dL dE dm nm ents st -> K (ah g n (.box (.agg (iW c l { it with block := b } dR (dm 3) dL (dm 1) (dm 2) dE nm)))) -> ab PP (.st (.c (.ptr n 0 12)) (.c (.int .i64 b)) 1) g fun _ h' => K h' := fun {g ro2' it' b K} y hk => by
  rw [dq, y.box]
  exact ⟨rfl, by simp, rfl, by simp [iW], hk⟩
 have goBlock : ∀ {g : Heap} {b : Int}, dJ g ro2 n c l it dR dL dE dm nm ents st -> Fr ro h ro2 g -> g m = .box (.agg [.int .i64 0, .int .i64 0, .int .i64 0, .int .i64 0, .nil, .nil, .nil]) -> (fy c it1.block).kind ≠ 5 -> aT c it1 = { it1 with block := b } -> ab PP (.st (.c (.ptr n 0 12)) (.c (.int .i64 b)) 1) g fun _ h' =>
   Fr ro h ro2 h' /\ dJ h' ro2 n c l (aT c it1) dR dL dE dm nm ents st /\ h' m = .box (.agg [.int .i64 0, .int .i64 0, .int .i64 0, .int .i64 0, .nil, .nil, .nil]) /\ (fy c it1.block).kind ≠ 5 := by
  intro g b y fg gm h5 hl
  refine GB (it' := it) y ⟨fg.trans (Fr.av (by rw [y.rb]; simp) (by simp)), ?_, ?_, h5⟩
  ·rw [hl]
   have := y.LC { it1 with block := b }
   rw [hit1] at this ⊢
   exact this
  ·rw [aa _ _ (by rintro rfl; rw [y.rb] at rm2; cases rm2)]; exact gm
 simp only [↓bf up, Nat.zero_add, ↓GC hp2 (j := 0) rfl, ↓aM, true_and]
 rcases hkd with h0 | h0 | h0 | h0 | h0
 ·simp only [h0, decide_true, ↓af, ↓bf up, Nat.zero_add, true_and]
  rw [ia (a := 0) (i := 0) rfl (by omega) hp2, GC hp2 (j := 11) rfl]
  simp only [↓bf x2.used, Nat.zero_add, Nat.reduceAdd, ai, true_and]
  refine goBlock x2 f2 hm2 (by rw [tt, h0]; simp) ?_
  simp [aT, tt, h0]
 ·simp only [h0, Int.reduceEq, decide_false, decide_true, ↓af, ↓ae, ↓aH, x2.used, up, Nat.zero_add, Nat.reduceAdd, x2.O0, true_and]
  have e3 : ∀ {K : D -> Prop}, au PP (.ld (.c (.ptr p 0 5)) 3 true) h2 K = K B.t.a.e := fun {K} => by rw [bO, qP hp2 (by simp [Term.cs])]; rfl
  rw [e3]
  refine Jw x2 (by rw [hw.len]; exact ho) fun h3 e3 x3 => ?_
  have hp3 : h3 p = .box (.agg B.t.cs) := by rw [e3 p (by rw [hp2]; simp)]; exact hp2
  have hm3 : h3 m = .box (.agg [.int .i64 0, .int .i64 0, .int .i64 0, .int .i64 0, .nil, .nil, .nil]) := by rw [e3 m (by rw [hm2]; simp)]; exact hm2
  have up3 : (h3 p).used = true := by rw [hp3]; rfl
  rw [cH]
  by_cases hz : aY st.regs B.t.a = 0
  ·simp only [hz, decide_true, Bool.not_true, ↓ae, ↓bf up3, Nat.zero_add, true_and]
   rw [ia (a := 1) (i := 1) rfl (by omega) hp3, GC hp3 (j := 12) rfl]
   simp only [↓bf x3.used, Nat.zero_add, Nat.reduceAdd, ai, true_and]
   refine goBlock x3 (f2.trans (Fr.ext e3)) hm3 (by rw [tt, h0]; simp) ?_
   simp [aT, tt, h0]; rw [hit1]; simp [hz]
  ·simp only [hz, decide_false, Bool.not_false, ↓af, ↓bf up3, Nat.zero_add, true_and]
   rw [ia (a := 0) (i := 0) rfl (by omega) hp3, GC hp3 (j := 11) rfl]
   simp only [↓bf x3.used, Nat.zero_add, Nat.reduceAdd, ai, true_and]
   refine goBlock x3 (f2.trans (Fr.ext e3)) hm3 (by rw [tt, h0]; simp) ?_
   simp [aT, tt, h0]; rw [hit1]; simp [hz]
 ·simp only [h0, Int.reduceEq, decide_false, ↓ae, ↓bf x2.used, Nat.zero_add, Nat.reduceAdd, ai, true_and]
  rw [dq, x2.box]
  refine ⟨rfl, by simp, rfl, by simp [iW], f2.trans (Fr.av (by rw [x2.rb]; simp) (by simp)), ?_, ?_, by rw [tt, h0]; simp⟩
  ·have e : aT c it1 = { it1 with at_ := 2 } := by simp [aT, tt, h0]
   rw [e]
   have := x2.LC { it1 with at_ := 2 }
   rw [hit1] at this ⊢
   exact this
  ·rw [aa _ _ (by rintro rfl; rw [x2.rb] at rm2; cases rm2)]; exact hm2
 ·simp only [h0, Int.reduceEq, decide_false, ↓ae, ↓bf x2.used, Nat.zero_add, Nat.reduceAdd, ai, true_and]
  rw [dq, x2.box]
  refine ⟨rfl, by simp, rfl, by simp [iW], f2.trans (Fr.av (by rw [x2.rb]; simp) (by simp)), ?_, ?_, by rw [tt, h0]; simp⟩
  ·have e : aT c it1 = { it1 with at_ := 2 } := by simp [aT, tt, h0]
   rw [e]
   have := x2.LC { it1 with at_ := 2 }
   rw [hit1] at this ⊢
   exact this
  ·rw [aa _ _ (by rintro rfl; rw [x2.rb] at rm2; cases rm2)]; exact hm2
 ·simp only [h0, Int.reduceEq, decide_false, decide_true, ↓af, ↓ae, ↓aH, x2.used, Nat.zero_add, Nat.reduceAdd, ↓bY x2.box (j := 10) rfl, ↓bY x2.box (j := 13) rfl, true_and]
  have e8 : ∀ {K : D -> Prop}, au PP (.ld (.c (.ptr n 0 0)) 8 true) h2 K = K c.e := fun {K} => by rw [bO, qP x2.box (by simp [iW])]; rfl
  rw [e8]
  refine ox (Jx hc) ?_ ?_
  ·intro z hz
   simp [Arg.get] at hz
   rcases hz with rfl | rfl | rfl | rfl
   ·exact ju c
   ·exact jM
   ·exact jM
   ·exact jM
  rw [dq, hm2]
  refine ⟨rfl, (It.bZ _).one, rfl, Nat.le_refl _, ?_⟩
  have e9 : setCells (.agg [.int .i64 0, .int .i64 0, .int .i64 0, .int .i64 0, .nil, .nil, .nil]) 0 (bD c it.id it.epoch 3).e.cells = (bD c it.id it.epoch 3).e := rfl
  rw [e9]
  have e10 : ∀ {g : Heap} {K : HK}, ab PP (.ld (.c (.ptr m 0 0)) 7 true) (ah g m (.box (bD c it.id it.epoch 3).e)) K = K (bD c it.id it.epoch 3).e (ah g m (.box (bD c it.id it.epoch 3).e)) := fun {g K} => dh (cs := (bD c it.id it.epoch 3).cs) (ad _ _ _)
  rw [e10]
  have := hK (ah h2 m (.box (bD c it.id it.epoch 3).e)) ro2 it (f2.H6 hmf) (x2.av rm2 _)
  simp only [zp, tt, h0, if_true] at this
  rw [hit1] at this
  exact this
end
end Go.Am
namespace Go.Am
open Go Go.Proofs
theorem S1 {vals : Array Value} (h : vals.size = 8) : ∃ a b c d e f g i : Value, vals = #[a, b, c, d, e, f, g, i] := by
 obtain ⟨l⟩ := vals
 match l, h with
 | [a, b, c, d, e, f, g, i], _ => exact ⟨a, b, c, d, e, f, g, i, rfl⟩
theorem Kc : Idle PP gg 8 := by
 intro w vals hs
 obtain ⟨a, b, c, d, e, f, g, i, rfl⟩ := S1 hs
 refine CallsDIn.mono (R := fun e u w' => e = .returned (.tuple #[]) /\ u = .returning /\ w' = w) ?_ (by rintro e u w' ⟨rfl, rfl, rfl⟩; exact ⟨_, rfl, rfl, rfl⟩)
 refine callsDIn_of_wpSIn Try.func59 rfl trivial fun c₀ cs hu => ?_
 apply wpSIn_seq
 apply wpSIn_region
 simp [wpOpsSIn, go_sem, recoverD, hu, Try.ntmps59, Exit.thenS]
 apply wpSIn_seq
 apply wpSIn_region
 simp [wpOpsSIn, go_sem, Exit.thenS]
 refine wpSIn_cond (t := false) (by simp [Act.eval]) ?_
 simp only [Bool.false_eq_true, if_false]
 refine wpSIn_of_wpIn rfl (wpIn_skip ?_)
 cases c₀
 simp_all [bodyPostS, results]
theorem grow {c : Ctx} (hr : aj c) (o : Obj) : c.le ⟨c.ρ, c.X, c.h, c.hp.push o⟩ /\ aj ⟨c.ρ, c.X, c.h, c.hp.push o⟩ := by
 have hg : ∀ g, g < c.hp.size -> (c.hp.push o)[g]? = c.hp[g]? := fun g h => by rw [Array.getElem?_push, if_neg (by omega)]
 have lt : ∀ {g : Nat} {x : Obj}, c.hp[g]? = some x -> g < c.hp.size := fun h => (Array.getElem?_eq_some_iff.1 h).1
 have hle : c.le ⟨c.ρ, c.X, c.h, c.hp.push o⟩ :=
  ⟨by simp, rfl, fun g h _ => hg g h, fun g cur _ _ h => ⟨cur, by rw [<- h]; exact hg g (lt h), rfl⟩, fun g r h => ⟨r, by rw [<- h]; exact hg g (lt h), rfl⟩, fun _ _ => rfl, fun _ => Trans.refl _, fun n g hm hρ _ => ⟨n, hm, hρ⟩⟩
 refine ⟨hle, fun n => gr hle (hr.slot n) (fun _ _ => rfl) (fun g hm hρ => ?_), hr.inj, hr.apart, fun g hx => by have := hr.xlt g hx; simp; omega, hr.fin, hr.glob.mono hle, by have := hr.lo; simp; omega⟩
 have hs := hr.slot n
 refine hg g ?_
 cases hn : c.h n with
 | free => rw [hn] at hm; cases hm
 | dead => rw [hn] at hm; cases hm
 | box v => rw [hn] at hs; obtain ⟨g', cur, ty, h1, h2, -⟩ := hs; rw [hρ] at h1; cases h1; exact lt h2
 | arr e l =>
  rw [hn] at hs
  obtain ⟨-, -, -, ⟨h1, -⟩ | ⟨g', cur, ty, h1, h2, -⟩⟩ := hs
  ·rw [hρ] at h1; cases h1
  ·rw [hρ] at h1; cases h1; exact lt h2
 | frz e l => rw [hn] at hm; cases hm
 | lp st B => rw [hn] at hs; obtain ⟨g', t, d, h1, h2, -⟩ := hs; rw [hρ] at h1; cases h1; exact lt h2
 | map kt l => rw [hn] at hs; obtain ⟨g', t, d, h1, h2, -⟩ := hs; rw [hρ] at h1; cases h1; exact lt h2
theorem Od (w : World) : (Instr.typeAssert (.iface 124 (.agg #[])) 20 124 true).run PP w = .ok (.tuple #[.agg #[], .bool true]) w := by kernel_rfl
def PC (o : Oper) : Prop := (∃ t x, o.op = .load t x) \/ ∃ t x y, o.op = .store t x y
theorem TB {F : Fence} {n : Nat} {o : Oper} {a : Act} {w : World} {next next' : Act -> World -> Prop} {Q : Exit -> Act -> World -> Prop} {dfs : List Deferred} (hd : a.defers = dfs) (hn : ∀ v w', next (a.put o.dst v) w' -> next' (a.put o.dst v) w') {s : Sem Value}
  (h : o.uponIn F n PP a next Q ((do pure (Next.value (<- s)) : Sem Next).run PP w)) : o.uponIn F n PP a next' (fun e a' w' => Q e a' w' /\ a'.defers = dfs) ((do pure (Next.value (<- s)) : Sem Next).run PP w) := by
 simp only [Sem.run_bind] at h ⊢
 cases hr : s.run PP w with
 | ok v w' => rw [hr] at h; exact hn v w' h
 | halt x w' =>
  rw [hr] at h
  cases x with
  | panic v => exact ⟨h, hd⟩
  | _ => exact h
theorem TC {F : Fence} {n : Nat} {o : Oper} {a : Act} {w : World} {next next' : Act -> World -> Prop} {Q : Exit -> Act -> World -> Prop} {dfs : List Deferred} (hd : a.defers = dfs) (hn : ∀ v w', next (a.put o.dst v) w' -> next' (a.put o.dst v) w') {s : Sem Unit}
  (h : o.uponIn F n PP a next Q ((do s; pure Next.skip : Sem Next).run PP w)) : o.uponIn F n PP a next' (fun e a' w' => Q e a' w' /\ a'.defers = dfs) ((do s; pure Next.skip : Sem Next).run PP w) := by
 simp only [Sem.run_bind] at h ⊢
 cases hr : s.run PP w with
 | ok v w' => rw [hr] at h; exact hn _ w' h
 | halt x w' =>
  rw [hr] at h
  cases x with
  | panic v => exact ⟨h, hd⟩
  | _ => exact h
theorem QT {F : Fence} {n : Nat} {o : Oper} {a : Act} {w : World} {next next' : Act -> World -> Prop} {Q : Exit -> Act -> World -> Prop} {dfs : List Deferred} (hd : a.defers = dfs) (hn : ∀ v w', next (a.put o.dst v) w' -> next' (a.put o.dst v) w') (ho : PC o)
  (h : o.uponIn F n PP a next Q ((execOp a.eval o).run PP w)) : o.uponIn F n PP a next' (fun e a' w' => Q e a' w' /\ a'.defers = dfs) ((execOp a.eval o).run PP w) := by
 rcases ho with ⟨t, x, e⟩ | ⟨t, x, y, e⟩
 ·simp only [execOp, e] at h ⊢
  exact TB hd hn h
 ·simp only [execOp, e] at h ⊢
  exact TC hd hn h
theorem Kt {F : Fence} {n : Nat} {ops : Array Oper} {Q : Exit -> Act -> World -> Prop} {dfs : List Deferred} (hops : ∀ (i : Nat) (o : Oper), ops[i]? = some o -> PC o) :
  ∀ (l : List Nat) (a : Act) (w : World), a.defers = dfs -> wpOpsIn F n PP ops Q l a w -> wpOpsIn F n PP ops (fun e a' w' => Q e a' w' /\ a'.defers = dfs) l a w := by
 intro l
 induction l with
 | nil => exact fun a w hd h => ⟨h, hd⟩
 | cons i rest ih =>
  intro a w hd h
  have put : ∀ v dst, (a.put dst v).defers = dfs := fun v dst => by cases dst <;> exact hd
  simp only [wpOpsIn] at h ⊢
  cases ho : ops[i]? with
  | none => rw [ho] at h; exact ih a w hd h
  | some o =>
   rw [ho] at h
   simp only at h ⊢
   by_cases hw : Region.wanted o (yielded ops a.tmps) = true
   ·rw [if_pos hw] at h ⊢
    refine ⟨h.1, ?_⟩
    have h2 := h.2
    have hnd : ∀ c, o.op ≠ .defer c := by
     rcases hops i o ho with ⟨t, x, e⟩ | ⟨t, x, y, e⟩ <;> rw [e] <;> intro c hc <;> cases hc
    rw [Oper.semAt_eq _ _ _ hnd] at h2 ⊢
    exact QT hd (fun v w' hh => ih _ _ (put _ _) hh) (hops i o ho) h2
   ·rw [if_neg hw] at h ⊢
    exact ⟨h.1, ih _ _ (put _ _) h.2⟩
def l5 : List AOper := [⟨(some 22), .ld (.t 0) 7 true, none⟩, ⟨(some 23), .ld (.t 1) 1 false, none⟩, ⟨(some 24), .ld (.t 2) 1 false, none⟩, ⟨none, .st (.t 3) (.t 22) 7, none⟩, ⟨none, .st (.t 4) (.t 23) 1, none⟩, ⟨none, .st (.t 5) (.t 24) 1, none⟩, ⟨none, .st (.t 6) (.c .nil) 1, none⟩,
  ⟨none, .st (.t 7) (.c (.int .i64 70)) 1, none⟩]
noncomputable def Mi : Array Oper := match Try.f59.body with
 | some (.seq _ (.seq _ (.cond _ (.seq _ (.region _ ops _)) _))) => ops
 | _ => #[]
theorem OI : (Mi.toList.drop 0).mapM (cOper PP true 25 Mi) = some l5 := by kernel_rfl
theorem ops5_ls (i : Nat) (o : Oper) (h : Mi[i]? = some o) : PC o := by
 have : Mi.toList.all (fun o => match o.op with | .load _ _ => true | .store _ _ _ => true | _ => false) = true := by kernel_rfl
 have hm : o ∈ Mi.toList := by
  rw [<- Array.getElem?_toList] at h
  exact List.mem_of_getElem? h
 have := (List.all_eq_true.1 this) o hm
 unfold PC
 split at this
 ·rename_i t x e; exact Or.inl ⟨t, x, e⟩
 ·rename_i t x y e; exact Or.inr ⟨t, x, y, e⟩
 ·cases this
theorem Kd {ds : List D} {h : Heap} {K : Heap -> Prop} (hds : ds.length = 8) (hv : wc PP l5 (fun _ h' => K h') (params ds 0) h) : NT PP gg ds h K := by
 intro c0 w vals hh hp hr hs hrel
 obtain ⟨a, b, c, d, e, f, g, i, rfl⟩ := S1 (hs.trans hds)
 have hpv : bS.panv = Value.iface 124 (.agg #[]) := rfl
 rw [hpv]
 generalize hR : (fun (e : Ending) (u : FrameMode) (w' : World) => ∃ (v : Value) (ρ : Nat -> Option Nat) (h' : Heap), e = .returned v /\ u = .panicking [{ v := Value.iface 124 (.agg #[]), recovered := true }] /\
   c0.le ⟨ρ, c0.X, h', w'.heap⟩ /\ aj ⟨ρ, c0.X, h', w'.heap⟩ /\ WS w w' /\ K h') = R
 refine callsDIn_of_wpSIn Try.func59 rfl trivial fun c₀ cs hu => ?_
 apply wpSIn_seq
 apply wpSIn_region
 simp [wpOpsSIn, go_sem, recoverD, hu, Try.ntmps59, Exit.thenS]
 apply wpSIn_seq
 apply wpSIn_region
 simp [wpOpsSIn, go_sem, Exit.thenS]
 refine wpSIn_cond (t := true) (by simp [Act.eval]) ?_
 simp only [if_true]
 apply wpSIn_seq
 apply wpSIn_seq
 apply wpSIn_region
 simp [wpOpsSIn, go_sem, Exit.thenS, Od]
 apply wpSIn_seq
 apply wpSIn_region
 simp [wpOpsSIn, go_sem, Exit.thenS]
 refine wpSIn_cond (t := false) (by simp [Act.eval]) ?_
 simp only [Bool.false_eq_true, if_false]
 refine wpSIn_of_wpIn rfl (wpIn_skip ?_)
 refine wpSIn_of_wpIn rfl ?_
 obtain ⟨g1, g2⟩ := grow hr (Obj.cells #[] 124)
 have hw1 : (w.alloc (Obj.cells #[] 124)).heap = c0.hp.push (Obj.cells #[] 124) := by rw [hp]; rfl
 generalize hw1' : w.alloc (Obj.cells #[] 124) = w1 at hw1 ⊢
 have ws1 : WS w w1 := by subst hw1'; exact ⟨rfl, rfl, rfl⟩
 obtain ⟨cg, hcg⟩ : ∃ cg : Ctx, cg = ⟨c0.ρ, c0.X, c0.h, c0.hp.push (Obj.cells #[] 124)⟩ := ⟨_, rfl⟩
 rw [<- hcg] at g1 g2
 obtain ⟨c1, hc1⟩ : ∃ c1 : Ctx, c1 = ⟨c0.ρ, ⟨c0.X.p, c0.X.lo, []⟩, c0.h, w1.heap⟩ := ⟨_, rfl⟩
 have hsame : je cg c1 := by subst hc1 hcg; exact ⟨rfl, rfl, fun _ => Iff.rfl, by rw [hw1], fun _ _ _ _ h => by rw [hw1]; exact h, fun _ _ h => by rw [hw1]; exact h, fun _ _ _ h => by rw [hw1]; exact h⟩
 have hg1 : dM c1 := fun k o hk => by
  have := g2.glob k o hk
  subst hc1 hcg
  refine ⟨by rw [hw1]; exact this.1, fun ho => this.2 ((hsame.own k).1 ho), by rw [hw1]; exact this.3⟩
 have hr1 : aj c1 := g2.av hsame hg1 (by subst hc1; have := g2.lo; subst hcg; rw [hw1]; exact this)
 let a1 : Act := ⟨#[a, b, c, d, e, f, g, i] ++ (((((((((((((Array.replicate 17 Go.undef).setIfInBounds 3 (Value.iface 124 (Value.agg #[]))).setIfInBounds 0 (Value.iface 124 (Value.agg #[]))).setIfInBounds 4 (Value.iface 124 (Value.agg #[]))).setIfInBounds 5 (Value.bool true)).setIfInBounds 7 (Value.iface 124 (Value.agg #[]))).setIfInBounds
  8 (Value.tuple #[Value.agg #[], Value.bool true])).setIfInBounds 6 (Value.tuple #[Value.agg #[], Value.bool true])).setIfInBounds 9 (Value.agg #[])).setIfInBounds 10 (Value.bool true)).setIfInBounds 1 (Value.pointer (some { block := w.heap.size, off := 0 }))).setIfInBounds 2 (Value.bool true)).setIfInBounds 11 (Value.bool true)).setIfInBounds 12 (Value.bool !true), []⟩
 have hsim : jI c1 25 (params ds 0).get a1 := by
  refine ⟨hg1, hr1.lo, eE.nil (by subst hc1; rfl), by simp [a1], fun k => ?_⟩
  rw [kQ]
  split
  ·rename_i hk
   rw [Nat.sub_zero]
   have hkl : k < ds.length := by omega
   have hk8 : k < 8 := by omega
   have : ds.getD k .undef = ds[k] := by simp [List.getD, hkl]
   rw [this]
   have := ((hrel k ds[k] (List.getElem?_eq_getElem hkl)).mono (g1)).av hsame
   have e1 : a1.tmps.getD k Go.undef = (#[a, b, c, d, e, f, g, i] : Array Value).getD k Go.undef := by
    simp only [a1, Array.getD_eq_getD_getElem?]
    rw [Array.getElem?_append_left (by simpa using hk8)]
   rw [e1]; exact this
  ·exact .undef _
 have hch : c1.h = h := by subst hc1; exact hh
 have haw := Ej (nt := 25) l5 0 OI hv
 have hq := haw none c1 w1 a1 (fun e a' w' => e = .normal /\ Fin c1 w1 25 (up fun _ h' => K h') a' w') hch (by subst hc1; rfl) hr1 hsim (fun a' w' hf => ⟨rfl, hf⟩)
 have hq2 := Kt (dfs := []) ops5_ls _ a1 w1 rfl hq
 have hreg := wpIn_region (id := 5) hq2
 refine wpIn_mono hreg ?_
 rintro x a' w' ⟨⟨rfl, ρ, t, h', r1, r2, r3, r4, e', rfl, hk⟩, hd⟩
 have hle : cg.le ⟨ρ, cg.X, h', w'.heap⟩ := by
  have := r1.Oq cg.X cg.X rfl
  subst hc1 hcg
  rw [hw1] at this
  exact this
 have hle0 : c0.le ⟨ρ, c0.X, h', w'.heap⟩ := by
  have := g1.trans hle
  subst hcg; exact this
 refine ⟨hd, _, rfl, .tuple #[], by simp [results, go_sem, Try.f59], ?_⟩
 rw [<- hR]
 refine ⟨_, ρ, h', rfl, rfl, hle0, ?_, ws1.trans r3, hk⟩
 refine aj.av (c := ⟨ρ, c1.X, h', w'.heap⟩) (c' := ⟨ρ, c0.X, h', w'.heap⟩) ⟨rfl, rfl, fun g => by subst hc1; exact Iff.rfl, rfl, fun _ _ _ _ h => h, fun _ _ h => h, fun _ _ _ h => h⟩ r2 (hr.glob.mono hle0) (Nat.le_trans hr.lo hle0.size)
theorem Qg {s a : Int} (ha : gE a) : gE (Jh s a) :=
 bP (bP ha (cZ _)) <| bP (cZ _) <| bP (cZ _) <| bP (cZ _) (C6 ha (by simp [IntKind.bits]))
theorem Me {c : Code} {l : dt} {id : Int} {x : aR} {st : St} (hl : lF c l) (hw : qf c st) (hx : oN c x) (hop : x.op <= 6) : gE (gd c l id x st.regs) := by
 have va := fun {o : dQ} (ho : iH c.regs o) => jl hw.regs ho
 have z : gE 0 := ⟨by omega, by omega⟩
 unfold gd
 obtain ⟨hx, -, -⟩ := hx
 cases hx with
 | mov d a h1 h2 => simpa using va h2
 | un s d a h0 h1 h2 => simpa using Qg (va h2)
 | bin s d a b h0 h1 h2 h3 => simpa using Gu h0 (va h2) (va h3)
 | sel d a b cc h1 h2 h3 h4 => simpa using bP (va h4) (va h3)
 | id s d h0 h1 => simpa using cZ _
 | param k d h0 h1 => simpa using Gg hl.w _
 | load _ _ _ _ _ _ => simp at hop
 | store _ _ _ _ _ _ => simp at hop
 | atom _ _ _ _ _ _ _ _ => simp at hop
 | fence _ _ => simp at hop
theorem qf.oZ {c : Code} {st : St} (h : qf c st) {k : Nat} {v : Int} (hv : gE v) : qf c (st.oZ k v) := ⟨by simpa [St.oZ] using h.len, C4 h.regs hv, h.mem⟩
theorem qf.tell {c : Code} {st : St} (h : qf c st) (e : Ev) : qf c (st.tell c e) := ⟨h.len, h.regs, h.mem⟩
theorem wj {c : Code} {st : St} {e : Ev} : (st.tell c e).ev.length <= st.ev.length + 1 := by
 simp only [St.tell]; split <;> simp
theorem D7 {c : Code} {l : dt} {id : Int} {x : aR} {e : Ev} {st st' : St} (hc : bq c) (hl : lF c l) (hw : qf c st) (hx : oN c x) (h : dC c l id x e st = some st') : qf c st' /\ st'.ev.length <= st.ev.length + 1 := by
 unfold dC at h
 by_cases h7 : x.op = 7
 ·rw [if_pos h7] at h
  split at h
  ·obtain ⟨k, h1, h2, h3, -⟩ := hx.acc (Or.inl h7)
   cases h
   rw [h1]
   exact ⟨(hw.tell _).oZ (St.qh hw (jw hc h2) hc _), wj⟩
  ·cases h
 rw [if_neg h7] at h
 by_cases h8 : x.op = 8
 ·rw [if_pos h8] at h
  split at h
  ·obtain ⟨k, h1, h2, h3, h4⟩ := hx.acc (Or.inr (Or.inl h8))
   cases h
   exact ⟨(hw.put (jl hw.regs (h4 h7))).tell _, wj⟩
  ·cases h
 rw [if_neg h8] at h
 by_cases h9 : x.op = 9
 ·rw [if_pos h9] at h
  split at h
  ·obtain ⟨k, h1, h2, h3, h4⟩ := hx.acc (Or.inr (Or.inr h9))
   cases h
   rw [h1]
   exact ⟨(hw.put (Gu (hx.HG h9) (St.qh hw (jw hc h2) hc _) (jl hw.regs (h4 h7)))).tell _, wj⟩
  ·cases h
 rw [if_neg h9] at h
 by_cases h10 : x.op = 10
 ·rw [if_pos h10] at h
  cases h
  exact ⟨hw.tell _, wj⟩
 rw [if_neg h10] at h
 cases h
 have hop : x.op <= 6 := by have := hx.Sq; omega
 exact ⟨hw.oZ (Me hl hw hx hop), by simp [St.oZ]⟩
theorem Jn {c : Code} {l : dt} {id av block : Int} (hc : bq c) (hl : lF c l) : ∀ (xs : List aR) (k : Nat) (st st' : St), (∀ x ∈ xs, oN c x) -> qf c st -> runP c l id av block xs k st = some st' -> qf c st' /\ st'.ev.length <= st.ev.length + xs.length
 | [], k, st, st', _, hw, h => by cases h; exact ⟨hw, by simp⟩
 | x :: r, k, st, st', hx, hw, h => by
  simp only [runP, Option.bind_eq_some_iff] at h
  obtain ⟨s1, h1, h2⟩ := h
  obtain ⟨w1, l1⟩ := D7 hc hl hw (hx x (by simp)) h1
  obtain ⟨w2, l2⟩ := Jn hc hl r (k + 1) s1 st' (fun y hy => hx y (by simp [hy])) w1 h2
  exact ⟨w2, by simp; omega⟩
structure NR (c : Code) (l : dt) (it : It) : Prop where
 id : 0 <= it.id /\ it.id < l.groups * c.group
 at_ : it.at_ = 1 \/ it.at_ = 2 \/ it.at_ = 3
 block : 0 <= it.block /\ it.block < (c.b.length : Int)
 len : (it.regs.length : Int) = c.regs
 regs : ∀ v ∈ it.regs, gE v
 priv : gL c.arrays 3 it.priv
theorem Ic {c : Code} {l : dt} {it : It} {g s : Mm} (h : NR c l it) (hg : gL c.arrays 1 g) (hs : gL c.arrays 2 s) : qf c (EZ it g s) := by
 refine ⟨h.len, h.regs, fun k h1 h2 => ?_⟩
 have : k = 1 \/ k = 2 \/ k = 3 := by omega
 rcases this with rfl | rfl | rfl
 ·exact hg
 ·exact hs
 ·exact h.priv
theorem Mc {h : Heap} {KH : HK} (h1 : KH .nil h)
  (hK : ∀ (q : Nat) (h' : Heap), h q = .free -> h' q = .arr 1 [] -> (∀ k, h k ≠ .free -> h' k = h k) -> KH (.ms q 0 0) h') : ag PP aQ [.sl []] h KH := by
 refine aW eV (aA _ _ _) rfl (eU _ _) ?_
 (unfold de; try dsimp only [xL, yL, xF, yF, xI, yI, xS, zI, zJ])
 have : ∀ {KH : HK}, ab PP (.nilq false (.c (.sl []))) h KH = (KH (.bool true) h /\ KH (.bool false) h) := rfl
 rw [this, ae, af]
 refine ⟨h1, qR fun n t => ?_⟩
 refine ⟨fun d hd => (by cases hd), fun y hy => (by cases hy), [], ad _ _ _, rfl, rfl, ⟨by simp, by simp⟩, fun m t2 => ?_⟩
 have hf := t2.free
 have hmn : m ≠ n := by rintro rfl; rw [ad] at hf; cases hf
 exact hK m (ah (ah (ah h n (.arr 1 [])) n .dead) m (.arr 1 [])) (by rw [aa _ _ hmn] at hf; exact hf) (ad _ _ _) fun k hk => by
  have h1 : k ≠ n := t.ne hk
  have h2 : k ≠ m := t2.ne (by rw [aa _ _ h1]; exact hk)
  rw [aa _ _ h2, aa _ _ h1, aa _ _ h1]
theorem cE.Tw {ro : Ro} {h h' : Heap} {n : Nat} (hn : h n = .free) (hk : ∀ k, h k ≠ .free -> h' k = h k) (r : mP) : cE h ro h' (ah ro n r) := fun k hf _ => by
 have : k ≠ n := by rintro rfl; exact hf hn
 exact ⟨hk k hf, aa _ _ this⟩
theorem H9 {a b c d e f g i : Nat} {h : Heap} {K : Heap -> Prop}
  (hv : ab PP (.ld (.c (.ptr a 0 0)) 7 true) h fun x h1 => ab PP (.ld (.c (.ptr b 0 0)) 1 false) h1 fun y h2 => ab PP (.ld (.c (.ptr c 0 0)) 1 false) h2 fun z h3 =>
   ab PP (.st (.c (.ptr d 0 0)) (.c x) 7) h3 fun _ h4 => ab PP (.st (.c (.ptr e 0 0)) (.c y) 1) h4 fun _ h5 => ab PP (.st (.c (.ptr f 0 0)) (.c z) 1) h5 fun _ h6 =>
   ab PP (.st (.c (.ptr g 0 0)) (.c .nil) 1) h6 fun _ h7 => ab PP (.st (.c (.ptr i 0 0)) (.c (.int .i64 70)) 1) h7 fun _ h8 => K h8) :
  NT PP gg [.ptr a 0 0, .ptr b 0 0, .ptr c 0 0, .ptr d 0 0, .ptr e 0 0, .ptr f 0 0, .ptr g 0 0, .ptr i 0 0] h K := Kd rfl hv
structure eh (h : Heap) (c : Code) (l : dt) (it : It) (g s : Mm) : Prop where
 b0 : h 0 = .box c.e
 b1 : h 1 = .box l.e
 b2 : h 2 = .box (.agg it.cs)
 b3 : h 3 = .box (aO g)
 b4 : h 4 = .box (aO s)
 b5 : h 5 = .box (.agg [.int .i64 0, .int .i64 0, .int .i64 0, .int .i64 0, .nil, .nil, .nil])
 b6 : h 6 = .box .nil
 b7 : h 7 = .box .nil
 b8 : h 8 = .box .nil
 b9 : h 9 = .box (.int .i64 0)
theorem eh.aB {h h' : Heap} {c : Code} {l : dt} {it : It} {g s : Mm} (b : eh h c l it g s) (k : ∀ j, j < 10 -> h' j = h j) : eh h' c l it g s :=
  ⟨by rw [k 0 (by omega)]; exact b.b0, by rw [k 1 (by omega)]; exact b.b1, by rw [k 2 (by omega)]; exact b.b2, by rw [k 3 (by omega)]; exact b.b3, by rw [k 4 (by omega)]; exact b.b4,
   by rw [k 5 (by omega)]; exact b.b5, by rw [k 6 (by omega)]; exact b.b6, by rw [k 7 (by omega)]; exact b.b7, by rw [k 8 (by omega)]; exact b.b8, by rw [k 9 (by omega)]; exact b.b9⟩
theorem eh.nf {h : Heap} {c : Code} {l : dt} {it : It} {g s : Mm} (b : eh h c l it g s) {j : Nat} (hj : j < 10) : h j ≠ .free := by
 have : j = 0 \/ j = 1 \/ j = 2 \/ j = 3 \/ j = 4 \/ j = 5 \/ j = 6 \/ j = 7 \/ j = 8 \/ j = 9 := by omega
 rcases this with rfl | rfl | rfl | rfl | rfl | rfl | rfl | rfl | rfl | rfl
 ·rw [b.b0]; simp
 ·rw [b.b1]; simp
 ·rw [b.b2]; simp
 ·rw [b.b3]; simp
 ·rw [b.b4]; simp
 ·rw [b.b5]; simp
 ·rw [b.b6]; simp
 ·rw [b.b7]; simp
 ·rw [b.b8]; simp
 ·rw [b.b9]; simp
section
variable {h : Heap} {c : Code} {l : dt} {it : It} {g s : Mm} {K : D -> Prop}
theorem eh.lc (b : eh h c l it g s) : au PP (.ld (.c (.ptr 0 0 0)) 8 true) h K = K c.e := by rw [bO]; exact dh b.b0
theorem eh.ll (b : eh h c l it g s) : au PP (.ld (.c (.ptr 1 0 0)) 2 true) h K = K l.e := by rw [bO]; exact dh b.b1
theorem eh.li (b : eh h c l it g s) : au PP (.ld (.c (.ptr 2 0 0)) 7 true) h K = K it.e := by rw [bO]; exact dh b.b2
theorem GC {n : Nat} {d : D} (a : h n = .box d) (hd : d.cells = [d]) {KH : HK} : ab PP (.ld (.c (.ptr n 0 0)) 1 false) h KH = KH d h := by
 rw [lk, a]; simp [bk, hd]
theorem Ph {n : Nat} {d : D} (a : h n = .box d) (hd : d.cells = [d]) : au PP (.ld (.c (.ptr n 0 0)) 1 false) h K = K d := by rw [bO, GC a hd]
theorem eh.lg (b : eh h c l it g s) : au PP (.ld (.c (.ptr 3 0 0)) 1 false) h K = K (aO g) := Ph b.b3 rfl
theorem eh.ls (b : eh h c l it g s) : au PP (.ld (.c (.ptr 4 0 0)) 1 false) h K = K (aO s) := Ph b.b4 rfl
theorem RG {n : Nat} {d d' : D} (a : h n = .box d) (hd : d.cells = [d]) (hd' : d'.cells = [d']) (ho : d'.one = true) {KH : HK} : ab PP (.st (.c (.ptr n 0 0)) (.c d') 1) h KH = KH .undef (ah h n (.box d')) := by
 have e : setCells d 0 d'.cells = d' := by
  rw [hd']
  cases d with
  | agg cs =>
   exfalso
   have h0 : cs = [D.agg cs] := hd
   have := congrArg (fun x : List D => SizeOf.sizeOf x) h0
   simp at this
   omega
  | _ => rfl
 rw [dq, a]
 apply propext
 constructor
 ·rintro ⟨-, -, -, -, h⟩; rw [e] at h; exact h
 ·intro h; exact ⟨by rw [hd']; rfl, fun x hx => by rw [hd'] at hx; simp at hx; subst hx; exact ho, rfl, by rw [hd]; simp, by rw [e]; exact h⟩
end
theorem MH (it : It) : aw it.e := it.bZ.one
theorem Rh {h : Heap} {dI dG dS dE : D} {cs : List D} (hI : dI = .agg cs) (hcs : cs.length = 7) (oI : aw dI) (b5 : h 5 = .box (.agg [.int .i64 0, .int .i64 0, .int .i64 0, .int .i64 0, .nil, .nil, .nil])) (b6 : h 6 = .box .nil) (b7 : h 7 = .box .nil) (b8 : h 8 = .box .nil) (b9 : h 9 = .box (.int .i64 0))
  (hG : dG.cells = [dG] /\ dG.one = true) (hS : dS.cells = [dS] /\ dS.one = true) (hE : dE.cells = [dE] /\ dE.one = true) {n : Int} {R1 R2 R3 R4 R5 : Heap -> Prop}
  (hR : ∀ h', (∀ k, k ≠ 5 -> k ≠ 6 -> k ≠ 7 -> k ≠ 8 -> k ≠ 9 -> h' k = h k) -> R1 h' /\ R2 h' /\ R3 h' /\ R4 h' /\ R5 h') {KH : HK}
  (hK : ∀ h', (∀ k, k ≠ 5 -> k ≠ 6 -> k ≠ 7 -> k ≠ 8 -> k ≠ 9 -> h' k = h k) -> KH (.tup [dI, dG, dS, dE, .int .i64 n]) h') :
  ab PP (.st (.c (.ptr 5 0 0)) (.c dI) 7) h fun _ h1 => R1 h1 /\ ab PP (.st (.c (.ptr 6 0 0)) (.c dG) 1) h1 fun _ h2 => R2 h2 /\ ab PP (.st (.c (.ptr 7 0 0)) (.c dS) 1) h2 fun _ h3 => R3 h3 /\
  ab PP (.st (.c (.ptr 8 0 0)) (.c dE) 1) h3 fun _ h4 => R4 h4 /\ ab PP (.st (.c (.ptr 9 0 0)) (.c (.int .i64 n)) 1) h4 fun _ h5 => R5 h5 /\
  ab PP (.ld (.c (.ptr 5 0 0)) 7 true) h5 fun a _ => ab PP (.ld (.c (.ptr 6 0 0)) 1 false) h5 fun b _ => ab PP (.ld (.c (.ptr 7 0 0)) 1 false) h5 fun c _ => ab PP (.ld (.c (.ptr 8 0 0)) 1 false) h5 fun d _ =>
  ab PP (.ld (.c (.ptr 9 0 0)) 1 false) h5 fun e _ => KH (.tup [a, b, c, d, e]) h5 := by
 subst hI
 rw [dq, b5]
 refine ⟨hcs, oI, rfl, by simp [hcs], ?_⟩
 have es : setCells (.agg [.int .i64 0, .int .i64 0, .int .i64 0, .int .i64 0, .nil, .nil, .nil]) 0 (D.agg cs).cells = .agg cs := by
  simp only [setCells, bV, List.take_zero, List.nil_append, hcs]; simp
 rw [es]
 obtain ⟨h1, e1⟩ : ∃ h1, h1 = ah h 5 (.box (.agg cs)) := ⟨_, rfl⟩
 rw [<- e1]
 have q1 : ∀ k, k ≠ 5 -> h1 k = h k := fun k hk => by rw [e1, aa _ _ hk]
 have p5 : h1 5 = .box (.agg cs) := by rw [e1, ad]
 refine ⟨(hR h1 fun k a _ _ _ _ => q1 k a).1, ?_⟩
 rw [RG (by rw [q1 6 (by omega)]; exact b6) rfl hG.1 hG.2]
 obtain ⟨h2, e2⟩ : ∃ h2, h2 = ah h1 6 (.box dG) := ⟨_, rfl⟩
 rw [<- e2]
 have q2 : ∀ k, k ≠ 6 -> h2 k = h1 k := fun k hk => by rw [e2, aa _ _ hk]
 refine ⟨(hR h2 fun k a b _ _ _ => by rw [q2 k b, q1 k a]).2.1, ?_⟩
 rw [RG (by rw [q2 7 (by omega), q1 7 (by omega)]; exact b7) rfl hS.1 hS.2]
 obtain ⟨h3, e3⟩ : ∃ h3, h3 = ah h2 7 (.box dS) := ⟨_, rfl⟩
 rw [<- e3]
 have q3 : ∀ k, k ≠ 7 -> h3 k = h2 k := fun k hk => by rw [e3, aa _ _ hk]
 refine ⟨(hR h3 fun k a b c _ _ => by rw [q3 k c, q2 k b, q1 k a]).2.2.1, ?_⟩
 rw [RG (by rw [q3 8 (by omega), q2 8 (by omega), q1 8 (by omega)]; exact b8) rfl hE.1 hE.2]
 obtain ⟨h4, e4⟩ : ∃ h4, h4 = ah h3 8 (.box dE) := ⟨_, rfl⟩
 rw [<- e4]
 have q4 : ∀ k, k ≠ 8 -> h4 k = h3 k := fun k hk => by rw [e4, aa _ _ hk]
 refine ⟨(hR h4 fun k a b c d _ => by rw [q4 k d, q3 k c, q2 k b, q1 k a]).2.2.2.1, ?_⟩
 rw [RG (by rw [q4 9 (by omega), q3 9 (by omega), q2 9 (by omega), q1 9 (by omega)]; exact b9) rfl rfl rfl]
 obtain ⟨h5, e5⟩ : ∃ h5, h5 = ah h4 9 (.box (.int .i64 n)) := ⟨_, rfl⟩
 rw [<- e5]
 have q5 : ∀ k, k ≠ 9 -> h5 k = h4 k := fun k hk => by rw [e5, aa _ _ hk]
 have al : ∀ k, k ≠ 5 -> k ≠ 6 -> k ≠ 7 -> k ≠ 8 -> k ≠ 9 -> h5 k = h k := fun k a b c d e => by rw [q5 k e, q4 k d, q3 k c, q2 k b, q1 k a]
 refine ⟨(hR h5 al).2.2.2.2, ?_⟩
 have l5 : ∀ {KH : HK}, ab PP (.ld (.c (.ptr 5 0 0)) 7 true) h5 KH = KH (.agg cs) h5 := fun {KH} => by
  rw [<- hcs]; exact dh (by rw [q5 5 (by omega), q4 5 (by omega), q3 5 (by omega), q2 5 (by omega)]; exact p5)
 rw [l5, GC (d := dG) (by rw [q5 6 (by omega), q4 6 (by omega), q3 6 (by omega), e2, ad]) hG.1, GC (d := dS) (by rw [q5 7 (by omega), q4 7 (by omega), e3, ad]) hS.1, GC (d := dE) (by rw [q5 8 (by omega), e4, ad]) hE.1,
  GC (d := .int .i64 n) (by rw [e5, ad]) rfl]
 exact hK h5 al
end Go.Am
namespace Go.Am
open Go
def Qi (r : sO) : D := .tup [r.it.e, aO r.g, aO r.s, .sl (r.ev.map Ev.e), .int .i64 r.e]
theorem od {m : Mm} : (aO m).cells = [aO m] /\ (aO m).one = true := ⟨rfl, rfl⟩
theorem QQ {d : D} (h : d.one = true) : d.cells = [d] /\ d.one = true := ⟨gx h, h⟩
theorem JG {P : Program} {xs : List aR} {k : Nat} {x : aR} (hx : xs[k]? = some x) {h : Heap} {KH : HK} : ab P (.iadd (.c (.sl (xs.map aR.e))) (.c (.int .i64 (k : Int))) 15) h KH = KH (.vp x.e 0) h := by
 have hk := (List.getElem?_eq_some_iff.1 hx).1
 rw [gX, Int.toNat_natCast, List.getElem?_map, hx, List.length_map]
 apply propext
 constructor
 ·rintro ⟨-, -, h⟩; exact (h _ rfl).2
 ·intro hk'; exact ⟨by omega, by omega, fun d hd => by cases hd; exact ⟨rfl, hk'⟩⟩
theorem JE {P : Program} {x : aR} {h : Heap} {KH : HK} : ab P (.ld (.c (.vp x.e 0)) 15 true) h KH = KH x.e h := by
 rw [iD, cw]
 have e : (x.e.cells.drop 0).take 15 = x.cs := rfl
 have l : x.e.cells.length = 15 := rfl
 rw [e, l]; simp [aR.e]
theorem GR {c : Code} {l : dt} {it : It} {g s : Mm} {av n : Int} {h : Heap} (hs : dV c l it g s av = ⟨it, g, s, [], n⟩) : EH (· = Qi (dV c l it g s av)) (.tup [it.e, aO g, aO s, .nil, .int .i64 n]) h := by
 refine mU (.refl h) (.cons (iE it.bZ) (.cons (aK rfl).d (.cons (aK rfl).d (.cons fu.d (.cons (aK rfl).d .nil))))) ?_
 rw [hs]; rfl
theorem SJ {h : Heap} {dI dG dS dE : D} {cs : List D} (hI : dI = .agg cs) (hcs : cs.length = 7) (oI : aw dI) (b5 : h 5 = .box (.agg [.int .i64 0, .int .i64 0, .int .i64 0, .int .i64 0, .nil, .nil, .nil])) (b6 : h 6 = .box .nil) (b7 : h 7 = .box .nil) (b8 : h 8 = .box .nil) (b9 : h 9 = .box (.int .i64 0))
  (hG : dG.cells = [dG] /\ dG.one = true) (hS : dS.cells = [dS] /\ dS.one = true) (hE : dE.cells = [dE] /\ dE.one = true) {n : Int} {R1 R2 R3 : Heap -> Prop}
  (hR : ∀ h', (∀ k, k ≠ 5 -> k ≠ 6 -> k ≠ 7 -> k ≠ 8 -> k ≠ 9 -> h' k = h k) -> R1 h' /\ R2 h' /\ R3 h') {KH : HK}
  (hK : ∀ h', (∀ k, k ≠ 5 -> k ≠ 6 -> k ≠ 7 -> k ≠ 8 -> k ≠ 9 -> h' k = h k) -> KH (.tup [dI, dG, dS, dE, .int .i64 n]) h') :
  ab PP (.st (.c (.ptr 5 0 0)) (.c dI) 7) h fun _ h1 => R1 h1 /\ ab PP (.st (.c (.ptr 6 0 0)) (.c dG) 1) h1 fun _ h2 => R2 h2 /\ ab PP (.st (.c (.ptr 7 0 0)) (.c dS) 1) h2 fun _ h3 => R3 h3 /\
  ab PP (.st (.c (.ptr 8 0 0)) (.c dE) 1) h3 fun _ h4 => ab PP (.st (.c (.ptr 9 0 0)) (.c (.int .i64 n)) 1) h4 fun _ h5 =>
  ab PP (.ld (.c (.ptr 5 0 0)) 7 true) h5 fun a _ => ab PP (.ld (.c (.ptr 6 0 0)) 1 false) h5 fun b _ => ab PP (.ld (.c (.ptr 7 0 0)) 1 false) h5 fun c _ => ab PP (.ld (.c (.ptr 8 0 0)) 1 false) h5 fun d _ =>
  ab PP (.ld (.c (.ptr 9 0 0)) 1 false) h5 fun e _ => KH (.tup [a, b, c, d, e]) h5 := by
 have := Rh (h := h) (n := n) (R1 := R1) (R2 := R2) (R3 := R3) (R4 := fun _ => True) (R5 := fun _ => True) hI hcs oI b5 b6 b7 b8 b9 hG hS hE (fun h' hk => ⟨(hR h' hk).1, (hR h' hk).2.1, (hR h' hk).2.2, trivial, trivial⟩) hK
 simp only [true_and] at this
 exact this
theorem SI {h : Heap} {dI dG dS dE : D} {cs : List D} (hI : dI = .agg cs) (hcs : cs.length = 7) (oI : aw dI) (b5 : h 5 = .box (.agg [.int .i64 0, .int .i64 0, .int .i64 0, .int .i64 0, .nil, .nil, .nil])) (b6 : h 6 = .box .nil) (b7 : h 7 = .box .nil) (b8 : h 8 = .box .nil) (b9 : h 9 = .box (.int .i64 0))
  (hG : dG.cells = [dG] /\ dG.one = true) (hS : dS.cells = [dS] /\ dS.one = true) (hE : dE.cells = [dE] /\ dE.one = true) {n : Int} {KH : HK} (hK : ∀ h', KH (.tup [dI, dG, dS, dE, .int .i64 n]) h') :
  ab PP (.st (.c (.ptr 5 0 0)) (.c dI) 7) h fun _ h1 => ab PP (.st (.c (.ptr 6 0 0)) (.c dG) 1) h1 fun _ h2 => ab PP (.st (.c (.ptr 7 0 0)) (.c dS) 1) h2 fun _ h3 =>
  ab PP (.st (.c (.ptr 8 0 0)) (.c dE) 1) h3 fun _ h4 => ab PP (.st (.c (.ptr 9 0 0)) (.c (.int .i64 n)) 1) h4 fun _ h5 =>
  ab PP (.ld (.c (.ptr 5 0 0)) 7 true) h5 fun a _ => ab PP (.ld (.c (.ptr 6 0 0)) 1 false) h5 fun b _ => ab PP (.ld (.c (.ptr 7 0 0)) 1 false) h5 fun c _ => ab PP (.ld (.c (.ptr 8 0 0)) 1 false) h5 fun d _ =>
  ab PP (.ld (.c (.ptr 9 0 0)) 1 false) h5 fun e _ => KH (.tup [a, b, c, d, e]) h5 := by
 have := Rh (h := h) (n := n) (R1 := fun _ => True) (R2 := fun _ => True) (R3 := fun _ => True) (R4 := fun _ => True) (R5 := fun _ => True) hI hcs oI b5 b6 b7 b8 b9 hG hS hE (fun h' hk => ⟨trivial, trivial, trivial, trivial, trivial⟩) (fun h' _ => hK h')
 simp only [true_and] at this
 exact this
theorem QL {h : Heap} {c : Code} {it : It} {st : St} {dR dP dL : D} (hR : yl h dR (words st.regs)) (hP : yl h dP (aO (st.mem 3))) (hL : yl h dL (.sl [])) :
  NY h (zp c { it with regs := st.regs, priv := st.mem 3 } dR dP dL) (aT c { it with regs := st.regs, priv := st.mem 3 }).e := by
 obtain ⟨it1, h1⟩ : ∃ it1 : It, it1 = { it with regs := st.regs, priv := st.mem 3 } := ⟨_, rfl⟩
 rw [<- h1]
 have r1 : it1.regs = st.regs := by rw [h1]
 have p1 : it1.priv = st.mem 3 := by rw [h1]
 unfold zp
 by_cases h5 : (fy c it1.block).kind = 5
 ·rw [if_pos h5]
  have : aT c it1 = bD c it1.id it1.epoch 3 := by simp [aT, h5]
  rw [this]; exact iE (It.bZ _)
 ·rw [if_neg h5]
  have e : (aT c it1).regs = st.regs /\ (aT c it1).priv = st.mem 3 := by
   rw [<- r1, <- p1]
   simp only [aT]
   split
   ·exact ⟨rfl, rfl⟩
   ·split
    ·exact ⟨rfl, rfl⟩
    ·first | exact ⟨rfl, rfl⟩ | (rw [if_neg h5]; exact ⟨rfl, rfl⟩)
  have : (aT c it1).e = .agg [.int .i64 (aT c it1).id, .int .i64 (aT c it1).at_, .int .i64 (aT c it1).block, .int .i64 (aT c it1).epoch, words st.regs, aO (st.mem 3), .sl []] := by rw [<- e.1, <- e.2]; rfl
  rw [this]
  exact (Bo.cons (aK rfl) (.cons (aK rfl) (.cons (aK rfl) (.cons (aK rfl) (.cons hR (.cons hP (.cons hL .nil))))))).agg
theorem GX {c : Code} {it : It} {dR dP dL : D} (oR : dR.one = true) (oP : dP.one = true) (oL : dL.one = true) : ∃ cs, zp c it dR dP dL = .agg cs /\ cs.length = 7 /\ aw (zp c it dR dP dL) := by
 unfold zp
 split
 ·exact ⟨_, rfl, rfl, (It.bZ _).one⟩
 ·refine ⟨_, rfl, rfl, fun z hz => ?_⟩
  simp [sH] at hz
  rcases hz with rfl | rfl | rfl | rfl | rfl | rfl | rfl <;> first | rfl | assumption
theorem Mb {h : Heap} {ro : Ro} {KH : HK} (hK : ∀ (dL : D) (h' : Heap) (ro' : Ro), (∀ k, h k ≠ .free -> h' k = h k /\ ro' k = ro k) -> HU h' ro' dL -> KH dL h') : ag PP aQ [.sl []] h KH := by
 refine Mc (hK .nil h ro (fun k _ => ⟨rfl, rfl⟩) (Or.inl rfl)) fun q h' hq hq2 hk => ?_
 refine hK (.ms q 0 0) h' (ah ro q .sl) (fun k hf => ⟨hk k hf, ?_⟩) (Or.inr (Or.inr ⟨q, rfl, hq2, ad _ _ _⟩))
 rw [aa _ _ (by rintro rfl; exact hf hq)]
theorem QG {c : Code} {l : dt} {it : It} {g s : Mm} {av : Int} (hc : bq c) (hl : lF c l) (hi : NR c l it) (hg : gL c.arrays 1 g) (hs : gL c.arrays 2 s) :
  aD PP qH [c.e, l.e, it.e, aO g, aO s, .int .i64 av] (· = Qi (dV c l it g s av)) := by
 refine fR (NM EV (aA _ _ _) Kc rfl (EE _ _ _ _ _ _ _) ?_)
 (unfold Ba; try dsimp only [xL, yL, xF, yF, xI, yI, xS, zI, zJ])
 rw [cT, jX NV (Code.on c), jX (by simp) (dt.on l), jX (by simp) (show it.e.cells.all D.one = true from rfl), jX (by simp) (show (aO g).cells.all D.one = true from rfl), jX (by simp) (show (aO s).cells.all D.one = true from rfl),
  gT (by simp), gT (by simp), gT (by simp), gT (by simp), gT (by simp)]
 simp only [List.nil_append, List.length_nil, List.length_singleton, List.cons_append, List.length_cons, Nat.zero_add, Nat.reduceAdd]
 obtain ⟨H, hH⟩ : ∃ H, H = LH.h [Slot.box c.e, .box l.e, .box it.e, .box (aO g), .box (aO s), .box (.agg [.int .i64 0, .int .i64 0, .int .i64 0, .int .i64 0, .nil, .nil, .nil]), .box .nil, .box .nil, .box .nil, .box (.int .i64 0)] := ⟨_, rfl⟩
 rw [<- hH]
 have B : eh H c l it g s := by rw [hH]; exact ⟨rfl, rfl, rfl, rfl, rfl, rfl, rfl, rfl, rfl, rfl⟩
 have Hfree : ∀ k, 10 <= k -> H k = .free := fun k hk => by rw [hH]; exact LH.Q5 (by simpa using hk)
 clear hH
 have u2 : (H 2).used = true := by rw [B.b2]; rfl
 simp only [↓bf u2, Nat.zero_add, ↓eG B.b2 (j := 1) rfl, ↓cH, true_and]
 by_cases ha : it.at_ = 1
 case neg =>
  simp only [ha, decide_false, Bool.not_false, ↓af, B.li, B.lg, B.ls]
  refine Rh (cs := it.cs) rfl rfl (MH it) B.b5 B.b6 B.b7 B.b8 B.b9 od od ⟨rfl, rfl⟩ (fun h' hk => ?_) fun h' hk => ?_
  ·have e3 : h' 3 = .box (aO g) := by rw [hk 3 (by omega) (by omega) (by omega) (by omega) (by omega)]; exact B.b3
   have e4 : h' 4 = .box (aO s) := by rw [hk 4 (by omega) (by omega) (by omega) (by omega) (by omega)]; exact B.b4
   have : ((au PP (.ld (.c (.ptr 3 0 0)) 1 false) h' fun a => aG [a] [aO g]) /\ (au PP (.ld (.c (.ptr 4 0 0)) 1 false) h' fun a => aG [a] [aO s]) /\ True) := ⟨by rw [Ph e3 rfl]; simp, by rw [Ph e4 rfl]; simp, trivial⟩
   exact ⟨this, this, this, this, this⟩
  ·exact GR (by simp [dV, ha])
 simp only [ha, decide_true, Bool.not_true, ↓ae, B.lc, B.ll, B.li, B.lg, B.ls]
 obtain ⟨ro0, hro0⟩ : ∃ ro0 : Ro, ro0 = fun _ => mP.no := ⟨_, rfl⟩
 have r0 : ∀ k, ro0 k = .no := fun k => by rw [hro0]
 clear hro0 Hfree u2
 have mw : ∀ {m : Mm} {sp : Nat}, gL c.arrays sp m -> m.length <= 8 := fun hm => by rw [hm.len]; exact hc.nar
 have mk : ∀ {h : Heap} {ro : Ro} {sp q : Nat} {m : Mm}, h q = .arr 1 (m.map words) -> ro q = .mem sp -> nE h ro sp m q (m.map words) := fun {h ro sp q m} h1 h2 =>
  ⟨h1, h2, by simp, fun i e w he hw => by
   rw [List.getElem?_map, hw] at he
   cases he
   exact Or.inl rfl⟩
 refine FY (by have := mw hg; omega) fun q1 f1 => ?_
 have B1 : eh (ah H q1 (.arr 1 (g.map words))) c l it g s := B.aB fun j hj => aa _ _ (by rintro rfl; exact B.nf hj f1)
 have R1 : ∀ k, k < 10 -> ah ro0 q1 (.mem 1) k = .no := fun k hk => by rw [aa _ _ (by rintro rfl; exact B.nf hk f1)]; exact r0 k
 have M1 : nE (ah H q1 (.arr 1 (g.map words))) (ah ro0 q1 (.mem 1)) 1 g q1 (g.map words) := mk (ad _ _ _) (ad _ _ _)
 generalize ah H q1 (.arr 1 (g.map words)) = h1 at B1 M1
 generalize ah ro0 q1 (.mem 1) = ro1 at R1 M1
 clear B r0
 simp only [B1.lc, B1.ll, B1.li, B1.ls, ai, true_and, and_true]
 refine FY (by have := mw hs; omega) fun q2 f2 => ?_
 have B2 : eh (ah h1 q2 (.arr 1 (s.map words))) c l it g s := B1.aB fun j hj => aa _ _ (by rintro rfl; exact B1.nf hj f2)
 have R2 : ∀ k, k < 10 -> ah ro1 q2 (.mem 2) k = .no := fun k hk => by rw [aa _ _ (by rintro rfl; exact B1.nf hk f2)]; exact R1 k hk
 have M12 := M1.aB (cE.new f2 (.mem 2) (s := .arr 1 (s.map words)))
 have M2 : nE (ah h1 q2 (.arr 1 (s.map words))) (ah ro1 q2 (.mem 2)) 2 s q2 (s.map words) := mk (ad _ _ _) (ad _ _ _)
 generalize ah h1 q2 (.arr 1 (s.map words)) = h2 at B2 M2 M12
 generalize ah ro1 q2 (.mem 2) = ro2 at R2 M2 M12
 clear B1 R1 M1
 simp only [B2.lc, B2.ll, B2.li, ai, true_and, and_true]
 show ∀ nm, nw h2 nm -> _
 intro nm t3
 have f3 := t3.free
 have B3 : eh (ah h2 nm (.map (.pair .i64) [])) c l it g s := B2.aB fun j hj => aa _ _ (by rintro rfl; exact B2.nf hj f3)
 have R3 : ∀ k, k < 10 -> ah ro2 nm .map k = .no := fun k hk => by rw [aa _ _ (by rintro rfl; exact B2.nf hk f3)]; exact R2 k hk
 have M13 := M12.aB (cE.new f3 .map (s := .map (.pair .i64) []))
 have M23 := M2.aB (cE.new f3 .map (s := .map (.pair .i64) []))
 have N3 : ah h2 nm (.map (.pair .i64) []) nm = .map (.pair .i64) [] := ad _ _ _
 have N3r : ah ro2 nm .map nm = .map := ad _ _ _
 generalize ah h2 nm (.map (.pair .i64) []) = h3 at B3 M13 M23 N3
 generalize ah ro2 nm .map = ro3 at R3 M13 M23 N3r
 clear B2 R2 M12 M2 t3
 simp only [B3.lc, B3.ll, B3.li, B3.lg, B3.ls, ai, true_and, and_true]
 rw [jt rfl, cC]
 have e21 : D.agg (fillD [.int .i64 0, .int .i64 0, .int .i64 0, .int .i64 0, .int .i64 0, .nil, .nil, .nil, .int .i64 0, .nil, .int .i64 0, .int .i64 0, .int .i64 0, .int .i64 0, .nil, .nil, .nil, .nil, .nil, .nil, .nilmap]
   ([(0, 8, Arg.c c.e), (8, 2, .c l.e), (10, 7, .c it.e), (17, 1, .c (.ms q1 0 g.length)), (18, 1, .c (.ms q2 0 s.length)), (20, 1, .c (.mp nm))].map fun p => (p.1, p.2.1, (p.2.2.get []).cells))) =
   .agg (iW c l it (words it.regs) (aO it.priv) (.sl []) (.ms q1 0 g.length) (.ms q2 0 s.length) .nil nm) := rfl
 rw [e21]
 refine ⟨fun z hz => ?_, fun n t4 => ?_⟩
 ·simp [iW] at hz
  rcases hz with rfl | rfl | rfl | rfl | rfl | rfl | rfl | rfl | rfl | rfl | rfl | rfl | rfl | rfl | rfl | rfl | rfl | rfl | rfl | rfl | rfl <;> rfl
 have f4 := t4.free
 obtain ⟨bx, hbx⟩ : ∃ bx, bx = Slot.box (.agg (iW c l it (words it.regs) (aO it.priv) (.sl []) (.ms q1 0 g.length) (.ms q2 0 s.length) .nil nm)) := ⟨_, rfl⟩
 rw [<- hbx]
 have B4 : eh (ah h3 n bx) c l it g s := B3.aB fun j hj => aa _ _ (by rintro rfl; exact B3.nf hj f4)
 have R4 : ∀ k, k < 10 -> ah ro3 n .box k = .no := fun k hk => by rw [aa _ _ (by rintro rfl; exact B3.nf hk f4)]; exact R3 k hk
 have M14 := M13.aB (cE.new f4 .box (s := bx))
 have M24 := M23.aB (cE.new f4 .box (s := bx))
 have nn4 : nm ≠ n := t4.ne (by rw [N3]; simp)
 have N4 : ah h3 n bx nm = .map (.pair .i64) [] := by rw [aa _ _ nn4]; exact N3
 have N4r : ah ro3 n .box nm = .map := by rw [aa _ _ nn4]; exact N3r
 have X4 : ah h3 n bx n = bx := ad _ _ _
 have X4r : ah ro3 n .box n = .box := ad _ _ _
 generalize ah h3 n bx = h4 at B4 M14 M24 N4 X4
 generalize ah ro3 n .box = ro4 at R4 M14 M24 N4r X4r
 clear B3 R3 M13 M23 N3 N3r t4 e21
 have u24 : (h4 2).used = true := by rw [B4.b2]; rfl
 simp only [↓aH, u24, Nat.zero_add, ↓bY B4.b2 (j := 4) rfl, ↓bY B4.b2 (j := 5) rfl, ↓bY B4.b2 (j := 6) rfl, true_and]
 have hrl := hi.len
 have hrr := hc.regs
 refine FZ (w := it.regs) (by rintro h; rw [h] at hrl; simp at hrl; omega) (by omega) fun q5 h5 f5 a5 k5 => ?_
 have B5 : eh h5 c l it g s := B4.aB fun j hj => k5 j (B4.nf hj)
 have R5 : ∀ k, k < 10 -> ah ro4 q5 .regs k = .no := fun k hk => by rw [aa _ _ (by rintro rfl; exact B4.nf hk f5)]; exact R4 k hk
 have K5 : cE h4 ro4 h5 (ah ro4 q5 .regs) := cE.Tw f5 k5 _
 have M15 := M14.aB K5
 have M25 := M24.aB K5
 have nq5 : ∀ k, h4 k ≠ .free -> k ≠ q5 := by rintro k hk rfl; exact hk f5
 have N5 : h5 nm = .map (.pair .i64) [] := by rw [k5 nm (by rw [N4]; simp)]; exact N4
 have X5 : h5 n = bx := by rw [k5 n (by rw [X4, hbx]; simp)]; exact X4
 have N5r : ah ro4 q5 .regs nm = .map := by rw [aa _ _ (nq5 nm (by rw [N4]; simp))]; exact N4r
 have X5r : ah ro4 q5 .regs n = .box := by rw [aa _ _ (nq5 n (by rw [X4, hbx]; simp))]; exact X4r
 have G5 : oM h5 (ah ro4 q5 .regs) (.ms q5 0 it.regs.length) it.regs := ⟨q5, rfl, a5, ad _ _ _⟩
 generalize ah ro4 q5 .regs = ro5 at R5 M15 M25 N5r X5r G5
 clear K5 B4 R4 M14 M24 N4 N4r X4 X4r u24 k5 a5 nq5
 have u25 : (h5 2).used = true := by rw [B5.b2]; rfl
 simp only [↓aH, u25, Nat.zero_add, ↓bY B5.b2 (j := 5) rfl, ↓bY B5.b2 (j := 6) rfl, ai, true_and, and_true]
 refine Mb (ro := ro5) fun dL h6 ro6 k6 L6 => ?_
 have B6 : eh h6 c l it g s := B5.aB fun j hj => (k6 j (B5.nf hj)).1
 have R6 : ∀ k, k < 10 -> ro6 k = .no := fun k hk => by rw [(k6 k (B5.nf hk)).2]; exact R5 k hk
 have K6 : cE h5 ro5 h6 ro6 := fun k hf _ => k6 k hf
 have M16 := M15.aB K6
 have M26 := M25.aB K6
 have G6 := G5.aB K6
 obtain ⟨a6, b6⟩ := k6 nm (by rw [N5]; simp)
 have N6 : h6 nm = .map (.pair .i64) [] := by rw [a6]; exact N5
 have N6r : ro6 nm = .map := by rw [b6]; exact N5r
 obtain ⟨c6, d6⟩ := k6 n (by rw [X5, hbx]; simp)
 have X6 : h6 n = bx := by rw [c6]; exact X5
 have X6r : ro6 n = .box := by rw [d6]; exact X5r
 clear B5 R5 M15 M25 N5 N5r X5 X5r G5 K6 k6 a6 b6 c6 d6 u25
 have u26 : (h6 2).used = true := by rw [B6.b2]; rfl
 simp only [u26, ↓bY B6.b2 (j := 5) rfl, ai, true_and]
 refine FY (by have := mw hi.priv; omega) fun q7 f7 => ?_
 have B7 : eh (ah h6 q7 (.arr 1 (it.priv.map words))) c l it g s := B6.aB fun j hj => aa _ _ (by rintro rfl; exact B6.nf hj f7)
 have R7 : ∀ k, k < 10 -> ah ro6 q7 (.mem 3) k = .no := fun k hk => by rw [aa _ _ (by rintro rfl; exact B6.nf hk f7)]; exact R6 k hk
 have K7 : cE h6 ro6 (ah h6 q7 (.arr 1 (it.priv.map words))) (ah ro6 q7 (.mem 3)) := cE.new f7 _
 have M17 := M16.aB K7
 have M27 := M26.aB K7
 have G7 := G6.aB K7
 have L7 := L6.aB K7
 have M37 : nE (ah h6 q7 (.arr 1 (it.priv.map words))) (ah ro6 q7 (.mem 3)) 3 it.priv q7 (it.priv.map words) := mk (ad _ _ _) (ad _ _ _)
 have nm7 : nm ≠ q7 := by rintro rfl; rw [N6] at f7; cases f7
 have nn7 : n ≠ q7 := by rintro rfl; rw [X6, hbx] at f7; cases f7
 have N7 : ah h6 q7 (.arr 1 (it.priv.map words)) nm = .map (.pair .i64) [] := by rw [aa _ _ nm7]; exact N6
 have X7 : ah h6 q7 (.arr 1 (it.priv.map words)) n = bx := by rw [aa _ _ nn7]; exact X6
 have N7r : ah ro6 q7 (.mem 3) nm = .map := by rw [aa _ _ nm7]; exact N6r
 have X7r : ah ro6 q7 (.mem 3) n = .box := by rw [aa _ _ nn7]; exact X6r
 generalize ah h6 q7 (.arr 1 (it.priv.map words)) = h7 at B7 M17 M27 M37 G7 L7 N7 X7
 generalize ah ro6 q7 (.mem 3) = ro7 at R7 M17 M27 M37 G7 L7 N7r X7r
 clear B6 R6 M16 M26 G6 L6 N6 X6 N6r X6r K7 u26
 rw [hbx] at X7
 have oL := L7.one
 have u7 : (h7 n).used = true := by rw [X7]; rfl
 have set3 : ∀ {KH : HK}, (∀ h', dJ h' ro7 n c l it (.ms q5 0 it.regs.length) dL .nil (fun k => if k = 1 then .ms q1 0 g.length else if k = 2 then .ms q2 0 s.length else .ms q7 0 it.priv.length) nm [] (EZ it g s) -> eh h' c l it g s -> KH .undef h') ->
   (h7 n).used = true /\ (h7 n).used = true /\ (h7 n).used = true /\ ab PP (.st (.c (.ptr n 0 (10 + 4))) (.c (.ms q5 0 it.regs.length)) 1) h7 fun _ h8 => (h8 n).used = true /\ (h8 n).used = true /\ (h8 n).used = true /\
    ab PP (.st (.c (.ptr n 0 (10 + 6))) (.c dL) 1) h8 fun _ h9 => (h9 n).used = true /\ (h9 n).used = true /\ (h9 n).used = true /\ ab PP (.st (.c (.ptr n 0 (10 + 5))) (.c (.ms q7 0 it.priv.length)) 1) h9 KH := by
  intro KH hK
  refine ⟨u7, u7, u7, ?_⟩
  rw [dq, X7]
  refine ⟨rfl, by simp, rfl, by simp [iW], ?_⟩
  refine ⟨by rw [ad]; rfl, by rw [ad]; rfl, by rw [ad]; rfl, ?_⟩
  have cL : dL.cells = [dL] := gx oL
  rw [dq, ad]
  refine ⟨by rw [cL]; rfl, fun z hz => by rw [cL] at hz; simp at hz; subst hz; exact oL, rfl, by simp [iW, setCells], ?_⟩
  refine ⟨by rw [ad]; rfl, by rw [ad]; rfl, by rw [ad]; rfl, ?_⟩
  rw [dq, ad]
  refine ⟨rfl, by simp, rfl, by simp [iW, setCells, cL], ?_⟩
  rw [gP, gP, cL]
  have e : setCells (setCells (setCells (.agg (iW c l it (words it.regs) (aO it.priv) (.sl []) (.ms q1 0 g.length) (.ms q2 0 s.length) .nil nm)) (10 + 4) (D.ms q5 0 it.regs.length).cells) (10 + 6) [dL]) (10 + 5) (D.ms q7 0 it.priv.length).cells =
    .agg (iW c l it (.ms q5 0 it.regs.length) (.ms q7 0 it.priv.length) dL (.ms q1 0 g.length) (.ms q2 0 s.length) .nil nm) := rfl
  rw [e]
  have kb : (ro7 n).core = false := by rw [X7r]; rfl
  have nmn : nm ≠ n := by rintro rfl; rw [N7r] at X7r; cases X7r
  have KK : cE h7 ro7 (ah h7 n (.box (.agg (iW c l it (.ms q5 0 it.regs.length) (.ms q7 0 it.priv.length) dL (.ms q1 0 g.length) (.ms q2 0 s.length) .nil nm)))) ro7 := cE.av kb
  refine hK _ ⟨ad _ _ _, X7r, ⟨G7.aB KK, fun k k1 k2 => ?_, Or.inl ⟨rfl, rfl⟩, L7.aB KK⟩, by rw [aa _ _ nmn]; exact N7, N7r, by simp, by simp, fun sp i k els e w s1 s2 hd hk he hw => ?_⟩ (B7.aB fun j hj => aa _ _ (by rintro rfl; rw [R7 j hj] at X7r; cases X7r))
  ·have : k = 1 \/ k = 2 \/ k = 3 := by omega
   rcases this with rfl | rfl | rfl
   ·exact ⟨q1, _, rfl, M17.aB KK⟩
   ·exact ⟨q2, _, rfl, M27.aB KK⟩
   ·exact ⟨q7, _, rfl, M37.aB KK⟩
  ·refine ⟨fun _ => ?_, fun hne => absurd rfl hne⟩
   have : sp = 1 \/ sp = 2 \/ sp = 3 := by omega
   rcases this with rfl | rfl | rfl
   ·simp only [if_true, D.ms.injEq, true_and] at hd
    obtain ⟨rfl, -⟩ := hd
    rw [(M17.aB KK).hk] at hk
    simp only [Slot.arr.injEq, true_and] at hk
    subst hk
    have hw' : g[i]? = some w := hw
    rw [List.getElem?_map, hw'] at he
    exact (by simpa using he.symm)
   ·simp only [show ¬ (2 : Nat) = 1 by omega, if_true, if_false, D.ms.injEq, true_and] at hd
    obtain ⟨rfl, -⟩ := hd
    rw [(M27.aB KK).hk] at hk
    simp only [Slot.arr.injEq, true_and] at hk
    subst hk
    have hw' : s[i]? = some w := hw
    rw [List.getElem?_map, hw'] at he
    exact (by simpa using he.symm)
   ·simp only [show ¬ (3 : Nat) = 1 by omega, show ¬ (3 : Nat) = 2 by omega, if_false, D.ms.injEq, true_and] at hd
    obtain ⟨rfl, -⟩ := hd
    rw [(M37.aB KK).hk] at hk
    simp only [Slot.arr.injEq, true_and] at hk
    subst hk
    have hw' : it.priv[i]? = some w := hw
    rw [List.getElem?_map, hw'] at he
    exact (by simpa using he.symm)
 refine set3 fun h8 X8 B8 => ?_
 clear set3 B7 M17 M27 M37 G7 L7 N7 X7 N7r X7r u7 mk
 generalize (fun k => if k = 1 then D.ms q1 0 g.length else if k = 2 then .ms q2 0 s.length else .ms q7 0 it.priv.length) = dm0 at X8
 have R8 := R7
 obtain ⟨k, B, hbk, hB, hBm, -, hins⟩ := hc.Nz hi.block
 obtain ⟨hxs, hxl, -⟩ := hc.xs B hBm
 have sP : dV c l it g s av = match runP c l it.id av it.block B.i 0 (EZ it g s) with
   | none => ⟨it, g, s, [], 70⟩
   | some st => ⟨aT c { it with regs := st.regs, priv := st.mem 3 }, st.mem 1, st.mem 2, st.ev, 0⟩ := by
  unfold dV
  rw [if_neg (by simp [ha]), hins]
  cases runP c l it.id av it.block B.i 0 (EZ it g s) <;> rfl
 have w0 : qf c (EZ it g s) := Ic hi hg hs
 have n10 : ∀ {ro : Ro}, (∀ k, k < 10 -> ro k = .no) -> ro n = .box -> n ≠ 5 /\ n ≠ 6 /\ n ≠ 7 /\ n ≠ 8 /\ n ≠ 9 := fun {ro} hr hn => by
  refine ⟨?_, ?_, ?_, ?_, ?_⟩ <;> rintro rfl <;> rw [hr _ (by omega)] at hn <;> cases hn
 refine ⟨fun _ h' => ∃ (ro' : Ro) (st' : St), eh h' c l it g s /\ (∀ k, k < 10 -> ro' k = .no) /\ Jb h' ro' n c l it st' /\ qf c st' /\ runP c l it.id av it.block B.i 0 (EZ it g s) = some st', ?_, ?_⟩
 ·rintro _ h9 ⟨ro9, st9, B9, R9, ⟨dR, dL9, dE, dm, nm9, ents, X9⟩, W9, P9⟩
  rw [P9] at sP
  simp only [X9.used, ↓bY X9.box (j := 17) rfl, ↓bY X9.box (j := 18) rfl, ↓bY X9.box (j := 19) rfl, true_and]
  refine OB X9 hc W9 hi.block fun h' ro' it' F X => ?_
  have R' : ∀ k, k < 10 -> ro' k = .no := fun k hk => by rw [(F k (B9.nf hk)).1]; exact R9 k hk
  have B' : eh h' c l it g s := B9.aB fun j hj => (F j (B9.nf hj)).2.2 (R9 j hj)
  obtain ⟨o5, o6, o7, o8, o9⟩ := n10 R' X.rb
  have o1 := (X.sr.mem 1 (by omega) (by omega)).one
  have o2 := (X.sr.mem 2 (by omega) (by omega)).one
  have o3 := (X.sr.mem 3 (by omega) (by omega)).one
  obtain ⟨cs, e1, e2, e3⟩ := GX (c := c) (it := { it with regs := st9.regs, priv := st9.mem 3 }) X.sr.regs.one o3 X.sr.sl.one
  simp only [X.used, ↓bY X.box (j := 17) rfl, ↓bY X.box (j := 18) rfl, ↓bY X.box (j := 19) rfl, ai, true_and, and_true]
  refine SJ e1 e2 e3 B'.b5 B'.b6 B'.b7 B'.b8 B'.b9 (QQ o1) (QQ o2) (QQ X.sr.ev.one) (fun h'' hk => ?_) fun h'' hk => ?_
  ·have hb : h'' n = .box (.agg (iW c l it' dR (dm 3) dL9 (dm 1) (dm 2) dE nm9)) := by rw [hk n o5 o6 o7 o8 o9]; exact X.box
   have hu : (h'' n).used = true := by rw [hb]; rfl
   simp only [hu, ↓bY hb (j := 17) rfl, ↓bY hb (j := 18) rfl, ↓bY hb (j := 19) rfl, ai, true_and, and_true]
  ·have kk : cE h' ro' h'' ro' := fun k _ hcore => by
    have ne : ∀ j, j < 10 -> k ≠ j := fun j hj => by rintro rfl; rw [R' _ hj] at hcore; cases hcore
    exact ⟨hk k (ne 5 (by omega)) (ne 6 (by omega)) (ne 7 (by omega)) (ne 8 (by omega)) (ne 9 (by omega)), rfl⟩
   obtain ⟨h3, i1, i2, i3, i4, i5, -⟩ := (X.sr.aB kk).out
   refine mU i1 (.cons (QL i2 (i5 3 (by omega) (by omega)) i4) (.cons (i5 1 (by omega) (by omega)).d (.cons (i5 2 (by omega) (by omega)).d (.cons i3.d (.cons (aK rfl).d .nil))))) ?_
   rw [sP]; rfl
 have u0 : (h8 0).used = true := by rw [B8.b0]; rfl
 have u2 : (h8 2).used = true := by rw [B8.b2]; rfl
 have eb : ∀ {K : HK}, ab PP (.ld (.c (.ptr 0 0 7)) 1 false) h8 K = K (.sl (c.b.map Block.e)) h8 := fun {K} => eG (cs := [.int .i64 c.group, .int .i64 c.sub, .int .i64 c.regs, .int .i64 c.slots, .int .i64 c.params, .sl (c.arrays.map bM.e), .sl (c.loops.map Loop.e), .sl (c.b.map Block.e)]) B8.b0 rfl
 have hat : ∀ {K : HK}, ab PP (.iadd (.c (.sl (c.b.map Block.e))) (.c (.int .i64 it.block)) 14) h8 K = K (.vp B.e 0) h8 := fun {K} => by rw [hbk, rh hB]
 simp only [↓bf u0, ↓bf u2, Nat.zero_add, eb, ↓eG B8.b2 (j := 2) rfl, true_and, hat, ↓jk, ↓PT, ↓kO, List.length_map]
 (unfold rN; try dsimp only [xL, yL, xF, yF, xI, yI, xS, zI, zJ])
 refine ⟨fun m qs h' => ∃ (i : Nat) (ro' : Ro) (st' : St), qs = [.int .i64 (i : Int)] /\ m + i = B.i.length /\ eh h' c l it g s /\ (∀ k, k < 10 -> ro' k = .no) /\ Jb h' ro' n c l it st' /\ qf c st' /\ st'.ev.length <= i /\
   runP c l it.id av it.block (B.i.drop i) i st' = runP c l it.id av it.block B.i 0 (EZ it g s), B.i.length, ⟨0, ro7, EZ it g s, rfl, by omega, B8, R8, ⟨_, _, _, _, _, _, X8⟩, w0, by simp [EZ], by simp⟩, ?_⟩
 rintro m f h' ⟨i, ro', st', hf, hmi, B', R', X', W', E', P'⟩
 simp only [List.cons.injEq, and_true] at hf
 rw [hf, bK]
 by_cases hlt : i < B.i.length
 case neg =>
  simp only [show ¬ ((i : Int) < (B.i.length : Int)) by omega, decide_false, ↓ae, ai, true_and]
  rw [List.drop_of_length_le (by omega)] at P'
  exact ⟨ro', st', B', R', X', W', P'.symm⟩
 have hx : B.i[i]? = some B.i[i] := List.getElem?_eq_getElem hlt
 simp only [show ((i : Int) < (B.i.length : Int)) by omega, decide_true, ↓af, ↓JG hx, ↓JE]
 rw [bQ]
 intro p tp
 rw [dq, ad]
 refine ⟨rfl, (aR.bZ _).one, rfl, Nat.le_refl _, ?_⟩
 rw [gP]
 have es : setCells (.agg [(.int .i64 0), (.int .i64 0), (.int .i64 0), (.int .i64 0), (.int .i64 0), (.int .i32 0), (.int .i64 0), (.int .i64 0), (.int .i32 0), (.int .i64 0), (.int .i64 0), (.int .i32 0), (.int .i64 0), (.int .i64 0), (.int .i32 0)]) 0 (aR.e B.i[i]).cells = .agg (aR.cs B.i[i]) := rfl
 rw [es]
 obtain ⟨dR, dL9, dE, dm, nm9, ents, X'⟩ := X'
 have Xn := X'.new tp.free (.box (.agg (aR.cs B.i[i])))
 have fp := tp.free
 have Bn : eh (ah h' p (.box (.agg (aR.cs B.i[i])))) c l it g s := B'.aB fun j hj => aa _ _ (by rintro rfl; exact B'.nf hj fp)
 have Rn : ∀ k, k < 10 -> ah ro' p .no k = .no := fun k hk => by
  by_cases e : k = p
  ·rw [e, ad]
  ·rw [aa _ _ e]; exact R' k hk
 have pb : ah h' p (.box (.agg (aR.cs B.i[i]))) p = .box (.agg (aR.cs B.i[i])) := ad _ _ _
 generalize ah h' p (.box (.agg (aR.cs B.i[i]))) = hn at Xn Bn pb
 generalize ah ro' p .no = ron at Xn Rn
 clear X' B' R'
 have un2 : (hn 2).used = true := by rw [Bn.b2]; rfl
 have l15 : ∀ {K : HK}, ab PP (.ld (.c (.ptr p 0 0)) 15 true) hn K = K (aR.e B.i[i]) hn := fun {K} => by rw [qP pb (by simp [aR.cs])]; rfl
 simp only [l15, ↓bf un2, Nat.zero_add, ↓eG Bn.b2 (j := 0) rfl, ↓eG Bn.b2 (j := 2) rfl, true_and]
 rw [cB rfl]
 have ee : D.agg (fillD [.int .i64 0, .int .i64 0, .int .i64 0, .int .i64 0, .int .i64 0, .int .i64 0, .int .i64 0, .int .i64 0, .int .i32 0]
   ([(2, 1, Arg.c (.int .i64 it.id)), (3, 1, .c (.int .i64 av)), (4, 1, .c (.int .i64 it.block)), (5, 1, .c (.int .i64 (i : Int)))].map fun p => (p.1, p.2.1, (p.2.2.get []).cells))) = (SQ it.id av it.block (i : Int)).e := rfl
 rw [ee]
 have P2 : runP c l it.id av it.block (B.i.drop i) i st' = (dC c l it.id B.i[i] (SQ it.id av it.block i) st').bind (runP c l it.id av it.block (B.i.drop (i + 1)) (i + 1)) := by
  rw [List.drop_eq_getElem_cons hlt]; rfl
 have iok := hxs _ (List.getElem_mem hlt)
 refine Ts ⟨_, _, _, _, _, _, Xn⟩ hc hl hi.id W' (by omega) iok (fun st2 h2 ro2 hst F2 X2 => ?_) (fun h2 ro2 hst F2 => ?_)
 ·obtain ⟨w2, l2⟩ := D7 hc hl W' iok hst
  rw [hst] at P2
  rw [bt, GB (i := i) (by omega)]
  refine ⟨by simp, m - 1, by omega, i + 1, ro2, st2, rfl, by omega, Bn.aB fun j hj => (F2 j (Bn.nf hj)).2.2 (Rn j hj), fun k hk => by rw [(F2 k (Bn.nf hk)).1]; exact Rn k hk, X2, w2, by omega, ?_⟩
  rw [<- P', P2]; rfl
 ·have B2 : eh h2 c l it g s := Bn.aB fun j hj => (F2 j (Bn.nf hj)).2.2 (Rn j hj)
  rw [hst] at P2
  rw [<- P', P2] at sP
  refine H9 ?_
  have i7 : ∀ {K : HK}, ab PP (.ld (.c (.ptr 2 0 0)) 7 true) h2 K = K it.e h2 := fun {K} => dh B2.b2
  rw [i7, GC B2.b3 rfl, GC B2.b4 rfl]
  refine SI (cs := it.cs) rfl rfl (MH it) B2.b5 B2.b6 B2.b7 B2.b8 B2.b9 od od ⟨rfl, rfl⟩ fun h' => ?_
  exact GR sP
def eW (h : Heap) (ro : Ro) (h' : Heap) (ro' : Ro) : Prop := ∀ k, h k ≠ .free -> h' k = h k /\ ro' k = ro k
theorem eW.refl {h : Heap} {ro : Ro} : eW h ro h ro := fun _ _ => ⟨rfl, rfl⟩
theorem eW.trans {h1 h2 h3 : Heap} {r1 r2 r3 : Ro} (a : eW h1 r1 h2 r2) (b : eW h2 r2 h3 r3) : eW h1 r1 h3 r3 := fun k hk => by
 obtain ⟨a1, a2⟩ := a k hk
 obtain ⟨b1, b2⟩ := b k (by rw [a1]; exact hk)
 exact ⟨b1.trans a1, b2.trans a2⟩
theorem eW.aB {h h' : Heap} {ro ro' : Ro} (a : eW h ro h' ro') : cE h ro h' ro' := fun k hk _ => a k hk
theorem eW.new {h : Heap} {ro : Ro} {n : Nat} (hn : h n = .free) (r : mP) (s : Slot) : eW h ro (ah h n s) (ah ro n r) := fun k hk => by
 have : k ≠ n := by rintro rfl; exact hk hn
 rw [aa _ _ this, aa _ _ this]; exact ⟨rfl, rfl⟩
theorem eW.free {h h' : Heap} {ro ro' : Ro} (a : eW h ro h' ro') {k : Nat} (hk : h' k = .free) : h k = .free := by
 cases e : h k <;> first | rfl | (exfalso; have := (a k (by rw [e]; simp)).1; rw [hk, e] at this; cases this)
theorem eW.fr {h h' : Heap} {ro ro' : Ro} (a : eW h ro h' ro') : Fr ro h ro' h' := fun k hk => ⟨(a k hk).2, by rw [(a k hk).1]; exact hk, fun _ => (a k hk).1⟩
theorem eW.box {h h' : Heap} {ro ro' : Ro} (a : eW h ro h' ro') {k : Nat} {d : D} (hk : h k = .box d) : h' k = .box d := by rw [(a k (by rw [hk]; simp)).1]; exact hk
theorem FA {P : Program} {h : Heap} {KH : HK} {esz bytes m : Nat} {z z' d : D} {els : List D} (hm : h m = .arr esz els) (h2 : aw d) (h3 : d.cells.length = esz) (hb : (els.length + 1) * bytes <= 140737488355328) (hl : els.length + 1 <= 9223372036854775807)
  (hk : ∀ n h', h n = .free -> h' n = .arr esz (els ++ [d]) -> (∀ k, h k ≠ .free -> k ≠ m -> h' k = h k) -> KH (.ms n 0 (els.length + 1)) h') : ab P (.bldS false esz 1 z [(0, .c d)]) h fun x h1 => ab P (.app (.c (.ms m 0 els.length)) (.c x) esz bytes z') h1 KH := by
 refine ⟨fun p hp => by simp [Arg.get] at hp; subst hp; exact ⟨Nat.one_pos, h3, h2⟩, fun h => (by cases h), fun n1 t1 => ?_⟩
 have hne : m ≠ n1 := t1.ne (by rw [hm]; simp)
 have hse : setEls (List.replicate 1 z) ([(0, Arg.c d)].map fun p => (p.1, if (false : Bool) = true then (p.2.get []).fz h else p.2.get [])) = [d] := rfl
 rw [hse]
 simp only [Bool.false_eq_true, if_false]
 have hx : ((ah h n1 (.arr esz [d])) n1).row = some (esz, [d]) := by rw [ad]; rfl
 refine ⟨[d], hx, by simp, ?_⟩
 simp only [List.drop_zero, List.take_succ_cons, List.take_zero]
 refine ⟨fun y hy => by simp at hy; subst hy; exact h2, ?_⟩
 refine ⟨els, by rw [aa _ _ hne]; exact hm, rfl, rfl, ⟨by simpa using hb, by simpa using hl⟩, fun n t => ?_⟩
 have hn := t.free
 have hnm : n ≠ n1 := by rintro rfl; rw [ad] at hn; cases hn
 rw [aa _ _ hnm] at hn
 have := hk n
 simp only [List.length_cons, List.length_nil, Nat.zero_add]
 refine this _ hn (ad _ _ _) fun k hk1 hk2 => ?_
 have e1 : k ≠ n := by rintro rfl; exact hk1 hn
 have e2 : k ≠ n1 := t1.ne hk1
 rw [aa _ _ e1, aa _ _ hk2, aa _ _ e2]
theorem NJ {P : Program} {h : Heap} {KH : HK} {z' : D} {n : Nat} {w : List Int} (hl : w.length <= 1000000) (hn : h n = .arr 1 [])
  (hk : ∀ m h', h m = .free -> h' m = .arr 1 (wr w) -> (∀ k, h k ≠ .free -> k ≠ n -> h' k = h k) -> KH (.ms m 0 w.length) h') : ab P (.app (.c (.ms n 0 0)) (.c (words w)) 1 4 z') h KH := by
 refine ⟨fun d hd => ?_, fun y hy => ?_, [], hn, rfl, rfl, ⟨?_, ?_⟩, fun m t2 => ?_⟩
 ·simp only [words, List.mem_map] at hd; obtain ⟨z, -, rfl⟩ := hd; rfl
 ·simp only [words, List.mem_map] at hy; obtain ⟨z, -, rfl⟩ := hy; simp
 ·simp; omega
 ·simp; omega
 ·have := hk m (ah (ah h n .dead) m (.arr 1 (wr w))) t2.free (ad _ _ _) fun k hk hkn => by
   rw [aa _ _ (t2.ne hk), aa _ _ hkn]
  simpa [wr, words] using this
theorem KX {P : Program} {h : Heap} {KH : HK} {z z' : D} {fz : Bool} {w : List Int} (hl : w.length <= 1000000)
  (hk : ∀ n h', h n = .free -> h' n = .arr 1 (wr w) -> (∀ k, h k ≠ .free -> h' k = h k) -> KH (.ms n 0 w.length) h') : ab P (.bldS fz 1 0 z []) h fun x h1 => ab P (.app (.c x) (.c (words w)) 1 4 z') h1 KH := by
 refine qR fun n t => NJ hl (ad _ _ _) fun m h' hm hm2 hk2 => ?_
 have hmn : m ≠ n := by rintro rfl; rw [ad] at hm; cases hm
 refine hk m h' (by rw [aa _ _ hmn] at hm; exact hm) hm2 fun k hkf => ?_
 have hkn := t.ne hkf
 rw [hk2 k (by rw [aa _ _ hkn]; exact hkf) hkn, aa _ _ hkn]
theorem G1 {h0 h2 h4 : Heap} {ro0 : Ro} {s q n2 n4 : Nat} {m : Mm} {w : List Int} {els : List D} (y : nE h0 ro0 s m q els) (f2 : h0 n2 = .free) (a2 : h2 n2 = .arr 1 (wr w)) (k2 : ∀ k, h0 k ≠ .free -> h2 k = h0 k)
  (f4 : h2 n4 = .free) (a4 : h4 n4 = .arr 1 (els ++ [.ms n2 0 w.length])) (k4 : ∀ k, h2 k ≠ .free -> k ≠ q -> h4 k = h2 k) :
  nE h4 (ah (ah ro0 n2 (.row s m.length)) n4 (.mem s)) s (m ++ [w]) n4 (els ++ [.ms n2 0 w.length]) := by
 have n24 : n2 ≠ n4 := by rintro rfl; rw [a2] at f4; cases f4
 have n2q : n2 ≠ q := by rintro rfl; rw [y.hk] at f2; cases f2
 have n4f : h0 n4 = .free := by
  cases e : h0 n4 <;> first | rfl | (exfalso; have := k2 n4 (by rw [e]; simp); rw [f4, e] at this; cases this)
 refine ⟨a4, ad _ _ _, by simp [y.len], fun i e v he hv => ?_⟩
 rcases Nat.lt_or_ge i els.length with hi | hi
 ·rw [List.getElem?_append_left hi] at he
  rw [List.getElem?_append_left (by rw [<- y.len]; exact hi)] at hv
  rcases y.el i e v he hv with g | ⟨p, g1, g2, g3⟩
  ·exact Or.inl g
  ·have pf : h0 p ≠ .free := cr g2
   have p2 : p ≠ n2 := by rintro rfl; exact pf f2
   have p4 : p ≠ n4 := by rintro rfl; exact pf n4f
   have pq : p ≠ q := by rintro rfl; have := y.rk; rw [g3] at this; cases this
   refine Or.inr ⟨p, g1, ?_, by rw [aa _ _ p4, aa _ _ p2]; exact g3⟩
   rw [k4 p (by rw [k2 p pf]; exact pf) pq, k2 p pf]; exact g2
 ·have hie : i = els.length := by
   have := (List.getElem?_eq_some_iff.1 he).1
   simp at this; omega
  subst hie
  rw [List.getElem?_append_right (Nat.le_refl _), Nat.sub_self] at he
  rw [y.len, List.getElem?_append_right (Nat.le_refl _), Nat.sub_self] at hv
  simp at he hv
  subst he hv
  exact Or.inr ⟨n2, rfl, by rw [k4 n2 (by rw [a2]; simp) n2q]; exact a2, by rw [aa _ _ n24, ad, y.len]⟩
theorem wL {h h0 h2 h4 : Heap} {ro ro0 : Ro} {q n2 n4 : Nat} {r2 r4 : mP} (x : eW h ro h0 ro0) (hq : h q = .free) (f2 : h0 n2 = .free) (k2 : ∀ k, h0 k ≠ .free -> h2 k = h0 k) (f4 : h2 n4 = .free) (k4 : ∀ k, h2 k ≠ .free -> k ≠ q -> h4 k = h2 k) :
  eW h ro h4 (ah (ah ro0 n2 r2) n4 r4) /\ h n4 = .free := by
 have n4f : h0 n4 = .free := by
  cases e : h0 n4 <;> first | rfl | (exfalso; have := k2 n4 (by rw [e]; simp); rw [f4, e] at this; cases this)
 refine ⟨fun k hk => ?_, x.free n4f⟩
 obtain ⟨x1, x2⟩ := x k hk
 have kf : h0 k ≠ .free := by rw [x1]; exact hk
 have e2 : k ≠ n2 := by rintro rfl; exact kf f2
 have e4 : k ≠ n4 := by rintro rfl; exact kf n4f
 have eq : k ≠ q := by rintro rfl; exact hk hq
 exact ⟨by rw [k4 k (by rw [k2 k kf]; exact kf) eq, k2 k kf, x1], by rw [aa _ _ e4, aa _ _ e2, x2]⟩
def CB (els : List D) : Prop := ∀ e ∈ els, ∃ q l, e = D.ms q 0 l
theorem CB.nil : CB [] := fun _ h => by cases h
theorem CB.snoc {els : List D} (h : CB els) (q l : Nat) : CB (els ++ [.ms q 0 l]) := fun e he => by
 rcases List.mem_append.1 he with he | he
 ·exact h e he
 ·simp at he; exact ⟨q, l, he⟩
def jf (h : Heap) (ro : Ro) (s : Nat) (d : D) (m : Mm) : Prop := ∃ k els, d = .ms k 0 m.length /\ nE h ro s m k els /\ CB els
theorem jf.r {h : Heap} {ro : Ro} {s : Nat} {d : D} {m : Mm} (x : jf h ro s d m) : p8 h ro s d m := by
 obtain ⟨k, els, h1, h2, -⟩ := x
 exact ⟨k, els, h1, h2⟩
theorem jf.aB {h h' : Heap} {ro ro' : Ro} (k : cE h ro h' ro') {s : Nat} {d : D} {m : Mm} (x : jf h ro s d m) : jf h' ro' s d m := by
 obtain ⟨q, els, h1, h2, h3⟩ := x
 exact ⟨q, els, h1, h2.aB k, h3⟩
theorem jf.one {h : Heap} {ro : Ro} {s : Nat} {d : D} {m : Mm} (x : jf h ro s d m) : d.one = true := x.r.one
structure Px (m : Mm) : Prop where
 len : m.length <= 1000
 w : ∀ w ∈ m, w.length <= 1000
theorem gL.b {c : Code} {s : Nat} {m : Mm} (hc : bq c) (h : gL c.arrays s m) : Px m := by
 refine ⟨by have := hc.nar; rw [h.len]; omega, fun w hw => ?_⟩
 obtain ⟨i, hi⟩ := List.getElem?_of_mem hw
 have hlt := (List.getElem?_eq_some_iff.1 hi).1
 rw [h.len] at hlt
 have hg := List.getElem?_eq_getElem hlt
 have := (h.w i _ w hg hi).1
 have ho := hc.ar _ (List.getElem_mem hlt)
 rw [this]; unfold BB
 have := ho.2.2
 split <;> omega
theorem wN {P : Program} {m : Mm} {i : Nat} {w : List Int} (hw : m[i]? = some w) {h : Heap} {KH : HK} : ab P (.iadd (.c (aO m)) (.c (.int .i64 (i : Int))) 1) h KH = KH (.vp (words w) 0) h := by
 have hk := (List.getElem?_eq_some_iff.1 hw).1
 rw [aO, gX, Int.toNat_natCast, List.getElem?_map, hw, List.length_map]
 apply propext
 constructor
 ·rintro ⟨-, -, h⟩; exact (h _ rfl).2
 ·intro hk'; exact ⟨by omega, by omega, fun d hd => by cases hd; exact ⟨rfl, hk'⟩⟩
theorem qg {P : Program} {w : List Int} {h : Heap} {KH : HK} : ab P (.ld (.c (.vp (words w) 0)) 1 false) h KH = KH (words w) h := by rw [iD, bk]; rfl
theorem Io {h : Heap} {ro : Ro} {m : Mm} (hm : Px m) (s : Nat) {KH : HK} (hK : ∀ d h' ro', eW h ro h' ro' -> jf h' ro' s d m -> KH d h') : ag PP iA [aO m] h KH := by
 refine aW CJ (aA _ _ _) rfl (Cq _ _) ?_
 (unfold xC; try dsimp only [xL, yL, xF, yF, xI, yI, xS, zI, zJ])
 refine qR fun n0 t0 => ?_
 refine ⟨fun qs h' => ∃ d ro', qs = [d] /\ eW h ro h' ro' /\ jf h' ro' s d m, ?_, ?_⟩
 ·rintro f h' ⟨d, ro', hf, x, y⟩
  simp only [List.cons.injEq, and_true] at hf
  rw [hf]; exact hK d h' ro' x y
 (unfold pg; try dsimp only [xL, yL, xF, yF, xI, yI, xS, zI, zJ])
 refine ⟨fun k qs h' => ∃ (i q : Nat) (els : List D) (ro' : Ro), qs = [.ms q 0 i, .int .i64 (i : Int)] /\ k + i = m.length /\ eW h ro h' ro' /\ h q = .free /\ nE h' ro' s (m.take i) q els /\ CB els, m.length,
  ⟨0, n0, [], ah ro n0 (.mem s), rfl, by omega, eW.new t0.free _ _, t0.free, ⟨ad _ _ _, ad _ _ _, by simp, fun i e w he => (by simp at he)⟩, CB.nil⟩, ?_⟩
 rintro k f h' ⟨i, q, els, ro', hf, hki, x, hq, y, yo⟩
 simp only [List.cons.injEq, and_true] at hf
 obtain ⟨hf1, hf2⟩ := hf
 rw [hf1, hf2, lf, bK]
 have hml := hm.len
 by_cases hi : i < m.length
 case neg =>
  simp only [show ¬ ((i : Int) < (m.length : Int)) by omega, decide_false, ↓ae, ai, true_and]
  rw [List.take_of_length_le (by omega)] at y
  have : i = m.length := by omega
  subst this
  exact ⟨_, ro', rfl, x, q, els, rfl, y, yo⟩
 have hw : m[i]? = some m[i] := List.getElem?_eq_getElem hi
 simp only [show ((i : Int) < (m.length : Int)) by omega, decide_true, ↓af, ↓wN hw, ↓qg]
 refine KX (by have := hm.w _ (List.getElem_mem hi); omega) fun n2 h2 f2 a2 k2 => ?_
 have hel : els.length = i := by have := y.len; rw [List.length_take] at this; omega
 have hq2 : h2 q = .arr 1 els := by rw [k2 q (cr y.hk)]; exact y.hk
 have app := FA (P := PP) (esz := 1) (bytes := 24) (z := .nil) (z' := .nil) (d := .ms n2 0 (List.length m[i])) (KH := fun a23 h24 => vbin .add (.int .i64 (i : Int)) (.int .i64 1) fun a25 =>
  aG [aO m] [aO m] /\ ∃ m', m' < k /\ ∃ (i q : Nat) (els : List D) (ro' : Ro), [a23, a25] = [.ms q 0 i, .int .i64 (i : Int)] /\ m' + i = m.length /\ eW h ro h24 ro' /\ h q = .free /\ nE h24 ro' s (m.take i) q els /\ CB els)
  hq2 (by simp) rfl (by omega) (by omega) fun n4 h4 f4 a4 k4 => ?_
 ·rw [hel] at app
  exact app
 ·obtain ⟨e1, e2⟩ := wL (r2 := .row s (m.take i).length) (r4 := .mem s) x hq f2 k2 f4 k4
  have ym := G1 y f2 a2 k2 f4 a4 k4
  rw [bt, GB (i := i) (by omega)]
  refine ⟨by simp, k - 1, by omega, i + 1, n4, els ++ [.ms n2 0 (List.length m[i])], _, by rw [hel], by omega, e1, e2, ?_, yo.snoc _ _⟩
  rw [List.take_add_one, hw]
  exact ym
theorem NX {P : Program} {h : Heap} {n : Nat} {cs : List D} (a : h n = .box (.agg cs)) (hl : cs.length = 7) {KH : HK} : ab P (.ld (.c (.ptr n 0 0)) 7 true) h KH = KH (.agg cs) h := by rw [<- hl]; exact dh a
theorem zN {P : Program} {h : Heap} {n : Nat} {cs : List D} (a : h n = .box (.agg cs)) (hl : cs.length = 11) {KH : HK} : ab P (.ld (.c (.ptr n 0 0)) 11 true) h KH = KH (.agg cs) h := by rw [<- hl]; exact dh a
theorem mD {P : Program} {h : Heap} {n s : Nat} {cs cs' : List D} (a : h n = .box (.agg cs)) (hl : cs.length = s) (hl' : cs'.length = s) (ho : ∀ x, x ∈ cs' -> x.one = true) {KH : HK} :
  ab P (.st (.c (.ptr n 0 0)) (.c (.agg cs')) s) h KH = KH .undef (ah h n (.box (.agg cs'))) := by
 have e : setCells (.agg cs) 0 (D.agg cs').cells = .agg cs' := by
  simp only [setCells, bV, List.take_zero, List.nil_append]
  rw [List.drop_of_length_le (by omega), List.append_nil]
 rw [dq, a]
 apply propext
 constructor
 ·rintro ⟨-, -, -, -, h⟩; rw [e] at h; exact h
 ·intro h; exact ⟨hl', ho, rfl, by simp [hl], by rw [e]; exact h⟩
theorem HX {P : Program} {h : Heap} {n j : Nat} {cs : List D} {d : D} (a : h n = .box (.agg cs)) (hj : j < cs.length) (ho : d.one = true) {KH : HK} :
  ab P (.st (.c (.ptr n 0 j)) (.c d) 1) h KH = KH .undef (ah h n (.box (.agg (cs.set j d)))) := by
 have hc := gx ho
 have e : setCells (.agg cs) j d.cells = .agg (cs.set j d) := by
  rw [hc]
  simp only [setCells, List.length_singleton]
  rw [List.set_eq_take_append_cons_drop, if_pos hj]
  simp
 rw [dq, a]
 apply propext
 constructor
 ·rintro ⟨-, -, -, -, h⟩; rw [e] at h; exact h
 ·intro h
  refine ⟨by rw [hc]; rfl, fun x hx => ?_, rfl, ?_, by rw [e]; exact h⟩
  ·rw [hc] at hx; simp at hx; subst hx; exact ho
  ·show j + 1 <= cs.length; omega
abbrev D4 : List D := [.int .i64 0, .int .i64 0, .int .i64 0, .int .i64 0, .nil, .nil, .nil]
theorem DR {h : Heap} {ro : Ro} {it : It} (hr : it.regs.length <= 1000) (hp : Px it.priv) {KH : HK}
  (hK : ∀ dR dP dL h' ro', eW h ro h' ro' -> oM h' ro' dR it.regs -> jf h' ro' 3 dP it.priv -> HU h' ro' dL -> KH (sH it dR dP dL) h') : ag PP iz [it.e] h KH := by
 refine aW CE (aA _ _ _) rfl (Ck _ _) ?_
 (unfold xv; try dsimp only [xL, yL, xF, yF, xI, yI, xS, zI, zJ])
 rw [cC]
 refine ⟨it.bZ.one, fun a ta => ?_⟩
 rw [bQ]
 intro b tb
 have hab : a ≠ b := tb.ne (by rw [ad]; simp)
 have x1 : eW h ro (ah (ah h a (.box it.e)) b (.box (.agg D4))) (ah (ah ro a .no) b .no) := (eW.new ta.free .no _).trans (eW.new tb.free .no _)
 have a1 : ah (ah h a (.box it.e)) b (.box (.agg D4)) a = .box (.agg it.cs) := by rw [aa _ _ hab, ad]; rfl
 have b1 : ah (ah h a (.box it.e)) b (.box (.agg D4)) b = .box (.agg D4) := ad _ _ _
 have haf : h a = .free := ta.free
 have hbf : h b = .free := by have := tb.free; rw [aa _ _ hab.symm] at this; exact this
 generalize ah (ah h a (.box it.e)) b (.box (.agg D4)) = h1 at x1 a1 b1
 have ra : ah (ah ro a .no) b .no a = .no := by rw [aa _ _ hab, ad]
 have rb : ah (ah ro a .no) b .no b = .no := ad _ _ _
 generalize ah (ah ro a .no) b .no = ro1 at x1 ra rb
 have bnf : ∀ {g : Heap} {n : Nat} {s : Slot}, g b = .box (.agg D4) -> g n = .free -> ah g n s b = .box (.agg D4) := fun {g n s} h1 h2 => by rw [aa _ _ (by rintro rfl; rw [h1] at h2; cases h2)]; exact h1
 refine qR fun n2 t2 => ?_
 have x2 : eW h1 ro1 (ah h1 n2 (.arr 1 [])) (ah ro1 n2 .no) := eW.new t2.free .no _
 have a2 := x2.box a1
 have u2 : (ah h1 n2 (.arr 1 []) a).used = true := by rw [a2]; rfl
 simp only [↓bf u2, Nat.zero_add, ↓eG a2 (j := 4) rfl, true_and]
 refine NJ (w := it.regs) (by omega) (ad _ _ _) fun q3 h3 f3 g3 k3 => ?_
 have x3 : eW h1 ro1 h3 (ah ro1 q3 .regs) := fun k hk => by
  have hk2 := t2.ne hk
  have hq : k ≠ q3 := by rintro rfl; rw [aa _ _ hk2] at f3; exact hk f3
  exact ⟨by rw [k3 k (by rw [aa _ _ hk2]; exact hk) hk2, aa _ _ hk2], aa _ _ hq⟩
 have R3 : oM h3 (ah ro1 q3 .regs) (.ms q3 0 it.regs.length) it.regs := ⟨q3, rfl, g3, ad _ _ _⟩
 have a3 := x3.box a1
 have b3 := x3.box b1
 have ra3 : ah ro1 q3 .regs a = .no := by rw [(x3 a (by rw [a1]; simp)).2]; exact ra
 have rb3 : ah ro1 q3 .regs b = .no := by rw [(x3 b (by rw [b1]; simp)).2]; exact rb
 have X3 := x1.trans x3
 generalize ah ro1 q3 .regs = ro3 at x3 R3 X3 ra3 rb3
 have u3 : (h3 a).used = true := by rw [a3]; rfl
 simp only [↓bf u3, Nat.zero_add, true_and]
 rw [HX a3 (by simp [It.cs]) rfl]
 have fr4 : eW h ro (ah h3 a (.box (.agg (it.cs.set 4 (.ms q3 0 it.regs.length))))) ro3 := fun k hk => by
  have : k ≠ a := by rintro rfl; exact hk haf
  rw [aa _ _ this]; exact X3 k hk
 have R4 := R3.aB (cE.av (s := .box (.agg (it.cs.set 4 (.ms q3 0 it.regs.length)))) (by rw [ra3]; rfl))
 have a4 : ah h3 a (.box (.agg (it.cs.set 4 (.ms q3 0 it.regs.length)))) a = .box (.agg [.int .i64 it.id, .int .i64 it.at_, .int .i64 it.block, .int .i64 it.epoch, .ms q3 0 it.regs.length, aO it.priv, .sl []]) := ad _ _ _
 have b4 : ah h3 a (.box (.agg (it.cs.set 4 (.ms q3 0 it.regs.length)))) b = .box (.agg D4) := by rw [aa _ _ hab.symm]; exact b3
 generalize ah h3 a (.box (.agg (it.cs.set 4 (.ms q3 0 it.regs.length)))) = h4 at fr4 R4 a4 b4
 clear x1 a1 b1 ra rb x2 a2 u2 x3 a3 b3 X3 R3 u3 f3 g3 k3 t2
 have u4 : (h4 a).used = true := by rw [a4]; rfl
 simp only [↓bf u4, Nat.zero_add, ↓eG a4 (j := 5) rfl, true_and]
 refine Io (ro := ro3) hp 3 fun dP h5 ro5 x5 M5 => ?_
 have a5 := x5.box a4
 have b5 := x5.box b4
 have ra5 : ro5 a = .no := by rw [(x5 a (by rw [a4]; simp)).2]; exact ra3
 have rb5 : ro5 b = .no := by rw [(x5 b (by rw [b4]; simp)).2]; exact rb3
 have fr5 := fr4.trans x5
 have R5 := R4.aB x5.aB
 have u5 : (h5 a).used = true := by rw [a5]; rfl
 have oP := M5.one
 simp only [↓bf u5, Nat.zero_add, true_and]
 rw [HX a5 (by simp) oP]
 have fr6 : eW h ro (ah h5 a (.box (.agg ([.int .i64 it.id, .int .i64 it.at_, .int .i64 it.block, .int .i64 it.epoch, .ms q3 0 it.regs.length, aO it.priv, .sl []].set 5 dP)))) ro5 := fun k hk => by
  have : k ≠ a := by rintro rfl; exact hk haf
  rw [aa _ _ this]; exact fr5 k hk
 have kt : cE h5 ro5 (ah h5 a (.box (.agg ([.int .i64 it.id, .int .i64 it.at_, .int .i64 it.block, .int .i64 it.epoch, .ms q3 0 it.regs.length, aO it.priv, .sl []].set 5 dP)))) ro5 := cE.av (by rw [ra5]; rfl)
 have R6 := R5.aB kt
 have M6 := M5.aB kt
 have a6 : ah h5 a (.box (.agg ([.int .i64 it.id, .int .i64 it.at_, .int .i64 it.block, .int .i64 it.epoch, .ms q3 0 it.regs.length, aO it.priv, .sl []].set 5 dP))) a = .box (.agg [.int .i64 it.id, .int .i64 it.at_, .int .i64 it.block, .int .i64 it.epoch, .ms q3 0 it.regs.length, dP, .sl []]) := ad _ _ _
 have b6 : ah h5 a (.box (.agg ([.int .i64 it.id, .int .i64 it.at_, .int .i64 it.block, .int .i64 it.epoch, .ms q3 0 it.regs.length, aO it.priv, .sl []].set 5 dP))) b = .box (.agg D4) := by rw [aa _ _ hab.symm]; exact b5
 generalize ah h5 a (.box (.agg ([.int .i64 it.id, .int .i64 it.at_, .int .i64 it.block, .int .i64 it.epoch, .ms q3 0 it.regs.length, aO it.priv, .sl []].set 5 dP))) = h6 at fr6 R6 M6 a6 b6
 clear fr4 R4 a4 b4 u4 x5 M5 a5 b5 fr5 R5 u5 kt ra3 rb3
 refine qR fun n7 t7 => ?_
 have f7 := t7.free
 have a7 : ah h6 n7 (.arr 1 []) a = .box (.agg [.int .i64 it.id, .int .i64 it.at_, .int .i64 it.block, .int .i64 it.epoch, .ms q3 0 it.regs.length, dP, .sl []]) := by rw [aa _ _ (by rintro rfl; rw [a6] at f7; cases f7)]; exact a6
 have u7 : (ah h6 n7 (.arr 1 []) a).used = true := by rw [a7]; rfl
 simp only [↓bf u7, Nat.zero_add, ↓eG a7 (j := 6) rfl, true_and]
 refine NJ (w := []) (by simp) (ad _ _ _) fun q8 h8 f8 g8 k8 => ?_
 have x8 : eW h6 ro5 h8 (ah ro5 q8 .sl) := fun k hk => by
  have hk2 := t7.ne hk
  have hq : k ≠ q8 := by rintro rfl; rw [aa _ _ hk2] at f8; exact hk f8
  exact ⟨by rw [k8 k (by rw [aa _ _ hk2]; exact hk) hk2, aa _ _ hk2], aa _ _ hq⟩
 have L8 : HU h8 (ah ro5 q8 .sl) (.ms q8 0 0) := Or.inr (Or.inr ⟨q8, rfl, g8, ad _ _ _⟩)
 have R8 := R6.aB x8.aB
 have M8 := M6.aB x8.aB
 have a8 := x8.box a6
 have b8 := x8.box b6
 have fr8 := fr6.trans x8
 have ra8 : ah ro5 q8 .sl a = .no := by rw [(x8 a (by rw [a6]; simp)).2]; exact ra5
 have rb8 : ah ro5 q8 .sl b = .no := by rw [(x8 b (by rw [b6]; simp)).2]; exact rb5
 generalize ah ro5 q8 .sl = ro8 at x8 L8 R8 M8 fr8 ra8 rb8
 clear fr6 R6 M6 a6 b6 a7 u7 x8 ra5 rb5 f8 g8 k8 t7 f7
 have u8 : (h8 a).used = true := by rw [a8]; rfl
 simp only [↓bf u8, Nat.zero_add, List.length_nil, true_and]
 rw [HX a8 (by simp) rfl]
 have b9 : ah h8 a (.box (.agg ([.int .i64 it.id, .int .i64 it.at_, .int .i64 it.block, .int .i64 it.epoch, .ms q3 0 it.regs.length, dP, .sl []].set 6 (.ms q8 0 0)))) b = .box (.agg D4) := by rw [aa _ _ hab.symm]; exact b8
 have a9 : ah h8 a (.box (.agg ([.int .i64 it.id, .int .i64 it.at_, .int .i64 it.block, .int .i64 it.epoch, .ms q3 0 it.regs.length, dP, .sl []].set 6 (.ms q8 0 0)))) a = .box (.agg [.int .i64 it.id, .int .i64 it.at_, .int .i64 it.block, .int .i64 it.epoch, .ms q3 0 it.regs.length, dP, .ms q8 0 0]) := ad _ _ _
 have kt9 : cE h8 ro8 (ah h8 a (.box (.agg ([.int .i64 it.id, .int .i64 it.at_, .int .i64 it.block, .int .i64 it.epoch, .ms q3 0 it.regs.length, dP, .sl []].set 6 (.ms q8 0 0))))) ro8 := cE.av (by rw [ra8]; rfl)
 have fr9 : eW h ro (ah h8 a (.box (.agg ([.int .i64 it.id, .int .i64 it.at_, .int .i64 it.block, .int .i64 it.epoch, .ms q3 0 it.regs.length, dP, .sl []].set 6 (.ms q8 0 0))))) ro8 := fun k hk => by
  have : k ≠ a := by rintro rfl; exact hk haf
  rw [aa _ _ this]; exact fr8 k hk
 have R9 := R8.aB kt9
 have M9 := M8.aB kt9
 have L9 := L8.aB kt9
 generalize ah h8 a (.box (.agg ([.int .i64 it.id, .int .i64 it.at_, .int .i64 it.block, .int .i64 it.epoch, .ms q3 0 it.regs.length, dP, .sl []].set 6 (.ms q8 0 0)))) = h9 at b9 a9 kt9 fr9 R9 M9 L9
 rw [NX a9 rfl, mD (s := 7) (cs' := [.int .i64 it.id, .int .i64 it.at_, .int .i64 it.block, .int .i64 it.epoch, .ms q3 0 it.regs.length, dP, .ms q8 0 0]) b9 rfl rfl (by simp [oP])]
 have kt10 : cE h9 ro8 (ah h9 b (.box (.agg [.int .i64 it.id, .int .i64 it.at_, .int .i64 it.block, .int .i64 it.epoch, .ms q3 0 it.regs.length, dP, .ms q8 0 0]))) ro8 := cE.av (by rw [rb8]; rfl)
 rw [NX (ad _ _ _) rfl]
 refine hK _ dP _ _ ro8 (fun k hk => ?_) (R9.aB kt10) (M9.aB kt10) (L9.aB kt10)
 have : k ≠ b := by rintro rfl; exact hk hbf
 rw [aa _ _ this]; exact fr9 k hk
structure jR (h : Heap) (ro : Ro) (dR dE dL : D) (dm : Nat -> D) (st : St) : Prop where
 regs : oM h ro dR st.regs
 mem : ∀ s, 1 <= s -> s <= 3 -> jf h ro s (dm s) (st.mem s)
 ev : La h ro dE st.ev
 sl : HU h ro dL
section
variable {h : Heap} {ro : Ro} {dR dE dL : D} {dm : Nat -> D} {st : St}
theorem jR.r (x : jR h ro dR dE dL dm st) : I9 h ro dR dE dL dm st := ⟨x.regs, fun s h1 h2 => (x.mem s h1 h2).r, x.ev, x.sl⟩
theorem jR.aB {h' : Heap} {ro' : Ro} (k : cE h ro h' ro') (x : jR h ro dR dE dL dm st) : jR h' ro' dR dE dL dm st :=
 ⟨x.regs.aB k, fun s h1 h2 => (x.mem s h1 h2).aB k, x.ev.aB k, x.sl.aB k⟩
theorem jf.cV {E : mP -> Prop} {h h' : Heap} {ro ro' : Ro} (k : jC E h ro h' ro') {s : Nat} (hr : E (.mem s)) (hr2 : ∀ i, E (.row s i)) {d : D} {m : Mm} (x : jf h ro s d m) : jf h' ro' s d m := by
 obtain ⟨q, els, h1, h2, h3⟩ := x
 exact ⟨q, els, h1, h2.cV k hr hr2, h3⟩
theorem jR.ext {h' : Heap} (e : Ext h h') (x : jR h ro dR dE dL dm st) : jR h' ro dR dE dL dm st := x.aB (cE.ext e)
theorem jR.store (x : jR h ro dR dE dL dm st) {s k i : Nat} (hs : 1 <= s /\ s <= 3) {w : List Int} (hk : (st.mem s)[k]? = some w) (hi : i < w.length) {v : Int} {kk' : IntKind} {KH : HK}
  (hK : ∀ h', Fr ro h ro h' -> jR h' ro dR dE dL dm (st.put s k i v) -> KH .undef h') :
  ab PP (.iadd (.c (dm s)) (.c (.int .i64 (k : Int))) 1) h fun a h1 => ab PP (.ld (.c a) 1 false) h1 fun b h2 => ab PP (.iadd (.c b) (.c (.int kk' (i : Int))) 1) h2 fun e h3 => ab PP (.st (.c e) (.c (.int .i32 v)) 1) h3 KH := by
 obtain ⟨kk, els, hd, y, yo⟩ := x.mem s hs.1 hs.2
 have hlt := (List.getElem?_eq_some_iff.1 hk).1
 have hl := y.len
 have he : els[k]? = some (els[k]'(by omega)) := List.getElem?_eq_getElem (by omega)
 obtain ⟨q, hq, hq1, hq2⟩ : ∃ q, els[k]'(by omega) = .ms q 0 w.length /\ h q = .arr 1 (wr w) /\ ro q = .row s k := by
  rcases y.el k _ w he hk with g | g
  ·obtain ⟨q, l, e⟩ := yo _ (List.getElem_mem (h := (by omega : k < els.length)))
   rw [e] at g; cases g
  ·exact g
 rw [hq] at he
 rw [hd]
 simp only [↓bN, y.hk, Slot.row]
 refine ⟨by omega, by omega, ⟨_, rfl⟩, ?_⟩
 rw [lk, y.hk]
 refine ⟨by simp; omega, fun e he' => ?_⟩
 rw [show 0 + ((k : Int)).toNat = k by omega, he] at he'; cases he'
 simp only [↓bk, Ei, List.getElem?_cons_zero, ↓bN, hq1, Slot.row]
 refine ⟨by omega, by omega, ⟨_, rfl⟩, ?_⟩
 rw [dq, hq1]
 refine ⟨rfl, by simp, by simp [wr]; omega, by simp, fun d hd' => ?_⟩
 have e : setCells d 0 (D.int .i32 v).cells = .int .i32 v := by
  rw [Db, Option.map_eq_some_iff] at hd'
  obtain ⟨z, -, rfl⟩ := hd'
  rfl
 rw [e, show 0 + ((i : Int)).toNat = i by omega, Da]
 have hp : st.put s k i v = { st with mem := ah st.mem s ((st.mem s).set k (w.set i v)) } := by
  simp only [St.put, Ir, List.getD_eq_getElem?_getD, hk, Option.getD_some]
 have hne : ∀ k', ro k' ≠ .row s k -> k' ≠ q := by rintro k' hr rfl; exact hr hq2
 have X := x.r.LO (w' := w.set i v) hs hd y.hk he hk hq1 hq2 (by simp)
 refine hK _ (Fr.av (by rw [hq2]; simp) (by simp)) ?_
 rw [hp]
 refine ⟨X.regs, fun s' s1 s2 => ?_, X.ev, X.sl⟩
 obtain ⟨k0, els0, g1, g2, g3⟩ := x.mem s' s1 s2
 have hk0 : k0 ≠ q := hne k0 (by rw [g2.rk]; simp)
 obtain ⟨k1, els1, f1, f2⟩ := X.mem s' s1 s2
 have hlen : (ah st.mem s ((st.mem s).set k (w.set i v)) s').length = (st.mem s').length := by
  by_cases es : s' = s
  ·subst es; simp
  ·simp [aa _ _ es]
 have f1' := f1
 rw [g1] at f1'
 simp only [D.ms.injEq, true_and] at f1'
 obtain ⟨rfl, -⟩ := f1'
 refine ⟨k0, els1, f1, f2, ?_⟩
 have := f2.hk
 rw [aa _ _ hk0, g2.hk] at this
 cases this
 exact g3
theorem jR.Jq (x : jR h ro dR dE dL dm st) {i : Nat} {v : Int} (hi : i < st.regs.length) {KH : HK}
  (hK : ∀ h', Fr ro h ro h' -> jR h' ro dR dE dL dm (st.oZ i v) -> KH .undef h') : ab PP (.iadd (.c dR) (.c (.int .i64 (i : Int))) 1) h fun a h1 => ab PP (.st (.c a) (.c (.int .i32 v)) 1) h1 KH := by
 refine LV x.r hi fun q hq y => hK _ (Fr.av (by rw [hq]; simp) (by simp)) ?_
 refine ⟨y.regs, fun s s1 s2 => (x.mem s s1 s2).cV (E := fun r => r ≠ .regs) (fun k _ hr => ?_) (by simp) (by simp), y.ev, y.sl⟩
 rw [aa _ _ (by rintro rfl; exact hr hq)]; exact ⟨rfl, rfl⟩
theorem Nh {evs : List Ev} {e : Ev} {z z' : D} (x : La h ro dE evs) (hl : evs.length <= 1000000) {KH : HK}
  (hK : ∀ dE' h' ro', Fr ro h ro' h' -> jC (fun r => r ≠ .ev) h ro h' ro' -> La h' ro' dE' (evs ++ [e]) -> KH dE' h') :
  ab PP (.bldS true 9 1 z [(0, .c e.e)]) h fun y h1 => ab PP (.app (.c dE) (.c y) 9 72 z') h1 KH := by
 refine MR e.bZ.vd e.bZ.one rfl fun n5 t => ?_
 have hx : ((ah h n5 (.arr 9 [e.e])) n5).row = some (9, [e.e]) := by rw [ad]; rfl
 refine ⟨[e.e], hx, by simp, ?_⟩
 simp only [List.drop_zero, List.take_succ_cons, List.take_zero]
 refine ⟨fun y hy => by simp at hy; subst hy; exact e.bZ.one, ?_⟩
 have fin : ∀ (q : Nat) (h' : Heap), h q = .free -> h' q = .arr 9 ((evs ++ [e]).map Ev.e) -> (∀ k, h k ≠ .free -> ro k ≠ .ev -> h' k = h k) -> (∀ k, h k ≠ .free -> h' k ≠ .free) -> KH (.ms q 0 (evs.length + 1)) h' := by
  intro q h' hq hq2 hk hf
  have neq : ∀ k, h k ≠ .free -> k ≠ q := by rintro k hk rfl; exact hk hq
  refine hK _ h' (ah ro q .ev) (fun k hk' => ⟨aa _ _ (neq k hk'), hf k hk', fun hr => hk k hk' (by rw [hr]; simp)⟩) (fun k hk' hr => ⟨hk k hk' hr, aa _ _ (neq k hk')⟩) (Or.inr ⟨q, by simp, hq2, ad _ _ _⟩)
 rcases x with ⟨rfl, rfl⟩ | ⟨q0, rfl, g1, g2⟩
 ·refine ⟨⟨by simp, by simp⟩, fun q t2 => ?_⟩
  have hf := t2.free
  have hq5 : q ≠ n5 := by rintro rfl; rw [ad] at hf; cases hf
  refine fin q _ (by rw [aa _ _ hq5] at hf; exact hf) (by rw [ad]; rfl) (fun k hk _ => ?_) fun k hk => ?_
  all_goals
   have h5 := t.ne hk
   have h6 : k ≠ q := t2.ne (by rw [aa _ _ h5]; exact hk)
   rw [aa _ _ h6, aa _ _ h5]
  exact hk
 ·have hq05 : q0 ≠ n5 := t.ne (cr g1)
  refine ⟨_, by rw [aa _ _ hq05]; exact g1, rfl, by simp, ⟨by simp; omega, by simp; omega⟩, fun q t2 => ?_⟩
  have hf := t2.free
  have hq5 : q ≠ n5 := by rintro rfl; rw [ad] at hf; cases hf
  refine fin q _ (by rw [aa _ _ hq5] at hf; exact hf) (by rw [ad]; simp) (fun k hk hr => ?_) fun k hk => ?_
  ·have h5 := t.ne hk
   have h6 : k ≠ q := t2.ne (by rw [aa _ _ h5]; exact hk)
   have h0 : k ≠ q0 := by rintro rfl; exact hr g2
   rw [aa _ _ h6, aa _ _ h0, aa _ _ h5]
  ·have h5 := t.ne hk
   have h6 : k ≠ q := t2.ne (by rw [aa _ _ h5]; exact hk)
   rw [aa _ _ h6]
   by_cases e0 : k = q0
   ·rw [e0, ad]; simp
   ·rw [aa _ _ e0, aa _ _ h5]; exact hk
abbrev dT (it : It) (dR dL dE : D) (dm : Nat -> D) (e : Int) : List D :=
 [.int .i64 it.id, .int .i64 it.at_, .int .i64 it.block, .int .i64 it.epoch, dR, dm 3, dL, dm 1, dm 2, dE, .int .i64 e]
theorem jR.dp (x : jR h ro dR dE dL dm st) (it : It) (e : Int) : ∀ d, d ∈ dT it dR dL dE dm e -> d.one = true := by
 have o1 := (x.mem 1 (by omega) (by omega)).one
 have o2 := (x.mem 2 (by omega) (by omega)).one
 have o3 := (x.mem 3 (by omega) (by omega)).one
 have oR := x.regs.one
 have oL := x.sl.one
 have oE := x.ev.one
 intro d hd
 simp at hd
 rcases hd with rfl | rfl | rfl | rfl | rfl | rfl | rfl | rfl | rfl | rfl | rfl <;> first | rfl | assumption
theorem Sm (x : jR h ro dR dE dL dm st) {c : Code} {it : It} {e : Int} (hc : bq c) (hw : qf c st) {k i : Nat} {r : bM} (hk : k < c.arrays.length) (hr : c.arrays[k]? = some r) (hi : (i : Int) < gZ c k) {KH : HK}
  (hK : ∀ h', Ext h h' -> KH (.int .i32 (st.word (br c k) k i)) h') : ag PP qE [.agg (dT it dR dL dE dm e), r.e, .int .i64 (k : Int), .int .i64 (i : Int)] h KH := by
 refine aW EM (aA _ _ _) rfl (Eu _ _ _ _ _) ?_
 (unfold A0; try dsimp only [xL, yL, xF, yF, xI, yI, xS, zI, zJ])
 rw [cC]
 refine ⟨x.dp it e, fun a ta => ?_⟩
 rw [cC]
 refine ⟨(bM.bZ r).one, fun b tb => ?_⟩
 have hab : a ≠ b := tb.ne (by rw [ad]; simp)
 have ex : Ext h (ah (ah h a (.box (.agg (dT it dR dL dE dm e)))) b (.box r.e)) := (Ext.new ta _).trans (Ext.new tb _)
 have a1 : ah (ah h a (.box (.agg (dT it dR dL dE dm e)))) b (.box r.e) a = .box (.agg (dT it dR dL dE dm e)) := by rw [aa _ _ hab, ad]
 have b1 : ah (ah h a (.box (.agg (dT it dR dL dE dm e)))) b (.box r.e) b = .box (.agg [.str r.name, .int .i64 r.space, .int .i64 r.type, .int .i64 r.len]) := ad _ _ _
 generalize ah (ah h a (.box (.agg (dT it dR dL dE dm e)))) b (.box r.e) = h1 at ex a1 b1
 have y := x.ext ex
 have ua : (h1 a).used = true := by rw [a1]; rfl
 have ub : (h1 b).used = true := by rw [b1]; rfl
 obtain ⟨w, g1, g2, -⟩ := CW hc hw hk hi
 obtain ⟨r', hr', ho⟩ := hc.at hk
 rw [hr] at hr'; cases hr'
 have hs := iG hr
 simp only [↓bf ua, ↓bf ub, Nat.zero_add, ↓eG b1 (j := 1) rfl, ↓aM, true_and]
 rcases ho.1 with h1' | h1' | h1'
 ·have e1 : br c k = 1 := by rw [hs, h1']; rfl
  rw [e1] at g1 g2 hK
  simp only [h1', decide_true, ↓af, ↓eG a1 (j := 7) rfl]
  exact F7 (y.mem 1 (by omega) (by omega)).r g1 g2 (hK h1 ex)
 ·have e1 : br c k = 2 := by rw [hs, h1']; rfl
  rw [e1] at g1 g2 hK
  simp only [h1', Int.reduceEq, decide_false, decide_true, ↓af, ↓ae, ↓eG a1 (j := 8) rfl]
  exact F7 (y.mem 2 (by omega) (by omega)).r g1 g2 (hK h1 ex)
 ·have e1 : br c k = 3 := by rw [hs, h1']; rfl
  rw [e1] at g1 g2 hK
  simp only [h1', Int.reduceEq, decide_false, ↓ae, ↓eG a1 (j := 5) rfl]
  exact F7 (y.mem 3 (by omega) (by omega)).r g1 g2 (hK h1 ex)
theorem PK (x : jR h ro dR dE dL dm st) {c : Code} {it : It} {e : Int} (hc : bq c) (hw : qf c st) {k i : Nat} {r : bM} (hk : k < c.arrays.length) (hr : c.arrays[k]? = some r) (hi : (i : Int) < gZ c k) {v : Int} {KH : HK}
  (hK : ∀ h', Fr ro h ro h' -> jR h' ro dR dE dL dm (st.put (br c k) k i v) -> KH (.tup []) h') : ag PP lR [.agg (dT it dR dL dE dm e), r.e, .int .i64 (k : Int), .int .i64 (i : Int), .int .i32 v] h KH := by
 refine aW EL (aA _ _ _) rfl (Et _ _ _ _ _ _) ?_
 (unfold AZ; try dsimp only [xL, yL, xF, yF, xI, yI, xS, zI, zJ])
 rw [cC]
 refine ⟨x.dp it e, fun a ta => ?_⟩
 rw [cC]
 refine ⟨(bM.bZ r).one, fun b tb => ?_⟩
 have hab : a ≠ b := tb.ne (by rw [ad]; simp)
 have ex : Ext h (ah (ah h a (.box (.agg (dT it dR dL dE dm e)))) b (.box r.e)) := (Ext.new ta _).trans (Ext.new tb _)
 have a1 : ah (ah h a (.box (.agg (dT it dR dL dE dm e)))) b (.box r.e) a = .box (.agg (dT it dR dL dE dm e)) := by rw [aa _ _ hab, ad]
 have b1 : ah (ah h a (.box (.agg (dT it dR dL dE dm e)))) b (.box r.e) b = .box (.agg [.str r.name, .int .i64 r.space, .int .i64 r.type, .int .i64 r.len]) := ad _ _ _
 generalize ah (ah h a (.box (.agg (dT it dR dL dE dm e)))) b (.box r.e) = h1 at ex a1 b1
 have y := x.ext ex
 have ua : (h1 a).used = true := by rw [a1]; rfl
 have ub : (h1 b).used = true := by rw [b1]; rfl
 obtain ⟨w, g1, g2, g3⟩ := CW hc hw hk hi
 obtain ⟨r', hr', ho⟩ := hc.at hk
 rw [hr] at hr'; cases hr'
 have hs := iG hr
 simp only [↓bf ua, ↓bf ub, Nat.zero_add, ↓eG b1 (j := 1) rfl, ↓aM, true_and]
 rcases ho.1 with h1' | h1' | h1'
 ·have e1 : br c k = 1 := by rw [hs, h1']; rfl
  rw [e1] at g1 g2 hK
  simp only [h1', decide_true, ↓af, ↓eG a1 (j := 7) rfl]
  exact y.store (by omega) g1 g3 fun h' f z => hK h' ((Fr.ext ex).trans f) z
 ·have e1 : br c k = 2 := by rw [hs, h1']; rfl
  rw [e1] at g1 g2 hK
  simp only [h1', Int.reduceEq, decide_false, decide_true, ↓af, ↓ae, ↓eG a1 (j := 8) rfl]
  exact y.store (by omega) g1 g3 fun h' f z => hK h' ((Fr.ext ex).trans f) z
 ·have e1 : br c k = 3 := by rw [hs, h1']; rfl
  rw [e1] at g1 g2 hK
  simp only [h1', Int.reduceEq, decide_false, ↓ae, ↓eG a1 (j := 5) rfl]
  exact y.store (by omega) g1 g3 fun h' f z => hK h' ((Fr.ext ex).trans f) z
theorem zk (x : jR h ro dR dE dL dm st) {it : It} {o : dQ} (ho : vT st.regs.length o) {KH : HK} (hK : ∀ h', Ext h h' -> jR h' ro dR dE dL dm st -> KH (.int .i32 (aY st.regs o)) h') :
  ag PP ca [sH it dR (dm 3) dL, o.e] h KH := Ow (by simp [(x.mem 3 (by omega) (by omega)).one, x.sl.one]) x.regs.row ho fun h' e => hK h' e (x.ext e)
theorem LW (x : jR h ro dR dE dL dm st) {c : Code} {l : dt} {it : It} (hc : bq c) (hl : lF c l) (hid : 0 <= it.id /\ it.id < l.groups * c.group) (hw : qf c st) {xi : aR} (hx : oN c xi) (hop : xi.op <= 6) {KH : HK}
  (hK : ∀ h', Ext h h' -> KH (.int .i32 (gd c l it.id xi st.regs)) h') : ag PP kS [c.e, l.e, sH it dR (dm 3) dL, xi.e] h KH := by
 refine aW yr (aA _ _ _) rfl (xo _ _ _ _ _) ?_
 (unfold rA; try dsimp only [xL, yL, xF, yF, xI, yI, xS, zI, zJ])
 have oI : ∀ d, d ∈ (sH it dR (dm 3) dL).cells -> d.one = true := fun d hd => by
  simp [sH] at hd
  have o3 := (x.mem 3 (by omega) (by omega)).one
  have oR := x.regs.one
  have oL := x.sl.one
  rcases hd with rfl | rfl | rfl | rfl | rfl | rfl | rfl <;> first | rfl | assumption
 rw [cC]
 refine ⟨(ju c).2, fun n1 t1 => ?_⟩
 rw [cC]
 refine ⟨List.all_eq_true.1 (dt.on l), fun n2 t2 => ?_⟩
 rw [cC]
 refine ⟨oI, fun n3 t3 => ?_⟩
 rw [cC]
 refine ⟨xi.bZ.one, fun n4 t4 => ?_⟩
 have ne12 : n1 ≠ n2 := t2.ne (by rw [ad]; simp)
 have ne13 : n1 ≠ n3 := t3.ne (by rw [aa _ _ ne12, ad]; simp)
 have ne23 : n2 ≠ n3 := t3.ne (by rw [ad]; simp)
 have ne14 : n1 ≠ n4 := t4.ne (by rw [aa _ _ ne13, aa _ _ ne12, ad]; simp)
 have ne24 : n2 ≠ n4 := t4.ne (by rw [aa _ _ ne23, ad]; simp)
 have ne34 : n3 ≠ n4 := t4.ne (by rw [ad]; simp)
 obtain ⟨h1, hh1⟩ : ∃ h1, h1 = ah (ah (ah (ah h n1 (.box c.e)) n2 (.box l.e)) n3 (.box (sH it dR (dm 3) dL))) n4 (.box xi.e) := ⟨_, rfl⟩
 rw [<- hh1]
 have ex : Ext h h1 := by rw [hh1]; exact ((Ext.new t1 _).trans (Ext.new t2 _)).trans ((Ext.new t3 _).trans (Ext.new t4 _))
 have b1 : h1 n1 = .box c.e := by rw [hh1, aa _ _ ne14, aa _ _ ne13, aa _ _ ne12, ad]
 have b2 : h1 n2 = .box (.agg [.int .i64 l.groups, words l.args]) := by rw [hh1, aa _ _ ne24, aa _ _ ne23, ad]; rfl
 have b3 : h1 n3 = .box (.agg [.int .i64 it.id, .int .i64 it.at_, .int .i64 it.block, .int .i64 it.epoch, dR, dm 3, dL]) := by rw [hh1, aa _ _ ne34, ad]; rfl
 have b4 : h1 n4 = .box (.agg xi.cs) := by rw [hh1, ad]; rfl
 have y := x.ext ex
 clear hh1 t1 t2 t3 t4
 obtain ⟨oa, ob, oc⟩ := hx.ops
 have va := fun {o : dQ} (ho : iH c.regs o) => jl hw.regs ho
 have i7 : ∀ {g : Heap} {K : D -> Prop}, g n3 = .box (.agg [.int .i64 it.id, .int .i64 it.at_, .int .i64 it.block, .int .i64 it.epoch, dR, dm 3, dL]) -> au PP (.ld (.c (.ptr n3 0 0)) 7 true) g K = K (sH it dR (dm 3) dL) := fun {g K} hg => by rw [bO]; exact dh hg
 have i7' : ∀ {g : Heap} {K : HK}, g n3 = .box (.agg [.int .i64 it.id, .int .i64 it.at_, .int .i64 it.block, .int .i64 it.epoch, dR, dm 3, dL]) -> ab PP (.ld (.c (.ptr n3 0 0)) 7 true) g K = K (sH it dR (dm 3) dL) g := fun {g K} hg => dh hg
 have i3 : ∀ {g : Heap} {K : D -> Prop} {j : Nat}, g n4 = .box (.agg xi.cs) -> j + 3 <= 15 -> au PP (.ld (.c (.ptr n4 0 j)) 3 true) g K = K (.agg ((xi.cs.drop j).take 3)) := fun {g K j} hm hj => by rw [bO, qP hm (by simp [aR.cs]; omega)]
 have i3' : ∀ {g : Heap} {K : HK} {j : Nat}, g n4 = .box (.agg xi.cs) -> j + 3 <= 15 -> ab PP (.ld (.c (.ptr n4 0 j)) 3 true) g K = K (.agg ((xi.cs.drop j).take 3)) g := fun {g K j} hm hj => by rw [qP hm (by simp [aR.cs]; omega)]
 have u4 : (h1 n4).used = true := by rw [b4]; rfl
 simp only [↓aH, u4, Nat.zero_add, i7 b3, ↓i3 b4 (j := 6) (by omega), ↓i3 b4 (j := 9) (by omega), true_and]
 refine zk y (o := xi.a) (by rw [hw.len]; exact oa) fun h2 e2 y2 => ?_
 have c3 : h2 n3 = .box (.agg [.int .i64 it.id, .int .i64 it.at_, .int .i64 it.block, .int .i64 it.epoch, dR, dm 3, dL]) := by rw [e2 n3 (by rw [b3]; simp)]; exact b3
 have c4 : h2 n4 = .box (.agg xi.cs) := by rw [e2 n4 (by rw [b4]; simp)]; exact b4
 have u42 : (h2 n4).used = true := by rw [c4]; rfl
 simp only [↓aH, u42, Nat.zero_add, i7 c3, ↓i3 c4 (j := 9) (by omega), ai, true_and, and_true]
 refine zk y2 (o := xi.b) (by rw [hw.len]; exact ob) fun h3 e3 y3 => ?_
 have ex3 := (ex.trans e2).trans e3
 have d1 : h3 n1 = .box c.e := by rw [e3 n1 (by rw [e2 n1 (by rw [b1]; simp), b1]; simp), e2 n1 (by rw [b1]; simp)]; exact b1
 have d2 : h3 n2 = .box (.agg [.int .i64 l.groups, words l.args]) := by rw [e3 n2 (by rw [e2 n2 (by rw [b2]; simp), b2]; simp), e2 n2 (by rw [b2]; simp)]; exact b2
 have d3 : h3 n3 = .box (.agg [.int .i64 it.id, .int .i64 it.at_, .int .i64 it.block, .int .i64 it.epoch, dR, dm 3, dL]) := by rw [e3 n3 (by rw [c3]; simp)]; exact c3
 have d4 : h3 n4 = .box (.agg xi.cs) := by rw [e3 n4 (by rw [c4]; simp)]; exact c4
 have v4 : (h3 n4).used = true := by rw [d4]; rfl
 have v3 : (h3 n3).used = true := by rw [d3]; rfl
 have v2 : (h3 n2).used = true := by rw [d2]; rfl
 clear b1 b2 b3 b4 c3 c4 u4 u42 y y2 e2 e3 ex
 have fl : ∀ {v e : Int} {g : Heap} {K : HK}, ab PP (.fld (.c (m9 v e)) 0 1 false) g K = K (.int .i32 v) g := fun {v e g K} => rfl
 simp only [↓bf v4, Nat.zero_add, ↓eG d4 (j := 0) rfl, ↓eG d4 (j := 1) rfl, ↓aM, true_and]
 obtain ⟨hx, -, hxp⟩ := hx
 cases hx with
 | mov d a h1' h2 =>
  simp only [Int.reduceEq, decide_false, ↓ae]
  have := hK h3 ex3
  simpa [gd] using this
 | un s d a h0 h1' h2 =>
  simp only [decide_true, ↓af]
  refine bE (QB h0 (va h2)) (dp rfl) ?_
  rintro _ rfl
  rw [fl]
  have := hK h3 ex3
  simpa [gd] using this
 | bin s d a b h0 h1' h2 h3' =>
  simp only [Int.reduceEq, decide_false, ↓ae, decide_true, ↓af]
  refine bE (Jv h0 (va h2) (va h3')) (dp rfl) ?_
  rintro _ rfl
  rw [fl]
  have := hK h3 ex3
  simpa [gd] using this
 | sel d a b cc h1' h2 h3' h4 =>
  simp only [Int.reduceEq, decide_false, ↓ae, decide_true, ↓af, ↓cH]
  by_cases hz : aY st.regs a = 0
  ·simp only [hz, decide_true, Bool.not_true, ↓ae, i7' d3, ↓bf v4, Nat.zero_add, ↓i3' d4 (j := 12) (by omega), true_and]
   refine zk y3 (o := cc) (by rw [hw.len]; exact h4.r) fun h' e _ => ?_
   have := hK h' (ex3.trans e)
   simpa [gd, hz] using this
  ·simp only [hz, decide_false, Bool.not_false, ↓af]
   have := hK h3 ex3
   simpa [gd, hz] using this
 | id s d h0 h1' =>
  simp only [Int.reduceEq, decide_false, ↓ae, decide_true, ↓af]
  have e8 : ∀ {K : HK}, ab PP (.ld (.c (.ptr n1 0 0)) 8 true) h3 K = K c.e h3 := fun {K} => dh d1
  have e2 : ∀ {K : HK}, ab PP (.ld (.c (.ptr n2 0 0)) 2 true) h3 K = K l.e h3 := fun {K} => dh d2
  simp only [e8, e2, ↓bf v3, ↓bf v4, Nat.zero_add, ↓eG d3 (j := 0) rfl, ↓eG d4 (j := 1) rfl, true_and]
  refine bE (QC (hc.l1 hl hid) h0) ?_ ?_
  ·intro z hz
   simp at hz
   rcases hz with rfl | rfl | rfl | rfl
   ·exact ju c
   ·exact ⟨rfl, List.all_eq_true.1 (dt.on l)⟩
   ·exact jM
   ·exact jM
  ·rintro _ rfl
   rw [fl]
   have := hK h3 ex3
   simpa [gd] using this
 | param k d h0 h1' =>
  simp only [Int.reduceEq, decide_false, ↓ae, decide_true, ↓af]
  simp only [↓bf v2, ↓bf v4, Nat.zero_add, ↓eG d2 (j := 1) rfl, ↓eG d4 (j := 2) rfl, true_and]
  have hla := hl.a
  have hxp := hxp rfl
  simp only at hxp
  obtain ⟨i, rfl⟩ : ∃ i : Nat, k = (i : Int) := ⟨k.toNat, by omega⟩
  have hi : l.args[i]? = some (l.args.getD i 0) := by rw [List.getD_eq_getElem?_getD, List.getElem?_eq_getElem (by omega)]; rfl
  have := Ih (P := PP) (h := h3) (Or.inl rfl) hi (KH := fun a86 h87 => KH a86 h87) (by have := hK h3 ex3; simpa [gd] using this)
  exact this
 | load _ _ _ _ _ _ => simp at hop
 | store _ _ _ _ _ _ => simp at hop
 | atom _ _ _ _ _ _ _ _ => simp at hop
 | fence _ _ => simp at hop
end
end Go.Am
namespace Go.Am
open Go
structure bJ (h0 : Heap) (ro0 : Ro) (h : Heap) (ro : Ro) (L : List (Nat × D)) : Prop where
 nd : (L.map Prod.fst).Nodup
 at_ : ∀ p ∈ L, h p.1 = .box p.2 /\ ro p.1 = .no /\ h0 p.1 = .free
 fr : Fr ro0 h0 ro h
theorem bJ.nil {h : Heap} {ro : Ro} : bJ h ro h ro [] := ⟨.nil, fun _ h => (by cases h), Fr.refl⟩
section
variable {h0 h : Heap} {ro0 ro : Ro} {L : List (Nat × D)}
theorem bJ.push (B : bJ h0 ro0 h ro L) {n : Nat} (hn : h n = .free) (d : D) : bJ h0 ro0 (ah h n (.box d)) (ah ro n .no) ((n, d) :: L) := by
 have ne : ∀ p ∈ L, p.1 ≠ n := fun p hp e => by have := (B.at_ p hp).1; rw [e, hn] at this; cases this
 have f0 : h0 n = .free := by
  cases e : h0 n <;> first | rfl | (exfalso; have := (B.fr n (by rw [e]; simp)).2.1; exact this hn)
 refine ⟨?_, fun p hp => ?_, B.fr.trans (Fr.new hn _)⟩
 ·simp only [List.map_cons, List.nodup_cons]
  refine ⟨fun hm => ?_, B.nd⟩
  obtain ⟨p, hp, e⟩ := List.mem_map.1 hm
  exact ne p hp e
 ·rcases List.mem_cons.1 hp with rfl | hp
  ·exact ⟨ad _ _ _, ad _ _ _, f0⟩
  ·obtain ⟨a, b, c⟩ := B.at_ p hp
   exact ⟨by rw [aa _ _ (ne p hp)]; exact a, by rw [aa _ _ (ne p hp)]; exact b, c⟩
theorem bJ.step (B : bJ h0 ro0 h ro L) {h' : Heap} {ro' : Ro} (F : Fr ro h ro' h') : bJ h0 ro0 h' ro' L :=
 ⟨B.nd, fun p hp => by
  obtain ⟨a, b, c⟩ := B.at_ p hp
  obtain ⟨f1, -, f3⟩ := F p.1 (by rw [a]; simp)
  exact ⟨by rw [f3 b]; exact a, by rw [f1]; exact b, c⟩, B.fr.trans F⟩
theorem bJ.get (B : bJ h0 ro0 h ro L) (i : Nat) {n : Nat} {d : D} (hi : L[i]? = some (n, d)) : h n = .box d := (B.at_ _ (List.mem_of_getElem? hi)).1
theorem bJ.rn (B : bJ h0 ro0 h ro L) (i : Nat) {n : Nat} {d : D} (hi : L[i]? = some (n, d)) : ro n = .no := (B.at_ _ (List.mem_of_getElem? hi)).2.1
theorem bJ.used (B : bJ h0 ro0 h ro L) (i : Nat) {n : Nat} {d : D} (hi : L[i]? = some (n, d)) : (h n).used = true := by rw [B.get i hi]; rfl
theorem bJ.av (B : bJ h0 ro0 h ro L) (i : Nat) {n : Nat} {d : D} (hi : L[i]? = some (n, d)) (d' : D) : bJ h0 ro0 (ah h n (.box d')) ro (L.set i (n, d')) := by
 have hlt := (List.getElem?_eq_some_iff.1 hi).1
 have hm : (L.set i (n, d')).map Prod.fst = L.map Prod.fst := by
  rw [List.map_set]
  refine List.ext_getElem? fun j => ?_
  rw [List.getElem?_set]
  split
  ·rename_i e
   subst e
   rw [List.getElem?_map, hi, if_pos (by simpa using hlt)]; rfl
  ·rfl
 refine ⟨by rw [hm]; exact B.nd, fun p hp => ?_, B.fr.H6 (B.at_ _ (List.mem_of_getElem? hi)).2.2⟩
 obtain ⟨j, hj⟩ := List.getElem?_of_mem hp
 by_cases e : j = i
 ·subst e
  rw [List.getElem?_set_self hlt] at hj
  cases hj
  exact ⟨ad _ _ _, B.rn _ hi, (B.at_ _ (List.mem_of_getElem? hi)).2.2⟩
 ·rw [List.getElem?_set_ne (Ne.symm e)] at hj
  have hpl := List.mem_of_getElem? hj
  obtain ⟨a, b, c⟩ := B.at_ p hpl
  have : p.1 ≠ n := by
   intro hpn
   have g1 : (L.map Prod.fst)[j]? = some n := by rw [List.getElem?_map, hj]; simp [hpn]
   have g2 : (L.map Prod.fst)[i]? = some n := by rw [List.getElem?_map, hi]; rfl
   have hjl : j < (L.map Prod.fst).length := (List.getElem?_eq_some_iff.1 g1).1
   exact e ((List.getElem?_inj hjl B.nd).1 (g1.trans g2.symm))
  exact ⟨by rw [aa _ _ this]; exact a, b, c⟩
end
theorem jR.new {h : Heap} {ro : Ro} {dR dE dL : D} {dm : Nat -> D} {st : St} (x : jR h ro dR dE dL dm st) {n : Nat} (hn : h n = .free) (s : Slot) : jR (ah h n s) (ah ro n .no) dR dE dL dm st := x.aB (cE.new hn _)
theorem jR.av {h : Heap} {ro : Ro} {dR dE dL : D} {dm : Nat -> D} {st : St} (x : jR h ro dR dE dL dm st) {n : Nat} (hn : ro n = .no) (s : Slot) : jR (ah h n s) ro dR dE dL dm st := x.aB (cE.av (by rw [hn]; rfl))
abbrev sX : List D := [.int .i64 0, .int .i64 0, .int .i64 0, .int .i64 0, .nil, .nil, .nil, .nil, .nil, .nil, .int .i64 0]
abbrev S9 : List D := [.str ⟨#[]⟩, .int .i64 0, .int .i64 0, .int .i64 0]
theorem Ok {it : It} {dR dL dE : D} {dm : Nat -> D} {e e' : Int} : (dT it dR dL dE dm e).set 10 (.int .i64 e') = dT it dR dL dE dm e' := rfl
theorem bJ.ev {h0 h : Heap} {ro0 ro : Ro} {L : List (Nat × D)} (B : bJ h0 ro0 h ro L) (i : Nat) {n : Nat} {e e' : Ev} (hi : L[i]? = some (n, e.e)) {j : Nat} {d : D} (hd : d.one = true) (hs : setCells e.e j d.cells = e'.e) (hj : j + 1 <= 9) {KH : HK}
  (hK : bJ h0 ro0 (ah h n (.box e'.e)) ro (L.set i (n, e'.e)) -> KH .undef (ah h n (.box e'.e))) : ab PP (.st (.c (.ptr n 0 j)) (.c d) 1) h KH :=
 TV (B.get i hi) hd hs hj (gx hd) (hK (B.av i hi e'.e))
section
variable {h : Heap} {ro : Ro} {dR dE dL : D} {dm : Nat -> D} {st : St}
theorem LY (x : jR h ro dR dE dL dm st) {c : Code} {l : dt} {it : It} (hc : bq c) (hw : qf c st) (hev : st.ev.length <= 900000) {xi : aR} (hx : oN c xi) (hop : xi.op = 7 \/ xi.op = 8 \/ xi.op = 9) {e : Ev} {KH : HK}
  (hK : ∀ st' h' ro' dE', dC c l it.id xi e st = some st' -> Fr ro h ro' h' -> jR h' ro' dR dE' dL dm st' -> KH (.agg (dT it dR dL dE' dm 0)) h')
  (hN : ∀ h' ro', dC c l it.id xi e st = none -> Fr ro h ro' h' -> jR h' ro' dR dE dL dm st -> KH (.agg (dT it dR dL dE dm 70)) h') :
  ag PP kT [c.e, .agg (dT it dR dL dE dm 0), xi.e, e.e] h KH := by
 refine aW yt (aA _ _ _) rfl (xp _ _ _ _ _) ?_
 (unfold rB; try dsimp only [xL, yL, xF, yF, xI, yI, xS, zI, zJ])
 have B0 : bJ h ro h ro [] := bJ.nil
 obtain ⟨k, k1, k2, k3, k4⟩ := hx.acc hop
 obtain ⟨r, hr, hro⟩ := hc.at k2
 have ha := jl hw.regs k3
 have wa : IntKind.i64.wrap (aY st.regs xi.a) = aY st.regs xi.a := uQ ha
 have hlen := zX hr
 rw [cC]
 refine ⟨(ju c).2, fun n5 t => ?_⟩
 have x1 := x.new t.free (.box c.e)
 have B1 := B0.push t.free c.e
 generalize ah h n5 (.box c.e) = h1 at x1 B1
 generalize ah ro n5 .no = ro1 at x1 B1
 rw [cC]
 refine ⟨x1.dp it 0, fun n7 t => ?_⟩
 have x2 := x1.new t.free (.box (.agg (dT it dR dL dE dm 0)))
 have B2 := B1.push t.free (.agg (dT it dR dL dE dm 0))
 generalize ah h1 n7 (.box (.agg (dT it dR dL dE dm 0))) = h2 at x2 B2
 generalize ah ro1 n7 .no = ro2 at x2 B2
 rw [cC]
 refine ⟨xi.bZ.one, fun n9 t => ?_⟩
 have x3 := x2.new t.free (.box xi.e)
 have B3 := B2.push t.free xi.e
 generalize ah h2 n9 (.box xi.e) = h3 at x3 B3
 generalize ah ro2 n9 .no = ro3 at x3 B3
 rw [cC]
 refine ⟨e.bZ.one, fun n11 t => ?_⟩
 have x4 := x3.new t.free (.box e.e)
 have B4 := B3.push t.free e.e
 generalize ah h3 n11 (.box e.e) = h4 at x4 B4
 generalize ah ro3 n11 .no = ro4 at x4 B4
 rw [bQ]
 intro n13 t
 have x5 := x4.new t.free (.box (.agg sX))
 have B5 := B4.push t.free (.agg sX)
 generalize ah h4 n13 (.box (.agg sX)) = h5 at x5 B5
 generalize ah ro4 n13 .no = ro5 at x5 B5
 have arrs : ∀ {g : Heap} {K : HK}, g n5 = .box c.e -> ab PP (.ld (.c (.ptr n5 0 5)) 1 false) g K = K (.sl (c.arrays.map bM.e)) g := fun {g K} hg => eG (cs := [.int .i64 c.group, .int .i64 c.sub, .int .i64 c.regs, .int .i64 c.slots, .int .i64 c.params, .sl (c.arrays.map bM.e), .sl (c.loops.map Loop.e), .sl (c.b.map Block.e)]) hg rfl
 have ld4 : ∀ {g : Heap} {K : HK}, ab PP (.ld (.c (.vp r.e 0)) 4 true) g K = K r.e g := fun {g K} => by
  rw [iD, cw]
  have e1 : (r.e.cells.drop 0).take 4 = [.str r.name, .int .i64 r.space, .int .i64 r.type, .int .i64 r.len] := rfl
  have e2 : r.e.cells.length = 4 := rfl
  rw [e1, e2]; simp [bM.e]
 simp only [↓bf (B5.used 4 rfl), Nat.zero_add, arrs (B5.get 4 rfl), ↓bf (B5.used 2 rfl), ↓eG (cs := xi.cs) (B5.get 2 rfl) (j := 2) rfl, true_and]
 rw [k1]
 simp only [↓zV hr, ld4]
 rw [bQ]
 intro n27 t
 have x6 := x5.new t.free (.box (.agg S9))
 have B6 := B5.push t.free (.agg S9)
 generalize ah h5 n27 (.box (.agg S9)) = h6 at x6 B6
 generalize ah ro5 n27 .no = ro6 at x6 B6
 clear x1 x2 x3 x4 x5 B0 B1 B2 B3 B4 B5
 have re : r.e = .agg [.str r.name, .int .i64 r.space, .int .i64 r.type, .int .i64 r.len] := rfl
 rw [re, mD (s := 4) (cs' := [.str r.name, .int .i64 r.space, .int .i64 r.type, .int .i64 r.len]) (B6.get 0 rfl) rfl rfl (by simp), <- re]
 have x7 := x6.av (B6.rn 0 rfl) (.box r.e)
 have B7 := B6.av 0 rfl r.e
 generalize ah h6 n27 (.box r.e) = h7 at x7 B7
 clear x6 B6
 simp only [List.set_cons_zero] at B7
 have s7 : ∀ {g : Heap} {dE' : D} {K : HK}, g n7 = .box (.agg (dT it dR dL dE' dm 0)) -> ab PP (.ld (.c (.ptr n7 0 0)) 7 true) g K = K (sH it dR (dm 3) dL) g := fun {g dE' K} hg => by rw [qP hg (by simp)]; rfl
 have s7d : ∀ {g : Heap} {K : D -> Prop}, g n7 = .box (.agg (dT it dR dL dE dm 0)) -> au PP (.ld (.c (.ptr n7 0 0)) 7 true) g K = K (sH it dR (dm 3) dL) := fun {g K} hg => by rw [bO, s7 hg]
 have i3 : ∀ {g : Heap} {K : HK} {j : Nat}, g n9 = .box xi.e -> j + 3 <= 15 -> ab PP (.ld (.c (.ptr n9 0 j)) 3 true) g K = K (.agg ((xi.cs.drop j).take 3)) g := fun {g K j} hm hj => by rw [qP (cs := xi.cs) hm (by simp [aR.cs]; omega)]
 have i3d : ∀ {g : Heap} {K : D -> Prop} {j : Nat}, g n9 = .box xi.e -> j + 3 <= 15 -> au PP (.ld (.c (.ptr n9 0 j)) 3 true) g K = K (.agg ((xi.cs.drop j).take 3)) := fun {g K j} hm hj => by rw [bO, i3 hm hj]
 simp only [↓bf (B7.used 4 rfl), ↓bf (B7.used 3 rfl), Nat.zero_add, s7 (B7.get 4 rfl), ↓i3 (B7.get 3 rfl) (j := 6) (by omega), true_and]
 obtain ⟨oa, ob, oc⟩ := hx.ops
 refine zk x7 (o := xi.a) (by rw [hw.len]; exact oa) fun h8 e8 x8 => ?_
 have B8 := B7.step (Fr.ext (ro := ro6) e8)
 clear x7 B7 e8
 simp only [↓cq, wa, ↓bK]
 have l3 : ∀ {g : Heap} {K : HK}, g n27 = .box r.e -> ab PP (.ld (.c (.ptr n27 0 3)) 1 false) g K = K (.int .i64 r.len) g := fun {g K} hg => eG (cs := [.str r.name, .int .i64 r.space, .int .i64 r.type, .int .i64 r.len]) hg rfl
 have out : dC c l it.id xi e st = none -> ab PP (.fadd (.c (.ptr n7 0 0)) 10) h8 fun a63 h64 => ab PP (.st (.c a63) (.c (.int .i64 70)) 1) h64 fun a65 h66 => ab PP (.ld (.c (.ptr n7 0 0)) 11 true) h66 fun a67 h68 =>
   ab PP (.st (.c (.ptr n13 0 0)) (.c a67) 11) h68 fun a69 h70 => ab PP (.ld (.c (.ptr n13 0 0)) 11 true) h70 fun a71 _ => KH a71 h70 := by
  intro hnone
  simp only [↓bf (B8.used 4 rfl), Nat.zero_add, true_and]
  rw [HX (cs := dT it dR dL dE dm 0) (B8.get 4 rfl) (by simp) rfl, Ok]
  have x9 := x8.av (B8.rn 4 rfl) (.box (.agg (dT it dR dL dE dm 70)))
  have B9 := B8.av 4 rfl (.agg (dT it dR dL dE dm 70))
  generalize ah h8 n7 (.box (.agg (dT it dR dL dE dm 70))) = h9 at x9 B9
  rw [zN (cs := dT it dR dL dE dm 70) (B9.get 4 rfl) rfl, mD (s := 11) (cs := sX) (cs' := dT it dR dL dE dm 70) (B9.get 1 rfl) rfl rfl (x8.dp it 70), zN (cs := dT it dR dL dE dm 70) (ad _ _ _) rfl]
  have B10 := B9.av 1 rfl (.agg (dT it dR dL dE dm 70))
  exact hN _ ro6 hnone B10.fr (x9.av (B9.rn 1 rfl) _)
 have iN : ¬ (0 <= aY st.regs xi.a /\ aY st.regs xi.a < gZ c k) -> dC c l it.id xi e st = none := by
  intro hout
  unfold dC
  rcases hop with h7 | h8 | h9
  ·rw [if_pos h7, k1]; exact if_neg hout
  ·rw [if_neg (by omega), if_pos h8, k1]; exact if_neg hout
  ·rw [if_neg (by omega), if_neg (by omega), if_pos h9, k1]; exact if_neg hout
 by_cases h0 : aY st.regs xi.a < 0
 ·simp only [h0, decide_true, ↓gS, ↓dY]
  exact out (iN (by omega))
 simp only [h0, decide_false, ↓Fi, ↓bf (B8.used 0 rfl), Nat.zero_add, l3 (B8.get 0 rfl), ↓hY, true_and, ↓gf]
 by_cases h1' : r.len <= aY st.regs xi.a
 ·simp only [h1', decide_true, ↓af]
  exact out (iN (by omega))
 simp only [h1', decide_false, ↓ae]
 clear out iN
 have hin : 0 <= aY st.regs xi.a /\ aY st.regs xi.a < gZ c k := ⟨by omega, by omega⟩
 obtain ⟨i, hi⟩ : ∃ i : Nat, aY st.regs xi.a = (i : Int) := ⟨(aY st.regs xi.a).toNat, by omega⟩
 have iS : dC c l it.id xi e st = if xi.op = 7 then some ((st.tell c (Ni e xi (aY st.regs xi.a) (st.word (br c k) k i))).oZ xi.d.n.toNat (st.word (br c k) k i))
   else if xi.op = 8 then some ((st.put (br c k) k i (aY st.regs xi.b)).tell c (zS e xi (aY st.regs xi.a) (aY st.regs xi.b)))
   else some ((st.put (br c k) k i (lq xi.sub (st.word (br c k) k i) (aY st.regs xi.b))).tell c (KG e xi (aY st.regs xi.a) (aY st.regs xi.b))) := by
  unfold dC
  rcases hop with h7 | h8 | h9
  ·rw [if_pos h7, if_pos h7, k1, Int.toNat_natCast, if_pos hin, hi]; rfl
  ·rw [if_neg (by omega), if_pos h8, k1, Int.toNat_natCast, if_pos hin, if_neg (by omega), if_pos h8, hi]; rfl
  ·rw [if_neg (by omega), if_neg (by omega), if_pos h9, k1, Int.toNat_natCast, if_pos hin, if_neg (by omega), if_neg (by omega), hi]; rfl
 have d11 : ∀ {g : Heap} {K : D -> Prop} {dE' : D}, g n7 = .box (.agg (dT it dR dL dE' dm 0)) -> au PP (.ld (.c (.ptr n7 0 0)) 11 true) g K = K (.agg (dT it dR dL dE' dm 0)) := fun {g K dE'} hg => by rw [bO, zN hg rfl]
 have h11 : ∀ {g : Heap} {K : HK} {dE' : D}, g n7 = .box (.agg (dT it dR dL dE' dm 0)) -> ab PP (.ld (.c (.ptr n7 0 0)) 11 true) g K = K (.agg (dT it dR dL dE' dm 0)) g := fun {g K dE'} hg => zN hg rfl
 have d4 : ∀ {g : Heap} {K : D -> Prop}, g n27 = .box r.e -> au PP (.ld (.c (.ptr n27 0 0)) 4 true) g K = K r.e := fun {g K} hg => by rw [bO]; exact dh (cs := [.str r.name, .int .i64 r.space, .int .i64 r.type, .int .i64 r.len]) hg
 have h4' : ∀ {g : Heap} {K : HK}, g n27 = .box r.e -> ab PP (.ld (.c (.ptr n27 0 0)) 4 true) g K = K r.e g := fun {g K} hg => dh (cs := [.str r.name, .int .i64 r.space, .int .i64 r.type, .int .i64 r.len]) hg
 have dx : ∀ {g : Heap} {K : D -> Prop} {j : Nat} {d : D}, g n9 = .box xi.e -> xi.cs[j]? = some d -> au PP (.ld (.c (.ptr n9 0 j)) 1 false) g K = K d := fun {g K j d} hg hj => NW (cs := xi.cs) hg hj
 have hx1 : ∀ {g : Heap} {K : HK} {j : Nat} {d : D}, g n9 = .box xi.e -> xi.cs[j]? = some d -> ab PP (.ld (.c (.ptr n9 0 j)) 1 false) g K = K d g := fun {g K j d} hg hj => eG (cs := xi.cs) hg hj
 simp only [↓aH, B8.used 4 rfl, B8.used 3 rfl, Nat.zero_add, s7d (B8.get 4 rfl), ↓i3d (B8.get 3 rfl) (j := 9) (by omega), d11 (B8.get 4 rfl), d4 (B8.get 0 rfl), dx (B8.get 3 rfl) (j := 2) rfl, true_and]
 refine zk x8 (o := xi.b) (by rw [hw.len]; exact ob) fun h9 e9 x9 => ?_
 have B9 := B8.step (Fr.ext (ro := ro6) e9)
 clear x8 B8 e9
 simp only [↓aH, B9.used 4 rfl, B9.used 3 rfl, Nat.zero_add, d11 (B9.get 4 rfl), d4 (B9.get 0 rfl), dx (B9.get 3 rfl) (j := 2) rfl, ai, true_and, and_true]
 rw [k1, hi]
 refine Sm x9 hc hw k2 hr (by rw [<- hi]; exact hin.2) fun h10 e10 => ?_
 have x10 := x9.ext e10
 have B10 := B9.step (Fr.ext (ro := ro6) e10)
 clear x9 B9 e10
 simp only [↓bf (B10.used 2 rfl), Nat.zero_add, true_and]
 refine B10.ev 2 (e := e) (e' := { e with kind := 2 }) rfl rfl rfl (by omega) fun B11 => ?_
 have x11 := x10.av (B10.rn 2 rfl) (.box ({ e with kind := 2 } : Ev).e)
 generalize ah h10 n11 (.box ({ e with kind := 2 } : Ev).e) = h11x at x11 B11
 simp only [List.set_cons_zero, List.set_cons_succ] at B11
 clear x10 B10
 simp only [↓bf (B11.used 2 rfl), ↓bf (B11.used 3 rfl), Nat.zero_add, hx1 (B11.get 3 rfl) (j := 2) rfl, true_and]
 refine B11.ev 2 (e := { e with kind := 2 }) (e' := { e with kind := 2, arr := xi.n }) rfl rfl rfl (by omega) fun B12 => ?_
 have x12 := x11.av (B11.rn 2 rfl) (.box ({ e with kind := 2, arr := xi.n } : Ev).e)
 generalize ah h11x n11 (.box ({ e with kind := 2, arr := xi.n } : Ev).e) = h12 at x12 B12
 simp only [List.set_cons_zero, List.set_cons_succ] at B12
 clear x11 B11
 simp only [↓bf (B12.used 2 rfl), Nat.zero_add, true_and]
 refine B12.ev 2 (e := { e with kind := 2, arr := xi.n }) (e' := { e with kind := 2, arr := xi.n, i := (i : Int) }) rfl rfl rfl (by omega) fun B13 => ?_
 have x13 := x12.av (B12.rn 2 rfl) (.box ({ e with kind := 2, arr := xi.n, i := (i : Int) } : Ev).e)
 generalize ah h12 n11 (.box ({ e with kind := 2, arr := xi.n, i := (i : Int) } : Ev).e) = h13 at x13 B13
 simp only [List.set_cons_zero, List.set_cons_succ] at B13
 clear x12 B12
 simp only [↓bf (B13.used 2 rfl), Nat.zero_add, true_and]
 refine B13.ev 2 (e := { e with kind := 2, arr := xi.n, i := (i : Int) }) (e' := zS e xi (i : Int) (aY st.regs xi.b)) rfl rfl rfl (by omega) fun B14 => ?_
 have x14 := x13.av (B13.rn 2 rfl) (.box (zS e xi (i : Int) (aY st.regs xi.b)).e)
 generalize ah h13 n11 (.box (zS e xi (i : Int) (aY st.regs xi.b)).e) = h14 at x14 B14
 simp only [List.set_cons_zero, List.set_cons_succ] at B14
 clear x13 B13
 rw [hi] at iS
 have wI : gE (st.word (br c k) k i) := St.qh hw (jw hc k2) hc _
 obtain ⟨Bx, hBx⟩ : ∃ Bx : Heap -> Ro -> Ev -> D -> Prop, Bx = fun g ro' e' dE' => bJ h ro g ro' [(n27, r.e), (n13, .agg sX), (n11, e'.e), (n9, xi.e), (n7, .agg (dT it dR dL dE' dm 0)), (n5, c.e)] := ⟨_, rfl⟩
 refine ⟨fun _ g => ∃ ro' s1 e1, Bx g ro' e1 dE /\ jR g ro' dR dE dL dm s1 /\ (xi.op = 7 -> s1 = st.oZ xi.d.n.toNat (st.word (br c k) k i) /\ e1 = Ni e xi i (st.word (br c k) k i)) /\ (xi.op ≠ 7 -> s1 = st /\ e1 = zS e xi i (aY st.regs xi.b)), ?_, ?_⟩
 ·rintro _ g1 ⟨ro1', s1, e1, Y1, y1, p7, pn7⟩
  refine ⟨fun _ g => ∃ ro' s1 e1, Bx g ro' e1 dE /\ jR g ro' dR dE dL dm s1 /\ (xi.op = 7 -> s1 = st.oZ xi.d.n.toNat (st.word (br c k) k i) /\ e1 = Ni e xi i (st.word (br c k) k i)) /\ (xi.op = 8 -> s1 = st.put (br c k) k i (aY st.regs xi.b) /\ e1 = zS e xi i (aY st.regs xi.b)) /\ (xi.op = 9 -> s1 = st /\ e1 = zS e xi i (aY st.regs xi.b)), ?_, ?_⟩
  ·rintro _ g2 ⟨ro2', s2, e2, Y2, y2, q7, q8, q9⟩
   refine ⟨fun _ g => ∃ ro' s1 e1, Bx g ro' e1 dE /\ jR g ro' dR dE dL dm s1 /\ dC c l it.id xi e st = some (s1.tell c e1) /\ e1.kind ≠ 4 /\ e1.arr = xi.n /\ s1.ev = st.ev, ?_, ?_⟩
   ·rintro _ g3 ⟨ro3', s3, e3, Y3, y3, i3', kd3, ar3, ev3⟩
    rw [hBx] at Y3
    refine ⟨fun _ g => ∃ ro' dE' st', Bx g ro' e3 dE' /\ jR g ro' dR dE' dL dm st' /\ dC c l it.id xi e st = some st', ?_, ?_⟩
    ·rintro _ g4 ⟨ro4', dE4, st4, Y4, y4, i4⟩
     rw [hBx] at Y4
     rw [h11 (Y4.get 4 rfl), mD (s := 11) (cs := sX) (cs' := dT it dR dL dE4 dm 0) (Y4.get 1 rfl) rfl rfl (y4.dp it 0), zN (cs := dT it dR dL dE4 dm 0) (ad _ _ _) rfl]
     exact hK st4 _ ro4' dE4 i4 (Y4.av 1 rfl (.agg (dT it dR dL dE4 dm 0))).fr (y4.av (Y4.rn 1 rfl) _)
    ·have l1 : ∀ {g : Heap} {K : HK}, g n27 = .box r.e -> ab PP (.ld (.c (.ptr n27 0 1)) 1 false) g K = K (.int .i64 r.space) g := fun {g K} hg => eG (cs := [.str r.name, .int .i64 r.space, .int .i64 r.type, .int .i64 r.len]) hg rfl
     simp only [↓bf (Y3.used 0 rfl), Nat.zero_add, l1 (Y3.get 0 rfl), ↓cH, true_and]
     have hsp : (br c e3.arr.toNat = 3) ↔ r.space = 3 := by
      rw [ar3, k1, Int.toNat_natCast, iG hr]
      rcases hro.1 with h | h | h <;> rw [h] <;> simp
     by_cases h3s : r.space = 3
     ·simp only [h3s, decide_true, Bool.not_true, ↓ae, ai, true_and]
      refine ⟨ro3', dE, s3, by rw [hBx]; exact Y3, y3, ?_⟩
      rw [i3']
      simp only [St.tell]
      rw [if_pos ⟨kd3, hsp.2 h3s⟩]
     ·have l9 : ∀ {g : Heap} {K : HK}, g n11 = .box e3.e -> ab PP (.ld (.c (.ptr n11 0 0)) 9 true) g K = K e3.e g := fun {g K} hg => dh (cs := e3.cs) hg
      simp only [h3s, decide_false, Bool.not_false, ↓af, ↓bf (Y3.used 4 rfl), Nat.zero_add, ↓eG (cs := dT it dR dL dE dm 0) (Y3.get 4 rfl) (j := 9) rfl, l9 (Y3.get 2 rfl), true_and]
      refine Nh y3.ev (by rw [ev3]; omega) fun dE' g4 ro4' F4 K4 E4 => ?_
      have Y4 := Y3.step F4
      have y4 : jR g4 ro4' dR dE' dL dm { s3 with ev := s3.ev ++ [e3] } := ⟨y3.regs.cV K4 (by simp), fun s a b => (y3.mem s a b).cV K4 (by simp) (by simp), E4, y3.sl.cV K4 (by simp)⟩
      simp only [↓bf (Y4.used 4 rfl), Nat.zero_add, true_and]
      have oE := E4.one
      rw [HX (cs := dT it dR dL dE dm 0) (Y4.get 4 rfl) (by simp) oE]
      have es : (dT it dR dL dE dm 0).set 9 dE' = dT it dR dL dE' dm 0 := rfl
      rw [es]
      refine ⟨ro4', dE', _, ?_, y4.av (Y4.rn 4 rfl) _, ?_⟩
      ·rw [hBx]; exact Y4.av 4 rfl (.agg (dT it dR dL dE' dm 0))
      ·rw [i3']
       simp only [St.tell]
       rw [if_neg (fun hh => h3s (hsp.1 hh.2))]
   ·rw [hBx] at Y2
    simp only [↓bf (Y2.used 3 rfl), Nat.zero_add, hx1 (Y2.get 3 rfl) (j := 0) rfl, ↓aM, true_and]
    by_cases h9 : xi.op = 9
    ·obtain ⟨rfl, rfl⟩ := q9 h9
     have hs9 := hx.HG h9
     simp only [h9, decide_true, ↓af, ↓bf (Y2.used 2 rfl), Nat.zero_add, true_and]
     refine Y2.ev 2 (e := zS e xi i (aY s2.regs xi.b)) (e' := { (zS e xi i (aY s2.regs xi.b)) with kind := 3 }) rfl rfl rfl (by omega) fun Y3 => ?_
     have y3 := y2.av (Y2.rn 2 rfl) (.box ({ (zS e xi i (aY s2.regs xi.b)) with kind := 3 } : Ev).e)
     generalize ah g2 n11 (.box ({ (zS e xi i (aY s2.regs xi.b)) with kind := 3 } : Ev).e) = g3 at y3 Y3
     simp only [List.set_cons_zero, List.set_cons_succ] at Y3
     simp only [↓bf (Y3.used 2 rfl), ↓bf (Y3.used 3 rfl), Nat.zero_add, hx1 (Y3.get 3 rfl) (j := 1) rfl, true_and]
     refine Y3.ev 2 (e := { (zS e xi i (aY s2.regs xi.b)) with kind := 3 }) (e' := KG e xi i (aY s2.regs xi.b)) rfl rfl rfl (by omega) fun Y4 => ?_
     have y4 := y3.av (Y3.rn 2 rfl) (.box (KG e xi i (aY s2.regs xi.b)).e)
     generalize ah g3 n11 (.box (KG e xi i (aY s2.regs xi.b)).e) = g4 at y4 Y4
     simp only [List.set_cons_zero, List.set_cons_succ] at Y4
     simp only [↓aH, Y4.used 3 rfl, Nat.zero_add, d11 (Y4.get 4 rfl), d4 (Y4.get 0 rfl), dx (Y4.get 3 rfl) (j := 2) rfl, dx (Y4.get 3 rfl) (j := 1) rfl, true_and]
     refine bE (Jv hs9 wI (jl hw.regs (k4 (by omega)))) (dp rfl) ?_
     rintro _ rfl
     have fl : ∀ {v e : Int} {g : Heap} {K : D -> Prop}, au PP (.fld (.c (m9 v e)) 0 1 false) g K = K (.int .i32 v) := fun {v e g K} => rfl
     simp only [↓aH, Y4.used 3 rfl, Nat.zero_add, d11 (Y4.get 4 rfl), d4 (Y4.get 0 rfl), dx (Y4.get 3 rfl) (j := 2) rfl, ai, true_and, and_true, fl]
     rw [k1]
     refine PK y4 hc hw k2 hr (by rw [<- hi]; exact hin.2) fun g5 F5 y5 => ?_
     refine ⟨ro2', _, _, by rw [hBx]; exact Y4.step F5, y5, ?_, by simp [KG], k1, rfl⟩
     rw [iS, if_neg (by omega), if_neg (by omega)]
    ·simp only [h9, decide_false, ↓ae, ai, true_and]
     refine ⟨ro2', s2, e2, by rw [hBx]; exact Y2, y2, ?_⟩
     rcases hop with h7 | h8 | h9'
     ·obtain ⟨rfl, rfl⟩ := q7 h7
      exact ⟨by rw [iS, if_pos h7]; rfl, by simp [Ni], rfl, rfl⟩
     ·obtain ⟨rfl, rfl⟩ := q8 h8
      exact ⟨by rw [iS, if_neg (by omega), if_pos h8], by simp [zS], rfl, rfl⟩
     ·exact absurd h9' h9
  ·rw [hBx] at Y1
   simp only [↓bf (Y1.used 3 rfl), Nat.zero_add, hx1 (Y1.get 3 rfl) (j := 0) rfl, ↓aM, true_and]
   by_cases h8 : xi.op = 8
   ·obtain ⟨rfl, rfl⟩ := pn7 (by omega)
    simp only [h8, decide_true, ↓af, h11 (Y1.get 4 rfl), h4' (Y1.get 0 rfl), ↓bf (Y1.used 3 rfl), Nat.zero_add, hx1 (Y1.get 3 rfl) (j := 2) rfl, true_and]
    rw [k1]
    refine PK y1 hc hw k2 hr (by rw [<- hi]; exact hin.2) fun g2 F2 y2 => ?_
    exact ⟨ro1', _, _, by rw [hBx]; exact Y1.step F2, y2, fun h => by omega, fun _ => ⟨rfl, rfl⟩, fun h => by omega⟩
   ·simp only [h8, decide_false, ↓ae, ai, true_and]
    exact ⟨ro1', s1, e1, by rw [hBx]; exact Y1, y1, p7, fun h => h.elim, fun h => pn7 (by omega)⟩
 ·simp only [↓bf (B14.used 3 rfl), Nat.zero_add, hx1 (B14.get 3 rfl) (j := 0) rfl, ↓aM, true_and]
  by_cases h7 : xi.op = 7
  ·simp only [h7, decide_true, ↓af, ↓bf (B14.used 2 rfl), Nat.zero_add, true_and]
   refine B14.ev 2 (e := zS e xi i (aY st.regs xi.b)) (e' := { (zS e xi i (aY st.regs xi.b)) with kind := 1 }) rfl rfl rfl (by omega) fun Y3 => ?_
   have y3 := x14.av (B14.rn 2 rfl) (.box ({ (zS e xi i (aY st.regs xi.b)) with kind := 1 } : Ev).e)
   generalize ah h14 n11 (.box ({ (zS e xi i (aY st.regs xi.b)) with kind := 1 } : Ev).e) = g3 at y3 Y3
   simp only [List.set_cons_zero, List.set_cons_succ] at Y3
   simp only [↓bf (Y3.used 2 rfl), Nat.zero_add, true_and]
   refine Y3.ev 2 (e := { (zS e xi i (aY st.regs xi.b)) with kind := 1 }) (e' := Ni e xi i (st.word (br c k) k i)) rfl rfl rfl (by omega) fun Y4 => ?_
   have y4 := y3.av (Y3.rn 2 rfl) (.box (Ni e xi i (st.word (br c k) k i)).e)
   generalize ah g3 n11 (.box (Ni e xi i (st.word (br c k) k i)).e) = g4 at y4 Y4
   simp only [List.set_cons_zero, List.set_cons_succ] at Y4
   obtain ⟨q, q0, q1, hd⟩ := hx.oZ (by omega)
   obtain ⟨j, rfl⟩ : ∃ j : Nat, q = (j : Int) := ⟨q.toNat, by omega⟩
   have hdn : xi.cs[4]? = some (.int .i64 (j : Int)) := by simp [aR.cs, hd, fQ]
   have e6 : xi.d.n.toNat = j := by rw [hd]; rfl
   simp only [↓bf (Y4.used 4 rfl), ↓bf (Y4.used 3 rfl), Nat.zero_add, Nat.reduceAdd, ↓eG (cs := dT it dR dL dE dm 0) (Y4.get 4 rfl) (j := 4) rfl, hx1 (Y4.get 3 rfl) hdn, true_and]
   refine y4.Jq (by have := hw.len; omega) fun g5 F5 y5 => ?_
   refine ⟨ro6, _, _, by rw [hBx]; exact Y4.step F5, y5, fun _ => ⟨by rw [e6], rfl⟩, fun h => absurd rfl h⟩
  ·simp only [h7, decide_false, ↓ae, ai, true_and]
   exact ⟨ro6, st, _, by rw [hBx]; exact B14, x14, fun h => h.elim, fun _ => ⟨rfl, rfl⟩⟩
end
end Go.Am
namespace Go.Am
open Go
section
variable {h : Heap} {ro : Ro} {dR dE dL : D} {dm : Nat -> D} {st : St}
theorem Fg (x : jR h ro dR dE dL dm st) {c : Code} {l : dt} {it : It} (hc : bq c) (hl : lF c l) (hid : 0 <= it.id /\ it.id < l.groups * c.group) (hw : qf c st) (hev : st.ev.length <= 900000) {xi : aR} (hx : oN c xi) {e : Ev} {KH : HK}
  (hK : ∀ st' h' ro' dE', dC c l it.id xi e st = some st' -> Fr ro h ro' h' -> jR h' ro' dR dE' dL dm st' -> KH (.agg (dT it dR dL dE' dm 0)) h')
  (hN : ∀ h' ro', dC c l it.id xi e st = none -> Fr ro h ro' h' -> jR h' ro' dR dE dL dm st -> KH (.agg (dT it dR dL dE dm 70)) h') :
  ag PP gJ [c.e, l.e, .agg (dT it dR dL dE dm 0), xi.e, e.e] h KH := by
 refine aW oO (aA _ _ _) rfl (oF _ _ _ _ _ _) ?_
 (unfold jZ; try dsimp only [xL, yL, xF, yF, xI, yI, xS, zI, zJ])
 have B0 : bJ h ro h ro [] := bJ.nil
 rw [cC]
 refine ⟨(ju c).2, fun n6 t => ?_⟩
 have x1 := x.new t.free (.box c.e)
 have B1 := B0.push t.free c.e
 generalize ah h n6 (.box c.e) = h1 at x1 B1
 generalize ah ro n6 .no = ro1 at x1 B1
 rw [cC]
 refine ⟨List.all_eq_true.1 (dt.on l), fun n8 t => ?_⟩
 have x2 := x1.new t.free (.box l.e)
 have B2 := B1.push t.free l.e
 generalize ah h1 n8 (.box l.e) = h2 at x2 B2
 generalize ah ro1 n8 .no = ro2 at x2 B2
 rw [cC]
 refine ⟨x2.dp it 0, fun n10 t => ?_⟩
 have x3 := x2.new t.free (.box (.agg (dT it dR dL dE dm 0)))
 have B3 := B2.push t.free (.agg (dT it dR dL dE dm 0))
 generalize ah h2 n10 (.box (.agg (dT it dR dL dE dm 0))) = h3 at x3 B3
 generalize ah ro2 n10 .no = ro3 at x3 B3
 rw [cC]
 refine ⟨xi.bZ.one, fun n12 t => ?_⟩
 have x4 := x3.new t.free (.box xi.e)
 have B4 := B3.push t.free xi.e
 generalize ah h3 n12 (.box xi.e) = h4 at x4 B4
 generalize ah ro3 n12 .no = ro4 at x4 B4
 rw [cC]
 refine ⟨e.bZ.one, fun n14 t => ?_⟩
 have x5 := x4.new t.free (.box e.e)
 have B5 := B4.push t.free e.e
 generalize ah h4 n14 (.box e.e) = h5 at x5 B5
 generalize ah ro4 n14 .no = ro5 at x5 B5
 rw [bQ]
 intro n16 t
 have x6 := x5.new t.free (.box (.agg sX))
 have B6 := B5.push t.free (.agg sX)
 generalize ah h5 n16 (.box (.agg sX)) = h6 at x6 B6
 generalize ah ro5 n16 .no = ro6 at x6 B6
 clear x1 x2 x3 x4 x5 B0 B1 B2 B3 B4 B5
 have h8 : ∀ {g : Heap} {K : HK}, g n6 = .box c.e -> ab PP (.ld (.c (.ptr n6 0 0)) 8 true) g K = K c.e g := fun {g K} hg => dh hg
 have d8 : ∀ {g : Heap} {K : D -> Prop}, g n6 = .box c.e -> au PP (.ld (.c (.ptr n6 0 0)) 8 true) g K = K c.e := fun {g K} hg => by rw [bO]; exact dh hg
 have d2 : ∀ {g : Heap} {K : D -> Prop}, g n8 = .box l.e -> au PP (.ld (.c (.ptr n8 0 0)) 2 true) g K = K l.e := fun {g K} hg => by rw [bO]; exact dh hg
 have h11 : ∀ {g : Heap} {K : HK} {dE' : D}, g n10 = .box (.agg (dT it dR dL dE' dm 0)) -> ab PP (.ld (.c (.ptr n10 0 0)) 11 true) g K = K (.agg (dT it dR dL dE' dm 0)) g := fun {g K dE'} hg => zN hg rfl
 have d7 : ∀ {g : Heap} {K : D -> Prop}, g n10 = .box (.agg (dT it dR dL dE dm 0)) -> au PP (.ld (.c (.ptr n10 0 0)) 7 true) g K = K (sH it dR (dm 3) dL) := fun {g K} hg => by rw [bO, qP hg (by simp)]; rfl
 have h15 : ∀ {g : Heap} {K : HK}, g n12 = .box xi.e -> ab PP (.ld (.c (.ptr n12 0 0)) 15 true) g K = K xi.e g := fun {g K} hg => dh hg
 have d15 : ∀ {g : Heap} {K : D -> Prop}, g n12 = .box xi.e -> au PP (.ld (.c (.ptr n12 0 0)) 15 true) g K = K xi.e := fun {g K} hg => by rw [bO]; exact dh hg
 have hx1 : ∀ {g : Heap} {K : HK} {j : Nat} {d : D}, g n12 = .box xi.e -> xi.cs[j]? = some d -> ab PP (.ld (.c (.ptr n12 0 j)) 1 false) g K = K d g := fun {g K j d} hg hj => eG (cs := xi.cs) hg hj
 have dx1 : ∀ {g : Heap} {K : D -> Prop} {j : Nat} {d : D}, g n12 = .box xi.e -> xi.cs[j]? = some d -> au PP (.ld (.c (.ptr n12 0 j)) 1 false) g K = K d := fun {g K j d} hg hj => bY (cs := xi.cs) hg hj
 have h9 : ∀ {g : Heap} {K : HK} {e' : Ev}, g n14 = .box e'.e -> ab PP (.ld (.c (.ptr n14 0 0)) 9 true) g K = K e'.e g := fun {g K e'} hg => dh (cs := e'.cs) hg
 have fin : ∀ {g : Heap} {ro' : Ro} {dE' : D} {e' : Ev} {n : Int} {st' : St}, bJ h ro g ro' [(n16, .agg sX), (n14, e'.e), (n12, xi.e), (n10, .agg (dT it dR dL dE' dm 0)), (n8, l.e), (n6, c.e)] -> jR g ro' dR dE' dL dm st' -> (∀ h' ro', Fr ro h ro' h' -> jR h' ro' dR dE' dL dm st' -> KH (.agg (dT it dR dL dE' dm n)) h') ->
   ab PP (.st (.c (.ptr n16 0 0)) (.c (.agg (dT it dR dL dE' dm n))) 11) g fun _ h' => ab PP (.ld (.c (.ptr n16 0 0)) 11 true) h' fun a _ => KH a h' := by
  intro g ro' dE' e' n st' Y y k
  rw [mD (s := 11) (cs := sX) (cs' := dT it dR dL dE' dm n) (Y.get 0 rfl) rfl rfl (y.dp it n), zN (cs := dT it dR dL dE' dm n) (ad _ _ _) rfl]
  exact k _ ro' (Y.av 0 rfl (.agg (dT it dR dL dE' dm n))).fr (y.av (Y.rn 0 rfl) _)
 simp only [↓bf (B6.used 2 rfl), Nat.zero_add, hx1 (B6.get 2 rfl) (j := 0) rfl, true_and]
 refine ⟨fun qs g => qs = [.bool (decide (xi.op = 7 \/ xi.op = 8 \/ xi.op = 9))] /\ g = h6, ?_, ?_⟩
 ·rintro f g ⟨hf, rfl⟩
  simp only [List.cons.injEq, and_true] at hf
  rw [hf]
  by_cases hop : xi.op = 7 \/ xi.op = 8 \/ xi.op = 9
  ·simp only [hop, decide_true, ↓af, h8 (B6.get 5 rfl), h11 (B6.get 3 rfl), h15 (B6.get 2 rfl), h9 (B6.get 1 rfl)]
   refine LY (l := l) x6 hc hw hev hx hop (fun st' h' ro' dE' hst F y => ?_) (fun h' ro' hst F y => ?_)
   ·have Y := B6.step F
    rw [mD (s := 11) (cs := sX) (cs' := dT it dR dL dE' dm 0) (Y.get 0 rfl) rfl rfl (y.dp it 0), zN (cs := dT it dR dL dE' dm 0) (ad _ _ _) rfl]
    exact hK st' _ ro' dE' hst (Y.av 0 rfl (.agg (dT it dR dL dE' dm 0))).fr (y.av (Y.rn 0 rfl) _)
   ·have Y := B6.step F
    exact fin Y y fun h'' ro'' F' y' => hN h'' ro'' hst F' y'
  simp only [hop, decide_false, ↓ae, ↓aM]
  by_cases h10 : xi.op = 10
  ·simp only [h10, decide_true, ↓af, ↓bf (B6.used 1 rfl), Nat.zero_add, true_and]
   refine B6.ev 1 (e := e) (e' := { e with kind := 4 }) rfl rfl rfl (by omega) fun B7 => ?_
   have x7 := x6.av (B6.rn 1 rfl) (.box ({ e with kind := 4 } : Ev).e)
   generalize ah g n14 (.box ({ e with kind := 4 } : Ev).e) = h7 at x7 B7
   simp only [List.set_cons_zero, List.set_cons_succ] at B7
   simp only [↓bf (B7.used 2 rfl), ↓bf (B7.used 1 rfl), Nat.zero_add, hx1 (B7.get 2 rfl) (j := 1) rfl, true_and]
   refine B7.ev 1 (e := { e with kind := 4 }) (e' := Hr e xi) rfl rfl rfl (by omega) fun B8 => ?_
   have x8 := x7.av (B7.rn 1 rfl) (.box (Hr e xi).e)
   generalize ah h7 n14 (.box (Hr e xi).e) = h8x at x8 B8
   simp only [List.set_cons_zero, List.set_cons_succ] at B8
   simp only [↓bf (B8.used 3 rfl), Nat.zero_add, ↓eG (cs := dT it dR dL dE dm 0) (B8.get 3 rfl) (j := 9) rfl, h9 (B8.get 1 rfl), true_and]
   refine Nh x8.ev (by omega) fun dE' g4 ro4' F4 K4 E4 => ?_
   have Y4 := B8.step F4
   have y4 : jR g4 ro4' dR dE' dL dm { st with ev := st.ev ++ [Hr e xi] } := ⟨x8.regs.cV K4 (by simp), fun s a b => (x8.mem s a b).cV K4 (by simp) (by simp), E4, x8.sl.cV K4 (by simp)⟩
   simp only [↓bf (Y4.used 3 rfl), Nat.zero_add, true_and]
   rw [HX (cs := dT it dR dL dE dm 0) (Y4.get 3 rfl) (by simp) E4.one]
   have es : (dT it dR dL dE dm 0).set 9 dE' = dT it dR dL dE' dm 0 := rfl
   rw [es]
   have Y5 := Y4.av 3 rfl (.agg (dT it dR dL dE' dm 0))
   have y5 := y4.av (Y4.rn 3 rfl) (.box (.agg (dT it dR dL dE' dm 0)))
   generalize ah g4 n10 (.box (.agg (dT it dR dL dE' dm 0))) = g5 at Y5 y5
   simp only [List.set_cons_zero, List.set_cons_succ] at Y5
   rw [h11 (Y5.get 3 rfl)]
   refine fin Y5 y5 fun h'' ro'' F' y' => hK _ h'' ro'' dE' ?_ F' y'
   unfold dC
   rw [if_neg (by omega), if_neg (by omega), if_neg (by omega), if_pos h10]
   simp [St.tell, Hr]
  ·have h6o : xi.op <= 6 := by have := hx.Sq; omega
   obtain ⟨q, q0, q1, hd⟩ := hx.oZ (by omega)
   obtain ⟨j, rfl⟩ : ∃ j : Nat, q = (j : Int) := ⟨q.toNat, by omega⟩
   have hdn : xi.cs[4]? = some (.int .i64 (j : Int)) := by simp [aR.cs, hd, fQ]
   have e6 : xi.d.n.toNat = j := by rw [hd]; rfl
   simp only [h10, decide_false, ↓ae, show ¬ xi.op = 12 by omega, ↓aH, B6.used 3 rfl, B6.used 2 rfl, Nat.zero_add, Nat.reduceAdd, ↓bY (cs := dT it dR dL dE dm 0) (B6.get 3 rfl) (j := 4) rfl, dx1 (B6.get 2 rfl) hdn, d8 (B6.get 5 rfl), d2 (B6.get 4 rfl), d7 (B6.get 3 rfl), d15 (B6.get 2 rfl), true_and]
   refine LW x6 hc hl hid hw hx h6o fun h7 e7 => ?_
   have x7 := x6.ext e7
   have B7 := B6.step (Fr.ext (ro := ro6) e7)
   simp only [↓aH, B7.used 3 rfl, B7.used 2 rfl, Nat.zero_add, Nat.reduceAdd, ↓bY (cs := dT it dR dL dE dm 0) (B7.get 3 rfl) (j := 4) rfl, dx1 (B7.get 2 rfl) hdn, ai, true_and, and_true]
   rw [fO]
   have rs := x7.Jq (i := j) (v := gd c l it.id xi st.regs) (by have := hw.len; omega) (KH := fun _ h8 => ab PP (.ld (.c (.ptr n10 0 0)) 11 true) h8 fun a h9 => ab PP (.st (.c (.ptr n16 0 0)) (.c a) 11) h9 fun _ h10 => ab PP (.ld (.c (.ptr n16 0 0)) 11 true) h10 fun b _ => KH b h10) fun h8 F8 x8 => ?_
   ·obtain ⟨q, rfl, g2, g3⟩ := x7.regs
    rw [bN] at rs ⊢
    exact rs
   ·have B8 := B7.step F8
    rw [h11 (B8.get 3 rfl)]
    refine fin B8 x8 fun h'' ro'' F' y' => hK _ h'' ro'' dE ?_ F' y'
    unfold dC
    rw [if_neg (by omega), if_neg (by omega), if_neg (by omega), if_neg (by omega), e6]
 ·by_cases h7 : xi.op = 7
  ·simp only [↓aM, h7, decide_true, ↓af, ai, true_and]
   simp
  ·by_cases h8' : xi.op = 8
   ·simp only [↓aM, h7, h8', Int.reduceEq, decide_true, decide_false, ↓af, ↓ae, ai, true_and]
    simp
   ·simp only [↓aM, h7, h8', decide_false, ↓ae, ai, true_and]
    simp
end
end Go.Am
namespace Go.Am
open Go
theorem JR {P : Program} {r : bM} {g : Heap} {K : HK} : ab P (.ld (.c (.vp r.e 0)) 4 true) g K = K r.e g := by
 rw [iD, cw]
 have e1 : (r.e.cells.drop 0).take 4 = [.str r.name, .int .i64 r.space, .int .i64 r.type, .int .i64 r.len] := rfl
 have e2 : r.e.cells.length = 4 := rfl
 rw [e1, e2]; simp [bM.e]
theorem Qx (n : Nat) : List.replicate n (D.int .i32 0) = wr (List.replicate n 0) := by simp [wr]
theorem Ju {h : Heap} {ro : Ro} {c : Code} (hc : bq c) (sp : Int) (s : Nat) {KH : HK} (hK : ∀ d h' ro', eW h ro h' ro' -> jf h' ro' s d (ik c.arrays sp) -> KH d h') : ag PP fh [.sl (c.arrays.map bM.e), .int .i64 sp] h KH := by
 refine aW CG (aA _ _ _) rfl (Cm _ _ _) ?_
 (unfold xx; try dsimp only [xL, yL, xF, yF, xI, yI, xS, zI, zJ])
 obtain ⟨m, hm⟩ : ∃ m : Mm, m = ik c.arrays sp := ⟨_, rfl⟩
 have hml : m.length = c.arrays.length := by rw [hm]; simp [ik]
 have hna := hc.nar
 rw [<- hm] at hK
 refine qR fun n0 t0 => ?_
 refine ⟨fun qs h' => ∃ d ro', qs = [d] /\ eW h ro h' ro' /\ jf h' ro' s d m, ?_, ?_⟩
 ·rintro f h' ⟨d, ro', hf, x, y⟩
  simp only [List.cons.injEq, and_true] at hf
  rw [hf]; exact hK d h' ro' x y
 (unfold pd; try dsimp only [xL, yL, xF, yF, xI, yI, xS, zI, zJ])
 refine ⟨fun k qs h' => ∃ (i q : Nat) (els : List D) (ro' : Ro), qs = [.ms q 0 i, .int .i64 (i : Int)] /\ k + i = c.arrays.length /\ eW h ro h' ro' /\ h q = .free /\ nE h' ro' s (m.take i) q els /\ CB els, c.arrays.length,
  ⟨0, n0, [], ah ro n0 (.mem s), rfl, by omega, eW.new t0.free _ _, t0.free, ⟨ad _ _ _, ad _ _ _, by simp, fun i e w he => (by simp at he)⟩, CB.nil⟩, ?_⟩
 rintro k f h' ⟨i, q, els, ro', hf, hki, x, hq, y, yo⟩
 simp only [List.cons.injEq, and_true] at hf
 obtain ⟨hf1, hf2⟩ := hf
 rw [hf1, hf2, kO, List.length_map, bK]
 by_cases hi : i < c.arrays.length
 case neg =>
  simp only [show ¬ ((i : Int) < (c.arrays.length : Int)) by omega, decide_false, ↓ae, ai, true_and]
  rw [List.take_of_length_le (by omega)] at y
  have : i = m.length := by omega
  subst this
  exact ⟨_, ro', rfl, x, q, els, rfl, y, yo⟩
 have ha : c.arrays[i]? = some c.arrays[i] := List.getElem?_eq_getElem hi
 obtain ⟨a, hae⟩ : ∃ a, a = c.arrays[i] := ⟨_, rfl⟩
 rw [<- hae] at ha
 have hao := hc.ar a (List.mem_of_getElem? ha)
 have hw : m[i]? = some (List.replicate (mR sp a) 0) := by rw [hm, ik, List.getElem?_map, ha]; rfl
 have hz : a.sz sp = (mR sp a : Int) /\ mR sp a <= 8 := by
  have := hao.2
  unfold bM.sz mR
  split <;> omega
 simp only [show ((i : Int) < (c.arrays.length : Int)) by omega, decide_true, ↓af, ↓zV ha, ↓JR]
 refine bE (Oz a sp) (fun d hd => ?_) ?_
 ·simp only [List.mem_cons, List.not_mem_nil, or_false] at hd
  rcases hd with rfl | rfl
  ·exact bM.vd a
  ·exact jM
 rintro _ rfl
 rw [hz.1, O9]
 refine ⟨by omega, by omega, by omega, by omega, fun n2 t2 => ?_⟩
 have a2 : ah h' n2 (.arr 1 (List.replicate ((mR sp a : Int)).toNat (D.int .i32 0))) n2 = .arr 1 (wr (List.replicate (mR sp a) 0)) := by rw [ad, Int.toNat_natCast, Qx]
 have f2 := t2.free
 have k2 : ∀ k, h' k ≠ .free -> ah h' n2 (.arr 1 (List.replicate ((mR sp a : Int)).toNat (D.int .i32 0))) k = h' k := fun k hk => aa _ _ (t2.ne hk)
 generalize ah h' n2 (.arr 1 (List.replicate ((mR sp a : Int)).toNat (D.int .i32 0))) = h2 at a2 k2
 have hel : els.length = i := by have := y.len; rw [List.length_take] at this; omega
 have hq2 : h2 q = .arr 1 els := by rw [k2 q (cr y.hk)]; exact y.hk
 have app := FA (P := PP) (esz := 1) (bytes := 24) (z := .nil) (z' := .nil) (d := .ms n2 0 (List.replicate (mR sp a) (0 : Int)).length) (KH := fun a23 h24 => vbin .add (.int .i64 (i : Int)) (.int .i64 1) fun a25 =>
  aG [.sl (c.arrays.map bM.e), .int .i64 sp] [.sl (c.arrays.map bM.e), .int .i64 sp] /\ ∃ m', m' < k /\ ∃ (i q : Nat) (els : List D) (ro' : Ro), [a23, a25] = [.ms q 0 i, .int .i64 (i : Int)] /\ m' + i = c.arrays.length /\ eW h ro h24 ro' /\ h q = .free /\ nE h24 ro' s (m.take i) q els /\ CB els)
  hq2 (by simp) rfl (by omega) (by omega) fun n4 h4 f4 a4 k4 => ?_
 ·rw [hel] at app
  simp only [List.length_replicate] at app
  rw [Int.toNat_natCast]
  exact app
 ·obtain ⟨e1, e2⟩ := wL (r2 := .row s (m.take i).length) (r4 := .mem s) x hq f2 k2 f4 k4
  have ym := G1 y f2 a2 k2 f4 a4 k4
  rw [bt, GB (i := i) (by omega)]
  refine ⟨by simp, k - 1, by omega, i + 1, n4, els ++ [.ms n2 0 (List.replicate (mR sp a) (0 : Int)).length], _, by rw [hel], by omega, e1, e2, ?_, yo.snoc _ _⟩
  rw [List.take_add_one, hw]
  exact ym
theorem p8.out {h : Heap} {ro : Ro} {s : Nat} {d : D} {m : Mm} (x : p8 h ro s d m) : ∃ h'', FM h h'' /\ yl h'' d (aO m) := by
 obtain ⟨k, els, rfl, y⟩ := x
 obtain ⟨p1, p2, -⟩ := y.II
 refine ⟨dB h k 1 els, .step y.hk p1 (.refl _), ?_⟩
 have := db (h := dB h k 1 els) (n := k) (e := 1) (els := m.map words) (by rw [jb, p2]) (fun z hz w hw => by
  simp only [List.mem_map] at hz
  obtain ⟨z, -, rfl⟩ := hz
  simp [words] at hw; subst hw; rfl)
 rw [List.length_map] at this
 exact this
theorem Im {c : Code} (hc : bq c) (sp : Int) : aD PP fh [.sl (c.arrays.map bM.e), .int .i64 sp] (· = aO (ik c.arrays sp)) := by
 refine fR (Ju (ro := fun _ => .no) hc sp 1 fun d h' ro' _ y => ?_)
 have ht : ∀ ds, d ≠ .tup ds := by obtain ⟨k, els, rfl, -⟩ := y; simp
 obtain ⟨h'', i, z⟩ := y.r.out
 exact dW ht (by simp [aO]) i z.d rfl
section
variable {h : Heap} {ro : Ro} {dR dE dL : D} {dm : Nat -> D} {st : St}
theorem Ge (x : jR h ro dR dE dL dm st) (it : It) : ∀ d, d ∈ [D.int .i64 it.id, .int .i64 it.at_, .int .i64 it.block, .int .i64 it.epoch, dR, dm 3, dL] -> d.one = true := fun d hd => by
 simp at hd
 have o3 := (x.mem 3 (by omega) (by omega)).one
 have oR := x.regs.one
 have oL := x.sl.one
 rcases hd with rfl | rfl | rfl | rfl | rfl | rfl | rfl <;> first | rfl | assumption
abbrev S5 : List D := [(.int .i64 0), (.int .i64 0), (.int .i64 0), (.int .i64 0), (.int .i32 0), (.int .i64 0), (.int .i64 0), (.int .i32 0), (.int .i64 0), (.int .i64 0), (.int .i32 0), (.int .i64 0), (.int .i64 0)]
abbrev oq (it : It) (dR dP dL : D) : List D := [.int .i64 it.id, .int .i64 it.at_, .int .i64 it.block, .int .i64 it.epoch, dR, dP, dL]
theorem Hf {P : Program} {n i j l s : Nat} {k : IntKind} {a : Int} {h : Heap} {KH : HK} : ab P (.iadda (.c (.ptr n i j)) (.c (.int k a)) l s) h KH = (0 <= a /\ a < l /\ (h n).live = true /\ KH (.ptr n i (j + a.toNat * s)) h) := rfl
theorem Hb {P : Program} {n j i : Nat} {a : Int} {d : D} {h : Heap} (ha : a = (i : Int)) (hi : i < 2) (hb : h n = .box d) {KH : HK} : ab P (.iadda (.c (.ptr n 0 j)) (.c (.int .i64 a)) 2 1) h KH = KH (.ptr n 0 (j + i)) h := by
 subst ha
 rw [Hf, hb]
 apply propext
 constructor
 ·rintro ⟨-, -, -, h⟩; simpa using h
 ·intro h; exact ⟨by omega, by omega, rfl, by simpa using h⟩
theorem Ou (x : jR h ro dR dE dL dm st) {c : Code} {it : It} (hc : bq c) (hw : qf c st) (hb : 0 <= it.block /\ it.block < (c.b.length : Int)) {KH : HK}
  (hK : ∀ h' ro', Fr ro h ro' h' -> jR h' ro' dR dE dL dm st -> KH (zp c { it with regs := st.regs, priv := st.mem 3 } dR (dm 3) dL) h') : ag PP mE [c.e, sH it dR (dm 3) dL] h KH := by
 refine aW Ap (aA _ _ _) rfl (zZ _ _ _) ?_
 (unfold tL; try dsimp only [xL, yL, xF, yF, xI, yI, xS, zI, zJ])
 obtain ⟨k, B, hbk, hB, hBm, ht, hi⟩ := hc.Nz hb
 obtain ⟨-, -, hT⟩ := hc.xs B hBm
 obtain ⟨ho, hkd⟩ := hT.ops
 have B0 : bJ h ro h ro [] := bJ.nil
 rw [cC]
 refine ⟨(ju c).2, fun n3 t => ?_⟩
 have x1 := x.new t.free (.box c.e)
 have B1 := B0.push t.free c.e
 generalize ah h n3 (.box c.e) = h1 at x1 B1
 generalize ah ro n3 .no = ro1 at x1 B1
 rw [cC]
 refine ⟨Ge x it, fun n5 t => ?_⟩
 have x2 := x1.new t.free (.box (sH it dR (dm 3) dL))
 have B2 := B1.push t.free (sH it dR (dm 3) dL)
 generalize ah h1 n5 (.box (sH it dR (dm 3) dL)) = h2 at x2 B2
 generalize ah ro1 n5 .no = ro2 at x2 B2
 rw [bQ]
 intro n7 t
 have x3 := x2.new t.free (.box (.agg D4))
 have B3 := B2.push t.free (.agg D4)
 generalize ah h2 n7 (.box (.agg D4)) = h3 at x3 B3
 generalize ah ro2 n7 .no = ro3 at x3 B3
 have eb : ∀ {g : Heap} {K : HK}, g n3 = .box c.e -> ab PP (.ld (.c (.ptr n3 0 7)) 1 false) g K = K (.sl (c.b.map Block.e)) g := fun {g K} hg => eG (cs := [.int .i64 c.group, .int .i64 c.sub, .int .i64 c.regs, .int .i64 c.slots, .int .i64 c.params, .sl (c.arrays.map bM.e), .sl (c.loops.map Loop.e), .sl (c.b.map Block.e)]) hg rfl
 have hat : ∀ {g : Heap} {K : HK}, ab PP (.iadd (.c (.sl (c.b.map Block.e))) (.c (.int .i64 it.block)) 14) g K = K (.vp B.e 0) g := fun {g K} => by rw [hbk, rh hB]
 simp only [↓bf (B3.used 2 rfl), ↓bf (B3.used 1 rfl), Nat.zero_add, eb (B3.get 2 rfl), ↓eG (cs := oq it dR (dm 3) dL) (B3.get 1 rfl) (j := 2) rfl, hat, ↓jk, ↓HC, true_and]
 rw [bQ]
 intro n23 t
 have x4 := x3.new t.free (.box (.agg S5))
 have B4 := B3.push t.free (.agg S5)
 generalize ah h3 n23 (.box (.agg S5)) = h4 at x4 B4
 generalize ah ro3 n23 .no = ro4 at x4 B4
 have te : B.t.e = .agg B.t.cs := rfl
 rw [te, mD (s := 13) (cs := S5) (cs' := B.t.cs) (B4.get 0 rfl) rfl rfl (by simp [Term.cs])]
 have x5 := x4.av (B4.rn 0 rfl) (.box (.agg B.t.cs))
 have B5 := B4.av 0 rfl (.agg B.t.cs)
 generalize ah h4 n23 (.box (.agg B.t.cs)) = h5 at x5 B5
 simp only [List.set_cons_zero] at B5
 clear x1 x2 x3 x4 B0 B1 B2 B3 B4
 obtain ⟨it1, hit1⟩ : ∃ it1 : It, it1 = { it with regs := st.regs, priv := st.mem 3 } := ⟨_, rfl⟩
 rw [<- hit1] at hK
 have tt : fy c it1.block = B.t := by rw [hit1]; exact ht
 have ei : ∀ {b : Int}, sH it dR (dm 3) dL = sH it1 dR (dm 3) dL := fun {b} => by rw [hit1]; rfl
 refine ⟨fun _ g => (fy c it1.block).kind ≠ 5 /\ ∃ ro', bJ h ro g ro' [(n23, .agg B.t.cs), (n7, .agg D4), (n5, sH (aT c it1) dR (dm 3) dL), (n3, c.e)] /\ jR g ro' dR dE dL dm st, ?_, ?_⟩
 ·rintro _ g ⟨h5', ro', Y, y⟩
  rw [NX (cs := oq (aT c it1) dR (dm 3) dL) (Y.get 2 rfl) rfl, mD (s := 7) (cs := D4) (cs' := oq (aT c it1) dR (dm 3) dL) (Y.get 1 rfl) rfl rfl (Ge x _), NX (cs := oq (aT c it1) dR (dm 3) dL) (ad _ _ _) rfl]
  have := hK _ ro' (Y.av 1 rfl (.agg (oq (aT c it1) dR (dm 3) dL))).fr (y.av (Y.rn 1 rfl) _)
  simp only [zp, h5', if_false] at this
  exact this
 have GC : ∀ {g : Heap} {j : Nat} {d : D} {K : HK}, g n23 = .box (.agg B.t.cs) -> B.t.cs[j]? = some d -> ab PP (.ld (.c (.ptr n23 0 j)) 1 false) g K = K d g := fun a b => eG a b
 have setc : ∀ {g : Heap} {ro' : Ro} {cs : List D} {j : Nat} {d : D} {it' : It} {Q : Heap -> Prop}, bJ h ro g ro' [(n23, .agg B.t.cs), (n7, .agg D4), (n5, .agg cs), (n3, c.e)] -> jR g ro' dR dE dL dm st -> j < cs.length -> d.one = true -> cs.set j d = oq it' dR (dm 3) dL ->
   (∀ g', bJ h ro g' ro' [(n23, .agg B.t.cs), (n7, .agg D4), (n5, sH it' dR (dm 3) dL), (n3, c.e)] -> jR g' ro' dR dE dL dm st -> Q g') -> ab PP (.st (.c (.ptr n5 0 j)) (.c d) 1) g fun _ g' => Q g' := by
  intro g ro' cs j d it' Q Y y hj hd hs hQ
  rw [HX (cs := cs) (Y.get 2 rfl) hj hd, hs]
  exact hQ _ (Y.av 2 rfl (.agg (oq it' dR (dm 3) dL))) (y.av (Y.rn 2 rfl) _)
 simp only [↓bf (B5.used 0 rfl), Nat.zero_add, GC (B5.get 0 rfl) (j := 0) rfl, ↓aM, true_and]
 rcases hkd with h0 | h0 | h0 | h0 | h0
 ·simp only [h0, decide_true, ↓af, ↓bf (B5.used 0 rfl), Nat.zero_add, true_and]
  rw [Hb (a := 0) (i := 0) rfl (by omega) (B5.get 0 rfl), GC (B5.get 0 rfl) (j := 11) rfl]
  simp only [↓bf (B5.used 2 rfl), Nat.zero_add, ai, true_and]
  have el : aT c it1 = { it1 with block := B.t.to0 } := by simp [aT, tt, h0]
  refine setc (cs := oq it dR (dm 3) dL) (it' := aT c it1) B5 x5 (by simp) rfl (by rw [el, hit1]; rfl) fun g' Y y => ⟨by rw [tt, h0]; simp, ro4, Y, y⟩
 ·simp only [h0, Int.reduceEq, decide_false, decide_true, ↓af, ↓ae, ↓bf (B5.used 0 rfl), Nat.zero_add, true_and]
  rw [Hb (a := 1) (i := 1) rfl (by omega) (B5.get 0 rfl), GC (B5.get 0 rfl) (j := 12) rfl]
  simp only [↓bf (B5.used 2 rfl), Nat.zero_add, true_and]
  refine setc (cs := oq it dR (dm 3) dL) (it' := { it with block := B.t.to1 }) B5 x5 (by simp) rfl rfl fun g6 Y6 y6 => ?_
  have l3 : ∀ {g : Heap} {K : HK}, g n23 = .box (.agg B.t.cs) -> ab PP (.ld (.c (.ptr n23 0 5)) 3 true) g K = K B.t.a.e g := fun {g K} hg => by rw [qP hg (by simp [Term.cs])]; rfl
  rw [NX (cs := oq { it with block := B.t.to1 } dR (dm 3) dL) (Y6.get 2 rfl) rfl]
  simp only [↓bf (Y6.used 0 rfl), Nat.zero_add, l3 (Y6.get 0 rfl), true_and]
  refine zk y6 (it := { it with block := B.t.to1 }) (o := B.t.a) (by rw [hw.len]; exact ho) fun g7 e7 y7 => ?_
  have Y7 := Y6.step (Fr.ext (ro := ro4) e7)
  rw [cH]
  by_cases hz : aY st.regs B.t.a = 0
  ·simp only [hz, decide_true, Bool.not_true, ↓ae, ai, true_and]
   have el : aT c it1 = { it1 with block := B.t.to1 } := by simp [aT, tt, h0]; rw [hit1]; simp [hz]
   refine ⟨by rw [tt, h0]; simp, ro4, ?_, y7⟩
   rw [el, hit1]; exact Y7
  ·simp only [hz, decide_false, Bool.not_false, ↓af, ↓bf (Y7.used 0 rfl), Nat.zero_add, true_and]
   rw [Hb (a := 0) (i := 0) rfl (by omega) (Y7.get 0 rfl), GC (Y7.get 0 rfl) (j := 11) rfl]
   simp only [↓bf (Y7.used 2 rfl), Nat.zero_add, ai, true_and]
   have el : aT c it1 = { it1 with block := B.t.to0 } := by simp [aT, tt, h0]; rw [hit1]; simp [hz]
   refine setc (cs := oq { it with block := B.t.to1 } dR (dm 3) dL) (it' := aT c it1) Y7 y7 (by simp) rfl (by rw [el, hit1]; rfl) fun g' Y y => ⟨by rw [tt, h0]; simp, ro4, Y, y⟩
 ·simp only [h0, Int.reduceEq, decide_false, ↓ae, ↓bf (B5.used 2 rfl), Nat.zero_add, ai, true_and]
  have el : aT c it1 = { it1 with at_ := 2 } := by simp [aT, tt, h0]
  refine setc (cs := oq it dR (dm 3) dL) (it' := aT c it1) B5 x5 (by simp) rfl (by rw [el, hit1]; rfl) fun g' Y y => ⟨by rw [tt, h0]; simp, ro4, Y, y⟩
 ·simp only [h0, Int.reduceEq, decide_false, ↓ae, ↓bf (B5.used 2 rfl), Nat.zero_add, ai, true_and]
  have el : aT c it1 = { it1 with at_ := 2 } := by simp [aT, tt, h0]
  refine setc (cs := oq it dR (dm 3) dL) (it' := aT c it1) B5 x5 (by simp) rfl (by rw [el, hit1]; rfl) fun g' Y y => ⟨by rw [tt, h0]; simp, ro4, Y, y⟩
 ·have c0 := B5.get 3 rfl
  have hr := hc.regs
  have hs := hc.slots
  have dcc : ∀ {K : D -> Prop} {j : Nat} {d : D}, ([.int .i64 c.group, .int .i64 c.sub, .int .i64 c.regs, .int .i64 c.slots, .int .i64 c.params, .sl (c.arrays.map bM.e), .sl (c.loops.map Loop.e), .sl (c.b.map Block.e)] : List D)[j]? = some d -> au PP (.ld (.c (.ptr n3 0 j)) 1 false) h5 K = K d := fun {K j d} hj => bY (cs := [.int .i64 c.group, .int .i64 c.sub, .int .i64 c.regs, .int .i64 c.slots, .int .i64 c.params, .sl (c.arrays.map bM.e), .sl (c.loops.map Loop.e), .sl (c.b.map Block.e)]) c0 hj
  have hmk : ∀ {K : D -> Prop} {n : Int}, 0 <= n -> n <= 1000 -> K (words (List.replicate n.toNat 0)) -> au PP (.mk 1 4 (.int .i32 0) (.c (.int .i64 n)) (.c (.int .i64 n))) h5 K := fun {K n} a1 a2 hk =>
   ⟨⟨a1, by omega, by omega, by omega⟩, ⟨rfl, by simp⟩, by rw [zm]; exact hk⟩
  simp only [h0, Int.reduceEq, decide_false, decide_true, ↓af, ↓ae, ↓aH, B5.used 2 rfl, B5.used 3 rfl, Nat.zero_add, ↓bY (cs := oq it dR (dm 3) dL) (B5.get 2 rfl) (j := 0) rfl, ↓bY (cs := oq it dR (dm 3) dL) (B5.get 2 rfl) (j := 3) rfl, dcc (j := 2) rfl, true_and]
  refine hmk (by omega) (by omega) ?_
  simp only [↓aH, B5.used 3 rfl, Nat.zero_add, dcc (j := 5) rfl, true_and]
  refine ox (Im hc 3) ?_ ?_
  ·intro z hz
   simp [Arg.get] at hz
   rcases hz with rfl | rfl
   ·exact SZ rfl
   ·exact jM
  simp only [↓aH, B5.used 3 rfl, Nat.zero_add, dcc (j := 3) rfl, true_and]
  refine hmk (by omega) (by omega) ?_
  rw [jt rfl]
  have e : (D.agg (fillD [.int .i64 0, .int .i64 0, .int .i64 0, .int .i64 0, .nil, .nil, .nil] ([(0, 1, Arg.c (D.int .i64 it.id)), (1, 1, .c (.int .i64 3)), (3, 1, .c (.int .i64 it.epoch)), (4, 1, .c (words (List.replicate c.regs.toNat 0))), (5, 1, .c (aO (ik c.arrays 3))), (6, 1, .c (words (List.replicate c.slots.toNat 0)))].map fun p => (p.1, p.2.1, (p.2.2.get []).cells)))) = .agg (bD c it.id it.epoch 3).cs := by
   rw [hs]; rfl
  rw [e, mD (s := 7) (cs := D4) (cs' := (bD c it.id it.epoch 3).cs) (B5.get 1 rfl) rfl rfl (by simp [It.cs, words, aO]), NX (cs := (bD c it.id it.epoch 3).cs) (ad _ _ _) rfl]
  have := hK _ ro4 (B5.av 1 rfl (.agg (bD c it.id it.epoch 3).cs)).fr (x5.av (B5.rn 1 rfl) _)
  simp only [zp, tt, h0, if_true] at this
  rw [hit1] at this
  exact this
end
end Go.Am
namespace Go.Am
open Go
def gq (r : sO) : D := .agg [.int .i64 r.it.id, .int .i64 r.it.at_, .int .i64 r.it.block, .int .i64 r.it.epoch, words r.it.regs, aO r.it.priv, .sl [], aO r.g, aO r.s, .sl (r.ev.map Ev.e), .int .i64 r.e]
def wM (g s : Mm) : D := .agg [aO g, aO s]
theorem IA {c : Code} {it1 : It} (h5 : (fy c it1.block).kind ≠ 5) : (aT c it1).regs = it1.regs /\ (aT c it1).priv = it1.priv := by
 simp only [aT]
 split
 ·exact ⟨rfl, rfl⟩
 ·split
  ·exact ⟨rfl, rfl⟩
  ·first | exact ⟨rfl, rfl⟩ | (rw [if_neg h5]; exact ⟨rfl, rfl⟩)
theorem Rf {h : Heap} {c : Code} {it : It} {st : St} {dR dP dL dG dS dE : D} {r : sO} (hr : r.it = aT c { it with regs := st.regs, priv := st.mem 3 } /\ r.g = st.mem 1 /\ r.s = st.mem 2 /\ r.ev = st.ev /\ r.e = 0)
  (hR : yl h dR (words st.regs)) (hP : yl h dP (aO (st.mem 3))) (hL : yl h dL (.sl [])) (hG : yl h dG (aO (st.mem 1))) (hS : yl h dS (aO (st.mem 2))) (hE : yl h dE (.sl (st.ev.map Ev.e))) :
  NY h (.agg ((zp c { it with regs := st.regs, priv := st.mem 3 } dR dP dL).cells ++ [dG, dS, dE, .int .i64 0])) (gq r) := by
 obtain ⟨r1, r2, r3, r4, r5⟩ := hr
 obtain ⟨it1, h1⟩ : ∃ it1 : It, it1 = { it with regs := st.regs, priv := st.mem 3 } := ⟨_, rfl⟩
 rw [<- h1] at r1 ⊢
 have p1 : it1.regs = st.regs := by rw [h1]
 have p2 : it1.priv = st.mem 3 := by rw [h1]
 have e : gq r = .agg [.int .i64 (aT c it1).id, .int .i64 (aT c it1).at_, .int .i64 (aT c it1).block, .int .i64 (aT c it1).epoch, words (aT c it1).regs, aO (aT c it1).priv, .sl [], aO (st.mem 1), aO (st.mem 2), .sl (st.ev.map Ev.e), .int .i64 0] := by
  rw [gq, r1, r2, r3, r4, r5]
 rw [e]
 unfold zp
 by_cases h5 : (fy c it1.block).kind = 5
 ·rw [if_pos h5]
  have el : aT c it1 = bD c it1.id it1.epoch 3 := by simp [aT, h5]
  rw [el]
  exact (Bo.cons (aK rfl) (.cons (aK rfl) (.cons (aK rfl) (.cons (aK rfl) (.cons (aK rfl) (.cons (aK rfl) (.cons (aK rfl) (.cons hG (.cons hS (.cons hE (.cons (aK rfl) .nil))))))))))).agg
 ·rw [if_neg h5]
  obtain ⟨l1, l2⟩ := IA h5
  rw [l1, l2, p1, p2]
  exact (Bo.cons (aK rfl) (.cons (aK rfl) (.cons (aK rfl) (.cons (aK rfl) (.cons hR (.cons hP (.cons hL (.cons hG (.cons hS (.cons hE (.cons (aK rfl) .nil))))))))))).agg
theorem Pa {h : Heap} {it : It} {g s : Mm} {n : Int} {r : sO} (hr : r = ⟨it, g, s, [], n⟩) : NY h (.agg (it.cs ++ [aO g, aO s, .nil, .int .i64 n])) (gq r) := by
 subst hr
 exact (Bo.cons (aK rfl) (.cons (aK rfl) (.cons (aK rfl) (.cons (aK rfl) (.cons (aK rfl) (.cons (aK rfl) (.cons (aK rfl) (.cons (aK rfl) (.cons (aK rfl) (.cons fu (.cons (aK rfl) .nil))))))))))).agg
theorem LZ {c : Code} {l : dt} {it : It} {g s : Mm} {av : Int} (hc : bq c) (hl : lF c l) (hi : NR c l it) (hg : gL c.arrays 1 g) (hs : gL c.arrays 2 s) :
  aD PP kU [c.e, l.e, it.e, wM g s, .int .i64 av] (· = gq (dV c l it g s av)) := by
 refine fR (aW yu (aA _ _ _) rfl (xq _ _ _ _ _ _) ?_)
 (unfold rC; try dsimp only [xL, yL, xF, yF, xI, yI, xS, zI, zJ])
 obtain ⟨ro, hro⟩ : ∃ ro : Ro, ro = fun _ => mP.no := ⟨_, rfl⟩
 have B0 : bJ aJ ro aJ ro [] := bJ.nil
 rw [cC]
 refine ⟨(ju c).2, fun n6 t => ?_⟩
 have B1 := B0.push t.free c.e
 generalize ah aJ n6 (.box c.e) = h1 at B1
 generalize ah ro n6 .no = ro1 at B1
 rw [cC]
 refine ⟨List.all_eq_true.1 (dt.on l), fun n8 t => ?_⟩
 have B2 := B1.push t.free l.e
 generalize ah h1 n8 (.box l.e) = h2 at B2
 generalize ah ro1 n8 .no = ro2 at B2
 rw [cC]
 refine ⟨it.bZ.one, fun n10 t => ?_⟩
 have B3 := B2.push t.free it.e
 generalize ah h2 n10 (.box it.e) = h3 at B3
 generalize ah ro2 n10 .no = ro3 at B3
 rw [cC]
 refine ⟨(by simp [wM, aO] : aw (wM g s)), fun n12 t => ?_⟩
 have B4 := B3.push t.free (wM g s)
 generalize ah h3 n12 (.box (wM g s)) = h4 at B4
 generalize ah ro3 n12 .no = ro4 at B4
 rw [bQ]
 intro n14 t
 have B5 := B4.push t.free (.agg sX)
 generalize ah h4 n14 (.box (.agg sX)) = h5 at B5
 generalize ah ro4 n14 .no = ro5 at B5
 clear B0 B1 B2 B3 B4
 have g7 : ∀ {g' : Heap} {K : HK}, g' n10 = .box it.e -> ab PP (.ld (.c (.ptr n10 0 0)) 7 true) g' K = K it.e g' := fun {g' K} hg' => NX (cs := it.cs) hg' rfl
 have d7 : ∀ {g' : Heap} {K : D -> Prop}, g' n10 = .box it.e -> au PP (.ld (.c (.ptr n10 0 0)) 7 true) g' K = K it.e := fun {g' K} hg' => by rw [bO]; exact g7 hg'
 have ia : ∀ {g' : Heap} {K : HK} {a : Int} {i : Nat}, a = (i : Int) -> i < 2 -> g' n12 = .box (wM g s) -> ab PP (.iadda (.c (.ptr n12 0 0)) (.c (.int .i64 a)) 2 1) g' K = K (.ptr n12 0 i) g' := fun {g' K a i} ha hi' hb => by rw [Hb ha hi' hb, Nat.zero_add]
 have dia : ∀ {g' : Heap} {K : D -> Prop} {a : Int} {i : Nat}, a = (i : Int) -> i < 2 -> g' n12 = .box (wM g s) -> au PP (.iadda (.c (.ptr n12 0 0)) (.c (.int .i64 a)) 2 1) g' K = K (.ptr n12 0 i) := fun {g' K a i} ha hi' hb => by rw [C8, ia ha hi' hb]
 have m0 : ∀ {g' : Heap} {K : HK}, g' n12 = .box (wM g s) -> ab PP (.ld (.c (.ptr n12 0 0)) 1 false) g' K = K (aO g) g' := fun {g' K} hg' => eG (cs := [aO g, aO s]) hg' rfl
 have m1 : ∀ {g' : Heap} {K : HK}, g' n12 = .box (wM g s) -> ab PP (.ld (.c (.ptr n12 0 1)) 1 false) g' K = K (aO s) g' := fun {g' K} hg' => eG (cs := [aO g, aO s]) hg' rfl
 have dm0 : ∀ {g' : Heap} {K : D -> Prop}, g' n12 = .box (wM g s) -> au PP (.ld (.c (.ptr n12 0 0)) 1 false) g' K = K (aO g) := fun {g' K} hg' => bY (cs := [aO g, aO s]) hg' rfl
 have dm1 : ∀ {g' : Heap} {K : D -> Prop}, g' n12 = .box (wM g s) -> au PP (.ld (.c (.ptr n12 0 1)) 1 false) g' K = K (aO s) := fun {g' K} hg' => bY (cs := [aO g, aO s]) hg' rfl
 rw [g7 (B5.get 2 rfl), ia (a := 0) (i := 0) rfl (by omega) (B5.get 1 rfl), m0 (B5.get 1 rfl), ia (a := 1) (i := 1) rfl (by omega) (B5.get 1 rfl), m1 (B5.get 1 rfl), cB rfl]
 have e1 : D.agg (fillD sX ([(0, 7, Arg.c it.e), (7, 1, .c (aO g)), (8, 1, .c (aO s))].map fun p => (p.1, p.2.1, (p.2.2.get []).cells))) = .agg (it.cs ++ [aO g, aO s, .nil, .int .i64 0]) := rfl
 rw [e1, bQ]
 intro n28 t
 have B6 := B5.push t.free (.agg sX)
 generalize ah h5 n28 (.box (.agg sX)) = h6 at B6
 generalize ah ro5 n28 .no = ro6 at B6
 rw [mD (s := 11) (cs := sX) (cs' := it.cs ++ [aO g, aO s, .nil, .int .i64 0]) (B6.get 0 rfl) rfl rfl (by simp [It.cs, words, aO])]
 have B7 := B6.av 0 rfl (.agg (it.cs ++ [aO g, aO s, .nil, .int .i64 0]))
 generalize ah h6 n28 (.box (.agg (it.cs ++ [aO g, aO s, .nil, .int .i64 0]))) = h7 at B7
 simp only [List.set_cons_zero] at B7
 clear B5 B6
 have same : ∀ {g' : Heap} {ro' : Ro} {n : Int} {L : List (Nat × D)}, bJ aJ ro g' ro' ((n28, .agg (it.cs ++ [aO g, aO s, .nil, .int .i64 0])) :: (n14, .agg sX) :: L) -> dV c l it g s av = ⟨it, g, s, [], n⟩ ->
   ab PP (.fadd (.c (.ptr n28 0 0)) 10) g' fun a37 h38 => ab PP (.st (.c a37) (.c (.int .i64 n)) 1) h38 fun _ h40 => ab PP (.ld (.c (.ptr n28 0 0)) 11 true) h40 fun a41 h42 =>
   ab PP (.st (.c (.ptr n14 0 0)) (.c a41) 11) h42 fun _ h44 => ab PP (.ld (.c (.ptr n14 0 0)) 11 true) h44 fun a45 _ => EH (· = gq (dV c l it g s av)) a45 h44 := by
  intro g' ro' n L Y hst
  simp only [↓bf (Y.used 0 rfl), Nat.zero_add, true_and]
  rw [HX (cs := it.cs ++ [aO g, aO s, .nil, .int .i64 0]) (Y.get 0 rfl) (by simp [It.cs]) rfl]
  have es : (it.cs ++ [aO g, aO s, .nil, .int .i64 0]).set 10 (.int .i64 n) = it.cs ++ [aO g, aO s, .nil, .int .i64 n] := rfl
  rw [es]
  have Y2 := Y.av 0 rfl (.agg (it.cs ++ [aO g, aO s, .nil, .int .i64 n]))
  rw [zN (cs := it.cs ++ [aO g, aO s, .nil, .int .i64 n]) (Y2.get 0 rfl) rfl, mD (s := 11) (cs := sX) (cs' := it.cs ++ [aO g, aO s, .nil, .int .i64 n]) (Y2.get 1 rfl) rfl rfl (by simp [It.cs, words, aO]), zN (cs := it.cs ++ [aO g, aO s, .nil, .int .i64 n]) (ad _ _ _) rfl]
  exact dW (by simp) (by simp [gq]) (.refl _) (Pa hst) rfl
 simp only [↓bf (B7.used 3 rfl), Nat.zero_add, ↓eG (cs := it.cs) (B7.get 3 rfl) (j := 1) rfl, ↓cH, true_and]
 by_cases ha : it.at_ = 1
 case neg =>
  simp only [ha, decide_false, Bool.not_false, ↓af]
  exact same B7 (by simp [dV, ha])
 simp only [ha, decide_true, Bool.not_true, ↓ae, d7 (B7.get 3 rfl), dia (a := 0) (i := 0) rfl (by omega) (B7.get 2 rfl), dm0 (B7.get 2 rfl), dia (a := 1) (i := 1) rfl (by omega) (B7.get 2 rfl), dm1 (B7.get 2 rfl)]
 have hrl := hi.len
 have hrr := hc.regs
 refine DR (ro := ro6) (it := it) (by omega) (hi.priv.b hc) fun dR dP dL h8 ro8 x8 R8 P8 L8 => ?_
 have B8 := B7.step x8.fr
 simp only [dia (a := 0) (i := 0) rfl (by omega) (B8.get 2 rfl), dm0 (B8.get 2 rfl), dia (a := 1) (i := 1) rfl (by omega) (B8.get 2 rfl), dm1 (B8.get 2 rfl), ai, true_and, and_true]
 refine Io (ro := ro8) (hg.b hc) 1 fun dG h9 ro9 x9 G9 => ?_
 have B9 := B8.step x9.fr
 have R9 := R8.aB x9.aB
 have P9 := P8.aB x9.aB
 have L9 := L8.aB x9.aB
 simp only [dia (a := 1) (i := 1) rfl (by omega) (B9.get 2 rfl), dm1 (B9.get 2 rfl), ai, true_and, and_true]
 refine Io (ro := ro9) (hs.b hc) 2 fun dS h10 ro10 x10 S10 => ?_
 have B10 := B9.step x10.fr
 have R10 := R9.aB x10.aB
 have P10 := P9.aB x10.aB
 have L10 := L9.aB x10.aB
 have G10 := G9.aB x10.aB
 clear B7 B8 B9 R8 P8 L8 R9 P9 L9 G9 x8 x9 x10
 obtain ⟨dm, hdm1, hdm2, hdm3⟩ : ∃ dm : Nat -> D, dm 1 = dG /\ dm 2 = dS /\ dm 3 = dP := ⟨fun k => if k = 1 then dG else if k = 2 then dS else dP, rfl, rfl, rfl⟩
 subst hdm1 hdm2 hdm3
 have X10 : jR h10 ro10 dR .nil dL dm (EZ it g s) := ⟨R10, fun k k1 k2 => by
  have : k = 1 \/ k = 2 \/ k = 3 := by omega
  rcases this with rfl | rfl | rfl
  ·exact G10
  ·exact S10
  ·exact P10, Or.inl ⟨rfl, rfl⟩, L10⟩
 clear R10 P10 L10 G10 S10
 have cG := gx (X10.mem 1 (by omega) (by omega)).one
 have cS := gx (X10.mem 2 (by omega) (by omega)).one
 have oG := (X10.mem 1 (by omega) (by omega)).one
 have oS := (X10.mem 2 (by omega) (by omega)).one
 have oI := Ge X10 it
 rw [Ht, jY]
 refine ⟨fun p hp => ?_, ?_⟩
 ·simp only [List.map_cons, List.map_nil, List.mem_cons, List.not_mem_nil, or_false, MP] at hp
  rcases hp with rfl | rfl | rfl
  ·exact ⟨rfl, by simp, oI⟩
  ·exact ⟨by simp only [cG]; rfl, by simp, fun d hd => by simp only [cG] at hd; simp at hd; subst hd; exact oG⟩
  ·exact ⟨by simp only [cS]; rfl, by simp, fun d hd => by simp only [cS] at hd; simp at hd; subst hd; exact oS⟩
 have e2 : D.agg (fillD sX ([(0, 7, Arg.c (sH it dR (dm 3) dL)), (7, 1, .c (dm 1)), (8, 1, .c (dm 2))].map fun p => (p.1, p.2.1, (p.2.2.get []).cells))) = .agg (dT it dR dL .nil dm 0) := by
  simp [fillD, cG, cS, sH]
 rw [e2, bQ]
 intro n64 t
 have B11 := B10.push t.free (.agg sX)
 have X11 := X10.new t.free (.box (.agg sX))
 generalize ah h10 n64 (.box (.agg sX)) = h11 at B11 X11
 generalize ah ro10 n64 .no = ro11 at B11 X11
 clear B10 X10 e2
 simp only [d7 (B11.get 4 rfl), dia (a := 0) (i := 0) rfl (by omega) (B11.get 3 rfl), dm0 (B11.get 3 rfl), dia (a := 1) (i := 1) rfl (by omega) (B11.get 3 rfl), dm1 (B11.get 3 rfl), ai, true_and, and_true]
 rw [mD (s := 11) (cs := sX) (cs' := dT it dR dL .nil dm 0) (B11.get 0 rfl) rfl rfl (X11.dp it 0)]
 have B12 := B11.av 0 rfl (.agg (dT it dR dL .nil dm 0))
 have X12 := X11.av (B11.rn 0 rfl) (.box (.agg (dT it dR dL .nil dm 0)))
 generalize ah h11 n64 (.box (.agg (dT it dR dL .nil dm 0))) = h12 at B12 X12
 simp only [List.set_cons_zero] at B12
 clear B11 X11
 obtain ⟨k, B, hbk, hB, hBm, -, hins⟩ := hc.Nz hi.block
 obtain ⟨hxs, hxl, -⟩ := hc.xs B hBm
 have sP : dV c l it g s av = match runP c l it.id av it.block B.i 0 (EZ it g s) with
   | none => ⟨it, g, s, [], 70⟩
   | some st => ⟨aT c { it with regs := st.regs, priv := st.mem 3 }, st.mem 1, st.mem 2, st.ev, 0⟩ := by
  unfold dV
  rw [if_neg (by simp [ha]), hins]
  cases runP c l it.id av it.block B.i 0 (EZ it g s) <;> rfl
 have w0 : qf c (EZ it g s) := Ic hi hg hs
 have eb : ∀ {g' : Heap} {K : HK}, g' n6 = .box c.e -> ab PP (.ld (.c (.ptr n6 0 7)) 1 false) g' K = K (.sl (c.b.map Block.e)) g' := fun {g' K} hg' => eG (cs := [.int .i64 c.group, .int .i64 c.sub, .int .i64 c.regs, .int .i64 c.slots, .int .i64 c.params, .sl (c.arrays.map bM.e), .sl (c.loops.map Loop.e), .sl (c.b.map Block.e)]) hg' rfl
 have hat : ∀ {g' : Heap} {K : HK}, ab PP (.iadd (.c (.sl (c.b.map Block.e))) (.c (.int .i64 it.block)) 14) g' K = K (.vp B.e 0) g' := fun {g' K} => by rw [hbk, rh hB]
 simp only [↓bf (B12.used 6 rfl), ↓bf (B12.used 4 rfl), Nat.zero_add, eb (B12.get 6 rfl), ↓eG (cs := it.cs) (B12.get 4 rfl) (j := 2) rfl, hat, ↓jk, ↓PT, true_and]
 have h8 : ∀ {g' : Heap} {K : HK}, g' n6 = .box c.e -> ab PP (.ld (.c (.ptr n6 0 0)) 8 true) g' K = K c.e g' := fun {g' K} hg' => dh hg'
 have d8 : ∀ {g' : Heap} {K : D -> Prop}, g' n6 = .box c.e -> au PP (.ld (.c (.ptr n6 0 0)) 8 true) g' K = K c.e := fun {g' K} hg' => by rw [bO]; exact dh hg'
 have d2 : ∀ {g' : Heap} {K : D -> Prop}, g' n8 = .box l.e -> au PP (.ld (.c (.ptr n8 0 0)) 2 true) g' K = K l.e := fun {g' K} hg' => by rw [bO]; exact dh hg'
 obtain ⟨Lb, hLb⟩ : ∃ Lb : List (Nat × D), Lb = [(n28, .agg (it.cs ++ [aO g, aO s, .nil, .int .i64 0])), (n14, .agg sX), (n12, wM g s), (n10, it.e), (n8, l.e), (n6, c.e)] := ⟨_, rfl⟩
 refine ⟨fun _ g' => ∃ (ro' : Ro) (st' : St) (dE : D), bJ aJ ro g' ro' ((n64, .agg (dT it dR dL dE dm 0)) :: Lb) /\ jR g' ro' dR dE dL dm st' /\ qf c st' /\ runP c l it.id av it.block B.i 0 (EZ it g s) = some st', ?_, ?_⟩
 ·rintro _ g' ⟨ro', st', dE, Y, y, W, P⟩
  rw [hLb] at Y
  rw [P] at sP
  have s7 : ∀ {g' : Heap} {K : HK}, g' n64 = .box (.agg (dT it dR dL dE dm 0)) -> ab PP (.ld (.c (.ptr n64 0 0)) 7 true) g' K = K (sH it dR (dm 3) dL) g' := fun {g' K} hg' => by rw [qP hg' (by simp)]; rfl
  simp only [h8 (Y.get 6 rfl), ↓bf (Y.used 0 rfl), Nat.zero_add, s7 (Y.get 0 rfl), true_and]
  refine Ou y hc W hi.block fun g2 ro2 F z => ?_
  have Z := Y.step F
  have o3 := (z.mem 3 (by omega) (by omega)).one
  have o1 := (z.mem 1 (by omega) (by omega)).one
  have o2 := (z.mem 2 (by omega) (by omega)).one
  have oE := z.ev.one
  obtain ⟨cs, q1, q2, q3⟩ := GX (c := c) (it := { it with regs := st'.regs, priv := st'.mem 3 }) z.regs.one o3 z.sl.one
  have fzo := fun (h'' : Heap) => Rf (h := h'') (c := c) (it := it) (st := st') (dR := dR) (dP := dm 3) (dL := dL) (dG := dm 1) (dS := dm 2) (dE := dE) (r := dV c l it g s av) (by rw [sP]; exact ⟨rfl, rfl, rfl, rfl, rfl⟩)
  rw [q1] at q3 fzo ⊢
  simp only [↓bf (Z.used 0 rfl), Nat.zero_add, true_and]
  rw [dq, Z.get 0 rfl]
  have es : setCells (.agg (dT it dR dL dE dm 0)) 0 (D.agg cs).cells = .agg (cs ++ [dm 1, dm 2, dE, .int .i64 0]) := by
   simp only [setCells, bV, List.take_zero, List.nil_append, q2]; rfl
  refine ⟨q2, q3, rfl, by simp, ?_⟩
  rw [es]
  have Z2 := Z.av 0 rfl (.agg (cs ++ [dm 1, dm 2, dE, .int .i64 0]))
  have z2 := z.av (Z.rn 0 rfl) (.box (.agg (cs ++ [dm 1, dm 2, dE, .int .i64 0])))
  have l11 : (cs ++ [dm 1, dm 2, dE, D.int .i64 0]).length = 11 := by simp [q2]
  have oA : ∀ d, d ∈ cs ++ [dm 1, dm 2, dE, D.int .i64 0] -> d.one = true := fun d hd => by
   rcases List.mem_append.1 hd with hd | hd
   ·exact q3 d hd
   ·simp at hd; rcases hd with rfl | rfl | rfl | rfl <;> first | rfl | assumption
  rw [zN (cs := cs ++ [dm 1, dm 2, dE, .int .i64 0]) (Z2.get 0 rfl) l11, mD (s := 11) (cs := sX) (cs' := cs ++ [dm 1, dm 2, dE, .int .i64 0]) (Z2.get 2 rfl) rfl l11 oA, zN (cs := cs ++ [dm 1, dm 2, dE, .int .i64 0]) (ad _ _ _) l11]
  obtain ⟨h3, i1, i2, i3, i4, i5, -⟩ := (z2.av (Z2.rn 2 rfl) (.box (.agg (cs ++ [dm 1, dm 2, dE, .int .i64 0])))).r.out
  exact dW (by simp) (by simp [gq]) i1 (fzo h3 i2 (i5 3 (by omega) (by omega)) i4 (i5 1 (by omega) (by omega)) (i5 2 (by omega) (by omega)) i3) rfl
 (unfold l6; try dsimp only [xL, yL, xF, yF, xI, yI, xS, zI, zJ])
 refine ⟨fun m qs g' => ∃ (i : Nat) (ro' : Ro) (st' : St) (dE : D), qs = [.int .i64 (i : Int)] /\ m + i = B.i.length /\ bJ aJ ro g' ro' ((n64, .agg (dT it dR dL dE dm 0)) :: Lb) /\ jR g' ro' dR dE dL dm st' /\ qf c st' /\ st'.ev.length <= i /\
   runP c l it.id av it.block (B.i.drop i) i st' = runP c l it.id av it.block B.i 0 (EZ it g s), B.i.length, ⟨0, ro11, EZ it g s, .nil, rfl, by omega, by rw [hLb]; exact B12, X12, w0, by simp [EZ], by simp⟩, ?_⟩
 rintro m f g' ⟨i, ro', st', dE, hf, hmi, Y, y, W, E, P⟩
 rw [hLb] at Y
 simp only [List.cons.injEq, and_true] at hf
 rw [hf, kO, List.length_map, bK]
 by_cases hlt : i < B.i.length
 case neg =>
  simp only [show ¬ ((i : Int) < (B.i.length : Int)) by omega, decide_false, ↓ae, ai, true_and]
  rw [List.drop_of_length_le (by omega)] at P
  exact ⟨ro', st', dE, by rw [hLb]; exact Y, y, W, P.symm⟩
 have hx : B.i[i]? = some B.i[i] := List.getElem?_eq_getElem hlt
 have bZ : ∀ {K : D -> Prop}, au PP (.iadd (.c (.sl (B.i.map aR.e))) (.c (.int .i64 (i : Int))) 15) g' K = K (.vp (aR.e B.i[i]) 0) := fun {K} => by rw [fO, JG hx]
 have dld : ∀ {K : D -> Prop}, au PP (.ld (.c (.vp (aR.e B.i[i]) 0)) 15 true) g' K = K (aR.e B.i[i]) := fun {K} => by rw [bO, JE]
 have d11 : ∀ {K : D -> Prop}, au PP (.ld (.c (.ptr n64 0 0)) 11 true) g' K = K (.agg (dT it dR dL dE dm 0)) := fun {K} => by rw [bO, zN (Y.get 0 rfl) rfl]
 simp only [show ((i : Int) < (B.i.length : Int)) by omega, decide_true, ↓af, d8 (Y.get 6 rfl), d2 (Y.get 5 rfl), d11, bZ, dld, ↓aH, Y.used 4 rfl, Nat.zero_add, ↓bY (cs := it.cs) (Y.get 4 rfl) (j := 0) rfl, ↓bY (cs := it.cs) (Y.get 4 rfl) (j := 2) rfl, true_and]
 rw [jt rfl]
 have ee : D.agg (fillD [.int .i64 0, .int .i64 0, .int .i64 0, .int .i64 0, .int .i64 0, .int .i64 0, .int .i64 0, .int .i64 0, .int .i32 0]
   ([(2, 1, Arg.c (.int .i64 it.id)), (3, 1, .c (.int .i64 av)), (4, 1, .c (.int .i64 it.block)), (5, 1, .c (.int .i64 (i : Int)))].map fun p => (p.1, p.2.1, (p.2.2.get []).cells))) = (SQ it.id av it.block (i : Int)).e := rfl
 rw [ee]
 have P2 : runP c l it.id av it.block (B.i.drop i) i st' = (dC c l it.id B.i[i] (SQ it.id av it.block i) st').bind (runP c l it.id av it.block (B.i.drop (i + 1)) (i + 1)) := by
  rw [List.drop_eq_getElem_cons hlt]; rfl
 have iok := hxs _ (List.getElem_mem hlt)
 refine Fg y hc hl hi.id W (by omega) iok (fun st2 h2 ro2 dE2 hst F2 y2 => ?_) (fun h2 ro2 hst F2 y2 => ?_)
 ·obtain ⟨w2, l2⟩ := D7 hc hl W iok hst
  rw [hst] at P2
  have Y2 := Y.step F2
  rw [mD (s := 11) (cs := dT it dR dL dE dm 0) (cs' := dT it dR dL dE2 dm 0) (Y2.get 0 rfl) rfl rfl (y2.dp it 0)]
  have Y3 := Y2.av 0 rfl (.agg (dT it dR dL dE2 dm 0))
  have y3 := y2.av (Y2.rn 0 rfl) (.box (.agg (dT it dR dL dE2 dm 0)))
  generalize ah h2 n64 (.box (.agg (dT it dR dL dE2 dm 0))) = h3 at Y3 y3
  simp only [List.set_cons_zero] at Y3
  simp only [↓bf (Y3.used 0 rfl), Nat.zero_add, ↓eG (cs := dT it dR dL dE2 dm 0) (Y3.get 0 rfl) (j := 10) rfl, ↓cH, decide_true, Bool.not_true, ↓ae, true_and]
  rw [bt, GB (i := i) (by omega)]
  refine ⟨by simp, m - 1, by omega, i + 1, ro2, st2, dE2, rfl, by omega, by rw [hLb]; exact Y3, y3, w2, by omega, ?_⟩
  rw [<- P, P2]; rfl
 ·rw [hst] at P2
  rw [<- P, P2] at sP
  have Y2 := Y.step F2
  rw [mD (s := 11) (cs := dT it dR dL dE dm 0) (cs' := dT it dR dL dE dm 70) (Y2.get 0 rfl) rfl rfl (y2.dp it 70)]
  have Y3 := Y2.av 0 rfl (.agg (dT it dR dL dE dm 70))
  generalize ah h2 n64 (.box (.agg (dT it dR dL dE dm 70))) = h3 at Y3
  simp only [List.set_cons_zero] at Y3
  simp only [↓bf (Y3.used 0 rfl), Nat.zero_add, ↓eG (cs := dT it dR dL dE dm 70) (Y3.get 0 rfl) (j := 10) rfl, ↓cH, Int.reduceEq, decide_false, Bool.not_false, ↓af, true_and]
  have Y4 : bJ aJ ro h3 ro2 [(n28, .agg (it.cs ++ [aO g, aO s, .nil, .int .i64 0])), (n14, .agg sX), (n12, wM g s), (n10, it.e), (n8, l.e), (n6, c.e)] := ⟨(List.nodup_cons.1 Y3.nd).2, fun p hp => Y3.at_ p (List.mem_cons_of_mem _ hp), Y3.fr⟩
  exact same Y4 sP
theorem Lg {P : Program} {w : List Int} {i : Nat} {v : Int} (hv : w[i]? = some v) {h : Heap} {KH : HK} : ab P (.iadd (.c (words w)) (.c (.int .i64 (i : Int))) 1) h KH = KH (.vp (.int .i32 v) 0) h := by
 have hk := (List.getElem?_eq_some_iff.1 hv).1
 rw [words, gX, Int.toNat_natCast, List.getElem?_map, hv, List.length_map]
 apply propext
 constructor
 ·rintro ⟨-, -, h⟩; exact (h _ rfl).2
 ·intro hk'; exact ⟨by omega, by omega, fun d hd => by cases hd; exact ⟨rfl, hk'⟩⟩
theorem nO {w : List Int} {h : Heap} {K : D -> Prop} : cj (words w) h K = K (.int .i64 (w.length : Int)) := by simp [words, kO]
theorem MI {P : Program} {k : IntKind} {n : Int} {h : Heap} {KH : HK} : ab P (.ld (.c (.vp (.int k n) 0)) 1 false) h KH = KH (.int k n) h := by rw [iD, bk]; rfl
theorem P4 (w : List Int) : (words w).vd = true /\ aw (words w) := SZ rfl
theorem FU {w : List Int} (hl : w.length <= 1000000) : aD PP ea [words w, words w] (· = .bool true) := by
 refine bc sw (aA _ _ _) rfl (rH _ _ _) ?_
 (unfold ma; try dsimp only [xL, yL, xF, yF, xI, yI, xS, zI, zJ])
 simp only [nO, ↓cH, decide_true, Bool.not_true, ↓ae]
 refine ⟨fun _ _ => True, fun _ _ _ => bH.mpr rfl, ?_⟩
 (unfold jA; try dsimp only [xL, yL, xF, yF, xI, yI, xS, zI, zJ])
 refine ⟨fun k qs _ => ∃ i : Nat, qs = [.int .i64 (i : Int)] /\ k + i = w.length, w.length, ⟨0, rfl, by omega⟩, ?_⟩
 rintro k f h ⟨i, hf, hki⟩
 simp only [List.cons.injEq, and_true] at hf
 rw [hf, nO, bK]
 by_cases hi : i < w.length
 case neg => simp only [show ¬ ((i : Int) < (w.length : Int)) by omega, decide_false, ↓ae, ai, true_and]
 have hv := List.getElem?_eq_getElem hi
 simp only [show ((i : Int) < (w.length : Int)) by omega, decide_true, ↓af, ↓fO, ↓bO, ↓Lg hv, ↓MI, ↓cH, Bool.not_true, ↓ae]
 rw [bt, GB (i := i) (by omega)]
 exact ⟨by simp, k - 1, by omega, i + 1, rfl, by omega⟩
theorem GP {m : Mm} (hm : Px m) : aD PP fj [aO m, aO m] (· = .bool true) := by
 refine bc CH (aA _ _ _) rfl (Cn _ _ _) ?_
 (unfold xy; try dsimp only [xL, yL, xF, yF, xI, yI, xS, zI, zJ])
 have hml := hm.len
 simp only [lf, ↓cH, decide_true, Bool.not_true, ↓ae]
 refine ⟨fun _ _ => True, fun _ _ _ => bH.mpr rfl, ?_⟩
 (unfold pe; try dsimp only [xL, yL, xF, yF, xI, yI, xS, zI, zJ])
 refine ⟨fun k qs _ => ∃ i : Nat, qs = [.int .i64 (i : Int)] /\ k + i = m.length, m.length, ⟨0, rfl, by omega⟩, ?_⟩
 rintro k f h ⟨i, hf, hki⟩
 simp only [List.cons.injEq, and_true] at hf
 rw [hf, lf, bK]
 by_cases hi : i < m.length
 case neg => simp only [show ¬ ((i : Int) < (m.length : Int)) by omega, decide_false, ↓ae, ai, true_and]
 have hv := List.getElem?_eq_getElem hi
 simp only [show ((i : Int) < (m.length : Int)) by omega, decide_true, ↓af, ↓fO, ↓bO, ↓wN hv, ↓qg]
 refine ox (FU (by have := hm.w _ (List.getElem_mem hi); omega)) ?_ ?_
 ·intro z hz
  simp [Arg.get] at hz
  subst hz
  exact P4 _
 simp only [↓DZ, ↓ae]
 rw [bt, GB (i := i) (by omega)]
 exact ⟨by simp, k - 1, by omega, i + 1, rfl, by omega⟩
theorem Rj {P : Program} {w : List Ev} {i : Nat} {v : Ev} (hv : w[i]? = some v) {h : Heap} {KH : HK} : ab P (.iadd (.c (.sl (w.map Ev.e))) (.c (.int .i64 (i : Int))) 9) h KH = KH (.vp v.e 0) h := by
 have hk := (List.getElem?_eq_some_iff.1 hv).1
 rw [gX, Int.toNat_natCast, List.getElem?_map, hv, List.length_map]
 apply propext
 constructor
 ·rintro ⟨-, -, h⟩; exact (h _ rfl).2
 ·intro hk'; exact ⟨by omega, by omega, fun d hd => by cases hd; exact ⟨rfl, hk'⟩⟩
theorem SP {P : Program} {v : Ev} {h : Heap} {KH : HK} : ab P (.ld (.c (.vp v.e 0)) 9 true) h KH = KH v.e h := by
 rw [iD, cw]
 have e1 : (v.e.cells.drop 0).take 9 = v.cs := rfl
 have e2 : v.e.cells.length = 9 := rfl
 rw [e1, e2]; simp [Ev.e]
theorem Rk {P : Program} {v w : Ev} {h : Heap} {KH : HK} : ab P (.eqv true true [.i, .i, .i, .i, .i, .i, .i, .i, .i] (.c v.e) (.c w.e)) h KH = KH (.bool (!decide (v = w))) h := by
 rw [Hg]
 have e : eqCells [.i, .i, .i, .i, .i, .i, .i, .i, .i] v.e.cells w.e.cells = some (decide (v = w)) := by
  obtain ⟨a1, a2, a3, a4, a5, a6, a7, a8, a9⟩ := v
  obtain ⟨b1, b2, b3, b4, b5, b6, b7, b8, b9⟩ := w
  simp [eqCells, Ev.e, Ev.cs, Ev.mk.injEq]
 unfold veqv
 rw [e]
 simp [Ev.e]
theorem LG {w : List Ev} (hl : w.length <= 1000000) : aD PP ff [.sl (w.map Ev.e), .sl (w.map Ev.e)] (· = .bool true) := by
 refine bc p9 (aA _ _ _) rfl (pW _ _ _) ?_
 (unfold lu; try dsimp only [xL, yL, xF, yF, xI, yI, xS, zI, zJ])
 simp only [kO, List.length_map, ↓cH, decide_true, Bool.not_true, ↓ae]
 refine ⟨fun _ _ => True, fun _ _ _ => bH.mpr rfl, ?_⟩
 (unfold iR; try dsimp only [xL, yL, xF, yF, xI, yI, xS, zI, zJ])
 refine ⟨fun k qs _ => ∃ i : Nat, qs = [.int .i64 (i : Int)] /\ k + i = w.length, w.length, ⟨0, rfl, by omega⟩, ?_⟩
 rintro k f h ⟨i, hf, hki⟩
 simp only [List.cons.injEq, and_true] at hf
 rw [hf, kO, List.length_map, bK]
 by_cases hi : i < w.length
 case neg => simp only [show ¬ ((i : Int) < (w.length : Int)) by omega, decide_false, ↓ae, ai, true_and]
 have hv := List.getElem?_eq_getElem hi
 simp only [show ((i : Int) < (w.length : Int)) by omega, decide_true, ↓af, ↓fO, ↓bO, ↓Rj hv, ↓SP, ↓PS, ↓Rk, Bool.not_true, ↓ae]
 rw [bt, GB (i := i) (by omega)]
 exact ⟨by simp, k - 1, by omega, i + 1, rfl, by omega⟩
structure Ta (it : It) : Prop where
 r : it.regs.length <= 1000
 p : Px it.priv
theorem Ie {it : It} (hb : Ta it) : aD PP iy [it.e, it.e] (· = .bool true) := by
 refine bc CD (aA _ _ _) rfl (Cj _ _ _) ?_
 (unfold xr; try dsimp only [xL, yL, xF, yF, xI, yI, xS, zI, zJ])
 rw [cT, jX NV (show it.e.cells.all D.one = true from rfl), jX (by simp) (show it.e.cells.all D.one = true from rfl)]
 obtain ⟨H, hH⟩ : ∃ H, H = LH.h ([] ++ [Slot.box it.e] ++ [.box it.e]) := ⟨_, rfl⟩
 rw [<- hH]
 have b0 : H 0 = .box (.agg it.cs) := by rw [hH]; rfl
 have b1 : H 1 = .box (.agg it.cs) := by rw [hH]; rfl
 have u0 : (H 0).used = true := by rw [b0]; rfl
 have u1 : (H 1).used = true := by rw [b1]; rfl
 have hr := hb.r
 simp only [List.length_nil, List.nil_append, List.length_singleton, ↓bf u0, ↓bf u1, Nat.zero_add, ↓eG b0 (j := 0) rfl, ↓eG b1 (j := 0) rfl, ↓eG b0 (j := 1) rfl, ↓eG b1 (j := 1) rfl, ↓eG b0 (j := 2) rfl, ↓eG b1 (j := 2) rfl, ↓eG b0 (j := 3) rfl, ↓eG b1 (j := 3) rfl, ↓eG b0 (j := 4) rfl, ↓eG b1 (j := 4) rfl, ↓aM, decide_true, ↓GD, ↓dY, true_and]
 refine ba (FU (by omega)) ⟨Fo, Fo, trivial⟩ ?_
 simp only [↓dY, ↓GD, ↓bf u0, ↓bf u1, Nat.zero_add, ↓eG b0 (j := 5) rfl, ↓eG b1 (j := 5) rfl, true_and]
 refine ba (GP hb.p) ⟨eR, eR, trivial⟩ ?_
 simp only [↓dY, ↓GD, ↓bf u0, ↓bf u1, Nat.zero_add, ↓eG b0 (j := 6) rfl, ↓eG b1 (j := 6) rfl, true_and]
 refine ba (FU (w := []) (by simp)) ⟨eR, eR, trivial⟩ ?_
 exact bH.mpr rfl
structure Uo (r : sO) : Prop where
 it : Ta r.it
 g : Px r.g
 s : Px r.s
 ev : r.ev.length <= 1000000
abbrev Lx (r : sO) : List D := [.int .i64 r.it.id, .int .i64 r.it.at_, .int .i64 r.it.block, .int .i64 r.it.epoch, words r.it.regs, aO r.it.priv, .sl [], aO r.g, aO r.s, .sl (r.ev.map Ev.e), .int .i64 r.e]
theorem Qh (r : sO) : (gq r).cells.all D.one = true := rfl
theorem sO.bZ (r : sO) : v7 (gq r) := cN (by simp [words, aO])
theorem Nu {n : Int} : aD PP lS [.int .i64 n] (· = (fQ n).e) := by
 refine bc EP (aA _ _ _) rfl (Ez _ _) ?_
 (unfold A4; try dsimp only [xL, yL, xF, yF, xI, yI, xS, zI, zJ])
 rw [cT]
 simp [gT, jY, h_stp, h_ldp, kF, xb, Dp, fv, fillD, cw]
 exact il (dQ.bZ ⟨2, n, 0⟩) rfl
theorem Nw {v : Int} : aD PP lT [.int .i32 v] (· = (Const v).e) := by
 refine bc ER (aA _ _ _) rfl (EA _ _) ?_
 (unfold A6; try dsimp only [xL, yL, xF, yF, xI, yI, xS, zI, zJ])
 rw [cT]
 simp [gT, jY, h_stp, h_ldp, kF, xb, Dp, fv, fillD, cw]
 exact il (dQ.bZ ⟨1, 0, v⟩) rfl
theorem QF {it : It} {o : dQ} (ho : vT it.regs.length o) : aD PP cM [it.e, o.e] (· = .int .i32 (aY it.regs o)) := by
 refine fR (Jy (KH := EH (· = .int .i32 (aY it.regs o))) (h := aJ) (dR := words it.regs) (by rfl) (Or.inl rfl) ho fun h' _ => ?_)
 exact dW (by simp) (by simp) (.refl _) (aK rfl).d rfl
section
variable {h0 h : Heap} {ro0 ro : Ro} {L : List (Nat × D)} {KH : HK}
theorem bJ.box (B : bJ h0 ro0 h ro L) {d : D} (ho : aw d) (hK : ∀ n h' ro', bJ h0 ro0 h' ro' ((n, d) :: L) -> KH (.ptr n 0 0) h') : ab PP (.box (.c d)) h KH := by
 rw [cC]
 exact ⟨ho, fun n t => hK n _ _ (B.push t.free d)⟩
theorem bJ.alloc (B : bJ h0 ro0 h ro L) {d : D} (hK : ∀ n h' ro', bJ h0 ro0 h' ro' ((n, d) :: L) -> KH (.ptr n 0 0) h') : ab PP (.alloc d) h KH := by
 rw [bQ]
 exact fun n t => hK n _ _ (B.push t.free d)
theorem bJ.mD (B : bJ h0 ro0 h ro L) (i : Nat) {n s : Nat} {cs cs' : List D} (hi : L[i]? = some (n, .agg cs)) (hl : cs.length = s) (hl' : cs'.length = s) (ho : ∀ x, x ∈ cs' -> x.one = true)
  (hK : ∀ h', bJ h0 ro0 h' ro (L.set i (n, .agg cs')) -> KH .undef h') : ab PP (.st (.c (.ptr n 0 0)) (.c (.agg cs')) s) h KH := by
 rw [Go.Am.mD (B.get i hi) hl hl' ho]
 exact hK _ (B.av i hi _)
theorem bJ.HX (B : bJ h0 ro0 h ro L) (i : Nat) {n j : Nat} {cs : List D} {d : D} (hi : L[i]? = some (n, .agg cs)) (hj : j < cs.length) (ho : d.one = true)
  (hK : ∀ h', bJ h0 ro0 h' ro (L.set i (n, .agg (cs.set j d))) -> KH .undef h') : ab PP (.st (.c (.ptr n 0 j)) (.c d) 1) h KH := by
 rw [Go.Am.HX (B.get i hi) hj ho]
 exact hK _ (B.av i hi _)
theorem bJ.dh (B : bJ h0 ro0 h ro L) (i : Nat) {n s : Nat} {d : D} (hi : L[i]? = some (n, d)) (hd : d = .agg d.cells) (hl : d.cells.length = s) : ab PP (.ld (.c (.ptr n 0 0)) s true) h KH = KH d h := by
 have := B.get i hi
 rw [hd] at this
 rw [<- hl, Go.Am.dh this, <- hd]
theorem bJ.qP (B : bJ h0 ro0 h ro L) (i : Nat) {n j s : Nat} {d e : D} (hi : L[i]? = some (n, d)) (he : D.agg ((d.cells.drop j).take s) = e) (hd : d = .agg d.cells) (hl : j + s <= d.cells.length) : ab PP (.ld (.c (.ptr n 0 j)) s true) h KH = KH e h := by
 have := B.get i hi
 rw [hd] at this
 rw [Go.Am.qP this hl, <- he]
theorem bJ.cP (B : bJ h0 ro0 h ro L) (i : Nat) {n j : Nat} {d e : D} (hi : L[i]? = some (n, d)) (he : d.cells[j]? = some e) (hd : d = .agg d.cells) : ab PP (.ld (.c (.ptr n 0 j)) 1 false) h KH = KH e h := by
 have := B.get i hi
 rw [hd] at this
 exact eG this he
end
abbrev qC : Ro := fun _ => mP.no
theorem bJ.start : bJ aJ qC aJ qC [] := bJ.nil
theorem om (l : dt) : aw l.e := List.all_eq_true.1 (dt.on l)
theorem dt.bZ (l : dt) : v7 l.e := cN (by simp [words])
theorem sG (r : sO) : aw (gq r) := List.all_eq_true.1 (Qh r)
theorem IC {c : Code} {l : dt} {r : sO} {av : Int} (hc : bq c) (hl : lF c l) (hi : NR c l r.it) (hg : gL c.arrays 1 r.g) (hs : gL c.arrays 2 r.s) :
  aD PP fo [c.e, l.e, gq r, .int .i64 av] (· = gq (dV c l r.it r.g r.s av)) := by
 refine bc CO (aA _ _ _) rfl (Cu _ _ _ _ _) ?_
 (unfold xJ; try dsimp only [xL, yL, xF, yF, xI, yI, xS, zI, zJ])
 refine bJ.start.box (ju c).2 fun n1 h1 ro1 B => ?_
 refine B.box (om l) fun n2 h2 ro2 B => ?_
 refine B.box (sG r) fun n3 h3 ro3 B => ?_
 refine B.alloc fun n4 h4 ro4 B => ?_
 have u := B.used 1 rfl
 simp only [B.dh (s := 8) 3 rfl rfl rfl, B.dh (s := 2) 2 rfl rfl rfl, ↓bf u, Nat.zero_add, B.qP 1 (j := 0) (s := 7) (e := r.it.e) rfl rfl rfl (Nat.le_of_ble_eq_true rfl), B.cP 1 (j := 7) rfl rfl rfl, B.cP 1 (j := 8) rfl rfl rfl]
 refine ba (QG hc hl hi hg hs) ⟨Code.bZ c, dt.bZ l, It.bZ _, eR, eR, bb, trivial⟩ ?_
 simp only [Qi, h_ext, List.getElem?_cons_succ, List.getElem?_cons_zero]
 refine B.alloc fun n5 h5 ro5 B => ?_
 obtain ⟨q, hq⟩ : ∃ q, q = dV c l r.it r.g r.s av := ⟨_, rfl⟩
 rw [<- hq]
 refine B.mD 0 (cs' := q.it.cs) rfl rfl rfl (It.bZ _).one fun h6 B => ?_
 rw [B.dh (s := 7) 0 rfl rfl rfl, cB rfl]
 refine B.mD 1 (cs' := Lx q) rfl rfl rfl (sG q) fun h7 B => ?_
 rw [B.dh (s := 11) 1 rfl rfl rfl]
 exact il (sO.bZ q) rfl
def nN : It := ⟨0, 0, 0, 0, [], []⟩
def fN (c : Code) (l : dt) (id : Int) : It × Int := if id < 0 \/ id ≥ l.groups * c.group then (nN, 1) else (bD c id 0 1, 0)
theorem zj {c : Code} {l : dt} {id : Int} (h : 0 <= id /\ id < l.groups * c.group) : fN c l id = (bD c id 0 1, 0) := if_neg (by omega)
def pa (p : It × Int) : D := .agg (p.1.cs ++ [.int .i64 p.2])
theorem lU (p : It × Int) : aw (pa p) := fun x hx => by simp [pa, It.cs, words, aO] at hx; rcases hx with rfl | rfl | rfl | rfl | rfl | rfl | rfl | rfl <;> rfl
theorem C3 (p : It × Int) : v7 (pa p) := cN (by simp [It.cs, words, aO])
theorem C5 {c : Code} {l : dt} (hc : bq c) (hl : lF c l) : IntKind.i64.wrap (l.groups * c.group) = l.groups * c.group /\ 1 <= l.groups * c.group /\ l.groups * c.group <= 512 := by
 have h1 := hl.n
 have h2 := hc.group
 have p1 : 1 * 1 <= l.groups * c.group := Int.mul_le_mul h1.1 h2.1 (by omega) (by omega)
 have p2 : l.groups * c.group <= 64 * 8 := Int.mul_le_mul h1.2 h2.2 (by omega) (by omega)
 exact ⟨wrap64 (by omega) (by omega), by omega, by omega⟩
abbrev O4 : List D := [.int .i64 0, .int .i64 0, .int .i64 0, .int .i64 0, .nil, .nil, .nil, .int .i64 0]
theorem OE {c : Code} {l : dt} {id : Int} (hc : bq c) (hl : lF c l) : aD PP nY [c.e, l.e, .int .i64 id] (· = .tup [(fN c l id).1.e, .int .i64 (fN c l id).2]) := by
 refine fR (aW CU (aA _ _ _) rfl (CA _ _ _ _) ?_)
 (unfold xR; try dsimp only [xL, yL, xF, yF, xI, yI, xS, zI, zJ])
 refine bJ.start.box (ju c).2 fun n1 h1 ro1 B => ?_
 refine B.box (om l) fun n2 h2 ro2 B => ?_
 refine B.alloc fun n3 h3 ro3 B => ?_
 have u1 := B.used 1 rfl
 have u2 := B.used 2 rfl
 obtain ⟨g1, g2, g3⟩ := C5 hc hl
 rw [bK]
 have bad : ∀ {L : List (Nat × D)} {ro : Ro}, fN c l id = (nN, 1) -> bJ aJ qC h3 ro ((n3, .agg D4) :: L) ->
   ab PP (.bld D4 []) h3 fun a44 h45 => ab PP (.st (.c (.ptr n3 0 0)) (.c a44) 7) h45 fun _ h47 => ab PP (.ld (.c (.ptr n3 0 0)) 7 true) h47 fun a48 _ =>
    EH (· = .tup [(fN c l id).1.e, .int .i64 (fN c l id).2]) (.tup [a48, .int .i64 1]) h47 := by
  intro L ro hp B
  rw [cB rfl]
  refine B.mD 0 (cs' := D4) rfl rfl rfl (by simp) fun h4 B => ?_
  rw [B.dh (s := 7) 0 rfl rfl rfl]
  rw [hp]
  refine mU (.refl _) (.cons (Bo.agg (.cons (aK rfl) (.cons (aK rfl) (.cons (aK rfl) (.cons (aK rfl) (.cons fu (.cons fu (.cons fu .nil)))))))) (.cons (aK rfl).d .nil)) rfl
 by_cases h1 : id < 0
 ·simp only [h1, decide_true, ↓MO, ↓dY, ↓af]
  exact bad (by simp [fN, h1]) B
 simp only [h1, decide_false, ↓Fi, ↓bf u1, ↓bf u2, Nat.zero_add, B.cP 1 (j := 0) rfl rfl rfl, B.cP 2 (j := 0) rfl rfl rfl]
 simp only [↓gf]
 rw [fT, g1, hY]
 by_cases h2 : id ≥ l.groups * c.group
 ·simp only [h2, decide_true, ↓af]
  exact bad (by simp [fN, h2]) B
 simp only [h2, decide_false, ↓ae, B.dh (s := 8) 2 rfl rfl rfl]
 refine ba (Jx hc) ⟨Code.bZ c, bb, bb, bb, trivial⟩ ?_
 refine B.mD 0 (cs' := (bD c id 0 1).cs) rfl rfl rfl (It.bZ _).one fun h4 B => ?_
 rw [B.dh (s := 7) 0 rfl rfl rfl]
 refine mU (.refl _) (.cons (iE (It.bZ _)) (.cons (aK rfl).d .nil)) ?_
 rw [zj ⟨by omega, by omega⟩]; rfl
theorem JD {c : Code} {l : dt} {id : Int} (hc : bq c) (hl : lF c l) : aD PP fM [c.e, l.e, .int .i64 id] (· = pa (fN c l id)) := by
 refine bc AA (aA _ _ _) rfl (Aj _ _ _ _) ?_
 (unfold tX; try dsimp only [xL, yL, xF, yF, xI, yI, xS, zI, zJ])
 refine bJ.start.box (ju c).2 fun n1 h1 ro1 B => ?_
 refine B.box (om l) fun n2 h2 ro2 B => ?_
 refine B.alloc fun n3 h3 ro3 B => ?_
 rw [B.dh (s := 8) 2 rfl rfl rfl, B.dh (s := 2) 1 rfl rfl rfl]
 refine ba (OE hc hl) ⟨Code.bZ c, dt.bZ l, bb, trivial⟩ ?_
 simp only [h_ext, List.getElem?_cons_succ, List.getElem?_cons_zero]
 generalize fN c l id = p
 refine B.alloc fun n5 h5 ro5 B => ?_
 refine B.mD 0 (cs' := p.1.cs) rfl rfl rfl (It.bZ _).one fun h6 B => ?_
 rw [B.dh (s := 7) 0 rfl rfl rfl, cB rfl]
 refine B.mD 1 (cs' := p.1.cs ++ [.int .i64 p.2]) rfl rfl rfl (fun x hx => lU p x hx) fun h7 B => ?_
 rw [B.dh (s := 8) 1 rfl rfl rfl]
 exact il (C3 p) rfl
theorem Kj {c : Code} {l : dt} {id : Int} (hc : bq c) (hl : lF c l) : aD PP jK [c.e, l.e, .int .i64 id] (· = pa (fN c l id)) := by
 refine fR (aW vU (aA _ _ _) rfl (vM _ _ _ _) ?_)
 (unfold pc; try dsimp only [xL, yL, xF, yF, xI, yI, xS, zI, zJ])
 refine bJ.start.box (ju c).2 fun n1 h1 ro1 B => ?_
 refine B.box (om l) fun n2 h2 ro2 B => ?_
 refine B.alloc fun n3 h3 ro3 B => ?_
 have u1 := B.used 1 rfl
 have u2 := B.used 2 rfl
 obtain ⟨g1, g2, g3⟩ := C5 hc hl
 have hcr := hc.regs
 have hcs := hc.slots
 rw [bK]
 have bad : ∀ {L : List (Nat × D)} {ro : Ro}, fN c l id = (nN, 1) -> bJ aJ qC h3 ro ((n3, .agg O4) :: L) ->
   ab PP (.bld O4 [(7, 1, (.c (.int .i64 1)))]) h3 fun a44 h45 => ab PP (.st (.c (.ptr n3 0 0)) (.c a44) 8) h45 fun _ h47 => ab PP (.ld (.c (.ptr n3 0 0)) 8 true) h47 fun a48 _ =>
    EH (· = pa (fN c l id)) a48 h47 := by
  intro L ro hp B
  rw [cB rfl]
  refine B.mD 0 (cs' := [.int .i64 0, .int .i64 0, .int .i64 0, .int .i64 0, .nil, .nil, .nil, .int .i64 1]) rfl rfl rfl (by simp) fun h4 B => ?_
  rw [B.dh (s := 8) 0 rfl rfl rfl]
  rw [hp]
  exact dW (by simp) (by simp [pa]) (.refl _) (Bo.agg (.cons (aK rfl) (.cons (aK rfl) (.cons (aK rfl) (.cons (aK rfl) (.cons fu (.cons fu (.cons fu (.cons (aK rfl) .nil))))))))) rfl
 by_cases h1 : id < 0
 ·simp only [h1, decide_true, ↓MO, ↓dY, ↓af]
  exact bad (by simp [fN, h1]) B
 simp only [h1, decide_false, ↓Fi, ↓bf u1, ↓bf u2, Nat.zero_add, B.cP 1 (j := 0) rfl rfl rfl, B.cP 2 (j := 0) rfl rfl rfl]
 simp only [↓gf]
 rw [fT, g1, hY]
 by_cases h2 : id ≥ l.groups * c.group
 ·simp only [h2, decide_true, ↓af]
  exact bad (by simp [fN, h2]) B
 have hmk : ∀ {K : D -> Prop} {n : Int}, 0 <= n -> n <= 1000 -> K (words (List.replicate n.toNat 0)) -> au PP (.mk 1 4 (.int .i32 0) (.c (.int .i64 n)) (.c (.int .i64 n))) h3 K := fun {K n} a1 a2 hk =>
  ⟨⟨a1, by omega, by omega, by omega⟩, ⟨rfl, by simp⟩, by rw [zm]; exact hk⟩
 simp only [h2, decide_false, ↓ae, ↓aH, u2, Nat.zero_add, ↓bO, B.cP 2 (j := 2) rfl rfl rfl, true_and]
 refine hmk (by omega) (by omega) ?_
 simp only [↓aH, u2, Nat.zero_add, ↓bO, B.cP 2 (j := 5) rfl rfl rfl, true_and]
 refine ir (Im hc 3) ⟨eR, bb, trivial⟩ ?_
 simp only [↓aH, u2, Nat.zero_add, ↓bO, B.cP 2 (j := 3) rfl rfl rfl, true_and]
 refine hmk (by omega) (by omega) ?_
 rw [jt rfl, jt rfl]
 have e : ∀ d : D, d = pa (bD c id 0 1, 0) -> ab PP (.st (.c (.ptr n3 0 0)) (.c d) 8) h3 fun _ h61 => ab PP (.ld (.c (.ptr n3 0 0)) 8 true) h61 fun a62 _ => EH (· = pa (fN c l id)) a62 h61 := by
  rintro _ rfl
  refine B.mD 0 (cs' := (bD c id 0 1).cs ++ [.int .i64 0]) rfl rfl rfl (fun x hx => lU (bD c id 0 1, 0) x hx) fun h4 B => ?_
  rw [B.dh (s := 8) 0 rfl rfl rfl]
  refine dW (by simp) (by simp [pa]) (.refl _) (iE (C3 (bD c id 0 1, 0))) ?_
  exact congrArg pa (zj ⟨by omega, by omega⟩).symm
 exact e _ (by rw [hcs]; rfl)
end Go.Am
namespace Go.Am
open Go
section
variable {h0 h : Heap} {ro0 ro : Ro} {L : List (Nat × D)} {KH : HK}
theorem bJ.I7 (B : bJ h0 ro0 h ro L) {d : D} (hK : ∀ n h' ro', cE h ro h' ro' -> bJ h0 ro0 h' ro' ((n, d) :: L) -> KH (.ptr n 0 0) h') : ab PP (.alloc d) h KH := by
 rw [bQ]
 exact fun n t => hK n _ _ (cE.new t.free _) (B.push t.free d)
theorem bJ.Kf (B : bJ h0 ro0 h ro L) (i : Nat) {n s : Nat} {cs cs' : List D} (hi : L[i]? = some (n, .agg cs)) (hl : cs.length = s) (hl' : cs'.length = s) (ho : ∀ x, x ∈ cs' -> x.one = true)
  (hK : ∀ h', cE h ro h' ro -> bJ h0 ro0 h' ro (L.set i (n, .agg cs')) -> KH .undef h') : ab PP (.st (.c (.ptr n 0 0)) (.c (.agg cs')) s) h KH := by
 rw [Go.Am.mD (B.get i hi) hl hl' ho]
 exact hK _ (cE.av (by rw [B.rn i hi]; rfl)) (B.av i hi _)
theorem bJ.Ia (B : bJ h0 ro0 h ro L) (i : Nat) {n j : Nat} {cs : List D} {d : D} (hi : L[i]? = some (n, .agg cs)) (hj : j < cs.length) (ho : d.one = true)
  (hK : ∀ h', cE h ro h' ro -> bJ h0 ro0 h' ro (L.set i (n, .agg (cs.set j d))) -> KH .undef h') : ab PP (.st (.c (.ptr n 0 j)) (.c d) 1) h KH := by
 rw [Go.Am.HX (B.get i hi) hj ho]
 exact hK _ (cE.av (by rw [B.rn i hi]; rfl)) (B.av i hi _)
theorem bJ.SB (B : bJ h0 ro0 h ro L) (i : Nat) {n j : Nat} {a : Int} {d : D} (hi : L[i]? = some (n, d)) (ha : 0 <= a /\ a < 2) : ab PP (.iadda (.c (.ptr n 0 j)) (.c (.int .i64 a)) 2 1) h KH = KH (.ptr n 0 (j + a.toNat)) h :=
 Hb (i := a.toNat) (by omega) (by omega) (B.get i hi)
theorem Ig {q i : Nat} {w : List Int} {v : Int} (hq : h q = .arr 1 (wr w)) (hi : i < w.length) (hK : KH .undef (ah h q (.arr 1 (wr (w.set i v))))) :
  ab PP (.iadd (.c (.ms q 0 w.length)) (.c (.int .i64 (i : Int))) 1) h fun a h1 => ab PP (.st (.c a) (.c (.int .i32 v)) 1) h1 KH := by
 simp only [↓bN, hq, Slot.row]
 refine ⟨by omega, by omega, ⟨_, rfl⟩, ?_⟩
 rw [dq, hq]
 refine ⟨rfl, by simp, by simp [wr]; omega, by simp, fun d hd => ?_⟩
 have e : setCells d 0 (D.int .i32 v).cells = .int .i32 v := by
  rw [Db, Option.map_eq_some_iff] at hd
  obtain ⟨z, -, rfl⟩ := hd
  rfl
 rw [e, show 0 + ((i : Int)).toNat = i by omega, Da]
 exact hK
end
theorem p6.f1 {h : Heap} {ro : Ro} {r : mP} {d : D} {w : List Int} (x : p6 h ro r d w) : yl h d (words w) := by
 rcases x with rfl | ⟨q, rfl, h2, -⟩
 ·exact aK rfl
 ·have := db h2 (JY w)
  rw [mC] at this; exact this
theorem p6.one {h : Heap} {ro : Ro} {r : mP} {d : D} {w : List Int} (x : p6 h ro r d w) : d.one = true := by rcases x with rfl | ⟨q, rfl, -, -⟩ <;> rfl
theorem GG.dst {N : Nat} {R : Int} {t : Term} (h : GG N R t) (h4 : t.kind = 4) : ∃ r : Nat, t.d.n = (r : Int) /\ (r : Int) < R := by
 cases h with
 | collect s d a b t hs hd ha hb h =>
  obtain ⟨r, r1, r2, rfl⟩ := hd
  exact ⟨r.toNat, (by show r = _; omega), by omega⟩
 | _ => simp at h4
theorem qB {c : Code} {it : It} {v : Int} (h : it.at_ ≠ 2) : jW c it v = (it, 1) := if_pos h
theorem kL {c : Code} {it : It} {v : Int} (h : it.at_ = 2) : jW c it v = (⟨it.id, 1, (fy c it.block).to0, it.epoch, if (fy c it.block).kind = 4 then it.regs.set (fy c it.block).d.n.toNat v else it.regs, it.priv⟩, 0) := by
 unfold jW; rw [if_neg (by simp [h])]
theorem QH {c : Code} {l : dt} {it : It} {v : Int} (hc : bq c) (hi : NR c l it) : aD PP qI [c.e, it.e, .int .i32 v] (· = .tup [(jW c it v).1.e, .int .i64 (jW c it v).2]) := by
 refine fR (aW EW (aA _ _ _) rfl (EF _ _ _ _) ?_)
 (unfold Bb; try dsimp only [xL, yL, xF, yF, xI, yI, xS, zI, zJ])
 refine bJ.start.box (ju c).2 fun n1 h1 ro1 B => ?_
 refine B.box it.bZ.one fun n2 h2 ro2 B => ?_
 refine B.alloc fun n3 h3 ro3 B => ?_
 have u1 := B.used 1 rfl
 have u2 := B.used 2 rfl
 simp only [↓bf u1, Nat.zero_add, B.cP 1 (j := 1) rfl rfl rfl, ↓cH]
 by_cases ha : it.at_ = 2
 case neg =>
  simp only [ha, decide_false, Bool.not_false, ↓af, B.dh (s := 7) 1 rfl rfl rfl]
  refine B.mD 0 (cs' := it.cs) rfl rfl rfl (It.bZ _).one fun h4 B => ?_
  rw [B.dh (s := 7) 0 rfl rfl rfl, qB ha]
  exact mU (.refl _) (.cons (iE (It.bZ _)) (.cons (aK rfl).d .nil)) rfl
 obtain ⟨k, Q, hbk, hQ, hQm, ht, -⟩ := hc.Nz hi.block
 obtain ⟨-, -, hT⟩ := hc.xs Q hQm
 have hat : ∀ {g' : Heap} {K : HK}, ab PP (.iadd (.c (.sl (c.b.map Block.e))) (.c (.int .i64 it.block)) 14) g' K = K (.vp Q.e 0) g' := fun {g' K} => by rw [hbk, rh hQ]
 simp only [ha, decide_true, Bool.not_true, ↓ae, ↓bf u1, ↓bf u2, Nat.zero_add, B.cP 2 (j := 7) rfl rfl rfl, B.cP 1 (j := 2) rfl rfl rfl, hat, ↓jk, ↓HC]
 refine B.alloc fun n4 h4 ro4 B => ?_
 refine B.mD 0 (cs' := Q.t.cs) rfl rfl rfl (Term.bZ _).one fun h5 B => ?_
 have u1 := B.used 2 rfl
 have u0 := B.used 0 rfl
 simp only [↓aH, u1, u0, Nat.zero_add, Nat.add_zero, true_and, ↓C8, B.SB 0 (j := 11) (a := 0) rfl ⟨by omega, by omega⟩, ↓bO, Int.toNat_zero, B.cP 0 (j := 11) rfl rfl rfl]
 refine B.HX 2 (cs := it.cs) rfl (by simp [It.cs]) rfl fun h6 B => ?_
 simp only [B.SB 0 (j := 11) (a := 0) rfl ⟨by omega, by omega⟩, ↓bO, Int.toNat_zero, Nat.add_zero, B.cP 0 (j := 11) rfl rfl rfl, ai, true_and, and_true]
 refine B.HX 2 (cs := it.cs.set 1 (.int .i64 1)) rfl (by simp [It.cs]) rfl fun h7 B => ?_
 simp only [B.SB 0 (j := 11) (a := 0) rfl ⟨by omega, by omega⟩, ↓bO, Int.toNat_zero, Nat.add_zero, B.cP 0 (j := 11) rfl rfl rfl, ai, true_and, and_true]
 have B : bJ aJ qC h7 ro4 [(n4, Q.t.e), (n3, .agg D4), (n2, .agg [.int .i64 it.id, .int .i64 1, .int .i64 Q.t.to0, .int .i64 it.epoch, words it.regs, aO it.priv, .sl []]), (n1, c.e)] := B
 refine ⟨fun _ h' => ∃ (ro' : Ro) (dR : D) (w : List Int), bJ aJ qC h' ro' [(n4, Q.t.e), (n3, .agg D4), (n2, .agg [.int .i64 it.id, .int .i64 1, .int .i64 Q.t.to0, .int .i64 it.epoch, dR, aO it.priv, .sl []]), (n1, c.e)] /\ p6 h' ro' .regs dR w /\
  jW c it v = (⟨it.id, 1, Q.t.to0, it.epoch, w, it.priv⟩, 0), ?_, ?_⟩
 ·rintro _ h' ⟨ro', dR, w, B, R, hp⟩
  have oR := R.one
  rw [B.dh (s := 7) 2 rfl rfl rfl]
  refine B.Kf 1 (cs' := [.int .i64 it.id, .int .i64 1, .int .i64 Q.t.to0, .int .i64 it.epoch, dR, aO it.priv, .sl []]) rfl rfl rfl (by simp [oR, aO]) fun h8 kp B => ?_
  rw [B.dh (s := 7) 1 rfl rfl rfl, hp]
  have R := R.aB kp rfl
  exact mU (.refl _) (.cons (Bo.agg (.cons (aK rfl) (.cons (aK rfl) (.cons (aK rfl) (.cons (aK rfl) (.cons R.f1 (.cons (aK rfl) (.cons (aK rfl) .nil)))))))) (.cons (aK rfl).d .nil)) rfl
 have u0 := B.used 0 rfl
 have u1 := B.used 2 rfl
 simp only [↓bf u0, Nat.zero_add, B.cP 0 (j := 0) rfl rfl rfl, ↓aM]
 by_cases h4 : Q.t.kind = 4
 case neg =>
  simp only [h4, decide_false, ↓ae, ai, true_and]
  exact ⟨ro4, words it.regs, it.regs, B, Or.inl rfl, by rw [kL ha, ht, if_neg h4]⟩
 obtain ⟨r, hr1, hr2⟩ := hT.dst h4
 have hrl := hi.len
 have hcr := hc.regs
 simp only [h4, decide_true, ↓af, ↓bf u1, Nat.zero_add, B.cP 2 (j := 4) rfl rfl rfl]
 refine FZ (w := it.regs) (by rintro e; rw [e] at hrl; simp at hrl; omega) (by omega) fun q h8 hq hq2 hk8 => ?_
 have x8 : eW h7 ro4 h8 (ah ro4 q .regs) := fun k hk => ⟨hk8 k hk, aa _ _ (by rintro rfl; exact hk hq)⟩
 have B := B.step x8.fr
 have rq : ah ro4 q .regs q = .regs := ad _ _ _
 generalize ah ro4 q .regs = ro8 at B rq x8
 simp only [↓bf (B.used 2 rfl), Nat.zero_add]
 refine B.Ia 2 (j := 4) rfl (by simp) rfl fun h9 kp B => ?_
 have hq9 : h9 q = .arr 1 (wr it.regs) := by rw [(kp q (by rw [hq2]; simp) (by rw [rq]; rfl)).1]; exact hq2
 simp only [↓bf (B.used 2 rfl), ↓bf (B.used 0 rfl), Nat.zero_add, Nat.reduceAdd, B.cP 2 (j := 4) rfl rfl rfl, B.cP 0 (j := 3) rfl rfl rfl, hr1]
 refine Ig (w := it.regs) hq9 (by omega) ?_
 refine ⟨ro8, .ms q 0 it.regs.length, it.regs.set r v, B.step (Fr.av (by rw [rq]; simp) (by simp)), Or.inr ⟨q, by simp, ad _ _ _, rq⟩, ?_⟩
 rw [kL ha, ht, if_pos h4, hr1]; rfl
theorem MG {c : Code} {l : dt} {it : It} {v : Int} (hc : bq c) (hi : NR c l it) : aD PP iB [c.e, it.e, .int .i32 v] (· = pa (jW c it v)) := by
 refine bc CP (aA _ _ _) rfl (Cv _ _ _ _) ?_
 (unfold xM; try dsimp only [xL, yL, xF, yF, xI, yI, xS, zI, zJ])
 refine bJ.start.box (ju c).2 fun n1 h1 ro1 B => ?_
 refine B.box it.bZ.one fun n2 h2 ro2 B => ?_
 refine B.alloc fun n3 h3 ro3 B => ?_
 rw [B.dh (s := 8) 2 rfl rfl rfl, B.dh (s := 7) 1 rfl rfl rfl]
 refine ba (QH hc hi) ⟨Code.bZ c, It.bZ it, bb, trivial⟩ ?_
 simp only [h_ext, List.getElem?_cons_succ, List.getElem?_cons_zero]
 generalize jW c it v = p
 refine B.alloc fun n5 h5 ro5 B => ?_
 refine B.mD 0 (cs' := p.1.cs) rfl rfl rfl (It.bZ _).one fun h6 B => ?_
 rw [B.dh (s := 7) 0 rfl rfl rfl, cB rfl]
 refine B.mD 1 (cs' := p.1.cs ++ [.int .i64 p.2]) rfl rfl rfl (fun x hx => lU p x hx) fun h7 B => ?_
 rw [B.dh (s := 8) 1 rfl rfl rfl]
 exact il (C3 p) rfl
theorem Sz {h : Heap} {ro : Ro} {dR dP dL : D} {w : List Int} {m : Mm} (R : oM h ro dR w) (P : p8 h ro 3 dP m) (S : HU h ro dL) : ∃ h'', FM h h'' /\ yl h'' dR (words w) /\ yl h'' dP (aO m) /\ yl h'' dL (.sl []) := by
 obtain ⟨k, els, rfl, y⟩ := P
 obtain ⟨p1, p2, p3⟩ := y.II
 have far : ∀ j, (ro j = .regs \/ ro j = .sl) -> dB h k 1 els j = h j := fun j hj => p3 j (fun i e => by rw [e] at hj; simp at hj) (by rintro rfl; rw [y.rk] at hj; simp at hj)
 refine ⟨dB h k 1 els, .step y.hk p1 (.refl _), ?_, ?_, ?_⟩
 ·obtain ⟨q, rfl, g1, g2⟩ := R
  have := db (h := dB h k 1 els) (n := q) (e := 1) (els := wr w) (by rw [far q (Or.inl g2)]; exact g1) (JY _)
  rw [mC] at this
  exact this
 ·have := db (h := dB h k 1 els) (n := k) (e := 1) (els := m.map words) (by rw [jb, p2]) (fun z hz w hw => by
   simp only [List.mem_map] at hz
   obtain ⟨z, -, rfl⟩ := hz
   simp [words] at hw; subst hw; rfl)
  rw [List.length_map] at this
  exact this
 ·rcases S with rfl | rfl | ⟨q, rfl, g1, g2⟩
  ·exact fu
  ·exact aK rfl
  ·exact db (els := []) (by rw [far q (Or.inr g2)]; exact g1) (by simp)
theorem L0 {c : Code} {l : dt} {it : It} {v : Int} (hc : bq c) (hi : NR c l it) : aD PP kV [c.e, it.e, .int .i32 v] (· = pa (jW c it v)) := by
 refine fR (aW yw (aA _ _ _) rfl (xt _ _ _ _) ?_)
 (unfold rD; try dsimp only [xL, yL, xF, yF, xI, yI, xS, zI, zJ])
 refine bJ.start.box (ju c).2 fun n1 h1 ro1 B => ?_
 refine B.box it.bZ.one fun n2 h2 ro2 B => ?_
 refine B.alloc fun n3 h3 ro3 B => ?_
 have u1 := B.used 1 rfl
 have u2 := B.used 2 rfl
 simp only [↓bf u1, Nat.zero_add, B.cP 1 (j := 1) rfl rfl rfl, ↓cH]
 by_cases ha : it.at_ = 2
 case neg =>
  simp only [ha, decide_false, Bool.not_false, ↓af, B.dh (s := 7) 1 rfl rfl rfl]
  rw [cB rfl]
  refine B.mD 0 (cs' := it.cs ++ [.int .i64 1]) rfl rfl rfl (fun x hx => lU (it, 1) x hx) fun h4 B => ?_
  rw [B.dh (s := 8) 0 rfl rfl rfl, qB ha]
  exact dW (by simp) (by simp [pa]) (.refl _) (iE (C3 (it, 1))) rfl
 obtain ⟨k, Q, hbk, hQ, hQm, ht, -⟩ := hc.Nz hi.block
 obtain ⟨-, -, hT⟩ := hc.xs Q hQm
 have hat : ∀ {g' : Heap} {K : HK}, ab PP (.iadd (.c (.sl (c.b.map Block.e))) (.c (.int .i64 it.block)) 14) g' K = K (.vp Q.e 0) g' := fun {g' K} => by rw [hbk, rh hQ]
 simp only [ha, decide_true, Bool.not_true, ↓ae, ↓bf u1, ↓bf u2, Nat.zero_add, B.cP 2 (j := 7) rfl rfl rfl, B.cP 1 (j := 2) rfl rfl rfl, hat, ↓jk, ↓HC]
 refine B.alloc fun n4 h4 ro4 B => ?_
 refine B.mD 0 (cs' := Q.t.cs) rfl rfl rfl (Term.bZ _).one fun h5 B => ?_
 rw [B.dh (s := 7) 2 rfl rfl rfl]
 have hrl := hi.len
 have hcr := hc.regs
 refine DR (ro := ro4) (it := it) (by omega) (hi.priv.b hc) fun dR dP dL h6 ro6 x6 R6 P6 L6 => ?_
 have B := B.step x6.fr
 have oR := R6.one
 have oP := P6.one
 have oL := L6.one
 refine B.I7 fun n5 h7 ro7 kp B => ?_
 have R7 := R6.aB kp
 have P7 := P6.aB kp
 have L7 := L6.aB kp
 refine B.Kf 0 (cs' := oq it dR dP dL) rfl rfl rfl (by simp [oR, oP, oL]) fun h8 kp B => ?_
 have R8 := R7.aB kp
 have P8 := P7.aB kp
 have L8 := L7.aB kp
 have B : bJ aJ qC h8 ro7 [(n5, .agg (oq it dR dP dL)), (n4, Q.t.e), (n3, .agg O4), (n2, it.e), (n1, c.e)] := B
 refine ⟨fun _ h' => ∃ (ro' : Ro) (w : List Int), bJ aJ qC h' ro' [(n5, .agg (oq it dR dP dL)), (n4, Q.t.e), (n3, .agg O4), (n2, it.e), (n1, c.e)] /\ oM h' ro' dR w /\ p8 h' ro' 3 dP it.priv /\ HU h' ro' dL /\
  jW c it v = (⟨it.id, 1, Q.t.to0, it.epoch, w, it.priv⟩, 0), ?_, ?_⟩
 ·rintro _ h' ⟨ro', w, B, R, P, S, hp⟩
  simp only [↓bf (B.used 0 rfl), Nat.zero_add]
  refine B.Ia 0 (j := 1) rfl (by simp) rfl fun h9 kp B => ?_
  have R := R.aB kp
  have P := P.aB kp
  have S := S.aB kp
  simp only [↓bf (B.used 1 rfl), Nat.zero_add, B.SB 1 (j := 11) (a := 0) rfl ⟨by omega, by omega⟩, Int.toNat_zero, Nat.add_zero, B.cP 1 (j := 11) rfl rfl rfl, ↓bf (B.used 0 rfl)]
  refine B.Ia 0 (j := 2) rfl (by simp) rfl fun h10 kp B => ?_
  have R := R.aB kp
  have P := P.aB kp
  have S := S.aB kp
  rw [B.dh (s := 7) (d := .agg [.int .i64 it.id, .int .i64 1, .int .i64 Q.t.to0, .int .i64 it.epoch, dR, dP, dL]) 0 rfl rfl rfl, jY]
  refine ⟨fun p hp => ?_, ?_⟩
  ·simp only [List.map_cons, List.map_nil, List.mem_cons, List.not_mem_nil, or_false, MP] at hp
   subst hp
   exact ⟨rfl, by simp, by simp [oR, oP, oL]⟩
  refine B.Kf 2 (cs' := [.int .i64 it.id, .int .i64 1, .int .i64 Q.t.to0, .int .i64 it.epoch, dR, dP, dL, .int .i64 0]) rfl rfl rfl (by simp [oR, oP, oL]) fun h11 kp B => ?_
  have R := R.aB kp
  have P := P.aB kp
  have S := S.aB kp
  rw [B.dh (s := 8) 2 rfl rfl rfl, hp]
  obtain ⟨h12, i1, i2, i3, i4⟩ := Sz R P S
  exact dW (by simp) (by simp [pa]) i1 (Bo.agg (.cons (aK rfl) (.cons (aK rfl) (.cons (aK rfl) (.cons (aK rfl) (.cons i2 (.cons i3 (.cons i4 (.cons (aK rfl) .nil))))))))) rfl
 simp only [↓bf (B.used 1 rfl), Nat.zero_add, B.cP 1 (j := 0) rfl rfl rfl, ↓aM]
 by_cases h4 : Q.t.kind = 4
 case neg =>
  simp only [h4, decide_false, ↓ae, ai, true_and]
  exact ⟨ro7, it.regs, B, R8, P8.r, L8, by rw [kL ha, ht, if_neg h4]⟩
 obtain ⟨r, hr1, hr2⟩ := hT.dst h4
 simp only [h4, decide_true, ↓af, ↓bf (B.used 0 rfl), ↓bf (B.used 1 rfl), Nat.zero_add, Nat.reduceAdd, B.cP 0 (j := 4) rfl rfl rfl, B.cP 1 (j := 3) rfl rfl rfl, hr1]
 obtain ⟨q, rfl, hq2, rq⟩ := R8
 refine Ig (w := it.regs) hq2 (by omega) ?_
 have kq : jC (fun r => r ≠ .regs) h8 ro7 (ah h8 q (.arr 1 (wr (it.regs.set r v)))) ro7 := fun k _ hr => by
  rw [aa _ _ (by rintro rfl; exact hr rq)]; exact ⟨rfl, rfl⟩
 refine ⟨ai.symm ▸ trivial, ro7, it.regs.set r v, B.step (Fr.av (by rw [rq]; simp) (by simp)), ⟨q, by simp, ad _ _ _, rq⟩, (P8.cV kq (by simp) (by simp)).r, ?_, ?_⟩
 ·rcases L8 with rfl | rfl | ⟨p, rfl, g1, g2⟩
  ·exact Or.inl rfl
  ·exact Or.inr (Or.inl rfl)
  ·exact Or.inr (Or.inr ⟨p, rfl, by rw [aa _ _ (by rintro rfl; rw [rq] at g2; cases g2)]; exact g1, g2⟩)
 rw [kL ha, ht, if_pos h4, hr1]; rfl
end Go.Am
namespace Go.Am
open Go
theorem bJ.tail {h0 h : Heap} {ro0 ro : Ro} {L : List (Nat × D)} {p : Nat × D} (B : bJ h0 ro0 h ro (p :: L)) : bJ h0 ro0 h ro L :=
 ⟨(List.nodup_cons.1 B.nd).2, fun x hx => B.at_ x (List.mem_cons_of_mem _ hx), B.fr⟩
def eZ (a : bM) : bM := { a with len := max (a.len / 2) 1 }
def lQ (c : Code) : Code := { c with arrays := c.arrays.map eZ }
theorem Iv {α : Type} (f : α -> α) (l : List α) (i : Nat) (h : i < l.length) : ((l.take i).map f ++ l.drop i).set i (f l[i]) = (l.take (i + 1)).map f ++ l.drop (i + 1) := by
 have e : (l.take i).length = i := List.length_take_of_le (by omega)
 rw [List.drop_eq_getElem_cons h, List.set_append_right _ _ (by rw [List.length_map, e]; exact Nat.le_refl _), List.length_map, e, Nat.sub_self, List.set_cons_zero, List.take_add_one, List.getElem?_eq_getElem h]
 simp only [Option.toList_some, List.map_append, List.map_cons, List.map_nil, List.append_assoc, List.singleton_append]
theorem Kq {α : Type} (f : α -> α) (l : List α) (i : Nat) (h : i < l.length) : ((l.take i).map f ++ l.drop i)[i]? = some l[i] := by
 have e : (l.take i).length = i := List.length_take_of_le (by omega)
 rw [List.getElem?_append_right (by rw [List.length_map, e]; exact Nat.le_refl _), List.length_map, e, Nat.sub_self, List.getElem?_drop]
 simp [List.getElem?_eq_getElem h]
theorem Iw {α : Type} (f : α -> α) (l : List α) (i : Nat) : ((l.take i).map f ++ l.drop i).length = l.length := by simp; omega
abbrev c0 : List D := [.int .i64 0, .int .i64 0, .int .i64 0, .int .i64 0, .int .i64 0, .nil, .nil, .nil]
theorem PV (l : List bM) : ∀ x, x ∈ l.map bM.e -> ∀ y ∈ x.cells, y.vone = true := fun x hx y hy => by
 simp only [List.mem_map] at hx
 obtain ⟨z, -, rfl⟩ := hx
 simp [bM.e] at hy
 rcases hy with rfl | rfl | rfl | rfl <;> rfl
theorem Kp {h : Heap} {q i : Nat} {l : List bM} {a : bM} (hq : h q = .arr 4 (l.map bM.e)) (ha : l[i]? = some a) {KH : HK} :
  ab PP (.iadd (.c (.ms q 0 l.length)) (.c (.int .i64 (i : Int))) 4) h (fun x h1 => ab PP (.ld (.c x) 4 true) h1 KH) = KH a.e h := by
 have hi := (List.getElem?_eq_some_iff.1 ha).1
 rw [bN, hq, lk, hq]
 apply propext
 constructor
 ·rintro ⟨-, -, -, -, h⟩
  have := h a.e (by rw [show 0 + ((i : Int)).toNat = i by omega, List.getElem?_map, ha]; rfl)
  simpa [cw, bM.e] using this
 ·intro hk
  refine ⟨by omega, by omega, ⟨_, rfl⟩, by simp; omega, fun d hd => ?_⟩
  rw [show 0 + ((i : Int)).toNat = i by omega, List.getElem?_map, ha] at hd
  cases hd
  simpa [cw, bM.e] using hk
theorem Ko {h : Heap} {q i : Nat} {l : List bM} {a : bM} (hq : h q = .arr 4 (l.map bM.e)) (hi : i < l.length) {KH : HK} (hK : KH .undef (ah h q (.arr 4 ((l.set i a).map bM.e)))) :
  ab PP (.iadd (.c (.ms q 0 l.length)) (.c (.int .i64 (i : Int))) 4) h (fun x h1 => ab PP (.st (.c x) (.c a.e) 4) h1 KH) := by
 simp only [↓bN, hq, Slot.row]
 refine ⟨by omega, by omega, ⟨_, rfl⟩, ?_⟩
 rw [dq, hq]
 refine ⟨rfl, (bM.bZ a).one, by simp; omega, by simp, fun d hd => ?_⟩
 rw [show 0 + ((i : Int)).toNat = i by omega] at hd ⊢
 rw [List.getElem?_map, Option.map_eq_some_iff] at hd
 obtain ⟨b, -, rfl⟩ := hd
 have e : setCells b.e 0 a.e.cells = a.e := rfl
 rw [e, <- List.map_set]
 exact hK
theorem L1 {c : Code} (hc : bq c) : aD PP kW [c.e] (· = (lQ c).e) := by
 refine fR (aW yx (aA _ _ _) rfl (xu _ _) ?_)
 (unfold rE; try dsimp only [xL, yL, xF, yF, xI, yI, xS, zI, zJ])
 refine bJ.start.box (ju c).2 fun n1 h1 ro1 B => ?_
 refine B.alloc fun n2 h2 ro2 B => ?_
 refine qR fun n3 t3 => ?_
 have hnf := t3.free
 have B := B.step (Fr.new (ro := ro2) hnf .ev (s := .arr 4 []))
 simp only [↓bf (B.used 1 rfl), Nat.zero_add, B.cP 1 (j := 5) rfl rfl rfl]
 have hna := hc.nar
 have h3 : ah h2 n3 (.arr 4 []) n3 = .arr 4 [] := ad _ _ _
 have r3 : ah ro2 n3 .ev n3 = .ev := ad _ _ _
 generalize ah h2 n3 (.arr 4 []) = hA at B h3
 generalize ah ro2 n3 .ev = roA at B r3
 refine ⟨fun y hy => ?_, fun y hy => ?_, [], h3, rfl, rfl, ⟨?_, ?_⟩, fun q t => ?_⟩
 ·simp only [List.mem_map] at hy; obtain ⟨z, -, rfl⟩ := hy; rfl
 ·simp only [List.mem_map] at hy; obtain ⟨z, -, rfl⟩ := hy; exact (bM.bZ z).one
 ·simp; omega
 ·simp; omega
 have hqn := t.free
 have nq : q ≠ n3 := by rintro rfl; rw [h3] at hqn; cases hqn
 have B := (B.step (Fr.av (n := n3) (s := .dead) (by rw [r3]; simp) (by simp))).step (Fr.new (by rw [aa _ _ nq]; exact hqn) .ev (s := .arr 4 ([] ++ c.arrays.map bM.e)))
 have hq : ah (ah hA n3 .dead) q (.arr 4 ([] ++ c.arrays.map bM.e)) q = .arr 4 (c.arrays.map bM.e) := ad _ _ _
 have rq : ah roA q .ev q = .ev := ad _ _ _
 generalize ah (ah hA n3 .dead) q (.arr 4 ([] ++ c.arrays.map bM.e)) = hB at B hq
 generalize ah roA q .ev = roB at B rq
 simp only [List.length_nil, List.length_map, Nat.zero_add]
 refine ⟨fun _ h' => ∃ ro', bJ aJ qC h' ro' [(n2, .agg c0), (n1, c.e)] /\ h' q = .arr 4 ((c.arrays.map eZ).map bM.e) /\ ro' q = .ev, ?_, ?_⟩
 ·rintro _ h' ⟨ro', B, hq, rq⟩
  simp only [↓bf (B.used 1 rfl), Nat.zero_add]
  refine B.Ia 1 (j := 5) rfl (by simp) rfl fun h4 kp B => ?_
  have hq : h4 q = .arr 4 ((c.arrays.map eZ).map bM.e) := by rw [(kp q (by rw [hq]; simp) (by rw [rq]; rfl)).1]; exact hq
  rw [B.dh (s := 8) (d := .agg [.int .i64 c.group, .int .i64 c.sub, .int .i64 c.regs, .int .i64 c.slots, .int .i64 c.params, .ms q 0 c.arrays.length, .sl (c.loops.map Loop.e), .sl (c.b.map Block.e)]) 1 rfl rfl rfl]
  refine B.Kf 0 (cs' := [.int .i64 c.group, .int .i64 c.sub, .int .i64 c.regs, .int .i64 c.slots, .int .i64 c.params, .ms q 0 c.arrays.length, .sl (c.loops.map Loop.e), .sl (c.b.map Block.e)]) rfl rfl rfl (by simp) fun h5 kp B => ?_
  have hq : h5 q = .arr 4 ((c.arrays.map eZ).map bM.e) := by rw [(kp q (by rw [hq]; simp) (by rw [rq]; rfl)).1]; exact hq
  rw [B.dh (s := 8) 0 rfl rfl rfl]
  have fq := db hq (PV _)
  simp only [List.length_map] at fq
  exact dW (by simp) (by simp [Code.e]) (.refl _) (Bo.agg (.cons (aK rfl) (.cons (aK rfl) (.cons (aK rfl) (.cons (aK rfl) (.cons (aK rfl) (.cons fq (.cons (aK rfl) (.cons (aK rfl) .nil))))))))) rfl
 (unfold l7; try dsimp only [xL, yL, xF, yF, xI, yI, xS, zI, zJ])
 refine ⟨fun k qs h' => ∃ (i : Nat) (ro' : Ro), qs = [.int .i64 (i : Int)] /\ k + i = c.arrays.length /\ bJ aJ qC h' ro' [(n2, .agg c0), (n1, c.e)] /\ h' q = .arr 4 (((c.arrays.take i).map eZ ++ c.arrays.drop i).map bM.e) /\ ro' q = .ev,
  c.arrays.length, ⟨0, roB, rfl, by omega, B, by simpa using hq, rq⟩, ?_⟩
 rintro k f h' ⟨i, ro', hf, hki, B, hq, rq⟩
 simp only [List.cons.injEq, and_true] at hf
 have hlen : ∀ {K : D -> Prop}, cj (.ms q 0 c.arrays.length) h' K = K (.int .i64 (c.arrays.length : Int)) := fun {K} => by rw [lN, hq]; simp [Slot.live, Slot.used]
 rw [hf, hlen, bK]
 by_cases hi : i < c.arrays.length
 case neg =>
  simp only [show ¬ ((i : Int) < (c.arrays.length : Int)) by omega, decide_false, ↓ae, ai, true_and]
  rw [List.drop_of_length_le (by omega), List.take_of_length_le (by omega), List.append_nil] at hq
  exact ⟨ro', B, hq, rq⟩
 have ha := Kq eZ c.arrays i hi
 have hn := Iw eZ c.arrays i
 obtain ⟨a, hae⟩ : ∃ a, a = c.arrays[i] := ⟨_, rfl⟩
 have hao := hc.ar a (by rw [hae]; exact List.getElem_mem hi)
 have ld := fun {KH : HK} => Kp hq ha (KH := KH)
 rw [hn, <- hae] at ld
 simp only [show ((i : Int) < (c.arrays.length : Int)) by omega, decide_true, ↓af]
 rw [ld]
 refine B.I7 fun n5 h5 ro5 kp B => ?_
 have hq5 : h5 q = .arr 4 (((c.arrays.take i).map eZ ++ c.arrays.drop i).map bM.e) := by rw [(kp q (by rw [hq]; simp) (by rw [rq]; rfl)).1]; exact hq
 have rq5 : ro5 q = .ev := by rw [(kp q (by rw [hq]; simp) (by rw [rq]; rfl)).2]; exact rq
 refine B.Kf 0 (cs' := [.str a.name, .int .i64 a.space, .int .i64 a.type, .int .i64 a.len]) rfl rfl rfl (by simp) fun h6 kp B => ?_
 have hq6 : h6 q = .arr 4 (((c.arrays.take i).map eZ ++ c.arrays.drop i).map bM.e) := by rw [(kp q (by rw [hq5]; simp) (by rw [rq5]; rfl)).1]; exact hq5
 simp only [↓bf (B.used 0 rfl), Nat.zero_add, B.cP 0 (j := 3) rfl rfl rfl]
 have hl2 : IntKind.i64.wrap (a.len.tdiv 2) = a.len / 2 := by
  rw [Int.tdiv_eq_ediv_of_nonneg (by have := hao.2; omega)]
  exact wrap64 (by have := hao.2; omega) (by have := hao.2; omega)
 rw [jU, hl2]
 refine ⟨by simp, ?_⟩
 have hmx : ∀ {g : Heap} {K : HK}, ab PP (.mx (.c (.int .i64 (a.len / 2))) (.c (.int .i64 1))) g K = K (.int .i64 (max (a.len / 2) 1)) g := fun {g K} => by
  rw [IK]
  congr 2
  split <;> omega
 rw [hmx]
 simp only [↓bf (B.used 0 rfl), Nat.zero_add]
 refine B.Ia 0 (j := 3) rfl (by simp) rfl fun h7 kp B => ?_
 have hq7 : h7 q = .arr 4 (((c.arrays.take i).map eZ ++ c.arrays.drop i).map bM.e) := by rw [(kp q (by rw [hq6]; simp) (by rw [rq5]; rfl)).1]; exact hq6
 rw [B.dh (s := 4) (d := (eZ a).e) 0 rfl rfl rfl]
 have st := Ko (a := eZ a) hq7 (by rw [hn]; exact hi) (KH := fun _ h56 => vbin .add (.int .i64 (i : Int)) (.int .i64 1) fun a57 => aG [.ptr n1 0 0, .ptr n2 0 0, .ms q 0 c.arrays.length] [.ptr n1 0 0, .ptr n2 0 0, .ms q 0 c.arrays.length] /\
  ∃ m, m < k /\ ∃ (i : Nat) (ro' : Ro), [a57] = [.int .i64 (i : Int)] /\ m + i = c.arrays.length /\ bJ aJ qC h56 ro' [(n2, .agg c0), (n1, c.e)] /\ h56 q = .arr 4 (((c.arrays.take i).map eZ ++ c.arrays.drop i).map bM.e) /\ ro' q = .ev)
 rw [hn] at st
 refine st ?_
 rw [bt, GB (i := i) (by omega)]
 refine ⟨by simp, k - 1, by omega, i + 1, ro5, rfl, by omega, (B.step (Fr.av (by rw [rq5]; simp) (by simp))).tail, ?_, rq5⟩
 rw [ad, hae, Iv]
theorem bJ.re {h0 h h' : Heap} {ro0 ro : Ro} {L : List (Nat × D)} (B : bJ aJ ro0 h ro L) (hk : ∀ p ∈ L, h' p.1 = h p.1) : bJ aJ ro0 h' ro L :=
 ⟨B.nd, fun p hp => by obtain ⟨a, b, c⟩ := B.at_ p hp; exact ⟨by rw [hk p hp]; exact a, b, c⟩, fun k hk => absurd rfl hk⟩
theorem Pu {P : Program} {h : Heap} {KH : HK} {esz bytes : Nat} {z s d : D} {els : List D} (ho : Own esz h s els) (hd : aw d) (hc : d.cells.length = esz) (hb : (els.length + 1) * bytes <= 140737488355328) (hl : els.length + 1 <= 9223372036854775807)
  (hk : ∀ v h', Own esz h' v (els ++ [d]) -> Pz h h' s -> KH v h') : ab P (.app (.c s) (.c (.sl [d])) esz bytes z) h KH := by
 refine ⟨fun e he => by simp at he; subst he; exact hc, fun y hy => by simp at hy; subst hy; exact hd, ?_⟩
 rcases ho with ⟨rfl, rfl⟩ | ⟨m, rfl, hm⟩
 ·exact ⟨⟨by simpa using hb, by simp⟩, fun n t => hk _ _ (Or.inr ⟨n, rfl, ad _ _ _⟩) fun k hk _ => aa _ _ (t.ne hk)⟩
 ·refine ⟨els, hm, rfl, rfl, ⟨by simpa using hb, by simpa using hl⟩, fun n t => hk _ _ (Or.inr ⟨n, by simp, ad _ _ _⟩) fun k hkf hne => ?_⟩
  have h1 := t.ne hkf
  have h2 : k ≠ m := by rintro rfl; exact hne _ rfl
  rw [aa _ _ h1, aa _ _ h2]
theorem QK {esz : Nat} {h : Heap} {v : D} {els : List D} (ho : Own esz h v els) {k : Nat} {d : D} (hb : h k = .box d) : ∀ l, v ≠ .ms k 0 l := by
 rintro l rfl
 rcases ho with ⟨hc, -⟩ | ⟨q, hc, hq⟩
 ·cases hc
 ·cases hc; rw [hb] at hq; cases hq
theorem Mh {esz : Nat} {h : Heap} {v : D} {els : List D} (ho : Own esz h v els) {k : Nat} {d : D} (hb : h k = .box d) (s : Slot) : Own esz (ah h k s) v els := by
 rcases ho with ho | ⟨q, rfl, hq⟩
 ·exact Or.inl ho
 ·refine Or.inr ⟨q, rfl, ?_⟩
  rw [aa _ _ (by rintro rfl; rw [hb] at hq; cases hq)]; exact hq
theorem PM {h : Heap} {v : D} {w : List Int} (ho : Own 1 h v (wr w)) : yl h v (words w) := by
 rcases ho with ⟨rfl, he⟩ | ⟨q, rfl, hq⟩
 ·have : w = [] := by cases w <;> first | rfl | (simp [wr] at he)
  subst this; exact fu
 ·exact db hq (JY w)
def Gc (g : Int) (zs : List Int) : D := .agg (.int .u8 g :: zs.map (.int .i8))
theorem Gb (g : Int) (zs : List Int) : aw (Gc g zs) := fun x hx => by
 simp [Gc] at hx
 rcases hx with rfl | ⟨z, -, rfl⟩ <;> rfl
theorem MC {g : Int} {zs : List Int} {i : Nat} (hi : i < zs.length) : (Gc g zs).cells[1 + i]? = some (.int .i8 zs[i]) := by
 simp only [Gc, bV]
 rw [Nat.add_comm, List.getElem?_cons_succ, List.getElem?_map, List.getElem?_eq_getElem hi]; rfl
theorem FH {P : Program} {h : Heap} {m l j : Nat} {a : Int} {v : D} (hm : h m = .box v) (h0 : 0 <= a) (h1 : a < (l : Int)) {K : D -> Prop} : au P (.iadda (.c (.ptr m 0 j)) (.c (.int .i64 a)) l 1) h K = K (.ptr m 0 (j + a.toNat)) := by
 rw [C8, Hf, hm]
 simp [Slot.live, Slot.used, h0, h1]
theorem Dq {a b : Int} (ha : 0 <= a) (hb : 0 < b) : 0 <= a.tmod b /\ a.tmod b < b := by
 rw [Int.tmod_eq_emod_of_nonneg ha]
 exact ⟨Int.emod_nonneg _ (by omega), Int.emod_lt_of_pos _ hb⟩
theorem L3 {c : Code} {g : Int} {zs : List Int} (hc : bq c) (hg : 0 <= g /\ g <= 255) (hz : zs.length = 12) : aD PP kY [c.e, Gc g zs] (fun r => ∃ l : dt, lF c l /\ r = l.e) := by
 refine fR (aW yD (aA _ _ _) rfl (xA _ _ _) ?_)
 (unfold rJ; try dsimp only [xL, yL, xF, yF, xI, yI, xS, zI, zJ])
 refine bJ.start.box (ju c).2 fun n1 h1 ro1 B => ?_
 refine B.box (Gb g zs) fun n2 h2 ro2 B => ?_
 refine B.alloc fun n3 h3 ro3 B => ?_
 have hcg := hc.group
 have hcp := hc.params
 simp only [↓bf (B.used 1 rfl), Nat.zero_add, B.cP 1 (j := 0) rfl rfl rfl]
 obtain ⟨t1, t2⟩ := Dq hg.1 (show (0 : Int) < 3 by omega)
 rw [bI]
 refine ⟨by simp, ?_⟩
 rw [cq, bt, wrap64 (n := g.tmod 3) (by omega) (by omega), wrap64 (by omega) (by omega), cB rfl]
 obtain ⟨b, hb⟩ : ∃ b, b = 1 + g.tmod 3 := ⟨_, rfl⟩
 rw [<- hb]
 refine B.alloc fun n4 h4 ro4 B => ?_
 refine B.mD 0 (cs' := [.int .i64 b, .nil]) rfl rfl rfl (by simp) fun h5 B => ?_
 refine ⟨fun _ h' => ∃ (ro' : Ro) (b : Int), 1 <= b /\ b <= 3 /\ bJ aJ qC h' ro' [(n4, .agg [.int .i64 b, .nil]), (n3, .agg [.int .i64 0, .nil]), (n2, Gc g zs), (n1, c.e)], ?_, ?_⟩
 ·rintro _ h' ⟨ro', b, b1, b2, B⟩
  refine ⟨fun _ h' => ∃ (ro' : Ro) (v : D) (w : List Int), bJ aJ qC h' ro' [(n4, .agg [.int .i64 b, v]), (n3, .agg [.int .i64 0, .nil]), (n2, Gc g zs), (n1, c.e)] /\ Own 1 h' v (wr w) /\ (w.length : Int) = c.params /\ ∀ x ∈ w, gE x, ?_, ?_⟩
  ·rintro _ h' ⟨ro', v, w, B, O, hw, hI⟩
   have ov := wG O
   rw [B.dh (s := 2) 0 rfl rfl rfl, Go.Am.mD (s := 2) (cs' := [.int .i64 b, v]) (B.get 1 rfl) rfl rfl (by simp [ov])]
   have O := Mh O (B.get 1 rfl) (.box (.agg [.int .i64 b, v]))
   have B := B.av 1 rfl (.agg [.int .i64 b, v])
   rw [B.dh (s := 2) 1 rfl rfl rfl]
   exact dW (by simp) (by simp) (.refl _) (Bo.agg (.cons (aK rfl) (.cons (PM O) .nil))) ⟨⟨b, w⟩, ⟨⟨b1, by show b <= 64; omega⟩, hw, hI⟩, rfl⟩
  (unfold me; try dsimp only [xL, yL, xF, yF, xI, yI, xS, zI, zJ])
  refine ⟨fun k qs h' => ∃ (i : Nat) (ro' : Ro) (v : D) (w : List Int), qs = [.int .i64 (i : Int)] /\ k + i = c.params.toNat /\ w.length = i /\ bJ aJ qC h' ro' [(n4, .agg [.int .i64 b, v]), (n3, .agg [.int .i64 0, .nil]), (n2, Gc g zs), (n1, c.e)] /\ Own 1 h' v (wr w) /\ ∀ x ∈ w, gE x,
   c.params.toNat, ⟨0, ro', .nil, [], rfl, by omega, rfl, B, Or.inl ⟨rfl, rfl⟩, by simp⟩, ?_⟩
  rintro k f h' ⟨i, ro', v, w, hf, hki, hwl, B, O, hI⟩
  simp only [List.cons.injEq, and_true] at hf
  rw [hf]
  simp only [↓bf (B.used 3 rfl), Nat.zero_add, B.cP 3 (j := 4) rfl rfl rfl, ↓bK]
  by_cases hi : (i : Int) < c.params
  case neg =>
   simp only [hi, decide_false, ↓ae, ai, true_and]
   exact ⟨ro', v, w, B, O, by omega, hI⟩
  have e8 : ((i : Int).tmod 8) = ((i % 8 : Nat) : Int) := by rw [Int.tmod_eq_emod_of_nonneg (by omega)]; rfl
  have h8 : i % 8 < zs.length := by omega
  have hv := wG O
  simp only [hi, decide_true, ↓af, ↓aH, B.used 0 rfl, B.used 2 rfl, Nat.zero_add, true_and, ↓bO, B.cP 0 (j := 1) rfl rfl rfl, ↓bI]
  refine ⟨by simp, ?_⟩
  rw [e8, FH (B.get 2 rfl) (by omega) (by omega)]
  simp only [Int.toNat_natCast, B.cP 2 (j := 1 + i % 8) rfl (MC h8) rfl, ↓ow, ↓cq]
  refine Nn (by simp) rfl (fun y hy => by simp at hy; subst hy; rfl) (fun y hy => by simp at hy; subst hy; rfl) ?_
  refine Pu O (by simp) rfl (by rw [mC]; omega) (by rw [mC]; omega) fun v' h2 O2 kb => ?_
  have B := B.re (h0 := aJ) (h' := h2) fun p hp => by
   have := (B.at_ p hp).1
   exact kb p.1 (by rw [this]; simp) (QK O this)
  have hv' := wG O2
  rw [Go.Am.HX (B.get 0 rfl) (by simp) hv']
  have O3 := Mh O2 (B.get 0 rfl) (.box (.agg ([D.int .i64 b, v].set 1 v')))
  have B := B.av 0 rfl (.agg ([D.int .i64 b, v].set 1 v'))
  rw [bt, GB (i := i) (by omega)]
  refine ⟨by simp, k - 1, by omega, i + 1, ro', v', w ++ [oW zs[i % 8]], rfl, by omega, by simp [hwl], B, by simpa [wr] using O3, fun x hx => ?_⟩
  rcases List.mem_append.1 hx with hx | hx
  ·exact hI x hx
  ·simp at hx; subst hx; exact cZ _
 simp only [↓bf (B.used 3 rfl), Nat.zero_add, B.cP 3 (j := 0) rfl rfl rfl, ↓oX]
 have hq : 512 <= (4096 : Int).tdiv c.group /\ (4096 : Int).tdiv c.group <= 4096 := by
  rw [Int.tdiv_eq_ediv_of_nonneg (by omega)]
  refine ⟨?_, ?_⟩
  ·exact (Int.le_ediv_iff_mul_le (by omega)).2 (by omega)
  ·exact Int.ediv_le_self _ (by omega)
 simp only [show (0 : Int) < c.group by omega, decide_true, ↓af, ↓aH, B.used 0 rfl, B.used 3 rfl, Nat.zero_add, true_and, ↓bO, B.cP 0 (j := 0) rfl rfl rfl, B.cP 3 (j := 0) rfl rfl rfl, ↓jU]
 refine ⟨by omega, ?_⟩
 rw [wrap64 (by omega) (by omega)]
 have e1 : ∀ {K : D -> Prop}, au PP (.mn (.c (.int .i64 b)) (.c (.int .i64 ((4096 : Int).tdiv c.group)))) h5 K = K (.int .i64 b) := fun {K} => by
  show ab PP (.mn (.c (.int .i64 b)) (.c (.int .i64 ((4096 : Int).tdiv c.group)))) h5 (fun d _ => K d) = _
  rw [O8, if_neg (by omega)]
 have e2 : ∀ {K : D -> Prop}, au PP (.mx (.c (.int .i64 b)) (.c (.int .i64 1))) h5 K = K (.int .i64 b) := fun {K} => by
  rw [SS, IK, if_neg (by omega)]
 rw [e1, e2]
 refine B.HX 0 rfl (by simp) rfl fun h6 B => ?_
 exact ⟨by simp, ro4, b, by omega, by omega, B⟩
theorem v8 {c : Code} (s : Nat) : gL c.arrays s (ik c.arrays s) := by
 refine ⟨by simp [ik], fun i a w ha hw => ?_⟩
 rw [ik, List.getElem?_map, ha] at hw
 cases hw
 refine ⟨by simp [BB], fun v hv => ?_⟩
 obtain ⟨-, rfl⟩ := List.mem_replicate.1 hv
 exact ⟨by omega, by omega⟩
theorem jf.row {h : Heap} {ro : Ro} {s : Nat} {d : D} {m : Mm} (x : jf h ro s d m) {i : Nat} {w : List Int} (hw : m[i]? = some w) :
  ∃ q, h q = .arr 1 (wr w) /\ ro q = .row s i /\ (∀ {K : HK}, ab PP (.iadd (.c d) (.c (.int .i64 (i : Int))) 1) h (fun a h1 => ab PP (.ld (.c a) 1 false) h1 K) = K (.ms q 0 w.length) h) /\
   ∀ w' : List Int, w'.length = w.length -> jf (ah h q (.arr 1 (wr w'))) ro s d (m.set i w') := by
 obtain ⟨kk, els, rfl, y, yo⟩ := x
 have hlt := (List.getElem?_eq_some_iff.1 hw).1
 have hl := y.len
 have he : els[i]? = some (els[i]'(by omega)) := List.getElem?_eq_getElem (by omega)
 obtain ⟨q, hq, hq1, hq2⟩ : ∃ q, els[i]'(by omega) = .ms q 0 w.length /\ h q = .arr 1 (wr w) /\ ro q = .row s i := by
  rcases y.el i _ w he hw with g | g
  ·obtain ⟨q, l, e⟩ := yo _ (List.getElem_mem (h := (by omega : i < els.length)))
   rw [e] at g; cases g
  ·exact g
 rw [hq] at he
 refine ⟨q, hq1, hq2, fun {K} => ?_, fun w' hw' => ⟨kk, els, by simp, ⟨?_, y.rk, by simp [hl], fun j e v hj hv => ?_⟩, yo⟩⟩
 ·rw [bN, y.hk, lk, y.hk]
  apply propext
  constructor
  ·rintro ⟨-, -, -, -, h⟩
   have := h (.ms q 0 w.length) (by rw [show 0 + ((i : Int)).toNat = i by omega]; exact he)
   simpa [bk] using this
  ·intro hk
   refine ⟨by omega, by omega, ⟨_, rfl⟩, by simp; omega, fun e he' => ?_⟩
   rw [show 0 + ((i : Int)).toNat = i by omega, he] at he'; cases he'
   simpa [bk] using hk
 ·rw [aa _ _ (by rintro rfl; rw [y.rk] at hq2; cases hq2)]; exact y.hk
 ·by_cases e' : i = j
  ·subst e'
   rw [List.getElem?_set_self hlt] at hv; cases hv
   rw [he] at hj; cases hj
   exact Or.inr ⟨q, by rw [hw'], ad _ _ _, hq2⟩
  ·rw [List.getElem?_set_ne e'] at hv
   rcases y.el j e v hj hv with g | ⟨p, g1, g2, g3⟩
   ·exact Or.inl g
   ·refine Or.inr ⟨p, g1, ?_, g3⟩
    rw [aa _ _ (by rintro rfl; rw [hq2] at g3; cases g3; exact e' rfl)]; exact g2
theorem Sl {h : Heap} {d r : D} {i : Nat} (hd : ∃ q l, d = D.ms q 0 l) (H : ∀ {K : HK}, ab PP (.iadd (.c d) (.c (.int .i64 (i : Int))) 1) h (fun a h1 => ab PP (.ld (.c a) 1 false) h1 K) = K r h) {K : D -> Prop} :
  au PP (.iadd (.c d) (.c (.int .i64 (i : Int))) 1) h (fun a => au PP (.ld (.c a) 1 false) h K) = K r := by
 obtain ⟨q, l, rfl⟩ := hd
 have := H (K := fun x _ => K x)
 rw [bN] at this
 rw [fO, bN]
 simp only [↓bO]
 exact this
theorem jf.ms {h : Heap} {ro : Ro} {s : Nat} {d : D} {m : Mm} (x : jf h ro s d m) : ∃ q l, d = D.ms q 0 l := by obtain ⟨kk, els, rfl, y, yo⟩ := x; exact ⟨_, _, rfl⟩
theorem jf.len {h : Heap} {ro : Ro} {s : Nat} {d : D} {m : Mm} (x : jf h ro s d m) {K : D -> Prop} : cj d h K = K (.int .i64 (m.length : Int)) := by
 obtain ⟨kk, els, rfl, y, yo⟩ := x
 rw [lN, y.hk]; simp [Slot.live, Slot.used]
theorem gL.set {ar : List bM} {s : Nat} {m : Mm} (h : gL ar s m) {i k : Nat} {w : List Int} {v : Int} (hw : m[i]? = some w) (hv : gE v) : gL ar s (m.set i (w.set k v)) := by
 have := Md h (n := i) (i := k) hv
 unfold Ir at this
 rw [List.getD_eq_getElem?_getD, hw, Option.getD_some] at this
 exact this
def GI (zs : List Int) (i k : Nat) : Int := oW (oW (zs.getD (8 + (i + k) % 4) 0) + oW (((k : Int) * (i : Int)).tmod 5))
def rowF (zs : List Int) (i : Nat) (w : List Int) : Nat -> List Int
 | 0 => w
 | k + 1 => (rowF zs i w k).set k (GI zs i k)
def Fh (zs : List Int) (m : Mm) : Nat -> Mm
 | 0 => m
 | i + 1 => (Fh zs m i).set i (rowF zs i ((Fh zs m i).getD i []) ((Fh zs m i).getD i []).length)
theorem DM (zs : List Int) (i : Nat) (w : List Int) : ∀ k, (rowF zs i w k).length = w.length
 | 0 => rfl
 | k + 1 => by simp [rowF, DM zs i w k]
theorem JZ (zs : List Int) (i k : Nat) : gE (GI zs i k) := cZ _
theorem GQ {zs : List Int} {i : Nat} {w : List Int} (h : ∀ v ∈ w, gE v) : ∀ k, ∀ v, v ∈ rowF zs i w k -> gE v
 | 0 => h
 | k + 1 => C4 (GQ h k) (JZ zs i k)
theorem gL.setRow {ar : List bM} {s : Nat} {m : Mm} (h : gL ar s m) {i : Nat} {w w' : List Int} (hw : m[i]? = some w) (hl : w'.length = w.length) (hI : ∀ v, v ∈ w' -> gE v) : gL ar s (m.set i w') := by
 refine ⟨by simp [h.len], fun j a v ha hv => ?_⟩
 by_cases e : i = j
 ·subst e
  rw [List.getElem?_set_self (List.getElem?_eq_some_iff.1 hw).1] at hv; cases hv
  exact ⟨by rw [hl]; exact (h.w i a w ha hw).1, hI⟩
 ·rw [List.getElem?_set_ne e] at hv; exact h.w j a v ha hv
theorem Iy {ar : List bM} {s : Nat} {zs : List Int} {m : Mm} (h : gL ar s m) : ∀ i, gL ar s (Fh zs m i)
 | 0 => h
 | i + 1 => by
  have ih := Iy (zs := zs) h i
  simp only [Fh]
  by_cases hi : i < (Fh zs m i).length
  ·have hw := List.getElem?_eq_getElem hi
   rw [List.getD_eq_getElem?_getD, hw, Option.getD_some]
   obtain ⟨-, hI⟩ := ih.w i (ar[i]'(by rw [<- ih.len]; exact hi)) _ (List.getElem?_eq_getElem _) hw
   exact ih.setRow hw (DM _ _ _ _) (GQ hI _)
  ·rw [List.set_eq_of_length_le (by omega)]; exact ih
def OV (c : Code) (zs : List Int) : Mm := Fh zs (ik c.arrays 1) c.arrays.length
theorem Mz (c : Code) (zs : List Int) : gL c.arrays 1 (OV c zs) := Iy (v8 1) _
theorem L2 {c : Code} {g : Int} {zs : List Int} (hc : bq c) (hz : zs.length = 12) : aD PP kX [c.e, Gc g zs] (· = aO (OV c zs)) := by
 refine fR (aW yC (aA _ _ _) rfl (xz _ _ _) ?_)
 (unfold rI; try dsimp only [xL, yL, xF, yF, xI, yI, xS, zI, zJ])
 refine bJ.start.box (ju c).2 fun n1 h1 ro1 B => ?_
 refine B.box (Gb g zs) fun n2 h2 ro2 B => ?_
 simp only [↓bf (B.used 1 rfl), Nat.zero_add, B.cP 1 (j := 5) rfl rfl rfl]
 refine Ju (ro := ro2) hc 1 1 fun d h3 ro3 x O => ?_
 have B := B.step x.fr
 have hna := hc.nar
 refine ⟨fun _ h' => ∃ (ro' : Ro), jf h' ro' 1 d (OV c zs), ?_, ?_⟩
 ·rintro _ h' ⟨ro', O⟩
  have ht : ∀ ds, d ≠ .tup ds := by obtain ⟨k, els, rfl, -⟩ := O; simp
  obtain ⟨h'', i, z⟩ := O.r.out
  exact dW ht (by simp [aO]) i z.d rfl
 (unfold mb; try dsimp only [xL, yL, xF, yF, xI, yI, xS, zI, zJ])
 refine ⟨fun n qs h' => ∃ (i : Nat) (ro' : Ro), qs = [.int .i64 (i : Int)] /\ n + i = c.arrays.length /\ bJ aJ qC h' ro' [(n2, Gc g zs), (n1, c.e)] /\ jf h' ro' 1 d (Fh zs (ik c.arrays 1) i),
  c.arrays.length, ⟨0, ro3, rfl, by omega, B, O⟩, ?_⟩
 rintro n f h' ⟨i, ro', hf, hni, B, O⟩
 simp only [List.cons.injEq, and_true] at hf
 obtain ⟨m, hm⟩ : ∃ m, m = Fh zs (ik c.arrays 1) i := ⟨_, rfl⟩
 have W : gL c.arrays 1 m := by rw [hm]; exact Iy (v8 1) i
 rw [<- hm] at O
 have hml := W.len
 rw [hf, O.len, bK]
 by_cases hi : i < m.length
 case neg =>
  simp only [show ¬ ((i : Int) < (m.length : Int)) by omega, decide_false, ↓ae, ai, true_and]
  have : i = c.arrays.length := by omega
  subst this
  rw [hm] at O
  exact ⟨ro', O⟩
 have hw0 : m[i]? = some m[i] := List.getElem?_eq_getElem hi
 obtain ⟨w0, hw0e⟩ : ∃ w, w = m[i] := ⟨_, rfl⟩
 rw [<- hw0e] at hw0
 simp only [show ((i : Int) < (m.length : Int)) by omega, decide_true, ↓af]
 refine ⟨fun _ h' => ∃ (ro' : Ro), bJ aJ qC h' ro' [(n2, Gc g zs), (n1, c.e)] /\ jf h' ro' 1 d (m.set i (rowF zs i w0 w0.length)), ?_, ?_⟩
 ·rintro _ h' ⟨ro', B, O⟩
  rw [bt, GB (i := i) (by omega)]
  refine ⟨by simp, n - 1, by omega, i + 1, ro', rfl, by omega, B, ?_⟩
  simp only [Fh]
  rw [<- hm, List.getD_eq_getElem?_getD, hw0, Option.getD_some]
  exact O
 (unfold mc; try dsimp only [xL, yL, xF, yF, xI, yI, xS, zI, zJ])
 refine ⟨fun n qs h' => ∃ (k : Nat) (ro' : Ro), qs = [.int .i64 (k : Int)] /\ k <= w0.length /\ n + k = w0.length /\ bJ aJ qC h' ro' [(n2, Gc g zs), (n1, c.e)] /\ jf h' ro' 1 d (m.set i (rowF zs i w0 k)),
  w0.length, ⟨0, ro', rfl, by omega, by omega, B, by
   have : m.set i w0 = m := by rw [hw0e]; exact List.set_getElem_self _
   simp only [rowF]; rw [this]; exact O⟩, ?_⟩
 have hic : i < c.arrays.length := by omega
 clear O B
 rintro n f2 h' ⟨k, ro', hf2, hk8, hnk, B, O⟩
 simp only [List.cons.injEq, and_true] at hf2
 have hw : (m.set i (rowF zs i w0 k))[i]? = some (rowF zs i w0 k) := List.getElem?_set_self hi
 have hwl0 := DM zs i w0 k
 obtain ⟨w, hwe⟩ : ∃ w, w = rowF zs i w0 k := ⟨_, rfl⟩
 rw [<- hwe] at hw hwl0 O
 obtain ⟨hwl, -⟩ := W.w i c.arrays[i] w0 (List.getElem?_eq_getElem (by omega)) hw0
 have hal := (hc.ar c.arrays[i] (List.getElem_mem _)).2
 have hw8 : w.length <= 8 := by rw [hwl0, hwl]; unfold BB; split <;> omega
 obtain ⟨q, hq, rq, hrow, hput⟩ := O.row hw
 rw [hf, hf2]
 rw [hrow, lN, hq, bK]
 refine ⟨by simp [Slot.live, Slot.used], ?_⟩
 by_cases hk : k < w.length
 case neg =>
  simp only [show ¬ ((k : Int) < (w.length : Int)) by omega, decide_false, ↓ae, ai, true_and]
  have : k = w0.length := by omega
  rw [hwe, this] at O
  exact ⟨ro', B, O⟩
 simp only [show ((k : Int) < (w.length : Int)) by omega, decide_true, ↓af]
 rw [Sl O.ms hrow]
 have e4 : ((i : Int) + (k : Int)).tmod 4 = (((i + k) % 4 : Nat) : Int) := by rw [Int.tmod_eq_emod_of_nonneg (by omega)]; omega
 rw [bt, wrap64 (by omega) (by omega), bI]
 refine ⟨by simp, ?_⟩
 rw [e4]
 simp only [↓aH, B.used 0 rfl, Nat.zero_add, true_and]
 rw [FH (B.get 0 rfl) (by omega) (by omega)]
 have h8 : 8 + (i + k) % 4 < zs.length := by omega
 have hat := MC (g := g) h8
 simp only [Int.toNat_natCast, B.cP 0 (j := 9 + (i + k) % 4) rfl (by rw [show 9 + (i + k) % 4 = 1 + (8 + (i + k) % 4) by omega]; exact hat) rfl, ↓bO, ↓fO, ↓ow, ↓cq, ↓fT, ↓bI]
 refine ⟨by simp, ?_⟩
 rw [bt]
 simp only [↓bN, hq, Slot.row]
 refine ⟨by omega, by omega, ⟨_, rfl⟩, ?_⟩
 rw [dq, hq]
 refine ⟨rfl, by simp, by simp [wr]; omega, by simp, fun e he => ?_⟩
 have es : ∀ v : Int, setCells e 0 (D.int .i32 v).cells = .int .i32 v := fun v => by
  rw [Db, Option.map_eq_some_iff] at he
  obtain ⟨z, -, rfl⟩ := he
  rfl
 rw [es, show 0 + ((k : Int)).toNat = k by omega, Da]
 rw [bt, GB (i := k) (by omega)]
 refine ⟨by simp, n - 1, by omega, k + 1, ro', rfl, by omega, by omega, B.step (Fr.av (by rw [rq]; simp) (by simp)), ?_⟩
 have X := hput (w.set k (GI zs i k)) (by simp)
 rw [List.set_set] at X
 simp only [rowF]
 rw [<- hwe]
 have hki : k * i <= 8 * 8 := Nat.mul_le_mul (by omega) (by omega)
 have hki' : ((k : Int) * (i : Int)) = ((k * i : Nat) : Int) := by simp
 have ew : IntKind.i32.wrap (IntKind.i32.wrap zs[8 + (i + k) % 4] + IntKind.i32.wrap ((IntKind.i64.wrap ((k : Int) * (i : Int))).tmod 5)) = GI zs i k := by
  rw [wrap64 (by omega) (by omega)]
  unfold GI oW
  rw [List.getD_eq_getElem?_getD, List.getElem?_eq_getElem h8, Option.getD_some]
 rw [ew]
 exact X
theorem Np {c : Code} (h : Gz c) : bq c where
 group := by rcases h.group with h | h | h | h | h <;> omega
 sub := by rcases h.sub with h | h | h | h <;> omega
 regs := by have := h.regs; have := h.nl; omega
 slots := h.slots
 params := by have := h.params; omega
 nar := by rw [h.arrays]; decide
 ar := by
  rw [h.arrays]
  intro a ha
  simp only [tK, List.mem_cons, List.not_mem_nil, or_false] at ha
  rcases ha with rfl | rfl | rfl | rfl | rfl <;> exact ⟨by simp, by simp, by simp⟩
 nb := by have := h.nb; omega
 xs := fun b hb => by
  obtain ⟨hx, hl, ht⟩ := h.b b hb
  have hx : ∀ x ∈ b.i, yV c.regs x := fun x hx' => by obtain ⟨i, hi⟩ := List.getElem?_of_mem hx'; exact (hx i x hi).1
  refine ⟨fun x hx' => ⟨hx x hx', fun ho => ?_, fun ho => ?_⟩, by omega, ht⟩
  ·have h5 : c.arrays.length = 5 := by rw [h.arrays]; rfl
   have : ∀ n : Int, 0 <= n /\ n < 5 -> ∃ k : Nat, n = (k : Int) /\ k < c.arrays.length := fun n hn => ⟨n.toNat, by omega, by omega⟩
   cases hx x hx' with
   | load n d a h0 h1 h2 => exact this n h0
   | store n a b h0 h1 h2 => exact this n h0
   | atom s n a b hs h0 h1 h2 => exact this n ⟨h0.1, h0.2.1⟩
   | _ => simp at ho
  ·cases hx x hx' with
   | param n d h0 h1 => have := h.params; exact ⟨h0.1, by show n < c.params; omega⟩
   | _ => simp at ho
theorem Mr {c : Code} (h : bq c) : bq (lQ c) where
 group := h.group
 sub := h.sub
 regs := h.regs
 slots := h.slots
 params := h.params
 nar := by simpa [lQ] using h.nar
 ar := fun a ha => by
  simp only [lQ, List.mem_map] at ha
  obtain ⟨b, hb, rfl⟩ := ha
  obtain ⟨h1, h2, h3⟩ := h.ar b hb
  exact ⟨h1, by simp only [eZ]; omega, by simp only [eZ]; omega⟩
 nb := h.nb
 xs := fun b hb => by
  obtain ⟨h1, h2, h3⟩ := h.xs b hb
  exact ⟨fun x hx => ⟨(h1 x hx).ok, fun ho => by obtain ⟨k, k1, k2⟩ := (h1 x hx).n ho; exact ⟨k, k1, by simpa [lQ] using k2⟩, (h1 x hx).p⟩, h2, h3⟩
structure RE (c : Code) (l : dt) (it : It) : Prop extends NR c l it where
 ep : 0 <= it.epoch
 e2 : it.at_ = 2 -> (fy c it.block).kind = 3 \/ (fy c it.block).kind = 4
 e3 : it.at_ = 3 -> it.block = 0 /\ (∀ v ∈ it.regs, v = 0) /\ ∀ w ∈ it.priv, ∀ v ∈ w, v = 0
structure Gw (c : Code) (l : dt) (r : sO) : Prop where
 it : RE c l r.it
 g : gL c.arrays 1 r.g
 s : gL c.arrays 2 r.s
theorem Gt {c : Code} {l : dt} {id ep at_ : Int} (hc : bq c) (hid : 0 <= id /\ id < l.groups * c.group) (he : 0 <= ep) (ha : at_ = 1 \/ at_ = 3) : RE c l (bD c id ep at_) := by
 have hr := hc.regs
 refine ⟨⟨hid, by show at_ = 1 \/ at_ = 2 \/ at_ = 3; omega, ⟨Int.le_refl _, by have := hc.nb; show (0 : Int) < _; omega⟩, ?_, fun v hv => ?_, v8 3⟩, he, fun h => ?_, fun _ => ⟨rfl, fun v hv => (List.mem_replicate.1 hv).2, fun w hw v hv => ?_⟩⟩
 ·simp [bD]; omega
 ·obtain ⟨-, rfl⟩ := List.mem_replicate.1 hv; exact ⟨by omega, by omega⟩
 ·have : at_ = 2 := h
  omega
 ·simp only [bD, ik, List.mem_map] at hw
  obtain ⟨a, -, rfl⟩ := hw
  exact (List.mem_replicate.1 hv).2
theorem GG.to {N : Nat} {R : Int} {t : Term} (hN : 1 <= N) (h : GG N R t) : (0 <= t.to0 /\ t.to0 < (N : Int)) /\ (0 <= t.to1 /\ t.to1 < (N : Int)) := by
 cases h <;> simp <;> omega
theorem OZ {c : Code} {l : dt} {it : It} (hc : bq c) (h : NR c l it) (h1 : it.at_ = 1) (he : 0 <= it.epoch) : RE c l (aT c it) := by
 obtain ⟨k, Q, hbk, hQ, hQm, ht, -⟩ := hc.Nz h.block
 obtain ⟨-, -, hT⟩ := hc.xs Q hQm
 obtain ⟨t0, t1⟩ := hT.to hc.nb.1
 have base : ∀ b : Int, 0 <= b /\ b < (c.b.length : Int) -> RE c l { it with block := b } := fun b hb =>
  ⟨⟨h.id, h.at_, hb, h.len, h.regs, h.priv⟩, he, fun h2 => by have : it.at_ = 2 := h2; omega, fun h3 => by have : it.at_ = 3 := h3; omega⟩
 unfold aT
 rw [ht]
 simp only
 split
 ·exact base _ t0
 split
 ·split
  ·exact base _ t0
  ·exact base _ t1
 split
 ·exact Gt hc h.id he (Or.inr rfl)
 ·refine ⟨⟨h.id, Or.inr (Or.inl rfl), h.block, h.len, h.regs, h.priv⟩, he, fun _ => ?_, fun h3 => by cases h3⟩
  show (fy c it.block).kind = 3 \/ (fy c it.block).kind = 4
  rw [ht]
  rename_i n1 n2 n3 _
  rcases hT.ops.2 with h | h | h | h | h
  ·exact absurd h n1
  ·exact absurd h n2
  ·exact Or.inl h
  ·exact Or.inr h
  ·exact absurd h n3
theorem Is {c : Code} {l : dt} {it : It} {v : Int} (hc : bq c) (h : RE c l it) (hv : gE v) : RE c l (jW c it v).1 := by
 by_cases ha : it.at_ = 2
 case neg => rw [qB ha]; exact h
 obtain ⟨k, Q, hbk, hQ, hQm, ht, -⟩ := hc.Nz h.block
 obtain ⟨-, -, hT⟩ := hc.xs Q hQm
 obtain ⟨t0, t1⟩ := hT.to hc.nb.1
 rw [kL ha, ht]
 refine ⟨⟨h.id, Or.inl rfl, t0, ?_, ?_, h.priv⟩, h.ep, fun h2 => (by cases h2), fun h3 => (by cases h3)⟩
 ·have := h.len
  simp only
  split <;> simpa using this
 ·simp only
  split
  ·exact C4 h.regs hv
  ·exact h.regs
theorem H8 {c : Code} {l : dt} {it : It} {g s : Mm} {av : Int} (hc : bq c) (hl : lF c l) (h : RE c l it) (hg : gL c.arrays 1 g) (hs : gL c.arrays 2 s) : Gw c l (dV c l it g s av) /\ (dV c l it g s av).ev.length <= 20 := by
 unfold dV
 split
 ·exact ⟨⟨h, hg, hs⟩, by simp⟩
 rename_i ha
 have ha : it.at_ = 1 := by omega
 obtain ⟨k, Q, hbk, hQ, hQm, ht, hins⟩ := hc.Nz h.block
 obtain ⟨hxs, hxl, -⟩ := hc.xs Q hQm
 rw [hins]
 have w0 : qf c (EZ it g s) := Ic h.toNR hg hs
 cases e : runP c l it.id av it.block Q.i 0 (EZ it g s) with
 | none => exact ⟨⟨h, hg, hs⟩, by simp⟩
 | some st =>
  obtain ⟨w, e1⟩ := Jn hc hl _ _ _ _ hxs w0 e
  refine ⟨⟨OZ hc ⟨h.id, h.at_, h.block, w.len, w.regs, w.mem 3 (by omega) (by omega)⟩ ha h.ep, w.mem 1 (by omega) (by omega), w.mem 2 (by omega) (by omega)⟩, ?_⟩
  have : (EZ it g s).ev.length = 0 := rfl
  simp only
  omega
abbrev sx (r : sO) (dE : D) : List D := [.int .i64 r.it.id, .int .i64 r.it.at_, .int .i64 r.it.block, .int .i64 r.it.epoch, words r.it.regs, aO r.it.priv, .sl [], aO r.g, aO r.s, dE, .int .i64 r.e]
theorem DJ {r : sO} {dE : D} (h : dE.one = true) : ∀ x, x ∈ sx r dE -> x.one = true := fun x hx => by
 simp [words, aO] at hx
 rcases hx with rfl | rfl | rfl | rfl | rfl | rfl | rfl | rfl | rfl | rfl | rfl <;> first | rfl | exact h
def PZ (dE : D) (ev : List Ev) : Prop := (dE = .nil /\ ev = []) \/ dE = .sl (ev.map Ev.e)
theorem PZ.one {dE : D} {ev : List Ev} (h : PZ dE ev) : dE.one = true := by rcases h with ⟨rfl, -⟩ | rfl <;> rfl
theorem PZ.f1 {h : Heap} {dE : D} {ev : List Ev} (x : PZ dE ev) : yl h dE (.sl (ev.map Ev.e)) := by
 rcases x with ⟨rfl, rfl⟩ | rfl
 ·exact fu
 ·exact aK rfl
theorem Lw {h : Heap} {K : D -> Prop} {r : sO} {dE : D} (x : PZ dE r.ev) (hK : K (gq r)) : EH K (.agg (sx r dE)) h :=
 dW (by simp) (by simp [gq]) (.refl _) (Bo.agg (.cons (aK rfl) (.cons (aK rfl) (.cons (aK rfl) (.cons (aK rfl) (.cons (aK rfl) (.cons (aK rfl) (.cons (aK rfl) (.cons (aK rfl) (.cons (aK rfl) (.cons x.f1 (.cons (aK rfl) .nil)))))))))))) hK
theorem My (g s : Mm) : v7 (wM g s) := cN (by simp [aO])
def afterP (c : Code) (l : dt) : Nat -> Nat -> sO -> sO
 | 0, _, s => { s with ev := [] }
 | n + 1, i, s =>
  if s.it.at_ = 3 then { s with ev := [] }
  else if s.it.at_ = 2 then afterP c l n (i + 1) { s with it := (jW c s.it (oW ((i : Int).tmod 3))).1 }
  else if (dV c l s.it s.g s.s i).e = 0 then afterP c l n (i + 1) (dV c l s.it s.g s.s i) else s
theorem bJ.RT {h0 h : Heap} {ro0 ro : Ro} {L : List (Nat × D)} {KH : HK} (B : bJ h0 ro0 h ro L) (i : Nat) {n s : Nat} {cs cs' : List D} {d : D} (hd : d = .agg cs') (hi : L[i]? = some (n, .agg cs)) (hl : cs.length = s) (hl' : cs'.length = s) (ho : ∀ x, x ∈ cs' -> x.one = true)
  (hK : ∀ h', bJ h0 ro0 h' ro (L.set i (n, .agg cs')) -> KH .undef h') : ab PP (.st (.c (.ptr n 0 0)) (.c d) s) h KH := by
 subst hd; exact B.mD i hi hl hl' ho hK
theorem Er {c : Code} {l : dt} (hc : bq c) (hl : lF c l) : ∀ (n i : Nat) (s : sO), Gw c l s -> Gw c l (afterP c l n i s)
 | 0, _, s, h => ⟨h.it, h.g, h.s⟩
 | n + 1, i, s, h => by
  simp only [afterP]
  split
  ·exact ⟨h.it, h.g, h.s⟩
  split
  ·exact Er hc hl n (i + 1) _ ⟨Is hc h.it (cZ _), h.g, h.s⟩
  split
  ·exact Er hc hl n (i + 1) _ (H8 hc hl h.it h.g h.s).1
  ·exact h
def zY (c : Code) (l : dt) (id n : Int) (m : Mm) : sO := afterP c l n.toNat 0 ⟨bD c id 0 1, m, ik c.arrays 2, [], 0⟩
theorem NL {c : Code} {l : dt} {id n : Int} {m : Mm} (hc : bq c) (hl : lF c l) (hid : 0 <= id /\ id < l.groups * c.group) (hm : gL c.arrays 1 m) : Gw c l (zY c l id n m) :=
 Er hc hl _ _ _ ⟨Gt hc hid (by omega) (Or.inl rfl), hm, v8 2⟩
theorem Ox {c : Code} {l : dt} {id n : Int} {m : Mm} (hc : bq c) (hl : lF c l) (hid : 0 <= id /\ id < l.groups * c.group) (hn : 0 <= n /\ n <= 12) (hm : gL c.arrays 1 m) :
  aD PP mF [c.e, l.e, .int .i64 id, .int .i64 n, aO m] (· = gq (zY c l id n m)) := by
 refine fR (aW Ar (aA _ _ _) rfl (Aa _ _ _ _ _ _) ?_)
 (unfold tO; try dsimp only [xL, yL, xF, yF, xI, yI, xS, zI, zJ])
 refine bJ.start.box (ju c).2 fun n1 h1 ro1 B => ?_
 refine B.box (om l) fun n2 h2 ro2 B => ?_
 refine B.alloc fun n3 h3 ro3 B => ?_
 simp only [↓bO, ↓aH, B.used 2 rfl, Nat.zero_add, B.dh (s := 8) 2 rfl rfl rfl, B.dh (s := 2) 1 rfl rfl rfl, B.cP 2 (j := 5) rfl rfl rfl, true_and]
 refine ba (Kj hc hl) ⟨Code.bZ c, dt.bZ l, bb, trivial⟩ ?_
 rw [zj hid]
 have hf : ∀ {K : D -> Prop}, au PP (.fld (.c (pa (bD c id 0 1, 0))) 0 7 true) h3 K = K (bD c id 0 1).e := fun {K} => by
  rw [Nm]
  have := MM (P := PP) (h := h3) (cs := (bD c id 0 1).cs ++ [.int .i64 0]) (o := 0) (s := 7) (g := true) (KH := fun x _ => K x)
  rw [show (pa (bD c id 0 1, 0)) = .agg ((bD c id 0 1).cs ++ [.int .i64 0]) from rfl, this, cw]
  simp [It.cs, It.e]
 simp only [↓bO, ↓aH, B.used 2 rfl, Nat.zero_add, B.dh (s := 8) 2 rfl rfl rfl, B.dh (s := 2) 1 rfl rfl rfl, B.cP 2 (j := 5) rfl rfl rfl, ai, true_and, hf]
 refine ba (Im hc 2) ⟨eR, bb, trivial⟩ ?_
 rw [jt rfl]
 refine B.alloc fun n4 h4 ro4 B => ?_
 simp only [↓bO, ↓aH, B.used 3 rfl, Nat.zero_add, B.dh (s := 8) 3 rfl rfl rfl, B.dh (s := 2) 2 rfl rfl rfl, B.cP 3 (j := 5) rfl rfl rfl, ai, true_and]
 obtain ⟨s0, hs0⟩ : ∃ s0 : sO, s0 = ⟨bD c id 0 1, m, ik c.arrays 2, [], 0⟩ := ⟨_, rfl⟩
 have v0 : Gw c l s0 := by rw [hs0]; exact ⟨Gt hc hid (by omega) (Or.inl rfl), hm, v8 2⟩
 refine B.RT 0 (cs' := sx s0 .nil) (by rw [hs0]; rfl) rfl rfl rfl (DJ rfl) fun h5 B => ?_
 have B : bJ aJ qC h5 ro4 [(n4, .agg (sx s0 .nil)), (n3, .agg sX), (n2, l.e), (n1, c.e)] := B
 refine ⟨fun _ h' => ∃ (ro' : Ro) (s : sO) (dE : D), bJ aJ qC h' ro' [(n4, .agg (sx s dE)), (n3, .agg sX), (n2, l.e), (n1, c.e)] /\ Gw c l s /\ PZ dE s.ev /\ zY c l id n m = { s with ev := [] }, ?_, ?_⟩
 ·rintro _ h' ⟨ro', s, dE, B, V, E, P⟩
  simp only [↓bf (B.used 0 rfl), Nat.zero_add]
  refine B.HX 0 (j := 9) rfl (by simp) rfl fun h6 B => ?_
  have B : bJ aJ qC h6 ro' [(n4, .agg (sx { s with ev := [] } .nil)), (n3, .agg sX), (n2, l.e), (n1, c.e)] := B
  rw [B.dh (s := 11) 0 rfl rfl rfl]
  refine B.mD 1 (cs' := sx { s with ev := [] } .nil) rfl rfl rfl (DJ rfl) fun h7 B => ?_
  rw [B.dh (s := 11) 1 rfl rfl rfl]
  exact Lw (Or.inl ⟨rfl, rfl⟩) (by rw [P])
 (unfold ng; try dsimp only [xL, yL, xF, yF, xI, yI, xS, zI, zJ])
 refine ⟨fun k qs h' => ∃ (i : Nat) (ro' : Ro) (s : sO) (dE : D), qs = [.int .i64 (i : Int)] /\ k + i = n.toNat /\ bJ aJ qC h' ro' [(n4, .agg (sx s dE)), (n3, .agg sX), (n2, l.e), (n1, c.e)] /\ Gw c l s /\ PZ dE s.ev /\ zY c l id n m = afterP c l k i s,
  n.toNat, ⟨0, ro4, s0, .nil, rfl, by omega, B, v0, Or.inl ⟨rfl, by rw [hs0]⟩, by rw [hs0]; rfl⟩, ?_⟩
 rintro k f h' ⟨i, ro', s, dE, hf, hki, B, V, E, P⟩
 simp only [List.cons.injEq, and_true] at hf
 rw [hf, bK]
 by_cases hi : (i : Int) < n
 case neg =>
  simp only [hi, decide_false, ↓RI, ↓gf, ↓ae, ai, true_and]
  have : k = 0 := by omega
  subst this
  exact ⟨ro', s, dE, B, V, E, P⟩
 obtain ⟨k, rfl⟩ : ∃ k', k = k' + 1 := ⟨k - 1, by omega⟩
 simp only [afterP] at P
 simp only [hi, decide_true, ↓GD, ↓dY, ↓bf (B.used 0 rfl), Nat.zero_add, B.cP 0 (j := 1) rfl rfl rfl, ↓cH]
 by_cases h3 : s.it.at_ = 3
 ·simp only [h3, decide_true, Bool.not_true, ↓ae, ai, true_and]
  rw [if_pos h3] at P
  exact ⟨ro', s, dE, B, V, E, P⟩
 rw [if_neg h3] at P
 simp only [h3, decide_false, Bool.not_false, ↓af]
 refine ⟨fun _ h' => ∃ (ro' : Ro) (s : sO) (dE : D), bJ aJ qC h' ro' [(n4, .agg (sx s dE)), (n3, .agg sX), (n2, l.e), (n1, c.e)] /\ Gw c l s /\ PZ dE s.ev /\ zY c l id n m = afterP c l k (i + 1) s, ?_, ?_⟩
 ·rintro _ h' ⟨ro', s, dE, B, V, E, P⟩
  rw [bt, GB (i := i) (by omega)]
  exact ⟨by simp, k, by omega, i + 1, ro', s, dE, rfl, by omega, B, V, E, P⟩
 simp only [↓bf (B.used 0 rfl), Nat.zero_add, B.cP 0 (j := 1) rfl rfl rfl, ↓aM]
 have NX : ∀ {K : HK}, ab PP (.ld (.c (.ptr n4 0 0)) 7 true) h' K = K s.it.e h' := fun {K} => B.qP 0 (j := 0) (s := 7) (e := s.it.e) rfl rfl rfl (Nat.le_of_ble_eq_true rfl)
 by_cases h2 : s.it.at_ = 2
 ·simp only [h2, decide_true, ↓af, B.dh (s := 8) 3 rfl rfl rfl, ↓bf (B.used 0 rfl), Nat.zero_add, NX, ↓bI]
  refine ⟨by simp, ?_⟩
  rw [cq]
  refine ba (L0 hc V.it.toNR) ⟨Code.bZ c, It.bZ _, bb, trivial⟩ ?_
  have pv := Is hc V.it (cZ ((i : Int).tmod 3))
  unfold oW at pv
  obtain ⟨p, hp⟩ : ∃ p, p = jW c s.it (IntKind.i32.wrap ((i : Int).tmod 3)) := ⟨_, rfl⟩
  rw [<- hp] at pv ⊢
  rw [show pa p = .agg (p.1.cs ++ [.int .i64 p.2]) from rfl, MM, cw]
  refine ⟨by simp [It.cs], ?_⟩
  simp only [↓bf (B.used 0 rfl), Nat.zero_add]
  rw [dq, B.get 0 rfl]
  refine ⟨by simp [It.cs], fun x hx => ?_, rfl, by simp, ?_⟩
  ·exact lU p x (List.mem_of_mem_take (by simpa [pa] using hx))
  have B := B.av 0 rfl (.agg (sx { s with it := p.1 } dE))
  exact ⟨by simp, ro', { s with it := p.1 }, dE, B, ⟨pv, V.g, V.s⟩, E, by rw [if_pos h2] at P; rw [P, hp]⟩
 simp only [h2, decide_false, ↓ae, B.dh (s := 8) 3 rfl rfl rfl, B.dh (s := 2) 2 rfl rfl rfl, ↓bf (B.used 0 rfl), Nat.zero_add, NX, B.cP 0 (j := 7) rfl rfl rfl, B.cP 0 (j := 8) rfl rfl rfl]
 rw [cB rfl]
 refine ba (LZ (g := s.g) (s := s.s) hc hl V.it.toNR V.g V.s) ⟨Code.bZ c, dt.bZ l, It.bZ _, My _ _, bb, trivial⟩ ?_
 obtain ⟨V2, -⟩ := H8 (av := (i : Int)) hc hl V.it V.g V.s
 obtain ⟨q, hq⟩ : ∃ q, q = dV c l s.it s.g s.s (i : Int) := ⟨_, rfl⟩
 rw [<- hq] at V2 ⊢
 refine B.alloc fun n5 h6 ro6 B => ?_
 refine B.mD 0 (cs' := sx q (.sl (q.ev.map Ev.e))) rfl rfl rfl (DJ rfl) fun h7 B => ?_
 simp only [↓bf (B.used 0 rfl), Nat.zero_add, B.cP 0 (j := 10) rfl rfl rfl, ↓cH]
 by_cases he : q.e = 0
 case neg =>
  simp only [he, decide_false, Bool.not_false, ↓af]
  rw [B.dh (s := 11) 1 rfl rfl rfl]
  refine B.mD 2 (cs' := sx s dE) rfl rfl rfl (DJ E.one) fun h8 B => ?_
  rw [B.dh (s := 11) 2 rfl rfl rfl]
  rw [if_neg h2, <- hq, if_neg he] at P
  exact Lw E (by rw [P])
 simp only [he, decide_true, Bool.not_true, ↓ae]
 rw [B.dh (s := 11) 0 rfl rfl rfl]
 refine B.mD 1 (cs' := sx q (.sl (q.ev.map Ev.e))) rfl rfl rfl (DJ rfl) fun h8 B => ?_
 rw [if_neg h2, <- hq, if_pos he] at P
 exact ⟨by simp, ro6, q, _, B.tail, V2, Or.inr rfl, P⟩
abbrev DV (c : Code) (x y : D) (r : List D) : List D := [.int .i64 c.group, .int .i64 c.sub, .int .i64 c.regs, .int .i64 c.slots, .int .i64 c.params, .sl (c.arrays.map bM.e), .sl (c.loops.map Loop.e), .sl (c.b.map Block.e), x, y] ++ r
def F1 (c : Code) (l : dt) (s : sO) : D := .agg (DV c (.int .i64 l.groups) (words l.args) (Lx s))
theorem Jz (c : Code) (l : dt) (s : sO) : aw (F1 c l s) := fun x hx => by
 simp [F1, words, aO] at hx
 rcases hx with rfl | rfl | rfl | rfl | rfl | rfl | rfl | rfl | rfl | rfl | rfl | rfl | rfl | rfl | rfl | rfl | rfl | rfl | rfl | rfl | rfl <;> rfl
theorem OG (c : Code) (l : dt) (s : sO) : v7 (F1 c l s) := cN (by simp [words, aO])
def cX (g : Int) (zs : List Int) (id st : Int) : D := .agg (.int .u8 g :: zs.map (.int .i8) ++ [.int .u8 id, .int .u8 st])
theorem DU (g : Int) (zs : List Int) (id st : Int) : aw (cX g zs id st) := fun x hx => by
 simp [cX] at hx
 rcases hx with rfl | ⟨z, -, rfl⟩ | rfl | rfl <;> rfl
theorem DT {g : Int} {zs : List Int} {id st : Int} (hz : zs.length = 12) : D.agg (((cX g zs id st).cells.drop 0).take 13) = Gc g zs := by
 simp only [cX, bV, List.drop_zero, Gc]
 congr 1
 rw [List.take_append_of_le_length (by simp [hz]), List.take_of_length_le (by simp [hz])]
theorem Fu {g : Int} {zs : List Int} {id st : Int} (hz : zs.length = 12) : (cX g zs id st).cells[13]? = some (.int .u8 id) := by
 simp only [cX, bV]
 rw [List.getElem?_append_right (by simp [hz])]
 simp [hz]
theorem Kl {g : Int} {zs : List Int} {id st : Int} (hz : zs.length = 12) : (cX g zs id st).cells[14]? = some (.int .u8 st) := by
 simp only [cX, bV]
 rw [List.getElem?_append_right (by simp [hz])]
 simp [hz]
structure Gx (g : Int) (zs : List Int) (id st : Int) : Prop where
 g : 0 <= g /\ g <= 255
 z : zs.length = 12
 id : 0 <= id /\ id <= 255
 st : 0 <= st /\ st <= 255
abbrev N0 : List D := [.int .i64 0, .int .i64 0, .int .i64 0, .int .i64 0, .nil, .nil, .nil, .nil, .nil, .nil, .int .i64 0]
abbrev Td : List D := [.int .i64 0, .int .i64 0, .int .i64 0, .int .i64 0, .int .i64 0, .nil, .nil, .nil, .int .i64 0, .nil, .int .i64 0, .int .i64 0, .int .i64 0, .int .i64 0, .nil, .nil, .nil, .nil, .nil, .nil, .int .i64 0]
theorem MF {bs : List Nat} {g : Int} {zs : List Int} {id st : Int} (hb : ∀ b ∈ bs, b <= 255) (hbl : bs.length <= 9223372036854775807) (hp : Gx g zs id st) :
  aD PP la [jJ bs, cX g zs id st] (fun r => ∃ (c : Code) (l : dt) (s : sO), bq c /\ lF c l /\ Gw c l s /\ r = F1 c l s) := by
 refine bc yO (aA _ _ _) rfl (xK _ _ _) ?_
 (unfold rL; try dsimp only [xL, yL, xF, yF, xI, yI, xS, zI, zJ])
 have hz := hp.z
 have rvd : (jJ bs).vd = true /\ aw (jJ bs) := (cN (by simp [wg]) : v7 (jJ bs)).pair
 refine bJ.start.box rvd.2 fun n1 h1 ro1 B => ?_
 refine B.box (DU g zs id st) fun n2 h2 ro2 B => ?_
 refine B.alloc fun n3 h3 ro3 B => ?_
 rw [B.dh (s := 1) 2 rfl rfl rfl]
 refine bE (Ru hb hbl) (fun d hd => by simp at hd; subst hd; exact rvd) ?_
 rintro _ ⟨c, hco, rfl⟩
 have hc := Np hco
 rw [cB rfl]
 refine B.alloc fun n4 h4 ro4 B => ?_
 refine B.mD 0 (cs' := DV c (.int .i64 0) .nil N0) rfl rfl rfl (by simp) fun h5 B => ?_
 refine ⟨fun _ h' => ∃ (ro' : Ro) (c : Code), bq c /\ bJ aJ qC h' ro' [(n4, .agg (DV c (.int .i64 0) .nil N0)), (n3, .agg Td), (n2, cX g zs id st), (n1, jJ bs)], ?_, ?_⟩
 ·rintro _ h' ⟨ro', c, hc, B⟩
  clear hco
  have cP : ∀ {K : HK}, ab PP (.ld (.c (.ptr n4 0 0)) 8 true) h' K = K c.e h' := fun {K} => B.qP 0 (j := 0) (s := 8) (e := c.e) rfl rfl rfl (Nat.le_of_ble_eq_true rfl)
  have ldr : ∀ {K : HK}, ab PP (.ld (.c (.ptr n2 0 0)) 13 true) h' K = K (Gc g zs) h' := fun {K} => B.qP 2 (j := 0) (s := 13) rfl (DT hz) rfl (by simp [cX, hz])
  simp only [↓bf (B.used 0 rfl), ↓bf (B.used 2 rfl), Nat.zero_add, cP, ldr]
  have rld : (Gc g zs).vd = true /\ aw (Gc g zs) := ⟨by simp [Gc, D.vd, D.vone], Gb g zs⟩
  refine bE (L3 hc hp.g hz) (fun d hd => by simp at hd; rcases hd with rfl | rfl; exact ju c; exact rld) ?_
  rintro _ ⟨l, hl, rfl⟩
  obtain ⟨g1, g2, g3⟩ := C5 hc hl
  simp only [↓bf (B.used 0 rfl), Nat.zero_add]
  rw [dq, B.get 0 rfl]
  refine ⟨rfl, om l, rfl, by simp, ?_⟩
  have B : bJ aJ qC _ ro' [(n4, .agg (DV c (.int .i64 l.groups) (words l.args) N0)), (n3, .agg Td), (n2, cX g zs id st), (n1, jJ bs)] := B.av 0 rfl (.agg (DV c (.int .i64 l.groups) (words l.args) N0))
  have eset : setCells (.agg (DV c (.int .i64 0) .nil N0)) 8 l.e.cells = .agg (DV c (.int .i64 l.groups) (words l.args) N0) := rfl
  rw [eset]
  generalize ah h' n4 (.box (.agg (DV c (.int .i64 l.groups) (words l.args) N0))) = h6 at B
  simp only [↓bf (B.used 2 rfl), ↓bf (B.used 0 rfl), Nat.zero_add, Nat.add_zero, B.cP 2 (j := 13) rfl (Fu hz) rfl, ↓cq, B.cP 0 (j := 8) rfl rfl rfl, B.cP 0 (j := 0) rfl rfl rfl, ↓fT, ↓bI]
  have hid := hp.id
  have hst := hp.st
  rw [g1, wrap64 (n := id) (by omega) (by omega)]
  refine ⟨by omega, ?_⟩
  have hidx := Dq hid.1 (show 0 < l.groups * c.group by omega)
  obtain ⟨t1, t2⟩ := Dq hst.1 (show (0 : Int) < 13 by omega)
  have cP : ∀ {K : HK}, ab PP (.ld (.c (.ptr n4 0 0)) 8 true) h6 K = K c.e h6 := fun {K} => B.qP 0 (j := 0) (s := 8) (e := c.e) rfl rfl rfl (Nat.le_of_ble_eq_true rfl)
  have ldl : ∀ {K : HK}, ab PP (.ld (.c (.ptr n4 0 8)) 2 true) h6 K = K l.e h6 := fun {K} => B.qP 0 (j := 8) (s := 2) (e := l.e) rfl rfl rfl (Nat.le_of_ble_eq_true rfl)
  have ldr : ∀ {K : HK}, ab PP (.ld (.c (.ptr n2 0 0)) 13 true) h6 K = K (Gc g zs) h6 := fun {K} => B.qP 2 (j := 0) (s := 13) rfl (DT hz) rfl (by simp [cX, hz])
  simp only [↓aH, B.used 0 rfl, B.used 2 rfl, Nat.zero_add, true_and, ↓bO, cP, ldl, B.cP 2 (j := 14) rfl (Kl hz) rfl, ↓bI]
  refine ⟨by simp, ?_⟩
  simp only [↓ow, ↓cq, ↓aH, B.used 0 rfl, B.used 2 rfl, Nat.zero_add, true_and, ↓bO, cP, ldr]
  rw [wrap64 (by omega) (by omega)]
  refine ox (L2 (g := g) hc hz) (fun d hd => by simp [Arg.get] at hd; rcases hd with rfl | rfl; exact ju c; exact rld) ?_
  refine ir (Ox hc hl hidx ⟨t1, by omega⟩ (Mz c zs)) ⟨Code.bZ c, dt.bZ l, bb, bb, eR, trivial⟩ ?_
  obtain ⟨s, hs⟩ : ∃ s, s = zY c l (id.tmod (l.groups * c.group)) (st.tmod 13) (OV c zs) := ⟨_, rfl⟩
  have V := NL (n := st.tmod 13) hc hl hidx (Mz c zs)
  rw [<- hs] at V ⊢
  rw [dq, B.get 0 rfl]
  refine ⟨rfl, sG s, rfl, by simp, ?_⟩
  have B : bJ aJ qC _ ro' [(n4, F1 c l s), (n3, .agg Td), (n2, cX g zs id st), (n1, jJ bs)] := B.av 0 rfl (F1 c l s)
  have eset : setCells (.agg (DV c (.int .i64 l.groups) (words l.args) N0)) 10 (gq s).cells = F1 c l s := rfl
  rw [eset]
  generalize ah h6 n4 (.box (F1 c l s)) = h7 at B
  rw [B.dh (s := 21) 0 rfl rfl rfl]
  refine B.mD 1 (cs' := DV c (.int .i64 l.groups) (words l.args) (Lx s)) rfl rfl rfl (Jz c l s) fun h8 B => ?_
  rw [B.dh (s := 21) 1 rfl rfl rfl]
  exact il (OG c l s) ⟨c, l, s, hc, hl, V, rfl⟩
 simp only [↓bf (B.used 2 rfl), Nat.zero_add, B.cP 2 (j := 13) rfl (Fu hz) rfl, ↓hY]
 by_cases h128 : (128 : Int) <= id
 case neg =>
  simp only [h128, decide_false, ↓ae, ai, true_and]
  exact ⟨ro4, c, hc, B⟩
 have cP : ∀ {K : HK}, ab PP (.ld (.c (.ptr n4 0 0)) 8 true) h5 K = K c.e h5 := fun {K} => B.qP 0 (j := 0) (s := 8) (e := c.e) rfl rfl rfl (Nat.le_of_ble_eq_true rfl)
 simp only [h128, decide_true, ↓af, ↓bf (B.used 0 rfl), Nat.zero_add, cP]
 refine ba (L1 hc) ⟨Code.bZ c, trivial⟩ ?_
 simp only [↓bf (B.used 0 rfl), Nat.zero_add]
 rw [dq, B.get 0 rfl]
 refine ⟨rfl, (ju (lQ c)).2, rfl, by simp, ?_⟩
 exact ⟨by simp, ro4, lQ c, Mr hc, B.av 0 rfl (.agg (DV (lQ c) (.int .i64 0) .nil N0))⟩
end Go.Am
