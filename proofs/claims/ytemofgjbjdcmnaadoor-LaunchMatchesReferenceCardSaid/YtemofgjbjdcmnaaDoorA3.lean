/- The abstract machine: what the operations of the program do, on plain data. No condition. -/
import Derived.RowKit
import Derived.Test.YtemofgjbjdcmnaaDoorA2
set_option linter.defProp false
set_option linter.unusedSectionVars false
set_option linter.unusedSimpArgs false
set_option linter.unusedVariables false
/- The abstract machine, part 35: an argument of plain data, as pure data. No condition. -/
namespace Go.Am
open Go

variable [GTab]
variable {H : Type} {enc : TypeId × Value → H} {P : Program}

def mkElem (P : Program) (e : TypeId) (cs : List D) : D :=
  match P.underlying e with
  | some (.struct _) => .agg cs
  | some (.array _ _) => .agg cs
  | _ => cs.headD .undef

/-- Cells of a type of plain data. -/
def HasTy (P : Program) : Nat → TypeId → List D → Prop
  | 0, _, _ => False
  | n + 1, t, ds => match P.underlying t with
    | some .bool => ∃ b, ds = [.bool b]
    | some (.int k) => ∃ i, ds = [.int k i] ∧ (Lit.int k i).wf = true
    | some .string => ∃ s : ByteArray, ds = [.str s] ∧ s.size ≤ maxLen
    | some (.slice e) => ∃ xs : List (List D), ds = [.sl (xs.map (mkElem P e))] ∧ xs.length ≤ maxLen ∧ ∀ x, x ∈ xs → HasTy P n e x
    | some (.struct fs) => ds.length = P.cellsOf t ∧ ∀ f, f ∈ fs.toList → HasTy P n f.type ((ds.drop f.offset).take (P.cellsOf f.type))
    | some (.array m e) => ds.length = P.cellsOf t ∧ ∀ i, i < m → HasTy P n e ((ds.drop (i * P.cellsOf e)).take (P.cellsOf e))
    | _ => False

/-- Parts that lie one behind the other, and fill a whole. -/
def contig (P : Program) (total : Nat) : List (TypeId × Nat) → Nat → Bool
  | [], o => o == total
  | f :: r, o => f.2 == o && contig P total r (o + P.cellsOf f.1)
/-- Types of plain data, looked at by program. -/
def plainT (P : Program) : Nat → TypeId → Bool
  | 0, _ => false
  | n + 1, t => match P.underlying t with
    | some .bool => P.cellsOf t == 1
    | some (.int _) => P.cellsOf t == 1
    | some .string => P.cellsOf t == 1
    | some (.slice e) => P.cellsOf t == 1 && decide (0 < P.cellsOf e) && plainT P n e
    | some (.struct fs) => fs.toList.all (fun f => plainT P n f.type) && contig P (P.cellsOf t) (fs.toList.map fun f => (f.type, f.offset)) 0
    | some (.array m e) => plainT P n e && contig P (P.cellsOf t) ((List.range m).map fun i => (e, i * P.cellsOf e)) 0
    | _ => false

theorem head_cells {cs : List D} (h1 : cs.length = 1) (hv : ∀ (i : Nat) (x : D), cs[i]? = some x → x.vone = true) : (cs.headD .undef).cells = cs := by
  cases cs with
  | nil => simp at h1
  | cons d r =>
    have : r = [] := List.eq_nil_of_length_eq_zero (by simpa using h1)
    subst this
    have := hv 0 d rfl
    cases d <;> simp_all [D.vone]

theorem mkElem_cells {n : Nat} {e : TypeId} {cs : List D} (hp : plainT P n e = true) (hl : cs.length = P.cellsOf e) (hv : ∀ (i : Nat) (x : D), cs[i]? = some x → x.vone = true) : (mkElem P e cs).cells = cs := by
  unfold mkElem
  split
  · rfl
  · rfl
  · cases n with
    | zero => simp [plainT] at hp
    | succ n =>
      unfold plainT at hp
      split at hp
      · exact head_cells (by rw [hl]; simpa using hp) hv
      · exact head_cells (by rw [hl]; simpa using hp) hv
      · exact head_cells (by rw [hl]; simpa using hp) hv
      · simp only [Bool.and_eq_true] at hp
        exact head_cells (by rw [hl]; simpa using hp.1.1) hv
      · rename_i h1 h1' _ fs h2; first | exact absurd h2 (h1 _) | exact absurd h2 (h1' _)
      · rename_i h1 h1' _ m e' h2; first | exact absurd h2 (h1' _ _) | exact absurd h2 (h1 _ _)
      · cases hp

theorem parts {c : Ctx} {m : Nat} {total : Nat} (cs : List Value) (hcs : cs.length = total) : ∀ (l : List (TypeId × Nat)) (o : Nat), contig P total l o = true →
    (∀ f, f ∈ l → ∃ ds : List D, HasTy P m f.1 ds ∧ ds.length = P.cellsOf f.1 ∧ ∀ (i : Nat) (d : D), ds[i]? = some d → d.vone = true ∧ RelD c d (((cs.drop f.2).take (P.cellsOf f.1)).getD i Go.undef)) →
    ∃ ds : List D, ds.length = cs.length - o ∧ (∀ f, f ∈ l → HasTy P m f.1 ((ds.drop (f.2 - o)).take (P.cellsOf f.1)) ∧ o ≤ f.2) ∧ ∀ (i : Nat) (d : D), ds[i]? = some d → d.vone = true ∧ RelD c d (cs.getD (o + i) Go.undef)
  | [], o, hc, _ => by
    simp only [contig, beq_iff_eq] at hc
    exact ⟨[], by simp; omega, by simp, by simp⟩
  | f :: r, o, hc, hf => by
    simp only [contig, Bool.and_eq_true, beq_iff_eq] at hc
    obtain ⟨hfo, hcr⟩ := hc
    obtain ⟨d1, a1, a2, a3⟩ := hf f (by simp)
    obtain ⟨d2, b1, b2, b3⟩ := parts cs hcs r (o + P.cellsOf f.1) hcr (fun g hg => hf g (by simp [hg]))
    have hle : o + P.cellsOf f.1 ≤ total := by
      have : ∀ (l : List (TypeId × Nat)) (o : Nat), contig P total l o = true → o ≤ total := by
        intro l
        induction l with
        | nil => intro o h; simp [contig] at h; omega
        | cons g s ih => intro o h; simp only [contig, Bool.and_eq_true, beq_iff_eq] at h; have := ih _ h.2; omega
      exact this _ _ hcr
    refine ⟨d1 ++ d2, by simp; omega, fun g hg => ?_, fun i d hd => ?_⟩
    · rcases List.mem_cons.1 hg with rfl | hg
      · refine ⟨?_, by omega⟩
        rw [hfo, Nat.sub_self, List.drop_zero, List.take_append_of_le_length (by omega), List.take_of_length_le (by omega)]
        exact a1
      · obtain ⟨k1, k2⟩ := b2 g hg
        refine ⟨?_, by omega⟩
        rw [show g.2 - o = d1.length + (g.2 - (o + P.cellsOf f.1)) by omega, List.drop_append, List.drop_eq_nil_of_le (by omega), List.nil_append, Nat.add_sub_cancel_left]
        exact k1
    · by_cases hi : i < d1.length
      · rw [List.getElem?_append_left hi] at hd
        obtain ⟨k1, k2⟩ := a3 i d hd
        refine ⟨k1, ?_⟩
        have e1 : ((cs.drop f.2).take (P.cellsOf f.1)).getD i Go.undef = cs.getD (o + i) Go.undef := by
          simp only [List.getD, List.getElem?_take, List.getElem?_drop]
          rw [if_pos (by omega), hfo]
        rw [e1] at k2; exact k2
      · rw [List.getElem?_append_right (by omega)] at hd
        obtain ⟨k1, k2⟩ := b3 _ d hd
        refine ⟨k1, ?_⟩
        rw [show o + P.cellsOf f.1 + (i - d1.length) = o + i by omega] at k2
        exact k2

theorem trod_rel {W : World} {sp : Nat → Bool} {c : Ctx} (hp : c.hp = W.heap) (hown : ∀ g, ¬ c.own g) : ∀ (m : Nat) (t : TypeId), plainT P m t = true → ∀ (n : Nat) (cs : List Value) (x : DataW H × List MemPlace), DataW.trod enc P W 0 sp true n t cs = some x →
    cs.length = P.cellsOf t ∧ ∃ ds : List D, HasTy P m t ds ∧ ds.length = cs.length ∧ ∀ (i : Nat) (d : D), ds[i]? = some d → d.vone = true ∧ RelD c d (cs.getD i Go.undef) := by
  intro m
  induction m with
  | zero => intro t h; simp [plainT] at h
  | succ m ih =>
    intro t hpt n cs x h
    unfold plainT at hpt
    have one : ∀ (d : D) (v : Value), cs = [v] → d.vone = true → RelD c d v → ([d] : List D).length = cs.length ∧ ∀ (i : Nat) (d' : D), [d][i]? = some d' → d'.vone = true ∧ RelD c d' (cs.getD i Go.undef) := by
      rintro d v rfl h1 h2
      refine ⟨rfl, fun i d' hd => ?_⟩
      cases i with
      | zero => simp at hd; subst hd; exact ⟨h1, by simpa using h2⟩
      | succ i => simp at hd
    split at hpt
    · -- bool
      rename_i hu
      cases n with
      | zero => simp [DataW.trod] at h
      | succ n =>
        unfold DataW.trod at h
        rw [hu] at h
        split at h <;> simp_all
        rename_i b
        exact ⟨[.bool b], by unfold HasTy; rw [hu]; exact ⟨b, rfl⟩, by simp, fun i d hd => by
          cases i with
          | zero => simp at hd; subst hd; exact ⟨rfl, by simpa using RelD.bool (c := c) b⟩
          | succ i => simp at hd⟩
    · rename_i k hu
      cases n with
      | zero => simp [DataW.trod] at h
      | succ n =>
        unfold DataW.trod at h
        rw [hu] at h
        split at h <;> simp_all
        rename_i kq kq' i' hq
        have hkk := h.1.1
        subst hkk
        exact ⟨[.int kq' i'], by unfold HasTy; rw [hu]; exact ⟨i', rfl, h.1.2⟩, by simp, fun i d hd => by
          cases i with
          | zero => simp at hd; subst hd; exact ⟨rfl, by simpa using RelD.int (c := c) kq' i'⟩
          | succ i => simp at hd⟩
    · rename_i hu
      cases n with
      | zero => simp [DataW.trod] at h
      | succ n =>
        unfold DataW.trod at h
        rw [hu] at h
        split at h <;> simp_all
        rename_i s
        exact ⟨[.str s], by unfold HasTy; rw [hu]; exact ⟨s, rfl, h.1⟩, by simp, fun i d hd => by
          cases i with
          | zero => simp at hd; subst hd; exact ⟨rfl, by simpa using RelD.str (c := c) s⟩
          | succ i => simp at hd⟩
    · -- slice
      rename_i e hu
      simp only [Bool.and_eq_true, beq_iff_eq, decide_eq_true_eq] at hpt
      obtain ⟨⟨hc1, hpos⟩, hpe⟩ := hpt
      rcases DataW.trod_slice hu h with ⟨rfl, _⟩ | ⟨a, len, cap, elems, rest, n', rfl, rfl, _, hb, hl, hm, hlen, hel, _, _⟩
      · refine ⟨by rw [hc1]; rfl, [.sl []], ?_, one (.sl []) _ rfl rfl (.slE none 0 (by simp [maxLen]))⟩
        unfold HasTy; rw [hu]
        exact ⟨[], rfl, by simp [maxLen], by simp⟩
      · -- each element
        have each : ∀ i, i < len → ∃ (vs : List Value) (ds : List D), W.cells? 0 (a.add (i * P.cellsOf e)) (P.cellsOf e) = some vs ∧ HasTy P m e ds ∧ ds.length = P.cellsOf e ∧ vs.length = P.cellsOf e ∧ ∀ (j : Nat) (d : D), ds[j]? = some d → d.vone = true ∧ RelD c d (vs.getD j Go.undef) := by
          intro i hi
          have h1 := hel i hi
          have h2 : elems[i]? = some (elems[i]'(by omega)) := by simp [show i < elems.length by omega]
          rw [h2, Option.bind_eq_some_iff] at h1
          obtain ⟨vs, h3, h4⟩ := h1
          obtain ⟨k1, ds, k2, k3, k4⟩ := ih e hpe n' vs _ h4
          exact ⟨vs, ds, h3, k2, k3.trans k1, k1, k4⟩
        let vf : Nat → List Value := fun i => if h : i < len then (each i h).choose else []
        let df : Nat → List D := fun i => if h : i < len then (each i h).choose_spec.choose else []
        have spec : ∀ i, i < len → W.cells? 0 (a.add (i * P.cellsOf e)) (P.cellsOf e) = some (vf i) ∧ HasTy P m e (df i) ∧ (df i).length = P.cellsOf e ∧ (vf i).length = P.cellsOf e ∧ ∀ (j : Nat) (d : D), (df i)[j]? = some d → d.vone = true ∧ RelD c d ((vf i).getD j Go.undef) := by
          intro i hi
          simp only [vf, df, dif_pos hi]
          exact (each i hi).choose_spec.choose_spec
        let xs : List (List D) := (List.range len).map df
        have hxl : xs.length = len := by simp [xs]
        have hxi : ∀ i, i < len → xs[i]? = some (df i) := by intro i hi; simp [xs, hi]
        have hcellsE : ∀ i, i < len → (mkElem P e (df i)).cells = df i := fun i hi => mkElem_cells hpe (spec i hi).2.2.1 (fun j x hx => ((spec i hi).2.2.2.2 j x hx).1)
        refine ⟨by rw [hc1]; rfl, [.sl (xs.map (mkElem P e))], ?_, ?_⟩
        · unfold HasTy; rw [hu]
          refine ⟨xs, rfl, by rw [hxl]; omega, fun x hx => ?_⟩
          obtain ⟨i, hi, rfl⟩ := List.mem_map.1 hx
          exact (spec i (by simpa using hi)).2.1
        · have hl0 : len = (xs.map (mkElem P e)).length := by simp [hxl]
          refine one _ _ rfl rfl ?_
          by_cases h0 : len = 0
          · subst h0
            have : xs = [] := List.eq_nil_of_length_eq_zero hxl
            rw [this]
            exact .slE _ cap hm
          · have hz := (World.cells?_some (spec 0 (by omega)).1).2.2 0 (by omega)
            have hcell0 : ∃ v, W.cell? a = some v := by
              have e0 : (a.add (0 * P.cellsOf e)).add 0 = a := by simp [Addr.add]
              rw [e0] at hz
              have : 0 < (vf 0).length := by rw [(spec 0 (by omega)).2.2.2.1]; exact hpos
              exact ⟨(vf 0)[0], by rw [hz]; simp [this]⟩
            obtain ⟨v0, hv0⟩ := hcell0
            have hspot : a = ⟨a.block, a.off, none⟩ := by
              unfold World.cell? at hv0
              split at hv0
              · split at hv0
                · cases hv0
                · rename_i hs
                  obtain ⟨b, o, s⟩ := a
                  cases s with
                  | none => rfl
                  | some s => simp at hs
              · cases hv0
            have hci : ∀ i j d, cellIn (xs.map (mkElem P e)) i j = some d → i < len ∧ (df i)[j]? = some d := by
              intro i j d hd
              unfold cellIn at hd
              rw [List.getElem?_map] at hd
              by_cases hi : i < len
              · rw [hxi i hi] at hd
                simp only [Option.map_some, Option.bind_some] at hd
                rw [hcellsE i hi] at hd
                exact ⟨hi, hd⟩
              · have : xs[i]? = none := List.getElem?_eq_none (by omega)
                rw [this] at hd; simp at hd
            have := RelD.sl (c := c) (xs.map (mkElem P e)) a.block a.off cap (P.cellsOf e) (fun i j => (vf i).getD j Go.undef) (by intro he; rw [he] at hl0; simp at hl0; omega) (by rw [← hl0]; exact hl) hm hpos
              (fun x hx => by
                obtain ⟨y, hy, rfl⟩ := List.mem_map.1 hx
                obtain ⟨i, hi, rfl⟩ := List.mem_map.1 hy
                rw [hcellsE i (by simpa using hi)]
                exact (spec i (by simpa using hi)).2.2.1)
              (fun i j d hd => by
                obtain ⟨hi, hj⟩ := hci i j d hd
                exact ((spec i hi).2.2.2.2 j d hj).1)
              (fun i j d hd => by
                obtain ⟨hi, hj⟩ := hci i j d hd
                have hjl := (List.getElem?_eq_some_iff.1 hj).1
                rw [(spec i hi).2.2.1] at hjl
                have hz := (World.cells?_some (spec i hi).1).2.2 j hjl
                have e1 : (a.add (i * P.cellsOf e)).add j = ⟨a.block, a.off + (i * P.cellsOf e + j), none⟩ := by
                  have hadd : ∀ (b o x : Nat), ((⟨b, o, none⟩ : Addr).add x).add j = ⟨b, o + (x + j), none⟩ := by
                    intro b o x
                    rw [Addr.add_lit, Addr.add_lit, Nat.add_assoc]
                  have := hadd a.block a.off (i * P.cellsOf e)
                  rw [← hspot] at this
                  exact this
                rw [e1, cell?_eq] at hz
                rw [hp, hz]
                have hjv : j < (vf i).length := by rw [(spec i hi).2.2.2.1]; exact hjl
                simp [List.getD, hjv])
              (hown _) (fun i j d hd => by
                obtain ⟨hi, hj⟩ := hci i j d hd
                exact ((spec i hi).2.2.2.2 j d hj).2)
            rw [← hl0] at this
            rw [hspot]
            exact this
    · -- struct
      rename_i fs hu
      simp only [Bool.and_eq_true, List.all_eq_true] at hpt
      obtain ⟨hpf, hcov⟩ := hpt
      obtain ⟨xs, n', rfl, _, hcl, hxl, hf⟩ := DataW.trod_struct hu h
      obtain ⟨ds, q1, q2, q3⟩ := parts (c := c) (m := m) cs (by rw [hcl]) _ 0 hcov (fun f hfm => by
        simp only [List.mem_map] at hfm
        obtain ⟨f', hf', rfl⟩ := hfm
        obtain ⟨i, hi⟩ := List.getElem?_of_mem hf'
        have h1 := hf i f' (by simpa using hi)
        have hix : i < xs.length := by
          have := (List.getElem?_eq_some_iff.1 hi).1
          rw [hxl]; simpa using this
        have h2 : xs[i]? = some xs[i] := by simp [hix]
        rw [h2] at h1
        obtain ⟨k1, ds, k2, k3, k4⟩ := ih f'.type (hpf f' hf') n' _ _ h1
        exact ⟨ds, k2, k3.trans k1, k4⟩)
      refine ⟨hcl, ds, ?_, by simpa using q1, fun i d hd => by simpa using q3 i d hd⟩
      unfold HasTy; rw [hu]
      exact ⟨by rw [q1, hcl]; rfl, fun f hf => by simpa using (q2 (f.type, f.offset) (List.mem_map.2 ⟨f, hf, rfl⟩)).1⟩
    · -- array
      rename_i k e hu
      simp only [Bool.and_eq_true] at hpt
      obtain ⟨hpe, hcov⟩ := hpt
      obtain ⟨xs, n', rfl, _, hcl, hxl, hf⟩ := DataW.trod_array hu h
      obtain ⟨ds, q1, q2, q3⟩ := parts (c := c) (m := m) cs (by rw [hcl]) _ 0 hcov (fun f hfm => by
        simp only [List.mem_map, List.mem_range] at hfm
        obtain ⟨i, hi, rfl⟩ := hfm
        have h1 := hf i hi
        have h2 : xs[i]? = some (xs[i]'(by omega)) := by simp [show i < xs.length by omega]
        rw [h2] at h1
        obtain ⟨k1, ds, k2, k3, k4⟩ := ih e hpe n' _ _ h1
        exact ⟨ds, k2, k3.trans k1, k4⟩)
      refine ⟨hcl, ds, ?_, by simpa using q1, fun i d hd => by simpa using q3 i d hd⟩
      unfold HasTy; rw [hu]
      exact ⟨by rw [q1, hcl]; rfl, fun i hi => by simpa using (q2 (e, i * P.cellsOf e) (List.mem_map.2 ⟨i, by simpa using hi, rfl⟩)).1⟩
    · cases hpt

end Go.Am
/- The abstract machine, part 36: a law's row, from what is shown of its function on pure data. No condition. -/
namespace Go.Am
open Go

variable [GTab]
variable {H : Type} {enc : TypeId × Value → H} {P : Program}

theorem notagg {W : World} {r : Reach} {b : Nat} {t : TypeId} {cs : Array Value} (h : Cell.okWide P W r b t (.agg cs)) : False := by
  unfold Cell.okWide at h
  split at h <;> first
    | (rename_i h2; cases h2; done)
    | (rename_i h2 _; cases h2; done)
    | skip
  unfold Cell.ok at h
  split at h <;> first
    | exact h
    | (rename_i h2; cases h2; done)

/-- One argument. -/
theorem arg_rel {W : World} {sp : Nat → Bool} {c : Ctx} (hp : c.hp = W.heap) (hown : ∀ g, ¬ c.own g) {m : Nat} {t : TypeId} (hpt : plainT P m t = true) {base : Nat} {v : Value} {d : DataW H} {ps : List MemPlace}
    (hval : Value.okWide P W .any base t v) (hd : DataW.Trod enc P W 0 sp true t v d ps) : ∃ ds : List D, HasTy P m t ds ∧ RelD c (mkElem P t ds) v := by
  obtain ⟨n, hn⟩ := hd
  obtain ⟨hl, ds, h1, h2, h3⟩ := trod_rel hp hown m t hpt n _ _ hn
  refine ⟨ds, h1, ?_⟩
  have one : (∀ cs, v ≠ .agg cs) → ds.length = 1 → RelD c (ds.headD .undef) v := by
    intro hna h1'
    have hc : v.cells = #[v] := by cases v <;> first | rfl | exact absurd rfl (hna _)
    obtain ⟨x, hx⟩ : ∃ x, ds[0]? = some x := ⟨ds[0]'(by omega), by simp [show 0 < ds.length by omega]⟩
    have := (h3 0 x hx).2
    rw [hc] at this
    have e : ds.headD .undef = x := by
      cases ds with
      | nil => simp at hx
      | cons a r => simpa using hx
    rw [e]; simpa using this
  have agg : ∀ cs, v = .agg cs → RelD c (.agg ds) v := by
    rintro cs rfl
    refine .agg ds cs (by simpa [Value.cells] using h2.symm) (fun i x hx => D.vone_one (h3 i x hx).1) (fun i x hx => ?_)
    have := (h3 i x hx).2
    rw [← toList_getD]
    exact this
  unfold Value.okWide at hval
  unfold mkElem
  cases m with
  | zero => simp [plainT] at hpt
  | succ m =>
    unfold plainT at hpt
    cases hu : P.underlying t with
    | none => rw [hu] at hpt; simp at hpt
    | some u =>
      rw [hu] at hval hpt
      cases u <;> simp only at hval hpt ⊢ <;> first
        | (obtain ⟨cs, rfl, _⟩ := hval; exact agg cs rfl)
        | (refine one (fun cs hc => ?_) ?_
           · subst hc; exact notagg hval
           · rw [h2, hl]; simp only [Bool.and_eq_true, beq_iff_eq] at hpt; first | exact hpt.1.1 | exact hpt)
        | cases hpt

/-- All arguments. -/
def HasTys (P : Program) (m : Nat) : List TypeId → List D → Prop
  | [], ds => ds = []
  | t :: ts, ds => ∃ cs r, ds = mkElem P t cs :: r ∧ HasTy P m t cs ∧ HasTys P m ts r

theorem args_rel {W : World} {sp : Nat → Bool} {c : Ctx} (hp : c.hp = W.heap) (hown : ∀ g, ¬ c.own g) {m base : Nat} : ∀ (ts : List TypeId) (vs : List Value) (ds : List (DataW H)) (ps : List MemPlace), ts.all (plainT P m) = true →
    (∀ (j : Nat) t v, ts[j]? = some t → vs[j]? = some v → Value.okWide P W .any base t v) → DataW.TrodAll enc P W 0 sp true ts vs ds ps → vs.length = ts.length ∧ ds.length = ts.length ∧
      ∃ xs : List D, HasTys P m ts xs ∧ xs.length = ts.length ∧ ∀ (i : Nat) (x : D), xs[i]? = some x → RelD c x (vs.getD i Go.undef)
  | [], vs, ds, ps, _, _, h => by
    obtain ⟨rfl, rfl, rfl⟩ := trodAll_nil' h
    exact ⟨rfl, rfl, [], rfl, rfl, by simp⟩
  | t :: ts, vs, ds, ps, hpt, hval, h => by
    simp only [List.all_cons, Bool.and_eq_true] at hpt
    obtain ⟨v, vs', d, ds', p, q, rfl, rfl, rfl, h1, h2⟩ := ChangeShapes.trodAll_cons h
    obtain ⟨cs, k1, k2⟩ := arg_rel hp hown hpt.1 (hval 0 t v rfl rfl) h1
    obtain ⟨l1, l2, xs, k3, k4, k5⟩ := args_rel hp hown ts vs' ds' q hpt.2 (fun j t v ht hv => hval (j + 1) t v (by simpa using ht) (by simpa using hv)) h2
    refine ⟨by simp [l1], by simp [l2], mkElem P t cs :: xs, ⟨cs, xs, rfl, k1, k3⟩, by simp [k4], fun i x hx => ?_⟩
    cases i with
    | zero => simp at hx; subst hx; simpa using k2
    | succ i => simp at hx; simpa using k5 i x hx
where
  trodAll_nil' {vs : List Value} {ds : List (DataW H)} {ps : List MemPlace} (h : DataW.TrodAll enc P W 0 sp true [] vs ds ps) : vs = [] ∧ ds = [] ∧ ps = [] := ChangeShapes.trodAll_nil h

/-- A LAW: its function gives true on all pure data of its types. -/
theorem law_calls {f : FuncId} {fn : Func} {s : ChangeSpec} {m : Nat} {tb : TypeId} (hpl : fn.params.toList.all (plainT P m) = true) (hrt : fn.resultTypes = #[tb]) (htb : P.underlying tb = some .bool)
    (hvars : s.vars = []) (hspec : ∀ ds : List (DataW H), ds.length = fn.params.size → s.fn H (ds ++ []) = { results := [.lit (.bool true)], args := ds })
    (hl : laidOutB P = true) (hm : mapsRowed P = true) (hfull : ((List.range P.types.size).all fun t => match P.underlying t with | some (.slice e) => decide (0 < P.cellsOf e) | _ => true) = true)
    (hin : ∀ t, t ∈ fn.params.toList → t < P.types.size)
    (hv : ∀ xs, HasTys P m fn.params.toList xs → VCall P f xs (· = .bool true))
    (W : World) (base : Nat) (args : Array Value) (ds gs : List (DataW H)) (before : List MemPlace)
    (hval : ∀ (j : Nat) t v, fn.params[j]? = some t → args[j]? = some v → Value.okWide P W .any base t v)
    (hW : DataW.Whole enc P fn.params.toList s.vars false W args.toList ds gs before)
    (htab : ∀ g vs, GTab.tab g = some vs → g < W.heap.size ∧ ∀ (k : Nat) (v : Value), vs[k]? = some v → cellOf W.heap g k = some v) :
    Calls P f args W fun e W' => ∃ v, e = .returned v ∧ s.post enc P fn false true false false W args v W' := by
  have hW' := hW
  obtain ⟨p, q, hA, hV, rfl, hfz, hnd⟩ := hW
  rw [hvars] at hV
  obtain ⟨rfl, rfl⟩ := ChangeShapes.trodVars_none hV
  let c : Ctx := ⟨fun _ => none, ⟨fun _ => False, 0⟩, noHeap, W.heap⟩
  have hown : ∀ g, ¬ c.own g := by
    rintro g (h | ⟨n, h, _⟩)
    · exact h
    · cases h
  have hr : HeapRel c := ⟨fun n => trivial, fun n m' g h => (by cases h), fun n g h => (by cases h), fun g h => h.elim, ⟨0, fun n _ => rfl⟩, fun g vs hg => ⟨(htab g vs hg).2, hown g, (htab g vs hg).1⟩, Nat.zero_le _⟩
  obtain ⟨l1, l2, xs, h1, h2, h3⟩ := args_rel (c := c) rfl hown fn.params.toList args.toList ds p hpl (fun j t v ht hv => hval j t v (by simpa using ht) (by simpa using hv)) hA
  refine (hv xs h1 c W args (fun _ => rfl) rfl hr (by rw [h2, ← l1]; simp) (fun i x hx => by rw [← toList_getD]; exact h3 i x hx)).mono ?_
  rintro e W' ⟨v, r, rfl, hle, hws, hrel, _, rfl⟩
  have hvt : v = .bool true := by cases hrel; rfl
  subst hvt
  have hk : ∀ b, b < W.heap.size → W'.heap[b]? = W.heap[b]? := fun b hb => hle.keep b hb (fun n hn => by cases hn)
  have hdl : ds.length = fn.params.size := by rw [l2]; simp
  have hsp := hspec ds hdl
  refine ⟨_, rfl, ds, [], p ++ [], [], p, [], hW', ?_, ?_, ?_, ?_, fun h => by cases h⟩
  · rw [hsp, hrt]
    exact ChangeShapes.trodAll_mk1 (RowKit.shut_bool htb true)
  · rw [hsp]
    refine trodAll_keep hk ?_
    exact DataW.TrodAll.respare (kids_rows hl hm) (slices_full_of P hfull) hin hA (fun x hx => by simpa using hW'.lt x (by simpa using hx))
  · rw [hvars, hsp]; rfl
  · refine ⟨hws.os, hws.output, fun i hi => ?_⟩
    rw [hk i hi]
    cases hb : W.heap[i]? with
    | none => rfl
    | some o => cases o <;> simp

end Go.Am
/- Numbers without a sign, and their bits: plain laws. No condition. -/
namespace Go.Am
open Go

theorem iand64 (a b : Nat) (ha : a < 18446744073709551616) (hb : b < 18446744073709551616) : ibits .and .u64 (a : Int) (b : Int) = ((a &&& b : Nat) : Int) := by
  have hx : a &&& b < 2 ^ 64 := Nat.and_lt_two_pow _ (by omega)
  have h1 : (BitVec.ofInt 64 (a : Int)).toNat = a := by
    rw [BitVec.ofInt_natCast, BitVec.toNat_ofNat]; exact Nat.mod_eq_of_lt (by omega)
  have h2 : (BitVec.ofInt 64 (b : Int)).toNat = b := by
    rw [BitVec.ofInt_natCast, BitVec.toNat_ofNat]; exact Nat.mod_eq_of_lt (by omega)
  show IntKind.u64.wrap ((BitVec.ofInt 64 (a : Int) &&& BitVec.ofInt 64 (b : Int)).toNat : Int) = _
  rw [BitVec.toNat_and, h1, h2]
  simp only [IntKind.wrap, IntKind.signed, IntKind.bits]
  simp
  omega
theorem iand64i (a b : Nat) (ha : a < 9223372036854775808) (hb : b < 9223372036854775808) : ibits .and .i64 (a : Int) (b : Int) = ((a &&& b : Nat) : Int) := by
  have hx : a &&& b < 2 ^ 63 := Nat.and_lt_two_pow _ (by omega)
  have h1 : (BitVec.ofInt 64 (a : Int)).toNat = a := by
    rw [BitVec.ofInt_natCast, BitVec.toNat_ofNat]; exact Nat.mod_eq_of_lt (by omega)
  have h2 : (BitVec.ofInt 64 (b : Int)).toNat = b := by
    rw [BitVec.ofInt_natCast, BitVec.toNat_ofNat]; exact Nat.mod_eq_of_lt (by omega)
  show IntKind.i64.wrap ((BitVec.ofInt 64 (a : Int) &&& BitVec.ofInt 64 (b : Int)).toNat : Int) = _
  rw [BitVec.toNat_and, h1, h2]
  simp only [IntKind.wrap, IntKind.signed, IntKind.bits]
  simp
  omega
theorem icpl64 (a : Nat) (ha : a < 18446744073709551616) : ibits .xor .u64 (if IntKind.u64.signed then -1 else IntKind.u64.max) (a : Int) = ((18446744073709551615 - a : Nat) : Int) := by
  have h2 : BitVec.ofInt 64 (a : Int) = BitVec.ofNat 64 a := BitVec.ofInt_natCast ..
  have h1 : (BitVec.ofInt 64 (18446744073709551615 : Int)) = BitVec.allOnes 64 := by decide
  have e : (if IntKind.u64.signed then -1 else IntKind.u64.max) = (18446744073709551615 : Int) := by decide
  rw [e]
  show IntKind.u64.wrap ((BitVec.ofInt 64 (18446744073709551615 : Int) ^^^ BitVec.ofInt 64 (a : Int)).toNat : Int) = _
  rw [h1, h2, BitVec.allOnes_xor, BitVec.toNat_not, BitVec.toNat_ofNat]
  simp only [IntKind.wrap, IntKind.signed, IntKind.bits]
  simp
  omega
theorem ishr64 (a b : Nat) (hb : b ≤ 64) : ishr .u64 (a : Int) (b : Int) = ((a / 2 ^ b : Nat) : Int) := by
  unfold ishr
  have e : min ((b : Int).toNat) IntKind.u64.bits = b := by
    simp only [IntKind.bits, Int.toNat_natCast]; omega
  rw [e]
  have : ((2 : Int) ^ b) = ((2 ^ b : Nat) : Int) := by simp
  rw [this]
  rw [Int.fdiv_eq_ediv_of_nonneg _ (Int.natCast_nonneg _)]
  exact (Int.natCast_ediv a (2 ^ b)).symm
theorem wrapu (n : Nat) : IntKind.u64.wrap (n : Int) = ((n % 18446744073709551616 : Nat) : Int) := by
  simp only [IntKind.wrap, IntKind.signed, IntKind.bits]
  simp
theorem ishl64 (a b : Nat) (hb : b ≤ 64) : ishl .u64 (a : Int) (b : Int) = ((a * 2 ^ b % 18446744073709551616 : Nat) : Int) := by
  unfold ishl
  have e : min ((b : Int).toNat) IntKind.u64.bits = b := by
    simp only [IntKind.bits, Int.toNat_natCast]; omega
  rw [e]
  have : (a : Int) * (2 : Int) ^ b = ((a * 2 ^ b : Nat) : Int) := by simp
  rw [this, wrapu]

/-- How many of the low bits are set. -/
def pop : Nat → Nat → Nat
  | 0, _ => 0
  | k + 1, x => x % 2 + pop k (x / 2)
def rep (c : Nat) : Nat → Nat
  | 0 => 0
  | k + 1 => c + 256 * rep c k
/-- A function on each byte. -/
def byB (g : Nat → Nat) : Nat → Nat → Nat
  | 0, _ => 0
  | k + 1, x => g (x % 256) + 256 * byB g k (x / 256)

theorem and_split (a q r : Nat) (hq : q < 256) : a &&& (q + 256 * r) = (a % 256 &&& q) + 256 * (a / 256 &&& r) := by
  have h1 : (a &&& (q + 256 * r)) % 2 ^ 8 = (a % 256 &&& q) := by
    rw [Nat.and_mod_two_pow]; congr 1; omega
  have h2 : (a &&& (q + 256 * r)) / 2 ^ 8 = (a / 256 &&& r) := by
    rw [Nat.and_div_two_pow]; congr 1; omega
  omega
theorem stage1 : ∀ k x, (x / 2 &&& rep 0x55 k) + (x &&& rep 0x55 k) = byB (fun c => (c / 2 &&& 0x55) + (c &&& 0x55)) k x
  | 0, x => by simp [rep, byB]
  | k + 1, x => by
    have ih := stage1 k (x / 256)
    have hb : ∀ c, c < 256 → ∀ b, b < 2 → (c / 2 + 128 * b) &&& 0x55 = c / 2 &&& 0x55 := by decide +kernel
    have e1 := hb (x % 256) (Nat.mod_lt _ (by decide)) (x / 256 % 2) (Nat.mod_lt _ (by decide))
    have e2 : x / 2 % 256 = x % 256 / 2 + 128 * (x / 256 % 2) := by omega
    have e3 : x / 2 / 256 = x / 256 / 2 := by omega
    simp only [rep, byB]
    rw [and_split _ _ _ (by decide), and_split _ _ _ (by decide), e2, e1, e3, ← ih]
    omega
theorem stage2 : ∀ k x, (x / 4 &&& rep 0x33 k) + (x &&& rep 0x33 k) = byB (fun c => (c / 4 &&& 0x33) + (c &&& 0x33)) k x
  | 0, x => by simp [rep, byB]
  | k + 1, x => by
    have ih := stage2 k (x / 256)
    have hb : ∀ c, c < 256 → ∀ b, b < 4 → (c / 4 + 64 * b) &&& 0x33 = c / 4 &&& 0x33 := by decide +kernel
    have e1 := hb (x % 256) (Nat.mod_lt _ (by decide)) (x / 256 % 4) (Nat.mod_lt _ (by decide))
    have e2 : x / 4 % 256 = x % 256 / 4 + 64 * (x / 256 % 4) := by omega
    have e3 : x / 4 / 256 = x / 256 / 4 := by omega
    simp only [rep, byB]
    rw [and_split _ _ _ (by decide), and_split _ _ _ (by decide), e2, e1, e3, ← ih]
    omega
/-- Both halves of each byte are at most 4. -/
def halves : Nat → Nat → Prop
  | 0, x => x = 0
  | k + 1, x => x % 256 % 16 ≤ 4 ∧ x % 256 / 16 ≤ 4 ∧ halves k (x / 256)
theorem halves_16 : ∀ k x, halves k x → x % 16 ≤ 4
  | 0, x, h => by rw [show x = 0 from h]; decide
  | k + 1, x, h => by have := h.1; omega
theorem stage3 : ∀ k x, halves k x → (x / 16 + x) &&& rep 0x0f k = byB (fun c => (c / 16 + c) &&& 0x0f) k x
  | 0, x, _ => by simp [rep, byB]
  | k + 1, x, h => by
    obtain ⟨h1, h2, h3⟩ := h
    have ih := stage3 k (x / 256) h3
    have h4 := halves_16 k _ h3
    have hb : ∀ c, c < 128 → ∀ b, b < 5 → (c / 16 + c + 16 * b) &&& 0x0f = (c / 16 + c) &&& 0x0f := by decide +kernel
    have e1 := hb (x % 256) (by omega) (x / 256 % 16) (by omega)
    have e2 : (x / 16 + x) % 256 = x % 256 / 16 + x % 256 + 16 * (x / 256 % 16) := by omega
    have e3 : (x / 16 + x) / 256 = x / 256 / 16 + x / 256 := by omega
    simp only [rep, byB]
    rw [and_split _ _ _ (by decide), e2, e1, e3, ← ih]
theorem byB_mod {g : Nat → Nat} {k x : Nat} (hg : ∀ c, c < 256 → g c < 256) : byB g (k + 1) x % 256 = g (x % 256) ∧ byB g (k + 1) x / 256 = byB g k (x / 256) := by
  have := hg (x % 256) (Nat.mod_lt _ (by decide))
  simp only [byB]
  omega
theorem byB_comp {f g : Nat → Nat} (hg : ∀ c, c < 256 → g c < 256) : ∀ k x, byB f k (byB g k x) = byB (fun c => f (g c)) k x
  | 0, _ => rfl
  | k + 1, x => by
    obtain ⟨h1, h2⟩ := byB_mod (k := k) (x := x) hg
    rw [byB, h1, h2, byB_comp hg k]
    rfl
theorem byB_congr {f g : Nat → Nat} (h : ∀ c, c < 256 → f c = g c) : ∀ k x, byB f k x = byB g k x
  | 0, _ => rfl
  | k + 1, x => by simp only [byB]; rw [h _ (Nat.mod_lt _ (by decide)), byB_congr h k]
theorem halves_byB {g : Nat → Nat} (hg : ∀ c, c < 256 → g c < 256 ∧ g c % 16 ≤ 4 ∧ g c / 16 ≤ 4) : ∀ k x, halves k (byB g k x)
  | 0, _ => rfl
  | k + 1, x => by
    obtain ⟨h1, h2⟩ := byB_mod (k := k) (x := x) (fun c hc => (hg c hc).1)
    obtain ⟨_, h4, h5⟩ := hg (x % 256) (Nat.mod_lt _ (by decide))
    refine ⟨by rw [h1]; exact h4, by rw [h1]; exact h5, ?_⟩
    rw [h2]; exact halves_byB hg k _
theorem pop_add : ∀ j k x, pop (j + k) x = pop j x + pop k (x / 2 ^ j)
  | 0, k, x => by simp [pop]
  | j + 1, k, x => by
    rw [show j + 1 + k = (j + k) + 1 by omega]
    simp only [pop]
    rw [pop_add j k, Nat.div_div_eq_div_mul, show 2 * 2 ^ j = 2 ^ (j + 1) by rw [Nat.pow_succ]; omega]
    omega
theorem pop_mod : ∀ j x, pop j (x % 2 ^ j) = pop j x
  | 0, _ => rfl
  | j + 1, x => by
    simp only [pop]
    have e1 : x % 2 ^ (j + 1) % 2 = x % 2 := by
      rw [Nat.pow_succ, Nat.mul_comm]; exact Nat.mod_mul_right_mod x 2 (2 ^ j)
    have e2 : x % 2 ^ (j + 1) / 2 = x / 2 % 2 ^ j := by
      rw [Nat.pow_succ, Nat.mul_comm, Nat.mod_mul_right_div_self]
    rw [e1, e2, pop_mod j]
theorem pop_le : ∀ k x, pop k x ≤ k
  | 0, _ => Nat.le_refl _
  | k + 1, x => by simp only [pop]; have := pop_le k (x / 2); omega

/-- WHAT THE CODE OF OnesCount64 RECKONS. -/
theorem ones64 (x : Nat) : ∃ p0 p1 p2 p3 p4 p5 p6 p7 : Nat, p0 ≤ 8 ∧ p1 ≤ 8 ∧ p2 ≤ 8 ∧ p3 ≤ 8 ∧ p4 ≤ 8 ∧ p5 ≤ 8 ∧ p6 ≤ 8 ∧ p7 ≤ 8 ∧ pop 64 x = p0 + p1 + p2 + p3 + p4 + p5 + p6 + p7 ∧
    byB (pop 8) 8 x = p0 + 256 * (p1 + 256 * (p2 + 256 * (p3 + 256 * (p4 + 256 * (p5 + 256 * (p6 + 256 * p7)))))) := by
  have h8 : ∀ y, pop 8 (y % 256) = pop 8 y := fun y => pop_mod 8 y
  refine ⟨pop 8 x, pop 8 (x / 256), pop 8 (x / 256 / 256), pop 8 (x / 256 / 256 / 256), pop 8 (x / 256 / 256 / 256 / 256), pop 8 (x / 256 / 256 / 256 / 256 / 256), pop 8 (x / 256 / 256 / 256 / 256 / 256 / 256),
    pop 8 (x / 256 / 256 / 256 / 256 / 256 / 256 / 256), pop_le _ _, pop_le _ _, pop_le _ _, pop_le _ _, pop_le _ _, pop_le _ _, pop_le _ _, pop_le _ _, ?_, ?_⟩
  · have e : ∀ k y, pop (8 + k) y = pop 8 y + pop k (y / 256) := fun k y => pop_add 8 k y
    have e0 : ∀ y, pop 0 y = 0 := fun _ => rfl
    have e64 : pop 64 x = pop (8 + (8 + (8 + (8 + (8 + (8 + (8 + (8 + 0)))))))) x := rfl
    rw [e64, e, e, e, e, e, e, e, e, e0]
    omega
  · simp only [byB, h8]
    omega

end Go.Am
/- The abstract machine, part 39: what the row's types say of the data. No condition. -/
namespace Go.Am
open Go

variable {P : Program} {m : Nat} {t e : TypeId} {k : IntKind} {ds : List D}

theorem hasTy_int (h : P.underlying t = some (.int k)) (hd : HasTy P (m + 1) t ds) : ∃ i, ds = [.int k i] ∧ k.min ≤ i ∧ i ≤ k.max := by
  unfold HasTy at hd
  rw [h] at hd
  obtain ⟨i, h1, h2⟩ := hd
  simp [Lit.wf] at h2
  exact ⟨i, h1, h2.1, h2.2⟩
theorem hasTy_slice (h : P.underlying t = some (.slice e)) (hd : HasTy P (m + 1) t ds) : ∃ xs : List (List D), ds = [.sl (xs.map (mkElem P e))] ∧ xs.length ≤ maxLen ∧ ∀ x, x ∈ xs → HasTy P m e x := by
  unfold HasTy at hd
  rw [h] at hd
  exact hd
def structL (P : Program) (t : TypeId) : Option (List (TypeId × Nat)) := match P.underlying t with
  | some (.struct fs) => some (fs.toList.map fun f => (f.type, f.offset))
  | _ => none
theorem hasTy_struct {l : List (TypeId × Nat)} (h : structL P t = some l) (hd : HasTy P (m + 1) t ds) : ds.length = P.cellsOf t ∧ ∀ q, q ∈ l → HasTy P m q.1 ((ds.drop q.2).take (P.cellsOf q.1)) := by
  unfold HasTy at hd
  unfold structL at h
  split at h
  · rename_i fs hu
    rw [hu] at hd
    cases h
    refine ⟨hd.1, fun q hq => ?_⟩
    obtain ⟨f, hf, rfl⟩ := List.mem_map.1 hq
    exact hd.2 f hf
  · cases h
theorem hasTy_array {n : Nat} (h : P.underlying t = some (.array n e)) (hd : HasTy P (m + 1) t ds) : ds.length = P.cellsOf t ∧ ∀ i, i < n → HasTy P m e ((ds.drop (i * P.cellsOf e)).take (P.cellsOf e)) := by
  unfold HasTy at hd
  rw [h] at hd
  exact hd
theorem mk_struct {l : List (TypeId × Nat)} (h : structL P t = some l) (cs : List D) : mkElem P t cs = .agg cs := by
  unfold structL at h
  unfold mkElem
  split at h
  · rename_i hu; rw [hu]
  · cases h
theorem mk_array {n : Nat} (h : P.underlying t = some (.array n e)) (cs : List D) : mkElem P t cs = .agg cs := by unfold mkElem; rw [h]
theorem mk_int (h : P.underlying t = some (.int k)) (d : D) : mkElem P t [d] = d := by unfold mkElem; rw [h]; rfl
theorem mk_slice (h : P.underlying t = some (.slice e)) (d : D) : mkElem P t [d] = d := by unfold mkElem; rw [h]; rfl
/-- A list of numbers. -/
theorem hasTy_ints (h : P.underlying t = some (.slice e)) (he : P.underlying e = some (.int k)) (hd : HasTy P (m + 2) t ds) : ∃ xs : List Int, ds = [.sl (xs.map (.int k))] ∧ xs.length ≤ maxLen ∧ ∀ x, x ∈ xs → k.min ≤ x ∧ x ≤ k.max := by
  obtain ⟨xs, h1, h2, h3⟩ := hasTy_slice h hd
  have : ∃ ys : List Int, xs.map (mkElem P e) = ys.map (.int k) ∧ ys.length = xs.length ∧ ∀ x, x ∈ ys → k.min ≤ x ∧ x ≤ k.max := by
    clear h1 h2
    induction xs with
    | nil => exact ⟨[], rfl, rfl, fun x hx => by cases hx⟩
    | cons x r ih =>
      obtain ⟨ys, g1, g2, g3⟩ := ih fun x hx => h3 x (List.mem_cons_of_mem _ hx)
      obtain ⟨i, hi, hi1, hi2⟩ := hasTy_int he (h3 x List.mem_cons_self)
      refine ⟨i :: ys, ?_, by simp [g2], fun y hy => ?_⟩
      · simp only [List.map_cons, g1, hi, mk_int he]
      · rcases List.mem_cons.1 hy with rfl | hy
        · exact ⟨hi1, hi2⟩
        · exact g3 y hy
  obtain ⟨ys, g1, g2, g3⟩ := this
  exact ⟨ys, by rw [h1, g1], by omega, g3⟩
end Go.Am
/- The abstract machine, part 40: rows of rows. No condition. -/
namespace Go.Am
open Go

variable [GTab]
variable {P : Program}

/-- Another view of a row of ours: its cells are the same. -/
theorem arr_swap {c : Ctx} (hr : HeapRel c) {M esz : Nat} {els els' : List D} (hM : c.h M = .arr esz els) (hl : els'.length = els.length) (hc : ∀ e, e ∈ els' → e.cells.length = esz) (ho : CellsOne els')
    (hv : ∀ i j d', cellIn els' i j = some d' → ∃ d, cellIn els i j = some d ∧ ∀ v, RelD c d v → RelD c d' v) :
    c.le ⟨c.ρ, c.X, upd c.h M (.arr esz els'), c.hp⟩ ∧ HeapRel ⟨c.ρ, c.X, upd c.h M (.arr esz els'), c.hp⟩ := by
  have sub : ∀ k, (upd c.h M (.arr esz els') k).mine → (c.h k).mine := by
    intro k hk
    by_cases h : k = M
    · subst h; rw [hM]; trivial
    · simpa [upd, h] using hk
  have hle : c.le ⟨c.ρ, c.X, upd c.h M (.arr esz els'), c.hp⟩ := by
    refine ⟨Nat.le_refl _, rfl, fun _ _ _ => rfl, fun _ cur _ _ h => ⟨cur, h, rfl⟩, fun _ r h => ⟨r, h, rfl⟩, fun _ _ => rfl, fun k => ?_, fun k g hm hρ _ => ⟨k, sub k hm, hρ⟩⟩
    by_cases h : k = M
    · subst h; simp only [upd_self]; rw [hM]; exact .arrArr _ _ _ (Nat.le_of_eq hl.symm)
    · simp only [upd_other _ _ h]; exact Trans.refl _
  refine ⟨hle, fun k => ?_, fun k1 k2 g m1 m2 r1 r2 => hr.inj k1 k2 g (sub k1 m1) (sub k2 m2) r1 r2, fun k g hm hρ => hr.apart k g (sub k hm) hρ, hr.xlt, ?_, hr.glob.mono hle, hr.lo⟩
  · by_cases h : k = M
    · subst h
      simp only [upd_self]
      have hs := hr.slot k
      rw [hM] at hs
      obtain ⟨h1, h2, h3, h4⟩ := hs
      refine ⟨h1, hc, ho, ?_⟩
      rcases h4 with ⟨q, q'⟩ | ⟨g, cur, ty, q1, q2, q3, q4⟩
      · refine Or.inl ⟨q, ?_⟩
        subst q'
        exact List.length_eq_zero_iff.1 hl
      · refine Or.inr ⟨g, cur, ty, q1, q2, by rw [hl]; exact q3, fun i j d' hd' => ?_⟩
        obtain ⟨d, hd, hrel⟩ := hv i j d' hd'
        exact (hrel _ (q4 i j d hd)).mono hle
    · simp only [upd_other _ _ h]
      exact slot_mono hle (hr.slot k) (fun _ _ => rfl) (fun _ _ _ => rfl)
  · obtain ⟨N, hN⟩ := hr.fin
    refine ⟨N + M + 1, fun k hk => ?_⟩
    simp only [upd_other _ _ (show k ≠ M by omega)]
    exact hN k (by omega)

theorem freeze_other {h : Heap} {n m : Nat} (hne : m ≠ n) : h.freeze n m = h m := by
  unfold Heap.freeze
  cases h n <;> simp only <;> try rfl
  exact upd_other _ _ hne
theorem freezeAll_other {m : Nat} : ∀ (ns : List Nat) {h : Heap}, m ∉ ns → h.freezeAll ns m = h m
  | [], _, _ => rfl
  | n :: r, h, hm => by
    simp only [List.mem_cons, not_or] at hm
    show (h.freeze n).freezeAll r m = h m
    rw [freezeAll_other r hm.2, freeze_other hm.1]

theorem freeze_roweq {h : Heap} {m : Nat} (n : Nat) : (h.freeze m n).row = (h n).row := by
  unfold Heap.freeze
  cases hm : h m <;> simp only <;> try rfl
  by_cases he : n = m
  · subst he; rw [upd_self, hm]; rfl
  · rw [upd_other _ _ he]
theorem freezeAll_roweq : ∀ (ns : List Nat) {h : Heap} (n : Nat), (h.freezeAll ns n).row = (h n).row
  | [], _, _ => rfl
  | m :: r, h, n => by
    show ((h.freeze m).freezeAll r n).row = _
    rw [freezeAll_roweq r, freeze_roweq]
theorem fzc_roweq {h h' : Heap} (hr : ∀ n, (h' n).row = (h n).row) (d : D) : d.fzc h' = d.fzc h := by
  cases d <;> simp [D.fzc, hr]
theorem fz_roweq {h h' : Heap} (hr : ∀ n, (h' n).row = (h n).row) (d : D) : d.fz h' = d.fz h := by
  have e : D.fzc h' = D.fzc h := funext (fzc_roweq hr)
  cases d <;> simp only [D.fz, e]
theorem fzOk_roweq {h h' : Heap} (hr : ∀ n, (h' n).row = (h n).row) {d : D} (hd : FzOk h d) : FzOk h' d := by
  intro x hx
  have := hd x hx
  cases x <;> simp only [FzOkc, hr] at this ⊢
  exact this
/-- A row whose elements can be read as pure data. -/
structure Deep (h : Heap) (M : Nat) (els : List D) : Prop where
  out : M ∉ els.flatMap D.nm
  el : ∀ e, e ∈ els → e.cells = [e] ∧ FzOk h e ∧ (e.fz h).vone = true ∧ e.one = true
/-- The rows in a row, read from here on. -/
def inn (h : Heap) (M : Nat) (els : List D) : Heap := upd (h.freezeAll (els.flatMap D.nm)) M (.arr 1 (els.map (D.fz h)))
theorem inn_self {h : Heap} {M : Nat} {els : List D} : inn h M els M = .arr 1 (els.map (D.fz h)) := upd_self _ _ _
theorem inn_other {h : Heap} {M k : Nat} {els : List D} (h1 : k ≠ M) (h2 : k ∉ els.flatMap D.nm) : inn h M els k = h k := by
  unfold inn; rw [upd_other _ _ h1, freezeAll_other _ h2]
theorem vone_cells {d : D} (h : d.vone = true) : d.cells = [d] := by cases d <;> first | rfl | cases h
theorem inner_step {c : Ctx} (hr : HeapRel c) {M : Nat} {els : List D} (hM : c.h M = .arr 1 els) (hd : Deep c.h M els) :
    c.le ⟨c.ρ, c.X, inn c.h M els, c.hp⟩ ∧ HeapRel ⟨c.ρ, c.X, inn c.h M els, c.hp⟩ := by
  obtain ⟨g1, g2⟩ := freezeAll_step hr (els.flatMap D.nm)
  have hM1 : (c.h.freezeAll (els.flatMap D.nm)) M = .arr 1 els := by rw [freezeAll_other _ hd.out, hM]
  have key := arr_swap (c := ⟨c.ρ, c.X, c.h.freezeAll (els.flatMap D.nm), c.hp⟩) g2 (els' := els.map (D.fz c.h)) hM1 (by simp) (fun e he => ?_) (fun i j d h => ?_) (fun i j d' h => ?_)
  · exact ⟨g1.trans key.1, key.2⟩
  · simp only [List.mem_map] at he
    obtain ⟨x, hx, rfl⟩ := he
    rw [vone_cells (hd.el x hx).2.2.1]; rfl
  · simp only [cellIn, List.getElem?_map, Option.bind_eq_some_iff, Option.map_eq_some_iff] at h
    obtain ⟨e, ⟨x, hx, rfl⟩, h2⟩ := h
    have hv := (hd.el x (List.mem_of_getElem? hx)).2.2.1
    rw [vone_cells hv] at h2
    have : d = x.fz c.h := by
      cases j with
      | zero => simpa using h2.symm
      | succ j => simp at h2
    subst this
    exact D.vone_one hv
  · simp only [cellIn, List.getElem?_map, Option.bind_eq_some_iff, Option.map_eq_some_iff] at h
    obtain ⟨e, ⟨x, hx, rfl⟩, h2⟩ := h
    obtain ⟨q1, q2, q3, q4⟩ := hd.el x (List.mem_of_getElem? hx)
    rw [vone_cells q3] at h2
    have hj : j = 0 ∧ d' = x.fz c.h := by
      cases j with
      | zero => exact ⟨rfl, by simpa using h2.symm⟩
      | succ j => simp at h2
    obtain ⟨rfl, rfl⟩ := hj
    refine ⟨x, by simp [cellIn, hx, q1], fun v hv => ?_⟩
    have h1 : AllOne x := fun y hy => by rw [q1] at hy; simp at hy; subst hy; exact q4
    have hre : ∀ n, ((c.h.freezeAll (els.flatMap D.nm)) n).row = (c.h n).row := fun n => freezeAll_roweq _ n
    have := (fz_rel (Ctx.le.refl _) g2 hv h1 (fzOk_roweq hre q2) (fun n esz es hn hrow => ?_)).1
    · rw [fz_roweq hre] at this; exact this
    · rw [hre n] at hrow
      exact freezeAll_mem _ hrow (List.mem_flatMap.2 ⟨x, List.mem_of_getElem? hx, hn⟩)

theorem acall_inner {f : FuncId} {ds : List D} {h : Heap} {M : Nat} {els : List D} {K : D → Heap → Prop} (hM : h M = .arr 1 els) (hd : Deep h M els) (hc : ACall P f ds (inn h M els) K) : ACall P f ds h K := by
  intro c w vals hh hp hr hs hrel
  subst hh
  obtain ⟨g1, g2⟩ := inner_step hr hM hd
  refine (hc ⟨c.ρ, c.X, inn c.h M els, c.hp⟩ w vals rfl hp g2 hs (fun i d hi => (hrel i d hi).mono g1)).mono ?_
  rintro e w' ⟨v, r, ρ, h', r1, r2, r3, r4, r5, r6⟩
  exact ⟨v, r, ρ, h', r1, g1.trans r2, r3, r4, r5, r6⟩

/-- A function that gives a row of rows, as data. -/
theorem vcall_deep {f : FuncId} {ds : List D} {K : D → Prop} (ha : ACall P f ds noHeap (fun r h' => ∃ M els, r = .ms M 0 els.length ∧ h' M = .arr 1 els ∧ Deep h' M els ∧ K (.sl (els.map (D.fz h'))))) : VCall P f ds K := by
  intro c w vals hh hp hr hs hrel
  have hfree : c.h = noHeap := funext hh
  have := ha c w vals hfree hp hr hs hrel
  refine this.mono ?_
  rintro e w' ⟨v, r, ρ, h', rfl, h1, h2, h3, h4, M, els, rfl, hM, hd, hk⟩
  obtain ⟨k1, k2⟩ := inner_step h2 hM hd
  have hM2 : (inn h' M els) M = .arr 1 (els.map (D.fz h')) := inn_self
  have hrow2 : ((inn h' M els) M).row = some (1, els.map (D.fz h')) := by rw [hM2]; rfl
  obtain ⟨g1, g2⟩ := freezeAll_step k2 [M]
  have e0 : (D.ms M 0 els.length).fz (inn h' M els) = .sl (els.map (D.fz h')) := by
    simp only [D.fz, D.fzc, hrow2, List.drop_zero]
    rw [List.take_of_length_le (by simp)]
  have hz := (fz_rel g1 g2 (h4.mono k1) (fun y hy => by simp [D.cells] at hy; subst hy; rfl) (fun y hy => by
      simp only [D.cells, List.mem_singleton] at hy
      subst hy
      refine ⟨1, _, hrow2, by simp, fun x hx z hz => ?_⟩
      have hx' : x ∈ els.map (D.fz h') := List.mem_of_mem_drop (List.mem_of_mem_take hx)
      simp only [List.mem_map] at hx'
      obtain ⟨a, ha, rfl⟩ := hx'
      have hv := (hd.el a ha).2.2.1
      rw [vone_cells hv] at hz; simp at hz; subst hz; exact hv) (fun n esz es hn hrow => freezeAll_mem _ hrow (by simpa [D.nm, D.nmc] using hn))).1
  rw [e0] at hz
  have hown : ∀ g, ¬ (⟨ρ, c.X, (inn h' M els).freezeAll [M], w'.heap⟩ : Ctx).own g → ¬ (⟨c.ρ, c.X, c.h, w'.heap⟩ : Ctx).own g := by
    rintro g hn (hX | ⟨n, hm, _⟩)
    · exact hn (Or.inl hX)
    · simp only [hh n] at hm; cases hm
  refine ⟨v, _, rfl, ?_, h3, RelD.recastT (c := ⟨ρ, c.X, (inn h' M els).freezeAll [M], w'.heap⟩) (c' := ⟨c.ρ, c.X, c.h, w'.heap⟩) rfl hown hz rfl, rfl, hk⟩
  refine ⟨h1.size, rfl, h1.keep, h1.shape, h1.loop, fun _ _ => rfl, fun _ => Trans.refl _, fun n g hm hρ _ => ⟨n, hm, hρ⟩⟩
end Go.Am
/- The tables of the library that this seat's program reads. No condition. -/
namespace Go.Am
open Go
def deBruijn64 : List Nat := [0, 1, 56, 2, 57, 49, 28, 3, 61, 58, 42, 50, 38, 29, 17, 4, 62, 47, 59, 36, 45, 43, 51, 22, 53, 39, 33, 30, 24, 18, 12, 5, 63, 55, 48, 27, 60, 41, 37, 16, 46, 35, 44, 21, 52, 32, 23, 11, 54, 26, 40, 15, 34, 20, 31, 10, 25, 14, 19, 9, 13, 8, 7, 6]
instance gtab : GTab := ⟨fun g => match g with
  | 0 => some (deBruijn64.map fun (n : Nat) => Value.int .u8 n).toArray
  | _ => none⟩
def tabD0 : D := .agg (deBruijn64.map fun (n : Nat) => D.int .u8 n)
end Go.Am
