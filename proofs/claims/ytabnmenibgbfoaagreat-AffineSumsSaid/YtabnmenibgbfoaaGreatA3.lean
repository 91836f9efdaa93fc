/- The abstract machine: what the operations of the program do, on plain data. No condition. -/
import Derived.OpenShut
import Derived.ReadAgain
import Derived.RowKit
import Derived.Test.YtabnmenibgbfoaaGreatA2
set_option linter.unnecessarySimpa false
set_option linter.defProp false
set_option linter.unusedSectionVars false
set_option linter.unusedSimpArgs false
set_option linter.unusedVariables false
/- The abstract machine, part 30: the evaluator for operations. No condition. -/
namespace Go.Am
open Go

variable [GTab]

structure Calls0 where
  call : FuncId → List D → LH → Option (D × LH)
  vcall : FuncId → List D → Option D
  own : FuncId → Bool

def fillOkB (n : Nat) (l : List (Nat × Nat × D)) : Bool := l.all fun p => p.2.2.cells.length == p.2.1 && decide (p.1 + p.2.1 ≤ n) && allOneB p.2.2
theorem fillOkB_ok {n : Nat} {l : List (Nat × Nat × D)} (h : fillOkB n l = true) : fillOkV n l := by
  intro p hp
  have := List.all_eq_true.1 h p hp
  simp only [Bool.and_eq_true, beq_iff_eq, decide_eq_true_eq] at this
  exact ⟨this.1.1, this.1.2, allOneB_ok this.2⟩
def bldOkB (len esz : Nat) (l : List (Nat × D)) : Bool := l.all fun p => decide (p.1 < len) && p.2.cells.length == esz && allOneB p.2
theorem bldOkB_ok {len esz : Nat} {l : List (Nat × D)} (h : bldOkB len esz l = true) : bldOk len esz l := by
  intro p hp
  have := List.all_eq_true.1 h p hp
  simp only [Bool.and_eq_true, beq_iff_eq, decide_eq_true_eq] at this
  exact ⟨this.1.1, this.1.2, allOneB_ok this.2⟩
def callOkB (l : LH) (ds : List D) : Bool := ds.all fun d => allOneB d && fzOkB l d && (d.fz l.h).vd
theorem callOkB_ok {l : LH} {ds : List D} (h : callOkB l ds = true) : callOk l.h ds := by
  intro d hd
  have := List.all_eq_true.1 h d hd
  simp only [Bool.and_eq_true] at this
  exact ⟨allOneB_ok this.1.1, fzOkB_ok this.1.2, this.2⟩

def isFrz (l : LH) (n : Nat) : Bool := match l.h n with
  | .frz _ _ => true
  | _ => false
theorem isFrz_ok {l : LH} {n : Nat} (h : isFrz l n = true) : ∃ e x, l.h n = .frz e x := by
  unfold isFrz at h
  split at h
  · rename_i hn; exact ⟨_, _, hn⟩
  · cases h

/-- A call on pure data, where that leaves our blocks as they are. -/
def evPure (C : Calls0) (f : FuncId) (ds : List D) (l : LH) : Option D :=
  if C.own f then none else
  if callOkB l ds then
    fDL (ds.map (D.fz l.h)) fun vs => match C.vcall f vs with
    | some r => if r.flat || (ds.flatMap D.nm).all (isFrz l) then some r else none
    | none => none
  else none
def evCall (C : Calls0) (f : FuncId) (ds : List D) (l : LH) : Option (D × LH) :=
  match evPure C f ds l with
  | some r => some (r, l)
  | none => C.call f ds l

def evLd (x : D) (size : Nat) (agg : Bool) (l : LH) : Option D :=
  match x with
  | .vp d j => epart d.cells j size agg
  | .ptr n i j => match l.h n with
    | .box v => if i = 0 then epart v.cells j size agg else none
    | .arr _ els => match els[i]? with | some d => epart d.cells j size agg | none => none
    | .frz _ els => match els[i]? with | some d => epart d.cells j size agg | none => none
    | _ => none
  | _ => none

def evOp (P : Program) (C : Calls0) (op : AOp) (e : LEnv) (l : LH) : Option (D × LH) :=
  match op with
  | .mov x => some (x.get e, l)
  | .pick c a b => match c.get e with
    | .bool t => some (if t then a.get e else b.get e, l)
    | _ => none
  | .bin op x y => (ebin op (x.get e) (y.get e)).map (·, l)
  | .eqv neg agg ks x y => if (x.get e).isAgg = agg ∧ (y.get e).isAgg = agg then
      match eqCellsE ks (x.get e).cells (y.get e).cells with
      | some b => some (.bool (if neg then !b else b), l)
      | none => none
    else none
  | .un op x => (eun op (x.get e)).map (·, l)
  | .conv k x => match eint (x.get e) with
    | some i => some (.int k (k.wrap i), l)
    | none => none
  | .ext x i => match x.get e with
    | .tup ds => match ds[i]? with
      | some d => some (d, l)
      | none => none
    | _ => none
  | .fld x off size agg => match x.get e with
    | .agg cs => (epart cs off size agg).map (·, l)
    | _ => none
  | .bld zero parts => if fillOkB zero.length (parts.map fun p => (p.1, p.2.1, p.2.2.get e)) then some (.agg (fillD zero (parts.map fun p => (p.1, p.2.1, (p.2.2.get e).cells))), l) else none
  | .bldS fz esz len zero parts =>
    let vs := parts.map fun p => (p.1, p.2.get e)
    if bldOkB len esz vs && (!fz || vs.all fun p => fzOkB l p.2) then
      fDL (setEls (List.replicate len zero) (parts.map fun p => (p.1, if fz then (p.2.get e).fz l.h else p.2.get e))) fun els =>
      fl ((if fz then l.frzAll (parts.flatMap fun p => (p.2.get e).nm) else l) ++ [.arr esz els]) fun l' => some (.ms l.length 0 len, l')
    else none
  | .len x => match x.get e with
    | .nil => some (.int .i64 0, l)
    | .sl xs => some (.int .i64 xs.length, l)
    | .ms n _ len => if (l.h n).live then some (.int .i64 len, l) else none
    | _ => none
  | .slen x => match x.get e with
    | .str s => some (.int .i64 s.size, l)
    | _ => none
  | .fadd x off => match x.get e with
    | .ptr n i j => if (l.h n).live then some (.ptr n i (j + off), l) else none
    | .vp d j => some (.vp d (j + off), l)
    | _ => none
  | .iadd x i esz => match eint (i.get e) with
    | none => none
    | some i => match x.get e with
      | .sl xs => if 0 ≤ i then match xs[i.toNat]? with
          | some d => if d.cells.length = esz then some (.vp d 0, l) else none
          | none => none
        else none
      | .ms n off len => if 0 ≤ i ∧ i < len then match (l.h n).row with
          | some (e', _) => if e' = esz then some (.ptr n (off + i.toNat) 0, l) else none
          | none => none
        else none
      | _ => none
  | .iadda x i len esz => match eint (i.get e) with
    | none => none
    | some i => if 0 ≤ i ∧ i < len then match x.get e with
      | .ptr n k j => if (l.h n).live then some (.ptr n k (j + i.toNat * esz), l) else none
      | .vp d j => some (.vp d (j + i.toNat * esz), l)
      | _ => none
      else none
  | .sidx x i len size agg => match eint (i.get e) with
    | none => none
    | some i => match x.get e with
      | .agg cs => if 0 < len ∧ 0 ≤ i ∧ i < len then (epart cs (i.toNat * size) size agg).map (·, l) else none
      | .str s => if len = 0 ∧ 0 ≤ i ∧ i < s.size then match s.data.toList[i.toNat]? with
        | some b => some (.int .u8 b.toNat, l)
        | none => none
        else none
      | _ => none
  | .ld x size agg => (evLd (x.get e) size agg l).map (·, l)
  | .st x v size => if (v.get e).cells.length = size ∧ allOneB (v.get e) = true then match x.get e with
      | .ptr n i j => match l.h n with
        | .box d => if i = 0 ∧ j + size ≤ d.cells.length then fD (setCells d j (v.get e).cells) fun d => fl (l.set n (.box d)) fun l' => some (.undef, l') else none
        | .arr esz els => if j + size ≤ esz then match els[i]? with
            | some d => fDL (els.set i (setCells d j (v.get e).cells)) fun els => fl (l.set n (.arr esz els)) fun l' => some (.undef, l')
            | none => none
          else none
        | _ => none
      | _ => none
    else none
  | .alloc zero => fl (l ++ [.box zero]) fun l' => some (.ptr l.length 0 0, l')
  | .box x => if allOneB (x.get e) then fD (x.get e) fun d => fl (l ++ [.box d]) fun l' => some (.ptr l.length 0 0, l') else none
  | .mk esz bytes zero len cap => match eint (len.get e), eint (cap.get e) with
    | some n, some c => if 0 ≤ n ∧ n ≤ c ∧ c * bytes ≤ 140737488355328 ∧ c ≤ 9223372036854775807 then
        fl (List.replicate n.toNat zero) fun els => fl (l ++ [.arr esz els]) fun l' => some (.ms l.length 0 n.toNat, l')
      else none
    | _, _ => none
  | .slc x lo hi mx esz => match x.get e with
    | .nil => match eopt e lo 0, eopt e hi 0, eopt e mx 0 with
      | some a, some b, some m => if a = 0 ∧ b = 0 ∧ m = 0 then some (.nil, l) else none
      | _, _, _ => none
    | .sl xs => match eopt e lo 0, eopt e hi xs.length, eopt e mx xs.length with
      | some a, some b, some m => if 0 ≤ a ∧ a ≤ b ∧ b ≤ m ∧ m ≤ xs.length ∧ (xs.all fun d => d.cells.length == esz) = true then some (.sl ((xs.drop a.toNat).take (b - a).toNat), l) else none
      | _, _, _ => none
    | .ms n off len => match eopt e lo 0, eopt e hi len, eopt e mx len with
      | some a, some b, some m => match (l.h n).row with
        | some (e', _) => if e' = esz ∧ 0 ≤ a ∧ a ≤ b ∧ b ≤ m ∧ m ≤ len then some (.ms n (off + a.toNat) (b - a).toNat, l) else none
        | none => none
      | _, _, _ => none
    | _ => none
  | .nilq neg x => match x.get e with
    | .nil => some (.bool (!neg), l)
    | .sl (_ :: _) => some (.bool neg, l)
    | _ => none
  | .slz x esz => match x.get e with
    | .nil => fl (l ++ [.arr esz []]) fun l' => some (.ms l.length 0 0, l')
    | .sl _ => fl (l ++ [.arr esz []]) fun l' => some (.ms l.length 0 0, l')
    | .ms m _ _ => match (l.h m).row with
      | some (e', _) => if e' = esz then fl (l ++ [.arr esz []]) fun l' => some (.ms l.length 0 0, l') else none
      | none => none
    | _ => none
  | .sslc x lo hi => match x.get e with
    | .str s => match eopt e lo 0, eopt e hi s.size with
      | some a, some b => if 0 ≤ a ∧ a ≤ b ∧ b ≤ s.size then some (.str (s.extract a.toNat b.toNat), l) else none
      | _, _ => none
    | _ => none
  | .app s x esz bytes _ => match eelems esz (x.get e) l with
    | none => none
    | some ys => if ys.all allOneB then match s.get e with
      | .nil => if ys.length * bytes ≤ 140737488355328 ∧ ys.length ≤ 9223372036854775807 then fDL ys fun ys' => fl (l ++ [.arr esz ys']) fun l' => some (.ms l.length 0 ys.length, l') else none
      | .ms m off len => match l.h m with
        | .arr esz' els => if esz' = esz ∧ off = 0 ∧ len = els.length ∧ (len + ys.length) * bytes ≤ 140737488355328 ∧ len + ys.length ≤ 9223372036854775807 then
            fDL (els ++ ys) fun zs => fl (l.set m .dead ++ [.arr esz zs]) fun l' => some (.ms l.length 0 (len + ys.length), l') else none
        | _ => none
      | _ => none
      else none
  | .cpy d s esz => match eelems esz (s.get e) l with
    | none => none
    | some ys => if ys.all allOneB then match d.get e with
      | .ms m off len => match l.h m with
        | .arr esz' els => if esz' = esz ∧ off + len ≤ els.length then
            fDL (els.take off ++ ys.take len ++ els.drop (off + min ys.length len)) fun zs => fl (l.set m (.arr esz zs)) fun l' => some (.int .i64 (min ys.length len : Nat), l') else none
        | _ => none
      | _ => none
      else none
  | .call f args => evCall C f (args.map (·.get e)) l
  | .callv x args => match x.get e with
    | .fn f a b => if cCallee P f then evCall C f (a ++ args.map (·.get e) ++ b) l else none
    | _ => none
  | .mkf f a b => some (.fn f (a.map (·.get e)) (b.map (·.get e)), l)
  | .mn x y => match x.get e, y.get e with
    | .int k a, .int k' b => if k = k' then some (.int k (if b < a then b else a), l) else none
    | _, _ => none
  | .mx x y => match x.get e, y.get e with
    | .int k a, .int k' b => if k = k' then some (.int k (if a < b then b else a), l) else none
    | _, _ => none
  | .mn3 x y z => match x.get e, y.get e, z.get e with
    | .int k a, .int k' b, .int k'' c => if k = k' ∧ k = k'' then some (.int k (min (min a b) c), l) else none
    | _, _, _ => none
  | .mx3 x y z => match x.get e, y.get e, z.get e with
    | .int k a, .int k' b, .int k'' c => if k = k' ∧ k = k'' then some (.int k (max (max a b) c), l) else none
    | _, _, _ => none
  | .dead => none

structure CallsOk (P : Program) (C : Calls0) : Prop where
  call : ∀ f ds l d l', C.call f ds l = some (d, l') → l.nf → l'.nf ∧ ∀ K : D → Heap → Prop, K d l'.h → ACall P f ds l.h K
  vcall : ∀ f ds r, C.vcall f ds = some r → VCall P f ds (· = r)

variable {P : Program} {C : Calls0}

theorem evPure_ok (ok : CallsOk P C) {f : FuncId} {ds : List D} {l : LH} {r : D} (h : evPure C f ds l = some r) (K : D → Heap → Prop) (hk : K r l.h) : ACall P f ds l.h K := by
  unfold evPure at h
  split at h
  · cases h
  · split at h
    · rename_i hc
      rw [fDL_eq] at h
      split at h
      · rename_i r' hv
        split at h
        · rename_i hf
          simp at h; subst h
          refine ACall.mono ?_ (acall_of_vcall (ok.vcall _ _ _ hv) (callOkB_ok hc))
          rintro r h' ⟨rfl, h1, h2⟩
          by_cases hc' : r.flat = true ∨ ds.flatMap D.nm = []
          · rw [h1 hc']; exact hk
          · rw [h2 hc']
            simp only [Bool.or_eq_true] at hf
            rcases hf with hf | hf
            · exact absurd (Or.inl hf) hc'
            · rw [freezeAll_same _ fun n hn => isFrz_ok (List.all_eq_true.1 hf n hn)]; exact hk
        · cases h
      · cases h
    · cases h

theorem evCall_ok (ok : CallsOk P C) {f : FuncId} {ds : List D} {l : LH} {d : D} {l' : LH} (h : evCall C f ds l = some (d, l')) (hn : l.nf) : l'.nf ∧ ∀ K : D → Heap → Prop, K d l'.h → ACall P f ds l.h K := by
  unfold evCall at h
  split at h
  · rename_i r hr
    simp at h; obtain ⟨rfl, rfl⟩ := h
    exact ⟨hn, fun K hk => evPure_ok ok hr K hk⟩
  · exact ok.call _ _ _ _ _ h hn

theorem evLd_ok {x : D} {size : Nat} {agg : Bool} {l : LH} {d : D} (h : evLd x size agg l = some d) {a : Arg} {e : LEnv} (ha : a.get e = x) {K : D → Heap → Prop} (hk : K d l.h) : vcOp P (.ld a size agg) K e l.h := by
  subst ha
  simp only [evLd, vcOp] at h ⊢
  have one : ∀ (els : List D) (i j : Nat), (match els[i]? with | some d => epart d.cells j size agg | none => none) = some d → i < els.length ∧ ∀ d', els[i]? = some d' → vpart d'.cells j size agg fun x => K x l.h := by
    intro els i j h
    cases he : els[i]? with
    | none => simp [he] at h
    | some d1 =>
      simp only [he] at h
      refine ⟨(List.getElem?_eq_some_iff.1 he).1, fun d' hd' => ?_⟩
      cases hd'
      exact epart_ok (K := fun x => K x l.h) h hk
  cases hx : a.get e <;> simp only [hx] at h ⊢ <;> try (cases h; done)
  · rename_i n i j
    cases hn : l.h n <;> simp only [hn] at h ⊢ <;> try (cases h; done)
    · split at h
      · exact ⟨by assumption, epart_ok (K := fun x => K x l.h) h hk⟩
      · cases h
    · exact one _ _ _ h
    · exact one _ _ _ h
  · exact epart_ok (K := fun x => K x l.h) h hk

end Go.Am
/- The abstract machine, part 31: the evaluator for operations is sound. No condition. -/
namespace Go.Am
open Go

variable [GTab]

variable {P : Program} {C : Calls0}

theorem evOp_ok (ok : CallsOk P C) {op : AOp} {e : LEnv} {l : LH} {d : D} {l' : LH} (h : evOp P C op e l = some (d, l')) (hn : l.nf) :
    l'.nf ∧ ∀ K : D → Heap → Prop, K d l'.h → vcOp P op K e l.h := by
  have same : ∀ {x : Option D}, x.map (fun y => (y, l)) = some (d, l') → x = some d ∧ l' = l := by
    intro x h
    cases x <;> simp at h
    exact ⟨by rw [h.1], h.2.symm⟩
  have new : ∀ (s : Slot) (hs : s ≠ .free), LH.nf (l ++ [s]) ∧ ∀ K : Nat → Heap → Prop, K l.length (LH.h (l ++ [s])) → ∀ n, Top l.h n → K n (upd l.h n s) := by
    intro s hs
    refine ⟨LH.nf_push hn hs, fun K hk n t => ?_⟩
    have := LH.top hn t
    subst this
    rw [← LH.h_push]
    exact hk
  cases op <;> simp only [evOp, fl_eq, fDL_eq, fD_eq] at h
  case mov x => cases h; exact ⟨hn, fun K hk => hk⟩
  case pick c a b =>
    cases hc : c.get e <;> simp only [hc] at h <;> try (cases h; done)
    cases h
    exact ⟨hn, fun K hk => by simp only [vcOp, hc]; exact hk⟩
  case bin op x y =>
    obtain ⟨h1, rfl⟩ := same h
    exact ⟨hn, fun K hk => ebin_ok (K := fun d => K d l'.h) h1 hk⟩
  case eqv neg agg ks x y =>
    split at h
    · rename_i hc
      cases he : eqCellsE ks (x.get e).cells (y.get e).cells <;> simp only [he] at h <;> try (cases h; done)
      cases h
      refine ⟨hn, fun K hk => ⟨hc.1, hc.2, ?_⟩⟩
      simp only [veqv, eqCellsE_eq, he]
      exact hk
    · cases h
  case un op x =>
    obtain ⟨h1, rfl⟩ := same h
    exact ⟨hn, fun K hk => eun_ok (K := fun d => K d l'.h) h1 hk⟩
  case conv k x =>
    cases hc : eint (x.get e) <;> simp only [hc] at h <;> try (cases h; done)
    cases h
    exact ⟨hn, fun K hk => eint_ok (K := fun i => K (.int k (k.wrap i)) l.h) hc hk⟩
  case ext x i =>
    cases hc : x.get e <;> simp only [hc] at h <;> try (cases h; done)
    rename_i ds
    cases hd : ds[i]? <;> simp only [hd] at h <;> try (cases h; done)
    cases h
    exact ⟨hn, fun K hk => by simp only [vcOp, hc, hd]; exact hk⟩
  case fld x off size agg =>
    cases hc : x.get e <;> simp only [hc] at h <;> try (cases h; done)
    obtain ⟨h1, rfl⟩ := same h
    exact ⟨hn, fun K hk => by simp only [vcOp, hc]; exact epart_ok (K := fun d => K d l'.h) h1 hk⟩
  case bld zero parts =>
    split at h
    · rename_i hc
      cases h
      exact ⟨hn, fun K hk => ⟨fillOkB_ok hc, hk⟩⟩
    · cases h
  case bldS fz esz len zero parts =>
    split at h
    · rename_i hc
      simp only [Bool.and_eq_true, Bool.or_eq_true, Bool.not_eq_true'] at hc
      cases h
      have hfz : fz = true → bldFz l.h (parts.map fun p => (p.1, p.2.get e)) := by
        intro hf
        rcases hc.2 with h1 | h1
        · rw [hf] at h1; cases h1
        · exact fun p hp => fzOkB_ok (List.all_eq_true.1 h1 p hp)
      let l1 : LH := if fz then l.frzAll (parts.flatMap fun p => (p.2.get e).nm) else l
      have hl1 : l1.h = (if fz then l.h.freezeAll (parts.flatMap fun p => (p.2.get e).nm) else l.h) ∧ l1.nf ∧ l1.length = l.length := by
        cases fz with
        | false => exact ⟨rfl, hn, rfl⟩
        | true =>
          obtain ⟨a1, a2⟩ := LH.frzAll_ok (parts.flatMap fun p => (p.2.get e).nm) hn
          refine ⟨a1, a2, ?_⟩
          have : ∀ (ns : List Nat) (l : LH), (l.frzAll ns).length = l.length := by
            intro ns
            induction ns with
            | nil => intro l; rfl
            | cons n r ih =>
              intro l
              simp only [LH.frzAll]
              rw [ih]
              unfold LH.frz
              cases l.h n <;> simp
          exact this _ _
      refine ⟨LH.nf_push hl1.2.1 (by simp), fun K hk => ⟨bldOkB_ok hc.1, hfz, fun n t => ?_⟩⟩
      have := LH.top hn t
      subst this
      rw [LH.h_push] at hk
      have h2 := hl1.2.2
      have h3 := hl1.1
      simp only [l1] at h2 h3
      rw [h2, h3] at hk
      exact hk
    · cases h
  case len x =>
    cases hc : x.get e <;> simp only [hc] at h <;> try (cases h; done)
    · cases h; exact ⟨hn, fun K hk => by simp only [vcOp, hc, vlen]; exact hk⟩
    · cases h; exact ⟨hn, fun K hk => by simp only [vcOp, hc, vlen]; exact hk⟩
    · split at h
      · rename_i hlv
        cases h; exact ⟨hn, fun K hk => by simp only [vcOp, hc, vlen]; exact ⟨hlv, hk⟩⟩
      · cases h
  case slen x =>
    cases hc : x.get e <;> simp only [hc] at h <;> try (cases h; done)
    cases h; exact ⟨hn, fun K hk => by simp only [vcOp, hc]; exact hk⟩
  case fadd x off =>
    cases hc : x.get e <;> simp only [hc] at h <;> try (cases h; done)
    · split at h
      · rename_i hlv
        cases h; exact ⟨hn, fun K hk => by simp only [vcOp, hc]; exact ⟨hlv, hk⟩⟩
      · cases h
    · cases h; exact ⟨hn, fun K hk => by simp only [vcOp, hc]; exact hk⟩
  case iadd x i esz =>
    cases hi : eint (i.get e) <;> simp only [hi] at h <;> try (cases h; done)
    rename_i n
    cases hc : x.get e <;> simp only [hc] at h <;> try (cases h; done)
    · rename_i xs
      split at h
      · rename_i h0
        cases hx : xs[n.toNat]? <;> simp only [hx] at h <;> try (cases h; done)
        rename_i d0
        split at h
        · rename_i hs
          cases h
          refine ⟨hn, fun K hk => eint_ok hi ?_⟩
          simp only [hc]
          have := (List.getElem?_eq_some_iff.1 hx).1
          refine ⟨h0, by omega, fun d hd => ?_⟩
          rw [hx] at hd; cases hd
          exact ⟨hs, hk⟩
        · cases h
      · cases h
    · rename_i m off len
      split at h
      · rename_i h0
        cases hr : (l.h m).row <;> simp only [hr] at h <;> try (cases h; done)
        rename_i q
        obtain ⟨e', els⟩ := q
        simp only at h
        split at h
        · rename_i hs
          subst hs
          cases h
          refine ⟨hn, fun K hk => eint_ok hi ?_⟩
          simp only [hc]
          exact ⟨h0.1, h0.2, ⟨els, hr⟩, hk⟩
        · cases h
      · cases h
  case iadda x i len esz =>
    cases hi : eint (i.get e) <;> simp only [hi] at h <;> try (cases h; done)
    rename_i n
    split at h
    · rename_i h0
      cases hc : x.get e <;> simp only [hc] at h <;> try (cases h; done)
      · split at h
        · rename_i hlv
          cases h
          exact ⟨hn, fun K hk => eint_ok hi (by simp only [hc]; exact ⟨h0.1, h0.2, hlv, hk⟩)⟩
        · cases h
      · cases h
        exact ⟨hn, fun K hk => eint_ok hi (by simp only [hc]; exact ⟨h0.1, h0.2, hk⟩)⟩
    · cases h
  case sidx x i len size agg =>
    cases hi : eint (i.get e) <;> simp only [hi] at h <;> try (cases h; done)
    rename_i n
    cases hc : x.get e <;> simp only [hc] at h <;> try (cases h; done)
    rotate_left
    · split at h
      · rename_i h0
        obtain ⟨h1, rfl⟩ := same h
        exact ⟨hn, fun K hk => eint_ok hi (by simp only [hc]; exact ⟨h0.1, h0.2.1, h0.2.2, epart_ok (K := fun d => K d l'.h) h1 hk⟩)⟩
      · cases h
    rename_i s
    split at h
    · rename_i h0
      cases hb : s.data.toList[n.toNat]? <;> simp only [hb] at h <;> try (cases h; done)
      rename_i b
      cases h
      refine ⟨hn, fun K hk => eint_ok hi ?_⟩
      simp only [hc]
      refine ⟨h0.1, h0.2.1, h0.2.2, fun b' hb' => ?_⟩
      have : b' = b := by
        have e1 : s.data.toList[n.toNat]? = some b' := by
          rw [← hb']
          simp only [Array.getElem?_toList]
          rfl
        rw [hb] at e1
        exact (Option.some.inj e1).symm
      subst this
      exact hk
    · cases h
  case ld x size agg =>
    obtain ⟨h1, rfl⟩ := same h
    exact ⟨hn, fun K hk => evLd_ok h1 rfl hk⟩
  case st x v size =>
    split at h
    · rename_i h0
      cases hc : x.get e <;> simp only [hc] at h <;> try (cases h; done)
      rename_i n i j
      cases hs : l.h n <;> simp only [hs] at h <;> try (cases h; done)
      · split at h
        · rename_i h1
          cases h
          have hlt : n < l.length := LH.lt_of (by rw [hs]; simp)
          refine ⟨LH.nf_set hn (by simp), fun K hk => ⟨h0.1, allOneB_ok h0.2, ?_⟩⟩
          simp only [hc, hs]
          rw [LH.h_set _ hlt] at hk
          exact ⟨h1.1, h1.2, hk⟩
        · cases h
      · rename_i esz els
        split at h
        · rename_i h1
          cases hx : els[i]? <;> simp only [hx] at h <;> try (cases h; done)
          rename_i d0
          cases h
          have hlt : n < l.length := LH.lt_of (by rw [hs]; simp)
          refine ⟨LH.nf_set hn (by simp), fun K hk => ⟨h0.1, allOneB_ok h0.2, ?_⟩⟩
          simp only [hc, hs]
          rw [LH.h_set _ hlt] at hk
          refine ⟨(List.getElem?_eq_some_iff.1 hx).1, h1, fun d hd => ?_⟩
          rw [hx] at hd; cases hd
          exact hk
        · cases h
    · cases h
  case alloc zero =>
    cases h
    obtain ⟨a1, a2⟩ := new (.box zero) (by simp)
    exact ⟨a1, fun K hk => a2 (fun n h => K (.ptr n 0 0) h) hk⟩
  case box x =>
    split at h
    · rename_i h0
      cases h
      obtain ⟨a1, a2⟩ := new (.box (x.get e)) (by simp)
      exact ⟨a1, fun K hk => ⟨allOneB_ok h0, a2 (fun n h => K (.ptr n 0 0) h) hk⟩⟩
    · cases h
  case mk esz bytes zero len cap =>
    cases h1 : eint (len.get e) <;> simp only [h1] at h <;> try (cases h; done)
    rename_i n
    cases h2 : eint (cap.get e) <;> simp only [h2] at h <;> try (cases h; done)
    rename_i c
    split at h
    · rename_i h0
      cases h
      obtain ⟨a1, a2⟩ := new (.arr esz (List.replicate n.toNat zero)) (by simp)
      exact ⟨a1, fun K hk => eint_ok h1 (eint_ok h2 ⟨h0.1, h0.2.1, h0.2.2.1, h0.2.2.2, a2 (fun m h => K (.ms m 0 n.toNat) h) hk⟩)⟩
    · cases h
  case slc x lo hi mx esz =>
    cases hc : x.get e <;> simp only [hc] at h <;> try (cases h; done)
    · cases h1 : eopt e lo 0 <;> simp only [h1] at h <;> try (cases h; done)
      cases h2 : eopt e hi 0 <;> simp only [h2] at h <;> try (cases h; done)
      cases h3 : eopt e mx 0 <;> simp only [h3] at h <;> try (cases h; done)
      split at h
      · rename_i h0
        cases h
        refine ⟨hn, fun K hk => ?_⟩
        simp only [vcOp, hc]
        exact eopt_ok h1 (eopt_ok h2 (eopt_ok h3 ⟨h0.1, h0.2.1, h0.2.2, hk⟩))
      · cases h
    · rename_i xs
      cases h1 : eopt e lo 0 <;> simp only [h1] at h <;> try (cases h; done)
      cases h2 : eopt e hi xs.length <;> simp only [h2] at h <;> try (cases h; done)
      cases h3 : eopt e mx xs.length <;> simp only [h3] at h <;> try (cases h; done)
      split at h
      · rename_i h0
        cases h
        refine ⟨hn, fun K hk => ?_⟩
        simp only [vcOp, hc]
        exact eopt_ok h1 (eopt_ok h2 (eopt_ok h3 ⟨h0.1, h0.2.1, h0.2.2.1, h0.2.2.2.1, fun d hd => by simpa using List.all_eq_true.1 h0.2.2.2.2 d hd, hk⟩))
      · cases h
    · rename_i n off len
      cases h1 : eopt e lo 0 <;> simp only [h1] at h <;> try (cases h; done)
      cases h2 : eopt e hi len <;> simp only [h2] at h <;> try (cases h; done)
      cases h3 : eopt e mx len <;> simp only [h3] at h <;> try (cases h; done)
      cases hr : (l.h n).row <;> simp only [hr] at h <;> try (cases h; done)
      rename_i q
      obtain ⟨e', els⟩ := q
      simp only at h
      split at h
      · rename_i h0
        obtain ⟨rfl, h0⟩ := h0
        cases h
        refine ⟨hn, fun K hk => ?_⟩
        simp only [vcOp, hc]
        exact eopt_ok h1 (eopt_ok h2 (eopt_ok h3 ⟨h0.1, h0.2.1, h0.2.2.1, h0.2.2.2, ⟨els, hr⟩, hk⟩))
      · cases h
  case nilq neg x =>
    cases hc : x.get e <;> simp only [hc] at h <;> try (cases h; done)
    · cases h
      exact ⟨hn, fun K hk => by simp only [vcOp, hc]; exact hk⟩
    · rename_i xs
      cases xs with
      | nil => cases h
      | cons d r =>
        cases h
        exact ⟨hn, fun K hk => by simp only [vcOp, hc]; exact hk⟩
  case slz x esz =>
    obtain ⟨a1, a2⟩ := new (.arr esz []) (by simp)
    cases hc : x.get e <;> simp only [hc] at h <;> try (cases h; done)
    · cases h
      exact ⟨a1, fun K hk => by simp only [vcOp, hc]; exact a2 (fun n h => K (.ms n 0 0) h) hk⟩
    · cases h
      exact ⟨a1, fun K hk => by simp only [vcOp, hc]; exact a2 (fun n h => K (.ms n 0 0) h) hk⟩
    · rename_i m off len
      cases hr : (l.h m).row <;> simp only [hr] at h <;> try (cases h; done)
      rename_i q
      obtain ⟨e', els⟩ := q
      simp only at h
      split at h
      · rename_i h0
        subst h0
        cases h
        exact ⟨a1, fun K hk => by simp only [vcOp, hc]; exact ⟨⟨els, hr⟩, a2 (fun n h => K (.ms n 0 0) h) hk⟩⟩
      · cases h
  case sslc x lo hi =>
    cases hc : x.get e <;> simp only [hc] at h <;> try (cases h; done)
    rename_i s
    cases h1 : eopt e lo 0 <;> simp only [h1] at h <;> try (cases h; done)
    cases h2 : eopt e hi s.size <;> simp only [h2] at h <;> try (cases h; done)
    split at h
    · rename_i h0
      cases h
      refine ⟨hn, fun K hk => ?_⟩
      simp only [vcOp, hc]
      exact eopt_ok h1 (eopt_ok h2 ⟨h0.1, h0.2.1, h0.2.2, hk⟩)
    · cases h
  case app s x esz bytes zero =>
    cases hx : eelems esz (x.get e) l <;> simp only [hx] at h <;> try (cases h; done)
    rename_i ys
    split at h
    · rename_i hall
      have hall' : ∀ y, y ∈ ys → AllOne y := fun y hy => allOneB_ok (List.all_eq_true.1 hall y hy)
      cases hs : s.get e <;> simp only [hs] at h <;> try (cases h; done)
      · split at h
        · rename_i h0
          cases h
          obtain ⟨a1, a2⟩ := new (.arr esz ys) (by simp)
          refine ⟨a1, fun K hk => ?_⟩
          simp only [vcOp, hs]
          refine eelems_ok hx ⟨hall', ?_⟩
          exact ⟨h0, a2 (fun m h => K (.ms m 0 ys.length) h) hk⟩
        · cases h
      · rename_i m off len
        cases hm : l.h m <;> simp only [hm] at h <;> try (cases h; done)
        rename_i esz' els
        split at h
        · rename_i h0
          obtain ⟨rfl, rfl, rfl, h0⟩ := h0
          cases h
          have hlt : m < l.length := LH.lt_of (by rw [hm]; simp)
          refine ⟨LH.nf_push (LH.nf_set hn (by simp)) (by simp), fun K hk => ?_⟩
          simp only [vcOp, hs]
          refine eelems_ok hx ⟨hall', ?_⟩
          refine ⟨els, hm, (by trivial), (by trivial), h0, fun n t => ?_⟩
          have := LH.top hn t
          subst this
          rw [LH.h_push, LH.h_set _ hlt, List.length_set] at hk
          exact hk
        · cases h
    · cases h
  case cpy d0 s esz =>
    cases hx : eelems esz (s.get e) l <;> simp only [hx] at h <;> try (cases h; done)
    rename_i ys
    split at h
    · rename_i hall
      have hall' : ∀ y, y ∈ ys → AllOne y := fun y hy => allOneB_ok (List.all_eq_true.1 hall y hy)
      cases hs : d0.get e <;> simp only [hs] at h <;> try (cases h; done)
      rename_i m off len
      cases hm : l.h m <;> simp only [hm] at h <;> try (cases h; done)
      rename_i esz' els
      split at h
      · rename_i h0
        obtain ⟨rfl, h0⟩ := h0
        cases h
        have hlt : m < l.length := LH.lt_of (by rw [hm]; simp)
        refine ⟨LH.nf_set hn (by simp), fun K hk => ?_⟩
        simp only [vcOp, hs]
        refine eelems_ok hx ⟨hall', ?_⟩
        rw [LH.h_set _ hlt] at hk
        exact ⟨els, hm, h0, hk⟩
      · cases h
    · cases h
  case call f args => exact evCall_ok ok h hn
  case callv x args =>
    cases hc : x.get e <;> simp only [hc] at h <;> try (cases h; done)
    split at h
    · rename_i h0
      obtain ⟨a1, a2⟩ := evCall_ok ok h hn
      refine ⟨a1, fun K hk => ?_⟩
      simp only [vcOp, hc]
      exact ⟨h0, a2 K hk⟩
    · cases h
  case mkf f a b => cases h; exact ⟨hn, fun K hk => hk⟩
  case mn x y =>
    cases hx : x.get e <;> simp only [hx] at h <;> try (cases h; done)
    cases hy : y.get e <;> simp only [hy] at h <;> try (cases h; done)
    split at h
    · cases h; exact ⟨hn, fun K hk => by simp only [vcOp, hx, hy]; exact ⟨by assumption, hk⟩⟩
    · cases h
  case mx x y =>
    cases hx : x.get e <;> simp only [hx] at h <;> try (cases h; done)
    cases hy : y.get e <;> simp only [hy] at h <;> try (cases h; done)
    split at h
    · cases h; exact ⟨hn, fun K hk => by simp only [vcOp, hx, hy]; exact ⟨by assumption, hk⟩⟩
    · cases h
  case mn3 x y z =>
    cases hx : x.get e <;> simp only [hx] at h <;> try (cases h; done)
    cases hy : y.get e <;> simp only [hy] at h <;> try (cases h; done)
    cases hz : z.get e <;> simp only [hz] at h <;> try (cases h; done)
    split at h
    · rename_i h0
      cases h; exact ⟨hn, fun K hk => by simp only [vcOp, hx, hy, hz]; exact ⟨h0.1, h0.2, hk⟩⟩
    · cases h
  case mx3 x y z =>
    cases hx : x.get e <;> simp only [hx] at h <;> try (cases h; done)
    cases hy : y.get e <;> simp only [hy] at h <;> try (cases h; done)
    cases hz : z.get e <;> simp only [hz] at h <;> try (cases h; done)
    split at h
    · rename_i h0
      cases h; exact ⟨hn, fun K hk => by simp only [vcOp, hx, hy, hz]; exact ⟨h0.1, h0.2, hk⟩⟩
    · cases h
  case dead => cases h

end Go.Am
/- The abstract machine, part 32: the evaluator for code and functions. No condition. -/
namespace Go.Am
open Go

variable [GTab]

variable {P : Program} {C : Calls0}

def evVal (P : Program) (C : Calls0) (op : AOp) (e : LEnv) (l : LH) : Option D :=
  match op with
  | .bldS _ esz len zero parts =>
    if bldOkB len esz (parts.map fun p => (p.1, p.2.get e)) && (parts.map fun p => (p.1, p.2.get e)).all (fun p => voneB p.2) && voneB zero then
      some (.sl (setEls (List.replicate len zero) (parts.map fun p => (p.1, p.2.get e))))
    else none
  | .call f args => evPure C f (args.map (·.get e)) l
  | .fadd x off => match x.get e with
    | .ptr n i j => match l.h n with
      | .box _ => some (.ptr n i (j + off))
      | _ => none
    | .vp d j => some (.vp d (j + off))
    | _ => none
  | op => (evOp P C op e l).map (·.1)

theorem evPure_v (ok : CallsOk P C) {f : FuncId} {ds : List D} {l : LH} {r : D} (h : evPure C f ds l = some r) : VCall P f (ds.map (D.fz l.h)) (· = r) ∧ callOk l.h ds ∧ (r.flat = true ∨ FrzAll l.h (ds.flatMap D.nm)) := by
  unfold evPure at h
  split at h
  · cases h
  · split at h
    · rename_i hc
      rw [fDL_eq] at h
      split at h
      · rename_i r' hv
        split at h
        · rename_i hf
          simp at h; subst h
          refine ⟨ok.vcall _ _ _ hv, callOkB_ok hc, ?_⟩
          simp only [Bool.or_eq_true] at hf
          exact hf.imp id fun hz n hn => isFrz_ok (List.all_eq_true.1 hz n hn)
        · cases h
      · cases h
    · cases h

theorem evVal_ok (ok : CallsOk P C) {op : AOp} {e : LEnv} {l : LH} {d : D} (h : evVal P C op e l = some d) (hn : l.nf) {K : D → Prop} (hk : K d) : vcdOp P op K e l.h := by
  have dflt : (evOp P C op e l).map (·.1) = some d → vcOp P op (fun d _ => K d) e l.h := by
    intro h
    cases he : evOp P C op e l with
    | none => rw [he] at h; cases h
    | some q =>
      rw [he] at h
      obtain ⟨d', l'⟩ := q
      simp at h; subst h
      exact (evOp_ok ok he hn).2 _ hk
  cases op
  case bldS fz esz len zero parts =>
    simp only [evVal] at h
    split at h
    · rename_i hc
      simp only [Bool.and_eq_true] at hc
      cases h
      exact ⟨bldOkB_ok hc.1.1, fun p hp => voneB_ok (List.all_eq_true.1 hc.1.2 p hp), voneB_ok hc.2, hk⟩
    · cases h
  case call f args =>
    simp only [evVal] at h
    obtain ⟨h1, h2, h3⟩ := evPure_v ok h
    refine ⟨d, by simpa [List.map_map, Function.comp_def] using h1, h2, by simpa [List.flatMap_map] using h3, hk⟩
  case fadd x off =>
    simp only [evVal, vcdOp] at h ⊢
    cases hx : x.get e <;> simp only [hx] at h ⊢ <;> try (cases h; done)
    · rename_i n i j
      cases hs : l.h n <;> simp only [hs] at h <;> try (cases h; done)
      cases h
      exact ⟨⟨_, rfl⟩, hk⟩
    · cases h; exact hk
  all_goals exact dflt h

def evVals (P : Program) (C : Calls0) : List AOper → LEnv → LH → Option LEnv
  | [], e, _ => some e
  | o :: r, e, l => match o.guard with
    | none => match evVal P C o.op e l with
      | some d => fD d fun d => evVals P C r (e.put o.dst d) l
      | none => none
    | some (j, want) => match e.get j with
      | .bool b => if b = want then match evVal P C o.op e l with
          | some d => fD d fun d => evVals P C r (e.put o.dst d) l
          | none => none
        else evVals P C r (e.put o.dst gU) l
      | .tup _ => evVals P C r (e.put o.dst gU) l
      | _ => none

theorem evVals_ok (ok : CallsOk P C) : ∀ (os : List AOper) (e : LEnv) (l : LH) (e' : LEnv), evVals P C os e l = some e' → l.nf → ∀ K : LEnv → Heap → Prop, K e' l.h → vcVals P os K e l.h
  | [], e, l, e', h, _, K, hk => by simp [evVals] at h; subst h; exact hk
  | o :: r, e, l, e', h, hn, K, hk => by
    have go : (match evVal P C o.op e l with
      | some d => fD d fun d => evVals P C r (e.put o.dst d) l
      | none => none) = some e' → vcdOp P o.op (fun d => vcVals P r K (e.put o.dst d) l.h) e l.h := by
      intro h
      cases hd : evVal P C o.op e l with
      | none => rw [hd] at h; cases h
      | some d =>
        rw [hd] at h
        simp only [fD_eq] at h
        exact evVal_ok ok hd hn (evVals_ok ok r _ l e' h hn K hk)
    simp only [evVals, vcVals, vcdOper] at h ⊢
    cases hg : o.guard with
    | none => simp only [hg] at h ⊢; exact go h
    | some q =>
      obtain ⟨j, want⟩ := q
      simp only [hg] at h ⊢
      cases hb : e.get j <;> simp only [hb] at h <;> try (cases h; done)
      · rename_i b
        by_cases hbw : b = want
        · rw [if_pos hbw] at h
          simp only [vguard1, gv]
          exact ⟨fun _ => go h, fun hne => absurd (congrArg some hbw) hne⟩
        · rw [if_neg hbw] at h
          simp only [vguard1, gv]
          exact ⟨fun he => absurd (Option.some.inj he) hbw, fun _ => evVals_ok ok r _ l e' h hn K hk⟩
      · simp only [vguard1, gv]
        exact ⟨fun he => (by cases he), fun _ => evVals_ok ok r _ l e' h hn K hk⟩

def evOps (P : Program) (C : Calls0) : List AOper → LEnv → LH → Option (LEnv × LH)
  | [], e, l => some (e, l)
  | o :: r, e, l => match o.guard with
    | none => match evOp P C o.op e l with
      | some (d, l') => fD d fun d => evOps P C r (e.put o.dst d) l'
      | none => none
    | some (j, want) => match e.get j with
      | .bool b => if b = want then match evOp P C o.op e l with
          | some (d, l') => fD d fun d => evOps P C r (e.put o.dst d) l'
          | none => none
        else evOps P C r (e.put o.dst gU) l
      | .tup _ => evOps P C r (e.put o.dst gU) l
      | _ => none

theorem evOps_ok (ok : CallsOk P C) : ∀ (os : List AOper) (e : LEnv) (l : LH) (e' : LEnv) (l' : LH), evOps P C os e l = some (e', l') → l.nf → l'.nf ∧ ∀ K : LEnv → Heap → Prop, K e' l'.h → vcOps P os K e l.h
  | [], e, l, e', l', h, hn => by simp [evOps] at h; obtain ⟨rfl, rfl⟩ := h; exact ⟨hn, fun K hk => hk⟩
  | o :: r, e, l, e', l', h, hn => by
    have go : (match evOp P C o.op e l with
      | some (d, l') => fD d fun d => evOps P C r (e.put o.dst d) l'
      | none => none) = some (e', l') → l'.nf ∧ ∀ K : LEnv → Heap → Prop, K e' l'.h → vcOp P o.op (fun d h' => vcOps P r K (e.put o.dst d) h') e l.h := by
      intro h
      cases hd : evOp P C o.op e l with
      | none => rw [hd] at h; cases h
      | some q =>
        obtain ⟨d, l1⟩ := q
        rw [hd] at h
        simp only [fD_eq] at h
        obtain ⟨a1, a2⟩ := evOp_ok ok hd hn
        obtain ⟨b1, b2⟩ := evOps_ok ok r _ l1 e' l' h a1
        exact ⟨b1, fun K hk => a2 _ (b2 K hk)⟩
    simp only [evOps, vcOps, vcOper] at h ⊢
    cases hg : o.guard with
    | none => simp only [hg] at h ⊢; exact go h
    | some q =>
      obtain ⟨j, want⟩ := q
      simp only [hg] at h ⊢
      cases hb : e.get j <;> simp only [hb] at h <;> try (cases h; done)
      · rename_i b
        by_cases hbw : b = want
        · rw [if_pos hbw] at h
          obtain ⟨g1, g2⟩ := go h
          simp only [vguard, gv]
          exact ⟨g1, fun K hk => ⟨fun _ => g2 K hk, fun hne => absurd (congrArg some hbw) hne⟩⟩
        · rw [if_neg hbw] at h
          obtain ⟨g1, g2⟩ := evOps_ok ok r _ l e' l' h hn
          simp only [vguard, gv]
          exact ⟨g1, fun K hk => ⟨fun he => absurd (Option.some.inj he) hbw, fun _ => g2 K hk⟩⟩
      · obtain ⟨g1, g2⟩ := evOps_ok ok r _ l e' l' h hn
        simp only [vguard, gv]
        exact ⟨g1, fun K hk => ⟨fun he => (by cases he), fun _ => g2 K hk⟩⟩

def evRev (P : Program) (C : Calls0) (e : LEnv) (l : LH) (b : AOper) : Bool :=
  match b.dst with
  | some s => (evVal P C b.op e l).any (D.same (e.get s))
  | none => true
theorem evRev_ok (ok : CallsOk P C) : ∀ {rev : List AOper} {e : LEnv} {l : LH}, rev.all (evRev P C e l) = true → l.nf → vcRev P rev e l.h
  | [], _, _, _, _ => trivial
  | b :: r, e, l, h, hn => by
    simp only [List.all_cons, Bool.and_eq_true] at h
    refine ⟨?_, evRev_ok ok h.2 hn⟩
    have h1 := h.1
    unfold evRev at h1
    cases hd : b.dst with
    | none => trivial
    | some s =>
      simp only [hd] at h1 ⊢
      cases hv : evVal P C b.op e l with
      | none => rw [hv] at h1; cases h1
      | some d =>
        rw [hv] at h1
        simp only [Option.any_some] at h1
        refine evVal_ok ok hv hn ?_
        have := D.eq_of_same _ _ h1
        show [d] = [e.get s]
        rw [this]
def evTail (P : Program) (C : Calls0) (rev : List AOper) : List AOper → LEnv → LH → Option (LEnv × LH)
  | [], e, l => some (e, l)
  | o :: r, e, l => match evOps P C [o] e l with
    | some (e', l') => if rev.all (evRev P C e' l') then evTail P C rev r e' l' else none
    | none => none
theorem vcOper_mono {o : AOper} {K K' : LEnv → Heap → Prop} (hk : ∀ e h, K e h → K' e h) {e : LEnv} {h : Heap} (hv : vcOper P o K e h) : vcOper P o K' e h := by
  unfold vcOper at hv ⊢
  cases hg : o.guard with
  | none => simp only [hg] at hv ⊢; exact vcOp_mono (fun d h' hh => hk _ _ hh) hv
  | some q =>
    obtain ⟨j, want⟩ := q
    simp only [hg, vguard] at hv ⊢
    cases hb : gv (e.get j) <;> simp only [hb] at hv ⊢
    exact ⟨fun hb => vcOp_mono (fun d h' hh => hk _ _ hh) (hv.1 hb), fun hb => hk _ _ (hv.2 hb)⟩
theorem vcTail_cons {rev : List AOper} {o : AOper} {r : List AOper} {K : LEnv → Heap → Prop} {e : LEnv} {h : Heap} (hv : vcOper P o (fun e h => vcRev P rev e h ∧ vcTail P rev r K e h) e h) : vcTail P rev (o :: r) K e h := by
  cases rev with
  | nil => exact vcOper_mono (fun e h hh => hh.2) hv
  | cons b s => exact hv
theorem evTail_ok (ok : CallsOk P C) {rev : List AOper} : ∀ (os : List AOper) (e : LEnv) (l : LH) (e' : LEnv) (l' : LH), evTail P C rev os e l = some (e', l') → l.nf → l'.nf ∧ ∀ K : LEnv → Heap → Prop, K e' l'.h → vcTail P rev os K e l.h
  | [], e, l, e', l', h, hn => by
    simp [evTail] at h; obtain ⟨rfl, rfl⟩ := h
    refine ⟨hn, fun K hk => ?_⟩
    cases rev <;> exact hk
  | o :: r, e, l, e', l', h, hn => by
    simp only [evTail] at h
    cases h1 : evOps P C [o] e l with
    | none => rw [h1] at h; cases h
    | some q =>
      obtain ⟨e1, l1⟩ := q
      rw [h1] at h
      simp only at h
      split at h
      · rename_i hrv
        obtain ⟨a1, a2⟩ := evOps_ok ok _ _ _ _ _ h1 hn
        obtain ⟨b1, b2⟩ := evTail_ok ok r e1 l1 e' l' h a1
        exact ⟨b1, fun K hk => vcTail_cons (a2 (fun e h => vcRev P rev e h ∧ vcTail P rev r K e h) ⟨evRev_ok ok hrv a1, b2 K hk⟩)⟩
      · cases h

/-- An environment with some names only. -/
def fE {α : Type} : List Nat → LEnv → (LEnv → α) → α
  | [], _, k => k []
  | v :: r, e, k => fD (e.get v) fun d => fE r e fun t => k ((v, d) :: t)
theorem fE_eq {α : Type} : ∀ (vs : List Nat) (e : LEnv) (k : LEnv → α), fE vs e k = k (vs.map fun v => (v, e.get v))
  | [], _, _ => rfl
  | v :: r, e, k => by rw [fE, fD_eq, fE_eq r]; rfl

abbrev Out := Option (Ex × LEnv × LH)

def evLoop (body : LEnv → LH → Out) (keep vars : List Nat) (e0 : LEnv) : Nat → LEnv → LH → Out
  | 0, _, _ => none
  | n + 1, e, l => fE vars e fun ev => fE keep e0 fun ek => match body (ev ++ ek) l with
    | some (.normal, e', l') => if D.sameL (keep.map e'.get) (keep.map e0.get) then evLoop body keep vars e0 n e' l' else none
    | r => r

def evC (P : Program) (C : Calls0) (N : Nat) : ACode → LEnv → LH → Out
  | .skip, e, l => some (.normal, e, l)
  | .seq a b, e, l => match evC P C N a e l with
    | some (.normal, e', l') => evC P C N b e' l'
    | r => r
  | .seqj keep vars a b, e, l => match evC P C N a e l with
    | some (.normal, e', l') => if D.sameL (keep.map e'.get) (keep.map e.get) then fE vars e' fun ev => fE keep e fun ek => evC P C N b (ev ++ ek) l' else none
    | r => r
  | .cond c a b, e, l => match c.get e with
    | .bool t => match t with
      | true => evC P C N a e l
      | false => evC P C N b e l
    | _ => none
  | .block id a, e, l => match evC P C N a e l with
    | some (.exit id', e', l') => if id' = id then some (.normal, e', l') else some (.exit id', e', l')
    | r => r
  | .exit id, e, l => some (.exit id, e, l)
  | .ret, e, l => some (.ret, e, l)
  | .loop keep vars a, e, l => evLoop (evC P C N a) keep vars e N e l
  | .reg os, e, l => match evOps P C os e l with
    | some (e', l') => some (.normal, e', l')
    | none => none
  | .dreg vals tail rev, e, l => match evVals P C vals e l with
    | some e1 => match evTail P C rev tail e1 l with
      | some (e', l') => some (.normal, e', l')
      | none => none
    | none => none
  | .range _ _ _ _ _ _, _, _ => none
  | .frz a, e, l => match evC P C N a e l with
    | some r => some r
    | none => evC P C N a e (l.frzAll (List.range l.length))

def BodyOk (P : Program) (a : ACode) (body : LEnv → LH → Out) : Prop :=
  ∀ e l x e' l', body e l = some (x, e', l') → l.nf → l'.nf ∧ ∀ Q : LPost, Q x e' l'.h → vcC P a Q e l.h

theorem evLoop_nf {a : ACode} {body : LEnv → LH → Out} (hb : BodyOk P a body) {keep vars : List Nat} {e0 : LEnv} : ∀ (n : Nat) (e : LEnv) (l : LH) (x : Ex) (e' : LEnv) (l' : LH), evLoop body keep vars e0 n e l = some (x, e', l') → l.nf → l'.nf := by
  intro n
  induction n with
  | zero => intro e l x e' l' h; cases h
  | succ n ih =>
    intro e l x e' l' h hn
    simp only [evLoop, fE_eq] at h
    cases hr : body (vars.map (fun v => (v, e.get v)) ++ keep.map fun v => (v, e0.get v)) l with
    | none => rw [hr] at h; cases h
    | some q =>
      obtain ⟨x1, e1, l1⟩ := q
      rw [hr] at h
      have h1 := (hb _ _ _ _ _ hr hn).1
      cases x1 <;> simp only at h
      · split at h
        · exact ih _ _ _ _ _ h h1
        · cases h
      · cases h; exact h1
      · cases h; exact h1

theorem evLoop_ok {a : ACode} {body : LEnv → LH → Out} (hb : BodyOk P a body) {keep vars : List Nat} {N : Nat} {e : LEnv} {l : LH} {x : Ex} {e' : LEnv} {l' : LH} (h : evLoop body keep vars e N e l = some (x, e', l')) (hn : l.nf) :
    ∀ Q : LPost, Q x e' l'.h → vcC P (.loop keep vars a) Q e l.h := by
  intro Q hq
  refine ⟨fun n ds h' => ∃ e1 l1, ds = vars.map e1.get ∧ h' = LH.h l1 ∧ l1.nf ∧ evLoop body keep vars e n e1 l1 = some (x, e', l'), N, ⟨e, l, rfl, rfl, hn, h⟩, ?_⟩
  rintro n f h' ⟨e1, l1, hf, rfl, hn1, he⟩
  cases n with
  | zero => cases he
  | succ n =>
    simp only [evLoop, fE_eq] at he
    have hv : vars.map (fun v => (v, f v)) = vars.map (fun v => (v, e1.get v)) := by
      have := List.map_inj_left.1 hf
      exact List.map_inj_left.2 fun v hv => by rw [this v hv]
    rw [hv]
    cases hr : body (vars.map (fun v => (v, e1.get v)) ++ keep.map fun v => (v, e.get v)) l1 with
    | none => rw [hr] at he; cases he
    | some q =>
      obtain ⟨x2, e2, l2⟩ := q
      rw [hr] at he
      obtain ⟨h1, h2⟩ := hb _ _ _ _ _ hr hn1
      refine h2 _ ?_
      cases x2 <;> simp only at he
      · split at he
        · rename_i hs
          exact ⟨D.eq_of_sameL _ _ hs, n, Nat.lt_succ_self n, e2, l2, rfl, rfl, h1, he⟩
        · cases he
      · cases he; exact hq
      · cases he; exact hq

theorem evC_ok (ok : CallsOk P C) (N : Nat) : ∀ (a : ACode), BodyOk P a (evC P C N a) := by
  intro a
  induction a with
  | skip => intro e l x e' l' h hn; cases h; exact ⟨hn, fun Q hq => hq⟩
  | exit id => intro e l x e' l' h hn; cases h; exact ⟨hn, fun Q hq => hq⟩
  | ret => intro e l x e' l' h hn; cases h; exact ⟨hn, fun Q hq => hq⟩
  | seq a b iha ihb =>
    intro e l x e' l' h hn
    simp only [evC] at h
    cases hr : evC P C N a e l with
    | none => rw [hr] at h; cases h
    | some q =>
      obtain ⟨x1, e1, l1⟩ := q
      rw [hr] at h
      obtain ⟨h1, h2⟩ := iha _ _ _ _ _ hr hn
      cases x1 <;> simp only at h
      · obtain ⟨g1, g2⟩ := ihb _ _ _ _ _ h h1
        exact ⟨g1, fun Q hq => h2 _ (g2 Q hq)⟩
      · cases h; exact ⟨h1, fun Q hq => h2 _ hq⟩
      · cases h; exact ⟨h1, fun Q hq => h2 _ hq⟩
  | seqj keep vars a b iha ihb =>
    intro e l x e' l' h hn
    simp only [evC, fE_eq] at h
    cases hr : evC P C N a e l with
    | none => rw [hr] at h; cases h
    | some q =>
      obtain ⟨x1, e1, l1⟩ := q
      rw [hr] at h
      obtain ⟨h1, h2⟩ := iha _ _ _ _ _ hr hn
      cases x1 <;> simp only at h
      · split at h
        · rename_i hs
          obtain ⟨g1, g2⟩ := ihb _ _ _ _ _ h h1
          refine ⟨g1, fun Q hq => ⟨fun ds h' => ds = vars.map e1.get ∧ h' = l1.h, ?_, h2 _ ⟨D.eq_of_sameL _ _ hs, rfl, rfl⟩⟩⟩
          rintro f h' ⟨hf, rfl⟩
          have hv : vars.map (fun v => (v, f v)) = vars.map (fun v => (v, e1.get v)) := by
            have := List.map_inj_left.1 hf
            exact List.map_inj_left.2 fun v hv => by rw [this v hv]
          rw [hv]
          exact g2 Q hq
        · cases h
      · cases h; exact ⟨h1, fun Q hq => ⟨fun _ _ => False, fun _ _ h => h.elim, h2 _ hq⟩⟩
      · cases h; exact ⟨h1, fun Q hq => ⟨fun _ _ => False, fun _ _ h => h.elim, h2 _ hq⟩⟩
  | cond c a b iha ihb =>
    intro e l x e' l' h hn
    simp only [evC] at h
    cases hc : c.get e <;> simp only [hc] at h <;> try (cases h; done)
    rename_i t
    cases t
    · obtain ⟨g1, g2⟩ := ihb _ _ _ _ _ h hn
      exact ⟨g1, fun Q hq => by simp only [vcC, hc]; exact ⟨fun h => (by cases h), fun _ => g2 Q hq⟩⟩
    · obtain ⟨g1, g2⟩ := iha _ _ _ _ _ h hn
      exact ⟨g1, fun Q hq => by simp only [vcC, hc]; exact ⟨fun _ => g2 Q hq, fun h => (by cases h)⟩⟩
  | block id a iha =>
    intro e l x e' l' h hn
    simp only [evC] at h
    cases hr : evC P C N a e l with
    | none => rw [hr] at h; cases h
    | some q =>
      obtain ⟨x1, e1, l1⟩ := q
      rw [hr] at h
      obtain ⟨h1, h2⟩ := iha _ _ _ _ _ hr hn
      cases x1 <;> simp only at h
      · cases h; exact ⟨h1, fun Q hq => h2 _ hq⟩
      · split at h
        · rename_i hid
          cases h
          exact ⟨h1, fun Q hq => h2 _ (by simp only [LPost.block, if_pos hid]; exact hq)⟩
        · rename_i hid
          cases h
          exact ⟨h1, fun Q hq => h2 _ (by simp only [LPost.block, if_neg hid]; exact hq)⟩
      · cases h; exact ⟨h1, fun Q hq => h2 _ hq⟩
  | loop keep vars a iha =>
    intro e l x e' l' h hn
    exact ⟨evLoop_nf iha _ _ _ _ _ _ h hn, evLoop_ok iha h hn⟩
  | reg os =>
    intro e l x e' l' h hn
    simp only [evC] at h
    cases hr : evOps P C os e l with
    | none => rw [hr] at h; cases h
    | some q =>
      obtain ⟨e1, l1⟩ := q
      rw [hr] at h
      cases h
      obtain ⟨g1, g2⟩ := evOps_ok ok _ _ _ _ _ hr hn
      exact ⟨g1, fun Q hq => g2 _ hq⟩
  | dreg vals tail rev =>
    intro e l x e' l' h hn
    simp only [evC] at h
    cases hv : evVals P C vals e l with
    | none => rw [hv] at h; cases h
    | some e1 =>
      rw [hv] at h
      simp only at h
      cases hr : evTail P C rev tail e1 l with
      | none => rw [hr] at h; cases h
      | some q =>
        obtain ⟨e2, l2⟩ := q
        rw [hr] at h
        cases h
        obtain ⟨g1, g2⟩ := evTail_ok ok _ _ _ _ _ hr hn
        exact ⟨g1, fun Q hq => evVals_ok ok _ _ _ _ hv hn _ (g2 _ hq)⟩
  | range g ps keep exs a b _ _ => intro e l x e' l' h; cases h
  | frz a iha =>
    intro e l x e' l' h hn
    simp only [evC] at h
    cases hr : evC P C N a e l with
    | some q =>
      rw [hr] at h
      cases h
      obtain ⟨g1, g2⟩ := iha _ _ _ _ _ hr hn
      exact ⟨g1, fun Q hq => ⟨[], g2 Q hq⟩⟩
    | none =>
      rw [hr] at h
      obtain ⟨f1, f2⟩ := LH.frzAll_ok (List.range l.length) hn
      obtain ⟨g1, g2⟩ := iha _ _ _ _ _ h f2
      exact ⟨g1, fun Q hq => ⟨_, by rw [← f1]; exact g2 Q hq⟩⟩

/- Functions. -/
def evRes (r : RV) (e : LEnv) (l : LH) : Option D :=
  match r with
  | .t i => some (e.get i)
  | .cell i size agg => evLd (e.get i) size agg l
def evRess : List RV → LEnv → LH → Option (List D)
  | [], _, _ => some []
  | r :: s, e, l => match evRes r e l with
    | some d => match evRess s e l with
      | some ds => some (d :: ds)
      | none => none
    | none => none
def evRet (rs : List RV) (e : LEnv) (l : LH) : Option D :=
  match rs with
  | [r] => evRes r e l
  | rs => match evRess rs e l with
    | some ds => some (.tup ds)
    | none => none
theorem evRes_ok {r : RV} {e : LEnv} {l : LH} {d : D} (h : evRes r e l = some d) {K : D → Prop} (hk : K d) : vcRes P r e l.h K := by
  cases r with
  | t i => cases h; exact hk
  | cell i n g => exact evLd_ok (P := P) (K := fun d _ => K d) h rfl hk
theorem evRess_ok : ∀ (rs : List RV) {e : LEnv} {l : LH} {ds : List D}, evRess rs e l = some ds → ∀ {K : List D → Prop}, K ds → vcRess P rs e l.h K
  | [], e, l, ds, h, K, hk => by cases h; exact hk
  | r :: s, e, l, ds, h, K, hk => by
    simp only [evRess] at h
    cases hr : evRes r e l with
    | none => rw [hr] at h; cases h
    | some d =>
      rw [hr] at h
      simp only at h
      cases hs : evRess s e l with
      | none => rw [hs] at h; cases h
      | some ds' =>
        rw [hs] at h
        cases h
        exact evRes_ok hr (evRess_ok s hs hk)
theorem evRet_ok {rs : List RV} {e : LEnv} {l : LH} {d : D} (h : evRet rs e l = some d) {K : D → Heap → Prop} (hk : K d l.h) : vcRet P rs K e l.h := by
  have many : (match evRess rs e l with | some ds => some (D.tup ds) | none => none) = some d → vcRess P rs e l.h fun ds => K (.tup ds) l.h := by
    intro h
    cases hs : evRess rs e l with
    | none => rw [hs] at h; cases h
    | some ds =>
      rw [hs] at h
      cases h
      exact evRess_ok rs hs hk
  match rs, h with
  | [r], h => exact evRes_ok (K := fun d => K d l.h) h hk
  | [], h => exact many h
  | r :: s :: q, h => exact many h

/-- What is known of the functions. -/
structure FTab (P : Program) (fs : FuncId → Option AFunc) where
  a : ∀ f F, fs f = some F → ∀ ds K h, vcFn P F ds K h → ACall P f ds h K
  spec : FuncId → Option (List D → Option D)
  sp : ∀ f s, spec f = some s → ∀ ds r, s ds = some r → VCall P f ds (· = r)
  v : ∀ f F, fs f = some F → ∀ ds (K : D → Prop), vcFn P F ds (fun r h => AllOneT r ∧ FzOkT h r ∧ (r.fzt h).vdt = true ∧ K (r.fzt h)) noHeap → VCall P f ds K

def evPures (spec : FuncId → Option (List D → Option D)) (own : FuncId → Bool) (call : FuncId → List D → LH → Option (D × LH)) : Calls0 where
  call := call
  vcall f ds := match spec f with
    | some s => match s ds with
      | some r => fD r fun d => some d
      | none => none
    | none => match call f ds [] with
      | some (r, l) => if allOneTB r && fzOkTB l r && (r.fzt l.h).vdt then fD (r.fzt l.h) fun d => some d else none
      | none => none
  own := own

def evF (P : Program) (fs : FuncId → Option AFunc) (spec : FuncId → Option (List D → Option D)) (own : FuncId → Bool) (N : Nat) : Nat → FuncId → List D → LH → Option (D × LH)
  | 0, _, _, _ => none
  | n + 1, f, ds, l => match fs f with
    | none => none
    | some F => if ds.length ≤ F.nt then
        match evC P (evPures spec own (evF P fs spec own N n)) N F.code (params ds 0) l with
        | some (x, e, l') => match x with
          | .exit _ => none
          | .normal => match evRet F.res e l' with
            | some d => fD d fun d => some (d, l')
            | none => none
          | .ret => match evRet F.res e l' with
            | some d => fD d fun d => some (d, l')
            | none => none
        | none => none
      else none

theorem noHeap_eq : noHeap = LH.h [] := by funext n; simp [noHeap, LH.h]

theorem evF_vc {fs : FuncId → Option AFunc} {spec : FuncId → Option (List D → Option D)} {own : FuncId → Bool} {N n : Nat} (ok : CallsOk P (evPures spec own (evF P fs spec own N n))) {f : FuncId} {ds : List D} {l : LH} {d : D} {l' : LH} (h : evF P fs spec own N (n + 1) f ds l = some (d, l')) (hn : l.nf) :
    l'.nf ∧ ∃ F, fs f = some F ∧ ∀ K : D → Heap → Prop, K d l'.h → vcFn P F ds K l.h := by
  simp only [evF] at h
  cases hf : fs f with
  | none => rw [hf] at h; cases h
  | some F =>
    rw [hf] at h
    simp only at h
    split at h
    · rename_i hlen
      cases hr : evC P (evPures spec own (evF P fs spec own N n)) N F.code (params ds 0) l with
      | none => rw [hr] at h; cases h
      | some q =>
        obtain ⟨x, e, l1⟩ := q
        rw [hr] at h
        obtain ⟨g1, g2⟩ := evC_ok ok N F.code _ _ _ _ _ hr hn
        cases x <;> simp only at h <;> try (cases h; done)
        all_goals
          cases hq : evRet F.res e l1 with
          | none => rw [hq] at h; cases h
          | some d1 =>
            rw [hq] at h
            simp only [fD_eq] at h
            cases h
            exact ⟨g1, F, rfl, fun K hk => ⟨hlen, g2 _ (evRet_ok hq hk)⟩⟩
    · cases h

theorem evF_ok {fs : FuncId → Option AFunc} (tab : FTab P fs) (own : FuncId → Bool) (N : Nat) : ∀ n, CallsOk P (evPures tab.spec own (evF P fs tab.spec own N n)) := by
  intro n
  have sp : ∀ (call : FuncId → List D → LH → Option (D × LH)) f ds r s, tab.spec f = some s → (evPures tab.spec own call).vcall f ds = some r → VCall P f ds (· = r) := by
    intro call f ds r s hs h
    simp only [evPures, hs] at h
    cases hr : s ds with
    | none => rw [hr] at h; cases h
    | some d =>
      rw [hr] at h
      simp only [fD_eq] at h
      cases h
      exact tab.sp f s hs ds r hr
  induction n with
  | zero =>
    refine ⟨fun f ds l d l' h => (by cases h), fun f ds r h => ?_⟩
    cases hs : tab.spec f with
    | some s => exact sp _ f ds r s hs h
    | none => simp only [evPures, hs] at h; cases h
  | succ n ih =>
    constructor
    · intro f ds l d l' h hn
      obtain ⟨g1, F, hF, g2⟩ := evF_vc ih h hn
      exact ⟨g1, fun K hk => tab.a f F hF ds K _ (g2 K hk)⟩
    · intro f ds r h
      cases hs : tab.spec f with
      | some s => exact sp _ f ds r s hs h
      | none =>
        simp only [evPures, hs] at h
        cases hr : evF P fs tab.spec own N (n + 1) f ds [] with
        | none => rw [hr] at h; cases h
        | some q =>
          obtain ⟨d, l'⟩ := q
          rw [hr] at h
          simp only [fD_eq] at h
          split at h
          · rename_i hc
            simp only [Bool.and_eq_true] at hc
            cases h
            obtain ⟨_, F, hF, g2⟩ := evF_vc ih hr (fun s hs => by cases hs)
            refine tab.v f F hF ds _ ?_
            rw [noHeap_eq]
            exact g2 _ ⟨allOneTB_ok hc.1.1, fzOkTB_ok hc.1.2, hc.2, rfl⟩
          · cases h

/-- A CALL THAT IS WORKED OUT. -/
theorem vcall_ev {fs : FuncId → Option AFunc} (tab : FTab P fs) (own : FuncId → Bool) (N n : Nat) {f : FuncId} {ds : List D} {r : D}
    (h : ((evPures tab.spec own (evF P fs tab.spec own N n)).vcall f ds).any (D.same r) = true) : VCall P f ds (· = r) := by
  cases hv : (evPures tab.spec own (evF P fs tab.spec own N n)).vcall f ds with
  | none => rw [hv] at h; cases h
  | some r' =>
    rw [hv] at h
    simp only [Option.any_some] at h
    rw [D.eq_of_same _ _ h]
    exact (evF_ok tab own N n).vcall f ds r' hv

end Go.Am
/- The abstract machine, part 33: rules for what has to be shown, the heap as a list. No condition. -/
namespace Go.Am
open Go

variable [GTab]
variable {P : Program} {l : LH} {KH : D → Heap → Prop} {K : D → Prop}

theorem top_len (hn : l.nf) : Top l.h l.length := by
  refine ⟨fun m hm => LH.h_ge hm, fun k hk => ?_⟩
  have : k < l.length := by omega
  rw [LH.h_lt this]
  exact hn _ (List.getElem_mem this)
theorem all_top (hn : l.nf) {Q : Nat → Prop} : (∀ n, Top l.h n → Q n) = Q l.length := by
  apply propext
  constructor
  · exact fun h => h _ (top_len hn)
  · intro h n t
    rw [LH.top hn t]; exact h
theorem nf_nil : LH.nf [] := fun _ h => by cases h
theorem nf_cons {s : Slot} {l : LH} : LH.nf (s :: l) = (s ≠ .free ∧ LH.nf l) := by
  apply propext
  constructor
  · exact fun h => ⟨h s (by simp), fun x hx => h x (by simp [hx])⟩
  · rintro ⟨h1, h2⟩ x hx
    rcases List.mem_cons.1 hx with rfl | hx
    · exact h1
    · exact h2 x hx
theorem l_box {d : D} (hn : l.nf) : vhOp P (.box (.c d)) l.h KH = (AllOne d ∧ KH (.ptr l.length 0 0) (LH.h (l ++ [.box d]))) := by
  simp only [vhOp, vcOp, Arg.get]
  rw [all_top hn, LH.h_push]
theorem l_alloc {d : D} (hn : l.nf) : vhOp P (.alloc d) l.h KH = KH (.ptr l.length 0 0) (LH.h (l ++ [.box d])) := by
  simp only [vhOp, vcOp]
  rw [all_top hn, LH.h_push]
theorem l_mk {esz bytes : Nat} {z : D} {k k' : IntKind} {a b : Int} (hn : l.nf) : vhOp P (.mk esz bytes z (.c (.int k a)) (.c (.int k' b))) l.h KH =
    (0 ≤ a ∧ a ≤ b ∧ b * bytes ≤ 140737488355328 ∧ b ≤ 9223372036854775807 ∧ KH (.ms l.length 0 a.toNat) (LH.h (l ++ [.arr esz (List.replicate a.toNat z)]))) := by
  simp only [vhOp, vcOp, Arg.get, vint]
  rw [all_top hn, LH.h_push]
theorem h_fadd {n i j o : Nat} : vhOp P (.fadd (.c (.ptr n i j)) o) l.h KH = ((l.h n).live = true ∧ KH (.ptr n i (j + o)) l.h) := rfl
theorem h_ldp {n i j s : Nat} {g : Bool} : vhOp P (.ld (.c (.ptr n i j)) s g) l.h KH = (match l.h n with
      | .box v => i = 0 ∧ vpart v.cells j s g (KH · l.h)
      | .arr _ els => i < els.length ∧ ∀ d, els[i]? = some d → vpart d.cells j s g (KH · l.h)
      | .frz _ els => i < els.length ∧ ∀ d, els[i]? = some d → vpart d.cells j s g (KH · l.h)
      | _ => False) := rfl
theorem h_stp {n i j s : Nat} {v : D} : vhOp P (.st (.c (.ptr n i j)) (.c v) s) l.h KH = (v.cells.length = s ∧ AllOne v ∧ match l.h n with
      | .box d => i = 0 ∧ j + s ≤ d.cells.length ∧ KH .undef (upd l.h n (.box (setCells d j v.cells)))
      | .arr esz els => i < els.length ∧ j + s ≤ esz ∧ ∀ d, els[i]? = some d → KH .undef (upd l.h n (.arr esz (els.set i (setCells d j v.cells))))
      | _ => False) := rfl
theorem lh_nil {n : Nat} : LH.h [] n = .free := by simp [LH.h]
theorem lh_zero {s : Slot} {l : LH} : LH.h (s :: l) 0 = s := rfl
theorem lh_succ {s : Slot} {l : LH} {n : Nat} : LH.h (s :: l) (n + 1) = LH.h l n := rfl
theorem upd_lh {n : Nat} {s : Slot} (hn : n < l.length) : upd l.h n s = LH.h (l.set n s) := (LH.h_set s hn).symm

theorem h_mkf {f : FuncId} {a b : List Arg} {h : Heap} : vhOp P (.mkf f a b) h KH = KH (.fn f (a.map (·.get [])) (b.map (·.get []))) h := rfl
theorem h_callv {f : FuncId} {a b : List D} {as : List Arg} {h : Heap} : vhOp P (.callv (.c (.fn f a b)) as) h KH = (cCallee P f = true ∧ ACall P f (a ++ as.map (·.get []) ++ b) h KH) := rfl
theorem h_bld {z : List D} {ps : List (Nat × Nat × Arg)} {h : Heap} : vhOp P (.bld z ps) h KH = (fillOkV z.length (ps.map fun p => (p.1, p.2.1, p.2.2.get [])) ∧ KH (.agg (fillD z (ps.map fun p => (p.1, p.2.1, (p.2.2.get []).cells)))) h) := rfl
theorem h_eqv {neg agg : Bool} {ks : List CK} {x y : D} {h : Heap} : vhOp P (.eqv neg agg ks (.c x) (.c y)) h KH = (x.isAgg = agg ∧ y.isAgg = agg ∧ veqv neg ks x y (KH · h)) := rfl

theorem g_box {d : D} {h : Heap} : vhOp P (.box (.c d)) h KH = (AllOne d ∧ ∀ n, Top h n → KH (.ptr n 0 0) (upd h n (.box d))) := rfl
theorem g_alloc {d : D} {h : Heap} : vhOp P (.alloc d) h KH = ∀ n, Top h n → KH (.ptr n 0 0) (upd h n (.box d)) := rfl
theorem g_mk {esz bytes : Nat} {z : D} {k k' : IntKind} {a b : Int} {h : Heap} : vhOp P (.mk esz bytes z (.c (.int k a)) (.c (.int k' b))) h KH =
    (0 ≤ a ∧ a ≤ b ∧ b * bytes ≤ 140737488355328 ∧ b ≤ 9223372036854775807 ∧ ∀ n, Top h n → KH (.ms n 0 a.toNat) (upd h n (.arr esz (List.replicate a.toNat z)))) := rfl
theorem g_fadd {n i j o : Nat} {h : Heap} : vhOp P (.fadd (.c (.ptr n i j)) o) h KH = ((h n).live = true ∧ KH (.ptr n i (j + o)) h) := rfl
theorem g_ld {n i j s : Nat} {g : Bool} {h : Heap} : vhOp P (.ld (.c (.ptr n i j)) s g) h KH = (match h n with
      | .box v => i = 0 ∧ vpart v.cells j s g (KH · h)
      | .arr _ els => i < els.length ∧ ∀ d, els[i]? = some d → vpart d.cells j s g (KH · h)
      | .frz _ els => i < els.length ∧ ∀ d, els[i]? = some d → vpart d.cells j s g (KH · h)
      | _ => False) := rfl
theorem g_st {n i j s : Nat} {v : D} {h : Heap} : vhOp P (.st (.c (.ptr n i j)) (.c v) s) h KH = (v.cells.length = s ∧ AllOne v ∧ match h n with
      | .box d => i = 0 ∧ j + s ≤ d.cells.length ∧ KH .undef (upd h n (.box (setCells d j v.cells)))
      | .arr esz els => i < els.length ∧ j + s ≤ esz ∧ ∀ d, els[i]? = some d → KH .undef (upd h n (.arr esz (els.set i (setCells d j v.cells))))
      | _ => False) := rfl
theorem Top.ne {h : Heap} {n m : Nat} (t : Top h n) (hm : h m ≠ .free) : m ≠ n := by rintro rfl; exact hm t.free
theorem Ext.refl {h : Heap} : Ext h h := fun _ _ => rfl
theorem Ext.trans {a b c : Heap} (h : Ext a b) (k : Ext b c) : Ext a c := fun n hn => by rw [k n (by rw [h n hn]; exact hn), h n hn]
theorem Ext.new {h : Heap} {n : Nat} (t : Top h n) (s : Slot) : Ext h (upd h n s) := ext_new t.free s
theorem Ext.newset {h : Heap} {n : Nat} (t : Top h n) (s s' : Slot) : Ext h (upd (upd h n s) n s') := by rw [upd_upd]; exact ext_new t.free s'

/-- A call of a function on pure data. -/
theorem a_call {f : FuncId} {ds : List D} {h : Heap} {KH : D → Heap → Prop} {R : D → Prop} (hv : VCall P f ds R) (hds : ∀ d, d ∈ ds → d.vd = true ∧ AllOne d) (hk : ∀ r, R r → KH r h) : ACall P f ds h KH := by
  have nofz : ∀ (x : D), x.vone = true → x.fzc h = x ∧ x.nmc = [] ∧ FzOkc h x := by
    intro x hx
    cases x <;> simp_all [D.vone, D.fzc, D.nmc, FzOkc]
  have hfz : ∀ d, d ∈ ds → d.fz h = d ∧ d.nm = [] ∧ FzOk h d := by
    intro d hd
    obtain ⟨h1, h2⟩ := hds d hd
    rcases vd_cells h1 with hv | ⟨cs, rfl, hcs⟩
    · have := nofz d hv
      cases d <;> simp_all [D.fz, D.nm, D.vone, FzOk, D.cells]
    · refine ⟨?_, ?_, fun x hx => (nofz x (hcs x hx)).2.2⟩
      · simp only [D.fz]
        congr 1
        rw [List.map_congr_left (fun x hx => (nofz x (hcs x hx)).1)]
        simp
      · simp only [D.nm]
        rw [List.flatMap_eq_nil_iff]
        exact fun x hx => (nofz x (hcs x hx)).2.1
  have e1 : ds.map (D.fz h) = ds := by
    rw [List.map_congr_left (fun d hd => (hfz d hd).1)]
    simp
  have e2 : ds.flatMap D.nm = [] := by
    rw [List.flatMap_eq_nil_iff]
    exact fun d hd => (hfz d hd).2.1
  refine ACall.mono ?_ (acall_of_vcall (K := R) (by rw [e1]; exact hv) (fun d hd => ⟨(hds d hd).2, (hfz d hd).2.2, by rw [(hfz d hd).1]; exact (hds d hd).1⟩))
  rintro r h' ⟨k1, k2, _⟩
  rw [k2 (Or.inr e2)]
  exact hk r k1

theorem r_one {d : D} (h : d.one = true) : AllOne d = True := by
  apply propext; refine ⟨fun _ => trivial, fun _ x hx => ?_⟩
  cases d <;> simp_all [D.cells, D.one]
theorem r_oneagg {cs : List D} : AllOne (.agg cs) = ∀ x, x ∈ cs → x.one = true := rfl
theorem v_cond_t {A B : Prop} : vcond (.bool true) A B = A := by simp [vcond]
theorem v_cond_f {A B : Prop} : vcond (.bool false) A B = B := by simp [vcond]
/-- What a function gives back: a number, a bool, pure data. -/
theorem ret_vd {d : D} {h : Heap} {K : D → Prop} (hd : d.vd = true) (ho : AllOne d) (hk : K d) : AllOneT d ∧ FzOkT h d ∧ (d.fzt h).vdt = true ∧ K (d.fzt h) := by
  have nofz : ∀ (x : D), x.vone = true → x.fzc h = x ∧ FzOkc h x := by
    intro x hx
    cases x <;> simp_all [D.vone, D.fzc, FzOkc]
  have e : d.fzt h = d ∧ FzOkT h d ∧ AllOneT d ∧ d.vdt = true := by
    rcases vd_cells hd with hv | ⟨cs, rfl, hcs⟩
    · have := nofz d hv
      have hc : d.cells = [d] := by cases d <;> simp_all [D.vone, D.cells]
      refine ⟨?_, ?_, ?_, ?_⟩
      · cases d <;> simp_all [D.fzt, D.fz, D.vone]
      · cases d <;> simp_all [FzOkT, FzOk, D.vone]
      · cases d <;> simp_all [AllOneT, D.vone]
      · cases d <;> simp_all [D.vdt, D.vone]
    · refine ⟨?_, fun x hx => (nofz x (hcs x hx)).2, ho, hd⟩
      simp only [D.fzt, D.fz]
      congr 1
      rw [List.map_congr_left (fun x hx => (nofz x (hcs x hx)).1)]
      simp
  exact ⟨e.2.2.1, e.2.1, by rw [e.1]; exact e.2.2.2, by rw [e.1]; exact hk⟩
def vret (K : D → Prop) (r : D) (h : Heap) : Prop := AllOneT r ∧ FzOkT h r ∧ (r.fzt h).vdt = true ∧ K (r.fzt h)
theorem vret_int {k : IntKind} {n : Int} {h : Heap} {K : D → Prop} : vret K (.int k n) h = K (.int k n) := by
  apply propext; exact ⟨fun h => h.2.2.2, fun hk => ret_vd rfl (fun x hx => by simp [D.cells] at hx; subst hx; rfl) hk⟩
theorem vret_bool {b : Bool} {h : Heap} {K : D → Prop} : vret K (.bool b) h = K (.bool b) := by
  apply propext; exact ⟨fun h => h.2.2.2, fun hk => ret_vd rfl (fun x hx => by simp [D.cells] at hx; subst hx; rfl) hk⟩
theorem vret_sl {xs : List D} {h : Heap} {K : D → Prop} : vret K (.sl xs) h = K (.sl xs) := by
  apply propext; exact ⟨fun h => h.2.2.2, fun hk => ret_vd rfl (fun x hx => by simp [D.cells] at hx; subst hx; rfl) hk⟩
theorem vret_nil {h : Heap} {K : D → Prop} : vret K .nil h = K .nil := by
  apply propext; exact ⟨fun h => h.2.2.2, fun hk => ret_vd rfl (fun x hx => by simp [D.cells] at hx; subst hx; rfl) hk⟩
theorem vret_vd {d : D} {h : Heap} {K : D → Prop} (hd : d.vd = true ∧ AllOne d) (hk : K d) : vret K d h := ret_vd hd.1 hd.2 hk
/-- A row of ours, whole. -/
theorem vret_ms {n esz : Nat} {els : List D} {h : Heap} {K : D → Prop} (hn : (h n).row = some (esz, els)) (hv : ∀ x, x ∈ els → ∀ y, y ∈ x.cells → y.vone = true) (hk : K (.sl els)) : vret K (.ms n 0 els.length) h := by
  refine ⟨fun x hx => by simp [D.cells] at hx; subst hx; rfl, fun x hx => ?_, ?_, ?_⟩
  · simp only [D.cells, List.mem_singleton] at hx
    subst hx
    exact ⟨esz, els, hn, by simp, fun x hx y hy => hv x (by simpa using hx) y hy⟩
  · simp [D.fzt, D.fz, D.fzc, hn, D.vdt, D.vd, D.vone]
  · simpa [D.fzt, D.fz, D.fzc, hn] using hk

/-- A function on pure data, from its text. -/
theorem vcall_V {fz : Bool} {f : FuncId} {loops : Nat → Option (List Nat × List Nat)} {dr : Nat → Array Oper → Option ACode} {F : AFunc} (hc : cFn P fz f loops dr = some F) (hdr : DrOk P F.nt dr)
    {ds : List D} {K : D → Prop} (hlen : Nat.ble ds.length F.nt = true) {V : (D → Heap → Prop) → Prop} (hV : ∀ K, V K = vcC P F.code (fun x e h' => match x with | .exit _ => False | _ => vcRet P F.res K e h') (params ds 0) noHeap)
    (hv : V (vret K)) : VCall P f ds K :=
  vcall_of hc hdr ⟨Nat.le_of_ble_eq_true hlen, Eq.mp (hV _) hv⟩
theorem acall_V {fz : Bool} {f : FuncId} {loops : Nat → Option (List Nat × List Nat)} {dr : Nat → Array Oper → Option ACode} {F : AFunc} (hc : cFn P fz f loops dr = some F) (hdr : DrOk P F.nt dr)
    {ds : List D} {h : Heap} {K : D → Heap → Prop} (hlen : Nat.ble ds.length F.nt = true) {V : (D → Heap → Prop) → Prop} (hV : ∀ K, V K = vcC P F.code (fun x e h' => match x with | .exit _ => False | _ => vcRet P F.res K e h') (params ds 0) h)
    (hv : V K) : ACall P f ds h K :=
  acall_of hc hdr ⟨Nat.le_of_ble_eq_true hlen, Eq.mp (hV _) hv⟩

def vR := And.intro @v_cond (And.intro @v_condn (And.intro @v_condb (And.intro @v_cond_t (And.intro @v_cond_f (And.intro @v_guard (And.intro (And.intro @v_guard1 (And.intro @v_guardU @v_guard1U)) (And.intro @v_add (And.intro @v_sub (And.intro @v_mul (And.intro @v_quo (And.intro @v_rem (And.intro @v_and (And.intro @v_or (And.intro @v_xor (And.intro @v_andNot (And.intro @v_shl (And.intro @v_shr (And.intro @v_eql (And.intro @v_neq (And.intro @v_lss (And.intro @v_leq (And.intro @v_gtr (And.intro @v_geq (And.intro @v_seql (And.intro @v_sneq (And.intro @v_neg (And.intro @v_not (And.intro @v_cpl (And.intro @v_lennil (And.intro @v_len (And.intro @v_lenms (And.intro @h_conv (And.intro @h_pick (And.intro @h_ext (And.intro @h_fld (And.intro @h_slen (And.intro @h_iadd (And.intro @h_iaddms (And.intro @h_ldv (And.intro @v_part1 (And.intro @v_parta (And.intro @h_mkf (And.intro @h_callv (And.intro @h_bld (And.intro @h_eqv (And.intro @lh_nil (And.intro @lh_zero (And.intro @lh_succ (And.intro @vret_int (And.intro @vret_bool (And.intro @vret_sl (@vret_nil))))))))))))))))))))))))))))))))))))))))))))))))))))
theorem cells_agg {cs : List D} : (D.agg cs).cells = cs := rfl
theorem cells_int {k : IntKind} {n : Int} : (D.int k n).cells = [.int k n] := rfl
theorem cells_bool {b : Bool} : (D.bool b).cells = [.bool b] := rfl
theorem cells_str {s : ByteArray} : (D.str s).cells = [.str s] := rfl
theorem cells_sl {xs : List D} : (D.sl xs).cells = [.sl xs] := rfl
theorem cells_nil : D.nil.cells = [.nil] := rfl
theorem cells_nilfn : D.nilfn.cells = [.nilfn] := rfl
theorem cells_ms {n o l : Nat} : (D.ms n o l).cells = [.ms n o l] := rfl
theorem cells_ptr {n o l : Nat} : (D.ptr n o l).cells = [.ptr n o l] := rfl
theorem cells_fn {f : FuncId} {a b : List D} : (D.fn f a b).cells = [.fn f a b] := rfl
theorem keq_self {a : List D} : keq a a = True := by simp [keq]
theorem one_int {k : IntKind} {n : Int} : AllOne (.int k n) = True := r_one rfl
theorem one_bool {b : Bool} : AllOne (.bool b) = True := r_one rfl
theorem one_str {s : ByteArray} : AllOne (.str s) = True := r_one rfl
theorem one_sl {xs : List D} : AllOne (.sl xs) = True := r_one rfl
theorem one_nil : AllOne .nil = True := r_one rfl
theorem one_ms {n o l : Nat} : AllOne (.ms n o l) = True := r_one rfl
theorem one_ptr {n o l : Nat} : AllOne (.ptr n o l) = True := r_one rfl
theorem one_fn {f : FuncId} {a b : List D} : AllOne (.fn f a b) = True := r_one rfl
theorem get_c {e : LEnv} {d : D} : Arg.get e (.c d) = d := rfl
theorem setc_agg {cs new : List D} {j : Nat} : setCells (.agg cs) j new = .agg (cs.take j ++ new ++ cs.drop (j + new.length)) := rfl
theorem setc_int {k : IntKind} {n : Int} {j : Nat} {x : D} : setCells (.int k n) j [x] = x := rfl
theorem setc_bool {b : Bool} {j : Nat} {x : D} : setCells (.bool b) j [x] = x := rfl
theorem setc_sl {xs : List D} {j : Nat} {x : D} : setCells (.sl xs) j [x] = x := rfl
theorem setc_nil {j : Nat} {x : D} : setCells .nil j [x] = x := rfl
attribute [simp] setc_agg setc_int setc_bool setc_sl setc_nil
def gR := And.intro @g_box (And.intro @g_alloc (And.intro @g_mk (And.intro @g_fadd (And.intro @g_ld (@g_st)))))
theorem vone_int {k : IntKind} {n : Int} : (D.int k n).vone = true := rfl
theorem vone_bool {b : Bool} : (D.bool b).vone = true := rfl
theorem vone_str {s : ByteArray} : (D.str s).vone = true := rfl
theorem vone_sl {xs : List D} : (D.sl xs).vone = true := rfl
theorem vone_nil : D.nil.vone = true := rfl
theorem one1_int {k : IntKind} {n : Int} : (D.int k n).one = true := rfl
theorem one1_bool {b : Bool} : (D.bool b).one = true := rfl
theorem one1_str {s : ByteArray} : (D.str s).one = true := rfl
theorem one1_sl {xs : List D} : (D.sl xs).one = true := rfl
theorem one1_nil : D.nil.one = true := rfl
theorem one1_ms {n o l : Nat} : (D.ms n o l).one = true := rfl
theorem one1_ptr {n o l : Nat} : (D.ptr n o l).one = true := rfl
theorem one1_fn {f : FuncId} {a b : List D} : (D.fn f a b).one = true := rfl
theorem vd_agg {cs : List D} : (D.agg cs).vd = cs.all D.vone := rfl
theorem vd_int {k : IntKind} {n : Int} : (D.int k n).vd = true := rfl
theorem vd_bool {b : Bool} : (D.bool b).vd = true := rfl
theorem vd_str {s : ByteArray} : (D.str s).vd = true := rfl
theorem vd_sl {xs : List D} : (D.sl xs).vd = true := rfl
theorem vd_nil : D.nil.vd = true := rfl
theorem isAgg_agg {cs : List D} : (D.agg cs).isAgg = true := rfl
theorem isAgg_int {k : IntKind} {n : Int} : (D.int k n).isAgg = false := rfl
theorem isAgg_bool {b : Bool} : (D.bool b).isAgg = false := rfl
theorem isAgg_str {s : ByteArray} : (D.str s).isAgg = false := rfl
attribute [simp] vone_int vone_bool vone_str vone_sl vone_nil one1_int one1_bool one1_str one1_sl one1_nil one1_ms one1_ptr one1_fn vd_agg vd_int vd_bool vd_str vd_sl vd_nil isAgg_agg isAgg_int isAgg_bool isAgg_str
attribute [simp] nf_nil nf_cons Slot.live cells_agg cells_int cells_bool cells_str cells_sl cells_nil cells_nilfn cells_ms cells_ptr cells_fn keq_self one_int one_bool one_str one_sl one_nil one_ms one_ptr one_fn r_oneagg upd_self get_c

end Go.Am
/- The abstract machine, part 37: lists that a function makes by appending. No condition. -/
namespace Go.Am
open Go

variable [GTab]
variable {P : Program} {KH : D → Heap → Prop} {h : Heap}

/-- A list of ours, in a variable. -/
def Own (esz : Nat) (h : Heap) (v : D) (els : List D) : Prop := (v = .nil ∧ els = []) ∨ ∃ n, v = .ms n 0 els.length ∧ h n = .arr esz els
/-- All but one row is as it was. -/
def KeepBut (h h' : Heap) (v : D) : Prop := ∀ k, h k ≠ .free → (∀ l, v ≠ .ms k 0 l) → h' k = h k

theorem Ext.upd_new {h h' : Heap} (hx : Ext h h') {m : Nat} (hm : h m = .free) (s : Slot) : Ext h (upd h' m s) := by
  intro k hk
  have : k ≠ m := by rintro rfl; exact hk hm
  rw [upd_other _ _ this]; exact hx k hk
theorem nofz {x : D} (hx : x.vone = true) : x.fzc h = x ∧ x.nmc = [] ∧ FzOkc h x := by
  cases x <;> simp_all [D.vone, D.fzc, D.nmc, FzOkc]
theorem vd_fz {d : D} (h1 : d.vd = true) : d.fz h = d ∧ d.nm = [] ∧ FzOk h d := by
  rcases vd_cells h1 with hv | ⟨cs, rfl, hcs⟩
  · have := nofz (h := h) hv
    cases d <;> simp_all [D.fz, D.nm, D.vone, FzOk, D.cells]
  · refine ⟨?_, ?_, fun x hx => (nofz (hcs x hx)).2.2⟩
    · simp only [D.fz]
      congr 1
      rw [List.map_congr_left (fun x hx => (nofz (h := h) (hcs x hx)).1)]
      simp
    · simp only [D.nm]
      rw [List.flatMap_eq_nil_iff]
      exact fun x hx => (nofz (h := h) (hcs x hx)).2.1

/-- A row of one, of pure data. -/
theorem g_bld1 {esz : Nat} {z d : D} (h1 : d.vd = true) (h2 : AllOne d) (h3 : d.cells.length = esz) (hk : ∀ n, Top h n → KH (.ms n 0 1) (upd h n (.arr esz [d]))) : vhOp P (.bldS true esz 1 z [(0, .c d)]) h KH := by
  obtain ⟨a1, a2, a3⟩ := vd_fz (h := h) h1
  refine ⟨fun p hp => by simp [Arg.get] at hp; subst hp; exact ⟨Nat.one_pos, h3, h2⟩, fun _ p hp => by simp [Arg.get] at hp; subst hp; exact a3, fun n t => ?_⟩
  have := hk n t
  simpa [Arg.get, a1, a2, Heap.freezeAll, setEls] using this
/-- A row of one, of a row of ours that is only read from here on. -/
theorem g_bld1ms {e w : Nat} {z : D} {els : List D} (hw : h w = .arr e els) (hv : ∀ x, x ∈ els → ∀ y, y ∈ x.cells → y.vone = true) (hk : ∀ n, Top h n → KH (.ms n 0 1) (upd (upd h w (.frz e els)) n (.arr 1 [.sl els]))) :
    vhOp P (.bldS true 1 1 z [(0, .c (.ms w 0 els.length))]) h KH := by
  have hrow : (h w).row = some (e, els) := by rw [hw]; rfl
  refine ⟨fun p hp => by simp [Arg.get] at hp; subst hp; exact ⟨Nat.one_pos, rfl, by simp⟩, fun _ p hp => ?_, fun n t => ?_⟩
  · simp [Arg.get] at hp; subst hp
    intro x hx
    simp only [D.cells, List.mem_singleton] at hx
    subst hx
    exact ⟨e, els, hrow, by simp, fun x hx y hy => hv x (by simpa using hx) y hy⟩
  · have := hk n t
    simpa [Arg.get, Heap.freezeAll, Heap.freeze, hw, setEls, D.fz, D.fzc, D.nm, D.nmc, Slot.row] using this
theorem g_bld0 {esz : Nat} {z : D} {fz : Bool} (hk : ∀ n, Top h n → KH (.ms n 0 0) (upd h n (.arr esz []))) : vhOp P (.bldS fz esz 0 z []) h KH := by
  refine ⟨fun p hp => by simp at hp, fun _ p hp => by simp at hp, fun n t => ?_⟩
  have := hk n t
  cases fz <;> simpa [Heap.freezeAll, setEls] using this

/-- One more at the end of a list of ours. -/
theorem g_app1 {esz bytes n5 : Nat} {z s d : D} {els : List D} (ho : Own esz h s els) (h5 : h n5 = .arr esz [d]) (hd : AllOne d) (hb : (els.length + 1) * bytes ≤ 140737488355328) (hl : els.length + 1 ≤ 9223372036854775807)
    (hk : ∀ v h', Own esz h' v (els ++ [d]) → KeepBut h h' s → (∀ k, h k = .free → v ≠ .ms k 0 (els.length + 1) → h' k = .free) → KH v h') : vhOp P (.app (.c s) (.c (.ms n5 0 1)) esz bytes z) h KH := by
  have hx : (h n5).row = some (esz, [d]) := by rw [h5]; rfl
  refine ⟨[d], hx, by simp, ?_⟩
  simp only [List.drop_zero, List.take_succ_cons, List.take_zero]
  refine ⟨fun y hy => by simp at hy; subst hy; exact hd, ?_⟩
  rcases ho with ⟨rfl, rfl⟩ | ⟨m, rfl, hm⟩
  · refine ⟨⟨by simpa using hb, by simp⟩, fun n t => hk _ _ (Or.inr ⟨n, rfl, upd_self _ _ _⟩) (fun k hk _ => upd_other _ _ (t.ne hk)) (fun k hk hne => ?_)⟩
    have : k ≠ n := by rintro rfl; exact hne rfl
    rw [upd_other _ _ this]; exact hk
  · refine ⟨els, hm, rfl, rfl, ⟨by simpa using hb, by simpa using hl⟩, fun n t => hk _ _ (Or.inr ⟨n, by simp, upd_self _ _ _⟩) (fun k hkf hne => ?_) (fun k hkf hne => ?_)⟩
    · have h1 := t.ne hkf
      have h2 : k ≠ m := by rintro rfl; exact hne _ rfl
      rw [upd_other _ _ h1, upd_other _ _ h2]
    · have h1 : k ≠ n := by rintro rfl; exact hne (by simp)
      have h2 : k ≠ m := by rintro rfl; rw [hm] at hkf; cases hkf
      rw [upd_other _ _ h1, upd_other _ _ h2]; exact hkf

/-- THE TWO TOGETHER: 'append(s, d)'. -/
theorem g_append {esz bytes : Nat} {z z' s d : D} {els : List D} (ho : Own esz h s els) (h1 : d.vd = true) (h2 : AllOne d) (h3 : d.cells.length = esz) (hb : (els.length + 1) * bytes ≤ 140737488355328) (hl : els.length + 1 ≤ 9223372036854775807)
    (hk : ∀ v h', Own esz h' v (els ++ [d]) → KeepBut h h' s → KH v h') : vhOp P (.bldS true esz 1 z [(0, .c d)]) h fun x h1 => vhOp P (.app (.c s) (.c x) esz bytes z') h1 KH := by
  refine g_bld1 h1 h2 h3 fun n t => ?_
  have ho' : Own esz (upd h n (.arr esz [d])) s els := by
    rcases ho with ho | ⟨m, hs, hm⟩
    · exact Or.inl ho
    · exact Or.inr ⟨m, hs, by rw [upd_other _ _ (t.ne (by rw [hm]; simp))]; exact hm⟩
  refine g_app1 ho' (upd_self _ _ _) h2 hb hl fun v h' q1 q2 _ => hk v h' q1 fun k hk hne => ?_
  have hkn := t.ne hk
  rw [q2 k (by rw [upd_other _ _ hkn]; exact hk) hne, upd_other _ _ hkn]

theorem vret_own {esz : Nat} {v : D} {els : List D} {K : D → Prop} (ho : Own esz h v els) (hv : ∀ x, x ∈ els → ∀ y, y ∈ x.cells → y.vone = true) (hk1 : els = [] → K .nil) (hk2 : K (.sl els)) : vret K v h := by
  rcases ho with ⟨rfl, rfl⟩ | ⟨n, rfl, hn⟩
  · rw [vret_nil]; exact hk1 rfl
  · exact vret_ms (esz := esz) (by rw [hn]; rfl) hv hk2

end Go.Am
/- The abstract machine, part 38: more rules. No condition. -/
namespace Go.Am
open Go

variable [GTab]
variable {P : Program} {KH : D → Heap → Prop} {K : D → Prop} {h : Heap}

theorem d_ld {x : Arg} {s : Nat} {g : Bool} : vdOp P (.ld x s g) h K = vhOp P (.ld x s g) h fun d _ => K d := rfl
theorem d_slc {x : Arg} {a b c : Option Arg} {n : Nat} : vdOp P (.slc x a b c n) h K = vhOp P (.slc x a b c n) h fun d _ => K d := rfl
theorem d_sslc {x : Arg} {a b : Option Arg} : vdOp P (.sslc x a b) h K = vhOp P (.sslc x a b) h fun d _ => K d := rfl
theorem d_mn {x y : Arg} : vdOp P (.mn x y) h K = vhOp P (.mn x y) h fun d _ => K d := rfl
theorem d_mx {x y : Arg} : vdOp P (.mx x y) h K = vhOp P (.mx x y) h fun d _ => K d := rfl
theorem d_iadd {x y : Arg} {n : Nat} : vdOp P (.iadd x y n) h K = vhOp P (.iadd x y n) h fun d _ => K d := rfl
theorem d_iadda {x y : Arg} {l n : Nat} : vdOp P (.iadda x y l n) h K = vhOp P (.iadda x y l n) h fun d _ => K d := rfl
theorem d_sidx {x y : Arg} {len size : Nat} {agg : Bool} : vdOp P (.sidx x y len size agg) h K = vhOp P (.sidx x y len size agg) h fun d _ => K d := rfl
theorem d_conv {k : IntKind} {x : Arg} : vdOp P (.conv k x) h K = vhOp P (.conv k x) h fun d _ => K d := rfl
theorem d_pick {c x y : Arg} : vdOp P (.pick c x y) h K = vhOp P (.pick c x y) h fun d _ => K d := rfl
theorem d_ext {x : Arg} {i : Nat} : vdOp P (.ext x i) h K = vhOp P (.ext x i) h fun d _ => K d := rfl
theorem d_fld {x : Arg} {o s : Nat} {g : Bool} : vdOp P (.fld x o s g) h K = vhOp P (.fld x o s g) h fun d _ => K d := rfl
theorem d_bld {z : List D} {ps : List (Nat × Nat × Arg)} : vdOp P (.bld z ps) h K = vhOp P (.bld z ps) h fun d _ => K d := rfl
theorem d_eqv {n g : Bool} {ks : List CK} {x y : Arg} : vdOp P (.eqv n g ks x y) h K = vhOp P (.eqv n g ks x y) h fun d _ => K d := rfl
theorem d_slen {x : Arg} : vdOp P (.slen x) h K = vhOp P (.slen x) h fun d _ => K d := rfl
theorem d_mkf {f : FuncId} {a b : List Arg} : vdOp P (.mkf f a b) h K = vhOp P (.mkf f a b) h fun d _ => K d := rfl
theorem d_faddv {d : D} {j o : Nat} : vdOp P (.fadd (.c (.vp d j)) o) h K = K (.vp d (j + o)) := rfl
theorem d_faddp {n i j o : Nat} : vdOp P (.fadd (.c (.ptr n i j)) o) h K = ((∃ v, h n = .box v) ∧ K (.ptr n i (j + o))) := rfl
theorem h_slcsl {xs : List D} {a b c : Option Arg} {n : Nat} : vhOp P (.slc (.c (.sl xs)) a b c n) h KH = vopt [] a 0 fun l => vopt [] b xs.length fun r => vopt [] c xs.length fun m => 0 ≤ l ∧ l ≤ r ∧ r ≤ m ∧ m ≤ xs.length ∧ (∀ d, d ∈ xs → d.cells.length = n) ∧
        KH (.sl ((xs.drop l.toNat).take (r - l).toNat)) h := rfl
theorem h_slcms {m off len : Nat} {a b c : Option Arg} {n : Nat} : vhOp P (.slc (.c (.ms m off len)) a b c n) h KH = vopt [] a 0 fun l => vopt [] b len fun r => vopt [] c len fun q => 0 ≤ l ∧ l ≤ r ∧ r ≤ q ∧ q ≤ len ∧ (∃ els, (h m).row = some (n, els)) ∧
        KH (.ms m (off + l.toNat) (r - l).toNat) h := rfl
theorem vopt_none {n : Nat} {Q : Int → Prop} : vopt [] none n Q = Q n := rfl
theorem vopt_some {k : IntKind} {i : Int} {n : Nat} {Q : Int → Prop} : vopt [] (some (.c (.int k i))) n Q = Q i := rfl
theorem h_mn {k : IntKind} {a b : Int} : vhOp P (.mn (.c (.int k a)) (.c (.int k b))) h KH = KH (.int k (if b < a then b else a)) h := by simp [vhOp, vcOp, Arg.get]
theorem h_mx {k : IntKind} {a b : Int} : vhOp P (.mx (.c (.int k a)) (.c (.int k b))) h KH = KH (.int k (if a < b then b else a)) h := by simp [vhOp, vcOp, Arg.get]
theorem h_yld {n : Nat} {as : List Arg} : vhOp P (.callv (.c (.yld n)) as) h KH = ((∃ st B, h n = .lp st B) ∧ AYield P n (as.map (·.get [])) h KH) := rfl
/-- A call in a region without an order. -/
theorem d_call {f : FuncId} {as : List Arg} {r : D} (hv : VCall P f (as.map (·.get [])) (· = r)) (hds : ∀ d, d ∈ as.map (·.get []) → d.vd = true ∧ AllOne d) (hk : K r) : vdOp P (.call f as) h K := by
  have hz : ∀ d, d ∈ as.map (·.get []) → d.fz h = d ∧ d.nm = [] ∧ FzOk h d := fun d hd => vd_fz (hds d hd).1
  have e : (as.map fun x => (x.get []).fz h) = as.map (·.get []) := by
    refine List.map_congr_left fun x hx => (hz _ (List.mem_map.2 ⟨x, hx, rfl⟩)).1
  refine ⟨r, by rw [e]; exact hv, fun d hd => ⟨(hds d hd).2, (hz d hd).2.2, by rw [(hz d hd).1]; exact (hds d hd).1⟩, Or.inr ?_, hk⟩
  have en : (as.flatMap fun x => (x.get []).nm) = [] := by
    rw [List.flatMap_eq_nil_iff]
    exact fun x hx => (hz _ (List.mem_map.2 ⟨x, hx, rfl⟩)).2.1
  rw [en]
  exact fun n hn => by cases hn

theorem h_sidxa {cs : List D} {k : IntKind} {a : Int} {len size : Nat} {agg : Bool} : vhOp P (.sidx (.c (.agg cs)) (.c (.int k a)) len size agg) h KH = (0 < len ∧ 0 ≤ a ∧ a < len ∧ vpart cs (a.toNat * size) size agg (KH · h)) := rfl
def dR := And.intro @h_sidxa <| And.intro @d_ld (And.intro @d_slc (And.intro @d_sslc (And.intro @d_mn (And.intro @d_mx (And.intro @d_iadd (And.intro @d_iadda (And.intro @d_sidx (And.intro @d_conv (And.intro @d_pick (And.intro @d_ext (And.intro @d_fld (And.intro @d_bld (And.intro @d_eqv (And.intro @d_slen (And.intro @d_mkf (And.intro @d_faddv (And.intro @d_faddp (And.intro @h_slcsl (And.intro @h_slcms (And.intro @vopt_none (And.intro @vopt_some (And.intro @h_mn (And.intro @h_mx (@h_yld))))))))))))))))))))))))
def amR := And.intro vR (And.intro gR dR)
end Go.Am
/- The abstract machine, part 40: rows of rows. No condition. -/
namespace Go.Am
open Go

variable [GTab]
variable {P : Program}

/-- Another view of a row of ours: its cells are the same. -/
theorem arr_swap {c : Ctx} (hr : HeapRel c) {M esz : Nat} {els els' : List D} (hM : c.h M = .arr esz els) (hl : els'.length = els.length) (hc : ∀ e, e ∈ els' → e.cells.length = esz) (ho : CellsOne els')
    (hv : ∀ i j d', cellIn els' i j = some d' → ∃ d, cellIn els i j = some d ∧ ∀ v, RelD c d v → RelD c d' v) :
    c.le ⟨c.ρ, c.X, upd c.h M (.arr esz els'), c.hp⟩ ∧ HeapRel ⟨c.ρ, c.X, upd c.h M (.arr esz els'), c.hp⟩ := by
  have sub : ∀ k, (upd c.h M (.arr esz els') k).mine → (c.h k).mine := by
    intro k hk
    by_cases h : k = M
    · subst h; rw [hM]; trivial
    · simpa [upd, h] using hk
  have hle : c.le ⟨c.ρ, c.X, upd c.h M (.arr esz els'), c.hp⟩ := by
    refine ⟨Nat.le_refl _, rfl, fun _ _ _ => rfl, fun _ cur _ _ h => ⟨cur, h, rfl⟩, fun _ r h => ⟨r, h, rfl⟩, fun _ _ => rfl, fun k => ?_, fun k g hm hρ _ => ⟨k, sub k hm, hρ⟩⟩
    by_cases h : k = M
    · subst h; simp only [upd_self]; rw [hM]; exact .arrArr _ _ _ (Nat.le_of_eq hl.symm)
    · simp only [upd_other _ _ h]; exact Trans.refl _
  refine ⟨hle, fun k => ?_, fun k1 k2 g m1 m2 r1 r2 => hr.inj k1 k2 g (sub k1 m1) (sub k2 m2) r1 r2, fun k g hm hρ => hr.apart k g (sub k hm) hρ, hr.xlt, ?_, hr.glob.mono hle, hr.lo⟩
  · by_cases h : k = M
    · subst h
      simp only [upd_self]
      have hs := hr.slot k
      rw [hM] at hs
      obtain ⟨h1, h2, h3, h4⟩ := hs
      refine ⟨h1, hc, ho, ?_⟩
      rcases h4 with ⟨q, q'⟩ | ⟨g, cur, ty, q1, q2, q3, q4⟩
      · refine Or.inl ⟨q, ?_⟩
        subst q'
        exact List.length_eq_zero_iff.1 hl
      · refine Or.inr ⟨g, cur, ty, q1, q2, by rw [hl]; exact q3, fun i j d' hd' => ?_⟩
        obtain ⟨d, hd, hrel⟩ := hv i j d' hd'
        exact (hrel _ (q4 i j d hd)).mono hle
    · simp only [upd_other _ _ h]
      exact slot_mono hle (hr.slot k) (fun _ _ => rfl) (fun _ _ _ => rfl)
  · obtain ⟨N, hN⟩ := hr.fin
    refine ⟨N + M + 1, fun k hk => ?_⟩
    simp only [upd_other _ _ (show k ≠ M by omega)]
    exact hN k (by omega)

theorem freeze_other {h : Heap} {n m : Nat} (hne : m ≠ n) : h.freeze n m = h m := by
  unfold Heap.freeze
  cases h n <;> simp only <;> try rfl
  exact upd_other _ _ hne
theorem freezeAll_other {m : Nat} : ∀ (ns : List Nat) {h : Heap}, m ∉ ns → h.freezeAll ns m = h m
  | [], _, _ => rfl
  | n :: r, h, hm => by
    simp only [List.mem_cons, not_or] at hm
    show (h.freeze n).freezeAll r m = h m
    rw [freezeAll_other r hm.2, freeze_other hm.1]

theorem freeze_roweq {h : Heap} {m : Nat} (n : Nat) : (h.freeze m n).row = (h n).row := by
  unfold Heap.freeze
  cases hm : h m <;> simp only <;> try rfl
  by_cases he : n = m
  · subst he; rw [upd_self, hm]; rfl
  · rw [upd_other _ _ he]
theorem freezeAll_roweq : ∀ (ns : List Nat) {h : Heap} (n : Nat), (h.freezeAll ns n).row = (h n).row
  | [], _, _ => rfl
  | m :: r, h, n => by
    show ((h.freeze m).freezeAll r n).row = _
    rw [freezeAll_roweq r, freeze_roweq]
theorem fzc_roweq {h h' : Heap} (hr : ∀ n, (h' n).row = (h n).row) (d : D) : d.fzc h' = d.fzc h := by
  cases d <;> simp [D.fzc, hr]
theorem fz_roweq {h h' : Heap} (hr : ∀ n, (h' n).row = (h n).row) (d : D) : d.fz h' = d.fz h := by
  have e : D.fzc h' = D.fzc h := funext (fzc_roweq hr)
  cases d <;> simp only [D.fz, e]
theorem fzOk_roweq {h h' : Heap} (hr : ∀ n, (h' n).row = (h n).row) {d : D} (hd : FzOk h d) : FzOk h' d := by
  intro x hx
  have := hd x hx
  cases x <;> simp only [FzOkc, hr] at this ⊢
  exact this
/-- A row whose elements can be read as pure data. -/
structure Deep (h : Heap) (M : Nat) (els : List D) : Prop where
  out : M ∉ els.flatMap D.nm
  el : ∀ e, e ∈ els → e.cells = [e] ∧ FzOk h e ∧ (e.fz h).vone = true ∧ e.one = true
/-- The rows in a row, read from here on. -/
def inn (h : Heap) (M : Nat) (els : List D) : Heap := upd (h.freezeAll (els.flatMap D.nm)) M (.arr 1 (els.map (D.fz h)))
theorem inn_self {h : Heap} {M : Nat} {els : List D} : inn h M els M = .arr 1 (els.map (D.fz h)) := upd_self _ _ _
theorem inn_other {h : Heap} {M k : Nat} {els : List D} (h1 : k ≠ M) (h2 : k ∉ els.flatMap D.nm) : inn h M els k = h k := by
  unfold inn; rw [upd_other _ _ h1, freezeAll_other _ h2]
theorem vone_cells {d : D} (h : d.vone = true) : d.cells = [d] := by cases d <;> first | rfl | cases h
theorem inner_step {c : Ctx} (hr : HeapRel c) {M : Nat} {els : List D} (hM : c.h M = .arr 1 els) (hd : Deep c.h M els) :
    c.le ⟨c.ρ, c.X, inn c.h M els, c.hp⟩ ∧ HeapRel ⟨c.ρ, c.X, inn c.h M els, c.hp⟩ := by
  obtain ⟨g1, g2⟩ := freezeAll_step hr (els.flatMap D.nm)
  have hM1 : (c.h.freezeAll (els.flatMap D.nm)) M = .arr 1 els := by rw [freezeAll_other _ hd.out, hM]
  have key := arr_swap (c := ⟨c.ρ, c.X, c.h.freezeAll (els.flatMap D.nm), c.hp⟩) g2 (els' := els.map (D.fz c.h)) hM1 (by simp) (fun e he => ?_) (fun i j d h => ?_) (fun i j d' h => ?_)
  · exact ⟨g1.trans key.1, key.2⟩
  · simp only [List.mem_map] at he
    obtain ⟨x, hx, rfl⟩ := he
    rw [vone_cells (hd.el x hx).2.2.1]; rfl
  · simp only [cellIn, List.getElem?_map, Option.bind_eq_some_iff, Option.map_eq_some_iff] at h
    obtain ⟨e, ⟨x, hx, rfl⟩, h2⟩ := h
    have hv := (hd.el x (List.mem_of_getElem? hx)).2.2.1
    rw [vone_cells hv] at h2
    have : d = x.fz c.h := by
      cases j with
      | zero => simpa using h2.symm
      | succ j => simp at h2
    subst this
    exact D.vone_one hv
  · simp only [cellIn, List.getElem?_map, Option.bind_eq_some_iff, Option.map_eq_some_iff] at h
    obtain ⟨e, ⟨x, hx, rfl⟩, h2⟩ := h
    obtain ⟨q1, q2, q3, q4⟩ := hd.el x (List.mem_of_getElem? hx)
    rw [vone_cells q3] at h2
    have hj : j = 0 ∧ d' = x.fz c.h := by
      cases j with
      | zero => exact ⟨rfl, by simpa using h2.symm⟩
      | succ j => simp at h2
    obtain ⟨rfl, rfl⟩ := hj
    refine ⟨x, by simp [cellIn, hx, q1], fun v hv => ?_⟩
    have h1 : AllOne x := fun y hy => by rw [q1] at hy; simp at hy; subst hy; exact q4
    have hre : ∀ n, ((c.h.freezeAll (els.flatMap D.nm)) n).row = (c.h n).row := fun n => freezeAll_roweq _ n
    have := (fz_rel (Ctx.le.refl _) g2 hv h1 (fzOk_roweq hre q2) (fun n esz es hn hrow => ?_)).1
    · rw [fz_roweq hre] at this; exact this
    · rw [hre n] at hrow
      exact freezeAll_mem _ hrow (List.mem_flatMap.2 ⟨x, List.mem_of_getElem? hx, hn⟩)

theorem acall_inner {f : FuncId} {ds : List D} {h : Heap} {M : Nat} {els : List D} {K : D → Heap → Prop} (hM : h M = .arr 1 els) (hd : Deep h M els) (hc : ACall P f ds (inn h M els) K) : ACall P f ds h K := by
  intro c w vals hh hp hr hs hrel
  subst hh
  obtain ⟨g1, g2⟩ := inner_step hr hM hd
  refine (hc ⟨c.ρ, c.X, inn c.h M els, c.hp⟩ w vals rfl hp g2 hs (fun i d hi => (hrel i d hi).mono g1)).mono ?_
  rintro e w' ⟨v, r, ρ, h', r1, r2, r3, r4, r5, r6⟩
  exact ⟨v, r, ρ, h', r1, g1.trans r2, r3, r4, r5, r6⟩

/-- A function that gives a row of rows, as data. -/
theorem vcall_deep {f : FuncId} {ds : List D} {K : D → Prop} (ha : ACall P f ds noHeap (fun r h' => ∃ M els, r = .ms M 0 els.length ∧ h' M = .arr 1 els ∧ Deep h' M els ∧ K (.sl (els.map (D.fz h'))))) : VCall P f ds K := by
  intro c w vals hh hp hr hs hrel
  have hfree : c.h = noHeap := funext hh
  have := ha c w vals hfree hp hr hs hrel
  refine this.mono ?_
  rintro e w' ⟨v, r, ρ, h', rfl, h1, h2, h3, h4, M, els, rfl, hM, hd, hk⟩
  obtain ⟨k1, k2⟩ := inner_step h2 hM hd
  have hM2 : (inn h' M els) M = .arr 1 (els.map (D.fz h')) := inn_self
  have hrow2 : ((inn h' M els) M).row = some (1, els.map (D.fz h')) := by rw [hM2]; rfl
  obtain ⟨g1, g2⟩ := freezeAll_step k2 [M]
  have e0 : (D.ms M 0 els.length).fz (inn h' M els) = .sl (els.map (D.fz h')) := by
    simp only [D.fz, D.fzc, hrow2, List.drop_zero]
    rw [List.take_of_length_le (by simp)]
  have hz := (fz_rel g1 g2 (h4.mono k1) (fun y hy => by simp [D.cells] at hy; subst hy; rfl) (fun y hy => by
      simp only [D.cells, List.mem_singleton] at hy
      subst hy
      refine ⟨1, _, hrow2, by simp, fun x hx z hz => ?_⟩
      have hx' : x ∈ els.map (D.fz h') := List.mem_of_mem_drop (List.mem_of_mem_take hx)
      simp only [List.mem_map] at hx'
      obtain ⟨a, ha, rfl⟩ := hx'
      have hv := (hd.el a ha).2.2.1
      rw [vone_cells hv] at hz; simp at hz; subst hz; exact hv) (fun n esz es hn hrow => freezeAll_mem _ hrow (by simpa [D.nm, D.nmc] using hn))).1
  rw [e0] at hz
  have hown : ∀ g, ¬ (⟨ρ, c.X, (inn h' M els).freezeAll [M], w'.heap⟩ : Ctx).own g → ¬ (⟨c.ρ, c.X, c.h, w'.heap⟩ : Ctx).own g := by
    rintro g hn (hX | ⟨n, hm, _⟩)
    · exact hn (Or.inl hX)
    · simp only [hh n] at hm; cases hm
  refine ⟨v, _, rfl, ?_, h3, RelD.recastT (c := ⟨ρ, c.X, (inn h' M els).freezeAll [M], w'.heap⟩) (c' := ⟨c.ρ, c.X, c.h, w'.heap⟩) rfl hown hz rfl, rfl, hk⟩
  refine ⟨h1.size, rfl, h1.keep, h1.shape, h1.loop, fun _ _ => rfl, fun _ => Trans.refl _, fun n g hm hρ _ => ⟨n, hm, hρ⟩⟩
end Go.Am
/- The abstract machine, part 34: what an argument reads as, and what it is here. No condition. -/
namespace Go.Am
open Go

section keep
variable {H : Type} {enc : TypeId × Value → H} {P : Program} {w w' : World} {base : Nat} {spare : Nat → Bool} {held : Bool}

theorem mapM_keep {α β : Type} {f g : α → Option β} (hk : ∀ a b, f a = some b → g a = some b) : ∀ {l : List α} {r : List β}, l.mapM f = some r → l.mapM g = some r
  | [], r, h => by simpa using h
  | a :: l, r, h => by
    simp only [List.mapM_cons, Option.bind_eq_bind, Option.bind_eq_some_iff, Option.pure_def, Option.some.injEq] at h ⊢
    obtain ⟨b, hb, r', hr', rfl⟩ := h
    exact ⟨b, hk a b hb, r', mapM_keep hk hr', rfl⟩

theorem cell_keep (hk : ∀ b, b < w.heap.size → w'.heap[b]? = w.heap[b]?) {a : Addr} {v : Value} (h : w.cell? a = some v) : w'.cell? a = some v := by
  unfold World.cell? at h ⊢
  have hlt : a.block < w.heap.size := by
    rcases Nat.lt_or_ge a.block w.heap.size with h1 | h1
    · exact h1
    · simp [Array.getElem?_eq_none h1] at h
  rw [hk _ hlt]; exact h
theorem cells_keep (hk : ∀ b, b < w.heap.size → w'.heap[b]? = w.heap[b]?) {a : Addr} {n : Nat} {cs : List Value} (h : w.cells? base a n = some cs) : w'.cells? base a n = some cs := by
  unfold World.cells? at h ⊢
  split at h
  · rename_i hb
    rw [if_pos hb]
    exact mapM_keep (fun i v hv => cell_keep hk hv) h
  · cases h

/-- What reads, reads so where there are more blocks. -/
theorem trod_keep (hk : ∀ b, b < w.heap.size → w'.heap[b]? = w.heap[b]?) : ∀ (n : Nat) (t : TypeId) (cs : List Value) (x : DataW H × List MemPlace), DataW.trod enc P w base spare held n t cs = some x → DataW.trod enc P w' base spare held n t cs = some x := by
  intro n
  induction n with
  | zero => intro t cs x h; simp [DataW.trod] at h
  | succ n ih =>
    intro t cs x h
    have el : ∀ (a : Addr) (k : Nat) (e : TypeId) y, (w.cells? base a k).bind (DataW.trod enc P w base spare held n e) = some y → (w'.cells? base a k).bind (DataW.trod enc P w' base spare held n e) = some y := by
      intro a k e y hy
      rw [Option.bind_eq_some_iff] at hy ⊢
      obtain ⟨cs, h1, h2⟩ := hy
      exact ⟨cs, cells_keep hk h1, ih _ _ _ h2⟩
    unfold DataW.trod at h ⊢
    generalize P.underlying t = ut at h ⊢
    split at h
    case h_6 e a =>
      rw [Option.map_eq_some_iff] at h ⊢
      obtain ⟨y, hy, rfl⟩ := h
      exact ⟨y, el _ _ _ _ hy, rfl⟩
    case h_8 e a len cap =>
      simp only at h ⊢
      split at h
      · rename_i hc
        rw [if_pos hc]
        rw [Option.bind_eq_some_iff] at h ⊢
        obtain ⟨elems, h1, h2⟩ := h
        refine ⟨elems, mapM_keep (fun i y hy => el _ _ _ _ hy) h1, ?_⟩
        rw [Option.map_eq_some_iff] at h2 ⊢
        obtain ⟨rest, h3, rfl⟩ := h2
        refine ⟨rest, ?_, rfl⟩
        split at h3
        · rename_i hs; rw [if_pos hs]; exact mapM_keep (fun i y hy => el _ _ _ _ hy) h3
        · rename_i hs; rw [if_neg hs]; exact h3
      · cases h
    case h_9 fs =>
      split at h
      · rename_i hc
        rw [if_pos hc]
        rw [Option.map_eq_some_iff] at h ⊢
        obtain ⟨y, hy, rfl⟩ := h
        exact ⟨y, mapM_keep (fun i y hy => ih _ _ _ hy) hy, rfl⟩
      · cases h
    case h_10 m e =>
      split at h
      · rename_i hc
        rw [if_pos hc]
        rw [Option.map_eq_some_iff] at h ⊢
        obtain ⟨y, hy, rfl⟩ := h
        exact ⟨y, mapM_keep (fun i y hy => ih _ _ _ hy) hy, rfl⟩
      · cases h
    case h_12 u v =>
      split at h
      · exact h
      · rw [Option.map_eq_some_iff] at h ⊢
        obtain ⟨y, hy, rfl⟩ := h
        exact ⟨y, ih _ _ _ hy, rfl⟩
      · cases h
    case h_14 k e b =>
      cases hb : w.heap[b]? with
      | none => simp [hb] at h
      | some o =>
        have hlt := (Array.getElem?_eq_some_iff.1 hb).1
        rw [hk b hlt]
        rw [hb] at h ⊢
        cases o <;> simp only at h ⊢ <;> try (cases h; done)
        split at h
        · rename_i hc
          rw [if_pos hc]
          rw [Option.bind_eq_some_iff] at h ⊢
          obtain ⟨es, h1, h2⟩ := h
          refine ⟨es, mapM_keep (fun i y hy => ?_) h1, h2⟩
          rw [Option.bind_eq_some_iff] at hy ⊢
          obtain ⟨key, h3, h4⟩ := hy
          refine ⟨key, h3, ?_⟩
          split at h4
          · rename_i hf
            rw [if_pos hf]
            rw [Option.map_eq_some_iff] at h4 ⊢
            obtain ⟨z, hz, rfl⟩ := h4
            exact ⟨z, ih _ _ _ hz, rfl⟩
          · cases h4
        · cases h
    all_goals first | exact h | (cases h; done)

theorem trodAll_keep (hk : ∀ b, b < w.heap.size → w'.heap[b]? = w.heap[b]?) : ∀ {ts : List TypeId} {vs : List Value} {ds : List (DataW H)} {ps : List MemPlace}, DataW.TrodAll enc P w base spare held ts vs ds ps → DataW.TrodAll enc P w' base spare held ts vs ds ps
  | [], [], [], _, h => h
  | _ :: _, _ :: _, _ :: _, _, ⟨p, q, ⟨n, h1⟩, h2, e⟩ => ⟨p, q, ⟨n, trod_keep hk n _ _ _ h1⟩, trodAll_keep hk h2, e⟩
end keep

end Go.Am
/- The abstract machine, part 35: an argument of plain data, as pure data. No condition. -/
namespace Go.Am
open Go

variable [GTab]
variable {H : Type} {enc : TypeId × Value → H} {P : Program}

def mkElem (P : Program) (e : TypeId) (cs : List D) : D :=
  match P.underlying e with
  | some (.struct _) => .agg cs
  | some (.array _ _) => .agg cs
  | _ => cs.headD .undef

/-- Cells of a type of plain data. -/
def HasTy (P : Program) : Nat → TypeId → List D → Prop
  | 0, _, _ => False
  | n + 1, t, ds => match P.underlying t with
    | some .bool => ∃ b, ds = [.bool b]
    | some (.int k) => ∃ i, ds = [.int k i] ∧ (Lit.int k i).wf = true
    | some .string => ∃ s : ByteArray, ds = [.str s] ∧ s.size ≤ maxLen
    | some (.slice e) => ∃ xs : List (List D), ds = [.sl (xs.map (mkElem P e))] ∧ xs.length ≤ maxLen ∧ ∀ x, x ∈ xs → HasTy P n e x
    | some (.struct fs) => ds.length = P.cellsOf t ∧ ∀ f, f ∈ fs.toList → HasTy P n f.type ((ds.drop f.offset).take (P.cellsOf f.type))
    | some (.array m e) => ds.length = P.cellsOf t ∧ ∀ i, i < m → HasTy P n e ((ds.drop (i * P.cellsOf e)).take (P.cellsOf e))
    | _ => False

/-- Parts that lie one behind the other, and fill a whole. -/
def contig (P : Program) (total : Nat) : List (TypeId × Nat) → Nat → Bool
  | [], o => o == total
  | f :: r, o => f.2 == o && contig P total r (o + P.cellsOf f.1)
/-- Types of plain data, looked at by program. -/
def plainT (P : Program) : Nat → TypeId → Bool
  | 0, _ => false
  | n + 1, t => match P.underlying t with
    | some .bool => P.cellsOf t == 1
    | some (.int _) => P.cellsOf t == 1
    | some .string => P.cellsOf t == 1
    | some (.slice e) => P.cellsOf t == 1 && decide (0 < P.cellsOf e) && plainT P n e
    | some (.struct fs) => fs.toList.all (fun f => plainT P n f.type) && contig P (P.cellsOf t) (fs.toList.map fun f => (f.type, f.offset)) 0
    | some (.array m e) => plainT P n e && contig P (P.cellsOf t) ((List.range m).map fun i => (e, i * P.cellsOf e)) 0
    | _ => false

theorem head_cells {cs : List D} (h1 : cs.length = 1) (hv : ∀ (i : Nat) (x : D), cs[i]? = some x → x.vone = true) : (cs.headD .undef).cells = cs := by
  cases cs with
  | nil => simp at h1
  | cons d r =>
    have : r = [] := List.eq_nil_of_length_eq_zero (by simpa using h1)
    subst this
    have := hv 0 d rfl
    cases d <;> simp_all [D.vone]

theorem mkElem_cells {n : Nat} {e : TypeId} {cs : List D} (hp : plainT P n e = true) (hl : cs.length = P.cellsOf e) (hv : ∀ (i : Nat) (x : D), cs[i]? = some x → x.vone = true) : (mkElem P e cs).cells = cs := by
  unfold mkElem
  split
  · rfl
  · rfl
  · cases n with
    | zero => simp [plainT] at hp
    | succ n =>
      unfold plainT at hp
      split at hp
      · exact head_cells (by rw [hl]; simpa using hp) hv
      · exact head_cells (by rw [hl]; simpa using hp) hv
      · exact head_cells (by rw [hl]; simpa using hp) hv
      · simp only [Bool.and_eq_true] at hp
        exact head_cells (by rw [hl]; simpa using hp.1.1) hv
      · rename_i h1 h1' _ fs h2; first | exact absurd h2 (h1 _) | exact absurd h2 (h1' _)
      · rename_i h1 h1' _ m e' h2; first | exact absurd h2 (h1' _ _) | exact absurd h2 (h1 _ _)
      · cases hp

theorem parts {c : Ctx} {m : Nat} {total : Nat} (cs : List Value) (hcs : cs.length = total) : ∀ (l : List (TypeId × Nat)) (o : Nat), contig P total l o = true →
    (∀ f, f ∈ l → ∃ ds : List D, HasTy P m f.1 ds ∧ ds.length = P.cellsOf f.1 ∧ ∀ (i : Nat) (d : D), ds[i]? = some d → d.vone = true ∧ RelD c d (((cs.drop f.2).take (P.cellsOf f.1)).getD i Go.undef)) →
    ∃ ds : List D, ds.length = cs.length - o ∧ (∀ f, f ∈ l → HasTy P m f.1 ((ds.drop (f.2 - o)).take (P.cellsOf f.1)) ∧ o ≤ f.2) ∧ ∀ (i : Nat) (d : D), ds[i]? = some d → d.vone = true ∧ RelD c d (cs.getD (o + i) Go.undef)
  | [], o, hc, _ => by
    simp only [contig, beq_iff_eq] at hc
    exact ⟨[], by simp; omega, by simp, by simp⟩
  | f :: r, o, hc, hf => by
    simp only [contig, Bool.and_eq_true, beq_iff_eq] at hc
    obtain ⟨hfo, hcr⟩ := hc
    obtain ⟨d1, a1, a2, a3⟩ := hf f (by simp)
    obtain ⟨d2, b1, b2, b3⟩ := parts cs hcs r (o + P.cellsOf f.1) hcr (fun g hg => hf g (by simp [hg]))
    have hle : o + P.cellsOf f.1 ≤ total := by
      have : ∀ (l : List (TypeId × Nat)) (o : Nat), contig P total l o = true → o ≤ total := by
        intro l
        induction l with
        | nil => intro o h; simp [contig] at h; omega
        | cons g s ih => intro o h; simp only [contig, Bool.and_eq_true, beq_iff_eq] at h; have := ih _ h.2; omega
      exact this _ _ hcr
    refine ⟨d1 ++ d2, by simp; omega, fun g hg => ?_, fun i d hd => ?_⟩
    · rcases List.mem_cons.1 hg with rfl | hg
      · refine ⟨?_, by omega⟩
        rw [hfo, Nat.sub_self, List.drop_zero, List.take_append_of_le_length (by omega), List.take_of_length_le (by omega)]
        exact a1
      · obtain ⟨k1, k2⟩ := b2 g hg
        refine ⟨?_, by omega⟩
        rw [show g.2 - o = d1.length + (g.2 - (o + P.cellsOf f.1)) by omega, List.drop_append, List.drop_eq_nil_of_le (by omega), List.nil_append, Nat.add_sub_cancel_left]
        exact k1
    · by_cases hi : i < d1.length
      · rw [List.getElem?_append_left hi] at hd
        obtain ⟨k1, k2⟩ := a3 i d hd
        refine ⟨k1, ?_⟩
        have e1 : ((cs.drop f.2).take (P.cellsOf f.1)).getD i Go.undef = cs.getD (o + i) Go.undef := by
          simp only [List.getD, List.getElem?_take, List.getElem?_drop]
          rw [if_pos (by omega), hfo]
        rw [e1] at k2; exact k2
      · rw [List.getElem?_append_right (by omega)] at hd
        obtain ⟨k1, k2⟩ := b3 _ d hd
        refine ⟨k1, ?_⟩
        rw [show o + P.cellsOf f.1 + (i - d1.length) = o + i by omega] at k2
        exact k2

theorem trod_rel {W : World} {sp : Nat → Bool} {c : Ctx} (hp : c.hp = W.heap) (hown : ∀ g, ¬ c.own g) : ∀ (m : Nat) (t : TypeId), plainT P m t = true → ∀ (n : Nat) (cs : List Value) (x : DataW H × List MemPlace), DataW.trod enc P W 0 sp true n t cs = some x →
    cs.length = P.cellsOf t ∧ ∃ ds : List D, HasTy P m t ds ∧ ds.length = cs.length ∧ ∀ (i : Nat) (d : D), ds[i]? = some d → d.vone = true ∧ RelD c d (cs.getD i Go.undef) := by
  intro m
  induction m with
  | zero => intro t h; simp [plainT] at h
  | succ m ih =>
    intro t hpt n cs x h
    unfold plainT at hpt
    have one : ∀ (d : D) (v : Value), cs = [v] → d.vone = true → RelD c d v → ([d] : List D).length = cs.length ∧ ∀ (i : Nat) (d' : D), [d][i]? = some d' → d'.vone = true ∧ RelD c d' (cs.getD i Go.undef) := by
      rintro d v rfl h1 h2
      refine ⟨rfl, fun i d' hd => ?_⟩
      cases i with
      | zero => simp at hd; subst hd; exact ⟨h1, by simpa using h2⟩
      | succ i => simp at hd
    split at hpt
    · -- bool
      rename_i hu
      cases n with
      | zero => simp [DataW.trod] at h
      | succ n =>
        unfold DataW.trod at h
        rw [hu] at h
        split at h <;> simp_all
        rename_i b
        exact ⟨[.bool b], by unfold HasTy; rw [hu]; exact ⟨b, rfl⟩, by simp, fun i d hd => by
          cases i with
          | zero => simp at hd; subst hd; exact ⟨rfl, by simpa using RelD.bool (c := c) b⟩
          | succ i => simp at hd⟩
    · rename_i k hu
      cases n with
      | zero => simp [DataW.trod] at h
      | succ n =>
        unfold DataW.trod at h
        rw [hu] at h
        split at h <;> simp_all
        rename_i kq kq' i' hq
        have hkk := h.1.1
        subst hkk
        exact ⟨[.int kq' i'], by unfold HasTy; rw [hu]; exact ⟨i', rfl, h.1.2⟩, by simp, fun i d hd => by
          cases i with
          | zero => simp at hd; subst hd; exact ⟨rfl, by simpa using RelD.int (c := c) kq' i'⟩
          | succ i => simp at hd⟩
    · rename_i hu
      cases n with
      | zero => simp [DataW.trod] at h
      | succ n =>
        unfold DataW.trod at h
        rw [hu] at h
        split at h <;> simp_all
        rename_i s
        exact ⟨[.str s], by unfold HasTy; rw [hu]; exact ⟨s, rfl, h.1⟩, by simp, fun i d hd => by
          cases i with
          | zero => simp at hd; subst hd; exact ⟨rfl, by simpa using RelD.str (c := c) s⟩
          | succ i => simp at hd⟩
    · -- slice
      rename_i e hu
      simp only [Bool.and_eq_true, beq_iff_eq, decide_eq_true_eq] at hpt
      obtain ⟨⟨hc1, hpos⟩, hpe⟩ := hpt
      rcases DataW.trod_slice hu h with ⟨rfl, _⟩ | ⟨a, len, cap, elems, rest, n', rfl, rfl, _, hb, hl, hm, hlen, hel, _, _⟩
      · refine ⟨by rw [hc1]; rfl, [.sl []], ?_, one (.sl []) _ rfl rfl (.slE none 0 (by simp [maxLen]))⟩
        unfold HasTy; rw [hu]
        exact ⟨[], rfl, by simp [maxLen], by simp⟩
      · -- each element
        have each : ∀ i, i < len → ∃ (vs : List Value) (ds : List D), W.cells? 0 (a.add (i * P.cellsOf e)) (P.cellsOf e) = some vs ∧ HasTy P m e ds ∧ ds.length = P.cellsOf e ∧ vs.length = P.cellsOf e ∧ ∀ (j : Nat) (d : D), ds[j]? = some d → d.vone = true ∧ RelD c d (vs.getD j Go.undef) := by
          intro i hi
          have h1 := hel i hi
          have h2 : elems[i]? = some (elems[i]'(by omega)) := by simp [show i < elems.length by omega]
          rw [h2, Option.bind_eq_some_iff] at h1
          obtain ⟨vs, h3, h4⟩ := h1
          obtain ⟨k1, ds, k2, k3, k4⟩ := ih e hpe n' vs _ h4
          exact ⟨vs, ds, h3, k2, k3.trans k1, k1, k4⟩
        let vf : Nat → List Value := fun i => if h : i < len then (each i h).choose else []
        let df : Nat → List D := fun i => if h : i < len then (each i h).choose_spec.choose else []
        have spec : ∀ i, i < len → W.cells? 0 (a.add (i * P.cellsOf e)) (P.cellsOf e) = some (vf i) ∧ HasTy P m e (df i) ∧ (df i).length = P.cellsOf e ∧ (vf i).length = P.cellsOf e ∧ ∀ (j : Nat) (d : D), (df i)[j]? = some d → d.vone = true ∧ RelD c d ((vf i).getD j Go.undef) := by
          intro i hi
          simp only [vf, df, dif_pos hi]
          exact (each i hi).choose_spec.choose_spec
        let xs : List (List D) := (List.range len).map df
        have hxl : xs.length = len := by simp [xs]
        have hxi : ∀ i, i < len → xs[i]? = some (df i) := by intro i hi; simp [xs, hi]
        have hcellsE : ∀ i, i < len → (mkElem P e (df i)).cells = df i := fun i hi => mkElem_cells hpe (spec i hi).2.2.1 (fun j x hx => ((spec i hi).2.2.2.2 j x hx).1)
        refine ⟨by rw [hc1]; rfl, [.sl (xs.map (mkElem P e))], ?_, ?_⟩
        · unfold HasTy; rw [hu]
          refine ⟨xs, rfl, by rw [hxl]; omega, fun x hx => ?_⟩
          obtain ⟨i, hi, rfl⟩ := List.mem_map.1 hx
          exact (spec i (by simpa using hi)).2.1
        · have hl0 : len = (xs.map (mkElem P e)).length := by simp [hxl]
          refine one _ _ rfl rfl ?_
          by_cases h0 : len = 0
          · subst h0
            have : xs = [] := List.eq_nil_of_length_eq_zero hxl
            rw [this]
            exact .slE _ cap hm
          · have hz := (World.cells?_some (spec 0 (by omega)).1).2.2 0 (by omega)
            have hcell0 : ∃ v, W.cell? a = some v := by
              have e0 : (a.add (0 * P.cellsOf e)).add 0 = a := by simp [Addr.add]
              rw [e0] at hz
              have : 0 < (vf 0).length := by rw [(spec 0 (by omega)).2.2.2.1]; exact hpos
              exact ⟨(vf 0)[0], by rw [hz]; simp [this]⟩
            obtain ⟨v0, hv0⟩ := hcell0
            have hspot : a = ⟨a.block, a.off, none⟩ := by
              unfold World.cell? at hv0
              split at hv0
              · split at hv0
                · cases hv0
                · rename_i hs
                  obtain ⟨b, o, s⟩ := a
                  cases s with
                  | none => rfl
                  | some s => simp at hs
              · cases hv0
            have hci : ∀ i j d, cellIn (xs.map (mkElem P e)) i j = some d → i < len ∧ (df i)[j]? = some d := by
              intro i j d hd
              unfold cellIn at hd
              rw [List.getElem?_map] at hd
              by_cases hi : i < len
              · rw [hxi i hi] at hd
                simp only [Option.map_some, Option.bind_some] at hd
                rw [hcellsE i hi] at hd
                exact ⟨hi, hd⟩
              · have : xs[i]? = none := List.getElem?_eq_none (by omega)
                rw [this] at hd; simp at hd
            have := RelD.sl (c := c) (xs.map (mkElem P e)) a.block a.off cap (P.cellsOf e) (fun i j => (vf i).getD j Go.undef) (by intro he; rw [he] at hl0; simp at hl0; omega) (by rw [← hl0]; exact hl) hm hpos
              (fun x hx => by
                obtain ⟨y, hy, rfl⟩ := List.mem_map.1 hx
                obtain ⟨i, hi, rfl⟩ := List.mem_map.1 hy
                rw [hcellsE i (by simpa using hi)]
                exact (spec i (by simpa using hi)).2.2.1)
              (fun i j d hd => by
                obtain ⟨hi, hj⟩ := hci i j d hd
                exact ((spec i hi).2.2.2.2 j d hj).1)
              (fun i j d hd => by
                obtain ⟨hi, hj⟩ := hci i j d hd
                have hjl := (List.getElem?_eq_some_iff.1 hj).1
                rw [(spec i hi).2.2.1] at hjl
                have hz := (World.cells?_some (spec i hi).1).2.2 j hjl
                have e1 : (a.add (i * P.cellsOf e)).add j = ⟨a.block, a.off + (i * P.cellsOf e + j), none⟩ := by
                  have hadd : ∀ (b o x : Nat), ((⟨b, o, none⟩ : Addr).add x).add j = ⟨b, o + (x + j), none⟩ := by
                    intro b o x
                    rw [Addr.add_lit, Addr.add_lit, Nat.add_assoc]
                  have := hadd a.block a.off (i * P.cellsOf e)
                  rw [← hspot] at this
                  exact this
                rw [e1, cell?_eq] at hz
                rw [hp, hz]
                have hjv : j < (vf i).length := by rw [(spec i hi).2.2.2.1]; exact hjl
                simp [List.getD, hjv])
              (hown _) (fun i j d hd => by
                obtain ⟨hi, hj⟩ := hci i j d hd
                exact ((spec i hi).2.2.2.2 j d hj).2)
            rw [← hl0] at this
            rw [hspot]
            exact this
    · -- struct
      rename_i fs hu
      simp only [Bool.and_eq_true, List.all_eq_true] at hpt
      obtain ⟨hpf, hcov⟩ := hpt
      obtain ⟨xs, n', rfl, _, hcl, hxl, hf⟩ := DataW.trod_struct hu h
      obtain ⟨ds, q1, q2, q3⟩ := parts (c := c) (m := m) cs (by rw [hcl]) _ 0 hcov (fun f hfm => by
        simp only [List.mem_map] at hfm
        obtain ⟨f', hf', rfl⟩ := hfm
        obtain ⟨i, hi⟩ := List.getElem?_of_mem hf'
        have h1 := hf i f' (by simpa using hi)
        have hix : i < xs.length := by
          have := (List.getElem?_eq_some_iff.1 hi).1
          rw [hxl]; simpa using this
        have h2 : xs[i]? = some xs[i] := by simp [hix]
        rw [h2] at h1
        obtain ⟨k1, ds, k2, k3, k4⟩ := ih f'.type (hpf f' hf') n' _ _ h1
        exact ⟨ds, k2, k3.trans k1, k4⟩)
      refine ⟨hcl, ds, ?_, by simpa using q1, fun i d hd => by simpa using q3 i d hd⟩
      unfold HasTy; rw [hu]
      exact ⟨by rw [q1, hcl]; rfl, fun f hf => by simpa using (q2 (f.type, f.offset) (List.mem_map.2 ⟨f, hf, rfl⟩)).1⟩
    · -- array
      rename_i k e hu
      simp only [Bool.and_eq_true] at hpt
      obtain ⟨hpe, hcov⟩ := hpt
      obtain ⟨xs, n', rfl, _, hcl, hxl, hf⟩ := DataW.trod_array hu h
      obtain ⟨ds, q1, q2, q3⟩ := parts (c := c) (m := m) cs (by rw [hcl]) _ 0 hcov (fun f hfm => by
        simp only [List.mem_map, List.mem_range] at hfm
        obtain ⟨i, hi, rfl⟩ := hfm
        have h1 := hf i hi
        have h2 : xs[i]? = some (xs[i]'(by omega)) := by simp [show i < xs.length by omega]
        rw [h2] at h1
        obtain ⟨k1, ds, k2, k3, k4⟩ := ih e hpe n' _ _ h1
        exact ⟨ds, k2, k3.trans k1, k4⟩)
      refine ⟨hcl, ds, ?_, by simpa using q1, fun i d hd => by simpa using q3 i d hd⟩
      unfold HasTy; rw [hu]
      exact ⟨by rw [q1, hcl]; rfl, fun i hi => by simpa using (q2 (e, i * P.cellsOf e) (List.mem_map.2 ⟨i, by simpa using hi, rfl⟩)).1⟩
    · cases hpt

end Go.Am
/- The abstract machine, part 36: a law's row, from what is shown of its function on pure data. No condition. -/
namespace Go.Am
open Go

variable [GTab]
variable {H : Type} {enc : TypeId × Value → H} {P : Program}

theorem notagg {W : World} {r : Reach} {b : Nat} {t : TypeId} {cs : Array Value} (h : Cell.okWide P W r b t (.agg cs)) : False := by
  unfold Cell.okWide at h
  split at h <;> first
    | (rename_i h2; cases h2; done)
    | (rename_i h2 _; cases h2; done)
    | skip
  unfold Cell.ok at h
  split at h <;> first
    | exact h
    | (rename_i h2; cases h2; done)

/-- One argument. -/
theorem arg_rel {W : World} {sp : Nat → Bool} {c : Ctx} (hp : c.hp = W.heap) (hown : ∀ g, ¬ c.own g) {m : Nat} {t : TypeId} (hpt : plainT P m t = true) {base : Nat} {v : Value} {d : DataW H} {ps : List MemPlace}
    (hval : Value.okWide P W .any base t v) (hd : DataW.Trod enc P W 0 sp true t v d ps) : ∃ ds : List D, HasTy P m t ds ∧ RelD c (mkElem P t ds) v := by
  obtain ⟨n, hn⟩ := hd
  obtain ⟨hl, ds, h1, h2, h3⟩ := trod_rel hp hown m t hpt n _ _ hn
  refine ⟨ds, h1, ?_⟩
  have one : (∀ cs, v ≠ .agg cs) → ds.length = 1 → RelD c (ds.headD .undef) v := by
    intro hna h1'
    have hc : v.cells = #[v] := by cases v <;> first | rfl | exact absurd rfl (hna _)
    obtain ⟨x, hx⟩ : ∃ x, ds[0]? = some x := ⟨ds[0]'(by omega), by simp [show 0 < ds.length by omega]⟩
    have := (h3 0 x hx).2
    rw [hc] at this
    have e : ds.headD .undef = x := by
      cases ds with
      | nil => simp at hx
      | cons a r => simpa using hx
    rw [e]; simpa using this
  have agg : ∀ cs, v = .agg cs → RelD c (.agg ds) v := by
    rintro cs rfl
    refine .agg ds cs (by simpa [Value.cells] using h2.symm) (fun i x hx => D.vone_one (h3 i x hx).1) (fun i x hx => ?_)
    have := (h3 i x hx).2
    rw [← toList_getD]
    exact this
  unfold Value.okWide at hval
  unfold mkElem
  cases m with
  | zero => simp [plainT] at hpt
  | succ m =>
    unfold plainT at hpt
    cases hu : P.underlying t with
    | none => rw [hu] at hpt; simp at hpt
    | some u =>
      rw [hu] at hval hpt
      cases u <;> simp only at hval hpt ⊢ <;> first
        | (obtain ⟨cs, rfl, _⟩ := hval; exact agg cs rfl)
        | (refine one (fun cs hc => ?_) ?_
           · subst hc; exact notagg hval
           · rw [h2, hl]; simp only [Bool.and_eq_true, beq_iff_eq] at hpt; first | exact hpt.1.1 | exact hpt)
        | cases hpt

/-- All arguments. -/
def HasTys (P : Program) (m : Nat) : List TypeId → List D → Prop
  | [], ds => ds = []
  | t :: ts, ds => ∃ cs r, ds = mkElem P t cs :: r ∧ HasTy P m t cs ∧ HasTys P m ts r

theorem args_rel {W : World} {sp : Nat → Bool} {c : Ctx} (hp : c.hp = W.heap) (hown : ∀ g, ¬ c.own g) {m base : Nat} : ∀ (ts : List TypeId) (vs : List Value) (ds : List (DataW H)) (ps : List MemPlace), ts.all (plainT P m) = true →
    (∀ (j : Nat) t v, ts[j]? = some t → vs[j]? = some v → Value.okWide P W .any base t v) → DataW.TrodAll enc P W 0 sp true ts vs ds ps → vs.length = ts.length ∧ ds.length = ts.length ∧
      ∃ xs : List D, HasTys P m ts xs ∧ xs.length = ts.length ∧ ∀ (i : Nat) (x : D), xs[i]? = some x → RelD c x (vs.getD i Go.undef)
  | [], vs, ds, ps, _, _, h => by
    obtain ⟨rfl, rfl, rfl⟩ := trodAll_nil' h
    exact ⟨rfl, rfl, [], rfl, rfl, by simp⟩
  | t :: ts, vs, ds, ps, hpt, hval, h => by
    simp only [List.all_cons, Bool.and_eq_true] at hpt
    obtain ⟨v, vs', d, ds', p, q, rfl, rfl, rfl, h1, h2⟩ := ChangeShapes.trodAll_cons h
    obtain ⟨cs, k1, k2⟩ := arg_rel hp hown hpt.1 (hval 0 t v rfl rfl) h1
    obtain ⟨l1, l2, xs, k3, k4, k5⟩ := args_rel hp hown ts vs' ds' q hpt.2 (fun j t v ht hv => hval (j + 1) t v (by simpa using ht) (by simpa using hv)) h2
    refine ⟨by simp [l1], by simp [l2], mkElem P t cs :: xs, ⟨cs, xs, rfl, k1, k3⟩, by simp [k4], fun i x hx => ?_⟩
    cases i with
    | zero => simp at hx; subst hx; simpa using k2
    | succ i => simp at hx; simpa using k5 i x hx
where
  trodAll_nil' {vs : List Value} {ds : List (DataW H)} {ps : List MemPlace} (h : DataW.TrodAll enc P W 0 sp true [] vs ds ps) : vs = [] ∧ ds = [] ∧ ps = [] := ChangeShapes.trodAll_nil h

/-- A LAW: its function gives true on all pure data of its types. -/
theorem law_calls {f : FuncId} {fn : Func} {s : ChangeSpec} {m : Nat} {tb : TypeId} (hpl : fn.params.toList.all (plainT P m) = true) (hrt : fn.resultTypes = #[tb]) (htb : P.underlying tb = some .bool)
    (hvars : s.vars = []) (hspec : ∀ ds : List (DataW H), ds.length = fn.params.size → s.fn H (ds ++ []) = { results := [.lit (.bool true)], args := ds })
    (hl : laidOutB P = true) (hm : mapsRowed P = true) (hfull : ((List.range P.types.size).all fun t => match P.underlying t with | some (.slice e) => decide (0 < P.cellsOf e) | _ => true) = true)
    (hin : ∀ t, t ∈ fn.params.toList → t < P.types.size)
    (hv : ∀ xs, HasTys P m fn.params.toList xs → VCall P f xs (· = .bool true))
    (W : World) (base : Nat) (args : Array Value) (ds gs : List (DataW H)) (before : List MemPlace)
    (hval : ∀ (j : Nat) t v, fn.params[j]? = some t → args[j]? = some v → Value.okWide P W .any base t v)
    (hW : DataW.Whole enc P fn.params.toList s.vars false W args.toList ds gs before)
    (htab : ∀ g vs, GTab.tab g = some vs → g < W.heap.size ∧ ∀ (k : Nat) (v : Value), vs[k]? = some v → cellOf W.heap g k = some v) :
    Calls P f args W fun e W' => ∃ v, e = .returned v ∧ s.post enc P fn false true false false W args v W' := by
  have hW' := hW
  obtain ⟨p, q, hA, hV, rfl, hfz, hnd⟩ := hW
  rw [hvars] at hV
  obtain ⟨rfl, rfl⟩ := ChangeShapes.trodVars_none hV
  let c : Ctx := ⟨fun _ => none, ⟨fun _ => False, 0⟩, noHeap, W.heap⟩
  have hown : ∀ g, ¬ c.own g := by
    rintro g (h | ⟨n, h, _⟩)
    · exact h
    · cases h
  have hr : HeapRel c := ⟨fun n => trivial, fun n m' g h => (by cases h), fun n g h => (by cases h), fun g h => h.elim, ⟨0, fun n _ => rfl⟩, fun g vs hg => ⟨(htab g vs hg).2, hown g, (htab g vs hg).1⟩, Nat.zero_le _⟩
  obtain ⟨l1, l2, xs, h1, h2, h3⟩ := args_rel (c := c) rfl hown fn.params.toList args.toList ds p hpl (fun j t v ht hv => hval j t v (by simpa using ht) (by simpa using hv)) hA
  refine (hv xs h1 c W args (fun _ => rfl) rfl hr (by rw [h2, ← l1]; simp) (fun i x hx => by rw [← toList_getD]; exact h3 i x hx)).mono ?_
  rintro e W' ⟨v, r, rfl, hle, hws, hrel, _, rfl⟩
  have hvt : v = .bool true := by cases hrel; rfl
  subst hvt
  have hk : ∀ b, b < W.heap.size → W'.heap[b]? = W.heap[b]? := fun b hb => hle.keep b hb (fun n hn => by cases hn)
  have hdl : ds.length = fn.params.size := by rw [l2]; simp
  have hsp := hspec ds hdl
  refine ⟨_, rfl, ds, [], p ++ [], [], p, [], hW', ?_, ?_, ?_, ?_, fun h => by cases h⟩
  · rw [hsp, hrt]
    exact ChangeShapes.trodAll_mk1 (RowKit.shut_bool htb true)
  · rw [hsp]
    refine trodAll_keep hk ?_
    exact DataW.TrodAll.respare (kids_rows hl hm) (slices_full_of P hfull) hin hA (fun x hx => by simpa using hW'.lt x (by simpa using hx))
  · rw [hvars, hsp]; rfl
  · refine ⟨hws.os, hws.output, fun i hi => ?_⟩
    rw [hk i hi]
    cases hb : W.heap[i]? with
    | none => rfl
    | some o => cases o <;> simp

end Go.Am
/- Numbers without a sign, and their bits: plain laws. No condition. -/
namespace Go.Am
open Go

theorem iand64 (a b : Nat) (ha : a < 18446744073709551616) (hb : b < 18446744073709551616) : ibits .and .u64 (a : Int) (b : Int) = ((a &&& b : Nat) : Int) := by
  have hx : a &&& b < 2 ^ 64 := Nat.and_lt_two_pow _ (by omega)
  have h1 : (BitVec.ofInt 64 (a : Int)).toNat = a := by
    rw [BitVec.ofInt_natCast, BitVec.toNat_ofNat]; exact Nat.mod_eq_of_lt (by omega)
  have h2 : (BitVec.ofInt 64 (b : Int)).toNat = b := by
    rw [BitVec.ofInt_natCast, BitVec.toNat_ofNat]; exact Nat.mod_eq_of_lt (by omega)
  show IntKind.u64.wrap ((BitVec.ofInt 64 (a : Int) &&& BitVec.ofInt 64 (b : Int)).toNat : Int) = _
  rw [BitVec.toNat_and, h1, h2]
  simp only [IntKind.wrap, IntKind.signed, IntKind.bits]
  simp
  omega
theorem iand64i (a b : Nat) (ha : a < 9223372036854775808) (hb : b < 9223372036854775808) : ibits .and .i64 (a : Int) (b : Int) = ((a &&& b : Nat) : Int) := by
  have hx : a &&& b < 2 ^ 63 := Nat.and_lt_two_pow _ (by omega)
  have h1 : (BitVec.ofInt 64 (a : Int)).toNat = a := by
    rw [BitVec.ofInt_natCast, BitVec.toNat_ofNat]; exact Nat.mod_eq_of_lt (by omega)
  have h2 : (BitVec.ofInt 64 (b : Int)).toNat = b := by
    rw [BitVec.ofInt_natCast, BitVec.toNat_ofNat]; exact Nat.mod_eq_of_lt (by omega)
  show IntKind.i64.wrap ((BitVec.ofInt 64 (a : Int) &&& BitVec.ofInt 64 (b : Int)).toNat : Int) = _
  rw [BitVec.toNat_and, h1, h2]
  simp only [IntKind.wrap, IntKind.signed, IntKind.bits]
  simp
  omega
theorem icpl64 (a : Nat) (ha : a < 18446744073709551616) : ibits .xor .u64 (if IntKind.u64.signed then -1 else IntKind.u64.max) (a : Int) = ((18446744073709551615 - a : Nat) : Int) := by
  have h2 : BitVec.ofInt 64 (a : Int) = BitVec.ofNat 64 a := BitVec.ofInt_natCast ..
  have h1 : (BitVec.ofInt 64 (18446744073709551615 : Int)) = BitVec.allOnes 64 := by decide
  have e : (if IntKind.u64.signed then -1 else IntKind.u64.max) = (18446744073709551615 : Int) := by decide
  rw [e]
  show IntKind.u64.wrap ((BitVec.ofInt 64 (18446744073709551615 : Int) ^^^ BitVec.ofInt 64 (a : Int)).toNat : Int) = _
  rw [h1, h2, BitVec.allOnes_xor, BitVec.toNat_not, BitVec.toNat_ofNat]
  simp only [IntKind.wrap, IntKind.signed, IntKind.bits]
  simp
  omega
theorem ishr64 (a b : Nat) (hb : b ≤ 64) : ishr .u64 (a : Int) (b : Int) = ((a / 2 ^ b : Nat) : Int) := by
  unfold ishr
  have e : min ((b : Int).toNat) IntKind.u64.bits = b := by
    simp only [IntKind.bits, Int.toNat_natCast]; omega
  rw [e]
  have : ((2 : Int) ^ b) = ((2 ^ b : Nat) : Int) := by simp
  rw [this]
  rw [Int.fdiv_eq_ediv_of_nonneg _ (Int.natCast_nonneg _)]
  exact (Int.natCast_ediv a (2 ^ b)).symm
theorem wrapu (n : Nat) : IntKind.u64.wrap (n : Int) = ((n % 18446744073709551616 : Nat) : Int) := by
  simp only [IntKind.wrap, IntKind.signed, IntKind.bits]
  simp
theorem ishl64 (a b : Nat) (hb : b ≤ 64) : ishl .u64 (a : Int) (b : Int) = ((a * 2 ^ b % 18446744073709551616 : Nat) : Int) := by
  unfold ishl
  have e : min ((b : Int).toNat) IntKind.u64.bits = b := by
    simp only [IntKind.bits, Int.toNat_natCast]; omega
  rw [e]
  have : (a : Int) * (2 : Int) ^ b = ((a * 2 ^ b : Nat) : Int) := by simp
  rw [this, wrapu]

/-- How many of the low bits are set. -/
def pop : Nat → Nat → Nat
  | 0, _ => 0
  | k + 1, x => x % 2 + pop k (x / 2)
def rep (c : Nat) : Nat → Nat
  | 0 => 0
  | k + 1 => c + 256 * rep c k
/-- A function on each byte. -/
def byB (g : Nat → Nat) : Nat → Nat → Nat
  | 0, _ => 0
  | k + 1, x => g (x % 256) + 256 * byB g k (x / 256)

theorem and_split (a q r : Nat) (hq : q < 256) : a &&& (q + 256 * r) = (a % 256 &&& q) + 256 * (a / 256 &&& r) := by
  have h1 : (a &&& (q + 256 * r)) % 2 ^ 8 = (a % 256 &&& q) := by
    rw [Nat.and_mod_two_pow]; congr 1; omega
  have h2 : (a &&& (q + 256 * r)) / 2 ^ 8 = (a / 256 &&& r) := by
    rw [Nat.and_div_two_pow]; congr 1; omega
  omega
theorem stage1 : ∀ k x, (x / 2 &&& rep 0x55 k) + (x &&& rep 0x55 k) = byB (fun c => (c / 2 &&& 0x55) + (c &&& 0x55)) k x
  | 0, x => by simp [rep, byB]
  | k + 1, x => by
    have ih := stage1 k (x / 256)
    have hb : ∀ c, c < 256 → ∀ b, b < 2 → (c / 2 + 128 * b) &&& 0x55 = c / 2 &&& 0x55 := by decide +kernel
    have e1 := hb (x % 256) (Nat.mod_lt _ (by decide)) (x / 256 % 2) (Nat.mod_lt _ (by decide))
    have e2 : x / 2 % 256 = x % 256 / 2 + 128 * (x / 256 % 2) := by omega
    have e3 : x / 2 / 256 = x / 256 / 2 := by omega
    simp only [rep, byB]
    rw [and_split _ _ _ (by decide), and_split _ _ _ (by decide), e2, e1, e3, ← ih]
    omega
theorem stage2 : ∀ k x, (x / 4 &&& rep 0x33 k) + (x &&& rep 0x33 k) = byB (fun c => (c / 4 &&& 0x33) + (c &&& 0x33)) k x
  | 0, x => by simp [rep, byB]
  | k + 1, x => by
    have ih := stage2 k (x / 256)
    have hb : ∀ c, c < 256 → ∀ b, b < 4 → (c / 4 + 64 * b) &&& 0x33 = c / 4 &&& 0x33 := by decide +kernel
    have e1 := hb (x % 256) (Nat.mod_lt _ (by decide)) (x / 256 % 4) (Nat.mod_lt _ (by decide))
    have e2 : x / 4 % 256 = x % 256 / 4 + 64 * (x / 256 % 4) := by omega
    have e3 : x / 4 / 256 = x / 256 / 4 := by omega
    simp only [rep, byB]
    rw [and_split _ _ _ (by decide), and_split _ _ _ (by decide), e2, e1, e3, ← ih]
    omega
/-- Both halves of each byte are at most 4. -/
def halves : Nat → Nat → Prop
  | 0, x => x = 0
  | k + 1, x => x % 256 % 16 ≤ 4 ∧ x % 256 / 16 ≤ 4 ∧ halves k (x / 256)
theorem halves_16 : ∀ k x, halves k x → x % 16 ≤ 4
  | 0, x, h => by rw [show x = 0 from h]; decide
  | k + 1, x, h => by have := h.1; omega
theorem stage3 : ∀ k x, halves k x → (x / 16 + x) &&& rep 0x0f k = byB (fun c => (c / 16 + c) &&& 0x0f) k x
  | 0, x, _ => by simp [rep, byB]
  | k + 1, x, h => by
    obtain ⟨h1, h2, h3⟩ := h
    have ih := stage3 k (x / 256) h3
    have h4 := halves_16 k _ h3
    have hb : ∀ c, c < 128 → ∀ b, b < 5 → (c / 16 + c + 16 * b) &&& 0x0f = (c / 16 + c) &&& 0x0f := by decide +kernel
    have e1 := hb (x % 256) (by omega) (x / 256 % 16) (by omega)
    have e2 : (x / 16 + x) % 256 = x % 256 / 16 + x % 256 + 16 * (x / 256 % 16) := by omega
    have e3 : (x / 16 + x) / 256 = x / 256 / 16 + x / 256 := by omega
    simp only [rep, byB]
    rw [and_split _ _ _ (by decide), e2, e1, e3, ← ih]
theorem byB_mod {g : Nat → Nat} {k x : Nat} (hg : ∀ c, c < 256 → g c < 256) : byB g (k + 1) x % 256 = g (x % 256) ∧ byB g (k + 1) x / 256 = byB g k (x / 256) := by
  have := hg (x % 256) (Nat.mod_lt _ (by decide))
  simp only [byB]
  omega
theorem byB_comp {f g : Nat → Nat} (hg : ∀ c, c < 256 → g c < 256) : ∀ k x, byB f k (byB g k x) = byB (fun c => f (g c)) k x
  | 0, _ => rfl
  | k + 1, x => by
    obtain ⟨h1, h2⟩ := byB_mod (k := k) (x := x) hg
    rw [byB, h1, h2, byB_comp hg k]
    rfl
theorem byB_congr {f g : Nat → Nat} (h : ∀ c, c < 256 → f c = g c) : ∀ k x, byB f k x = byB g k x
  | 0, _ => rfl
  | k + 1, x => by simp only [byB]; rw [h _ (Nat.mod_lt _ (by decide)), byB_congr h k]
theorem halves_byB {g : Nat → Nat} (hg : ∀ c, c < 256 → g c < 256 ∧ g c % 16 ≤ 4 ∧ g c / 16 ≤ 4) : ∀ k x, halves k (byB g k x)
  | 0, _ => rfl
  | k + 1, x => by
    obtain ⟨h1, h2⟩ := byB_mod (k := k) (x := x) (fun c hc => (hg c hc).1)
    obtain ⟨_, h4, h5⟩ := hg (x % 256) (Nat.mod_lt _ (by decide))
    refine ⟨by rw [h1]; exact h4, by rw [h1]; exact h5, ?_⟩
    rw [h2]; exact halves_byB hg k _
theorem pop_add : ∀ j k x, pop (j + k) x = pop j x + pop k (x / 2 ^ j)
  | 0, k, x => by simp [pop]
  | j + 1, k, x => by
    rw [show j + 1 + k = (j + k) + 1 by omega]
    simp only [pop]
    rw [pop_add j k, Nat.div_div_eq_div_mul, show 2 * 2 ^ j = 2 ^ (j + 1) by rw [Nat.pow_succ]; omega]
    omega
theorem pop_mod : ∀ j x, pop j (x % 2 ^ j) = pop j x
  | 0, _ => rfl
  | j + 1, x => by
    simp only [pop]
    have e1 : x % 2 ^ (j + 1) % 2 = x % 2 := by
      rw [Nat.pow_succ, Nat.mul_comm]; exact Nat.mod_mul_right_mod x 2 (2 ^ j)
    have e2 : x % 2 ^ (j + 1) / 2 = x / 2 % 2 ^ j := by
      rw [Nat.pow_succ, Nat.mul_comm, Nat.mod_mul_right_div_self]
    rw [e1, e2, pop_mod j]
theorem pop_le : ∀ k x, pop k x ≤ k
  | 0, _ => Nat.le_refl _
  | k + 1, x => by simp only [pop]; have := pop_le k (x / 2); omega

/-- WHAT THE CODE OF OnesCount64 RECKONS. -/
theorem ones64 (x : Nat) : ∃ p0 p1 p2 p3 p4 p5 p6 p7 : Nat, p0 ≤ 8 ∧ p1 ≤ 8 ∧ p2 ≤ 8 ∧ p3 ≤ 8 ∧ p4 ≤ 8 ∧ p5 ≤ 8 ∧ p6 ≤ 8 ∧ p7 ≤ 8 ∧ pop 64 x = p0 + p1 + p2 + p3 + p4 + p5 + p6 + p7 ∧
    byB (pop 8) 8 x = p0 + 256 * (p1 + 256 * (p2 + 256 * (p3 + 256 * (p4 + 256 * (p5 + 256 * (p6 + 256 * p7)))))) := by
  have h8 : ∀ y, pop 8 (y % 256) = pop 8 y := fun y => pop_mod 8 y
  refine ⟨pop 8 x, pop 8 (x / 256), pop 8 (x / 256 / 256), pop 8 (x / 256 / 256 / 256), pop 8 (x / 256 / 256 / 256 / 256), pop 8 (x / 256 / 256 / 256 / 256 / 256), pop 8 (x / 256 / 256 / 256 / 256 / 256 / 256),
    pop 8 (x / 256 / 256 / 256 / 256 / 256 / 256 / 256), pop_le _ _, pop_le _ _, pop_le _ _, pop_le _ _, pop_le _ _, pop_le _ _, pop_le _ _, pop_le _ _, ?_, ?_⟩
  · have e : ∀ k y, pop (8 + k) y = pop 8 y + pop k (y / 256) := fun k y => pop_add 8 k y
    have e0 : ∀ y, pop 0 y = 0 := fun _ => rfl
    have e64 : pop 64 x = pop (8 + (8 + (8 + (8 + (8 + (8 + (8 + (8 + 0)))))))) x := rfl
    rw [e64, e, e, e, e, e, e, e, e, e0]
    omega
  · simp only [byB, h8]
    omega

end Go.Am
/- The abstract machine, part 39: what the row's types say of the data. No condition. -/
namespace Go.Am
open Go

variable {P : Program} {m : Nat} {t e : TypeId} {k : IntKind} {ds : List D}

theorem hasTy_int (h : P.underlying t = some (.int k)) (hd : HasTy P (m + 1) t ds) : ∃ i, ds = [.int k i] ∧ k.min ≤ i ∧ i ≤ k.max := by
  unfold HasTy at hd
  rw [h] at hd
  obtain ⟨i, h1, h2⟩ := hd
  simp [Lit.wf] at h2
  exact ⟨i, h1, h2.1, h2.2⟩
theorem hasTy_slice (h : P.underlying t = some (.slice e)) (hd : HasTy P (m + 1) t ds) : ∃ xs : List (List D), ds = [.sl (xs.map (mkElem P e))] ∧ xs.length ≤ maxLen ∧ ∀ x, x ∈ xs → HasTy P m e x := by
  unfold HasTy at hd
  rw [h] at hd
  exact hd
def structL (P : Program) (t : TypeId) : Option (List (TypeId × Nat)) := match P.underlying t with
  | some (.struct fs) => some (fs.toList.map fun f => (f.type, f.offset))
  | _ => none
theorem hasTy_struct {l : List (TypeId × Nat)} (h : structL P t = some l) (hd : HasTy P (m + 1) t ds) : ds.length = P.cellsOf t ∧ ∀ q, q ∈ l → HasTy P m q.1 ((ds.drop q.2).take (P.cellsOf q.1)) := by
  unfold HasTy at hd
  unfold structL at h
  split at h
  · rename_i fs hu
    rw [hu] at hd
    cases h
    refine ⟨hd.1, fun q hq => ?_⟩
    obtain ⟨f, hf, rfl⟩ := List.mem_map.1 hq
    exact hd.2 f hf
  · cases h
theorem hasTy_array {n : Nat} (h : P.underlying t = some (.array n e)) (hd : HasTy P (m + 1) t ds) : ds.length = P.cellsOf t ∧ ∀ i, i < n → HasTy P m e ((ds.drop (i * P.cellsOf e)).take (P.cellsOf e)) := by
  unfold HasTy at hd
  rw [h] at hd
  exact hd
theorem mk_struct {l : List (TypeId × Nat)} (h : structL P t = some l) (cs : List D) : mkElem P t cs = .agg cs := by
  unfold structL at h
  unfold mkElem
  split at h
  · rename_i hu; rw [hu]
  · cases h
theorem mk_array {n : Nat} (h : P.underlying t = some (.array n e)) (cs : List D) : mkElem P t cs = .agg cs := by unfold mkElem; rw [h]
theorem mk_int (h : P.underlying t = some (.int k)) (d : D) : mkElem P t [d] = d := by unfold mkElem; rw [h]; rfl
theorem mk_slice (h : P.underlying t = some (.slice e)) (d : D) : mkElem P t [d] = d := by unfold mkElem; rw [h]; rfl
/-- A list of numbers. -/
theorem hasTy_ints (h : P.underlying t = some (.slice e)) (he : P.underlying e = some (.int k)) (hd : HasTy P (m + 2) t ds) : ∃ xs : List Int, ds = [.sl (xs.map (.int k))] ∧ xs.length ≤ maxLen ∧ ∀ x, x ∈ xs → k.min ≤ x ∧ x ≤ k.max := by
  obtain ⟨xs, h1, h2, h3⟩ := hasTy_slice h hd
  have : ∃ ys : List Int, xs.map (mkElem P e) = ys.map (.int k) ∧ ys.length = xs.length ∧ ∀ x, x ∈ ys → k.min ≤ x ∧ x ≤ k.max := by
    clear h1 h2
    induction xs with
    | nil => exact ⟨[], rfl, rfl, fun x hx => by cases hx⟩
    | cons x r ih =>
      obtain ⟨ys, g1, g2, g3⟩ := ih fun x hx => h3 x (List.mem_cons_of_mem _ hx)
      obtain ⟨i, hi, hi1, hi2⟩ := hasTy_int he (h3 x List.mem_cons_self)
      refine ⟨i :: ys, ?_, by simp [g2], fun y hy => ?_⟩
      · simp only [List.map_cons, g1, hi, mk_int he]
      · rcases List.mem_cons.1 hy with rfl | hy
        · exact ⟨hi1, hi2⟩
        · exact g3 y hy
  obtain ⟨ys, g1, g2, g3⟩ := this
  exact ⟨ys, by rw [h1, g1], by omega, g3⟩
end Go.Am
/- The abstract machine, part 41: rows of rows, in general: what is one's own is read as data from here on. No condition. -/
namespace Go.Am
open Go

variable [GTab]
variable {P : Program}

/-- A row whose elements can be read as pure data. -/
structure DeepN (h : Heap) (M esz : Nat) (els : List D) : Prop where
  out : M ∉ els.flatMap D.nm
  el : ∀ e, e ∈ els → AllOne e ∧ FzOk h e ∧ ∀ y, y ∈ (e.fz h).cells → y.vone = true
def innN (h : Heap) (M esz : Nat) (els : List D) : Heap := upd (h.freezeAll (els.flatMap D.nm)) M (.arr esz (els.map (D.fz h)))
theorem innN_self {h : Heap} {M esz : Nat} {els : List D} : innN h M esz els M = .arr esz (els.map (D.fz h)) := upd_self _ _ _
theorem innN_other {h : Heap} {M esz k : Nat} {els : List D} (h1 : k ≠ M) (h2 : k ∉ els.flatMap D.nm) : innN h M esz els k = h k := by
  unfold innN; rw [upd_other _ _ h1, freezeAll_other _ h2]
theorem fz_cells_len {h : Heap} {e : D} : (e.fz h).cells.length = e.cells.length := by
  cases e with
  | ms n off len =>
    simp only [D.fz, D.fzc]
    cases hr : (h n).row with
    | none => rfl
    | some p => obtain ⟨a, b⟩ := p; rfl
  | agg cs => simp [D.fz, D.cells]
  | _ => rfl
theorem fz_cell {h : Heap} {e : D} {j : Nat} : (e.fz h).cells[j]? = (e.cells[j]?).map (D.fzc h) := by
  cases e with
  | agg cs => simp [D.fz, D.cells]
  | ms n off len =>
    simp only [D.fz, D.cells, D.fzc]
    cases j with
    | zero =>
      cases hr : (h n).row with
      | none => simp [D.fzc, hr]
      | some p => obtain ⟨a, b⟩ := p; simp [D.fzc, hr]
    | succ j =>
      cases hr : (h n).row with
      | none => simp
      | some p => obtain ⟨a, b⟩ := p; simp
  | _ => cases j <;> simp [D.fz, D.fzc, D.cells]
theorem inner_stepN {c : Ctx} (hr : HeapRel c) {M esz : Nat} {els : List D} (hM : c.h M = .arr esz els) (hd : DeepN c.h M esz els) :
    c.le ⟨c.ρ, c.X, innN c.h M esz els, c.hp⟩ ∧ HeapRel ⟨c.ρ, c.X, innN c.h M esz els, c.hp⟩ := by
  obtain ⟨g1, g2⟩ := freezeAll_step hr (els.flatMap D.nm)
  have hM1 : (c.h.freezeAll (els.flatMap D.nm)) M = .arr esz els := by rw [freezeAll_other _ hd.out, hM]
  have hlen : ∀ e, e ∈ els → e.cells.length = esz := by
    have := hr.slot M
    rw [hM] at this
    exact this.2.1
  have key := arr_swap (c := ⟨c.ρ, c.X, c.h.freezeAll (els.flatMap D.nm), c.hp⟩) g2 (els' := els.map (D.fz c.h)) hM1 (by simp) (fun e he => ?_) (fun i j d h => ?_) (fun i j d' h => ?_)
  · exact ⟨g1.trans key.1, key.2⟩
  · simp only [List.mem_map] at he
    obtain ⟨x, hx, rfl⟩ := he
    rw [fz_cells_len]; exact hlen x hx
  · simp only [cellIn, List.getElem?_map, Option.bind_eq_some_iff, Option.map_eq_some_iff] at h
    obtain ⟨e, ⟨x, hx, rfl⟩, h2⟩ := h
    exact D.vone_one ((hd.el x (List.mem_of_getElem? hx)).2.2 d (List.mem_of_getElem? h2))
  · simp only [cellIn, List.getElem?_map, Option.bind_eq_some_iff, Option.map_eq_some_iff] at h
    obtain ⟨e, ⟨x, hx, rfl⟩, h2⟩ := h
    obtain ⟨q1, q2, q3⟩ := hd.el x (List.mem_of_getElem? hx)
    rw [fz_cell, Option.map_eq_some_iff] at h2
    obtain ⟨y, hy, rfl⟩ := h2
    refine ⟨y, by simp [cellIn, hx, hy], fun v hv => ?_⟩
    have hym := List.mem_of_getElem? hy
    have hre : ∀ n, ((c.h.freezeAll (els.flatMap D.nm)) n).row = (c.h n).row := fun n => freezeAll_roweq _ n
    have hy1 := q1 y hym
    have hyc : y.cells = [y] := by cases y <;> first | rfl | cases hy1
    have hfz : y.fz c.h = y.fzc c.h := by cases y <;> first | rfl | cases hy1
    have hnm : y.nm = y.nmc := by cases y <;> first | rfl | cases hy1
    have := (fz_rel (Ctx.le.refl _) g2 hv (fun z hz => by rw [hyc] at hz; simp at hz; subst hz; exact hy1) (fzOk_roweq hre (fun z hz => by rw [hyc] at hz; simp at hz; subst hz; exact q2 z hym)) (fun n esz' es hn hrow => ?_)).1
    · rw [fz_roweq hre, hfz] at this; exact this
    · rw [hre n] at hrow
      refine freezeAll_mem _ hrow (List.mem_flatMap.2 ⟨x, List.mem_of_getElem? hx, ?_⟩)
      rw [hnm] at hn
      cases x with
      | agg cs => exact List.mem_flatMap.2 ⟨y, hym, hn⟩
      | _ => simp only [D.cells, List.mem_singleton] at hym; subst hym; exact hn

/-- One's own rows become data, one after the other. -/
inductive Inn : Heap → Heap → Prop where
  | refl (h : Heap) : Inn h h
  | step {h h' : Heap} {M esz : Nat} {els : List D} (hM : h M = .arr esz els) (hd : DeepN h M esz els) (k : Inn (innN h M esz els) h') : Inn h h'
theorem inn_steps {h h' : Heap} (k : Inn h h') : ∀ {c : Ctx}, c.h = h → HeapRel c → c.le ⟨c.ρ, c.X, h', c.hp⟩ ∧ HeapRel ⟨c.ρ, c.X, h', c.hp⟩ := by
  induction k with
  | refl h => intro c hc hr; subst hc; exact ⟨Ctx.le.refl c, hr⟩
  | step hM hd _ ih =>
    intro c hc hr
    subst hc
    obtain ⟨g1, g2⟩ := inner_stepN hr hM hd
    obtain ⟨g3, g4⟩ := ih (c := ⟨c.ρ, c.X, _, c.hp⟩) rfl g2
    exact ⟨g1.trans g3, g4⟩
theorem acall_inn {f : FuncId} {ds : List D} {h h' : Heap} {K : D → Heap → Prop} (k : Inn h h') (hc : ACall P f ds h' K) : ACall P f ds h K := by
  intro c w vals hh hp hr hs hrel
  obtain ⟨g1, g2⟩ := inn_steps k hh hr
  refine (hc ⟨c.ρ, c.X, h', c.hp⟩ w vals rfl hp g2 hs (fun i d hi => (hrel i d hi).mono g1)).mono ?_
  rintro e w' ⟨v, r, ρ, h'', r1, r2, r3, r4, r5, r6⟩
  exact ⟨v, r, ρ, h'', r1, g1.trans r2, r3, r4, r5, r6⟩
/-- A function that gives what is its own, as data. -/
theorem vcall_inn {f : FuncId} {ds : List D} {K : D → Prop} (ha : ACall P f ds noHeap (fun r h' => ∃ h'', Inn h' h'' ∧ AllOneT r ∧ FzOkT h'' r ∧ (r.fzt h'').vdt = true ∧ K (r.fzt h''))) : VCall P f ds K := by
  intro c w vals hh hp hr hs hrel
  have hfree : c.h = noHeap := funext hh
  have := ha c w vals hfree hp hr hs hrel
  refine this.mono ?_
  rintro e w' ⟨v, r, ρ, h', rfl, h1, h2, h3, h4, h'', hi, h5, h6, h7, h8⟩
  obtain ⟨k1, k2⟩ := inn_steps hi (c := ⟨ρ, c.X, h', w'.heap⟩) rfl h2
  obtain ⟨g1, g2⟩ := freezeAll_step k2 r.nmt
  have hz := fzt_rel g1 g2 (h4.mono k1) h5 h6 (fun n esz els hn hrow => freezeAll_mem _ hrow hn)
  have hown : ∀ g, ¬ (⟨ρ, c.X, h''.freezeAll r.nmt, w'.heap⟩ : Ctx).own g → ¬ (⟨c.ρ, c.X, c.h, w'.heap⟩ : Ctx).own g := by
    rintro g hn (hX | ⟨n, hm, _⟩)
    · exact hn (Or.inl hX)
    · simp only [hh n] at hm; cases hm
  refine ⟨v, r.fzt h'', rfl, ?_, h3, RelD.recastT (c := ⟨ρ, c.X, h''.freezeAll r.nmt, w'.heap⟩) (c' := ⟨c.ρ, c.X, c.h, w'.heap⟩) rfl hown hz h7, h7, h8⟩
  refine ⟨h1.size, rfl, h1.keep, h1.shape, h1.loop, fun _ _ => rfl, fun _ => Trans.refl _, fun n g hm hρ _ => ⟨n, hm, hρ⟩⟩
end Go.Am
/- The abstract machine, part 42: an evaluator that knows contracts with a heap, and gives rows of rows as data. No condition. -/
namespace Go.Am
open Go

variable [GTab]
variable {P : Program}

def deepNB (l : LH) (M : Nat) (els : List D) : Bool := !(els.flatMap D.nm).contains M && els.all fun e => allOneB e && fzOkB l e && voneB (e.fz l.h)
theorem deepNB_ok {l : LH} {M esz : Nat} {els : List D} (h : deepNB l M els = true) : DeepN l.h M esz els := by
  simp only [deepNB, Bool.and_eq_true, Bool.not_eq_true', List.all_eq_true] at h
  refine ⟨fun hm => ?_, fun e he => ?_⟩
  · have : (els.flatMap D.nm).contains M = true := List.contains_iff_mem.2 hm
    rw [this] at h; exact absurd h.1 (by simp)
  · have := h.2 e he
    exact ⟨allOneB_ok this.1.1, fzOkB_ok this.1.2, voneB_ok this.2⟩
/-- A row's own rows become data. -/
def innL (l : LH) (M : Nat) : LH := match l.h M with
  | .arr esz els => if deepNB l M els then fDL (els.map (D.fz l.h)) fun els' => (l.frzAll (els.flatMap D.nm)).set M (.arr esz els') else l
  | _ => l
theorem frzAll_length : ∀ (ns : List Nat) (l : LH), (l.frzAll ns).length = l.length
  | [], _ => rfl
  | n :: r, l => by
    show ((l.frz n).frzAll r).length = _
    rw [frzAll_length r]
    unfold LH.frz
    split <;> simp
theorem innL_ok {l : LH} (hn : l.nf) (M : Nat) : (innL l M).nf ∧ Inn l.h (innL l M).h := by
  unfold innL
  split
  · rename_i esz els hM
    split
    · rename_i hd
      rw [fDL_eq]
      obtain ⟨a1, a2⟩ := LH.frzAll_ok (els.flatMap D.nm) hn
      have hlt : M < (l.frzAll (els.flatMap D.nm)).length := by rw [frzAll_length]; exact LH.lt_of (by rw [hM]; simp)
      refine ⟨LH.nf_set a2 (by simp), ?_⟩
      rw [LH.h_set _ hlt, a1]
      exact .step hM (deepNB_ok hd) (.refl _)
    · exact ⟨hn, .refl _⟩
  · exact ⟨hn, .refl _⟩
theorem Inn.trans {a b c : Heap} (h : Inn a b) (k : Inn b c) : Inn a c := by
  induction h with
  | refl _ => exact k
  | step hM hd _ ih => exact .step hM hd (ih k)
def innAll : List Nat → LH → LH
  | [], l => l
  | M :: r, l => innAll r (innL l M)
theorem innAll_ok : ∀ (ns : List Nat) {l : LH}, l.nf → (innAll ns l).nf ∧ Inn l.h (innAll ns l).h
  | [], _, hn => ⟨hn, .refl _⟩
  | M :: r, l, hn => by
    obtain ⟨a1, a2⟩ := innL_ok hn M
    obtain ⟨b1, b2⟩ := innAll_ok r a1
    exact ⟨b1, a2.trans b2⟩
/-- All rows, inner ones first (they are younger: from the last to the first, twice). -/
def deepAll (l : LH) : LH := innAll ((List.range l.length).reverse ++ (List.range l.length).reverse) l

/-- A table of functions: texts, contracts on pure data, contracts with a heap. -/
structure FTab2 (P : Program) (fs : FuncId → Option AFunc) where
  a : ∀ f F, fs f = some F → ∀ ds K h, vcFn P F ds K h → ACall P f ds h K
  spec : FuncId → Option (List D → Option D)
  sp : ∀ f s, spec f = some s → ∀ ds r, s ds = some r → VCall P f ds (· = r)
  hspec : FuncId → Option (List D → LH → Option (D × LH))
  hsp : ∀ f s, hspec f = some s → ∀ ds l d l', s ds l = some (d, l') → l.nf → l'.nf ∧ ∀ K : D → Heap → Prop, K d l'.h → ACall P f ds l.h K

def evPures2 (spec : FuncId → Option (List D → Option D)) (own : FuncId → Bool) (call : FuncId → List D → LH → Option (D × LH)) : Calls0 where
  call := call
  vcall f ds := match spec f with
    | some s => match s ds with
      | some r => fD r fun d => some d
      | none => none
    | none => match call f ds [] with
      | some (r, l) => match deepAll l with
        | l' => if allOneTB r && fzOkTB l' r && (r.fzt l'.h).vdt then fD (r.fzt l'.h) fun d => some d else none
      | none => none
  own := own
def evF2 (P : Program) (fs : FuncId → Option AFunc) (spec : FuncId → Option (List D → Option D)) (hspec : FuncId → Option (List D → LH → Option (D × LH))) (own : FuncId → Bool) (N : Nat) : Nat → FuncId → List D → LH → Option (D × LH)
  | 0, _, _, _ => none
  | n + 1, f, ds, l => match hspec f with
    | some s => s ds l
    | none => match fs f with
      | none => none
      | some F => if ds.length ≤ F.nt then
          match evC P (evPures2 spec own (evF2 P fs spec hspec own N n)) N F.code (params ds 0) l with
          | some (x, e, l') => match x with
            | .exit _ => none
            | .normal => match evRet F.res e l' with
              | some d => fD d fun d => some (d, l')
              | none => none
            | .ret => match evRet F.res e l' with
              | some d => fD d fun d => some (d, l')
              | none => none
          | none => none
        else none

theorem evF2_call {fs : FuncId → Option AFunc} (tab : FTab2 P fs) {own : FuncId → Bool} {N n : Nat} (ok : CallsOk P (evPures2 tab.spec own (evF2 P fs tab.spec tab.hspec own N n))) {f : FuncId} {ds : List D} {l : LH} {d : D} {l' : LH} (h : evF2 P fs tab.spec tab.hspec own N (n + 1) f ds l = some (d, l')) (hn : l.nf) :
    l'.nf ∧ ∀ K : D → Heap → Prop, K d l'.h → ACall P f ds l.h K := by
  simp only [evF2] at h
  cases hs : tab.hspec f with
  | some s =>
    rw [hs] at h
    exact tab.hsp f s hs ds l d l' h hn
  | none =>
    rw [hs] at h
    simp only at h
    cases hf : fs f with
    | none => rw [hf] at h; cases h
    | some F =>
      rw [hf] at h
      simp only at h
      split at h
      · rename_i hlen
        cases hr : evC P (evPures2 tab.spec own (evF2 P fs tab.spec tab.hspec own N n)) N F.code (params ds 0) l with
        | none => rw [hr] at h; cases h
        | some q =>
          obtain ⟨x, e, l1⟩ := q
          rw [hr] at h
          obtain ⟨g1, g2⟩ := evC_ok ok N F.code _ _ _ _ _ hr hn
          cases x <;> simp only at h <;> try (cases h; done)
          all_goals
            cases hq : evRet F.res e l1 with
            | none => rw [hq] at h; cases h
            | some d1 =>
              rw [hq] at h
              simp only [fD_eq] at h
              cases h
              exact ⟨g1, fun K hk => tab.a f F hf ds K _ ⟨hlen, g2 _ (evRet_ok hq hk)⟩⟩
      · cases h

theorem evF2_ok {fs : FuncId → Option AFunc} (tab : FTab2 P fs) (own : FuncId → Bool) (N : Nat) : ∀ n, CallsOk P (evPures2 tab.spec own (evF2 P fs tab.spec tab.hspec own N n)) := by
  intro n
  have sp : ∀ (call : FuncId → List D → LH → Option (D × LH)) f ds r s, tab.spec f = some s → (evPures2 tab.spec own call).vcall f ds = some r → VCall P f ds (· = r) := by
    intro call f ds r s hs h
    simp only [evPures2, hs] at h
    cases hr : s ds with
    | none => rw [hr] at h; cases h
    | some d =>
      rw [hr] at h
      simp only [fD_eq] at h
      cases h
      exact tab.sp f s hs ds r hr
  induction n with
  | zero =>
    refine ⟨fun f ds l d l' h => (by cases h), fun f ds r h => ?_⟩
    cases hs : tab.spec f with
    | some s => exact sp _ f ds r s hs h
    | none => simp only [evPures2, hs] at h; cases h
  | succ n ih =>
    constructor
    · intro f ds l d l' h hn
      exact evF2_call tab ih h hn
    · intro f ds r h
      cases hs : tab.spec f with
      | some s => exact sp _ f ds r s hs h
      | none =>
        simp only [evPures2, hs] at h
        cases hr : evF2 P fs tab.spec tab.hspec own N (n + 1) f ds [] with
        | none => rw [hr] at h; cases h
        | some q =>
          obtain ⟨d, l'⟩ := q
          rw [hr] at h
          simp only [fD_eq] at h
          split at h
          · rename_i hc
            simp only [Bool.and_eq_true] at hc
            cases h
            obtain ⟨g1, g2⟩ := evF2_call tab ih hr (fun s hs => by cases hs)
            obtain ⟨d1, d2⟩ := innAll_ok ((List.range l'.length).reverse ++ (List.range l'.length).reverse) g1
            refine vcall_inn ?_
            rw [noHeap_eq]
            exact g2 _ ⟨_, d2, allOneTB_ok hc.1.1, fzOkTB_ok hc.1.2, hc.2, rfl⟩
          · cases h
/-- A call that is worked out. -/
theorem vcall_ev2 {fs : FuncId → Option AFunc} (tab : FTab2 P fs) (own : FuncId → Bool) (N n : Nat) {f : FuncId} {ds : List D} {r : D}
    (h : ((evPures2 tab.spec own (evF2 P fs tab.spec tab.hspec own N n)).vcall f ds).any (D.same r) = true) : VCall P f ds (· = r) := by
  cases hv : (evPures2 tab.spec own (evF2 P fs tab.spec tab.hspec own N n)).vcall f ds with
  | none => rw [hv] at h; cases h
  | some r' =>
    rw [hv] at h
    simp only [Option.any_some] at h
    rw [D.eq_of_same _ _ h]
    exact (evF2_ok tab own N n).vcall f ds r' hv
end Go.Am
/- The abstract machine, part 44: nil read as the empty list. No condition. -/
namespace Go.Am
open Go

variable [GTab]
variable {P : Program}

/-- Nil may be read as the empty list, at any depth. -/
inductive Wk : D → D → Prop where
  | refl (d : D) : Wk d d
  | nil : Wk .nil (.sl [])
  | sl (xs ys : List D) (hl : xs.length = ys.length) (h : ∀ (i : Nat) (x y : D), xs[i]? = some x → ys[i]? = some y → Wk x y) : Wk (.sl xs) (.sl ys)
  | agg (xs ys : List D) (hl : xs.length = ys.length) (h : ∀ (i : Nat) (x y : D), xs[i]? = some x → ys[i]? = some y → Wk x y) : Wk (.agg xs) (.agg ys)
  | tup (xs ys : List D) (hl : xs.length = ys.length) (h : ∀ (i : Nat) (x y : D), xs[i]? = some x → ys[i]? = some y → Wk x y) : Wk (.tup xs) (.tup ys)

theorem Wk.one {d d' : D} (h : Wk d d') : d'.one = d.one := by cases h <;> rfl
theorem Wk.vone {d d' : D} (h : Wk d d') : d'.vone = d.vone := by cases h <;> rfl
theorem Wk.aggInv {xs : List D} {y : D} (h : Wk (.agg xs) y) : ∃ ys, y = .agg ys ∧ xs.length = ys.length ∧ ∀ (i : Nat) (x y : D), xs[i]? = some x → ys[i]? = some y → Wk x y := by
  cases h with
  | refl => exact ⟨xs, rfl, rfl, fun i x y h1 h2 => by rw [h1] at h2; cases h2; exact .refl _⟩
  | agg _ ys hl h => exact ⟨ys, rfl, hl, h⟩
theorem Wk.cells {e e' : D} (h : Wk e e') : e.cells.length = e'.cells.length := by
  cases h with
  | agg xs ys hl h => exact hl
  | _ => rfl
theorem Wk.isAgg {e e' : D} (h : Wk e e') : e'.isAgg = e.isAgg := by cases h <;> rfl
theorem cells_notAgg {e : D} (h : e.isAgg = false) : e.cells = [e] := by cases e <;> first | rfl | cases h
theorem get_len {α : Type} {xs ys : List α} (hl : xs.length = ys.length) {i : Nat} {y : α} (hy : ys[i]? = some y) : ∃ x, xs[i]? = some x := by
  have := (List.getElem?_eq_some_iff.1 hy).1
  exact ⟨xs[i]'(by omega), List.getElem?_eq_getElem (by omega)⟩

theorem wk_rel {c : Ctx} {d d' : D} (h : Wk d d') : ∀ v, RelD c d v → RelD c d' v := by
  induction h with
  | refl d => exact fun v hv => hv
  | nil => intro v hv; cases hv; exact .slE none 0 (by simp [maxLen])
  | agg xs ys hl h ih =>
    intro v hv
    cases hv with
    | agg _ vs hsz hone hrel =>
      refine .agg ys vs (by omega) (fun i d hd => ?_) (fun i d hd => ?_)
      · obtain ⟨x, hx⟩ := get_len hl hd
        rw [(h i x d hx hd).one]; exact hone i x hx
      · obtain ⟨x, hx⟩ := get_len hl hd
        exact ih i x d hx hd _ (hrel i x hx)
  | tup xs ys hl h ih =>
    intro v hv
    cases hv with
    | tup _ vs hsz hrel =>
      refine .tup ys vs (by omega) (fun i d hd => ?_)
      obtain ⟨x, hx⟩ := get_len hl hd
      exact ih i x d hx hd _ (hrel i x hx)
  | sl xs ys hl h ih =>
    intro v hv
    cases hv with
    | slE p cap hm =>
      have : ys = [] := List.length_eq_zero_iff.1 hl.symm
      subst this
      exact .slE p cap hm
    | sl _ b o cap esz f hne hc hm he hlen hone hcell hown hrel =>
      have key : ∀ i j d', cellIn ys i j = some d' → ∃ d, cellIn xs i j = some d ∧ d'.vone = true ∧ RelD c d' (f i j) := by
        intro i j d' hd'
        simp only [cellIn, Option.bind_eq_some_iff] at hd'
        obtain ⟨y, hy, hj⟩ := hd'
        obtain ⟨x, hx⟩ := get_len hl hy
        have hw := h i x y hx hy
        by_cases ha : x.isAgg = true
        · cases x with
          | agg cs =>
            obtain ⟨cs', rfl, hcl, hcw⟩ := hw.aggInv
            simp only [D.cells] at hj
            obtain ⟨a, haj⟩ := get_len hcl hj
            have hin : ∀ k z, cs[k]? = some z → cellIn xs i k = some z := fun k z hz => by simp [cellIn, hx, D.cells, hz]
            have hr : RelD c (.agg cs) (.agg ((List.range cs.length).map (f i)).toArray) := by
              refine .agg _ _ (by simp) (fun k z hz => D.vone_one (hone i k z (hin k z hz))) (fun k z hz => ?_)
              have hk := (List.getElem?_eq_some_iff.1 hz).1
              have : ((List.range cs.length).map (f i)).toArray.getD k Go.undef = f i k := by simp [Array.getD, hk]
              rw [this]; exact hrel i k z (hin k z hz)
            have hr' := ih i _ _ hx hy _ hr
            refine ⟨a, hin j a haj, ?_, ?_⟩
            · rw [(hcw j a d' haj hj).vone]; exact hone i j a (hin j a haj)
            · cases hr' with
              | agg _ _ _ _ hrel' =>
                have hk := (List.getElem?_eq_some_iff.1 hj).1
                have := hrel' j d' hj
                have e : ((List.range cs.length).map (f i)).toArray.getD j Go.undef = f i j := by simp [Array.getD, show j < cs.length by omega]
                rw [e] at this; exact this
          | _ => cases ha
        · have ha : x.isAgg = false := by simpa using ha
          have hc1 := cells_notAgg ha
          have hc2 := cells_notAgg (hw.isAgg.trans ha)
          rw [hc2] at hj
          cases j with
          | succ j => simp at hj
          | zero =>
            simp at hj; subst hj
            have hin : cellIn xs i 0 = some x := by simp [cellIn, hx, hc1]
            exact ⟨x, hin, by rw [hw.vone]; exact hone i 0 x hin, ih i x y hx hy _ (hrel i 0 x hin)⟩
      rw [hl]
      refine .sl ys b o cap esz f (fun e => hne (by subst e; exact List.length_eq_zero_iff.1 hl)) (by omega) hm he (fun y hy => ?_) (fun i j d' hd' => (key i j d' hd').choose_spec.2.1) (fun i j d' hd' => ?_) hown (fun i j d' hd' => (key i j d' hd').choose_spec.2.2)
      · obtain ⟨i, hi⟩ := List.getElem?_of_mem hy
        obtain ⟨x, hx⟩ := get_len hl hi
        rw [← (h i x y hx hi).cells]; exact hlen x (List.mem_of_getElem? hx)
      · obtain ⟨d, hd, -⟩ := key i j d' hd'
        exact hcell i j d hd

/-- What a function gives, nil read as the empty list. -/
theorem VCall.wk {f : FuncId} {ds : List D} {K K' : D → Prop} (hc : VCall P f ds K) (hk : ∀ r, K r → ∃ r', Wk r r' ∧ r'.vdt = true ∧ K' r') : VCall P f ds K' := by
  intro c w vals hh hp hr hs hv
  refine (hc c w vals hh hp hr hs hv).mono ?_
  rintro e w' ⟨v, r, r1, r2, r3, r4, r5, r6⟩
  obtain ⟨r', h1, h2, h3⟩ := hk r r6
  exact ⟨v, r', r1, r2, r3, wk_rel h1 v r4, h2, h3⟩
/-- What a function takes, nil read as the empty list. -/
inductive Wks : List D → List D → Prop where
  | nil : Wks [] []
  | cons {x y : D} {xs ys : List D} (h : Wk x y) (k : Wks xs ys) : Wks (x :: xs) (y :: ys)
theorem Wks.get {xs ys : List D} (h : Wks xs ys) : xs.length = ys.length ∧ ∀ (i : Nat) (x y : D), xs[i]? = some x → ys[i]? = some y → Wk x y := by
  induction h with
  | nil => exact ⟨rfl, fun i x y h => by simp at h⟩
  | cons h k ih =>
    refine ⟨by simp [ih.1], fun i x y h1 h2 => ?_⟩
    cases i with
    | zero => simp at h1 h2; subst h1 h2; exact h
    | succ i => exact ih.2 i x y (by simpa using h1) (by simpa using h2)
theorem VCall.arg {f : FuncId} {ds ds' : List D} {K : D → Prop} (hw : Wks ds ds') (hc : VCall P f ds' K) : VCall P f ds K := by
  intro c w vals hh hp hr hs hv
  obtain ⟨hl, hw⟩ := hw.get
  refine hc c w vals hh hp hr (by omega) fun i d hd => ?_
  obtain ⟨x, hx⟩ := get_len hl hd
  exact wk_rel (hw i x d hx hd) _ (hv i x hx)
theorem ACall.arg {f : FuncId} {ds ds' : List D} {h : Heap} {K : D → Heap → Prop} (hw : Wks ds ds') (hc : ACall P f ds' h K) : ACall P f ds h K := by
  intro c w vals hh hp hr hs hv
  obtain ⟨hl, hw⟩ := hw.get
  refine hc c w vals hh hp hr (by omega) fun i d hd => ?_
  obtain ⟨x, hx⟩ := get_len hl hd
  exact wk_rel (hw i x d hx hd) _ (hv i x hx)
theorem Wk.mapSl {α : Type} {f g : α → D} (xs : List α) (h : ∀ x, x ∈ xs → Wk (f x) (g x)) : Wk (.sl (xs.map f)) (.sl (xs.map g)) := by
  refine .sl _ _ (by simp) fun i x y h1 h2 => ?_
  simp only [List.getElem?_map, Option.map_eq_some_iff] at h1 h2
  obtain ⟨a, ha, rfl⟩ := h1
  obtain ⟨b, hb, rfl⟩ := h2
  rw [ha] at hb; cases hb
  exact h a (List.mem_of_getElem? ha)
theorem Wk.aggs {xs ys : List D} (h : Wks xs ys) : Wk (.agg xs) (.agg ys) := .agg _ _ h.get.1 h.get.2
theorem Wks.rfl : ∀ {xs : List D}, Wks xs xs
  | [] => .nil
  | x :: r => .cons (.refl x) Wks.rfl
end Go.Am
/- The types of package api as plain data. No condition. -/
namespace Go.Am
open Go

variable [GTab]

structure Opd where
  kind : Int
  n : Int
  v : Int
deriving DecidableEq, Inhabited
structure Inst where
  op : Int
  sub : Int
  n : Int
  d : Opd
  a : Opd
  b : Opd
  c : Opd
deriving DecidableEq, Inhabited
structure Term where
  kind : Int
  sub : Int
  d : Opd
  a : Opd
  b : Opd
  to0 : Int
  to1 : Int
deriving DecidableEq, Inhabited
structure Block where
  i : List Inst
  t : Term
deriving DecidableEq, Inhabited
structure Arr where
  name : ByteArray
  space : Int
  type : Int
  len : Int
structure Loop where
  head : Int
  reg : Int
  bound : Int
deriving DecidableEq, Inhabited
structure Code where
  group : Int
  sub : Int
  regs : Int
  slots : Int
  params : Int
  arrays : List Arr
  loops : List Loop
  b : List Block

def noOpd : Opd := ⟨0, 0, 0⟩
def noTerm : Term := ⟨0, 0, noOpd, noOpd, noOpd, 0, 0⟩
def Reg (n : Int) : Opd := ⟨2, n, 0⟩
def Const (v : Int) : Opd := ⟨1, 0, v⟩

def Opd.cs (o : Opd) : List D := [.int .i64 o.kind, .int .i64 o.n, .int .i32 o.v]
def Opd.e (o : Opd) : D := .agg o.cs
def Inst.cs (x : Inst) : List D :=
  [.int .i64 x.op, .int .i64 x.sub, .int .i64 x.n, .int .i64 x.d.kind, .int .i64 x.d.n, .int .i32 x.d.v, .int .i64 x.a.kind, .int .i64 x.a.n, .int .i32 x.a.v,
   .int .i64 x.b.kind, .int .i64 x.b.n, .int .i32 x.b.v, .int .i64 x.c.kind, .int .i64 x.c.n, .int .i32 x.c.v]
def Inst.e (x : Inst) : D := .agg x.cs
def Term.cs (t : Term) : List D :=
  [.int .i64 t.kind, .int .i64 t.sub, .int .i64 t.d.kind, .int .i64 t.d.n, .int .i32 t.d.v, .int .i64 t.a.kind, .int .i64 t.a.n, .int .i32 t.a.v,
   .int .i64 t.b.kind, .int .i64 t.b.n, .int .i32 t.b.v, .int .i64 t.to0, .int .i64 t.to1]
def Term.e (t : Term) : D := .agg t.cs
def Block.e (x : Block) : D := .agg (.sl (x.i.map Inst.e) :: x.t.cs)
def Arr.e (x : Arr) : D := .agg [.str x.name, .int .i64 x.space, .int .i64 x.type, .int .i64 x.len]
def Loop.e (x : Loop) : D := .agg [.int .i64 x.head, .int .i64 x.reg, .int .i64 x.bound]
def Code.e (c : Code) : D :=
  .agg [.int .i64 c.group, .int .i64 c.sub, .int .i64 c.regs, .int .i64 c.slots, .int .i64 c.params, .sl (c.arrays.map Arr.e), .sl (c.loops.map Loop.e), .sl (c.b.map Block.e)]
def ints (l : List Int) : D := .sl (l.map (.int .i64))
def bools (l : List Bool) : D := .sl (l.map .bool)
def words (l : List Int) : D := .sl (l.map (.int .i32))

/-- Pure data, as an argument or a result. -/
structure Dat (d : D) : Prop where
  vd : d.vd = true
  one : AllOne d
theorem Dat.pair {d : D} (h : Dat d) : d.vd = true ∧ AllOne d := ⟨h.vd, h.one⟩
theorem dat_int {k : IntKind} {n : Int} : Dat (.int k n) := ⟨rfl, by simp⟩
theorem dat_bool {b : Bool} : Dat (.bool b) := ⟨rfl, by simp⟩
theorem dat_str {b : ByteArray} : Dat (.str b) := ⟨rfl, by simp⟩
theorem dat_sl {xs : List D} : Dat (.sl xs) := ⟨rfl, by simp⟩
theorem dat_nil : Dat .nil := ⟨rfl, by simp⟩
theorem dat_agg {cs : List D} (h : ∀ x, x ∈ cs → x.vone = true) : Dat (.agg cs) := ⟨by simpa [D.vd] using h, fun x hx => D.vone_one (h x hx)⟩
theorem Opd.dat (o : Opd) : Dat o.e := dat_agg (by simp [Opd.cs])
theorem Inst.dat (o : Inst) : Dat o.e := dat_agg (by simp [Inst.cs])
theorem Term.dat (o : Term) : Dat o.e := dat_agg (by simp [Term.cs])
theorem Block.dat (o : Block) : Dat o.e := dat_agg (by simp [Term.cs])
theorem Arr.dat (o : Arr) : Dat o.e := dat_agg (by simp)
theorem Loop.dat (o : Loop) : Dat o.e := dat_agg (by simp)
theorem Code.dat (o : Code) : Dat o.e := dat_agg (by simp)
theorem ints_dat {l : List Int} : Dat (ints l) := dat_sl
theorem bools_dat {l : List Bool} : Dat (bools l) := dat_sl
theorem words_dat {l : List Int} : Dat (words l) := dat_sl

/-- Arguments that are pure data. -/
def Dats : List D → Prop
  | [] => True
  | d :: r => Dat d ∧ Dats r
theorem Dats.all : ∀ {ds : List D}, Dats ds → ∀ d, d ∈ ds → d.vd = true ∧ AllOne d
  | [], _, d, h => by cases h
  | x :: r, hd, d, h => by
    rcases List.mem_cons.1 h with rfl | h
    · exact hd.1.pair
    · exact Dats.all hd.2 d h
theorem t_call {P : Program} {f : FuncId} {ds : List D} {h : Heap} {KH : D → Heap → Prop} {R : D → Prop} (hv : VCall P f ds R) (hds : Dats ds) (hk : ∀ r, R r → KH r h) : ACall P f ds h KH := a_call hv hds.all hk
theorem t_call1 {P : Program} {f : FuncId} {ds : List D} {h : Heap} {KH : D → Heap → Prop} {r : D} (hv : VCall P f ds (· = r)) (hds : Dats ds) (hk : KH r h) : ACall P f ds h KH := a_call hv hds.all (by rintro _ rfl; exact hk)
theorem td_call {P : Program} {f : FuncId} {as : List Arg} {h : Heap} {K : D → Prop} {r : D} (hv : VCall P f (as.map (·.get [])) (· = r)) (hds : Dats (as.map (·.get []))) (hk : K r) : vdOp P (.call f as) h K := d_call hv hds.all hk
theorem vret_dat {d : D} {h : Heap} {K : D → Prop} (hd : Dat d) (hk : K d) : vret K d h := vret_vd hd.pair hk
end Go.Am
/- Rules for small structs in variables. No condition. -/
namespace Go.Am
open Go

variable [GTab]
variable {P : Program} {KH : D → Heap → Prop} {K : D → Prop} {h : Heap}

theorem gtt {A : (D → Heap → Prop) → Prop} : vguard (.bool true) true A h KH = A KH := by rw [v_guard]; simp
theorem gff {A : (D → Heap → Prop) → Prop} : vguard (.bool false) false A h KH = A KH := by rw [v_guard]; simp
theorem gtf {A : (D → Heap → Prop) → Prop} : vguard (.bool true) false A h KH = KH gU h := by rw [v_guard]; simp
theorem gft {A : (D → Heap → Prop) → Prop} : vguard (.bool false) true A h KH = KH gU h := by rw [v_guard]; simp
theorem g1tt {A : (D → Prop) → Prop} : vguard1 (.bool true) true A K = A K := by rw [v_guard1]; simp
theorem g1ff {A : (D → Prop) → Prop} : vguard1 (.bool false) false A K = A K := by rw [v_guard1]; simp
theorem g1tf {A : (D → Prop) → Prop} : vguard1 (.bool true) false A K = K gU := by rw [v_guard1]; simp
theorem g1ft {A : (D → Prop) → Prop} : vguard1 (.bool false) true A K = K gU := by rw [v_guard1]; simp
theorem pickt {x y : D} : vhOp P (.pick (.c (.bool true)) (.c x) (.c y)) h KH = KH x h := rfl
theorem pickf {x y : D} : vhOp P (.pick (.c (.bool false)) (.c x) (.c y)) h KH = KH y h := rfl
theorem nott {KK : D → Prop} : vun .not (.bool true) KK = KK (.bool false) := rfl
theorem notf {KK : D → Prop} : vun .not (.bool false) KK = KK (.bool true) := rfl

def spn (a b c : Int) : D := .agg [.int .i64 a, .int .i64 b, .int .i64 c]
/-- Addresses of parts of a variable. -/
theorem fab {n o : Nat} {d : D} (a : h n = .box d) : vhOp P (.fadd (.c (.ptr n 0 0)) o) h KH = KH (.ptr n 0 o) h := by
  rw [g_fadd, a]; simp
theorem dfab {n o : Nat} {d : D} (a : h n = .box d) : vdOp P (.fadd (.c (.ptr n 0 0)) o) h K = K (.ptr n 0 o) := by
  rw [d_faddp, a]; simp
theorem ldb {n j s : Nat} {cs : List D} {d : D} (a : h n = .box (.agg cs)) (hj : cs[j]? = some d) : vhOp P (.ld (.c (.ptr n 0 j)) s false) h KH = KH d h := by
  rw [g_ld, a]; simp [v_part1, hj]
theorem dldb {n j s : Nat} {cs : List D} {d : D} (a : h n = .box (.agg cs)) (hj : cs[j]? = some d) : vdOp P (.ld (.c (.ptr n 0 j)) s false) h K = K d := by
  rw [d_ld, ldb a hj]
theorem lda {n : Nat} {cs : List D} (a : h n = .box (.agg cs)) : vhOp P (.ld (.c (.ptr n 0 0)) cs.length true) h KH = KH (.agg cs) h := by
  rw [g_ld, a]; simp [v_parta]
theorem ldp {n j s : Nat} {cs : List D} (a : h n = .box (.agg cs)) (hj : j + s ≤ cs.length) : vhOp P (.ld (.c (.ptr n 0 j)) s true) h KH = KH (.agg ((cs.drop j).take s)) h := by
  rw [g_ld, a]; simp [v_parta, hj]
theorem st3 {n : Nat} {x y z p q r : D} (a : h n = .box (.agg [x, y, z])) (h1 : p.one = true) (h2 : q.one = true) (h3 : r.one = true) :
    vhOp P (.st (.c (.ptr n 0 0)) (.c (.agg [p, q, r])) 3) h KH = KH .undef (upd h n (.box (.agg [p, q, r]))) := by
  rw [g_st, a]
  apply propext
  constructor
  · exact fun hh => by simpa using hh.2.2
  · intro hk
    refine ⟨rfl, fun w hw => ?_, rfl, by simp, by simpa using hk⟩
    simp at hw; rcases hw with rfl | rfl | rfl <;> assumption
theorem st3i {n : Nat} {x y z : D} {k1 k2 k3 : IntKind} {p q r : Int} (a : h n = .box (.agg [x, y, z])) :
    vhOp P (.st (.c (.ptr n 0 0)) (.c (.agg [.int k1 p, .int k2 q, .int k3 r])) 3) h KH = KH .undef (upd h n (.box (.agg [.int k1 p, .int k2 q, .int k3 r]))) := st3 a rfl rfl rfl
theorem ld3u {n : Nat} {x y z : D} : vhOp P (.ld (.c (.ptr n 0 0)) 3 true) (upd h n (.box (.agg [x, y, z]))) KH = KH (.agg [x, y, z]) (upd h n (.box (.agg [x, y, z]))) := lda (upd_self _ _ _)
theorem ld3 {n : Nat} {x y z : D} (a : h n = .box (.agg [x, y, z])) : vhOp P (.ld (.c (.ptr n 0 0)) 3 true) h KH = KH (.agg [x, y, z]) h := lda a
theorem bld2 {x y : D} {p q : Int} : vhOp P (.bld [x, y] [(0, 1, (.c (.int .i64 p))), (1, 1, (.c (.int .i64 q)))]) h KH = KH (.agg [.int .i64 p, .int .i64 q]) h := by
  rw [h_bld]
  simp [fillOkV, fillD]
theorem bld32 {x y z : D} {p q : Int} : vhOp P (.bld [x, y, z] [(0, 1, (.c (.int .i64 p))), (1, 1, (.c (.int .i64 q)))]) h KH = KH (.agg [.int .i64 p, .int .i64 q, z]) h := by
  rw [h_bld]
  simp [fillOkV, fillD]
theorem bld3 {x y z : D} {p q r : Int} : vhOp P (.bld [x, y, z] [(0, 1, (.c (.int .i64 p))), (1, 1, (.c (.int .i64 q))), (2, 1, (.c (.int .i64 r)))]) h KH = KH (.agg [.int .i64 p, .int .i64 q, .int .i64 r]) h := by
  rw [h_bld]
  simp [fillOkV, fillD]
theorem bldz {z : List D} : vhOp P (.bld z []) h KH = KH (.agg z) h := by
  rw [h_bld]
  simp [fillOkV, fillD]
theorem ext0 {x : D} {r : List D} : vhOp P (.ext (.c (.tup (x :: r))) 0) h KH = KH x h := rfl
theorem ext1 {x y : D} {r : List D} : vhOp P (.ext (.c (.tup (x :: y :: r))) 1) h KH = KH y h := rfl
theorem ext2 {x y z : D} {r : List D} : vhOp P (.ext (.c (.tup (x :: y :: z :: r))) 2) h KH = KH z h := rfl
theorem dext0 {x : D} {r : List D} : vdOp P (.ext (.c (.tup (x :: r))) 0) h K = K x := rfl
theorem dext1 {x y : D} {r : List D} : vdOp P (.ext (.c (.tup (x :: y :: r))) 1) h K = K y := rfl

/-- A tuple of pure data, as a result. -/
theorem vret_tup {ds : List D} {h : Heap} {K : D → Prop} (hd : ∀ d, d ∈ ds → d.vd = true ∧ AllOne d) (hk : K (.tup ds)) : vret K (.tup ds) h := by
  have one : ∀ d, d ∈ ds → d.fz h = d ∧ FzOk h d := by
    intro d hdm
    obtain ⟨h1, h2⟩ := hd d hdm
    obtain ⟨a1, a2, a3⟩ := vd_fz (h := h) h1
    exact ⟨a1, a3⟩
  have e : (D.tup ds).fzt h = .tup ds := by
    simp only [D.fzt]
    rw [List.map_congr_left (fun d hdm => (one d hdm).1)]
    simp
  refine ⟨fun d hdm => (hd d hdm).2, fun d hdm => (one d hdm).2, ?_, by rw [e]; exact hk⟩
  rw [e]
  simp only [D.vdt, List.all_eq_true]
  exact fun d hdm => (hd d hdm).1
theorem spn_dat {a b c : Int} : Dat (spn a b c) := dat_agg (by simp)
theorem vret_sp {a b c n : Int} {k : IntKind} {R : D → Prop} : R (.tup [spn a b c, .int k n]) → vret R (.tup [.agg [.int .i64 a, .int .i64 b, .int .i64 c], .int k n]) h :=
  vret_tup (fun d hd => by simp at hd; rcases hd with rfl | rfl; exact (spn_dat (a := a) (b := b) (c := c)).pair; exact dat_int.pair)
theorem vret_spb {a b c : Int} {b' : Bool} {R : D → Prop} : R (.tup [spn a b c, .bool b']) → vret R (.tup [.agg [.int .i64 a, .int .i64 b, .int .i64 c], .bool b']) h :=
  vret_tup (fun d hd => by simp at hd; rcases hd with rfl | rfl; exact (spn_dat (a := a) (b := b) (c := c)).pair; exact dat_bool.pair)
-- Comparisons and arithmetic whose outcome is known.
section
variable {k : IntKind} {a b : Int}
theorem leT (h0 : a ≤ b) : vbin .leq (.int k a) (.int k b) K = K (.bool true) := by rw [v_leq]; simp [h0]
theorem leF (h0 : b < a) : vbin .leq (.int k a) (.int k b) K = K (.bool false) := by rw [v_leq]; simp [show ¬ a ≤ b by omega]
theorem ltT (h0 : a < b) : vbin .lss (.int k a) (.int k b) K = K (.bool true) := by rw [v_lss]; simp [h0]
theorem ltF (h0 : b ≤ a) : vbin .lss (.int k a) (.int k b) K = K (.bool false) := by rw [v_lss]; simp [show ¬ a < b by omega]
theorem gtT (h0 : b < a) : vbin .gtr (.int k a) (.int k b) K = K (.bool true) := by rw [v_gtr]; simp [h0]
theorem gtF (h0 : a ≤ b) : vbin .gtr (.int k a) (.int k b) K = K (.bool false) := by rw [v_gtr]; simp [show ¬ b < a by omega]
theorem geT (h0 : b ≤ a) : vbin .geq (.int k a) (.int k b) K = K (.bool true) := by rw [v_geq]; simp [h0]
theorem geF (h0 : a < b) : vbin .geq (.int k a) (.int k b) K = K (.bool false) := by rw [v_geq]; simp [show ¬ b ≤ a by omega]
theorem eqT (h0 : a = b) : vbin .eql (.int k a) (.int k b) K = K (.bool true) := by rw [v_eql]; simp [h0]
theorem eqF (h0 : a ≠ b) : vbin .eql (.int k a) (.int k b) K = K (.bool false) := by rw [v_eql]; simp [h0]
theorem neT (h0 : a ≠ b) : vbin .neq (.int k a) (.int k b) K = K (.bool true) := by rw [v_neq]; simp [h0]
theorem neF (h0 : a = b) : vbin .neq (.int k a) (.int k b) K = K (.bool false) := by rw [v_neq]; simp [h0]
theorem addW (h1 : -9223372036854775808 ≤ a + b) (h2 : a + b ≤ 9223372036854775807) : vbin .add (.int .i64 a) (.int .i64 b) K = K (.int .i64 (a + b)) := by rw [v_add, wrap64 h1 h2]
theorem subW (h1 : -9223372036854775808 ≤ a - b) (h2 : a - b ≤ 9223372036854775807) : vbin .sub (.int .i64 a) (.int .i64 b) K = K (.int .i64 (a - b)) := by rw [v_sub, wrap64 h1 h2]
theorem mulW (h1 : -9223372036854775808 ≤ a * b) (h2 : a * b ≤ 9223372036854775807) : vbin .mul (.int .i64 a) (.int .i64 b) K = K (.int .i64 (a * b)) := by rw [v_mul, wrap64 h1 h2]
theorem remW (h1 : b ≠ 0) : vbin .rem (.int k a) (.int k b) K = K (.int k (a.tmod b)) := by rw [v_rem]; simp [h1]
theorem negW (h1 : -9223372036854775808 ≤ 0 - a) (h2 : 0 - a ≤ 9223372036854775807) : vun .neg (.int .i64 a) K = K (.int .i64 (0 - a)) := by rw [v_neg, wrap64 h1 h2]
end
def gS := And.intro @gtt <| And.intro @gff <| And.intro @gtf <| And.intro @gft <| And.intro @v_guardU <| And.intro @g1tt <| And.intro @g1ff <| And.intro @g1tf <| And.intro @g1ft <| And.intro @v_guard1U <| And.intro @pickt <| And.intro @pickf <| And.intro @nott <| And.intro @notf <| And.intro @v_cond_t <| And.intro @v_cond_f <| And.intro @ext0 <| And.intro @ext1 <| And.intro @ext2 <| And.intro @bld2 <| And.intro @bld3 <| And.intro @bld32 <| And.intro @bldz <| And.intro @dext0 @dext1
def cS := And.intro @leT <| And.intro @leF <| And.intro @ltT <| And.intro @ltF <| And.intro @gtT <| And.intro @gtF <| And.intro @geT <| And.intro @geF <| And.intro @eqT <| And.intro @eqF <| And.intro @neT <| And.intro @neF <| And.intro @addW <| And.intro @subW <| And.intro @mulW <| And.intro @remW @negW
end Go.Am
/- A seat whose program reads no tables of the library. No condition. -/
namespace Go.Am
open Go
instance gtab0 : GTab := ⟨fun _ => none⟩
end Go.Am
