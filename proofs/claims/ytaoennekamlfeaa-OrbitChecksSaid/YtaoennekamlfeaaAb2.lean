/- The small memory, part 2: operations that look into memory, take values apart and build them. -/
import Derived.Test.YtaoennekamlfeaaAb
import Derived.Laws.Cells
set_option linter.unusedSimpArgs false
set_option linter.unusedVariables false
namespace Go
open Go.RowKit
namespace Ab

def szOf (P : Program) (t : TypeId) : Option Nat := (P.info? t).map (·.size)
def aggOf (P : Program) (t : TypeId) : Option Bool := (P.underlying t).map fun d => match d with | .struct _ | .array _ _ => true | _ => false
def fieldOf (P : Program) (s : TypeId) (i : Nat) : Option (Nat × Nat × Bool) :=
  match P.underlying s with
  | some (.struct fs) => match fs[i]? with
    | some f => match szOf P f.type, aggOf P f.type with
      | some n, some b => some (f.offset, n, b)
      | _, _ => none
    | none => none
  | _ => none
/-- A slice's or an array's element: how many there are (0 at a slice), its cells, whether it has parts. -/
def elemOf' (P : Program) (s : TypeId) : Option (Option Nat × Nat × Bool) :=
  match P.underlying s with
  | some (.slice e) => match szOf P e, aggOf P e with
      | some n, some b => some (none, n, b)
      | _, _ => none
  | some (.array k e) => match szOf P e, aggOf P e with
      | some n, some b => some (some k, n, b)
      | _, _ => none
  | _ => none

section runs
variable {P : Program} {w : World}
theorem run_und {t : TypeId} {d : TypeDesc} (h : P.underlying t = some d) : (underlying t).run P w = .ok d w := by
  simp [underlying, program, Sem.run_bind, Sem.run, h, Result.andThen_ok]
theorem run_size {t : TypeId} {n : Nat} (h : szOf P t = some n) : (sizeOf t).run P w = .ok n w := by
  unfold szOf at h
  cases hi : P.info? t with
  | none => rw [hi] at h; cases h
  | some i =>
    rw [hi] at h
    simp only [Option.map_some, Option.some.injEq] at h
    simp [sizeOf, typeInfo, hi, h, go_sem]
theorem run_agg {t : TypeId} {b : Bool} (h : aggOf P t = some b) : (isAgg t).run P w = .ok b w := by
  unfold aggOf at h
  cases hi : P.underlying t with
  | none => rw [hi] at h; cases h
  | some d =>
    rw [hi] at h
    simp only [Option.map_some, Option.some.injEq] at h
    unfold isAgg
    rw [Sem.run_bind, run_und hi]
    subst h
    cases d <;> rfl
theorem fieldOf_spec {s i off n : Nat} {b : Bool} (h : fieldOf P s i = some (off, n, b)) : ∃ fs f, P.underlying s = some (.struct fs) ∧ fs[i]? = some f ∧ f.offset = off ∧ szOf P f.type = some n ∧ aggOf P f.type = some b := by
  unfold fieldOf at h
  split at h
  · rename_i fs hu
    split at h
    · rename_i f hf
      split at h
      · rename_i n' b' h1 h2
        simp only [Option.some.injEq, Prod.mk.injEq] at h
        obtain ⟨e1, e2, e3⟩ := h
        exact ⟨fs, f, hu, hf, e1, e2 ▸ h1, e3 ▸ h2⟩
      · cases h
    · cases h
  · cases h
theorem elemOf_slice {s n : Nat} {b : Bool} (h : elemOf' P s = some (none, n, b)) : ∃ e, P.underlying s = some (.slice e) ∧ szOf P e = some n ∧ aggOf P e = some b := by
  unfold elemOf' at h
  split at h
  · rename_i e hu
    split at h
    · rename_i n' b' h1 h2
      simp only [Option.some.injEq, Prod.mk.injEq] at h
      obtain ⟨-, e2, e3⟩ := h
      exact ⟨e, hu, e2 ▸ h1, e3 ▸ h2⟩
    · cases h
  · rename_i e hu
    split at h
    · simp at h
    · cases h
  · cases h
theorem elemOf_array {s n k : Nat} {b : Bool} (h : elemOf' P s = some (some k, n, b)) : ∃ e, P.underlying s = some (.array k e) ∧ szOf P e = some n ∧ aggOf P e = some b := by
  unfold elemOf' at h
  split at h
  · rename_i e hu
    split at h
    · simp at h
    · cases h
  · rename_i k' e hu
    split at h
    · rename_i n' b' h1 h2
      simp only [Option.some.injEq, Prod.mk.injEq] at h
      obtain ⟨e1, e2, e3⟩ := h
      exact ⟨e, e1 ▸ hu, e2 ▸ h1, e3 ▸ h2⟩
    · cases h
  · cases h
end runs

section inv
variable {ρ : Ren} {v : Value}
theorem VRel.ptr_inv {b o : Nat} (h : VRel ρ (.pointer (some ⟨b, o, none⟩)) v) : ∃ pl, ρ b = some pl ∧ v = .pointer (some ⟨pl.blk, o + pl.sh, none⟩) := by
  cases h with
  | scal h => simp [Ab.scal] at h
  | ptr h => exact ⟨_, h, rfl⟩
theorem VRel.slice_inv {b o n c : Nat} (h : VRel ρ (.slice (some ⟨b, o, none⟩) n c) v) :
    (∃ pl c', ρ b = some pl ∧ n ≤ c' ∧ (c < 9223372036854775808 → c' ≤ c) ∧ (pl.esz ≠ 0 → o + pl.sh + c' * pl.esz ≤ pl.tot) ∧ v = .slice (some ⟨pl.blk, o + pl.sh, none⟩) n c') ∨ (n = 0 ∧ ∃ a', v = .slice (some a') 0 0) := by
  cases h with
  | scal h => simp [Ab.scal] at h
  | slice h h1 h2 h3 => exact .inl ⟨_, _, h, h1, h2, h3, rfl⟩
  | empty => exact .inr ⟨rfl, _, rfl⟩
theorem VRel.nil_inv (h : VRel ρ (.slice none 0 0) v) : v = .slice none 0 0 := h.of_scal rfl
theorem VRel.agg_inv {xs : Array Value} (h : VRel ρ (.agg xs) v) : ∃ xs', v = .agg xs' ∧ xs.size = xs'.size ∧ ∀ (i : Nat) (u : Value), xs[i]? = some u → ∃ u', xs'[i]? = some u' ∧ VRel ρ u u' := by
  cases h with
  | scal h => simp [Ab.scal] at h
  | agg h1 h3 =>
    refine ⟨_, rfl, h1, fun i u hu => ?_⟩
    obtain ⟨hi, he⟩ := Array.getElem?_eq_some_iff.1 hu
    have hi' := hi
    rw [h1] at hi'
    exact ⟨_, by simp [hi'], he ▸ h3 i hi hi'⟩
theorem VRel.tuple_inv {xs : Array Value} (h : VRel ρ (.tuple xs) v) : ∃ xs', v = .tuple xs' ∧ xs.size = xs'.size ∧ ∀ (i : Nat) (u : Value), xs[i]? = some u → ∃ u', xs'[i]? = some u' ∧ VRel ρ u u' := by
  cases h with
  | scal h => simp [Ab.scal] at h
  | tuple h1 h3 =>
    refine ⟨_, rfl, h1, fun i u hu => ?_⟩
    obtain ⟨hi, he⟩ := Array.getElem?_eq_some_iff.1 hu
    have hi' := hi
    rw [h1] at hi'
    exact ⟨_, by simp [hi'], he ▸ h3 i hi hi'⟩
theorem VRel.func_inv {fn : Fn} {xs ys : Array Value} (h : VRel ρ (.func fn xs ys) v) : ∃ xs' ys', v = .func fn xs' ys' ∧ VRel ρ (.tuple xs) (.tuple xs') ∧ VRel ρ (.tuple ys) (.tuple ys') := by
  cases h with
  | scal h => simp [Ab.scal] at h
  | func h1 h2 h3 h4 => exact ⟨_, _, rfl, .tuple h1 h3, .tuple h2 h4⟩
theorem VRel.agg_mk {xs xs' : Array Value} (h1 : xs.size = xs'.size) (h : ∀ (i : Nat) (u : Value), xs[i]? = some u → ∃ u', xs'[i]? = some u' ∧ VRel ρ u u') : VRel ρ (.agg xs) (.agg xs') :=
  .agg h1 fun i hi hi' => by
    obtain ⟨u', e, r⟩ := h i xs[i] (by simp [hi])
    obtain ⟨_, e'⟩ := Array.getElem?_eq_some_iff.1 e
    exact e' ▸ r
theorem VRel.agg_part {xs xs' : Array Value} (h : VRel ρ (.agg xs) (.agg xs')) (o n : Nat) : VRel ρ (.agg (xs.extract o (o + n))) (.agg (xs'.extract o (o + n))) := by
  obtain ⟨ys, e, h1, h2⟩ := h.agg_inv
  cases e
  refine .agg_mk (by simp [h1]) fun i u hu => ?_
  rw [Array.getElem?_extract] at hu ⊢
  split at hu
  · rename_i hi
    rw [if_pos (by omega)]
    exact h2 _ _ hu
  · cases hu
end inv

def Mem.ld (m : Mem) (b o n : Nat) : Option (List Value) :=
  match m.at b with
  | some blk => if o + n ≤ blk.cells.length then some ((blk.cells.drop o).take n) else none
  | none => none

theorem MRel.cell {ρ : Ren} {m : Mem} {w w' : World} (h : MRel ρ m w) (hs : Same ρ m w w') {b : Nat} {blk : Blk} {pl : Pl} (hb : m.at b = some blk) (hp : ρ b = some pl) {i : Nat} {v : Value} (hv : blk.cells[i]? = some v) :
    ∃ v', (w'.cell? ⟨pl.blk, i + pl.sh, none⟩ = some v' ∧ w.cell? ⟨pl.blk, i + pl.sh, none⟩ = some v') ∧ VRel ρ v v' := by
  obtain ⟨pl', hp', ⟨c, ty, fr, hc, _, hcell, _⟩, _⟩ := h b blk hb
  cases Option.some.inj (hp'.symm.trans hp)
  obtain ⟨v', h1, h2⟩ := hcell i v hv
  have := hs b blk pl hb hp
  exact ⟨v', ⟨by simp [World.cell?, this, hc, h1], by simp [World.cell?, hc, h1]⟩, h2⟩

/-- Cells in a row. -/
theorem MRel.cells {P : Program} {ρ : Ren} {m : Mem} {w : World} (h : MRel ρ m w) {b o n : Nat} {pl : Pl} {vs : List Value} (hl : m.ld b o n = some vs) (hp : ρ b = some pl) :
    vs.length = n ∧ ∃ vs' : List Value, vs'.length = n ∧ (∀ (i : Nat) (u : Value), vs[i]? = some u → ∃ u', vs'[i]? = some u' ∧ VRel ρ u u') ∧ ∀ w', Same ρ m w w' → (loadCells ⟨pl.blk, o + pl.sh, none⟩ n).run P w' = .ok vs'.toArray w' := by
  unfold Mem.ld at hl
  cases hb : m.at b with
  | none => rw [hb] at hl; cases hl
  | some blk =>
    rw [hb] at hl
    simp only at hl
    split at hl
    · rename_i hle
      obtain rfl := Option.some.inj hl
      have hlen : ((blk.cells.drop o).take n).length = n := by simp; omega
      have hget : ∀ i, i < n → ∃ v, blk.cells[o + i]? = some v := fun i hi => ⟨_, List.getElem?_eq_getElem (by omega)⟩
      have hx : ∀ i, i < n → ∃ v', w.cell? ⟨pl.blk, (o + i) + pl.sh, none⟩ = some v' := fun i hi => by
        obtain ⟨v, hv⟩ := hget i hi
        obtain ⟨v', ⟨_, h1⟩, _⟩ := h.cell (Same.refl ρ m w) hb hp hv
        exact ⟨v', h1⟩
      refine ⟨hlen, (List.range n).map fun i => (w.cell? ⟨pl.blk, (o + i) + pl.sh, none⟩).getD undef, by simp, fun i u hu => ?_, fun w' hs => ?_⟩
      · have hi : i < n := by
          rcases Nat.lt_or_ge i n with h' | h'
          · exact h'
          · rw [List.getElem?_eq_none (by omega)] at hu; cases hu
        have hu' : blk.cells[o + i]? = some u := by
          rw [List.getElem?_take_of_lt hi, List.getElem?_drop] at hu
          exact hu
        obtain ⟨v', ⟨_, h1⟩, h2⟩ := h.cell (Same.refl ρ m w) hb hp hu'
        exact ⟨v', by simp [hi, h1], h2⟩
      · have key := run_loadCells_list (P := P) (w := w') ⟨pl.blk, o + pl.sh, none⟩ ((List.range n).map fun i => (w.cell? ⟨pl.blk, (o + i) + pl.sh, none⟩).getD undef) (fun j v hj => by
          have hi : j < n := by
            rcases Nat.lt_or_ge j n with h' | h'
            · exact h'
            · rw [List.getElem?_eq_none (by simp; omega)] at hj; cases hj
          simp only [List.getElem?_map, List.getElem?_range hi, Option.map_some, Option.some.injEq] at hj
          subst hj
          obtain ⟨v, hv⟩ := hget j hi
          obtain ⟨v', ⟨h1, h0⟩, _⟩ := h.cell hs hb hp hv
          have e : (⟨pl.blk, o + pl.sh, none⟩ : Addr).add j = ⟨pl.blk, o + j + pl.sh, none⟩ := by
            unfold Addr.add
            split
            · rename_i hj0; subst hj0; simp
            · simp; omega
          rw [e, h1, h0]; rfl)
        simpa using key
    · cases hl

section ops
variable {P : Program} {t : T} {m : Mem} {dst : Option Tmp} {ty ty' rt : TypeId} {pos : String} {after : Array Edge} {guard : Option (Nat × Bool)} {x y z : Operand} {k : IntKind} {a : Int} {b o n : Nat}

theorem OQ.load1 {v : Value} (hx : t.ev x = .pointer (some ⟨b, o, none⟩)) (ha : aggOf P ty = some false) (hl : (m.at b).bind (·.cells[o]?) = some v) : OQ P ⟨dst, .load ty x, rt, pos, after, guard⟩ t m v := by
  intro ρ a w ht hm
  obtain ⟨pl, hp, he⟩ := (hx ▸ ht.ev x).ptr_inv
  cases hb : m.at b with
  | none => rw [hb] at hl; cases hl
  | some blk =>
    rw [hb] at hl
    obtain ⟨v', ⟨_, h1⟩, h2⟩ := hm.cell (Same.refl ρ m w) hb hp (show blk.cells[o]? = some v from hl)
    refine ⟨v', h2, fun w' hs => ?_⟩
    obtain ⟨v'', ⟨h1', h1''⟩, _⟩ := hm.cell hs hb hp (show blk.cells[o]? = some v from hl)
    rw [h1] at h1''
    cases Option.some.inj h1''
    simp only [execOp, Instr.loadAt, he, Instr.sureAddr, loadVar, Sem.run_bind, Sem.run_pure, Result.andThen_ok, run_agg ha]
    simp [Sem.run, h1', load, go_sem]

theorem OQ.loadN {vs : List Value} (hx : t.ev x = .pointer (some ⟨b, o, none⟩)) (ha : aggOf P ty = some true) (hz : szOf P ty = some n) (hl : m.ld b o n = some vs) : OQ P ⟨dst, .load ty x, rt, pos, after, guard⟩ t m (.agg vs.toArray) := by
  intro ρ a w ht hm
  obtain ⟨pl, hp, he⟩ := (hx ▸ ht.ev x).ptr_inv
  obtain ⟨h1, vs', h2, h3, h4⟩ := hm.cells (P := P) hl hp
  refine ⟨.agg vs'.toArray, .agg_mk (by simp [h1, h2]) (fun i u hu => by simpa using h3 i u (by simpa using hu)), fun w' hs => ?_⟩
  simp only [execOp, Instr.loadAt, he, Instr.sureAddr, loadVar, Sem.run_bind, Sem.run_pure, Result.andThen_ok, run_agg ha, run_size hz]
  have h5 := h4 w' hs
  unfold loadCells at h5
  simp [h5, go_sem, run_size hz]

theorem OQ.fieldA {i off : Nat} {g : Bool} (hx : t.ev x = .pointer (some ⟨b, o, none⟩)) (hf : fieldOf P ty i = some (off, n, g)) (hn : n ≠ 0) : OQ P ⟨dst, .fieldAddr ty x i, rt, pos, after, guard⟩ t m (.pointer (some ⟨b, o + off, none⟩)) := by
  intro ρ a w ht hm
  obtain ⟨pl, hp, he⟩ := (hx ▸ ht.ev x).ptr_inv
  obtain ⟨fs, f, h1, h2, h3, h4, _⟩ := fieldOf_spec hf
  refine ⟨_, .ptr hp, fun w' _ => ?_⟩
  simp only [execOp, Instr.fieldAt, he, Instr.sureAddr, fieldPlace, Sem.run_bind, Sem.run_pure, Result.andThen_ok, run_und h1, h2, run_size h4, if_neg hn]
  simp only [h3, Addr.add]
  by_cases h0 : off = 0
  · subst h0; simp [go_sem]
  · simp [h0, go_sem, Nat.add_right_comm]

theorem OQ.field1 {i off : Nat} {cs : Array Value} {v : Value} (hx : t.ev x = .agg cs) (hf : fieldOf P ty i = some (off, n, false)) (hv : cs[off]? = some v) : OQ P ⟨dst, .field ty x i, rt, pos, after, guard⟩ t m v := by
  intro ρ a w ht hm
  obtain ⟨cs', he, _, hc⟩ := (hx ▸ ht.ev x).agg_inv
  obtain ⟨fs, f, h1, h2, h3, h4, h5⟩ := fieldOf_spec hf
  obtain ⟨v', h6, h7⟩ := hc off v hv
  refine ⟨v', h7, fun w' _ => ?_⟩
  simp only [execOp, Instr.field, he, asAgg, part, Sem.run_bind, Sem.run_pure, Result.andThen_ok, run_und h1, h2, run_agg h5]
  simp [h3, h6, go_sem]

theorem OQ.fieldN {i off : Nat} {cs : Array Value} (hx : t.ev x = .agg cs) (hf : fieldOf P ty i = some (off, n, true)) : OQ P ⟨dst, .field ty x i, rt, pos, after, guard⟩ t m (.agg (cs.extract off (off + n))) := by
  intro ρ a w ht hm
  have hr := hx ▸ ht.ev x
  obtain ⟨cs', he, _, hc⟩ := hr.agg_inv
  obtain ⟨fs, f, h1, h2, h3, h4, h5⟩ := fieldOf_spec hf
  refine ⟨_, (he ▸ hr).agg_part off n, fun w' _ => ?_⟩
  simp only [execOp, Instr.field, he, asAgg, part, Sem.run_bind, Sem.run_pure, Result.andThen_ok, run_und h1, h2, run_agg h5, run_size h4]
  simp [h3, run_size h4, go_sem]

theorem OQ.idxArr1 {l : Nat} {cs : Array Value} {v : Value} (hx : t.ev x = .agg cs) (hy : t.ev y = .int k a) (hf : elemOf' P ty = some (some l, n, false)) (h0 : 0 ≤ a) (h1 : a < l) (hv : cs[a.toNat * n]? = some v) : OQ P ⟨dst, .index ty x y, rt, pos, after, guard⟩ t m v := by
  intro ρ a' w ht hm
  obtain ⟨cs', he, _, hc⟩ := (hx ▸ ht.ev x).agg_inv
  obtain ⟨e, e1, e2, e3⟩ := elemOf_array hf
  obtain ⟨v', h6, h7⟩ := hc _ v hv
  refine ⟨v', h7, fun w' _ => ?_⟩
  simp only [execOp, Instr.index, he, evi ht hy, asIntOf, part, Sem.run_bind, Sem.run_pure, Result.andThen_ok, run_und e1]
  simp [h0, h1, h6, go_sem, run_size e2, run_agg e3]

theorem OQ.idxArrN {l : Nat} {cs : Array Value} (hx : t.ev x = .agg cs) (hy : t.ev y = .int k a) (hf : elemOf' P ty = some (some l, n, true)) (h0 : 0 ≤ a) (h1 : a < l) : OQ P ⟨dst, .index ty x y, rt, pos, after, guard⟩ t m (.agg (cs.extract (a.toNat * n) (a.toNat * n + n))) := by
  intro ρ a' w ht hm
  have hr := hx ▸ ht.ev x
  obtain ⟨cs', he, _, hc⟩ := hr.agg_inv
  obtain ⟨e, e1, e2, e3⟩ := elemOf_array hf
  refine ⟨_, (he ▸ hr).agg_part _ n, fun w' _ => ?_⟩
  simp only [execOp, Instr.index, he, evi ht hy, asIntOf, part, Sem.run_bind, Sem.run_pure, Result.andThen_ok, run_und e1]
  simp [h0, h1, go_sem, run_size e2, run_agg e3]

theorem OQ.idxStr {s : ByteArray} {c : UInt8} (hx : t.ev x = .string s) (hy : t.ev y = .int k a) (hu : P.underlying ty = some .string) (h0 : 0 ≤ a) (hc : s.data[a.toNat]? = some c) : OQ P ⟨dst, .index ty x y, rt, pos, after, guard⟩ t m (.int .u8 c.toNat) := by
  intro ρ a' w ht hm
  refine ⟨_, .scal rfl, fun w' _ => ?_⟩
  have hc' : s[a.toNat]? = some c := by
    obtain ⟨h1, h2⟩ := Array.getElem?_eq_some_iff.1 hc
    rw [getElem?_pos s a.toNat h1]
    exact congrArg some h2
  simp only [execOp, Instr.index, evs ht hx, evi ht hy, asIntOf, Sem.run_bind, Sem.run_pure, Result.andThen_ok, run_und hu]
  simp [h0, hc', go_sem]

theorem OQ.idxAddr {c : Nat} {g : Bool} (hx : t.ev x = .slice (some ⟨b, o, none⟩) n c) (hy : t.ev y = .int k a) {z : Nat} (hf : elemOf' P ty = some (none, z, g)) (h0 : 0 ≤ a) (h1 : a < n) : OQ P ⟨dst, .indexAddr ty x y, rt, pos, after, guard⟩ t m (.pointer (some ⟨b, o + a.toNat * z, none⟩)) := by
  intro ρ a' w ht hm
  obtain ⟨e, e1, e2, e3⟩ := elemOf_slice hf
  rcases (hx ▸ ht.ev x).slice_inv with ⟨pl, c', hp, _, _, _, he⟩ | ⟨hn, _⟩
  · refine ⟨_, .ptr hp, fun w' _ => ?_⟩
    simp only [execOp, Instr.indexAt, he, evi ht hy, asIntOf, Sem.run_bind, Sem.run_pure, Result.andThen_ok, run_und e1]
    simp only [h0, h1, and_self, if_true, go_sem, Sem.run_bind, Sem.run_pure, Result.andThen_ok, run_size e2, Addr.add]
    by_cases hz : a.toNat * z = 0
    · simp [hz, go_sem]
    · simp [hz, go_sem, Nat.add_right_comm]
  · omega

theorem OQ.idxPtr {l : Nat} {g : Bool} (hx : t.ev x = .pointer (some ⟨b, o, none⟩)) (hy : t.ev y = .int k a) (hf : elemOf' P ty = some (some l, n, g)) (h0 : 0 ≤ a) (h1 : a < l) : OQ P ⟨dst, .indexAddr ty x y, rt, pos, after, guard⟩ t m (.pointer (some ⟨b, o + a.toNat * n, none⟩)) := by
  intro ρ a' w ht hm
  obtain ⟨e, e1, e2, e3⟩ := elemOf_array hf
  obtain ⟨pl, hp, he⟩ := (hx ▸ ht.ev x).ptr_inv
  refine ⟨_, .ptr hp, fun w' _ => ?_⟩
  simp only [execOp, Instr.indexAt, he, evi ht hy, asIntOf, Instr.sureAddr, Sem.run_bind, Sem.run_pure, Result.andThen_ok, run_und e1]
  simp only [h0, h1, and_self, if_true, go_sem, Sem.run_bind, Sem.run_pure, Result.andThen_ok, run_size e2, Addr.add]
  by_cases hz : a.toNat * n = 0
  · simp [hz, go_sem]
  · simp [hz, go_sem, Nat.add_right_comm]

theorem OQ.extract {vs : Array Value} {i : Nat} {v : Value} (hx : t.ev x = .tuple vs) (hv : vs[i]? = some v) : OQ P ⟨dst, .extract x i, rt, pos, after, guard⟩ t m v := by
  intro ρ a w ht hm
  obtain ⟨vs', he, _, hc⟩ := (hx ▸ ht.ev x).tuple_inv
  obtain ⟨v', h6, h7⟩ := hc _ v hv
  exact ⟨v', h7, fun w' _ => by simp [execOp, Instr.extract, he, h6, Sem.run_bind, Sem.run_pure]⟩

theorem OQ.conv {k' : IntKind} {d : TypeDesc} (hx : t.ev x = .int k' a) (hs : P.underlying ty = some d) (hd : P.underlying ty' = some (.int k)) : OQ P ⟨dst, .convert ty ty' x, rt, pos, after, guard⟩ t m (.int k (k.wrap a)) :=
  fun ρ a' w ht _ => ⟨_, .scal rfl, fun _ _ => by simp [execOp, convert, evi ht hx, Conv.intToInt, Sem.run_bind, Sem.run_pure, run_und hs, run_und hd]⟩

/-- Any operation on values without addresses. -/
theorem OQ.closed {oo : Oper} {r : Value} (hs : ∀ cs b, oo.op ≠ .select cs b) (hops : ∀ x ∈ oo.op.operands, flat (t.ev x) = true) (he : ∀ w, (execOp t.ev oo).run P w = .ok (.value r) w) (hr : flat r = true) : OQ P oo t m r :=
  fun ρ a w ht _ => ⟨r, .flat hr, fun w' _ => by
    rw [execOp_congr oo hs (ρ := a.eval) (ρ' := t.ev) (fun x hx => (ht.ev x).of_flat (hops x hx))]
    exact he w'⟩
end ops
end Ab
end Go
