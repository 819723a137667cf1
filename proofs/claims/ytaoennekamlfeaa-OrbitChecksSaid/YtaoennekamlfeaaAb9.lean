/- The small memory, part 9: parts of slices, appending, calls that make memory. -/
import Derived.Test.YtaoennekamlfeaaAb8
import Derived.Laws.AppendOwn
set_option linter.unusedSimpArgs false
set_option linter.unusedVariables false
namespace Go
open Go.RowKit
namespace Ab

/-- Greater than every length: the room behind the slice is not known. -/
abbrev INF : Nat := 9223372036854775808

/-- A bound of a part: what is written, or the one that stands for nothing. -/
def bnd (t : T) (x : Option Operand) (d : Int) : Option Int :=
  match x with
  | none => some d
  | some x => match t.ev x with
    | .int _ i => some i
    | _ => none

section ops
variable {P : Program} {t : T} {m : Mem} {dst : Option Tmp} {ty ty' rt : TypeId} {pos : String} {after : Array Edge} {guard : Option (Nat × Bool)} {x : Operand} {lo hi mx : Option Operand} {l h u : Int}

theorem bnd_run {ρ : Ren} {a : Act} {w : World} (ht : TRel ρ t a.tmps) {y : Operand} {d : Int} (hb : bnd t (some y) d = some l) (h0 : 0 ≤ l) {k : Nat} (hk : l ≤ k) (code : BoundsCode) : (Instr.sliceBound (a.eval y) k code).run P w = .ok l.toNat w := by
  unfold bnd at hb
  simp only at hb
  cases hv : t.ev y with
  | int kk i =>
    rw [hv] at hb
    cases Option.some.inj hb
    simp [Instr.sliceBound, evi ht hv, asIntOf, h0, hk, Sem.run_bind, Sem.run_pure]
  | _ => rw [hv] at hb; cases hb

theorem run_bounds2 {ρ : Ren} {a : Act} {w : World} (ht : TRel ρ t a.tmps) {b : Bool} {n c : Nat} (hl : bnd t lo 0 = some l) (hh : bnd t hi n = some h) (h0 : 0 ≤ l) (h1 : l ≤ h) (h2 : h ≤ n) (hc : n ≤ c) :
    (Instr.sliceBounds b n c (lo.map a.eval) (hi.map a.eval) none).run P w = .ok (l.toNat, h.toNat, c) w := by
  have hl' : ∀ y, lo = some y → ∀ code, (Instr.sliceBound (a.eval y) h.toNat code).run P w = .ok l.toNat w := fun y e code => bnd_run ht (e ▸ hl) h0 (by omega) code
  have hh' : ∀ y, hi = some y → ∀ code, (Instr.sliceBound (a.eval y) c code).run P w = .ok h.toNat w := fun y e code => bnd_run ht (e ▸ hh) (by omega) (by omega) code
  unfold Instr.sliceBounds
  cases lo with
  | none =>
    simp only [bnd, Option.some.injEq] at hl
    subst hl
    cases hi with
    | none =>
      simp only [bnd, Option.some.injEq] at hh
      subst hh
      simp [Sem.run_bind, Sem.run_pure]
    | some y => simp [Sem.run_bind, Sem.run_pure, hh' y rfl]
  | some x =>
    cases hi with
    | none =>
      simp only [bnd, Option.some.injEq] at hh
      subst hh
      have := hl' x rfl
      simp only [Int.toNat_natCast] at this
      simp [Sem.run_bind, Sem.run_pure, this]
    | some y => simp [Sem.run_bind, Sem.run_pure, hh' y rfl, hl' x rfl]

theorem OQ.sliceS {b o n c z : Nat} {g : Bool} {blk : Blk} (hx : t.ev x = .slice (some ⟨b, o, none⟩) n c) (hf : elemOf' P ty = some (none, z, g)) (hb : m.at b = some blk) (hz : blk.esz = 0 ∨ blk.esz = z)
    (hl : bnd t lo 0 = some l) (hh : bnd t hi n = some h) (h0 : 0 ≤ l) (h1 : l ≤ h) (h2 : h ≤ n) : OQ P ⟨dst, .slice ty x lo hi none, rt, pos, after, guard⟩ t m (.slice (some ⟨b, o + l.toNat * z, none⟩) (h.toNat - l.toNat) c) := by
  intro ρ a w ht hm
  obtain ⟨e, e1, e2, e3⟩ := elemOf_slice hf
  obtain ⟨pl, hp', ⟨_, _, _, _, hesz, _⟩, _⟩ := hm b blk hb
  rcases (hx ▸ ht.ev x).slice_inv with ⟨pl2, c', hp, g1, g2, g3, he⟩ | ⟨rfl, a', he⟩
  · cases Option.some.inj (hp'.symm.trans hp)
    refine ⟨.slice (if c' = l.toNat then some ⟨pl.blk, o + pl.sh, none⟩ else some ((⟨pl.blk, o + pl.sh, none⟩ : Addr).add (l.toNat * z))) (h.toNat - l.toNat) (c' - l.toNat), ?_, fun w' _ => ?_⟩
    · by_cases hcl : c' = l.toNat
      · rw [if_pos hcl, show h.toNat - l.toNat = 0 by omega, show c' - l.toNat = 0 by omega]
        exact .empty
      · rw [if_neg hcl]
        have : (⟨pl.blk, o + pl.sh, none⟩ : Addr).add (l.toNat * z) = ⟨pl.blk, (o + l.toNat * z) + pl.sh, none⟩ := by
          unfold Addr.add
          split
          · rename_i h; rw [h]; simp
          · simp; omega
        rw [this]
        refine .slice hp (by omega) (fun hc => by have := g2 hc; omega) (fun hne => ?_)
        have := g3 hne
        have hzz : pl.esz = z := by
          rcases hz with hz | hz
          · rw [← hesz, hz] at hne; exact absurd rfl hne
          · rw [← hesz, hz]
        rw [hzz] at this ⊢
        have : (c' - l.toNat) * z + l.toNat * z = c' * z := by rw [← Nat.add_mul]; congr 1; omega
        omega
    · simp only [execOp, Instr.sliceAt, he, Sem.run_bind, run_und e1, Result.andThen_ok, Instr.slice, Option.map_none, run_bounds2 ht hl hh h0 h1 h2 g1, run_size e2]
      simp only [Option.map_some, Sem.run_pure]
      split <;> simp [go_sem, *]
  · have hl0 : l = 0 := by omega
    have hh0 : h = 0 := by omega
    subst hl0 hh0
    refine ⟨.slice (some a') 0 0, .empty, fun w' _ => ?_⟩
    simp only [execOp, Instr.sliceAt, he, Sem.run_bind, run_und e1, Result.andThen_ok, Instr.slice, Option.map_none, run_bounds2 ht hl hh h0 h1 h2 (Nat.le_refl 0), run_size e2]
    simp [go_sem]

theorem OQ.sliceNil {z : Option Nat × Nat × Bool} (hx : t.ev x = .slice none 0 0) (hf : elemOf' P ty = some (none, z.2)) (hl : bnd t lo 0 = some 0) (hh : bnd t hi 0 = some 0) : OQ P ⟨dst, .slice ty x lo hi none, rt, pos, after, guard⟩ t m (.slice none 0 0) := by
  intro ρ a w ht hm
  obtain ⟨e, e1, e2, e3⟩ := elemOf_slice (n := z.2.1) (b := z.2.2) hf
  have he := (hx ▸ ht.ev x).nil_inv
  refine ⟨_, .scal rfl, fun w' _ => ?_⟩
  simp only [execOp, Instr.sliceAt, he, Sem.run_bind, run_und e1, Result.andThen_ok, Instr.slice, Option.map_none, run_bounds2 (h := 0) (n := 0) (c := 0) ht hl hh (by omega) (by omega) (by omega) (Nat.le_refl 0), run_size e2]
  simp [go_sem]

/-- 'arr[lo:hi]'. -/
theorem OQ.sliceA {b o n z : Nat} {g : Bool} {blk : Blk} (hx : t.ev x = .pointer (some ⟨b, o, none⟩)) (hf : elemOf' P ty = some (some n, z, g)) (hb : m.at b = some blk) (hz : blk.esz = 0)
    (hl : bnd t lo 0 = some l) (hh : bnd t hi n = some h) (h0 : 0 ≤ l) (h1 : l ≤ h) (h2 : h ≤ n) : OQ P ⟨dst, .slice ty x lo hi none, rt, pos, after, guard⟩ t m (.slice (some ⟨b, o + l.toNat * z, none⟩) (h.toNat - l.toNat) (n - l.toNat)) := by
  intro ρ a w ht hm
  obtain ⟨e, e1, e2, e3⟩ := elemOf_array hf
  obtain ⟨pl, hp', ⟨_, _, _, _, hesz, _⟩, _⟩ := hm b blk hb
  obtain ⟨pl2, hp, he⟩ := (hx ▸ ht.ev x).ptr_inv
  cases Option.some.inj (hp'.symm.trans hp)
  refine ⟨.slice (if n = l.toNat then some ⟨pl.blk, o + pl.sh, none⟩ else some ((⟨pl.blk, o + pl.sh, none⟩ : Addr).add (l.toNat * z))) (h.toNat - l.toNat) (n - l.toNat), ?_, fun w' _ => ?_⟩
  · by_cases hcl : n = l.toNat
    · rw [if_pos hcl, show h.toNat - l.toNat = 0 by omega, show n - l.toNat = 0 by omega]
      exact .empty
    · rw [if_neg hcl]
      have : (⟨pl.blk, o + pl.sh, none⟩ : Addr).add (l.toNat * z) = ⟨pl.blk, (o + l.toNat * z) + pl.sh, none⟩ := by
        unfold Addr.add
        split
        · rename_i h; rw [h]; simp
        · simp; omega
      rw [this]
      exact .slice hp (by omega) (fun _ => Nat.le_refl _) (fun hne => by rw [← hesz, hz] at hne; exact absurd rfl hne)
  · simp only [execOp, Instr.sliceAt, he, Sem.run_bind, run_und e1, Result.andThen_ok, Instr.sureAddr, Sem.run_pure, Option.map_none, run_bounds2 ht hl hh h0 h1 h2 (Nat.le_refl n), run_size e2]
    split <;> simp [go_sem, *]

/-- A piece of a text. -/
theorem OQ.sliceStr {s : ByteArray} (hx : t.ev x = .string s) (hu : P.underlying ty = some .string) (hl : bnd t lo 0 = some l) (hh : bnd t hi s.size = some h) (h0 : 0 ≤ l) (h1 : l ≤ h) (h2 : h ≤ s.size) :
    OQ P ⟨dst, .slice ty x lo hi none, rt, pos, after, guard⟩ t m (.string (s.extract l.toNat h.toNat)) := by
  intro ρ a w ht hm
  refine ⟨_, .scal rfl, fun w' _ => ?_⟩
  simp only [execOp, Instr.sliceAt, evs ht hx, Sem.run_bind, run_und hu, Result.andThen_ok, Instr.slice, Option.map_none, run_bounds2 ht hl hh h0 h1 h2 (Nat.le_refl _)]
  simp only [Option.isSome_none, Bool.false_eq_true, if_false, Sem.run_bind, Sem.run_pure, Result.andThen_ok, run_bounds2 ht hl hh h0 h1 h2 (Nat.le_refl _)]
end ops

def bytesOf' (P : Program) (t : TypeId) : Option Nat := (P.info? t).map (·.bytes)
def elemT (P : Program) (s : TypeId) : Option TypeId := match P.underlying s with | some (.slice e) => some e | _ => none

theorem St.drew {E : Env} {ρ : Ren} {m : Mem} {w : World} (h : St E ρ m w) : St E ρ m w.drew := ⟨h.os, h.tape, h.output, h.size, h.same, h.ext, h.dom, h.mem, h.fresh⟩

theorem Mem.at_setnone {m : Mem} {b k : Nat} : Mem.at (m.set b none) k = if k = b then none else m.at k := by
  by_cases hb : b < m.length
  · exact Mem.at_set hb
  · rw [List.set_eq_of_length_le (by omega)]
    split
    · rename_i h
      subst h
      unfold Mem.at
      rw [List.getD_eq_getElem?_getD, List.getElem?_eq_none (by omega)]
      rfl
    · rfl

/-- A block forgotten. -/
theorem St.forget {E : Env} {ρ : Ren} {m : Mem} {w : World} (h : St E ρ m w) (b : Nat) : St E ρ (m.set b none) w := by
  refine ⟨h.os, h.tape, h.output, h.size, h.same, h.ext, fun b pl hb => by simpa using h.dom b pl hb, fun k bk hk => ?_, fun k bk pl hk ho hp => ?_⟩
  · rw [Mem.at_setnone] at hk
    split at hk
    · cases hk
    · obtain ⟨pl, hp, hbr, hown⟩ := h.mem k bk hk
      refine ⟨pl, hp, hbr, fun ho b' blk' pl' hne hb' hp' => ?_⟩
      rw [Mem.at_setnone] at hb'
      split at hb'
      · cases hb'
      · exact hown ho b' blk' pl' hne hb' hp'
  · rw [Mem.at_setnone] at hk
    split at hk
    · cases hk
    · exact h.fresh k bk pl hk ho hp

/-- The block of an appended slice: what was written, at its old place, under a new number. -/
theorem St.renew {E : Env} {ρ : Ren} {m : Mem} {w w' : World} {b : Nat} {blk : Blk} {pl : Pl} {cs' : List Value} (h : St E ρ m w) (hb : m.at b = some blk) (ho : blk.own = true) (hp : ρ b = some pl)
    {c c' : Array Value} {ty : TypeId} {fr : Nat × Nat} (hc : w.heap[pl.blk]? = some (.cells c ty fr)) (hc' : w'.heap[pl.blk]? = some (.cells c' ty fr)) (hsz : c'.size = c.size)
    (hcell : ∀ (i : Nat) (v : Value), cs'[i]? = some v → ∃ v', c'[i]? = some v' ∧ VRel ρ v v')
    (hfar : ∀ k, k ≠ pl.blk → w'.heap[k]? = w.heap[k]?) (hs : w'.heap.size = w.heap.size) (h1 : w'.os = w.os) (h2 : w'.tape = w.tape) (h3 : w'.output = w.output) :
    St E (ρ.new m.length pl) (m.set b none ++ [some ⟨cs', true, blk.esz⟩]) w' := by
  have hlt := Mem.at_lt hb
  have hlen : (m.set b none).length = m.length := by simp
  have he := h.ext_new pl
  obtain ⟨pl0, hp0, ⟨c0, ty0, fr0, hc0, k1, k2, k3⟩, hown0⟩ := h.mem b blk hb
  cases Option.some.inj (hp0.symm.trans hp)
  rw [hc] at hc0
  cases hc0
  obtain ⟨j0, j1, j2⟩ := k3 ho
  refine ⟨h1.trans h.os, h2.trans h.tape, h3.trans h.output, by rw [hs]; exact h.size, fun k hk hks => ?_, h.ext.trans he, fun k pl' hk => ?_, ?_, ?_⟩
  · rw [hfar k ?_]
    · exact h.same k hk hks
    · rintro rfl
      rcases h.fresh b blk pl hb ho hp with hf | hf
      · omega
      · exact hks hf
  · unfold Ren.new at hk
    split at hk
    · simp; omega
    · have := h.dom k pl' hk
      simp; omega
  · intro k bk hk
    rw [Mem.at_snoc, hlen, Mem.at_setnone] at hk
    split at hk
    · rename_i hkm
      cases Option.some.inj hk
      refine ⟨pl, by simp [Ren.new, hkm], ⟨c', ty, fr, hc', k1, fun i v hv => ?_, fun _ => ⟨j0, by rw [hsz]; exact j1, j2⟩⟩, fun _ b' blk' pl' hne hb' hp' => ?_⟩
      · obtain ⟨v', q1, q2⟩ := hcell i v hv
        exact ⟨v', by rw [j0]; exact q1, q2.ext he⟩
      · rw [Mem.at_snoc, hlen, if_neg (by omega), Mem.at_setnone] at hb'
        unfold Ren.new at hp'
        rw [if_neg (by omega)] at hp'
        split at hb'
        · cases hb'
        · rename_i hb'b
          exact hown0 ho b' blk' pl' hb'b hb' hp'
    · rename_i hkm
      split at hk
      · cases hk
      · rename_i hkb
        obtain ⟨pl', hp', hbr, hown⟩ := h.mem k bk hk
        have hne : pl'.blk ≠ pl.blk := hown0 ho k bk pl' hkb hk hp'
        refine ⟨pl', he k pl' hp', hbr.ext he (hfar _ hne), fun ho' b' blk' pl'' hne' hb' hp'' => ?_⟩
        rw [Mem.at_snoc, hlen, Mem.at_setnone] at hb'
        unfold Ren.new at hp''
        split at hb'
        · rename_i hbm
          rw [if_pos hbm] at hp''
          cases Option.some.inj hp''
          exact Ne.symm hne
        · rename_i hbm
          rw [if_neg hbm] at hp''
          split at hb'
          · cases hb'
          · exact hown ho' b' blk' pl'' hne' hb' hp''
  · intro k bk pl' hk hko hkp
    rw [Mem.at_snoc, hlen, Mem.at_setnone] at hk
    unfold Ren.new at hkp
    split at hk
    · rename_i hkm
      rw [if_pos hkm] at hkp
      cases Option.some.inj hkp
      exact h.fresh b blk pl hb ho hp
    · rename_i hkm
      rw [if_neg hkm] at hkp
      split at hk
      · cases hk
      · exact h.fresh k bk pl' hk hko hkp

section app
variable {P : Program} {t : T} {m : Mem} {dst : Option Tmp} {st rt e : TypeId} {pos : String} {after : Array Edge} {guard : Option (Nat × Bool)} {x s : Operand} {zs : List Value} {z by' : Nat}

theorem info_of (hz : szOf P e = some z) (h0 : zeroOf P e = some zs) (hb : bytesOf' P e = some by') : ∃ i zv, P.info? e = some i ∧ i.zero = some zv ∧ i.size = z ∧ i.bytes = by' ∧ zv.cells = zs.toArray := by
  unfold szOf at hz
  unfold bytesOf' at hb
  unfold zeroOf at h0
  cases hi : P.info? e with
  | none => rw [hi] at hz; cases hz
  | some i =>
    rw [hi] at hz hb h0
    cases hzv : i.zero with
    | none => simp [hzv] at h0
    | some zv =>
      simp [hzv] at h0
      simp only [Option.map_some, Option.some.injEq] at hz hb
      exact ⟨i, zv, rfl, hzv, hz, hb, by rw [← h0]⟩

theorem elemT_spec (h : elemT P st = some e) : P.underlying st = some (.slice e) := by
  unfold elemT at h
  split at h
  · rename_i e' hu
    cases Option.some.inj h
    exact hu
  · cases h

theorem all_one {ρ : Ren} {vs vs' : List Value} (h1 : vs.all one = true) (hl : vs.length = vs'.length) (hr : ∀ (i : Nat) (u : Value), vs[i]? = some u → ∃ u', vs'[i]? = some u' ∧ VRel ρ u u') : ∀ u ∈ vs', u.oneCell' = true := by
  intro u hu
  obtain ⟨i, hi, rfl⟩ := List.mem_iff_getElem.1 hu
  have hi' : i < vs.length := by omega
  obtain ⟨u', e1, e2⟩ := hr i vs[i] (List.getElem?_eq_getElem hi')
  rw [List.getElem?_eq_getElem hi] at e1
  cases Option.some.inj e1
  exact e2.one (List.all_eq_true.1 h1 _ (List.getElem_mem hi'))

theorem ld_some {b o n : Nat} {vs : List Value} (h : m.ld b o n = some vs) : ∃ blk, m.at b = some blk ∧ o + n ≤ blk.cells.length ∧ vs = (blk.cells.drop o).take n := by
  unfold Mem.ld at h
  cases hb : m.at b with
  | none => rw [hb] at h; cases h
  | some blk =>
    rw [hb] at h
    simp only at h
    split at h
    · exact ⟨blk, rfl, by assumption, (Option.some.inj h).symm⟩
    · cases h

/-- What lies in a row, cell by cell. -/
theorem MRel.row {ρ : Ren} {w : World} (h : MRel ρ m w) {b o n : Nat} {pl : Pl} {vs : List Value} (hl : m.ld b o n = some vs) (hp : ρ b = some pl) :
    vs.length = n ∧ ∃ vs' : List Value, vs'.length = n ∧ (∀ (i : Nat) (u : Value), vs[i]? = some u → ∃ u', vs'[i]? = some u' ∧ VRel ρ u u') ∧ ∀ j v, vs'[j]? = some v → w.cell? ((⟨pl.blk, o + pl.sh, none⟩ : Addr).add j) = some v := by
  obtain ⟨blk, hb, hle, rfl⟩ := ld_some hl
  have hlen : ((blk.cells.drop o).take n).length = n := by simp; omega
  have hget : ∀ i, i < n → ∃ v, blk.cells[o + i]? = some v := fun i hi => ⟨_, List.getElem?_eq_getElem (by omega)⟩
  refine ⟨hlen, (List.range n).map fun i => (w.cell? ⟨pl.blk, (o + i) + pl.sh, none⟩).getD undef, by simp, fun i u hu => ?_, fun j v hj => ?_⟩
  · have hi : i < n := by
      rcases Nat.lt_or_ge i n with h' | h'
      · exact h'
      · rw [List.getElem?_eq_none (by omega)] at hu; cases hu
    have hu' : blk.cells[o + i]? = some u := by
      rw [List.getElem?_take_of_lt hi, List.getElem?_drop] at hu
      exact hu
    obtain ⟨v', ⟨_, h1⟩, h2⟩ := h.cell (Same.refl ρ m w) hb hp hu'
    exact ⟨v', by simp [hi, h1], h2⟩
  · have hi : j < n := by
      rcases Nat.lt_or_ge j n with h' | h'
      · exact h'
      · rw [List.getElem?_eq_none (by simp; omega)] at hj; cases hj
    simp only [List.getElem?_map, List.getElem?_range hi, Option.map_some, Option.some.injEq] at hj
    subst hj
    obtain ⟨v, hv⟩ := hget j hi
    obtain ⟨v', ⟨_, h0⟩, _⟩ := h.cell (Same.refl ρ m w) hb hp hv
    have e : (⟨pl.blk, o + pl.sh, none⟩ : Addr).add j = ⟨pl.blk, o + j + pl.sh, none⟩ := by
      unfold Addr.add
      split
      · rename_i hj0; subst hj0; simp
      · simp; omega
    rw [e, h0]; rfl

theorem zero_room {zv : Value} (h : zv.cells = zs.toArray) (hzl : zs.length = z) (k n : Nat) : (Builtin.zeroCells zv.cells n).size = n * z := by simp [Builtin.zeroCells, h, hzl]

/-- 'append(nil, x..)'. -/
theorem OW.appendNil {b o k c : Nat} {vs : List Value} (hs : t.ev s = .slice none 0 0) (hx : t.ev x = .slice (some ⟨b, o, none⟩) k c) (he : elemT P st = some e) (hz : szOf P e = some z) (h0 : zeroOf P e = some zs) (hzl : zs.length = z) (hb : bytesOf' P e = some by')
    (hk : 0 < k) (hl : m.ld b o (k * z) = some vs) (hsm : k * by' ≤ 140737488355328) (hsm' : k ≤ 4611686018427387904) :
    OW P ⟨dst, .call ⟨.builtin .append, #[s, x], #[st, st]⟩, rt, pos, after, guard⟩ t m (.slice (some ⟨m.length, 0, none⟩) k INF) (m ++ [some ⟨vs, true, z⟩]) := by
  intro E ρ a w ht hst
  obtain ⟨i, zv, i1, i2, i3, i4, i5⟩ := info_of hz h0 hb
  have e1 := (hs ▸ ht.ev s).nil_inv
  rcases (hx ▸ ht.ev x).slice_inv with ⟨pl, c', hp, g1, g2, g3, e2⟩ | ⟨h, _⟩
  · obtain ⟨l1, vs', l2, l3, l4⟩ := hst.mem.row hl hp
    have hrun := run_append_nil (P := P) (w := w) st rt e i zv (elemT_spec he) i1 i2 ⟨pl.blk, o + pl.sh, none⟩ k c' vs' (by rw [l2, i3]) l4 hk (by omega) (by rw [i4]; omega)
    have hg := grownCap_ge w k 0 e
    refine ⟨.slice (some ⟨w.heap.size, 0, none⟩) k (grownCap w k 0 e), _, ρ.new m.length ⟨w.heap.size, 0, z, (vs'.toArray ++ Builtin.zeroCells zv.cells (grownCap w k 0 e - k)).size⟩, .inl ?_, ?_, ?_, (hst.drew).new (ty := e) (esz := z) (c := vs'.toArray ++ Builtin.zeroCells zv.cells (grownCap w k 0 e - k)) fun j v hv => ?_⟩
    · simp only [execOp, resolve, invoke, builtin, e1, e2, Sem.run_bind, Sem.run_pure, Result.andThen_ok, List.map_toArray, List.map_cons, List.map_nil]
      erw [hrun]
      rfl
    · exact hst.drew.ext_new _
    · refine VRel.slice (ρ := ρ.new m.length ⟨w.heap.size, 0, z, (vs'.toArray ++ Builtin.zeroCells zv.cells (grownCap w k 0 e - k)).size⟩) (pl := ⟨w.heap.size, 0, z, (vs'.toArray ++ Builtin.zeroCells zv.cells (grownCap w k 0 e - k)).size⟩) (b := m.length) (o := 0) (c := INF) (by unfold Ren.new; rw [if_pos rfl]) hg (fun h => absurd h (by decide)) (fun _ => ?_)
      simp only [Array.size_append, List.size_toArray, l2, zero_room i5 hzl 0, Nat.zero_add]
      rw [← Nat.add_mul]
      exact Nat.mul_le_mul_right _ (by omega)
    · obtain ⟨v', q1, q2⟩ := l3 j v hv
      refine ⟨v', ?_, q2⟩
      rw [Array.getElem?_append_left (by have := (List.getElem?_eq_some_iff.1 q1).1; simpa using this)]
      simpa using q1
  · omega

/-- Nothing appended. -/
theorem OQ.append0 {v : Value} {n c : Nat} {sa xa : Option Addr} {xc : Nat} (hs : t.ev s = .slice sa n c) (hx : t.ev x = .slice xa 0 xc) (he : elemT P st = some e) (hz : szOf P e = some z) :
    OQ P ⟨dst, .call ⟨.builtin .append, #[s, x], #[st, st]⟩, rt, pos, after, guard⟩ t m (.slice sa n c) := by
  intro ρ a w ht hm
  have hr := hs ▸ ht.ev s
  have h1 : ∃ a' c', a.eval s = .slice a' n c' ∧ n ≤ c' := by
    generalize a.eval s = v at hr
    cases hr with
    | scal h =>
      refine ⟨_, _, rfl, ?_⟩
      cases sa with
      | some _ => simp [Ab.scal] at h
      | none =>
        cases n with
        | zero => exact Nat.zero_le _
        | succ n => simp [Ab.scal] at h
    | slice _ g _ _ => exact ⟨_, _, rfl, g⟩
    | empty => exact ⟨_, _, rfl, Nat.le_refl _⟩
  have h2 : ∃ a' c', a.eval x = .slice a' 0 c' := by
    have hr := hx ▸ ht.ev x
    generalize a.eval x = v at hr
    cases hr with
    | scal h => exact ⟨_, _, rfl⟩
    | slice => exact ⟨_, _, rfl⟩
    | empty => exact ⟨_, _, rfl⟩
  obtain ⟨a1, c1, e1, hle⟩ := h1
  obtain ⟨a2, c2, e2⟩ := h2
  refine ⟨.slice a1 n c1, e1 ▸ hr, fun w' _ => ?_⟩
  have hsz := run_size (P := P) (w := w') hz
  have hf : (Builtin.firstCells z 0 (.slice a2 0 c2)).run P w' = .ok #[] w' := by
    cases a2 <;> simp [Builtin.firstCells, loadCells, loadCellsFrom, Sem.run_pure]
  simp only [execOp, resolve, invoke, builtin, e1, e2, Sem.run_bind, Sem.run_pure, Result.andThen_ok, List.map_toArray, List.map_cons, List.map_nil]
  have : (Builtin.append_ #[st, st] rt #[.slice a1 n c1, .slice a2 0 c2]).run P w' = .ok (.slice a1 n c1) w' := by
    cases a1 <;> simp [Builtin.append_, run_underlying (elemT_spec he), hsz, Builtin.lenOf, hle, hf, storeCells]
  erw [this]
  rfl

/-- 'append(s, x..)', s a slice of the walk's own: it may be lengthened in place. -/
theorem OW.append {b n c bx ox k cx : Nat} {vs : List Value} {blk : Blk} (hs : t.ev s = .slice (some ⟨b, 0, none⟩) n c) (hx : t.ev x = .slice (some ⟨bx, ox, none⟩) k cx) (he : elemT P st = some e) (hz : szOf P e = some z) (h0 : zeroOf P e = some zs) (hzl : zs.length = z) (hby : bytesOf' P e = some by')
    (hk : 0 < k) (hb : m.at b = some blk) (ho : blk.own = true) (hesz : blk.esz = z) (hz0 : z ≠ 0) (hn : n * z ≤ blk.cells.length) (hl : m.ld bx ox (k * z) = some vs) (h1 : vs.all one = true) (hsm : (n + k) * by' ≤ 140737488355328) (hsm' : n + k ≤ 4611686018427387904) :
    OW P ⟨dst, .call ⟨.builtin .append, #[s, x], #[st, st]⟩, rt, pos, after, guard⟩ t m (.slice (some ⟨m.length, 0, none⟩) (n + k) INF) (m.set b none ++ [some ⟨blk.cells.take (n * z) ++ vs, true, z⟩]) := by
  intro E ρ a w ht hst
  obtain ⟨i, zv, i1, i2, i3, i4, i5⟩ := info_of hz h0 hby
  rcases (hx ▸ ht.ev x).slice_inv with ⟨plx, cx', hpx, _, _, _, e2⟩ | ⟨h, _⟩
  case inr => omega
  obtain ⟨l1, vs', l2, l3, l4⟩ := hst.mem.row hl hpx
  have hones := all_one h1 (by rw [l1, l2]) l3
  have hlo : m.ld b 0 (n * z) = some (blk.cells.take (n * z)) := by
    unfold Mem.ld
    rw [hb]
    simp [hn]
  have hlen : (m.set b none).length = m.length := by simp
  -- a new block
  have grow : ∀ (a' : Addr) (c' : Nat) (os' : List Value), a.eval s = .slice (some a') n c' → os'.length = n * z → (∀ (i : Nat) (u : Value), (blk.cells.take (n * z))[i]? = some u → ∃ u', os'[i]? = some u' ∧ VRel ρ u u') →
      (∀ j v, os'[j]? = some v → w.cell? (a'.add j) = some v) → c' < n + k →
      ∃ v' w' ρ', ((execOp a.eval ⟨dst, .call ⟨.builtin .append, #[s, x], #[st, st]⟩, rt, pos, after, guard⟩).run P w = .ok (.value v') w' ∨ ((execOp a.eval ⟨dst, .call ⟨.builtin .append, #[s, x], #[st, st]⟩, rt, pos, after, guard⟩).run P w = .ok .skip w' ∧ v' = undef)) ∧
        Ext ρ ρ' ∧ VRel ρ' (.slice (some ⟨m.length, 0, none⟩) (n + k) INF) v' ∧ St E ρ' (m.set b none ++ [some ⟨blk.cells.take (n * z) ++ vs, true, z⟩]) w' := by
    intro a' c' os' e1 o1 o2 o3 hlt
    have hrun := run_append_grow (P := P) (w := w) st rt e i zv (elemT_spec he) i1 i2 a' n c' os' (by rw [o1, i3]) o3 ⟨plx.blk, ox + plx.sh, none⟩ k cx' vs' (by rw [l2, i3]) l4 hlt (by omega) (by rw [i4]; exact growslice_fits hlt hsm)
    have hg := grownCap_ge w (n + k) c' e
    have hnew := ((hst.forget b).drew).new (ty := e) (esz := z) (c := os'.toArray ++ vs'.toArray ++ Builtin.zeroCells zv.cells (grownCap w (n + k) c' e - (n + k))) (cells := blk.cells.take (n * z) ++ vs) fun j v hv => by
      rw [List.getElem?_append] at hv
      have hl0 : (blk.cells.take (n * z)).length = n * z := by simp; omega
      split at hv
      · rename_i hj
        obtain ⟨v', q1, q2⟩ := o2 j v hv
        refine ⟨v', ?_, q2⟩
        rw [Array.getElem?_append_left (by simp; omega), Array.getElem?_append_left (by simp; omega)]
        simpa using q1
      · rename_i hj
        obtain ⟨v', q1, q2⟩ := l3 _ v hv
        have := (List.getElem?_eq_some_iff.1 q1).1
        refine ⟨v', ?_, q2⟩
        rw [Array.getElem?_append_left (by simp; omega), Array.getElem?_append_right (by simp; omega)]
        simpa [o1, hl0] using q1
    rw [hlen] at hnew
    refine ⟨.slice (some ⟨w.heap.size, 0, none⟩) (n + k) (grownCap w (n + k) c' e), _, ρ.new m.length ⟨w.heap.size, 0, z, (os'.toArray ++ vs'.toArray ++ Builtin.zeroCells zv.cells (grownCap w (n + k) c' e - (n + k))).size⟩, .inl ?_, ?_, ?_, hnew⟩
    · simp only [execOp, resolve, invoke, builtin, e1, e2, Sem.run_bind, Sem.run_pure, Result.andThen_ok, List.map_toArray, List.map_cons, List.map_nil]
      erw [hrun]
      rfl
    · have := (hst.forget b).drew.ext_new ⟨w.drew.heap.size, 0, z, (os'.toArray ++ vs'.toArray ++ Builtin.zeroCells zv.cells (grownCap w (n + k) c' e - (n + k))).size⟩
      rw [hlen] at this
      exact this
    · refine VRel.slice (ρ := ρ.new m.length ⟨w.heap.size, 0, z, (os'.toArray ++ vs'.toArray ++ Builtin.zeroCells zv.cells (grownCap w (n + k) c' e - (n + k))).size⟩) (pl := ⟨w.heap.size, 0, z, (os'.toArray ++ vs'.toArray ++ Builtin.zeroCells zv.cells (grownCap w (n + k) c' e - (n + k))).size⟩) (b := m.length) (o := 0) (c := INF) (by unfold Ren.new; rw [if_pos rfl]) hg (fun h => absurd h (by decide)) (fun _ => ?_)
      simp only [Array.size_append, List.size_toArray, l2, o1, zero_room i5 hzl 0, Nat.zero_add]
      rw [← Nat.add_mul, ← Nat.add_mul]
      exact Nat.mul_le_mul_right _ (by omega)
  rcases (hs ▸ ht.ev s).slice_inv with ⟨pl, c', hp, g1, g2, g3, e1⟩ | ⟨rfl, a', e1⟩
  · obtain ⟨pl0, hp0, ⟨c0, ty0, fr0, k0, k1, k2, k3⟩, hown0⟩ := hst.mem b blk hb
    cases Option.some.inj (hp0.symm.trans hp)
    obtain ⟨j0, j1, j2⟩ := k3 ho
    subst j2
    obtain ⟨m1, os', m2, m3, m4⟩ := hst.mem.row hlo hp
    by_cases hroom : n + k ≤ c'
    · have hpe : pl.esz = z := by rw [← k1, hesz]
      have htot := g3 (by rw [hpe]; exact hz0)
      rw [hpe, j0, ← j1] at htot
      have hmul : (n + k) * z ≤ c' * z := Nat.mul_le_mul_right _ hroom
      rw [Nat.add_mul] at hmul
      obtain ⟨w', r1, r2, r3, r4, r5, r6, r7⟩ := run_stores (P := P) pl.blk (n * z) ty0 (0, 0) vs' 0 c0 w k0 (fun j _ => by simp) (by rw [l2]; omega) hones
      have hadd : (⟨pl.blk, 0, none⟩ : Addr).add (n * z) = ⟨pl.blk, n * z, none⟩ := by
        unfold Addr.add
        split
        · rename_i h; rw [h]
        · simp
      have hf := run_firstCells_some (P := P) w z k ⟨plx.blk, ox + plx.sh, none⟩ k cx' vs' l2 l4
      refine ⟨.slice (some ⟨pl.blk, 0, none⟩) (n + k) c', w', ρ.new m.length pl, .inl ?_, hst.ext_new pl, ?_, ?_⟩
      · simp only [execOp, resolve, invoke, builtin, e1, e2, Sem.run_bind, Sem.run_pure, Result.andThen_ok, List.map_toArray, List.map_cons, List.map_nil]
        have : (Builtin.append_ #[st, st] rt #[.slice (some ⟨pl.blk, 0 + pl.sh, none⟩) n c', .slice (some ⟨plx.blk, ox + plx.sh, none⟩) k cx']).run P w = .ok (.slice (some ⟨pl.blk, 0, none⟩) (n + k) c') w' := by
          simp [Builtin.append_, run_underlying (elemT_spec he), run_size hz, Builtin.lenOf, hroom, hf, j0, hadd, r1]
        erw [this]
        rfl
      · have := VRel.slice (ρ := ρ.new m.length pl) (b := m.length) (o := 0) (n := n + k) (c := INF) (c' := c') (pl := pl) (by unfold Ren.new; rw [if_pos rfl]) hroom (fun h => absurd h (by decide)) g3
        rw [j0] at this
        exact this
      · rw [← hesz]
        refine hst.renew hb ho hp k0 r2 (by simp [putAt_length]) (fun q v hv => ?_) r3 r4 r5 r6 r7
        have hl0 : (blk.cells.take (n * z)).length = n * z := by simp; omega
        rw [List.getElem?_append] at hv
        rw [List.getElem?_toArray, putAt_get]
        simp only [Nat.add_zero, Array.length_toList]
        rw [hesz] at hv
        split at hv
        · rename_i hq
          rw [if_neg (by omega)]
          have hv' : blk.cells[q]? = some v := by
            rw [List.getElem?_take_of_lt (by omega)] at hv
            exact hv
          obtain ⟨v', q1, q2⟩ := k2 q v hv'
          rw [j0] at q1
          exact ⟨v', by simpa using q1, q2⟩
        · rename_i hq
          obtain ⟨v', q1, q2⟩ := l3 _ v hv
          have := (List.getElem?_eq_some_iff.1 q1).1
          rw [hl0] at q1 this hq
          rw [if_pos (by omega)]
          exact ⟨v', q1, q2⟩
    · exact grow _ c' os' e1 m2 m3 m4 (by omega)
  · exact grow a' 0 [] e1 (by simp) (fun i u hu => by simp at hu) (fun j v hv => by simp at hv) (by omega)
end app
end Ab
end Go
