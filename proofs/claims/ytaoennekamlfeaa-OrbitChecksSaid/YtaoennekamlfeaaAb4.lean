/- The small memory, part 4: new variables, stores; a contract carried into a greater memory. -/
import Derived.Test.YtaoennekamlfeaaAb3
set_option linter.unusedSimpArgs false
set_option linter.unusedVariables false
namespace Go
open Go.RowKit
namespace Ab

theorem World.alloc_get (w : World) (o : Obj) (k : Nat) : (w.alloc o).heap[k]? = if k = w.heap.size then some o else w.heap[k]? := by
  show (w.heap.push o)[k]? = _
  rw [Array.getElem?_push]

/-- A new block. -/
def Ren.new (ρ : Ren) (b : Nat) (pl : Pl) : Ren := fun k => if k = b then some pl else ρ k

theorem St.ext_new {E : Env} {ρ : Ren} {m : Mem} {w : World} (h : St E ρ m w) (pl : Pl) : Ext ρ (ρ.new m.length pl) := fun b pl' hb => by
  have := h.dom b pl' hb
  unfold Ren.new
  rw [if_neg (by omega)]
  exact hb

theorem BRel.ext {ρ ρ' : Ren} {blk : Blk} {pl : Pl} {w w' : World} (he : Ext ρ ρ') (h : BRel ρ blk pl w) (hw : w'.heap[pl.blk]? = w.heap[pl.blk]?) : BRel ρ' blk pl w' := by
  obtain ⟨c, ty, fr, hc, h1, h2, h3⟩ := h
  exact ⟨c, ty, fr, hw.trans hc, h1, fun i v hv => let ⟨v', a, b⟩ := h2 i v hv; ⟨v', a, b.ext he⟩, h3⟩

theorem BRel.lt {ρ : Ren} {blk : Blk} {pl : Pl} {w : World} (h : BRel ρ blk pl w) : pl.blk < w.heap.size := by
  obtain ⟨c, ty, fr, hc, _⟩ := h
  exact (Array.getElem?_eq_some_iff.1 hc).1

theorem Mem.at_lt {m : Mem} {b : Nat} {blk : Blk} (h : m.at b = some blk) : b < m.length := by
  unfold Mem.at at h
  rcases Nat.lt_or_ge b m.length with h' | h'
  · exact h'
  · rw [List.getD_eq_getElem?_getD, List.getElem?_eq_none h'] at h; cases h

theorem Mem.at_snoc {m : Mem} {o : Option Blk} {b : Nat} : Mem.at (m ++ [o]) b = if b = m.length then o else m.at b := by
  unfold Mem.at
  rw [List.getD_eq_getElem?_getD, List.getD_eq_getElem?_getD, List.getElem?_append]
  by_cases h : b < m.length
  · rw [if_pos h, if_neg (by omega)]
  · rw [if_neg h]
    by_cases h' : b = m.length
    · simp [h']
    · rw [if_neg h', List.getElem?_eq_none (l := [o]) (by simp; omega), List.getElem?_eq_none (by omega)]

theorem St.new {E : Env} {ρ : Ren} {m : Mem} {w : World} (h : St E ρ m w) {c : Array Value} {ty : TypeId} {cells : List Value} {esz : Nat}
    (hc : ∀ (i : Nat) (v : Value), cells[i]? = some v → ∃ v', c[i]? = some v' ∧ VRel ρ v v') :
    St E (ρ.new m.length ⟨w.heap.size, 0, esz, c.size⟩) (m ++ [some ⟨cells, true, esz⟩]) (w.alloc (.cells c ty)) := by
  have he := h.ext_new ⟨w.heap.size, 0, esz, c.size⟩
  refine ⟨h.os, h.tape, h.output, Nat.le_trans h.size (by simp), fun k hk hs => ?_, h.ext.trans he, fun b pl hb => ?_, ?_, ?_⟩
  · rw [World.alloc_get, if_neg (by have := h.size; omega)]
    exact h.same k hk hs
  · unfold Ren.new at hb
    split at hb
    · simp; omega
    · have := h.dom b pl hb
      simp; omega
  · intro b blk hb
    rw [Mem.at_snoc] at hb
    split at hb
    · rename_i hbm
      cases Option.some.inj hb
      refine ⟨⟨w.heap.size, 0, esz, c.size⟩, by simp [Ren.new, hbm], ⟨c, ty, (0, 0), by rw [World.alloc_get]; simp, rfl, fun i v hv => ?_, fun _ => ⟨rfl, rfl, rfl⟩⟩, ?_⟩
      · obtain ⟨v', h1, h2⟩ := hc i v hv
        exact ⟨v', by simpa using h1, h2.ext he⟩
      · intro _ b' blk' pl' hne hb' hp'
        rw [Mem.at_snoc, if_neg (by omega)] at hb'
        obtain ⟨pl, hp, hbr, _⟩ := h.mem b' blk' hb'
        unfold Ren.new at hp'
        rw [if_neg (by omega), hp] at hp'
        cases Option.some.inj hp'
        have := hbr.lt
        simp only
        omega
    · rename_i hbm
      obtain ⟨pl, hp, hbr, hown⟩ := h.mem b blk hb
      have hlt := hbr.lt
      refine ⟨pl, he b pl hp, hbr.ext he (by rw [World.alloc_get, if_neg (by omega)]), fun ho b' blk' pl' hne hb' hp' => ?_⟩
      rw [Mem.at_snoc] at hb'
      unfold Ren.new at hp'
      split at hb'
      · rename_i hbm'
        rw [if_pos hbm'] at hp'
        cases Option.some.inj hp'
        simp only
        omega
      · rename_i hbm'
        rw [if_neg hbm'] at hp'
        exact hown ho b' blk' pl' hne hb' hp'
  · intro b blk pl hb ho hp
    rw [Mem.at_snoc] at hb
    unfold Ren.new at hp
    split at hb
    · rename_i hbm
      rw [if_pos hbm] at hp
      cases Option.some.inj hp
      exact .inl h.size
    · rename_i hbm
      rw [if_neg hbm] at hp
      exact h.fresh b blk pl hb ho hp

def zeroOf (P : Program) (ty : TypeId) : Option (List Value) := ((P.info? ty).bind fun i => i.zero.map (·.cells)).map (·.toList)

theorem run_zero {P : Program} {ty : TypeId} {z : List Value} {w : World} (h : zeroOf P ty = some z) : ∃ zv, (zeroValue ty).run P w = .ok zv w ∧ zv.cells = z.toArray := by
  unfold zeroOf at h
  cases hi : P.info? ty with
  | none => rw [hi] at h; cases h
  | some inf =>
    rw [hi] at h
    cases hz : inf.zero with
    | none => simp [hz] at h
    | some zv =>
      simp [hz] at h
      refine ⟨zv, ?_, by rw [← h]⟩
      simp [zeroValue, typeInfo, hi, hz, go_sem]

theorem VRel.cells {ρ : Ren} {v v' : Value} (h : VRel ρ v v') (hj : ∀ r, v ≠ .chan r) : v.cells.size = v'.cells.size ∧ ∀ (i : Nat) (u : Value), v.cells[i]? = some u → ∃ u', v'.cells[i]? = some u' ∧ VRel ρ u u' := by
  have single : v.cells = #[v] → v'.cells = #[v'] → v.cells.size = v'.cells.size ∧ ∀ (i : Nat) (u : Value), v.cells[i]? = some u → ∃ u', v'.cells[i]? = some u' ∧ VRel ρ u u' := by
    intro h1 h2
    rw [h1, h2]
    refine ⟨rfl, fun i u hu => ?_⟩
    obtain ⟨hi, he⟩ := Array.getElem?_eq_some_iff.1 hu
    simp at hi
    subst hi
    simp at he
    subst he
    exact ⟨v', rfl, h⟩
  cases h with
  | junk => exact absurd rfl (hj _)
  | agg h1 h3 =>
    refine ⟨h1, fun i u hu => ?_⟩
    simp only [Value.cells] at hu ⊢
    obtain ⟨hi, he⟩ := Array.getElem?_eq_some_iff.1 hu
    have hi' := hi
    rw [h1] at hi'
    exact ⟨_, by simp [hi'], he ▸ h3 i hi hi'⟩
  | scal hs => exact single (by cases v <;> first | rfl | (simp [Ab.scal] at hs)) (by cases v <;> first | rfl | (simp [Ab.scal] at hs))
  | ptr _ => exact single rfl rfl
  | slice _ _ _ _ => exact single rfl rfl
  | empty => exact single rfl rfl
  | func _ _ _ _ => exact single rfl rfl
  | tuple _ _ => exact single rfl rfl

/-- One cell, to be seen. -/
def one : Value → Bool
  | .agg _ | .tuple _ | .chan _ => false
  | _ => true
theorem VRel.one {ρ : Ren} {v v' : Value} (h : VRel ρ v v') (ho : Ab.one v = true) : v'.oneCell' = true := by
  cases h <;> first | rfl | (simp [Ab.one] at ho)
  rename_i hs
  cases v <;> first | rfl | (simp [Ab.one] at ho)

/-- The list with others from a place on. -/
def putAt : List Value → Nat → List Value → List Value
  | cs, _, [] => cs
  | cs, o, v :: vs => putAt (cs.set o v) (o + 1) vs
theorem putAt_length : ∀ (vs cs : List Value) (o : Nat), (putAt cs o vs).length = cs.length
  | [], _, _ => rfl
  | v :: vs, cs, o => by rw [putAt, putAt_length vs]; simp
theorem putAt_get : ∀ (vs cs : List Value) (o i : Nat), (putAt cs o vs)[i]? = if o ≤ i ∧ i < o + vs.length ∧ i < cs.length then vs[i - o]? else cs[i]?
  | [], cs, o, i => by rw [putAt, if_neg (by simp; omega)]
  | v :: vs, cs, o, i => by
    rw [putAt, putAt_get vs]
    simp only [List.length_set, List.length_cons, List.getElem?_set]
    by_cases h0 : o = i
    · subst h0
      by_cases h1 : o < cs.length
      · rw [if_neg (by omega), if_pos rfl, if_pos h1, if_pos (by omega)]; simp
      · rw [if_neg (by omega), if_pos rfl, if_neg h1, if_neg (by omega)]
        rw [List.getElem?_eq_none (by omega)]
    · rw [if_neg h0]
      by_cases h1 : o + 1 ≤ i ∧ i < o + 1 + vs.length ∧ i < cs.length
      · rw [if_pos h1, if_pos (by omega)]
        rw [show i - o = (i - (o + 1)) + 1 by omega]; simp
      · rw [if_neg h1, if_neg (by omega)]

theorem run_stores {P : Program} (g o : Nat) (ty : TypeId) (fr : Nat × Nat) : ∀ (vs : List Value) (i : Nat) (c : Array Value) (w : World), w.heap[g]? = some (.cells c ty fr) → (∀ j, j < c.size → ¬ (fr.1 ≤ j ∧ j < fr.2)) → o + i + vs.length ≤ c.size → (∀ v ∈ vs, v.oneCell' = true) →
    ∃ w', (storeCells ⟨g, o, none⟩ vs i).run P w = .ok () w' ∧ w'.heap[g]? = some (.cells (putAt c.toList (o + i) vs).toArray ty fr) ∧ (∀ k, k ≠ g → w'.heap[k]? = w.heap[k]?) ∧ w'.heap.size = w.heap.size ∧ w'.os = w.os ∧ w'.tape = w.tape ∧ w'.output = w.output
  | [], i, c, w, hg, _, _, _ => ⟨w, rfl, by simpa [putAt] using hg, fun _ _ => rfl, rfl, rfl, rfl, rfl⟩
  | v :: vs, i, c, w, hg, hfr, hle, h1 => by
    have hi : o + i < c.size := by simp at hle; omega
    have hadd : (⟨g, o, none⟩ : Addr).add i = ⟨g, o + i, none⟩ := by
      unfold Addr.add
      split
      · rename_i h0; subst h0; rfl
      · rfl
    have hcell : w.cell? ⟨g, o + i, none⟩ = some c[o + i] := by simp [World.cell?, hg, hi]
    have hfz : w.frozen? ⟨g, o + i, none⟩ = false := by
      have := hfr (o + i) hi
      simp only [World.frozen?, hg]
      simpa using this
    have hset : (w.setCell ⟨g, o + i, none⟩ v).heap[g]? = some (.cells (c.setIfInBounds (o + i) v) ty fr) := by
      simp [World.setCell, Array.getElem?_modify, hg]
    obtain ⟨w', h2, h3, h4, h5, h6, h7, h8⟩ := run_stores (P := P) g o ty fr vs (i + 1) (c.setIfInBounds (o + i) v) (w.setCell ⟨g, o + i, none⟩ v) hset (by simpa using hfr) (by simp at hle ⊢; omega) (fun u hu => h1 u (by simp [hu]))
    refine ⟨w', ?_, ?_, fun k hk => (h4 k hk).trans ?_, h5.trans (by simp [World.setCell]), h6, h7, h8⟩
    · unfold storeCells
      have hone := h1 v (by simp)
      rw [Sem.run_bind, hadd]
      have hst : (store ⟨g, o + i, none⟩ v).run P w = .ok () (w.setCell ⟨g, o + i, none⟩ v) := by
        unfold store
        cases v <;> first | (simp [Value.oneCell'] at hone; done) | simp [Sem.run, hcell, hfz]
      rw [hst]
      exact h2
    · rw [h3]; simp [putAt, Nat.add_assoc]
    · exact Below.heap_setCell _ _ _ _ hk

section ops
variable {P : Program} {t : T} {m : Mem} {dst : Option Tmp} {ty ty' rt : TypeId} {pos : String} {after : Array Edge} {guard : Option (Nat × Bool)} {x y : Operand}

theorem OW.alloc {z : List Value} (hz : zeroOf P ty = some z) (hs : z.all scal = true) : OW P ⟨dst, .alloc ty, rt, pos, after, guard⟩ t m (.pointer (some ⟨m.length, 0, none⟩)) (m ++ [some ⟨z, true, 0⟩]) := by
  intro E ρ a w ht hst
  obtain ⟨zv, h1, h2⟩ := run_zero (w := w) hz
  refine ⟨_, _, _, .inl ?_, hst.ext_new ⟨w.heap.size, 0, 0, z.toArray.size⟩, .ptr (b := m.length) (o := 0) (by simp [Ren.new]; rfl), hst.new (ty := ty) (c := z.toArray) fun i v hv => ⟨v, by simpa using hv, .scal (List.all_eq_true.1 hs v (List.mem_of_getElem? hv))⟩⟩
  simp only [execOp, Instr.alloc, Sem.run_bind, h1, Result.andThen_ok, newVar, newRow, h2]
  simp [go_sem]

/-- A variable with a value ('&T{..}'). -/
theorem OW.box {v : Value} (hx : t.ev x = v) (hj : ∀ r, v ≠ .chan r) : OW P ⟨dst, .box ty x, rt, pos, after, guard⟩ t m (.pointer (some ⟨m.length, 0, none⟩)) (m ++ [some ⟨v.cells.toList, true, 0⟩]) := by
  intro E ρ a w ht hst
  obtain ⟨h1, h2⟩ := (hx ▸ ht.ev x).cells hj
  refine ⟨_, _, _, .inl ?_, hst.ext_new ⟨w.heap.size, 0, 0, (a.eval x).cells.size⟩, .ptr (b := m.length) (o := 0) (by simp [Ren.new]; rfl), hst.new (ty := ty) (c := (a.eval x).cells) fun i u hu => h2 i u (by simpa using hu)⟩
  simp only [execOp, Instr.box, newVar, newRow, Sem.run_bind]
  simp [go_sem]

theorem Mem.at_set {m : Mem} {o : Option Blk} {b k : Nat} (hb : b < m.length) : Mem.at (m.set b o) k = if k = b then o else m.at k := by
  unfold Mem.at
  rw [List.getD_eq_getElem?_getD, List.getD_eq_getElem?_getD, List.getElem?_set]
  by_cases h : b = k
  · subst h; simp [hb]
  · rw [if_neg h, if_neg (Ne.symm h)]

theorem St.store {E : Env} {ρ : Ren} {w w' : World} {b : Nat} {blk : Blk} {pl : Pl} {cs' : List Value} (h : St E ρ m w) (hb : m.at b = some blk) (ho : blk.own = true) (hp : ρ b = some pl)
    {c c' : Array Value} {ty : TypeId} {fr : Nat × Nat} (hc : w.heap[pl.blk]? = some (.cells c ty fr)) (hc' : w'.heap[pl.blk]? = some (.cells c' ty fr)) (hsz : c'.size = c.size)
    (hcell : ∀ (i : Nat) (v : Value), cs'[i]? = some v → ∃ v', c'[i + pl.sh]? = some v' ∧ VRel ρ v v')
    (hfar : ∀ k, k ≠ pl.blk → w'.heap[k]? = w.heap[k]?) (hs : w'.heap.size = w.heap.size) (h1 : w'.os = w.os) (h2 : w'.tape = w.tape) (h3 : w'.output = w.output) :
    St E ρ (m.set b (some { blk with cells := cs' })) w' := by
  have hlt := Mem.at_lt hb
  refine ⟨h1.trans h.os, h2.trans h.tape, h3.trans h.output, by rw [hs]; exact h.size, fun k hk hks => ?_, h.ext, fun b pl hb => by simpa using h.dom b pl hb, ?_, ?_⟩
  · rw [hfar k ?_]
    · exact h.same k hk hks
    · rintro rfl
      rcases h.fresh b blk pl hb ho hp with hf | hf
      · omega
      · exact hks hf
  · intro k bk hk
    rw [Mem.at_set hlt] at hk
    split at hk
    · rename_i hkb
      subst hkb
      cases Option.some.inj hk
      obtain ⟨pl', hp', ⟨c0, ty0, fr0, hc0, e1, e2, e3⟩, hown⟩ := h.mem k blk hb
      cases Option.some.inj (hp'.symm.trans hp)
      rw [hc] at hc0
      cases Option.some.inj hc0
      refine ⟨pl, hp, ⟨c', ty, fr, hc', e1, hcell, fun ho => ?_⟩, fun ho b' blk' pl' hne hb' hp' => ?_⟩
      · obtain ⟨g0, g1, g2⟩ := e3 ho
        exact ⟨g0, by rw [hsz]; exact g1, g2⟩
      · rw [Mem.at_set hlt, if_neg hne] at hb'
        exact hown ho b' blk' pl' hne hb' hp'
    · rename_i hkb
      obtain ⟨pl', hp', hbr, hown⟩ := h.mem k bk hk
      obtain ⟨pl0, hp0, _, hown0⟩ := h.mem b blk hb
      cases Option.some.inj (hp0.symm.trans hp)
      have hne : pl'.blk ≠ pl.blk := hown0 ho k bk pl' hkb hk hp'
      refine ⟨pl', hp', hbr.ext (.refl _) (hfar _ hne), fun ho' b' blk' pl'' hne' hb' hp'' => ?_⟩
      rw [Mem.at_set hlt] at hb'
      split at hb'
      · rename_i hbb
        subst hbb
        rw [hp] at hp''
        cases Option.some.inj hp''
        exact Ne.symm hne
      · exact hown ho' b' blk' pl'' hne' hb' hp''
  · intro k bk pl' hk hko hkp
    rw [Mem.at_set hlt] at hk
    split at hk
    · rename_i hkb
      subst hkb
      rw [hp] at hkp
      cases Option.some.inj hkp
      exact h.fresh k blk pl hb ho hp
    · exact h.fresh k bk pl' hk hko hkp

theorem OW.store {b o n : Nat} {blk : Blk} {v : Value} {vs : List Value} (hx : t.ev x = .pointer (some ⟨b, o, none⟩)) (hy : t.ev y = v) (hb : m.at b = some blk) (ho : blk.own = true) (hz : szOf P ty = some n) (hv : v.cells.toList = vs)
    (hn : vs.length = n) (hn0 : n ≠ 0) (h1 : vs.all one = true) (hle : o + n ≤ blk.cells.length) (hj : ∀ r, v ≠ .chan r) :
    OW P ⟨dst, .store ty x y, rt, pos, after, guard⟩ t m undef (m.set b (some { blk with cells := putAt blk.cells o vs })) := by
  intro E ρ a w ht hst
  obtain ⟨pl, hp, he⟩ := (hx ▸ ht.ev x).ptr_inv
  obtain ⟨g1, g2⟩ := (hy ▸ ht.ev y).cells hj
  obtain ⟨pl', hp', ⟨c, ty', fr, hc, e1, e2, e3⟩, _⟩ := hst.mem b blk hb
  cases Option.some.inj (hp'.symm.trans hp)
  obtain ⟨-, f1, f2⟩ := e3 ho
  subst f2
  have hsz : (a.eval y).cells.size = n := by rw [← g1, ← hn, ← hv]; simp
  have hroom : o + pl.sh + n ≤ c.size := by
    have h0 : 0 < n := Nat.pos_of_ne_zero hn0
    obtain ⟨v', hv', _⟩ := e2 (o + n - 1) _ (List.getElem?_eq_getElem (by omega))
    obtain ⟨hi, _⟩ := Array.getElem?_eq_some_iff.1 hv'
    omega
  have hones : ∀ u ∈ (a.eval y).cells.toList, u.oneCell' = true := by
    intro u hu
    obtain ⟨i, hi, hiu⟩ := List.mem_iff_getElem.1 hu
    have hi' : i < vs.length := by simp at hi; omega
    obtain ⟨u', h3, h4⟩ := g2 i vs[i] (by rw [← Array.getElem?_toList, hv]; simp [hi'])
    rw [Array.getElem?_eq_getElem (by simpa using hi)] at h3
    have := h4.one (List.all_eq_true.1 h1 _ (List.getElem_mem hi'))
    rw [← Option.some.inj h3] at this
    rw [← hiu]
    simpa using this
  obtain ⟨w', r1, r2, r3, r4, r5, r6, r7⟩ := run_stores (P := P) pl.blk (o + pl.sh) ty' (0, 0) (a.eval y).cells.toList 0 c w hc (fun j _ => by simp) (by simp; omega) hones
  refine ⟨undef, w', ρ, .inr ⟨?_, rfl⟩, .refl _, .undef, hst.store hb ho hp hc r2 (by simp [putAt_length]) ?_ r3 r4 r5 r6 r7⟩
  · simp only [execOp, Instr.storeAt, he, Instr.sureAddr, storeVar, Sem.run_bind, Sem.run_pure, Result.andThen_ok, run_size hz]
    simp only [hsz, ne_eq, not_true_eq_false, if_false, Sem.run_bind, Sem.run_pure, Result.andThen_ok, r1]
  · intro i u hu
    rw [putAt_get] at hu
    rw [List.getElem?_toArray, putAt_get]
    simp only [Nat.add_zero, Array.length_toList]
    by_cases hin : o ≤ i ∧ i < o + vs.length ∧ i < blk.cells.length
    · rw [if_pos hin] at hu
      rw [if_pos (by omega), show i + pl.sh - (o + pl.sh) = i - o by omega]
      obtain ⟨u', h3, h4⟩ := g2 (i - o) u (by rw [← Array.getElem?_toList, hv]; exact hu)
      exact ⟨u', by simpa using h3, h4⟩
    · rw [if_neg hin] at hu
      have hil : i < blk.cells.length := by
        rcases Nat.lt_or_ge i blk.cells.length with h' | h'
        · exact h'
        · rw [List.getElem?_eq_none h'] at hu; cases hu
      rw [if_neg (by simp; omega)]
      obtain ⟨u', h3, h4⟩ := e2 i u hu
      exact ⟨u', by simpa using h3, h4⟩
end ops
end Ab
end Go
