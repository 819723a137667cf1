/- The small memory: '==' of slices with nil. -/
import Derived.Test.YtnocdnhhlppahaaAbM
set_option linter.unusedSimpArgs false
set_option linter.unusedVariables false
namespace Go
namespace Ab
open Go.RowKit
section
variable {P : Program} {t : T} {m : Mem} {dst : Option Tmp} {ty ty' rt : TypeId} {pos : String} {after : Array Edge} {guard : Option (Nat × Bool)} {x y : Operand}
theorem VRel.sl_inv {ρ : Ren} {a : Option Addr} {n c : Nat} {v : Value} (h : VRel ρ (.slice a n c) v) : ∃ a' n' c', v = .slice a' n' c' ∧ a'.isNone = a.isNone := by
  cases h with
  | scal h => exact ⟨_, _, _, rfl, rfl⟩
  | slice h h1 h2 h3 => exact ⟨_, _, _, rfl, rfl⟩
  | empty => exact ⟨_, _, _, rfl, rfl⟩
  | lost => exact ⟨_, _, _, rfl, rfl⟩
theorem sl_eq {e ty : TypeId} {a : Option Addr} {n c : Nat} {w : World} (hs : P.underlying ty = some (.slice e)) : (Op.equal ty (.slice a n c) (.slice none 0 0)).run P w = .ok a.isNone w := by
  unfold Op.equal Op.maxDepth Op.equalIn
  cases a <;> simp [run_und hs, Sem.run_bind, Sem.run_pure]
theorem OQ.slnil {a : Option Addr} {n c : Nat} {e : TypeId} (hx : t.ev x = .slice a n c) (hy : t.ev y = .slice none 0 0) (hs : P.underlying ty = some (.slice e)) : OQ P ⟨dst, .binOp .eql ty x y ty', rt, pos, after, guard⟩ t m (.bool a.isNone) :=
  fun ρ a' w ht _ => by
    obtain ⟨b, n', c', hb, hn⟩ := VRel.sl_inv (hx ▸ ht.ev x)
    have hy' : a'.eval y = .slice none 0 0 := VRel.of_scal (hy ▸ ht.ev y) rfl
    refine ⟨_, .scal rfl, fun w' _ => ?_⟩
    have := sl_eq (a := b) (n := n') (c := c') (w := w') hs
    rw [hn] at this
    simp [execOp, hb, hy', eqGuard, binOp, Sem.run_bind, Sem.run_pure, this]
theorem OQ.slnnil {a : Option Addr} {n c : Nat} {e : TypeId} (hx : t.ev x = .slice a n c) (hy : t.ev y = .slice none 0 0) (hs : P.underlying ty = some (.slice e)) : OQ P ⟨dst, .binOp .neq ty x y ty', rt, pos, after, guard⟩ t m (.bool (!a.isNone)) :=
  fun ρ a' w ht _ => by
    obtain ⟨b, n', c', hb, hn⟩ := VRel.sl_inv (hx ▸ ht.ev x)
    have hy' : a'.eval y = .slice none 0 0 := VRel.of_scal (hy ▸ ht.ev y) rfl
    refine ⟨_, .scal rfl, fun w' _ => ?_⟩
    have := sl_eq (a := b) (n := n') (c := c') (w := w') hs
    rw [hn] at this
    simp [execOp, hb, hy', eqGuard, binOp, Sem.run_bind, Sem.run_pure, this]
theorem OW.makeSl {st e : TypeId} {k z by' : Nat} {zs : List Value} (hx : t.ev x = .int .i64 k) (he : elemT P st = some e) (hz : szOf P e = some z) (h0 : zeroOf P e = some zs) (hs : zs.all scal = true) (hzl : zs.length = z) (hb : bytesOf' P e = some by') (hz0 : z ≠ 0) (hk : k * by' ≤ 140737488355327) (hk' : k ≤ 1099511627776) :
    OW P ⟨dst, .makeSlice st x x, rt, pos, after, guard⟩ t m (.slice (some ⟨m.length, 0, none⟩) k k) (m ++ [some ⟨(List.range (k * z)).map fun i => zs.getD (i % z) default, true, z⟩]) := by
  intro E ρ a w ht hst
  obtain ⟨i, zv, i1, i2, i3, i4, i5⟩ := info_of hz h0 hb
  have hxe : a.eval x = .int .i64 k := VRel.int (hx ▸ ht.ev x)
  have hw : IntKind.i64.wrap (k : Int) = k := wrap_id (by omega)
  have hcells : (Array.range (k * z)).map (fun x => zv.cells[x % zv.cells.size]!) = ((List.range (k * z)).map fun i => zs.getD (i % z) default).toArray := by
    rw [i5]
    apply Array.ext
    · simp
    · intro i h h'
      simp only [Array.getElem_map, Array.getElem_range, List.getElem_toArray, List.getElem_map, List.getElem_range, List.size_toArray, hzl]
      have hlt : i % z < zs.length := by rw [hzl]; exact Nat.mod_lt _ (Nat.pos_of_ne_zero hz0)
      simp [List.getD_eq_getElem?_getD, hlt]
  have hsc : ∀ (j : Nat) (v : Value), ((List.range (k * z)).map fun i => zs.getD (i % z) default)[j]? = some v → scal v = true := fun j v hv => by
    obtain ⟨i, _, rfl⟩ := List.mem_map.1 (List.mem_of_getElem? hv)
    have hlt : i % z < zs.length := by rw [hzl]; exact Nat.mod_lt _ (Nat.pos_of_ne_zero hz0)
    rw [List.getD_eq_getElem?_getD, List.getElem?_eq_getElem hlt]
    exact List.all_eq_true.1 hs _ (List.getElem_mem hlt)
  have hlen : ((List.range (k * z)).map fun i => zs.getD (i % z) default).length = k * z := by simp
  generalize hX : ((List.range (k * z)).map fun i => zs.getD (i % z) default) = X at *
  refine ⟨.slice (some ⟨w.heap.size, 0, none⟩) k k, _, _, .inl ?_, hst.ext_new ⟨w.heap.size, 0, z, X.toArray.size⟩, ?_, hst.new (ty := e) (esz := z) (c := X.toArray) (cells := X) (fun j v hv => ⟨v, by simpa using hv, .scal (hsc j v hv)⟩)⟩
  · have hti : (typeInfo e).run P w = .ok i w := by simp [typeInfo, i1, go_sem]
    obtain ⟨zv', hz1, hz2⟩ := run_zero (w := w) h0
    simp only [execOp, Instr.makeSlice, hxe, asInt, asIntOf, Sem.run_bind, Sem.run_pure, run_und (elemT_spec he), Result.andThen_ok, hw, run_size hz, hti, i4]
    have hcnd : (decide ((k : Int) < 0) || decide ((by' : Int) * (k : Int) > 2 ^ 48) || decide ((k : Int) < 0) || decide ((k : Int) > (k : Int))) = false := by
      have : ((k * by' : Nat) : Int) ≤ 140737488355327 := by omega
      rw [Int.natCast_mul, Int.mul_comm] at this
      simp only [Bool.or_eq_false_iff, decide_eq_false_iff_not]
      omega
    have hroom : (askRoom (k * by')).run P w = .ok () w := by
      unfold askRoom
      rw [if_neg (by show ¬ k * by' > 2 ^ 47; omega)]
      rfl
    rw [hcnd]
    simp only [Bool.false_eq_true, if_false, Sem.run_bind, hroom, Result.andThen_ok, run_size hz, Int.toNat_natCast]
    by_cases hkz : k * z = 0
    · rw [if_pos hkz]
      have hX0 : X = [] := List.eq_nil_of_length_eq_zero (by rw [hlen, hkz])
      subst hX0
      simp [Sem.run_bind, Sem.run_pure, newRow, hkz, go_sem]
    · rw [if_neg hkz]
      have hz1' : (zeroValue e).run P w = .ok zv' w := hz1
      have hzz : zv'.cells = zv.cells := by rw [hz2, i5]
      rw [← hzz] at hcells
      simp only [Sem.run_bind, hz1', Result.andThen_ok, Sem.run_pure]
      erw [hcells]
      simp [newRow, go_sem]
  · exact .slice (b := m.length) (o := 0) (pl := ⟨w.heap.size, 0, z, X.toArray.size⟩) (by unfold Ren.new; rw [if_pos rfl]) (Nat.le_refl _) (fun _ => Nat.le_refl _) (fun _ => by simp [hlen])
end
end Ab
end Go
