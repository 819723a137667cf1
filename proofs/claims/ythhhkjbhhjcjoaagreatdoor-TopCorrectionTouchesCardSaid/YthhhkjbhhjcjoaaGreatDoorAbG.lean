/- The small memory: what slices.Grow does to nil: cap, a slice of nil, the append of so many zeros. -/
import Derived.Test.YthhhkjbhhjcjoaaGreatDoorAbK
import Derived.Lib.AppendZeros
set_option linter.unusedSimpArgs false
set_option linter.unusedVariables false
namespace Go
namespace Ab
open Go.RowKit
section
variable {P : Program} {t : T} {m : Mem} {dst : Option Tmp} {ty ty' rt : TypeId} {pos : String} {after : Array Edge} {guard : Option (Nat × Bool)} {x y s : Operand}
theorem OQ.capNil {xt e : TypeId} (hx : t.ev x = .slice none 0 0) (hs : P.underlying xt = some (.slice e)) : OQ P ⟨dst, .call ⟨.builtin .cap, #[x], #[xt]⟩, rt, pos, after, guard⟩ t m (.int .i64 0) :=
  fun ρ a' w ht _ => by
    have hy : a'.eval x = .slice none 0 0 := VRel.of_scal (hx ▸ ht.ev x) rfl
    exact ⟨_, .scal rfl, fun w' _ => by simp [execOp, resolve, invoke, builtin, Builtin.cap_, hy, Sem.run_bind, Sem.run_pure, run_und hs, goInt]⟩
/-- So many zeros appended to nil: whole cells are not told. -/
theorem OW.appendZ {st tn e : TypeId} {j : Int} {z by' : Nat} {zs : List Value} (hs : t.ev s = .slice none 0 0) (hx : t.ev x = .int .i64 j) (he : elemT P st = some e) (hti : P.underlying tn = some (.int .i64)) (hz : szOf P e = some z) (h0 : zeroOf P e = some zs) (hzl : zs.length = z) (hb : bytesOf' P e = some by') (hz0 : 0 < z)
    (hn : 0 < j) (hsm : j * by' ≤ 140737488355328) (hsm' : j ≤ 4611686018427387904) :
    OW P ⟨dst, .call ⟨.builtin .append, #[s, x], #[st, tn]⟩, rt, pos, after, guard⟩ t m (.slice (some ⟨m.length, 0, none⟩) j.toNat INF) (m ++ [some ⟨[], true, z⟩]) := by
  obtain ⟨n, rfl⟩ : ∃ n : Nat, j = n := ⟨j.toNat, by omega⟩
  rw [← Int.natCast_mul] at hsm
  rw [Int.toNat_natCast]
  have hn : 0 < n := by omega
  have hsm : n * by' ≤ 140737488355328 := by omega
  intro E ρ a w ht hst
  obtain ⟨i, zv, i1, i2, i3, i4, i5⟩ := info_of hz h0 hb
  have e1 := (hs ▸ ht.ev s).nil_inv
  have e2 : a.eval x = .int .i64 n := VRel.int (hx ▸ ht.ev x)
  have hrun := Lib.run_append_nil_zeros (P := P) w st tn rt e i zv .i64 .i64 (elemT_spec he) hti i1 i2 n hn (by rw [i3]; exact hz0) (by omega) (by rw [i4]; omega)
  have hg := grownCap_ge w n 0 e
  refine ⟨.slice (some ⟨w.heap.size, 0, none⟩) n (grownCap w n 0 e), _, ρ.new m.length ⟨w.heap.size, 0, z, (Builtin.zeroCells zv.cells n ++ Builtin.zeroCells zv.cells (grownCap w n 0 e - n)).size⟩, .inl ?_, ?_, ?_, (hst.drew).new (ty := e) (esz := z) (c := Builtin.zeroCells zv.cells n ++ Builtin.zeroCells zv.cells (grownCap w n 0 e - n)) (cells := []) fun j v hv => by simp at hv⟩
  · simp only [execOp, resolve, invoke, builtin, e1, e2, Sem.run_bind, Sem.run_pure, Result.andThen_ok, List.map_toArray, List.map_cons, List.map_nil]
    erw [hrun]
    rfl
  · exact hst.drew.ext_new _
  · refine VRel.slice (ρ := ρ.new m.length ⟨w.heap.size, 0, z, (Builtin.zeroCells zv.cells n ++ Builtin.zeroCells zv.cells (grownCap w n 0 e - n)).size⟩) (pl := ⟨w.heap.size, 0, z, (Builtin.zeroCells zv.cells n ++ Builtin.zeroCells zv.cells (grownCap w n 0 e - n)).size⟩) (b := m.length) (o := 0) (c := INF) (by unfold Ren.new; rw [if_pos rfl]) hg (fun h => absurd h (by decide)) (fun _ => ?_)
    simp only [Array.size_append, zero_room i5 hzl 0, Nat.zero_add]
    rw [← Nat.add_mul]
    exact Nat.mul_le_mul_right _ (by omega)
/-- A slice of five values of one cell each. -/
theorem OW.build5 {parts : Array (Nat × Operand)} {z v0 v1 v2 v3 v4 : Value} {g : Bool} (hpl : elemOf' P ty = some (none, 1, g)) (hz : ((match P.underlying ty with | some (.slice e) => zeroOf P e | _ => none)) = some [z]) (hs : scal z = true)
    (hpv : parts.toList.map (fun p => (p.1, t.ev p.2)) = [(0, v0), (1, v1), (2, v2), (3, v3), (4, v4)]) (h0 : isJ v0 = false ∧ v0.cells = #[v0]) (h1 : isJ v1 = false ∧ v1.cells = #[v1]) (h2 : isJ v2 = false ∧ v2.cells = #[v2]) (h3 : isJ v3 = false ∧ v3.cells = #[v3]) (h4 : isJ v4 = false ∧ v4.cells = #[v4]) :
    OW P ⟨dst, .buildSlice ty 5 parts, rt, pos, after, guard⟩ t m (.slice (some ⟨m.length, 0, none⟩) 5 5) (m ++ [some ⟨[v0, v1, v2, v3, v4], true, 1⟩]) := by
  refine OW.buildSl hpl hz (by simp [hs]) hpv ?_ (by decide) (by decide) rfl ?_
  · simp [partsOk, h0, h1, h2, h3, h4]
  · simp [fillL, putAt, h0, h1, h2, h3, h4, List.range, List.range.loop]
end
end Ab
end Go
