/- OrbitCorrects: states cloned and joined; Corrected and Without of the program. -/
/- OrbitCorrects: Corrected and Without of the program for right orbits. -/
/- OrbitCorrects: Corrected, Without and Same of the reference. -/
import Derived.Test.Ythpjhpfebjjanaa02Bm
import Derived.Test.YthpjhpfebjjanaaAbG
import Derived.Test.YthpjhpfebjjanaaAbS
import Derived.Test.YthpjhpfebjjanaaLs
set_option linter.unusedSimpArgs false
set_option linter.unusedVariables false
section
namespace Go.Ab
open Go Go.RowKit
section
variable {P : Program} {t : T} {m : Mem} {dst : Option Tmp} {ty rt : TypeId} {pos : String} {after : Array Edge} {guard : Option (Nat × Bool)} {x : Operand} {lo hi : Option Operand} {l h u : Int}
theorem OQ.sliceTo {b n c z k : Nat} {g : Bool} {blk : Blk} (hx : t.ev x = .slice (some ⟨b, 0, none⟩) n c) (hf : elemOf' P ty = some (none, z, g)) (hb : m.at b = some blk) (hz : blk.esz = 0 ∨ blk.esz = z)
    (hl : bnd t lo 0 = some 0) (hh : bnd t hi n = some (k : Int)) (h2 : k ≤ n) : OQ P ⟨dst, .slice ty x lo hi none, rt, pos, after, guard⟩ t m (.slice (some ⟨b, 0, none⟩) k c) := by
  have := OQ.sliceS (dst := dst) (rt := rt) (pos := pos) (after := after) (guard := guard) hx hf hb hz hl hh (by decide) (by omega) (by omega)
  simpa using this
theorem OQ.sliceFrom {b n c z k k2 : Nat} {g : Bool} {blk : Blk} (hx : t.ev x = .slice (some ⟨b, 0, none⟩) n c) (hf : elemOf' P ty = some (none, z, g)) (hb : m.at b = some blk) (hz : blk.esz = 0 ∨ blk.esz = z)
    (hl : bnd t lo 0 = some ((k : Int) + 1)) (hh : bnd t hi n = some (n : Int)) (h2 : k + 1 + k2 = n) : OQ P ⟨dst, .slice ty x lo hi none, rt, pos, after, guard⟩ t m (.slice (some ⟨b, (k + 1) * z, none⟩) k2 c) := by
  have := OQ.sliceS (dst := dst) (rt := rt) (pos := pos) (after := after) (guard := guard) hx hf hb hz hl hh (by omega) (by omega) (by omega)
  rw [show ((k : Int) + 1).toNat = k + 1 by omega, show ((n : Int)).toNat - (k + 1) = k2 by omega, Nat.zero_add] at this
  exact this
end
end Go.Ab
namespace Go.Proofs.Ythpjhpfebjjanaa
open Go Go.RowKit Go.Ob Go.Ab
set_option maxRecDepth 100000
set_option maxHeartbeats 1000000
attribute [local irreducible] OQ OW AL AW AD AF SW
abbrev ob0 : Value := .agg #[.string ⟨#[]⟩, .int .i64 0, .slice none 0 0]
/-- A list without one state. -/
def outL (l : List St) (k : Nat) : List St := l.take k ++ l.drop (k + 1)
theorem outL_len (l : List St) (k : Nat) (h : k < l.length) : (outL l k).length = l.length - 1 := by
  unfold outL
  rw [List.length_append, List.length_take, List.length_drop]
  omega
theorem CheckOrbit_q {m : Mem} {v : Value} {l : List St} {nm : ByteArray} {bd : Int} (hS : SlB m v l) (ho : Ors nm l) :
    PCalls Try.prog 46 [obW nm bd v] m (.tuple #[.int .i64 (orbE nm.data.toList bd l).1, .int .i64 (orbE nm.data.toList bd l).2]) :=
  of_sl hS ho rfl rfl fun w a cap hO => CheckOrbit_any nm bd a cap l w hO.nm hO.sts hO.cap hO.len
theorem flS_ld {l : List St} {b z : Nat} {m : Mem} (o : Bool) (h : m.at b = some ⟨flatS l, o, z⟩) (i k : Nat) (hk : i + k ≤ l.length) : m.ld b (i * 5) (k * 5) = some (flatS ((l.drop i).take k)) := by
  unfold Mem.ld
  rw [h]
  have h1 := flatS_len l
  show (if i * 5 + k * 5 ≤ (flatS l).length then some (((flatS l).drop (i * 5)).take (k * 5)) else none) = _
  rw [if_pos (by omega)]
  congr 1
  have e : flatS l = flatS (l.take i) ++ (flatS ((l.drop i).take k) ++ flatS ((l.drop i).drop k)) := by
    unfold flatS
    rw [← List.flatMap_append, ← List.flatMap_append, List.take_append_drop, List.take_append_drop]
  have e1 : (flatS (l.take i)).length = i * 5 := by rw [flatS_len, List.length_take]; omega
  have e2 : (flatS ((l.drop i).take k)).length = k * 5 := by rw [flatS_len, List.length_take, List.length_drop]; omega
  rw [e, List.drop_append_of_le_length (by omega), List.drop_of_length_le (by omega), List.nil_append, List.take_append_of_le_length (by omega), List.take_of_length_le (by omega)]

theorem flS_set {l : List St} {k : Nat} {s : St} (hk : k < l.length) : putAt (flatS l) (k * 5) (stC s) = flatS (l.set k s) := Go.Ls.flat_put stC 5 (by decide) (fun _ => rfl) St0 s l k hk
theorem set_flatS {l : List St} {k : Nat} {s : St} (hk : k < l.length) : (((((flatS l).set (k * 5) (.int .i64 s.t)).set (k * 5 + 1) (.int .i64 s.x)).set (k * 5 + 2) (.int .i64 s.y)).set (k * 5 + 3) (.int .i64 s.z)).set (k * 5 + 4) (.int .i64 s.e) = flatS (l.set k s) := by
  rw [← flS_set hk]
  rfl
theorem Clone_c (l : List St) (h1 : 1 ≤ l.length) (h2 : l.length ≤ 1000) (z : Nat) :
    ACalls Try.prog 118 [.slice (some ⟨0, 0, none⟩) l.length INF] [some ⟨flatS l, false, z⟩] (.slice (some ⟨1, 0, none⟩) l.length INF) [some ⟨flatS l, false, z⟩, some ⟨flatS l, true, 5⟩] := by
  have hld : ∀ rest : Mem, Mem.ld (some ⟨flatS l, false, z⟩ :: rest) 0 0 (l.length * 5) = some (flatS l) := fun rest => by
    have := flS_ld (l := l) (b := 0) (z := z) (m := some ⟨flatS l, false, z⟩ :: rest) false rfl 0 l.length (by omega)
    simpa using this
  refine ACalls.enter (t := [.slice (some ⟨0, 0, none⟩) l.length INF, undef, undef, undef, undef, undef, undef, undef]) Try.func118 rfl rfl fun E hE => ?_
  repeat' (first
    | with_reducible refine Then.n ?_
    | with_reducible refine Then.r ?_
    | with_reducible refine Then.x ?_
    | with_reducible refine InB.n ?_
    | with_reducible refine InB.r ?_
    | with_reducible refine InB.hit ?_
    | with_reducible refine InB.miss (by decide) ?_
    | ((with_reducible refine AL.on ?_); first
      | ((first | ((with_reducible refine AL.k_assign ?_); first | (refine AL.q rfl (OQ.assign (by conv => lhs; whnf)) ?_)) | ((with_reducible refine AL.k_move ?_); first | (refine AL.q rfl (OQ.move (by conv => lhs; whnf)) ?_)) | ((with_reducible refine AL.k_binOp ?_); first | refine AL.q rfl (OQ.slnil rfl rfl Try.underlying22) ?_)); (conv => (arg 5; try tactic => exact nrm)))
      | ((first | ((with_reducible refine AL.k_buildSlice ?_); first | refine AL.w rfl (OW.buildSl0 (ty := 22) (z := (none, 5, true)) (by kernel_rfl)) ?_) | ((with_reducible refine AL.k_call ?_); first | refine AL.w rfl (OW.append (n := 0) (c := 0) (b := 1) (blk := ⟨[], true, 5⟩) (z := 5) (by' := 40) (zs := [.int .i64 0, .int .i64 0, .int .i64 0, .int .i64 0, .int .i64 0]) (e := 55) rfl rfl (by kernel_rfl) (by kernel_rfl) (by kernel_rfl) rfl (by kernel_rfl) (by omega) rfl rfl rfl (by decide) (Nat.le_refl _) (hld _) (Go.Ls.one_of_scal (flatS_scal l)) (by omega) (by omega)) ?_)); (conv => (arg 5; try tactic => exact nrm)); (conv => (arg 6; try tactic => exact nrm)))
      | refine AL.nil ?_)
    | ((with_reducible refine AW.on ?_); first
      | refine AW.seq ?_
      | refine AW.skip ?_
      | refine AW.exit ?_
      | refine AW.ret ?_
      | refine AW.block ?_
      | (refine AW.region (id := 2) ?_; exfalso; (simp at *; done); done)
      | refine AW.region ?_
      | (refine AW.conds rfl (fun hc => ?_) (fun hc => ?_) <;> (try simp only [decide_eq_true_eq, decide_eq_false_iff_not, Bool.not_true, Bool.not_false, Bool.not_eq_true', Bool.not_eq_false', Int.not_lt, Int.not_le, Classical.not_not, ne_eq] at hc) <;> first | (exfalso; first | contradiction | ((simp at *; done)); done) | skip))
    | ((with_reducible refine FinA.on ?_); (refine FinA.keep 1 [2] (.inl rfl) (.tmp (by conv => lhs; whnf) .nil) (by simp [rn3, rn2, rn1, kσ, pack]) rfl (Nat.le_of_eq hE) rfl rfl ⟨⟨_, rfl, rfl, rfl, .inl ⟨rfl, flatS_scal l⟩⟩, ⟨_, rfl, rfl, rfl, .inl ⟨by simp, flatS_scal l⟩⟩, trivial⟩)))
theorem Clone_q {m : Mem} {b n : Nat} {blk : Blk} {l : List St} (hb : m.at b = some blk) (hc : blk.cells = flatS l) (hn : l.length = n) (h1 : 1 ≤ l.length) (h2 : l.length ≤ 1000) :
    ACalls Try.prog 118 [.slice (some ⟨b, 0, none⟩) n INF] m (.slice (some ⟨m.length, 0, none⟩) n INF) (m ++ [some ⟨flatS l, true, 5⟩]) := by
  subst hn
  refine ACalls.via1 hb hc (flatS_scal l) (flatS_scal l) (Clone_c l h1 h2) rfl rfl ?_ rfl
  simp [rn3, rn2, rn1, τn]

section
variable {nm : ByteArray} {bd : Int}
theorem checked_0c (l : List St) (z : Nat) (ho : Ors nm l) (he : (orbE nm.data.toList bd l).2 = 0) :
    PCalls Try.prog 119 [obI nm bd 0 l] [some ⟨flatS l, false, z⟩] (.tuple #[obI nm bd 0 l, .int .i64 0]) := by
  have H := fun (m : Mem) (v : Value) (hS : SlB m v l) => CheckOrbit_q (bd := bd) hS ho
  rw [he] at H
  clear he
  generalize (orbE nm.data.toList bd l).1 = x at *
  refine PCalls.enter (t := [obI nm bd 0 l, undef, undef, undef, undef, undef, undef, undef, undef, undef, undef, undef, undef, undef, undef, undef]) Try.func119 rfl (ro1 _ rfl) rfl fun E => ?_
  repeat' (first
    | with_reducible refine Then.n ?_
    | with_reducible refine Then.r ?_
    | with_reducible refine Then.x ?_
    | with_reducible refine InB.n ?_
    | with_reducible refine InB.r ?_
    | with_reducible refine InB.hit ?_
    | with_reducible refine InB.miss (by decide) ?_
    | ((with_reducible refine AL.on ?_); first
      | ((first | ((with_reducible refine AL.k_assign ?_); first | (refine AL.q rfl (OQ.assign (by conv => lhs; whnf)) ?_)) | ((with_reducible refine AL.k_move ?_); first | (refine AL.q rfl (OQ.move (by conv => lhs; whnf)) ?_)) | ((with_reducible refine AL.k_load ?_); first | refine AL.q rfl (OQ.loadN (ty := 24) (n := 3) rfl (by kernel_rfl) (by kernel_rfl) rfl) ?_) | ((with_reducible refine AL.k_extract ?_); first | refine AL.q rfl (OQ.extract rfl rfl) ?_) | ((with_reducible refine AL.k_binOp ?_); first | refine AL.q rfl (OQ.neq rfl rfl) ?_)); (conv => (arg 5; try tactic => exact nrm)))
      | ((first | ((with_reducible refine AL.k_call ?_); first | refine AL.pcall (g := 46) rfl (by kernel_rfl) rfl ((by exact H _ _ (.blk 0 _ rfl rfl rfl))) ?_) | ((with_reducible refine AL.k_build ?_); first | refine AL.q rfl (OQ.buildS (ty := 24) (zs := [.string ⟨#[]⟩, .int .i64 0, .slice none 0 0]) (pls := [(0, 1), (1, 1), (2, 1)]) (by kernel_rfl) rfl (by kernel_rfl) rfl rfl rfl) ?_)); (conv => (arg 5; try tactic => exact nrm)))
      | ((first | ((with_reducible refine AL.k_store ?_); first | (refine AL.w rfl (OW.store (ty := 24) (n := 3) rfl (by conv => lhs; whnf) rfl rfl (by kernel_rfl) rfl rfl (by decide) rfl (Nat.le_of_ble_eq_true rfl) (by intro r h; cases h)) ?_)) | ((with_reducible refine AL.k_box ?_); first | (refine AL.w rfl (OW.box (by conv => lhs; whnf) (by intro r h; cases h)) ?_)) | ((with_reducible refine AL.k_alloc ?_); first | refine AL.w rfl (OW.alloc (ty := 24) (z := [.string ⟨#[]⟩, .int .i64 0, .slice none 0 0]) (by kernel_rfl) rfl) ?_)); (conv => (arg 5; try tactic => exact nrm)); (conv => (arg 6; try tactic => exact nrm)))
      | refine AL.nil ?_)
    | ((with_reducible refine AW.on ?_); first
      | refine AW.seq ?_
      | refine AW.skip ?_
      | refine AW.exit ?_
      | refine AW.ret ?_
      | refine AW.block ?_
      | (refine AW.region (id := 3) ?_; exfalso; (simp at *; done); done)
      | refine AW.region ?_
      | (refine AW.conds rfl (fun hc => ?_) (fun hc => ?_) <;> (try simp only [decide_eq_true_eq, decide_eq_false_iff_not, Bool.not_true, Bool.not_false, Bool.not_eq_true', Bool.not_eq_false', Int.not_lt, Int.not_le, Classical.not_not, ne_eq] at hc) <;> first | (exfalso; first | contradiction | ((simp at *; done)); done) | skip))
    | ((with_reducible refine FinP.on ?_); (first | refine FinP.ret (.cellN (n := 3) (by conv => lhs; whnf) (by kernel_rfl) (by kernel_rfl) rfl (.tmp (by conv => lhs; whnf) .nil)) ?_ rfl | refine FinP.end (.cellN (n := 3) (by conv => lhs; whnf) (by kernel_rfl) (by kernel_rfl) rfl (.tmp (by conv => lhs; whnf) .nil)) ?_ rfl); (try simp only [pack, List.drop, List.take]); all_goals (rfl)))
theorem checked_ec (l : List St) (z : Nat) (ho : Ors nm l) (e : Int) (he : (orbE nm.data.toList bd l).2 = e) (h0 : e ≠ 0) :
    PCalls Try.prog 119 [obI nm bd 0 l] [some ⟨flatS l, false, z⟩] (.tuple #[ob0, .int .i64 e]) := by
  have H := fun (m : Mem) (v : Value) (hS : SlB m v l) => CheckOrbit_q (bd := bd) hS ho
  rw [he] at H
  clear he
  generalize (orbE nm.data.toList bd l).1 = x at *
  refine PCalls.enter (t := [obI nm bd 0 l, undef, undef, undef, undef, undef, undef, undef, undef, undef, undef, undef, undef, undef, undef, undef]) Try.func119 rfl (ro1 _ rfl) rfl fun E => ?_
  repeat' (first
    | with_reducible refine Then.n ?_
    | with_reducible refine Then.r ?_
    | with_reducible refine Then.x ?_
    | with_reducible refine InB.n ?_
    | with_reducible refine InB.r ?_
    | with_reducible refine InB.hit ?_
    | with_reducible refine InB.miss (by decide) ?_
    | ((with_reducible refine AL.on ?_); first
      | ((first | ((with_reducible refine AL.k_assign ?_); first | (refine AL.q rfl (OQ.assign (by conv => lhs; whnf)) ?_)) | ((with_reducible refine AL.k_move ?_); first | (refine AL.q rfl (OQ.move (by conv => lhs; whnf)) ?_)) | ((with_reducible refine AL.k_load ?_); first | refine AL.q rfl (OQ.loadN (ty := 24) (n := 3) rfl (by kernel_rfl) (by kernel_rfl) rfl) ?_) | ((with_reducible refine AL.k_extract ?_); first | refine AL.q rfl (OQ.extract rfl rfl) ?_) | ((with_reducible refine AL.k_binOp ?_); first | refine AL.q rfl (OQ.neq rfl rfl) ?_)); (conv => (arg 5; try tactic => exact nrm)))
      | ((first | ((with_reducible refine AL.k_call ?_); first | refine AL.pcall (g := 46) rfl (by kernel_rfl) rfl ((by exact H _ _ (.blk 0 _ rfl rfl rfl))) ?_) | ((with_reducible refine AL.k_build ?_); first | refine AL.q rfl (OQ.buildS (ty := 24) (zs := [.string ⟨#[]⟩, .int .i64 0, .slice none 0 0]) (pls := [(0, 1), (1, 1), (2, 1)]) (by kernel_rfl) rfl (by kernel_rfl) rfl rfl rfl) ?_)); (conv => (arg 5; try tactic => exact nrm)))
      | ((first | ((with_reducible refine AL.k_store ?_); first | (refine AL.w rfl (OW.store (ty := 24) (n := 3) rfl (by conv => lhs; whnf) rfl rfl (by kernel_rfl) rfl rfl (by decide) rfl (Nat.le_of_ble_eq_true rfl) (by intro r h; cases h)) ?_)) | ((with_reducible refine AL.k_box ?_); first | (refine AL.w rfl (OW.box (by conv => lhs; whnf) (by intro r h; cases h)) ?_)) | ((with_reducible refine AL.k_alloc ?_); first | refine AL.w rfl (OW.alloc (ty := 24) (z := [.string ⟨#[]⟩, .int .i64 0, .slice none 0 0]) (by kernel_rfl) rfl) ?_)); (conv => (arg 5; try tactic => exact nrm)); (conv => (arg 6; try tactic => exact nrm)))
      | refine AL.nil ?_)
    | ((with_reducible refine AW.on ?_); first
      | refine AW.seq ?_
      | refine AW.skip ?_
      | refine AW.exit ?_
      | refine AW.ret ?_
      | refine AW.block ?_
      | (refine AW.region (id := 4) ?_; exfalso; (simp_all; done); done)
      | refine AW.region ?_
      | (refine AW.conds rfl (fun hc => ?_) (fun hc => ?_) <;> (try simp only [decide_eq_true_eq, decide_eq_false_iff_not, Bool.not_true, Bool.not_false, Bool.not_eq_true', Bool.not_eq_false', Int.not_lt, Int.not_le, Classical.not_not, ne_eq] at hc) <;> first | (exfalso; first | contradiction | ((simp_all; done)); done) | skip))
    | ((with_reducible refine FinP.on ?_); (first | refine FinP.ret (.cellN (n := 3) (by conv => lhs; whnf) (by kernel_rfl) (by kernel_rfl) rfl (.tmp (by conv => lhs; whnf) .nil)) ?_ rfl | refine FinP.end (.cellN (n := 3) (by conv => lhs; whnf) (by kernel_rfl) (by kernel_rfl) rfl (.tmp (by conv => lhs; whnf) .nil)) ?_ rfl); (try simp only [pack, List.drop, List.take]); all_goals (rfl)))
theorem lies1 {m : Mem} {i : Nat} {blk : Blk} {l : List St} (h : m.at i = some blk) (hc : blk.cells = flatS l) : Lies [some ⟨flatS l, false, blk.esz⟩] m (fun _ => i) := fun b bk hb => by
  have := Mem.at_lt hb
  match b, this with
  | 0, _ =>
    cases hb
    exact ⟨rfl, ok1_of_scal (flatS_scal l), blk, h, rfl, fun j v hv => by rw [rn1_scal (List.all_eq_true.1 (flatS_scal l) v (List.mem_of_getElem? hv)), hc]; exact hv⟩
  | b + 1, h => exact absurd h (by simp)
theorem checked_0 {m : Mem} {i n : Nat} {blk : Blk} {l : List St} (h : m.at i = some blk) (hc : blk.cells = flatS l) (hn : l.length = n) (ho : Ors nm l) (he : (orbE nm.data.toList bd l).2 = 0) :
    PCalls Try.prog 119 [obN nm bd i n] m (.tuple #[obN nm bd i n, .int .i64 0]) := by
  subst hn
  exact PCalls.via (fun _ => i) (checked_0c l blk.esz ho he) (lies1 h hc) rfl rfl rfl rfl
theorem checked_e {m : Mem} {i n : Nat} {blk : Blk} {l : List St} (h : m.at i = some blk) (hc : blk.cells = flatS l) (hn : l.length = n) (ho : Ors nm l) (e : Int) (he : (orbE nm.data.toList bd l).2 = e) (h0 : e ≠ 0) :
    PCalls Try.prog 119 [obN nm bd i n] m (.tuple #[ob0, .int .i64 e]) := by
  subst hn
  exact PCalls.via (fun _ => i) (checked_ec l blk.esz ho e he h0) (lies1 h hc) rfl rfl rfl rfl

/-- What a wrong orbit, or a state that is not there, gives. -/
theorem Corrected_ec (l : List St) (z : Nat) (ho : Ors nm l) (k : Int) (s : St) (e : Int) (he : (if (orbE nm.data.toList bd l).2 = 0 then (if rngB k 0 (l.length - 1) = true then 0 else 6) else (orbE nm.data.toList bd l).2) = e) (h0 : e ≠ 0) :
    PCalls Try.prog 62 [obI nm bd 0 l, .int .i64 k, stV s] [some ⟨flatS l, false, z⟩] (.tuple #[ob0, .int .i64 e]) := by
  have H := fun (m : Mem) (v : Value) (hS : SlB m v l) => CheckOrbit_q (bd := bd) hS ho
  have hlen := ho.len
  generalize (orbE nm.data.toList bd l).1 = x at *
  generalize (orbE nm.data.toList bd l).2 = e0 at *
  have HW := within_q k 0 (l.length - 1)
  generalize rngB k 0 (l.length - 1) = y at *
  obtain ⟨hne, rfl⟩ | ⟨rfl, rfl, rfl⟩ : (e0 ≠ 0 ∧ e0 = e) ∨ (e0 = 0 ∧ y = false ∧ 6 = e) := by
    by_cases g : e0 = 0
    · rw [if_pos g] at he
      cases y
      · exact .inr ⟨g, rfl, he⟩
      · exact absurd he.symm h0
    · rw [if_neg g] at he
      exact .inl ⟨g, he⟩
  ·
    refine PCalls.enter (t := [obI nm bd 0 l, .int .i64 k, stV s, undef, undef, undef, undef, undef, undef, undef, undef, undef, undef, undef, undef, undef, undef, undef, undef, undef, undef, undef, undef, undef, undef, undef, undef, undef, undef, undef, undef, undef, undef, undef, undef, undef, undef, undef, undef, undef]) Try.func62 rfl (ro1 _ rfl) rfl fun E => ?_
    repeat' (first
      | with_reducible refine Then.n ?_
      | with_reducible refine Then.r ?_
      | with_reducible refine Then.x ?_
      | with_reducible refine InB.n ?_
      | with_reducible refine InB.r ?_
      | with_reducible refine InB.hit ?_
      | with_reducible refine InB.miss (by decide) ?_
      | ((with_reducible refine AL.on ?_); first
        | ((first | ((with_reducible refine AL.k_assign ?_); first | (refine AL.q rfl (OQ.assign (by conv => lhs; whnf)) ?_)) | ((with_reducible refine AL.k_load ?_); first | refine AL.q rfl (OQ.loadN (ty := 24) (n := 3) rfl (by kernel_rfl) (by kernel_rfl) rfl) ?_ | (refine AL.q rfl (OQ.load1 (ty := 22) rfl (by kernel_rfl) (by conv => lhs; whnf)) ?_) | refine AL.q rfl (OQ.loadN (ty := 55) (n := 5) rfl (by kernel_rfl) (by kernel_rfl) rfl) ?_) | ((with_reducible refine AL.k_move ?_); first | (refine AL.q rfl (OQ.move (by conv => lhs; whnf)) ?_)) | ((with_reducible refine AL.k_call ?_); first | refine AL.q rfl (OQ.lenS (xt := 22) (r := (none, 5, true)) rfl (by kernel_rfl)) ?_) | ((with_reducible refine AL.k_extract ?_); first | refine AL.q rfl (OQ.extract rfl rfl) ?_) | ((with_reducible refine AL.k_fieldAddr ?_); first | refine AL.q rfl (OQ.fieldA (ty := 24) (i := 2) (n := 1) (off := 2) (g := false) rfl (by kernel_rfl) (by decide)) ?_) | ((with_reducible refine AL.k_binOp ?_); first | refine AL.q rfl (OQ.neq rfl rfl) ?_ | refine AL.q rfl (OQ.subi rfl rfl (by omega)) ?_ | refine AL.q rfl (OQ.sub rfl rfl) ?_) | ((with_reducible refine AL.k_unOp ?_); first | refine AL.q rfl (OQ.not rfl) ?_) | ((with_reducible refine AL.k_indexAddr ?_); first | refine AL.q rfl (OQ.idxAddr (ty := 22) (z := 5) (g := true) rfl rfl (by kernel_rfl) (by omega) (by omega)) ?_)); (conv => (arg 5; try tactic => exact nrm)))
        | ((first | ((with_reducible refine AL.k_call ?_); first | refine AL.pcall (g := 46) rfl (by kernel_rfl) rfl ((by exact H _ _ (.blk 0 _ rfl rfl rfl))) ?_) | ((with_reducible refine AL.k_build ?_); first | refine AL.q rfl (OQ.buildS (ty := 24) (zs := [.string ⟨#[]⟩, .int .i64 0, .slice none 0 0]) (pls := [(0, 1), (1, 1), (2, 1)]) (by kernel_rfl) rfl (by kernel_rfl) rfl rfl rfl) ?_)); (conv => (arg 5; try tactic => exact nrm)))
        | ((first | ((with_reducible refine AL.k_store ?_); first | (refine AL.w rfl (OW.store (ty := 24) (n := 3) rfl (by conv => lhs; whnf) rfl rfl (by kernel_rfl) rfl rfl (by decide) rfl (Nat.le_of_ble_eq_true rfl) (by intro r h; cases h)) ?_) | (refine AL.w rfl (OW.store (ty := 22) (n := 1) rfl (by conv => lhs; whnf) rfl rfl (by kernel_rfl) rfl rfl (by decide) rfl (Nat.le_of_ble_eq_true rfl) (by intro r h; cases h)) ?_) | (refine AL.w rfl (OW.store (ty := 55) (n := 5) rfl (by conv => lhs; whnf) rfl rfl (by kernel_rfl) rfl rfl (by decide) rfl (Nat.le_of_ble_eq_true rfl) (by intro r h; cases h)) ?_)) | ((with_reducible refine AL.k_box ?_); first | (refine AL.w rfl (OW.box (by conv => lhs; whnf) (by intro r h; cases h)) ?_)) | ((with_reducible refine AL.k_alloc ?_); first | refine AL.w rfl (OW.alloc (ty := 24) (z := [.string ⟨#[]⟩, .int .i64 0, .slice none 0 0]) (by kernel_rfl) rfl) ?_)); (conv => (arg 5; try tactic => exact nrm)); (conv => (arg 6; try tactic => exact nrm)))
        | refine AL.nil ?_)
      | ((with_reducible refine AW.on ?_); first
        | refine AW.seq ?_
        | refine AW.skip ?_
        | refine AW.exit ?_
        | refine AW.ret ?_
        | refine AW.block ?_
        | (refine AW.region (id := 4) ?_; exfalso; (simp_all; done); done)
        | refine AW.region ?_
        | (refine AW.conds rfl (fun hc => ?_) (fun hc => ?_) <;> (try simp only [decide_eq_true_eq, decide_eq_false_iff_not, Bool.not_true, Bool.not_false, Bool.not_eq_true', Bool.not_eq_false', Int.not_lt, Int.not_le, Classical.not_not, ne_eq] at hc) <;> first | (exfalso; first | contradiction | ((simp_all; done)); done) | skip))
      | ((with_reducible refine FinP.on ?_); (first | refine FinP.ret (.cellN (n := 3) (by conv => lhs; whnf) (by kernel_rfl) (by kernel_rfl) rfl (.tmp (by conv => lhs; whnf) .nil)) ?_ rfl | refine FinP.end (.cellN (n := 3) (by conv => lhs; whnf) (by kernel_rfl) (by kernel_rfl) rfl (.tmp (by conv => lhs; whnf) .nil)) ?_ rfl); (try simp only [pack, List.drop, List.take]); all_goals (rfl)))
  ·
    refine PCalls.enter (t := [obI nm bd 0 l, .int .i64 k, stV s, undef, undef, undef, undef, undef, undef, undef, undef, undef, undef, undef, undef, undef, undef, undef, undef, undef, undef, undef, undef, undef, undef, undef, undef, undef, undef, undef, undef, undef, undef, undef, undef, undef, undef, undef, undef, undef]) Try.func62 rfl (ro1 _ rfl) rfl fun E => ?_
    repeat' (first
      | with_reducible refine Then.n ?_
      | with_reducible refine Then.r ?_
      | with_reducible refine Then.x ?_
      | with_reducible refine InB.n ?_
      | with_reducible refine InB.r ?_
      | with_reducible refine InB.hit ?_
      | with_reducible refine InB.miss (by decide) ?_
      | ((with_reducible refine AL.on ?_); first
        | ((first | ((with_reducible refine AL.k_assign ?_); first | (refine AL.q rfl (OQ.assign (by conv => lhs; whnf)) ?_)) | ((with_reducible refine AL.k_load ?_); first | refine AL.q rfl (OQ.loadN (ty := 24) (n := 3) rfl (by kernel_rfl) (by kernel_rfl) rfl) ?_ | (refine AL.q rfl (OQ.load1 (ty := 22) rfl (by kernel_rfl) (by conv => lhs; whnf)) ?_) | refine AL.q rfl (OQ.loadN (ty := 55) (n := 5) rfl (by kernel_rfl) (by kernel_rfl) rfl) ?_) | ((with_reducible refine AL.k_move ?_); first | (refine AL.q rfl (OQ.move (by conv => lhs; whnf)) ?_)) | ((with_reducible refine AL.k_call ?_); first | refine AL.q rfl (OQ.lenS (xt := 22) (r := (none, 5, true)) rfl (by kernel_rfl)) ?_) | ((with_reducible refine AL.k_extract ?_); first | refine AL.q rfl (OQ.extract rfl rfl) ?_) | ((with_reducible refine AL.k_fieldAddr ?_); first | refine AL.q rfl (OQ.fieldA (ty := 24) (i := 2) (n := 1) (off := 2) (g := false) rfl (by kernel_rfl) (by decide)) ?_) | ((with_reducible refine AL.k_binOp ?_); first | refine AL.q rfl (OQ.neq rfl rfl) ?_ | refine AL.q rfl (OQ.subi rfl rfl (by omega)) ?_ | refine AL.q rfl (OQ.sub rfl rfl) ?_) | ((with_reducible refine AL.k_unOp ?_); first | refine AL.q rfl (OQ.not rfl) ?_) | ((with_reducible refine AL.k_indexAddr ?_); first | refine AL.q rfl (OQ.idxAddr (ty := 22) (z := 5) (g := true) rfl rfl (by kernel_rfl) (by omega) (by omega)) ?_)); (conv => (arg 5; try tactic => exact nrm)))
        | ((first | ((with_reducible refine AL.k_call ?_); first | refine AL.pcall (g := 46) rfl (by kernel_rfl) rfl ((by exact H _ _ (.blk 0 _ rfl rfl rfl))) ?_ | refine AL.pcall (g := 92) rfl (by kernel_rfl) rfl (HW _) ?_) | ((with_reducible refine AL.k_build ?_); first | refine AL.q rfl (OQ.buildS (ty := 24) (zs := [.string ⟨#[]⟩, .int .i64 0, .slice none 0 0]) (pls := [(0, 1), (1, 1), (2, 1)]) (by kernel_rfl) rfl (by kernel_rfl) rfl rfl rfl) ?_)); (conv => (arg 5; try tactic => exact nrm)))
        | ((first | ((with_reducible refine AL.k_store ?_); first | (refine AL.w rfl (OW.store (ty := 24) (n := 3) rfl (by conv => lhs; whnf) rfl rfl (by kernel_rfl) rfl rfl (by decide) rfl (Nat.le_of_ble_eq_true rfl) (by intro r h; cases h)) ?_) | (refine AL.w rfl (OW.store (ty := 22) (n := 1) rfl (by conv => lhs; whnf) rfl rfl (by kernel_rfl) rfl rfl (by decide) rfl (Nat.le_of_ble_eq_true rfl) (by intro r h; cases h)) ?_) | (refine AL.w rfl (OW.store (ty := 55) (n := 5) rfl (by conv => lhs; whnf) rfl rfl (by kernel_rfl) rfl rfl (by decide) rfl (Nat.le_of_ble_eq_true rfl) (by intro r h; cases h)) ?_)) | ((with_reducible refine AL.k_box ?_); first | (refine AL.w rfl (OW.box (by conv => lhs; whnf) (by intro r h; cases h)) ?_)) | ((with_reducible refine AL.k_alloc ?_); first | refine AL.w rfl (OW.alloc (ty := 24) (z := [.string ⟨#[]⟩, .int .i64 0, .slice none 0 0]) (by kernel_rfl) rfl) ?_)); (conv => (arg 5; try tactic => exact nrm)); (conv => (arg 6; try tactic => exact nrm)))
        | refine AL.nil ?_)
      | ((with_reducible refine AW.on ?_); first
        | refine AW.seq ?_
        | refine AW.skip ?_
        | refine AW.exit ?_
        | refine AW.ret ?_
        | refine AW.block ?_
        | (refine AW.region (id := 3) ?_; exfalso; (simp_all; done); done)
        | (refine AW.region (id := 6) ?_; exfalso; (simp_all; done); done)
        | refine AW.region ?_
        | (refine AW.conds rfl (fun hc => ?_) (fun hc => ?_) <;> (try simp only [decide_eq_true_eq, decide_eq_false_iff_not, Bool.not_true, Bool.not_false, Bool.not_eq_true', Bool.not_eq_false', Int.not_lt, Int.not_le, Classical.not_not, ne_eq] at hc) <;> first | (exfalso; first | contradiction | ((simp_all; done)); done) | skip))
      | ((with_reducible refine FinP.on ?_); (first | refine FinP.ret (.cellN (n := 3) (by conv => lhs; whnf) (by kernel_rfl) (by kernel_rfl) rfl (.tmp (by conv => lhs; whnf) .nil)) ?_ rfl | refine FinP.end (.cellN (n := 3) (by conv => lhs; whnf) (by kernel_rfl) (by kernel_rfl) rfl (.tmp (by conv => lhs; whnf) .nil)) ?_ rfl); (try simp only [pack, List.drop, List.take]); all_goals (rfl)))
theorem Without_ec (l : List St) (z : Nat) (ho : Ors nm l) (k : Int) (e : Int) (he : (if (orbE nm.data.toList bd l).2 = 0 then (if rngB k 0 (l.length - 1) = true then 0 else 6) else (orbE nm.data.toList bd l).2) = e) (h0 : e ≠ 0) :
    PCalls Try.prog 63 [obI nm bd 0 l, .int .i64 k] [some ⟨flatS l, false, z⟩] (.tuple #[ob0, .int .i64 e]) := by
  have H := fun (m : Mem) (v : Value) (hS : SlB m v l) => CheckOrbit_q (bd := bd) hS ho
  have hlen := ho.len
  generalize (orbE nm.data.toList bd l).1 = x at *
  generalize (orbE nm.data.toList bd l).2 = e0 at *
  have HW := within_q k 0 (l.length - 1)
  generalize rngB k 0 (l.length - 1) = y at *
  obtain ⟨hne, rfl⟩ | ⟨rfl, rfl, rfl⟩ : (e0 ≠ 0 ∧ e0 = e) ∨ (e0 = 0 ∧ y = false ∧ 6 = e) := by
    by_cases g : e0 = 0
    · rw [if_pos g] at he
      cases y
      · exact .inr ⟨g, rfl, he⟩
      · exact absurd he.symm h0
    · rw [if_neg g] at he
      exact .inl ⟨g, he⟩
  ·
    refine PCalls.enter (t := [obI nm bd 0 l, .int .i64 k, undef, undef, undef, undef, undef, undef, undef, undef, undef, undef, undef, undef, undef, undef, undef, undef, undef, undef, undef, undef, undef, undef, undef, undef, undef, undef, undef, undef, undef, undef, undef, undef, undef, undef, undef, undef, undef, undef, undef]) Try.func63 rfl (ro1 _ rfl) rfl fun E => ?_
    repeat' (first
      | with_reducible refine Then.n ?_
      | with_reducible refine Then.r ?_
      | with_reducible refine Then.x ?_
      | with_reducible refine InB.n ?_
      | with_reducible refine InB.r ?_
      | with_reducible refine InB.hit ?_
      | with_reducible refine InB.miss (by decide) ?_
      | ((with_reducible refine AL.on ?_); first
        | ((first | ((with_reducible refine AL.k_assign ?_); first | (refine AL.q rfl (OQ.assign (by conv => lhs; whnf)) ?_)) | ((with_reducible refine AL.k_move ?_); first | (refine AL.q rfl (OQ.move (by conv => lhs; whnf)) ?_)) | ((with_reducible refine AL.k_load ?_); first | refine AL.q rfl (OQ.loadN (ty := 24) (n := 3) rfl (by kernel_rfl) (by kernel_rfl) rfl) ?_ | (refine AL.q rfl (OQ.load1 (ty := 22) rfl (by kernel_rfl) (by conv => lhs; whnf)) ?_)) | ((with_reducible refine AL.k_call ?_); first | refine AL.q rfl (OQ.lenS (xt := 22) (r := (none, 5, true)) rfl (by kernel_rfl)) ?_) | ((with_reducible refine AL.k_extract ?_); first | refine AL.q rfl (OQ.extract rfl rfl) ?_) | ((with_reducible refine AL.k_fieldAddr ?_); first | refine AL.q rfl (OQ.fieldA (ty := 24) (i := 2) (n := 1) (off := 2) (g := false) rfl (by kernel_rfl) (by decide)) ?_) | ((with_reducible refine AL.k_binOp ?_); first | refine AL.q rfl (OQ.neq rfl rfl) ?_ | refine AL.q rfl (OQ.subi rfl rfl (by omega)) ?_ | refine AL.q rfl (OQ.sub rfl rfl) ?_) | ((with_reducible refine AL.k_unOp ?_); first | refine AL.q rfl (OQ.not rfl) ?_)); (conv => (arg 5; try tactic => exact nrm)))
        | ((first | ((with_reducible refine AL.k_call ?_); first | refine AL.pcall (g := 46) rfl (by kernel_rfl) rfl ((by exact H _ _ (.blk 0 _ rfl rfl rfl))) ?_) | ((with_reducible refine AL.k_build ?_); first | refine AL.q rfl (OQ.buildS (ty := 24) (zs := [.string ⟨#[]⟩, .int .i64 0, .slice none 0 0]) (pls := [(0, 1), (1, 1), (2, 1)]) (by kernel_rfl) rfl (by kernel_rfl) rfl rfl rfl) ?_)); (conv => (arg 5; try tactic => exact nrm)))
        | ((first | ((with_reducible refine AL.k_store ?_); first | (refine AL.w rfl (OW.store (ty := 24) (n := 3) rfl (by conv => lhs; whnf) rfl rfl (by kernel_rfl) rfl rfl (by decide) rfl (Nat.le_of_ble_eq_true rfl) (by intro r h; cases h)) ?_) | (refine AL.w rfl (OW.store (ty := 22) (n := 1) rfl (by conv => lhs; whnf) rfl rfl (by kernel_rfl) rfl rfl (by decide) rfl (Nat.le_of_ble_eq_true rfl) (by intro r h; cases h)) ?_)) | ((with_reducible refine AL.k_box ?_); first | (refine AL.w rfl (OW.box (by conv => lhs; whnf) (by intro r h; cases h)) ?_)) | ((with_reducible refine AL.k_alloc ?_); first | refine AL.w rfl (OW.alloc (ty := 24) (z := [.string ⟨#[]⟩, .int .i64 0, .slice none 0 0]) (by kernel_rfl) rfl) ?_) | ((with_reducible refine AL.k_buildSlice ?_); first | refine AL.w rfl (OW.buildSl (ty := 171) (zs := [.slice none 0 0]) (n := 1) (g := false) (by kernel_rfl) (by kernel_rfl) rfl rfl rfl (by decide) (by decide) rfl rfl) ?_)); (conv => (arg 5; try tactic => exact nrm)); (conv => (arg 6; try tactic => exact nrm)))
        | refine AL.nil ?_)
      | ((with_reducible refine AW.on ?_); first
        | refine AW.seq ?_
        | refine AW.skip ?_
        | refine AW.exit ?_
        | refine AW.ret ?_
        | refine AW.block ?_
        | (refine AW.draw (id := 6) 9 #[0, 1, 0, 7, 0, 16, 0, 64, 240, 511, 1023, 2047, 4095] (by kernel_rfl) (by kernel_rfl) ?_; (conv => (arg 8; simp only [List.take_succ_cons, List.take_zero])))
        | (refine AW.region (id := 4) ?_; exfalso; (simp_all; done); done)
        | refine AW.region ?_
        | (refine AW.conds rfl (fun hc => ?_) (fun hc => ?_) <;> (try simp only [decide_eq_true_eq, decide_eq_false_iff_not, Bool.not_true, Bool.not_false, Bool.not_eq_true', Bool.not_eq_false', Int.not_lt, Int.not_le, Classical.not_not, ne_eq] at hc) <;> first | (exfalso; first | contradiction | ((simp_all; done)); done) | skip))
      | ((with_reducible refine AD.on ?_); first
        | ((first | ((with_reducible refine AD.k_move ?_); first | (refine AD.q rfl (OQ.move (by conv => lhs; whnf)) rfl rfl rfl ?_)) | ((with_reducible refine AD.k_load ?_); first | (refine AD.q rfl (OQ.load1 (ty := 22) rfl (by kernel_rfl) (by conv => lhs; whnf)) rfl rfl rfl ?_)) | ((with_reducible refine AD.k_fieldAddr ?_); first | refine AD.q rfl (OQ.fieldA (ty := 24) (i := 2) (n := 1) (off := 2) (g := false) rfl (by kernel_rfl) (by decide)) rfl rfl rfl ?_) | ((with_reducible refine AD.k_binOp ?_); first | refine AD.q rfl (OQ.addi rfl rfl (by omega)) rfl rfl rfl ?_ | refine AD.q rfl (OQ.add rfl rfl) rfl rfl rfl ?_)); (conv => (arg 10; try tactic => exact nrm)))
        | (refine AD.nil ?_; (conv => (arg 4; simp only [List.drop_succ_cons, List.drop_zero, List.drop_nil])); (conv => (arg 5; try tactic => exact nrm)); (conv => (arg 6; try tactic => exact nrm))))
      | ((with_reducible refine FinP.on ?_); (first | refine FinP.ret (.cellN (n := 3) (by conv => lhs; whnf) (by kernel_rfl) (by kernel_rfl) rfl (.tmp (by conv => lhs; whnf) .nil)) ?_ rfl | refine FinP.end (.cellN (n := 3) (by conv => lhs; whnf) (by kernel_rfl) (by kernel_rfl) rfl (.tmp (by conv => lhs; whnf) .nil)) ?_ rfl); (try simp only [pack, List.drop, List.take]); all_goals (rfl)))
  ·
    refine PCalls.enter (t := [obI nm bd 0 l, .int .i64 k, undef, undef, undef, undef, undef, undef, undef, undef, undef, undef, undef, undef, undef, undef, undef, undef, undef, undef, undef, undef, undef, undef, undef, undef, undef, undef, undef, undef, undef, undef, undef, undef, undef, undef, undef, undef, undef, undef, undef]) Try.func63 rfl (ro1 _ rfl) rfl fun E => ?_
    repeat' (first
      | with_reducible refine Then.n ?_
      | with_reducible refine Then.r ?_
      | with_reducible refine Then.x ?_
      | with_reducible refine InB.n ?_
      | with_reducible refine InB.r ?_
      | with_reducible refine InB.hit ?_
      | with_reducible refine InB.miss (by decide) ?_
      | ((with_reducible refine AL.on ?_); first
        | ((first | ((with_reducible refine AL.k_assign ?_); first | (refine AL.q rfl (OQ.assign (by conv => lhs; whnf)) ?_)) | ((with_reducible refine AL.k_move ?_); first | (refine AL.q rfl (OQ.move (by conv => lhs; whnf)) ?_)) | ((with_reducible refine AL.k_load ?_); first | refine AL.q rfl (OQ.loadN (ty := 24) (n := 3) rfl (by kernel_rfl) (by kernel_rfl) rfl) ?_ | (refine AL.q rfl (OQ.load1 (ty := 22) rfl (by kernel_rfl) (by conv => lhs; whnf)) ?_)) | ((with_reducible refine AL.k_call ?_); first | refine AL.q rfl (OQ.lenS (xt := 22) (r := (none, 5, true)) rfl (by kernel_rfl)) ?_) | ((with_reducible refine AL.k_extract ?_); first | refine AL.q rfl (OQ.extract rfl rfl) ?_) | ((with_reducible refine AL.k_fieldAddr ?_); first | refine AL.q rfl (OQ.fieldA (ty := 24) (i := 2) (n := 1) (off := 2) (g := false) rfl (by kernel_rfl) (by decide)) ?_) | ((with_reducible refine AL.k_binOp ?_); first | refine AL.q rfl (OQ.neq rfl rfl) ?_ | refine AL.q rfl (OQ.subi rfl rfl (by omega)) ?_ | refine AL.q rfl (OQ.sub rfl rfl) ?_) | ((with_reducible refine AL.k_unOp ?_); first | refine AL.q rfl (OQ.not rfl) ?_)); (conv => (arg 5; try tactic => exact nrm)))
        | ((first | ((with_reducible refine AL.k_call ?_); first | refine AL.pcall (g := 46) rfl (by kernel_rfl) rfl ((by exact H _ _ (.blk 0 _ rfl rfl rfl))) ?_ | refine AL.pcall (g := 92) rfl (by kernel_rfl) rfl (HW _) ?_) | ((with_reducible refine AL.k_build ?_); first | refine AL.q rfl (OQ.buildS (ty := 24) (zs := [.string ⟨#[]⟩, .int .i64 0, .slice none 0 0]) (pls := [(0, 1), (1, 1), (2, 1)]) (by kernel_rfl) rfl (by kernel_rfl) rfl rfl rfl) ?_)); (conv => (arg 5; try tactic => exact nrm)))
        | ((first | ((with_reducible refine AL.k_store ?_); first | (refine AL.w rfl (OW.store (ty := 24) (n := 3) rfl (by conv => lhs; whnf) rfl rfl (by kernel_rfl) rfl rfl (by decide) rfl (Nat.le_of_ble_eq_true rfl) (by intro r h; cases h)) ?_) | (refine AL.w rfl (OW.store (ty := 22) (n := 1) rfl (by conv => lhs; whnf) rfl rfl (by kernel_rfl) rfl rfl (by decide) rfl (Nat.le_of_ble_eq_true rfl) (by intro r h; cases h)) ?_)) | ((with_reducible refine AL.k_box ?_); first | (refine AL.w rfl (OW.box (by conv => lhs; whnf) (by intro r h; cases h)) ?_)) | ((with_reducible refine AL.k_alloc ?_); first | refine AL.w rfl (OW.alloc (ty := 24) (z := [.string ⟨#[]⟩, .int .i64 0, .slice none 0 0]) (by kernel_rfl) rfl) ?_) | ((with_reducible refine AL.k_buildSlice ?_); first | refine AL.w rfl (OW.buildSl (ty := 171) (zs := [.slice none 0 0]) (n := 1) (g := false) (by kernel_rfl) (by kernel_rfl) rfl rfl rfl (by decide) (by decide) rfl rfl) ?_)); (conv => (arg 5; try tactic => exact nrm)); (conv => (arg 6; try tactic => exact nrm)))
        | refine AL.nil ?_)
      | ((with_reducible refine AW.on ?_); first
        | refine AW.seq ?_
        | refine AW.skip ?_
        | refine AW.exit ?_
        | refine AW.ret ?_
        | refine AW.block ?_
        | (refine AW.draw (id := 6) 9 #[0, 1, 0, 7, 0, 16, 0, 64, 240, 511, 1023, 2047, 4095] (by kernel_rfl) (by kernel_rfl) ?_; (conv => (arg 8; simp only [List.take_succ_cons, List.take_zero])))
        | (refine AW.region (id := 3) ?_; exfalso; (simp_all; done); done)
        | refine AW.region ?_
        | (refine AW.conds rfl (fun hc => ?_) (fun hc => ?_) <;> (try simp only [decide_eq_true_eq, decide_eq_false_iff_not, Bool.not_true, Bool.not_false, Bool.not_eq_true', Bool.not_eq_false', Int.not_lt, Int.not_le, Classical.not_not, ne_eq] at hc) <;> first | (exfalso; first | contradiction | ((simp_all; done)); done) | skip))
      | ((with_reducible refine AD.on ?_); first
        | ((first | ((with_reducible refine AD.k_move ?_); first | (refine AD.q rfl (OQ.move (by conv => lhs; whnf)) rfl rfl rfl ?_)) | ((with_reducible refine AD.k_load ?_); first | (refine AD.q rfl (OQ.load1 (ty := 22) rfl (by kernel_rfl) (by conv => lhs; whnf)) rfl rfl rfl ?_)) | ((with_reducible refine AD.k_fieldAddr ?_); first | refine AD.q rfl (OQ.fieldA (ty := 24) (i := 2) (n := 1) (off := 2) (g := false) rfl (by kernel_rfl) (by decide)) rfl rfl rfl ?_) | ((with_reducible refine AD.k_binOp ?_); first | refine AD.q rfl (OQ.addi rfl rfl (by omega)) rfl rfl rfl ?_ | refine AD.q rfl (OQ.add rfl rfl) rfl rfl rfl ?_)); (conv => (arg 10; try tactic => exact nrm)))
        | (refine AD.nil ?_; (conv => (arg 4; simp only [List.drop_succ_cons, List.drop_zero, List.drop_nil])); (conv => (arg 5; try tactic => exact nrm)); (conv => (arg 6; try tactic => exact nrm))))
      | ((with_reducible refine FinP.on ?_); (first | refine FinP.ret (.cellN (n := 3) (by conv => lhs; whnf) (by kernel_rfl) (by kernel_rfl) rfl (.tmp (by conv => lhs; whnf) .nil)) ?_ rfl | refine FinP.end (.cellN (n := 3) (by conv => lhs; whnf) (by kernel_rfl) (by kernel_rfl) rfl (.tmp (by conv => lhs; whnf) .nil)) ?_ rfl); (try simp only [pack, List.drop, List.take]); all_goals (rfl)))
end

end Go.Proofs.Ythpjhpfebjjanaa
end

section
namespace Go.Proofs.Ythpjhpfebjjanaa
open Go Go.RowKit Go.Ob Go.Ab
set_option maxRecDepth 100000
set_option maxHeartbeats 1000000
attribute [local irreducible] OQ OW AL AW AD AF SW
theorem GrowS_c (n : Int) (h0 : 0 < n) (h1 : n ≤ 1000000) : ACalls Try.prog 124 [.slice none 0 0, .int .i64 n] [] (.slice (some ⟨0, 0, none⟩) 0 INF) [some ⟨[], true, 5⟩] := by
  refine ACalls.enter (t := [.slice none 0 0, .int .i64 n, undef, undef, undef, undef, undef, undef, undef, undef, undef, undef, undef, undef, undef, undef, undef, undef, undef, undef, undef, undef, undef, undef, undef, undef, undef]) Try.func124 rfl rfl fun E hE => ?_
  repeat' (first
    | with_reducible refine Then.n ?_
    | with_reducible refine Then.r ?_
    | with_reducible refine Then.x ?_
    | with_reducible refine InB.n ?_
    | with_reducible refine InB.r ?_
    | with_reducible refine InB.hit ?_
    | with_reducible refine InB.miss (by decide) ?_
    | ((with_reducible refine AL.on ?_); first
      | ((first | ((with_reducible refine AL.k_move ?_); first | (refine AL.q rfl (OQ.move (by conv => lhs; whnf)) ?_)) | ((with_reducible refine AL.k_call ?_); first | refine AL.q rfl (OQ.capNil rfl Try.underlying22) ?_ | refine AL.q rfl (OQ.lenS (xt := 22) (r := (none, 5, true)) rfl (by kernel_rfl)) ?_) | ((with_reducible refine AL.k_assign ?_); first | (refine AL.q rfl (OQ.assign (by conv => lhs; whnf)) ?_)) | ((with_reducible refine AL.k_binOp ?_); first | refine AL.q rfl (OQ.lss rfl rfl) ?_ | refine AL.q rfl (OQ.subi rfl rfl (by omega)) ?_ | refine AL.q rfl (OQ.sub rfl rfl) ?_ | refine AL.q rfl (OQ.gtr rfl rfl) ?_) | refine AL.q rfl (by first | exact OQ.sliceNil (ty := 22) (z := (none, 5, true)) rfl (by kernel_rfl) rfl rfl | exact OQ.sliceS (ty := 22) (l := 0) (h := 0) (z := 5) (g := true) rfl (by kernel_rfl) rfl (.inr rfl) rfl rfl (by decide) (by decide) (by omega)) ?_); (conv => (arg 5; try tactic => exact nrm)))
      | ((first | first | refine AL.w rfl (OW.appendZ (e := 55) (z := 5) (by' := 40) (zs := [.int .i64 0, .int .i64 0, .int .i64 0, .int .i64 0, .int .i64 0]) rfl rfl (by kernel_rfl) Try.underlying3 (by kernel_rfl) (by kernel_rfl) rfl (by kernel_rfl) (by decide) (by omega) (by omega) (by omega)) ?_); (conv => (arg 5; try tactic => exact nrm)); (conv => (arg 6; try tactic => exact nrm)))
      | refine AL.nil ?_)
    | ((with_reducible refine AW.on ?_); first
      | refine AW.seq ?_
      | refine AW.skip ?_
      | refine AW.exit ?_
      | refine AW.ret ?_
      | refine AW.block ?_
      | (refine AW.region (id := 2) ?_; exfalso; omega; done)
      | refine AW.region ?_
      | (refine AW.conds rfl (fun hc => ?_) (fun hc => ?_) <;> (try simp only [decide_eq_true_eq, decide_eq_false_iff_not, Bool.not_true, Bool.not_false, Bool.not_eq_true', Bool.not_eq_false', Int.not_lt, Int.not_le, Classical.not_not, ne_eq] at hc) <;> first | (exfalso; first | contradiction | (omega); done) | skip))
    | ((with_reducible refine FinA.on ?_); (refine FinA.keep 0 [0] (.inl rfl) (.tmp (by conv => lhs; whnf) .nil) ?_ rfl (Nat.le_of_eq hE) rfl rfl ⟨⟨_, rfl, rfl, rfl, .inl ⟨rfl, rfl⟩⟩, trivial⟩; rfl)))
theorem GrowS_q {m : Mem} (n : Int) (h0 : 0 < n) (h1 : n ≤ 1000000) : ACalls Try.prog 124 [.slice none 0 0, .int .i64 n] m (.slice (some ⟨m.length, 0, none⟩) 0 INF) (m ++ [some ⟨[], true, 5⟩]) :=
  ACalls.viaN (m0 := []) (x := some ⟨[], true, 5⟩) (fun _ => 0) (GrowS_c n h0 h1) (fun x bk hx => by simp [Mem.at] at hx) (fun x hx => absurd hx (by simp)) (fun blk h => by cases h; exact ⟨rfl, rfl⟩) rfl rfl (by simp [rn3, rn2, rn1, τn]) rfl

theorem ConcatS_c (l : List St) (k k2 : Nat) (hl : k + 1 + k2 = l.length) (hp : 0 < k + k2) (h3 : l.length ≤ 1000) (z z' c1 c2 : Nat) :
    ACalls Try.prog 120 [.slice (some ⟨1, 0, none⟩) 2 2] [some ⟨flatS l, false, z⟩, some ⟨[.slice (some ⟨0, 0, none⟩) k c1, .slice (some ⟨0, (k + 1) * 5, none⟩) k2 c2], false, z'⟩]
      (.slice (some ⟨2, 0, none⟩) (k + k2) INF) [some ⟨flatS l, false, z⟩, some ⟨[.slice (some ⟨0, 0, none⟩) k c1, .slice (some ⟨0, (k + 1) * 5, none⟩) k2 c2], false, z'⟩, some ⟨flatS (outL l k), true, 5⟩] := by
  have hld1 : ∀ rest : Mem, Mem.ld (some ⟨flatS l, false, z⟩ :: rest) 0 0 (k * 5) = some (flatS (l.take k)) := fun rest => by
    have := flS_ld (l := l) (b := 0) (z := z) (m := some ⟨flatS l, false, z⟩ :: rest) false rfl 0 k (by omega)
    simpa using this
  have hld2 : ∀ rest : Mem, Mem.ld (some ⟨flatS l, false, z⟩ :: rest) 0 ((k + 1) * 5) (k2 * 5) = some (flatS (l.drop (k + 1))) := fun rest => by
    have := flS_ld (l := l) (b := 0) (z := z) (m := some ⟨flatS l, false, z⟩ :: rest) false rfl (k + 1) k2 (by omega)
    rwa [List.take_of_length_le (by rw [List.length_drop]; omega)] at this
  have hl1 : (flatS (l.take k)).length = k * 5 := by rw [flatS_len, List.length_take]; omega
  have hout : flatS (outL l k) = flatS (l.take k) ++ flatS (l.drop (k + 1)) := by simp [outL, flatS]
  have hs1 := flatS_scal (l.take k)
  have hs2 := flatS_scal (l.drop (k + 1))
  have hsl := flatS_scal l
  have hso := flatS_scal (outL l k)
  rcases Nat.eq_zero_or_pos k with hk | hk
  · subst hk
    have e1 : flatS (l.take 0) = [] := rfl
    rw [e1, List.nil_append] at hout
    clear hld1 hl1 hs1 e1
    rw [hout]
    generalize flatS (l.drop (0 + 1)) = F2 at *
    generalize flatS l = F at *
    refine ACalls.enter (t := [.slice (some ⟨1, 0, none⟩) 2 2, undef, undef, undef, undef, undef, undef, undef, undef, undef, undef, undef, undef, undef, undef, undef, undef, undef, undef, undef, undef, undef, undef, undef, undef, undef, undef, undef, undef, undef, undef, undef, undef, undef, undef, undef]) Try.func120 rfl rfl fun E hE => ?_
    repeat' (first
      | with_reducible refine Then.n ?_
      | with_reducible refine Then.r ?_
      | with_reducible refine Then.x ?_
      | with_reducible refine InB.n ?_
      | with_reducible refine InB.r ?_
      | with_reducible refine InB.hit ?_
      | with_reducible refine InB.miss (by decide) ?_
      | ((with_reducible refine AL.on ?_); first
        | ((first | ((with_reducible refine AL.k_move ?_); first | (refine AL.q rfl (OQ.move (by conv => lhs; whnf)) ?_)) | ((with_reducible refine AL.k_assign ?_); first | (refine AL.q rfl (OQ.assign (by conv => lhs; whnf)) ?_)) | ((with_reducible refine AL.k_binOp ?_); first | refine AL.q rfl (OQ.lss rfl rfl) ?_ | refine AL.q rfl (OQ.addi rfl rfl (by omega)) ?_ | refine AL.q rfl (OQ.add rfl rfl) ?_) | ((with_reducible refine AL.k_call ?_); first | refine AL.q rfl (OQ.lenS (xt := 171) (r := (none, 1, false)) rfl (by kernel_rfl)) ?_ | refine AL.q rfl (OQ.lenS (xt := 22) (r := (none, 5, true)) rfl (by kernel_rfl)) ?_) | ((with_reducible refine AL.k_indexAddr ?_); first | refine AL.q rfl (OQ.idxAddr (ty := 171) (z := 1) (g := false) rfl rfl (by kernel_rfl) (by omega) (by omega)) ?_) | ((with_reducible refine AL.k_load ?_); first | (refine AL.q rfl (OQ.load1 (ty := 22) rfl (by kernel_rfl) (by conv => lhs; whnf)) ?_))); (conv => (arg 5; try tactic => exact nrm)))
        | ((first | first | refine AL.acall (g := 124) rfl (by kernel_rfl) rfl ((GrowS_q _ (by omega) (by omega))) ?_ | refine AL.q rfl (OQ.append0 (v := undef) (z := 5) (e := 55) rfl rfl (by kernel_rfl) (by kernel_rfl)) ?_ | refine AL.w rfl (OW.append (n := 0) (b := 2) (bx := 0) (k := k2) (z := 5) (by' := 40) (zs := [.int .i64 0, .int .i64 0, .int .i64 0, .int .i64 0, .int .i64 0]) (e := 55) rfl rfl (by kernel_rfl) (by kernel_rfl) (by kernel_rfl) rfl (by kernel_rfl) (by omega) rfl rfl rfl (by decide) (Nat.zero_le _) (hld2 _) (Go.Ls.one_of_scal hs2) (by omega) (by omega)) ?_); (conv => (arg 5; try tactic => exact nrm)); (conv => (arg 6; try tactic => exact nrm)))
        | refine AL.nil ?_)
      | ((with_reducible refine AW.on ?_); first
        | refine AW.seq ?_
        | refine AW.skip ?_
        | refine AW.exit ?_
        | refine AW.ret ?_
        | (refine AW.block (id := 0) ?_; refine AW.unroll 3 ?_)
        | (refine AW.block (id := 2) ?_; refine AW.unroll 3 ?_)
        | refine AW.block ?_
        | (refine AW.region (id := 7) ?_; exfalso; first | omega | (simp at *; done); done)
        | refine AW.region ?_
        | (refine AW.conds rfl (fun hc => ?_) (fun hc => ?_) <;> (try simp only [decide_eq_true_eq, decide_eq_false_iff_not, Bool.not_true, Bool.not_false, Bool.not_eq_true', Bool.not_eq_false', Int.not_lt, Int.not_le, Classical.not_not, ne_eq] at hc) <;> first | (exfalso; first | contradiction | (first | omega | (simp at *; done)); done) | skip))
      | with_reducible refine AR.s ?_
      | ((with_reducible refine AR.out ?_); first | omega | (simp at *; done); done)
      | ((with_reducible refine FinA.on ?_); (refine FinA.keep 2 [3] (.inl rfl) (.tmp (by conv => lhs; whnf) .nil) (by simp [rn3, rn2, rn1, kσ, pack]) rfl (Nat.le_of_eq hE) rfl rfl ⟨⟨_, rfl, rfl, rfl, .inl ⟨rfl, hsl⟩⟩, ⟨_, rfl, rfl, rfl, .inr ⟨rfl, rfl⟩⟩, ⟨_, rfl, rfl, rfl, .inl ⟨rfl, hs2⟩⟩, trivial⟩)))
  · rcases Nat.eq_zero_or_pos k2 with hk2 | hk2
    · subst hk2
      have e2 : flatS (l.drop (k + 1)) = [] := by rw [List.drop_of_length_le (by omega)]; rfl
      rw [e2, List.append_nil] at hout
      clear hld2 hs2 e2
      rw [hout]
      generalize flatS (l.take k) = F1 at *
      generalize flatS l = F at *
      refine ACalls.enter (t := [.slice (some ⟨1, 0, none⟩) 2 2, undef, undef, undef, undef, undef, undef, undef, undef, undef, undef, undef, undef, undef, undef, undef, undef, undef, undef, undef, undef, undef, undef, undef, undef, undef, undef, undef, undef, undef, undef, undef, undef, undef, undef, undef]) Try.func120 rfl rfl fun E hE => ?_
      repeat' (first
        | with_reducible refine Then.n ?_
        | with_reducible refine Then.r ?_
        | with_reducible refine Then.x ?_
        | with_reducible refine InB.n ?_
        | with_reducible refine InB.r ?_
        | with_reducible refine InB.hit ?_
        | with_reducible refine InB.miss (by decide) ?_
        | ((with_reducible refine AL.on ?_); first
          | ((first | ((with_reducible refine AL.k_move ?_); first | (refine AL.q rfl (OQ.move (by conv => lhs; whnf)) ?_)) | ((with_reducible refine AL.k_assign ?_); first | (refine AL.q rfl (OQ.assign (by conv => lhs; whnf)) ?_)) | ((with_reducible refine AL.k_binOp ?_); first | refine AL.q rfl (OQ.lss rfl rfl) ?_ | refine AL.q rfl (OQ.addi rfl rfl (by omega)) ?_ | refine AL.q rfl (OQ.add rfl rfl) ?_) | ((with_reducible refine AL.k_call ?_); first | refine AL.q rfl (OQ.lenS (xt := 171) (r := (none, 1, false)) rfl (by kernel_rfl)) ?_ | refine AL.q rfl (OQ.lenS (xt := 22) (r := (none, 5, true)) rfl (by kernel_rfl)) ?_) | ((with_reducible refine AL.k_indexAddr ?_); first | refine AL.q rfl (OQ.idxAddr (ty := 171) (z := 1) (g := false) rfl rfl (by kernel_rfl) (by omega) (by omega)) ?_) | ((with_reducible refine AL.k_load ?_); first | (refine AL.q rfl (OQ.load1 (ty := 22) rfl (by kernel_rfl) (by conv => lhs; whnf)) ?_))); (conv => (arg 5; try tactic => exact nrm)))
          | ((first | first | refine AL.acall (g := 124) rfl (by kernel_rfl) rfl ((GrowS_q _ (by omega) (by omega))) ?_ | refine AL.q rfl (OQ.append0 (v := undef) (z := 5) (e := 55) rfl rfl (by kernel_rfl) (by kernel_rfl)) ?_ | refine AL.w rfl (OW.append (n := 0) (b := 2) (bx := 0) (k := k) (z := 5) (by' := 40) (zs := [.int .i64 0, .int .i64 0, .int .i64 0, .int .i64 0, .int .i64 0]) (e := 55) rfl rfl (by kernel_rfl) (by kernel_rfl) (by kernel_rfl) rfl (by kernel_rfl) (by omega) rfl rfl rfl (by decide) (Nat.zero_le _) (hld1 _) (Go.Ls.one_of_scal hs1) (by omega) (by omega)) ?_); (conv => (arg 5; try tactic => exact nrm)); (conv => (arg 6; try tactic => exact nrm)))
          | refine AL.nil ?_)
        | ((with_reducible refine AW.on ?_); first
          | refine AW.seq ?_
          | refine AW.skip ?_
          | refine AW.exit ?_
          | refine AW.ret ?_
          | (refine AW.block (id := 0) ?_; refine AW.unroll 3 ?_)
          | (refine AW.block (id := 2) ?_; refine AW.unroll 3 ?_)
          | refine AW.block ?_
          | (refine AW.region (id := 7) ?_; exfalso; first | omega | (simp at *; done); done)
          | refine AW.region ?_
          | (refine AW.conds rfl (fun hc => ?_) (fun hc => ?_) <;> (try simp only [decide_eq_true_eq, decide_eq_false_iff_not, Bool.not_true, Bool.not_false, Bool.not_eq_true', Bool.not_eq_false', Int.not_lt, Int.not_le, Classical.not_not, ne_eq] at hc) <;> first | (exfalso; first | contradiction | (first | omega | (simp at *; done)); done) | skip))
        | with_reducible refine AR.s ?_
        | ((with_reducible refine AR.out ?_); first | omega | (simp at *; done); done)
        | ((with_reducible refine FinA.on ?_); (refine FinA.keep 2 [3] (.inl rfl) (.tmp (by conv => lhs; whnf) .nil) (by simp [rn3, rn2, rn1, kσ, pack]) rfl (Nat.le_of_eq hE) rfl rfl ⟨⟨_, rfl, rfl, rfl, .inl ⟨rfl, hsl⟩⟩, ⟨_, rfl, rfl, rfl, .inr ⟨rfl, rfl⟩⟩, ⟨_, rfl, rfl, rfl, .inl ⟨rfl, hs1⟩⟩, trivial⟩)))
    · have htk : (flatS (l.take k)).take (k * 5) = flatS (l.take k) := List.take_of_length_le (by omega)
      rw [hout] at hso
      rw [hout]
      generalize flatS (l.take k) = F1 at *
      generalize flatS (l.drop (k + 1)) = F2 at *
      generalize flatS l = F at *
      refine ACalls.enter (t := [.slice (some ⟨1, 0, none⟩) 2 2, undef, undef, undef, undef, undef, undef, undef, undef, undef, undef, undef, undef, undef, undef, undef, undef, undef, undef, undef, undef, undef, undef, undef, undef, undef, undef, undef, undef, undef, undef, undef, undef, undef, undef, undef]) Try.func120 rfl rfl fun E hE => ?_
      repeat' (first
        | with_reducible refine Then.n ?_
        | with_reducible refine Then.r ?_
        | with_reducible refine Then.x ?_
        | with_reducible refine InB.n ?_
        | with_reducible refine InB.r ?_
        | with_reducible refine InB.hit ?_
        | with_reducible refine InB.miss (by decide) ?_
        | ((with_reducible refine AL.on ?_); first
          | ((first | ((with_reducible refine AL.k_move ?_); first | (refine AL.q rfl (OQ.move (by conv => lhs; whnf)) ?_)) | ((with_reducible refine AL.k_assign ?_); first | (refine AL.q rfl (OQ.assign (by conv => lhs; whnf)) ?_)) | ((with_reducible refine AL.k_binOp ?_); first | refine AL.q rfl (OQ.lss rfl rfl) ?_ | refine AL.q rfl (OQ.addi rfl rfl (by omega)) ?_ | refine AL.q rfl (OQ.add rfl rfl) ?_) | ((with_reducible refine AL.k_call ?_); first | refine AL.q rfl (OQ.lenS (xt := 171) (r := (none, 1, false)) rfl (by kernel_rfl)) ?_ | refine AL.q rfl (OQ.lenS (xt := 22) (r := (none, 5, true)) rfl (by kernel_rfl)) ?_) | ((with_reducible refine AL.k_indexAddr ?_); first | refine AL.q rfl (OQ.idxAddr (ty := 171) (z := 1) (g := false) rfl rfl (by kernel_rfl) (by omega) (by omega)) ?_) | ((with_reducible refine AL.k_load ?_); first | (refine AL.q rfl (OQ.load1 (ty := 22) rfl (by kernel_rfl) (by conv => lhs; whnf)) ?_))); (conv => (arg 5; try tactic => exact nrm)))
          | ((first | first | refine AL.acall (g := 124) rfl (by kernel_rfl) rfl ((GrowS_q _ (by omega) (by omega))) ?_ | refine AL.w rfl (by first | exact OW.append (n := 0) (b := 2) (bx := 0) (k := k) (z := 5) (by' := 40) (zs := [.int .i64 0, .int .i64 0, .int .i64 0, .int .i64 0, .int .i64 0]) (e := 55) rfl rfl (by kernel_rfl) (by kernel_rfl) (by kernel_rfl) rfl (by kernel_rfl) (by omega) rfl rfl rfl (by decide) (Nat.zero_le _) (hld1 _) (Go.Ls.one_of_scal hs1) (by omega) (by omega) | exact OW.append (n := k) (b := 3) (bx := 0) (k := k2) (z := 5) (by' := 40) (zs := [.int .i64 0, .int .i64 0, .int .i64 0, .int .i64 0, .int .i64 0]) (e := 55) rfl rfl (by kernel_rfl) (by kernel_rfl) (by kernel_rfl) rfl (by kernel_rfl) (by omega) rfl rfl rfl (by decide) (by simp [hl1]) (hld2 _) (Go.Ls.one_of_scal hs2) (by omega) (by omega)) ?_); (conv => (arg 5; try tactic => exact nrm)); (conv => (arg 6; try tactic => exact nrm)))
          | refine AL.nil ?_)
        | ((with_reducible refine AW.on ?_); first
          | refine AW.seq ?_
          | refine AW.skip ?_
          | refine AW.exit ?_
          | refine AW.ret ?_
          | (refine AW.block (id := 0) ?_; refine AW.unroll 3 ?_)
          | (refine AW.block (id := 2) ?_; refine AW.unroll 3 ?_)
          | refine AW.block ?_
          | (refine AW.region (id := 7) ?_; exfalso; first | omega | (simp at *; done); done)
          | refine AW.region ?_
          | (refine AW.conds rfl (fun hc => ?_) (fun hc => ?_) <;> (try simp only [decide_eq_true_eq, decide_eq_false_iff_not, Bool.not_true, Bool.not_false, Bool.not_eq_true', Bool.not_eq_false', Int.not_lt, Int.not_le, Classical.not_not, ne_eq] at hc) <;> first | (exfalso; first | contradiction | (first | omega | (simp at *; done)); done) | skip))
        | with_reducible refine AR.s ?_
        | ((with_reducible refine AR.out ?_); first | omega | (simp at *; done); done)
        | ((with_reducible refine FinA.on ?_); (refine FinA.keep 2 [4] (.inl rfl) (.tmp (by conv => lhs; whnf) .nil) (by simp [rn3, rn2, rn1, kσ, pack]) rfl (Nat.le_of_eq hE) rfl rfl ⟨⟨_, rfl, rfl, rfl, .inl ⟨rfl, hsl⟩⟩, ⟨_, rfl, rfl, rfl, .inr ⟨rfl, rfl⟩⟩, ⟨_, rfl, rfl, rfl, .inl ⟨by simp [htk], hso⟩⟩, trivial⟩)))
theorem ConcatS_q {m : Mem} {i j : Nat} {B A : Blk} (l : List St) (k k2 c1 c2 : Nat) (hi : m.at i = some B) (hB : B.cells = flatS l) (hj : m.at j = some A) (hA : A.cells = [.slice (some ⟨i, 0, none⟩) k c1, .slice (some ⟨i, (k + 1) * 5, none⟩) k2 c2])
    (hl : k + 1 + k2 = l.length) (hp : 0 < k + k2) (h3 : l.length ≤ 1000) :
    ACalls Try.prog 120 [.slice (some ⟨j, 0, none⟩) 2 2] m (.slice (some ⟨m.length, 0, none⟩) (k + k2) INF) (m ++ [some ⟨flatS (outL l k), true, 5⟩]) := by
  refine ACalls.viaN (m0 := [some ⟨flatS l, false, B.esz⟩, some ⟨[.slice (some ⟨0, 0, none⟩) k c1, .slice (some ⟨0, (k + 1) * 5, none⟩) k2 c2], false, A.esz⟩]) (x := some ⟨flatS (outL l k), true, 5⟩)
    (fun b => if b = 0 then i else j) (ConcatS_c l k k2 hl hp h3 B.esz A.esz c1 c2) (fun x bk hx => ?_) (fun x hx => ?_) (fun blk h => by cases h; exact ⟨rfl, flatS_scal _⟩) rfl rfl ?_ rfl
  · have := Mem.at_lt hx
    match x, this with
    | 0, _ =>
      cases hx
      exact ⟨rfl, ok1_of_scal (flatS_scal l), B, hi, rfl, fun q v hv => by rw [rn1_scal (List.all_eq_true.1 (flatS_scal l) v (List.mem_of_getElem? hv)), hB]; exact hv⟩
    | 1, _ =>
      cases hx
      refine ⟨rfl, rfl, A, hj, rfl, fun q v hv => ?_⟩
      rw [hA]
      match q with
      | 0 => cases hv; rfl
      | 1 => cases hv; rfl
      | q + 2 => simp at hv
    | x + 2, h => exact absurd h (by simp)
  · match x, hx with
    | 0, _ => exact ⟨_, rfl⟩
    | 1, _ => exact ⟨_, rfl⟩
    | x + 2, h => exact absurd h (by simp)
  · simp [rn3, rn2, rn1, τn]

section
variable {nm : ByteArray} {bd : Int}
theorem Corrected_0c (l : List St) (z : Nat) (hR : Right bd l) (ho : Ors nm l) (he : (orbE nm.data.toList bd l).2 = 0) (k : Nat) (hk : k < l.length) (s : St) (ho' : Ors nm (l.set k s)) (he' : (orbE nm.data.toList bd (l.set k s)).2 = 0) :
    ACalls Try.prog 62 [obI nm bd 0 l, .int .i64 k, stV s] [some ⟨flatS l, false, z⟩] (.tuple #[obI nm bd 1 (l.set k s), .int .i64 0]) [some ⟨flatS l, false, z⟩, some ⟨flatS (l.set k s), true, 5⟩] := by
  rw [show obI nm bd 1 (l.set k s) = obN nm bd 1 l.length by show obN nm bd 1 (l.set k s).length = _; rw [List.length_set]]
  have H := fun (m : Mem) (v : Value) (hS : SlB m v l) => CheckOrbit_q (bd := bd) hS ho
  rw [he] at H
  have h40 := hR.n40
  have h2 := hR.n2
  have hlen := flatS_len l
  have hsx := set_flatS (s := s) hk
  have hll : (l.set k s).length = l.length := List.length_set
  have hss := flatS_scal (l.set k s)
  have HC := fun (m : Mem) (i : Nat) (blk : Blk) (h : m.at i = some blk) (hc : blk.cells = flatS (l.set k s)) => checked_0 h hc hll ho' he'
  have HW := within_q k 0 (l.length - 1)
  rw [show rngB k 0 (l.length - 1) = true from rngB_true.2 (by omega)] at HW
  clear he he' ho ho'
  generalize (orbE nm.data.toList bd l).1 = x at *
  refine ACalls.enter (t := [obI nm bd 0 l, .int .i64 k, stV s, undef, undef, undef, undef, undef, undef, undef, undef, undef, undef, undef, undef, undef, undef, undef, undef, undef, undef, undef, undef, undef, undef, undef, undef, undef, undef, undef, undef, undef, undef, undef, undef, undef, undef, undef, undef, undef]) Try.func62 rfl rfl fun E hE => ?_
  repeat' (first
    | with_reducible refine Then.n ?_
    | with_reducible refine Then.r ?_
    | with_reducible refine Then.x ?_
    | with_reducible refine InB.n ?_
    | with_reducible refine InB.r ?_
    | with_reducible refine InB.hit ?_
    | with_reducible refine InB.miss (by decide) ?_
    | ((with_reducible refine AL.on ?_); first
      | ((first | ((with_reducible refine AL.k_assign ?_); first | (refine AL.q rfl (OQ.assign (by conv => lhs; whnf)) ?_)) | ((with_reducible refine AL.k_load ?_); first | refine AL.q rfl (OQ.loadN (ty := 24) (n := 3) rfl (by kernel_rfl) (by kernel_rfl) rfl) ?_ | (refine AL.q rfl (OQ.load1 (ty := 22) rfl (by kernel_rfl) (by conv => lhs; whnf)) ?_) | refine AL.q rfl (OQ.loadN (ty := 55) (n := 5) rfl (by kernel_rfl) (by kernel_rfl) rfl) ?_) | ((with_reducible refine AL.k_move ?_); first | (refine AL.q rfl (OQ.move (by conv => lhs; whnf)) ?_)) | ((with_reducible refine AL.k_call ?_); first | refine AL.q rfl (OQ.lenS (xt := 22) (r := (none, 5, true)) rfl (by kernel_rfl)) ?_) | ((with_reducible refine AL.k_extract ?_); first | refine AL.q rfl (OQ.extract rfl rfl) ?_) | ((with_reducible refine AL.k_fieldAddr ?_); first | refine AL.q rfl (OQ.fieldA (ty := 24) (i := 2) (n := 1) (off := 2) (g := false) rfl (by kernel_rfl) (by decide)) ?_) | ((with_reducible refine AL.k_binOp ?_); first | refine AL.q rfl (OQ.neq rfl rfl) ?_ | refine AL.q rfl (OQ.subi rfl rfl (by omega)) ?_ | refine AL.q rfl (OQ.sub rfl rfl) ?_) | ((with_reducible refine AL.k_unOp ?_); first | refine AL.q rfl (OQ.not rfl) ?_) | ((with_reducible refine AL.k_indexAddr ?_); first | refine AL.q rfl (OQ.idxAddr (ty := 22) (z := 5) (g := true) rfl rfl (by kernel_rfl) (by omega) (by omega)) ?_)); (conv => (arg 5; try tactic => exact nrm)))
      | ((first | ((with_reducible refine AL.k_call ?_); first | refine AL.pcall (g := 46) rfl (by kernel_rfl) rfl ((by exact H _ _ (.blk 0 _ rfl rfl rfl))) ?_ | refine AL.pcall (g := 92) rfl (by kernel_rfl) rfl (HW _) ?_ | refine AL.pcall (g := 119) rfl (by kernel_rfl) rfl ((by exact HC _ _ _ rfl hsx)) ?_) | ((with_reducible refine AL.k_build ?_); first | refine AL.q rfl (OQ.buildS (ty := 24) (zs := [.string ⟨#[]⟩, .int .i64 0, .slice none 0 0]) (pls := [(0, 1), (1, 1), (2, 1)]) (by kernel_rfl) rfl (by kernel_rfl) rfl rfl rfl) ?_)); (conv => (arg 5; try tactic => exact nrm)))
      | ((first | ((with_reducible refine AL.k_store ?_); first | (refine AL.w rfl (OW.store (ty := 24) (n := 3) rfl (by conv => lhs; whnf) rfl rfl (by kernel_rfl) rfl rfl (by decide) rfl (by first | exact Nat.le_of_ble_eq_true rfl | ((rw [hlen]; omega))) (by intro r h; cases h)) ?_) | (refine AL.w rfl (OW.store (ty := 22) (n := 1) rfl (by conv => lhs; whnf) rfl rfl (by kernel_rfl) rfl rfl (by decide) rfl (by first | exact Nat.le_of_ble_eq_true rfl | ((rw [hlen]; omega))) (by intro r h; cases h)) ?_) | (refine AL.w rfl (OW.store (ty := 55) (n := 5) rfl (by conv => lhs; whnf) rfl rfl (by kernel_rfl) rfl rfl (by decide) rfl (by first | exact Nat.le_of_ble_eq_true rfl | ((rw [hlen]; omega))) (by intro r h; cases h)) ?_)) | ((with_reducible refine AL.k_call ?_); first | refine AL.acall (g := 118) rfl (by kernel_rfl) rfl ((Clone_q (l := l) rfl rfl rfl (by omega) (by omega))) ?_) | ((with_reducible refine AL.k_box ?_); first | (refine AL.w rfl (OW.box (by conv => lhs; whnf) (by intro r h; cases h)) ?_)) | ((with_reducible refine AL.k_alloc ?_); first | refine AL.w rfl (OW.alloc (ty := 24) (z := [.string ⟨#[]⟩, .int .i64 0, .slice none 0 0]) (by kernel_rfl) rfl) ?_)); (conv => (arg 5; try tactic => exact nrm)); (conv => (arg 6; try tactic => exact nrm)))
      | refine AL.nil ?_)
    | ((with_reducible refine AW.on ?_); first
      | refine AW.seq ?_
      | refine AW.skip ?_
      | refine AW.exit ?_
      | refine AW.ret ?_
      | refine AW.block ?_
      | (refine AW.region (id := 3) ?_; exfalso; first | omega | (simp at *; done); done)
      | (refine AW.region (id := 5) ?_; exfalso; first | omega | (simp at *; done); done)
      | refine AW.region ?_
      | (refine AW.conds rfl (fun hc => ?_) (fun hc => ?_) <;> (try simp only [decide_eq_true_eq, decide_eq_false_iff_not, Bool.not_true, Bool.not_false, Bool.not_eq_true', Bool.not_eq_false', Int.not_lt, Int.not_le, Classical.not_not, ne_eq] at hc) <;> first | (exfalso; first | contradiction | (first | omega | (simp at *; done)); done) | skip))
    | ((with_reducible refine FinA.on ?_); (refine FinA.keep 1 [4] (.inl rfl) (.cellN (n := 3) (by conv => lhs; whnf) (by kernel_rfl) (by kernel_rfl) rfl (.tmp (by conv => lhs; whnf) .nil)) (by simp [rn3, rn2, rn1, kσ, pack]) rfl (Nat.le_of_eq hE) rfl rfl ⟨⟨_, rfl, rfl, rfl, .inl ⟨rfl, flatS_scal l⟩⟩, ⟨_, rfl, rfl, rfl, .inl ⟨hsx.symm, hss⟩⟩, trivial⟩)))
theorem Corrected_xc (l : List St) (z : Nat) (hR : Right bd l) (ho : Ors nm l) (he : (orbE nm.data.toList bd l).2 = 0) (k : Nat) (hk : k < l.length) (s : St) (ho' : Ors nm (l.set k s)) (e : Int) (he' : (orbE nm.data.toList bd (l.set k s)).2 = e) (h0 : e ≠ 0) :
    PCalls Try.prog 62 [obI nm bd 0 l, .int .i64 k, stV s] [some ⟨flatS l, false, z⟩] (.tuple #[ob0, .int .i64 e]) := by
  have H := fun (m : Mem) (v : Value) (hS : SlB m v l) => CheckOrbit_q (bd := bd) hS ho
  rw [he] at H
  have h40 := hR.n40
  have h2 := hR.n2
  have hlen := flatS_len l
  have hsx := set_flatS (s := s) hk
  have hll : (l.set k s).length = l.length := List.length_set
  have HC := fun (m : Mem) (i : Nat) (blk : Blk) (h : m.at i = some blk) (hc : blk.cells = flatS (l.set k s)) => checked_e h hc hll ho' e he' h0
  have HW := within_q k 0 (l.length - 1)
  rw [show rngB k 0 (l.length - 1) = true from rngB_true.2 (by omega)] at HW
  clear he he' ho ho'
  generalize (orbE nm.data.toList bd l).1 = x at *
  refine PCalls.enter (t := [obI nm bd 0 l, .int .i64 k, stV s, undef, undef, undef, undef, undef, undef, undef, undef, undef, undef, undef, undef, undef, undef, undef, undef, undef, undef, undef, undef, undef, undef, undef, undef, undef, undef, undef, undef, undef, undef, undef, undef, undef, undef, undef, undef, undef]) Try.func62 rfl (ro1 _ rfl) rfl fun E => ?_
  repeat' (first
    | with_reducible refine Then.n ?_
    | with_reducible refine Then.r ?_
    | with_reducible refine Then.x ?_
    | with_reducible refine InB.n ?_
    | with_reducible refine InB.r ?_
    | with_reducible refine InB.hit ?_
    | with_reducible refine InB.miss (by decide) ?_
    | ((with_reducible refine AL.on ?_); first
      | ((first | ((with_reducible refine AL.k_assign ?_); first | (refine AL.q rfl (OQ.assign (by conv => lhs; whnf)) ?_)) | ((with_reducible refine AL.k_load ?_); first | refine AL.q rfl (OQ.loadN (ty := 24) (n := 3) rfl (by kernel_rfl) (by kernel_rfl) rfl) ?_ | (refine AL.q rfl (OQ.load1 (ty := 22) rfl (by kernel_rfl) (by conv => lhs; whnf)) ?_) | refine AL.q rfl (OQ.loadN (ty := 55) (n := 5) rfl (by kernel_rfl) (by kernel_rfl) rfl) ?_) | ((with_reducible refine AL.k_move ?_); first | (refine AL.q rfl (OQ.move (by conv => lhs; whnf)) ?_)) | ((with_reducible refine AL.k_call ?_); first | refine AL.q rfl (OQ.lenS (xt := 22) (r := (none, 5, true)) rfl (by kernel_rfl)) ?_) | ((with_reducible refine AL.k_extract ?_); first | refine AL.q rfl (OQ.extract rfl rfl) ?_) | ((with_reducible refine AL.k_fieldAddr ?_); first | refine AL.q rfl (OQ.fieldA (ty := 24) (i := 2) (n := 1) (off := 2) (g := false) rfl (by kernel_rfl) (by decide)) ?_) | ((with_reducible refine AL.k_binOp ?_); first | refine AL.q rfl (OQ.neq rfl rfl) ?_ | refine AL.q rfl (OQ.subi rfl rfl (by omega)) ?_ | refine AL.q rfl (OQ.sub rfl rfl) ?_) | ((with_reducible refine AL.k_unOp ?_); first | refine AL.q rfl (OQ.not rfl) ?_) | ((with_reducible refine AL.k_indexAddr ?_); first | refine AL.q rfl (OQ.idxAddr (ty := 22) (z := 5) (g := true) rfl rfl (by kernel_rfl) (by omega) (by omega)) ?_)); (conv => (arg 5; try tactic => exact nrm)))
      | ((first | ((with_reducible refine AL.k_call ?_); first | refine AL.pcall (g := 46) rfl (by kernel_rfl) rfl ((by exact H _ _ (.blk 0 _ rfl rfl rfl))) ?_ | refine AL.pcall (g := 92) rfl (by kernel_rfl) rfl (HW _) ?_ | refine AL.pcall (g := 119) rfl (by kernel_rfl) rfl ((by exact HC _ _ _ rfl hsx)) ?_) | ((with_reducible refine AL.k_build ?_); first | refine AL.q rfl (OQ.buildS (ty := 24) (zs := [.string ⟨#[]⟩, .int .i64 0, .slice none 0 0]) (pls := [(0, 1), (1, 1), (2, 1)]) (by kernel_rfl) rfl (by kernel_rfl) rfl rfl rfl) ?_)); (conv => (arg 5; try tactic => exact nrm)))
      | ((first | ((with_reducible refine AL.k_store ?_); first | (refine AL.w rfl (OW.store (ty := 24) (n := 3) rfl (by conv => lhs; whnf) rfl rfl (by kernel_rfl) rfl rfl (by decide) rfl (by first | exact Nat.le_of_ble_eq_true rfl | ((rw [hlen]; omega))) (by intro r h; cases h)) ?_) | (refine AL.w rfl (OW.store (ty := 22) (n := 1) rfl (by conv => lhs; whnf) rfl rfl (by kernel_rfl) rfl rfl (by decide) rfl (by first | exact Nat.le_of_ble_eq_true rfl | ((rw [hlen]; omega))) (by intro r h; cases h)) ?_) | (refine AL.w rfl (OW.store (ty := 55) (n := 5) rfl (by conv => lhs; whnf) rfl rfl (by kernel_rfl) rfl rfl (by decide) rfl (by first | exact Nat.le_of_ble_eq_true rfl | ((rw [hlen]; omega))) (by intro r h; cases h)) ?_)) | ((with_reducible refine AL.k_call ?_); first | refine AL.acall (g := 118) rfl (by kernel_rfl) rfl ((Clone_q (l := l) rfl rfl rfl (by omega) (by omega))) ?_) | ((with_reducible refine AL.k_box ?_); first | (refine AL.w rfl (OW.box (by conv => lhs; whnf) (by intro r h; cases h)) ?_)) | ((with_reducible refine AL.k_alloc ?_); first | refine AL.w rfl (OW.alloc (ty := 24) (z := [.string ⟨#[]⟩, .int .i64 0, .slice none 0 0]) (by kernel_rfl) rfl) ?_)); (conv => (arg 5; try tactic => exact nrm)); (conv => (arg 6; try tactic => exact nrm)))
      | refine AL.nil ?_)
    | ((with_reducible refine AW.on ?_); first
      | refine AW.seq ?_
      | refine AW.skip ?_
      | refine AW.exit ?_
      | refine AW.ret ?_
      | refine AW.block ?_
      | (refine AW.region (id := 3) ?_; exfalso; first | omega | (simp at *; done); done)
      | (refine AW.region (id := 5) ?_; exfalso; first | omega | (simp at *; done); done)
      | refine AW.region ?_
      | (refine AW.conds rfl (fun hc => ?_) (fun hc => ?_) <;> (try simp only [decide_eq_true_eq, decide_eq_false_iff_not, Bool.not_true, Bool.not_false, Bool.not_eq_true', Bool.not_eq_false', Int.not_lt, Int.not_le, Classical.not_not, ne_eq] at hc) <;> first | (exfalso; first | contradiction | (first | omega | (simp at *; done)); done) | skip))
    | ((with_reducible refine FinP.on ?_); (first | refine FinP.ret (.cellN (n := 3) (by conv => lhs; whnf) (by kernel_rfl) (by kernel_rfl) rfl (.tmp (by conv => lhs; whnf) .nil)) ?_ rfl | refine FinP.end (.cellN (n := 3) (by conv => lhs; whnf) (by kernel_rfl) (by kernel_rfl) rfl (.tmp (by conv => lhs; whnf) .nil)) ?_ rfl); (try simp only [pack, List.drop, List.take]); all_goals (rfl)))
theorem Without_0c (l : List St) (z : Nat) (hz : z = 0 ∨ z = 5) (hR : Right bd l) (ho : Ors nm l) (he : (orbE nm.data.toList bd l).2 = 0) (k : Nat) (hk : k < l.length) (ho' : Ors nm (outL l k)) (he' : (orbE nm.data.toList bd (outL l k)).2 = 0) :
    ACalls Try.prog 63 [obI nm bd 0 l, .int .i64 k] [some ⟨flatS l, false, z⟩] (.tuple #[obI nm bd 1 (outL l k), .int .i64 0]) [some ⟨flatS l, false, z⟩, some ⟨flatS (outL l k), true, 5⟩] := by
  rw [show obI nm bd 1 (outL l k) = obN nm bd 1 (l.length - 1) by show obN nm bd 1 (outL l k).length = _; rw [outL_len l k hk]]
  have H := fun (m : Mem) (v : Value) (hS : SlB m v l) => CheckOrbit_q (bd := bd) hS ho
  rw [he] at H
  have h40 := hR.n40
  have h2 := hR.n2
  have hss := flatS_scal (outL l k)
  have hll := outL_len l k hk
  obtain ⟨k2, hk2⟩ : ∃ k2, k + 1 + k2 = l.length := ⟨l.length - (k + 1), by omega⟩
  rw [show l.length - 1 = k + k2 by omega] at hll ⊢
  have HC := fun (m : Mem) (i : Nat) (blk : Blk) (h : m.at i = some blk) (hc : blk.cells = flatS (outL l k)) => checked_0 h hc hll ho' he'
  have HW := within_q k 0 (l.length - 1)
  rw [show rngB k 0 (l.length - 1) = true from rngB_true.2 (by omega)] at HW
  clear he he' ho ho'
  generalize (orbE nm.data.toList bd l).1 = x at *
  have hsub : l.length - (k + 1) = k2 := by omega
  refine ACalls.enter (t := [obI nm bd 0 l, .int .i64 k, undef, undef, undef, undef, undef, undef, undef, undef, undef, undef, undef, undef, undef, undef, undef, undef, undef, undef, undef, undef, undef, undef, undef, undef, undef, undef, undef, undef, undef, undef, undef, undef, undef, undef, undef, undef, undef, undef, undef]) Try.func63 rfl rfl fun E hE => ?_
  repeat' (first
    | with_reducible refine Then.n ?_
    | with_reducible refine Then.r ?_
    | with_reducible refine Then.x ?_
    | with_reducible refine InB.n ?_
    | with_reducible refine InB.r ?_
    | with_reducible refine InB.hit ?_
    | with_reducible refine InB.miss (by decide) ?_
    | ((with_reducible refine AL.on ?_); first
      | ((first | ((with_reducible refine AL.k_assign ?_); first | (refine AL.q rfl (OQ.assign (by conv => lhs; whnf)) ?_)) | ((with_reducible refine AL.k_move ?_); first | (refine AL.q rfl (OQ.move (by conv => lhs; whnf)) ?_)) | ((with_reducible refine AL.k_load ?_); first | refine AL.q rfl (OQ.loadN (ty := 24) (n := 3) rfl (by kernel_rfl) (by kernel_rfl) rfl) ?_ | (refine AL.q rfl (OQ.load1 (ty := 22) rfl (by kernel_rfl) (by conv => lhs; whnf)) ?_)) | ((with_reducible refine AL.k_call ?_); first | refine AL.q rfl (OQ.lenS (xt := 22) (r := (none, 5, true)) rfl (by kernel_rfl)) ?_) | ((with_reducible refine AL.k_extract ?_); first | refine AL.q rfl (OQ.extract rfl rfl) ?_) | ((with_reducible refine AL.k_fieldAddr ?_); first | refine AL.q rfl (OQ.fieldA (ty := 24) (i := 2) (n := 1) (off := 2) (g := false) rfl (by kernel_rfl) (by decide)) ?_) | ((with_reducible refine AL.k_binOp ?_); first | refine AL.q rfl (OQ.neq rfl rfl) ?_ | refine AL.q rfl (OQ.subi rfl rfl (by omega)) ?_ | refine AL.q rfl (OQ.sub rfl rfl) ?_) | ((with_reducible refine AL.k_unOp ?_); first | refine AL.q rfl (OQ.not rfl) ?_)); (conv => (arg 5; try tactic => exact nrm)))
      | ((first | ((with_reducible refine AL.k_call ?_); first | refine AL.pcall (g := 46) rfl (by kernel_rfl) rfl ((by exact H _ _ (.blk 0 _ rfl rfl rfl))) ?_ | refine AL.pcall (g := 92) rfl (by kernel_rfl) rfl (HW _) ?_ | refine AL.pcall (g := 119) rfl (by kernel_rfl) rfl ((by exact HC _ _ _ rfl rfl)) ?_) | ((with_reducible refine AL.k_build ?_); first | refine AL.q rfl (OQ.buildS (ty := 24) (zs := [.string ⟨#[]⟩, .int .i64 0, .slice none 0 0]) (pls := [(0, 1), (1, 1), (2, 1)]) (by kernel_rfl) rfl (by kernel_rfl) rfl rfl rfl) ?_)); (conv => (arg 5; try tactic => exact nrm)))
      | ((first | ((with_reducible refine AL.k_call ?_); first | refine AL.acall (g := 120) rfl (by kernel_rfl) rfl ((ConcatS_q l k k2 _ _ rfl rfl rfl rfl hk2 (by omega) (by omega))) ?_) | ((with_reducible refine AL.k_store ?_); first | (refine AL.w rfl (OW.store (ty := 24) (n := 3) rfl (by conv => lhs; whnf) rfl rfl (by kernel_rfl) rfl rfl (by decide) rfl (Nat.le_of_ble_eq_true rfl) (by intro r h; cases h)) ?_) | (refine AL.w rfl (OW.store (ty := 22) (n := 1) rfl (by conv => lhs; whnf) rfl rfl (by kernel_rfl) rfl rfl (by decide) rfl (Nat.le_of_ble_eq_true rfl) (by intro r h; cases h)) ?_)) | ((with_reducible refine AL.k_box ?_); first | (refine AL.w rfl (OW.box (by conv => lhs; whnf) (by intro r h; cases h)) ?_)) | ((with_reducible refine AL.k_alloc ?_); first | refine AL.w rfl (OW.alloc (ty := 24) (z := [.string ⟨#[]⟩, .int .i64 0, .slice none 0 0]) (by kernel_rfl) rfl) ?_) | ((with_reducible refine AL.k_buildSlice ?_); first | refine AL.w rfl (OW.buildSl (ty := 171) (zs := [.slice none 0 0]) (n := 1) (g := false) (by kernel_rfl) (by kernel_rfl) rfl rfl rfl (by decide) (by decide) rfl rfl) ?_)); (conv => (arg 5; try tactic => exact nrm)); (conv => (arg 6; try tactic => exact nrm)))
      | refine AL.nil ?_)
    | ((with_reducible refine AW.on ?_); first
      | refine AW.seq ?_
      | refine AW.skip ?_
      | refine AW.exit ?_
      | refine AW.ret ?_
      | refine AW.block ?_
      | (refine AW.draw (id := 6) 9 #[0, 1, 0, 7, 0, 16, 0, 64, 240, 511, 1023, 2047, 4095] (by kernel_rfl) (by kernel_rfl) ?_; (conv => (arg 8; simp only [List.take_succ_cons, List.take_zero])))
      | (refine AW.region (id := 3) ?_; exfalso; first | omega | (simp at *; done); done)
      | (refine AW.region (id := 5) ?_; exfalso; first | omega | (simp at *; done); done)
      | refine AW.region ?_
      | (refine AW.conds rfl (fun hc => ?_) (fun hc => ?_) <;> (try simp only [decide_eq_true_eq, decide_eq_false_iff_not, Bool.not_true, Bool.not_false, Bool.not_eq_true', Bool.not_eq_false', Int.not_lt, Int.not_le, Classical.not_not, ne_eq] at hc) <;> first | (exfalso; first | contradiction | (first | omega | (simp at *; done)); done) | skip))
    | ((with_reducible refine AD.on ?_); first
      | ((first | ((with_reducible refine AD.k_move ?_); first | (refine AD.q rfl (OQ.move (by conv => lhs; whnf)) rfl rfl rfl ?_)) | ((with_reducible refine AD.k_load ?_); first | (refine AD.q rfl (OQ.load1 (ty := 22) rfl (by kernel_rfl) (by conv => lhs; whnf)) rfl rfl rfl ?_)) | ((with_reducible refine AD.k_fieldAddr ?_); first | refine AD.q rfl (OQ.fieldA (ty := 24) (i := 2) (n := 1) (off := 2) (g := false) rfl (by kernel_rfl) (by decide)) rfl rfl rfl ?_) | ((with_reducible refine AD.k_binOp ?_); first | refine AD.q rfl (OQ.addi rfl rfl (by omega)) rfl rfl rfl ?_ | refine AD.q rfl (OQ.add rfl rfl) rfl rfl rfl ?_) | refine AD.q rfl (by first | exact OQ.sliceTo (ty := 22) (k := k) (z := 5) (g := true) rfl (by kernel_rfl) rfl hz rfl rfl (by omega) | exact OQ.sliceFrom (ty := 22) (k := k) (k2 := k2) (z := 5) (g := true) rfl (by kernel_rfl) rfl hz rfl rfl (by omega)) rfl rfl rfl ?_); (conv => (arg 10; try tactic => exact nrm)))
      | (refine AD.nil ?_; (conv => (arg 4; simp only [List.drop_succ_cons, List.drop_zero, List.drop_nil])); (conv => (arg 5; try tactic => exact nrm)); (conv => (arg 6; try tactic => exact nrm))))
    | ((with_reducible refine FinA.on ?_); (refine FinA.keep 1 [4] (.inl rfl) (.cellN (n := 3) (by conv => lhs; whnf) (by kernel_rfl) (by kernel_rfl) rfl (.tmp (by conv => lhs; whnf) .nil)) (by simp [rn3, rn2, rn1, kσ, pack]) rfl (Nat.le_of_eq hE) rfl rfl ⟨⟨_, rfl, rfl, rfl, .inl ⟨rfl, flatS_scal l⟩⟩, ⟨_, rfl, rfl, rfl, .inl ⟨rfl, hss⟩⟩, trivial⟩)))
theorem Without_xc (l : List St) (z : Nat) (hz : z = 0 ∨ z = 5) (hR : Right bd l) (ho : Ors nm l) (he : (orbE nm.data.toList bd l).2 = 0) (k : Nat) (hk : k < l.length) (ho' : Ors nm (outL l k)) (e : Int) (he' : (orbE nm.data.toList bd (outL l k)).2 = e) (h0 : e ≠ 0) :
    PCalls Try.prog 63 [obI nm bd 0 l, .int .i64 k] [some ⟨flatS l, false, z⟩] (.tuple #[ob0, .int .i64 e]) := by
  have H := fun (m : Mem) (v : Value) (hS : SlB m v l) => CheckOrbit_q (bd := bd) hS ho
  rw [he] at H
  have h40 := hR.n40
  have h2 := hR.n2
  have hss := flatS_scal (outL l k)
  have hll := outL_len l k hk
  obtain ⟨k2, hk2⟩ : ∃ k2, k + 1 + k2 = l.length := ⟨l.length - (k + 1), by omega⟩
  rw [show l.length - 1 = k + k2 by omega] at hll
  have HC := fun (m : Mem) (i : Nat) (blk : Blk) (h : m.at i = some blk) (hc : blk.cells = flatS (outL l k)) => checked_e h hc hll ho' e he' h0
  have HW := within_q k 0 (l.length - 1)
  rw [show rngB k 0 (l.length - 1) = true from rngB_true.2 (by omega)] at HW
  clear he he' ho ho'
  generalize (orbE nm.data.toList bd l).1 = x at *
  have hsub : l.length - (k + 1) = k2 := by omega
  refine PCalls.enter (t := [obI nm bd 0 l, .int .i64 k, undef, undef, undef, undef, undef, undef, undef, undef, undef, undef, undef, undef, undef, undef, undef, undef, undef, undef, undef, undef, undef, undef, undef, undef, undef, undef, undef, undef, undef, undef, undef, undef, undef, undef, undef, undef, undef, undef, undef]) Try.func63 rfl (ro1 _ rfl) rfl fun E => ?_
  repeat' (first
    | with_reducible refine Then.n ?_
    | with_reducible refine Then.r ?_
    | with_reducible refine Then.x ?_
    | with_reducible refine InB.n ?_
    | with_reducible refine InB.r ?_
    | with_reducible refine InB.hit ?_
    | with_reducible refine InB.miss (by decide) ?_
    | ((with_reducible refine AL.on ?_); first
      | ((first | ((with_reducible refine AL.k_assign ?_); first | (refine AL.q rfl (OQ.assign (by conv => lhs; whnf)) ?_)) | ((with_reducible refine AL.k_move ?_); first | (refine AL.q rfl (OQ.move (by conv => lhs; whnf)) ?_)) | ((with_reducible refine AL.k_load ?_); first | refine AL.q rfl (OQ.loadN (ty := 24) (n := 3) rfl (by kernel_rfl) (by kernel_rfl) rfl) ?_ | (refine AL.q rfl (OQ.load1 (ty := 22) rfl (by kernel_rfl) (by conv => lhs; whnf)) ?_)) | ((with_reducible refine AL.k_call ?_); first | refine AL.q rfl (OQ.lenS (xt := 22) (r := (none, 5, true)) rfl (by kernel_rfl)) ?_) | ((with_reducible refine AL.k_extract ?_); first | refine AL.q rfl (OQ.extract rfl rfl) ?_) | ((with_reducible refine AL.k_fieldAddr ?_); first | refine AL.q rfl (OQ.fieldA (ty := 24) (i := 2) (n := 1) (off := 2) (g := false) rfl (by kernel_rfl) (by decide)) ?_) | ((with_reducible refine AL.k_binOp ?_); first | refine AL.q rfl (OQ.neq rfl rfl) ?_ | refine AL.q rfl (OQ.subi rfl rfl (by omega)) ?_ | refine AL.q rfl (OQ.sub rfl rfl) ?_) | ((with_reducible refine AL.k_unOp ?_); first | refine AL.q rfl (OQ.not rfl) ?_)); (conv => (arg 5; try tactic => exact nrm)))
      | ((first | ((with_reducible refine AL.k_call ?_); first | refine AL.pcall (g := 46) rfl (by kernel_rfl) rfl ((by exact H _ _ (.blk 0 _ rfl rfl rfl))) ?_ | refine AL.pcall (g := 92) rfl (by kernel_rfl) rfl (HW _) ?_ | refine AL.pcall (g := 119) rfl (by kernel_rfl) rfl ((by exact HC _ _ _ rfl rfl)) ?_) | ((with_reducible refine AL.k_build ?_); first | refine AL.q rfl (OQ.buildS (ty := 24) (zs := [.string ⟨#[]⟩, .int .i64 0, .slice none 0 0]) (pls := [(0, 1), (1, 1), (2, 1)]) (by kernel_rfl) rfl (by kernel_rfl) rfl rfl rfl) ?_)); (conv => (arg 5; try tactic => exact nrm)))
      | ((first | ((with_reducible refine AL.k_call ?_); first | refine AL.acall (g := 120) rfl (by kernel_rfl) rfl ((ConcatS_q l k k2 _ _ rfl rfl rfl rfl hk2 (by omega) (by omega))) ?_) | ((with_reducible refine AL.k_store ?_); first | (refine AL.w rfl (OW.store (ty := 24) (n := 3) rfl (by conv => lhs; whnf) rfl rfl (by kernel_rfl) rfl rfl (by decide) rfl (Nat.le_of_ble_eq_true rfl) (by intro r h; cases h)) ?_) | (refine AL.w rfl (OW.store (ty := 22) (n := 1) rfl (by conv => lhs; whnf) rfl rfl (by kernel_rfl) rfl rfl (by decide) rfl (Nat.le_of_ble_eq_true rfl) (by intro r h; cases h)) ?_)) | ((with_reducible refine AL.k_box ?_); first | (refine AL.w rfl (OW.box (by conv => lhs; whnf) (by intro r h; cases h)) ?_)) | ((with_reducible refine AL.k_alloc ?_); first | refine AL.w rfl (OW.alloc (ty := 24) (z := [.string ⟨#[]⟩, .int .i64 0, .slice none 0 0]) (by kernel_rfl) rfl) ?_) | ((with_reducible refine AL.k_buildSlice ?_); first | refine AL.w rfl (OW.buildSl (ty := 171) (zs := [.slice none 0 0]) (n := 1) (g := false) (by kernel_rfl) (by kernel_rfl) rfl rfl rfl (by decide) (by decide) rfl rfl) ?_)); (conv => (arg 5; try tactic => exact nrm)); (conv => (arg 6; try tactic => exact nrm)))
      | refine AL.nil ?_)
    | ((with_reducible refine AW.on ?_); first
      | refine AW.seq ?_
      | refine AW.skip ?_
      | refine AW.exit ?_
      | refine AW.ret ?_
      | refine AW.block ?_
      | (refine AW.draw (id := 6) 9 #[0, 1, 0, 7, 0, 16, 0, 64, 240, 511, 1023, 2047, 4095] (by kernel_rfl) (by kernel_rfl) ?_; (conv => (arg 8; simp only [List.take_succ_cons, List.take_zero])))
      | (refine AW.region (id := 3) ?_; exfalso; first | omega | (simp at *; done); done)
      | (refine AW.region (id := 5) ?_; exfalso; first | omega | (simp at *; done); done)
      | refine AW.region ?_
      | (refine AW.conds rfl (fun hc => ?_) (fun hc => ?_) <;> (try simp only [decide_eq_true_eq, decide_eq_false_iff_not, Bool.not_true, Bool.not_false, Bool.not_eq_true', Bool.not_eq_false', Int.not_lt, Int.not_le, Classical.not_not, ne_eq] at hc) <;> first | (exfalso; first | contradiction | (first | omega | (simp at *; done)); done) | skip))
    | ((with_reducible refine AD.on ?_); first
      | ((first | ((with_reducible refine AD.k_move ?_); first | (refine AD.q rfl (OQ.move (by conv => lhs; whnf)) rfl rfl rfl ?_)) | ((with_reducible refine AD.k_load ?_); first | (refine AD.q rfl (OQ.load1 (ty := 22) rfl (by kernel_rfl) (by conv => lhs; whnf)) rfl rfl rfl ?_)) | ((with_reducible refine AD.k_fieldAddr ?_); first | refine AD.q rfl (OQ.fieldA (ty := 24) (i := 2) (n := 1) (off := 2) (g := false) rfl (by kernel_rfl) (by decide)) rfl rfl rfl ?_) | ((with_reducible refine AD.k_binOp ?_); first | refine AD.q rfl (OQ.addi rfl rfl (by omega)) rfl rfl rfl ?_ | refine AD.q rfl (OQ.add rfl rfl) rfl rfl rfl ?_) | refine AD.q rfl (by first | exact OQ.sliceTo (ty := 22) (k := k) (z := 5) (g := true) rfl (by kernel_rfl) rfl hz rfl rfl (by omega) | exact OQ.sliceFrom (ty := 22) (k := k) (k2 := k2) (z := 5) (g := true) rfl (by kernel_rfl) rfl hz rfl rfl (by omega)) rfl rfl rfl ?_); (conv => (arg 10; try tactic => exact nrm)))
      | (refine AD.nil ?_; (conv => (arg 4; simp only [List.drop_succ_cons, List.drop_zero, List.drop_nil])); (conv => (arg 5; try tactic => exact nrm)); (conv => (arg 6; try tactic => exact nrm))))
    | ((with_reducible refine FinP.on ?_); (first | refine FinP.ret (.cellN (n := 3) (by conv => lhs; whnf) (by kernel_rfl) (by kernel_rfl) rfl (.tmp (by conv => lhs; whnf) .nil)) ?_ rfl | refine FinP.end (.cellN (n := 3) (by conv => lhs; whnf) (by kernel_rfl) (by kernel_rfl) rfl (.tmp (by conv => lhs; whnf) .nil)) ?_ rfl); (try simp only [pack, List.drop, List.take]); all_goals (rfl)))
end
end Go.Proofs.Ythpjhpfebjjanaa
end

section
namespace Go.Ab
open Go.RowKit
/-- A result of which the last block is told in part. -/
theorem ACalls.cut {P : Program} {f : FuncId} {args : List Value} {m mE : Mem} {v : Value} {C : List Value} {o : Bool} {z : Nat} (j : Nat) (h : ACalls P f args m v (mE ++ [some ⟨C, o, z⟩])) : ACalls P f args m v (mE ++ [some ⟨C.take j, o, z⟩]) := by
  intro E ρ args' w ha hs
  refine (h E ρ args' w ha hs).mono fun e w' ⟨v', ρ', he, hx, hv, hs'⟩ => ⟨v', ρ', he, hx, hv, ?_⟩
  have hat : ∀ b blk, Mem.at (mE ++ [some ⟨C.take j, o, z⟩]) b = some blk → ∃ blk', Mem.at (mE ++ [some ⟨C, o, z⟩]) b = some blk' ∧ blk'.own = blk.own ∧ blk'.esz = blk.esz ∧ ∀ (i : Nat) u, blk.cells[i]? = some u → blk'.cells[i]? = some u := by
    intro b blk hb
    rw [Mem.at_snoc] at hb ⊢
    split at hb
    · cases hb
      rename_i hbl
      exact ⟨_, if_pos hbl, rfl, rfl, fun i u hu => by
        rw [List.getElem?_take] at hu
        split at hu
        · exact hu
        · cases hu⟩
    · rename_i hbl
      exact ⟨blk, by rw [if_neg hbl]; exact hb, rfl, rfl, fun i u hu => hu⟩
  refine ⟨hs'.os, hs'.tape, hs'.output, hs'.size, hs'.same, hs'.ext, by simpa using hs'.len, fun b pl hb => by simpa using hs'.dom b pl hb, fun b blk hb => ?_, fun b blk pl hb ho hp => ?_⟩
  · obtain ⟨blk', h1, h2, h3, h4⟩ := hat b blk hb
    obtain ⟨pl, k1, ⟨c, ty, fr, g1, g2, g3, g4⟩, k3⟩ := hs'.mem b blk' h1
    refine ⟨pl, k1, ⟨c, ty, fr, g1, h3 ▸ g2, fun i u hu => g3 i u (h4 i u hu), fun ho => g4 (h2.trans ho)⟩, fun ho b' bk pl' hne hb' hp' => ?_⟩
    obtain ⟨bk', q1, -, -, -⟩ := hat b' bk hb'
    exact k3 (h2.trans ho) b' bk' pl' hne q1 hp'
  · obtain ⟨blk', h1, h2, h3, h4⟩ := hat b blk hb
    exact hs'.fresh b blk' pl h1 (h2.trans ho) hp
end Go.Ab
namespace Go.Proofs.Ythpjhpfebjjanaa
open Go Go.RowKit Go.Ob Go.Ab
set_option maxRecDepth 100000
set_option maxHeartbeats 1000000
attribute [local irreducible] OQ OW AL AW AD AF SW
theorem eqr_t26 (d : Nat) (w : World) (a0 a1 a2 b0 b1 b2 : Int) : (Op.equalIn (d + 2) 26 (.agg #[.int .i64 a0, .int .i64 a1, .int .i64 a2]) (.agg #[.int .i64 b0, .int .i64 b1, .int .i64 b2])).run Try.prog w = .ok (decide ((a0, a1, a2) = (b0, b1, b2))) w := by
  unfold Op.equalIn
  simp [Try.underlying26, run_underlying, go_sem, List.forIn_cons]
  by_cases h0 : a0 = b0
  case neg => simp [h0]
  by_cases h1 : a1 = b1
  case neg => simp [h0, h1]
  by_cases h2 : a2 = b2
  case neg => simp [h0, h1, h2]
  simp [h0, h1, h2]
theorem eqr_t55 (d : Nat) (w : World) (a0 a1 a2 a3 a4 b0 b1 b2 b3 b4 : Int) : (Op.equalIn (d + 3) 55 (.agg #[.int .i64 a0, .int .i64 a1, .int .i64 a2, .int .i64 a3, .int .i64 a4]) (.agg #[.int .i64 b0, .int .i64 b1, .int .i64 b2, .int .i64 b3, .int .i64 b4])).run Try.prog w = .ok (decide ((a0, a1, a2, a3, a4) = (b0, b1, b2, b3, b4))) w := by
  have z26 : (Go.sizeOf 26).run Try.prog w = .ok 3 w := by go_simp
  unfold Op.equalIn
  simp [Try.underlying55, run_underlying, go_sem, List.forIn_cons, eqr_t26, z26]
  by_cases h0 : a0 = b0
  case neg => simp [h0]
  by_cases h1 : a1 = b1
  case neg => simp [h0, h1]
  by_cases h2 : a2 = b2
  case neg => simp [h0, h1, h2]
  by_cases h3 : a3 = b3
  case neg => simp [h0, h1, h2, h3]
  by_cases h4 : a4 = b4
  case neg => simp [h0, h1, h2, h3, h4]
  simp [h0, h1, h2, h3, h4]
theorem nel_t55 {t : T} {m : Mem} {dst : Option Tmp} {rt ty' : TypeId} {pos : String} {after : Array Edge} {guard : Option (Nat × Bool)} {x y : Operand} {a0 a1 a2 a3 a4 b0 b1 b2 b3 b4 : Int} (hx : t.ev x = (.agg #[.int .i64 a0, .int .i64 a1, .int .i64 a2, .int .i64 a3, .int .i64 a4])) (hy : t.ev y = (.agg #[.int .i64 b0, .int .i64 b1, .int .i64 b2, .int .i64 b3, .int .i64 b4])) :
    OQ Try.prog ⟨dst, .binOp .neq 55 x y ty', rt, pos, after, guard⟩ t m (.bool (!(decide ((a0, a1, a2, a3, a4) = (b0, b1, b2, b3, b4))))) := by
  refine OQ.closed (fun cs b => by simp) (fun z hz => ?_) (fun w => ?_) rfl
  · simp [Op.operands] at hz
    rcases hz with rfl | rfl
    · rw [hx]; rfl
    · rw [hy]; rfl
  · have e := eqr_t55 9997 w a0 a1 a2 a3 a4 b0 b1 b2 b3 b4
    have hgt : (Try.prog).eqGuardType (Try.prog).depth 55 = false := by kernel_rfl
    have hg : (eqGuard .neq 55 x y (t.ev x) (t.ev y)).run Try.prog w = .ok () w := by
      rw [hx, hy]
      simp [eqGuard, program, Sem.run, Sem.run_bind, hgt]
    rw [hx, hy] at hg
    simp only [execOp, hx, hy, Sem.run_bind, hg, Result.andThen_ok, binOp, Op.equal, Op.maxDepth]
    erw [e]
    simp [go_sem]
theorem rCorrected_c (nm : ByteArray) (bd : Int) (l : List St) (z k : Nat) (s : St) (hk : k < l.length) (h2 : l.length ≤ 1000) :
    ACalls Try.prog 65 [obI nm bd 0 l, .int .i64 k, stV s] [some ⟨flatS l, false, z⟩] (obI nm bd 1 (l.set k s)) [some ⟨flatS l, false, z⟩, some ⟨flatS (l.set k s), true, 5⟩] := by
  rw [show obI nm bd 1 (l.set k s) = obN nm bd 1 l.length by show obN nm bd 1 (l.set k s).length = _; rw [List.length_set]]
  have hlen := flatS_len l
  have hsx := set_flatS (s := s) hk
  refine ACalls.enter (t := [obI nm bd 0 l, .int .i64 k, stV s, undef, undef, undef, undef, undef, undef, undef, undef, undef, undef, undef, undef, undef]) Try.func65 rfl rfl fun E hE => ?_
  repeat' (first
    | with_reducible refine Then.n ?_
    | with_reducible refine Then.r ?_
    | with_reducible refine Then.x ?_
    | with_reducible refine InB.n ?_
    | with_reducible refine InB.r ?_
    | with_reducible refine InB.hit ?_
    | with_reducible refine InB.miss (by decide) ?_
    | ((with_reducible refine AL.on ?_); first
      | ((first | ((with_reducible refine AL.k_load ?_); first | refine AL.q rfl (OQ.loadN (ty := 24) (n := 3) rfl (by kernel_rfl) (by kernel_rfl) rfl) ?_ | (refine AL.q rfl (OQ.load1 (ty := 22) rfl (by kernel_rfl) (by conv => lhs; whnf)) ?_) | refine AL.q rfl (OQ.loadN (ty := 55) (n := 5) rfl (by kernel_rfl) (by kernel_rfl) rfl) ?_) | ((with_reducible refine AL.k_fieldAddr ?_); first | refine AL.q rfl (OQ.fieldA (ty := 24) (i := 2) (n := 1) (off := 2) (g := false) rfl (by kernel_rfl) (by decide)) ?_) | ((with_reducible refine AL.k_move ?_); first | (refine AL.q rfl (OQ.move (by conv => lhs; whnf)) ?_)) | ((with_reducible refine AL.k_indexAddr ?_); first | refine AL.q rfl (OQ.idxAddr (ty := 22) (z := 5) (g := true) rfl rfl (by kernel_rfl) (by omega) (by omega)) ?_)); (conv => (arg 5; try tactic => exact nrm)))
      | ((first | ((with_reducible refine AL.k_store ?_); first | (refine AL.w rfl (OW.store (ty := 24) (n := 3) rfl (by conv => lhs; whnf) rfl rfl (by kernel_rfl) rfl rfl (by decide) rfl (by first | exact Nat.le_of_ble_eq_true rfl | ((rw [hlen]; omega))) (by intro r h; cases h)) ?_) | (refine AL.w rfl (OW.store (ty := 55) (n := 5) rfl (by conv => lhs; whnf) rfl rfl (by kernel_rfl) rfl rfl (by decide) rfl (by first | exact Nat.le_of_ble_eq_true rfl | ((rw [hlen]; omega))) (by intro r h; cases h)) ?_)) | ((with_reducible refine AL.k_box ?_); first | (refine AL.w rfl (OW.box (by conv => lhs; whnf) (by intro r h; cases h)) ?_)) | ((with_reducible refine AL.k_alloc ?_); first | refine AL.w rfl (OW.alloc (ty := 24) (z := [.string ⟨#[]⟩, .int .i64 0, .slice none 0 0]) (by kernel_rfl) rfl) ?_) | ((with_reducible refine AL.k_call ?_); first | refine AL.acall (g := 19) rfl (by kernel_rfl) rfl ((Copy_q nm bd (l := l) (.blk 0 _ rfl rfl rfl) (by omega))) ?_)); (conv => (arg 5; try tactic => exact nrm)); (conv => (arg 6; try tactic => exact nrm)))
      | refine AL.nil ?_)
    | ((with_reducible refine AW.on ?_); first
      | refine AW.seq ?_
      | refine AW.skip ?_
      | refine AW.exit ?_
      | refine AW.ret ?_
      | refine AW.block ?_
      | refine AW.region ?_
      | (refine AW.conds rfl (fun hc => ?_) (fun hc => ?_) <;> (try simp only [decide_eq_true_eq, decide_eq_false_iff_not, Bool.not_true, Bool.not_false, Bool.not_eq_true', Bool.not_eq_false', Int.not_lt, Int.not_le, Classical.not_not, ne_eq] at hc) <;> first | (exfalso; first | contradiction | (omega); done) | skip))
    | ((with_reducible refine FinA.on ?_); (refine FinA.keep 1 [4] (.inl rfl) (.cellN (n := 3) (by conv => lhs; whnf) (by kernel_rfl) (by kernel_rfl) rfl .nil) (by simp [rn3, rn2, rn1, kσ, pack]) rfl (Nat.le_of_eq hE) rfl rfl ⟨⟨_, rfl, rfl, rfl, .inl ⟨rfl, flatS_scal l⟩⟩, ⟨_, rfl, rfl, rfl, .inl ⟨hsx.symm, flatS_scal _⟩⟩, trivial⟩)))
theorem rWithout_c (nm : ByteArray) (bd : Int) (l : List St) (z : Nat) (hz : z = 0 ∨ z = 5) (k : Nat) (hk : k < l.length) (h2 : l.length ≤ 1000) :
    ACalls Try.prog 66 [obI nm bd 0 l, .int .i64 k] [some ⟨flatS l, false, z⟩] (obI nm bd 1 (outL l k)) [some ⟨flatS l, false, z⟩, some ⟨flatS (outL l k), true, 5⟩] := by
  rw [show obI nm bd 1 (outL l k) = obN nm bd 1 (l.length - 1) by show obN nm bd 1 (outL l k).length = _; rw [outL_len l k hk]]
  have hlen := flatS_len l
  obtain ⟨k2, hl⟩ : ∃ k2, k + 1 + k2 = l.length := ⟨l.length - (k + 1), by omega⟩
  rw [show l.length - 1 = k + k2 by omega]
  have hsub : l.length - (k + 1) = k2 := by omega
  have hld2 : ∀ rest : Mem, Mem.ld (some ⟨flatS l, false, z⟩ :: rest) 0 ((k + 1) * 5) (k2 * 5) = some (flatS (l.drop (k + 1))) := fun rest => by
    have := flS_ld (l := l) (b := 0) (z := z) (m := some ⟨flatS l, false, z⟩ :: rest) false rfl (k + 1) k2 (by omega)
    rwa [List.take_of_length_le (by rw [List.length_drop]; omega)] at this
  have htk : (flatS l).take (k * 5) = flatS (l.take k) := by
    have := flS_ld (l := l) (b := 0) (z := z) (m := [some ⟨flatS l, false, z⟩]) false rfl 0 k (by omega)
    simp only [Mem.ld, Mem.at, List.getD_cons_zero, Option.bind] at this
    split at this
    · simpa using this
    · cases this
  have hout : flatS (outL l k) = flatS (l.take k) ++ flatS (l.drop (k + 1)) := by simp [outL, flatS]
  have hsl := flatS_scal l
  have hs2 := flatS_scal (l.drop (k + 1))
  have hso := flatS_scal (outL l k)
  rcases Nat.eq_zero_or_pos k2 with hk2 | hk2
  · subst hk2
    have e2 : flatS (l.drop (k + 1)) = [] := by rw [List.drop_of_length_le (by omega)]; rfl
    rw [e2, List.append_nil, ← htk] at hout
    rw [hout]
    refine ACalls.cut (mE := [some ⟨flatS l, false, z⟩]) (k * 5) ?_
    refine ACalls.enter (t := [obI nm bd 0 l, .int .i64 k, undef, undef, undef, undef, undef, undef, undef, undef, undef, undef, undef, undef, undef, undef, undef, undef, undef, undef]) Try.func66 rfl rfl fun E hE => ?_
    repeat' (first
      | with_reducible refine Then.n ?_
      | with_reducible refine Then.r ?_
      | with_reducible refine Then.x ?_
      | with_reducible refine InB.n ?_
      | with_reducible refine InB.r ?_
      | with_reducible refine InB.hit ?_
      | with_reducible refine InB.miss (by decide) ?_
      | ((with_reducible refine AL.on ?_); first
        | ((first | ((with_reducible refine AL.k_load ?_); first | refine AL.q rfl (OQ.loadN (ty := 24) (n := 3) rfl (by kernel_rfl) (by kernel_rfl) rfl) ?_) | ((with_reducible refine AL.k_fieldAddr ?_); first | refine AL.q rfl (OQ.fieldA (ty := 24) (i := 2) (n := 1) (off := 2) (g := false) rfl (by kernel_rfl) (by decide)) ?_) | ((with_reducible refine AL.k_call ?_); first | refine AL.q rfl (OQ.append0 (v := undef) (z := 5) (e := 55) rfl rfl (by kernel_rfl) (by kernel_rfl)) ?_)); (conv => (arg 5; try tactic => exact nrm)))
        | ((first | ((with_reducible refine AL.k_store ?_); first | (refine AL.w rfl (OW.store (ty := 24) (n := 3) rfl (by conv => lhs; whnf) rfl rfl (by kernel_rfl) rfl rfl (by decide) rfl (Nat.le_of_ble_eq_true rfl) (by intro r h; cases h)) ?_) | (refine AL.w rfl (OW.store (ty := 22) (n := 1) rfl (by conv => lhs; whnf) rfl rfl (by kernel_rfl) rfl rfl (by decide) rfl (Nat.le_of_ble_eq_true rfl) (by intro r h; cases h)) ?_)) | ((with_reducible refine AL.k_alloc ?_); first | refine AL.w rfl (OW.alloc (ty := 24) (z := [.string ⟨#[]⟩, .int .i64 0, .slice none 0 0]) (by kernel_rfl) rfl) ?_) | ((with_reducible refine AL.k_call ?_); first | refine AL.acall (g := 19) rfl (by kernel_rfl) rfl ((Copy_q nm bd (l := l) (.blk 0 _ rfl rfl rfl) (by omega))) ?_) | ((with_reducible refine AL.k_box ?_); first | (refine AL.w rfl (OW.box (by conv => lhs; whnf) (by intro r h; cases h)) ?_))); (conv => (arg 5; try tactic => exact nrm)); (conv => (arg 6; try tactic => exact nrm)))
        | refine AL.nil ?_)
      | ((with_reducible refine AW.on ?_); first
        | refine AW.seq ?_
        | refine AW.skip ?_
        | refine AW.exit ?_
        | refine AW.ret ?_
        | refine AW.block ?_
        | (refine AW.draw (id := 2) 9 #[0, 1, 0, 7, 0, 16, 0, 64, 240, 511, 1023, 2047] (by kernel_rfl) (by kernel_rfl) ?_; (conv => (arg 8; simp only [List.take_succ_cons, List.take_zero])))
        | refine AW.region ?_
        | (refine AW.conds rfl (fun hc => ?_) (fun hc => ?_) <;> (try simp only [decide_eq_true_eq, decide_eq_false_iff_not, Bool.not_true, Bool.not_false, Bool.not_eq_true', Bool.not_eq_false', Int.not_lt, Int.not_le, Classical.not_not, ne_eq] at hc) <;> first | (exfalso; first | contradiction | (omega); done) | skip))
      | ((with_reducible refine AD.on ?_); first
        | ((first | ((with_reducible refine AD.k_load ?_); first | (refine AD.q rfl (OQ.load1 (ty := 22) rfl (by kernel_rfl) (by conv => lhs; whnf)) rfl rfl rfl ?_)) | ((with_reducible refine AD.k_fieldAddr ?_); first | refine AD.q rfl (OQ.fieldA (ty := 24) (i := 2) (n := 1) (off := 2) (g := false) rfl (by kernel_rfl) (by decide)) rfl rfl rfl ?_) | ((with_reducible refine AD.k_move ?_); first | (refine AD.q rfl (OQ.move (by conv => lhs; whnf)) rfl rfl rfl ?_)) | ((with_reducible refine AD.k_binOp ?_); first | refine AD.q rfl (OQ.addi rfl rfl (by omega)) rfl rfl rfl ?_ | refine AD.q rfl (OQ.add rfl rfl) rfl rfl rfl ?_) | refine AD.q rfl (by first | exact OQ.sliceTo (ty := 22) (k := k) (z := 5) (g := true) rfl (by kernel_rfl) rfl (.inr rfl) rfl rfl (by omega) | exact OQ.sliceFrom (ty := 22) (k := k) (k2 := 0) (z := 5) (g := true) rfl (by kernel_rfl) rfl hz rfl rfl (by omega)) rfl rfl rfl ?_); (conv => (arg 10; try tactic => exact nrm)))
        | (refine AD.nil ?_; (conv => (arg 4; simp only [List.drop_succ_cons, List.drop_zero, List.drop_nil])); (conv => (arg 5; try tactic => exact nrm)); (conv => (arg 6; try tactic => exact nrm))))
      | ((with_reducible refine FinA.on ?_); (refine FinA.keep 1 [3] (.inl rfl) (.cellN (n := 3) (by conv => lhs; whnf) (by kernel_rfl) (by kernel_rfl) rfl .nil) (by simp [rn3, rn2, rn1, kσ, pack]) rfl (Nat.le_of_eq hE) rfl rfl ⟨⟨_, rfl, rfl, rfl, .inl ⟨rfl, flatS_scal l⟩⟩, ⟨_, rfl, rfl, rfl, .inl ⟨rfl, flatS_scal _⟩⟩, trivial⟩)))
  ·
    refine ACalls.enter (t := [obI nm bd 0 l, .int .i64 k, undef, undef, undef, undef, undef, undef, undef, undef, undef, undef, undef, undef, undef, undef, undef, undef, undef, undef]) Try.func66 rfl rfl fun E hE => ?_
    repeat' (first
      | with_reducible refine Then.n ?_
      | with_reducible refine Then.r ?_
      | with_reducible refine Then.x ?_
      | with_reducible refine InB.n ?_
      | with_reducible refine InB.r ?_
      | with_reducible refine InB.hit ?_
      | with_reducible refine InB.miss (by decide) ?_
      | ((with_reducible refine AL.on ?_); first
        | ((first | ((with_reducible refine AL.k_load ?_); first | refine AL.q rfl (OQ.loadN (ty := 24) (n := 3) rfl (by kernel_rfl) (by kernel_rfl) rfl) ?_) | ((with_reducible refine AL.k_fieldAddr ?_); first | refine AL.q rfl (OQ.fieldA (ty := 24) (i := 2) (n := 1) (off := 2) (g := false) rfl (by kernel_rfl) (by decide)) ?_)); (conv => (arg 5; try tactic => exact nrm)))
        | ((first | ((with_reducible refine AL.k_store ?_); first | (refine AL.w rfl (OW.store (ty := 24) (n := 3) rfl (by conv => lhs; whnf) rfl rfl (by kernel_rfl) rfl rfl (by decide) rfl (Nat.le_of_ble_eq_true rfl) (by intro r h; cases h)) ?_) | (refine AL.w rfl (OW.store (ty := 22) (n := 1) rfl (by conv => lhs; whnf) rfl rfl (by kernel_rfl) rfl rfl (by decide) rfl (Nat.le_of_ble_eq_true rfl) (by intro r h; cases h)) ?_)) | ((with_reducible refine AL.k_alloc ?_); first | refine AL.w rfl (OW.alloc (ty := 24) (z := [.string ⟨#[]⟩, .int .i64 0, .slice none 0 0]) (by kernel_rfl) rfl) ?_) | ((with_reducible refine AL.k_call ?_); first | refine AL.acall (g := 19) rfl (by kernel_rfl) rfl ((Copy_q nm bd (l := l) (.blk 0 _ rfl rfl rfl) (by omega))) ?_ | (refine AL.w rfl (OW.append (n := k) (b := 3) (bx := 0) (k := k2) (z := 5) (by' := 40) (zs := [.int .i64 0, .int .i64 0, .int .i64 0, .int .i64 0, .int .i64 0]) (e := 55) rfl rfl (by kernel_rfl) (by kernel_rfl) (by kernel_rfl) rfl (by kernel_rfl) (by omega) rfl rfl rfl (by decide) (by rw [hlen]; omega) (hld2 _) (Go.Ls.one_of_scal hs2) (by omega) (by omega)) ?_)) | ((with_reducible refine AL.k_box ?_); first | (refine AL.w rfl (OW.box (by conv => lhs; whnf) (by intro r h; cases h)) ?_))); (conv => (arg 5; try tactic => exact nrm)); (conv => (arg 6; try tactic => exact nrm)))
        | refine AL.nil ?_)
      | ((with_reducible refine AW.on ?_); first
        | refine AW.seq ?_
        | refine AW.skip ?_
        | refine AW.exit ?_
        | refine AW.ret ?_
        | refine AW.block ?_
        | (refine AW.draw (id := 2) 9 #[0, 1, 0, 7, 0, 16, 0, 64, 240, 511, 1023, 2047] (by kernel_rfl) (by kernel_rfl) ?_; (conv => (arg 8; simp only [List.take_succ_cons, List.take_zero])))
        | refine AW.region ?_
        | (refine AW.conds rfl (fun hc => ?_) (fun hc => ?_) <;> (try simp only [decide_eq_true_eq, decide_eq_false_iff_not, Bool.not_true, Bool.not_false, Bool.not_eq_true', Bool.not_eq_false', Int.not_lt, Int.not_le, Classical.not_not, ne_eq] at hc) <;> first | (exfalso; first | contradiction | (omega); done) | skip))
      | ((with_reducible refine AD.on ?_); first
        | ((first | ((with_reducible refine AD.k_load ?_); first | (refine AD.q rfl (OQ.load1 (ty := 22) rfl (by kernel_rfl) (by conv => lhs; whnf)) rfl rfl rfl ?_)) | ((with_reducible refine AD.k_fieldAddr ?_); first | refine AD.q rfl (OQ.fieldA (ty := 24) (i := 2) (n := 1) (off := 2) (g := false) rfl (by kernel_rfl) (by decide)) rfl rfl rfl ?_) | ((with_reducible refine AD.k_move ?_); first | (refine AD.q rfl (OQ.move (by conv => lhs; whnf)) rfl rfl rfl ?_)) | ((with_reducible refine AD.k_binOp ?_); first | refine AD.q rfl (OQ.addi rfl rfl (by omega)) rfl rfl rfl ?_ | refine AD.q rfl (OQ.add rfl rfl) rfl rfl rfl ?_) | refine AD.q rfl (by first | exact OQ.sliceTo (ty := 22) (k := k) (z := 5) (g := true) rfl (by kernel_rfl) rfl (.inr rfl) rfl rfl (by omega) | exact OQ.sliceFrom (ty := 22) (k := k) (k2 := k2) (z := 5) (g := true) rfl (by kernel_rfl) rfl hz rfl rfl (by omega)) rfl rfl rfl ?_); (conv => (arg 10; try tactic => exact nrm)))
        | (refine AD.nil ?_; (conv => (arg 4; simp only [List.drop_succ_cons, List.drop_zero, List.drop_nil])); (conv => (arg 5; try tactic => exact nrm)); (conv => (arg 6; try tactic => exact nrm))))
      | ((with_reducible refine FinA.on ?_); (refine FinA.keep 1 [5] (.inl rfl) (.cellN (n := 3) (by conv => lhs; whnf) (by kernel_rfl) (by kernel_rfl) rfl .nil) (by simp [rn3, rn2, rn1, kσ, pack]) rfl (Nat.le_of_eq hE) rfl rfl ⟨⟨_, rfl, rfl, rfl, .inl ⟨rfl, flatS_scal l⟩⟩, ⟨_, rfl, rfl, rfl, .inl ⟨by rw [hout, htk], hso⟩⟩, trivial⟩)))
theorem Same_c (nm : ByteArray) (bd : Int) (l : List St) (z1 z2 : Nat) (h2 : l.length ≤ 1000) :
    PCalls Try.prog 64 [obI nm bd 0 l, obI nm bd 1 l] (two l l z1 z2) (.bool true) := by
  have hst : ∀ {m : Mem} {b : Nat} {blk : Blk} (hb : m.at b = some blk) (hc : blk.cells = flatS l) (k : Nat) (hk : k < l.length), m.ld b (k * 5) 5 = some (stC (at_ l k)) := fun hb hc k hk => ld_st hb hc k hk
  refine PCalls.enter (t := [obI nm bd 0 l, obI nm bd 1 l, undef, undef, undef, undef, undef, undef, undef, undef, undef, undef, undef, undef, undef, undef, undef, undef, undef, undef, undef, undef, undef, undef, undef, undef, undef, undef, undef, undef, undef, undef, undef, undef, undef, undef, undef, undef, undef, undef, undef, undef, undef, undef, undef]) Try.func64 rfl (ro2 _ _ rfl rfl) rfl fun E => ?_
  repeat' (first
    | with_reducible refine Then.n ?_
    | with_reducible refine Then.r ?_
    | with_reducible refine Then.x ?_
    | with_reducible refine InB.n ?_
    | with_reducible refine InB.r ?_
    | with_reducible refine InB.hit ?_
    | with_reducible refine InB.miss (by decide) ?_
    | ((with_reducible refine AL.on ?_); first
      | (refine AL.gd rfl ?_; first | (refine AL.gskip rfl rfl ?_; (conv => (arg 5; try tactic => exact nrm))) | (refine AL.gs1 rfl rfl (fun hc => ?_) (fun hc => ?_) <;> (try simp only [decide_eq_true_eq, decide_eq_false_iff_not, Bool.not_true, Bool.not_false, Bool.not_eq_true', Bool.not_eq_false', Int.not_lt, Int.not_le, Classical.not_not, ne_eq] at hc) <;> first | (exfalso; first | contradiction | (first | omega | (simp at *; done)); done) | (conv => (arg 5; try tactic => exact nrm))) | (refine AL.gs0 rfl rfl (fun hc => ?_) (fun hc => ?_) <;> (try simp only [decide_eq_true_eq, decide_eq_false_iff_not, Bool.not_true, Bool.not_false, Bool.not_eq_true', Bool.not_eq_false', Int.not_lt, Int.not_le, Classical.not_not, ne_eq] at hc) <;> first | (exfalso; first | contradiction | (first | omega | (simp at *; done)); done) | (conv => (arg 5; try tactic => exact nrm))))
      | ((first | ((with_reducible refine AL.k_load ?_); first | (refine AL.q rfl (OQ.load1 (ty := 9) rfl (by kernel_rfl) (by first | (exact hst rfl rfl k (by omega)) | (conv => lhs; whnf))) ?_) | (refine AL.q rfl (OQ.load1 (ty := 3) rfl (by kernel_rfl) (by first | (exact hst rfl rfl k (by omega)) | (conv => lhs; whnf))) ?_) | (refine AL.q rfl (OQ.load1 (ty := 22) rfl (by kernel_rfl) (by first | (exact hst rfl rfl k (by omega)) | (conv => lhs; whnf))) ?_)) | ((with_reducible refine AL.k_assign ?_); first | (refine AL.q rfl (OQ.assign (by conv => lhs; whnf)) ?_)) | ((with_reducible refine AL.k_binOp ?_); first | refine AL.q rfl (OQ.strne rfl rfl) ?_ | refine AL.q rfl (OQ.neq rfl rfl) ?_ | refine AL.q rfl (OQ.lss rfl rfl) ?_ | refine AL.q rfl (OQ.addi rfl rfl (by omega)) ?_ | refine AL.q rfl (OQ.add rfl rfl) ?_) | ((with_reducible refine AL.k_move ?_); first | (refine AL.q rfl (OQ.move (by conv => lhs; whnf)) ?_)) | ((with_reducible refine AL.k_call ?_); first | refine AL.q rfl (OQ.lenS (xt := 22) (r := (none, 5, true)) rfl (by kernel_rfl)) ?_) | ((with_reducible refine AL.k_pick ?_); first | (refine AL.q rfl (OQ.pickT rfl (by with_reducible rfl) (by conv => lhs; whnf)) ?_) | (refine AL.q rfl (OQ.pickF rfl (by with_reducible rfl) (by conv => lhs; whnf)) ?_))); (conv => (arg 5; try tactic => exact nrm)))
      | ((first | first | refine AL.q rfl (OQ.fieldA (ty := 24) (i := 0) (n := 1) (off := 0) (g := false) rfl (by kernel_rfl) (by decide)) ?_ | refine AL.q rfl (OQ.fieldA (ty := 24) (i := 1) (n := 1) (off := 1) (g := false) rfl (by kernel_rfl) (by decide)) ?_ | refine AL.q rfl (OQ.fieldA (ty := 24) (i := 2) (n := 1) (off := 2) (g := false) rfl (by kernel_rfl) (by decide)) ?_); (conv => (arg 5; try tactic => exact nrm)))
      | ((first | first | (refine AL.w rfl (OW.box (by conv => lhs; whnf) (by intro r h; cases h)) ?_)); (conv => (arg 5; try tactic => exact nrm)); (conv => (arg 6; try tactic => exact nrm)))
      | (refine AL.bs rfl (fun hc => ?_) (fun hc => ?_) <;> (fail_if_success (with_reducible exact lit_no hc)) <;> (try simp only [decide_eq_true_eq, decide_eq_false_iff_not, Bool.not_true, Bool.not_false, Bool.not_eq_true', Bool.not_eq_false', Int.not_lt, Int.not_le, Classical.not_not, ne_eq] at hc) <;> first | (exfalso; first | contradiction | (first | omega | (simp at *; done)); done) | (conv => (arg 5; try tactic => exact nrm)))
      | refine AL.nil ?_)
    | ((with_reducible refine AW.on ?_); first
      | refine AW.seq ?_
      | refine AW.skip ?_
      | refine AW.exit ?_
      | refine AW.ret ?_
      | ((refine AW.block (id := 0) ?_); (refine AW.wk (Wk.forget [false, false, true, true, false, true, false, false, false, false, false, false, false, false, false, false, false, false, false, false, false, false, false, false, false, false, false, false, false, false, false, false, false, false, false, false, false, false, false, false, false, false, false, false, false] rfl) ?_); (conv => (arg 4; simp only [fgt, if_true, if_false, Bool.false_eq_true])); (refine AW.loop (fun n t' m => ∃ k : Nat, n = l.length - k ∧ k ≤ l.length ∧ t' = [junk, junk, .pointer (some ⟨2, 0, none⟩), .pointer (some ⟨3, 0, none⟩), junk, .int .i64 (k), junk, junk, junk, junk, junk, junk, junk, junk, junk, junk, junk, junk, junk, junk, junk, junk, junk, junk, junk, junk, junk, junk, junk, junk, junk, junk, junk, junk, junk, junk, junk, junk, junk, junk, junk, junk, junk, junk, junk] ∧ m = [some ⟨flatS l, false, z1⟩, some ⟨flatS l, false, z2⟩, some ⟨[.string nm, .int .i64 bd, .slice (some ⟨0, 0, none⟩) l.length INF], true, 0⟩, some ⟨[.string nm, .int .i64 bd, .slice (some ⟨1, 0, none⟩) l.length INF], true, 0⟩]) (l.length) (by exact ⟨0, rfl, Nat.zero_le _, rfl, rfl⟩) ?_); (rintro n t' m ⟨k, rfl, hk, rfl, rfl⟩))
      | refine AW.block ?_
      | (refine AW.draw (id := 6) 11 #[0, 1, 0, 7, 15, 0, 32, 0, 224, 480, 1023] (by kernel_rfl) (by kernel_rfl) ?_; (conv => (arg 8; simp only [List.take_succ_cons, List.take_zero])))
      | (refine AW.region (id := 2) ?_; exfalso; first | omega | (simp at *; done); done)
      | (refine AW.region (id := 7) ?_; exfalso; first | omega | (simp at *; done); done)
      | refine AW.region ?_
      | (refine AW.conds rfl (fun hc => ?_) (fun hc => ?_) <;> (try simp only [decide_eq_true_eq, decide_eq_false_iff_not, Bool.not_true, Bool.not_false, Bool.not_eq_true', Bool.not_eq_false', Int.not_lt, Int.not_le, Classical.not_not, ne_eq] at hc) <;> first | (exfalso; first | contradiction | (first | omega | (simp at *; done)); done) | skip))
    | ((with_reducible refine AD.on ?_); first
      | ((first | ((with_reducible refine AD.k_load ?_); first | (refine AD.q rfl (OQ.load1 (ty := 22) rfl (by kernel_rfl) (by first | (exact hst rfl rfl k (by omega)) | (conv => lhs; whnf))) rfl rfl rfl ?_) | refine AD.q rfl (OQ.loadN (ty := 55) (n := 5) rfl (by kernel_rfl) (by kernel_rfl) (by first | (exact hst rfl rfl k (by omega)) | rfl)) rfl rfl rfl ?_) | ((with_reducible refine AD.k_move ?_); first | (refine AD.q rfl (OQ.move (by conv => lhs; whnf)) rfl rfl rfl ?_)) | ((with_reducible refine AD.k_binOp ?_); first | refine AD.q rfl (nel_t55 rfl rfl) rfl rfl rfl ?_)); (conv => (arg 10; try tactic => exact nrm)))
      | ((first | ((with_reducible refine AD.k_fieldAddr ?_); first | refine AD.q rfl (OQ.fieldA (ty := 24) (i := 2) (n := 1) (off := 2) (g := false) rfl (by kernel_rfl) (by decide)) rfl rfl rfl ?_) | ((with_reducible refine AD.k_indexAddr ?_); first | refine AD.q rfl (OQ.idxAddr (ty := 22) (z := 5) (g := true) rfl rfl (by kernel_rfl) (by omega) (by omega)) rfl rfl rfl ?_)); (conv => (arg 10; try tactic => exact nrm)))
      | (refine AD.nil ?_; (conv => (arg 4; simp only [List.drop_succ_cons, List.drop_zero, List.drop_nil])); (conv => (arg 5; try tactic => exact nrm)); (conv => (arg 6; try tactic => exact nrm))))
    | ((with_reducible refine ex_on ?_); exact ⟨l.length - (k + 1), _, _, by omega, Wk.forget [false, false, true, true, false, true, false, false, false, false, false, false, false, false, false, false, false, false, false, false, false, false, false, false, false, false, false, false, false, false, false, false, false, false, false, false, false, false, false, false, false, false, false, false, false] rfl, k + 1, rfl, by omega, rfl, rfl⟩)
    | ((with_reducible refine FinP.on ?_); (first | refine FinP.ret (.tmp (by conv => lhs; whnf) .nil) ?_ rfl | refine FinP.end (.tmp (by conv => lhs; whnf) .nil) ?_ rfl); (try simp only [pack, List.drop, List.take]); all_goals (rfl)))
theorem Same_z : PCalls Try.prog 64 [ob0, ob0] [] (.bool true) := by
  refine PCalls.enter (t := [ob0, ob0, undef, undef, undef, undef, undef, undef, undef, undef, undef, undef, undef, undef, undef, undef, undef, undef, undef, undef, undef, undef, undef, undef, undef, undef, undef, undef, undef, undef, undef, undef, undef, undef, undef, undef, undef, undef, undef, undef, undef, undef, undef, undef, undef]) Try.func64 rfl (ro_nil) rfl fun E => ?_
  repeat' (first
    | with_reducible refine Then.n ?_
    | with_reducible refine Then.r ?_
    | with_reducible refine Then.x ?_
    | with_reducible refine InB.n ?_
    | with_reducible refine InB.r ?_
    | with_reducible refine InB.hit ?_
    | with_reducible refine InB.miss (by decide) ?_
    | ((with_reducible refine AL.on ?_); first
      | (refine AL.gd rfl ?_; first | (refine AL.gskip rfl rfl ?_; (conv => (arg 5; try tactic => exact nrm))) | (refine AL.gs1 rfl rfl (fun hc => ?_) (fun hc => ?_) <;> (try simp only [decide_eq_true_eq, decide_eq_false_iff_not, Bool.not_true, Bool.not_false, Bool.not_eq_true', Bool.not_eq_false', Int.not_lt, Int.not_le, Classical.not_not, ne_eq] at hc) <;> first | (exfalso; first | contradiction | (first | omega | (simp at *; done)); done) | (conv => (arg 5; try tactic => exact nrm))) | (refine AL.gs0 rfl rfl (fun hc => ?_) (fun hc => ?_) <;> (try simp only [decide_eq_true_eq, decide_eq_false_iff_not, Bool.not_true, Bool.not_false, Bool.not_eq_true', Bool.not_eq_false', Int.not_lt, Int.not_le, Classical.not_not, ne_eq] at hc) <;> first | (exfalso; first | contradiction | (first | omega | (simp at *; done)); done) | (conv => (arg 5; try tactic => exact nrm))))
      | ((first | ((with_reducible refine AL.k_load ?_); first | (refine AL.q rfl (OQ.load1 (ty := 9) rfl (by kernel_rfl) (by conv => lhs; whnf)) ?_) | (refine AL.q rfl (OQ.load1 (ty := 3) rfl (by kernel_rfl) (by conv => lhs; whnf)) ?_) | (refine AL.q rfl (OQ.load1 (ty := 22) rfl (by kernel_rfl) (by conv => lhs; whnf)) ?_)) | ((with_reducible refine AL.k_fieldAddr ?_); first | refine AL.q rfl (OQ.fieldA (ty := 24) (i := 0) (n := 1) (off := 0) (g := false) rfl (by kernel_rfl) (by decide)) ?_ | refine AL.q rfl (OQ.fieldA (ty := 24) (i := 1) (n := 1) (off := 1) (g := false) rfl (by kernel_rfl) (by decide)) ?_ | refine AL.q rfl (OQ.fieldA (ty := 24) (i := 2) (n := 1) (off := 2) (g := false) rfl (by kernel_rfl) (by decide)) ?_) | ((with_reducible refine AL.k_assign ?_); first | (refine AL.q rfl (OQ.assign (by conv => lhs; whnf)) ?_)) | ((with_reducible refine AL.k_binOp ?_); first | refine AL.q rfl (OQ.strne rfl rfl) ?_ | refine AL.q rfl (OQ.neq rfl rfl) ?_ | refine AL.q rfl (OQ.lss rfl rfl) ?_ | refine AL.q rfl (OQ.addi rfl rfl (by omega)) ?_ | refine AL.q rfl (OQ.add rfl rfl) ?_) | ((with_reducible refine AL.k_move ?_); first | (refine AL.q rfl (OQ.move (by conv => lhs; whnf)) ?_)) | ((with_reducible refine AL.k_call ?_); first | refine AL.q rfl (OQ.lenS (xt := 22) (r := (none, 5, true)) rfl (by kernel_rfl)) ?_) | ((with_reducible refine AL.k_pick ?_); first | (refine AL.q rfl (OQ.pickT rfl (by with_reducible rfl) (by conv => lhs; whnf)) ?_) | (refine AL.q rfl (OQ.pickF rfl (by with_reducible rfl) (by conv => lhs; whnf)) ?_))); (conv => (arg 5; try tactic => exact nrm)))
      | ((first | first | (refine AL.w rfl (OW.box (by conv => lhs; whnf) (by intro r h; cases h)) ?_)); (conv => (arg 5; try tactic => exact nrm)); (conv => (arg 6; try tactic => exact nrm)))
      | (refine AL.bs rfl (fun hc => ?_) (fun hc => ?_) <;> (fail_if_success (with_reducible exact lit_no hc)) <;> (try simp only [decide_eq_true_eq, decide_eq_false_iff_not, Bool.not_true, Bool.not_false, Bool.not_eq_true', Bool.not_eq_false', Int.not_lt, Int.not_le, Classical.not_not, ne_eq] at hc) <;> first | (exfalso; first | contradiction | (first | omega | (simp at *; done)); done) | (conv => (arg 5; try tactic => exact nrm)))
      | refine AL.nil ?_)
    | ((with_reducible refine AW.on ?_); first
      | refine AW.seq ?_
      | refine AW.skip ?_
      | refine AW.exit ?_
      | refine AW.ret ?_
      | (refine AW.block (id := 0) ?_; refine AW.unroll 1 ?_)
      | refine AW.block ?_
      | (refine AW.draw (id := 6) 11 #[0, 1, 0, 7, 15, 0, 32, 0, 224, 480, 1023] (by kernel_rfl) (by kernel_rfl) ?_; (conv => (arg 8; simp only [List.take_succ_cons, List.take_zero])))
      | (refine AW.region (id := 2) ?_; exfalso; first | omega | (simp at *; done); done)
      | (refine AW.region (id := 7) ?_; exfalso; first | omega | (simp at *; done); done)
      | (refine AW.region (id := 5) ?_; exfalso; first | omega | (simp at *; done); done)
      | refine AW.region ?_
      | (refine AW.conds rfl (fun hc => ?_) (fun hc => ?_) <;> (try simp only [decide_eq_true_eq, decide_eq_false_iff_not, Bool.not_true, Bool.not_false, Bool.not_eq_true', Bool.not_eq_false', Int.not_lt, Int.not_le, Classical.not_not, ne_eq] at hc) <;> first | (exfalso; first | contradiction | (first | omega | (simp at *; done)); done) | skip))
    | ((with_reducible refine AD.on ?_); first
      | ((first | ((with_reducible refine AD.k_load ?_); first | (refine AD.q rfl (OQ.load1 (ty := 22) rfl (by kernel_rfl) (by conv => lhs; whnf)) rfl rfl rfl ?_) | refine AD.q rfl (OQ.loadN (ty := 55) (n := 5) rfl (by kernel_rfl) (by kernel_rfl) rfl) rfl rfl rfl ?_) | ((with_reducible refine AD.k_fieldAddr ?_); first | refine AD.q rfl (OQ.fieldA (ty := 24) (i := 2) (n := 1) (off := 2) (g := false) rfl (by kernel_rfl) (by decide)) rfl rfl rfl ?_) | ((with_reducible refine AD.k_move ?_); first | (refine AD.q rfl (OQ.move (by conv => lhs; whnf)) rfl rfl rfl ?_)) | ((with_reducible refine AD.k_binOp ?_); first | refine AD.q rfl (nel_t55 rfl rfl) rfl rfl rfl ?_) | ((with_reducible refine AD.k_indexAddr ?_); first | refine AD.q rfl (OQ.idxAddr (ty := 22) (z := 5) (g := true) rfl rfl (by kernel_rfl) (by omega) (by omega)) rfl rfl rfl ?_)); (conv => (arg 10; try tactic => exact nrm)))
      | (refine AD.nil ?_; (conv => (arg 4; simp only [List.drop_succ_cons, List.drop_zero, List.drop_nil])); (conv => (arg 5; try tactic => exact nrm)); (conv => (arg 6; try tactic => exact nrm))))
    | with_reducible refine AR.s ?_
    | ((with_reducible refine AR.out ?_); first | omega | (simp at *; done); done)
    | ((with_reducible refine FinP.on ?_); (first | refine FinP.ret (.tmp (by conv => lhs; whnf) .nil) ?_ rfl | refine FinP.end (.tmp (by conv => lhs; whnf) .nil) ?_ rfl); (try simp only [pack, List.drop, List.take]); all_goals (rfl)))
end Go.Proofs.Ythpjhpfebjjanaa
end
