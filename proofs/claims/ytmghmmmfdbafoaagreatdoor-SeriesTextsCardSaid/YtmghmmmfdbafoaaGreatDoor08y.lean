/- Chapter 8: the copy of a series; Few. -/
import Derived.Test.YtmghmmmfdbafoaaGreatDoor08q
set_option linter.unusedSimpArgs false
set_option linter.unusedVariables false
namespace Go.Proofs.YtmghmmmfdbafoaaGreatDoor
open Go Go.RowKit Go.Ab Go.Sr
set_option maxRecDepth 100000
set_option maxHeartbeats 4000000
attribute [local irreducible] OQ OW AL AW AD AF SW

/-- A weaker result. -/
theorem ACalls.weak {P : Program} {f : FuncId} {args : List Value} {m m' : Mem} {v u : Value} (h : ACalls P f args m v m') (hw : ∀ ρ v', VRel ρ v v' → VRel ρ u v') : ACalls P f args m u m' :=
  fun E ρ args' w ha hs => (h E ρ args' w ha hs).mono fun _ _ ⟨v', ρ', he, hx, hv, hs'⟩ => ⟨v', ρ', he, hx, hw ρ' v' hv, hs'⟩
theorem srV_inf {ρ : Ren} {nm : ByteArray} {b n c : Nat} {v' : Value} (h : VRel ρ (srV nm (.slice (some ⟨b, 0, none⟩) n c)) v') : VRel ρ (srI nm b n) v' := by
  obtain ⟨cs, rfl, hs, hg⟩ := h.agg_inv
  refine .agg (by simpa using hs) fun i hi hi' => ?_
  obtain ⟨u0, f0, q0⟩ := hg 0 _ rfl
  obtain ⟨u1, f1, q1⟩ := hg 1 _ rfl
  match i with
  | 0 =>
    rw [Array.getElem?_eq_getElem hi'] at f0
    cases f0
    exact q0
  | 1 =>
    rw [Array.getElem?_eq_getElem hi'] at f1
    cases f1
    exact VRel.cap q1
  | j + 2 => exact absurd hi (by simp)

theorem Copy_nil (nm : ByteArray) :
    ACalls Tryz.prog 7 [srV nm (.slice none 0 0)] [] (srV nm (.slice (some ⟨0, 0, none⟩) 0 0)) [some ⟨[], true, 4⟩] := by
  refine ACalls.enter (t := [srV nm (.slice none 0 0), undef, undef, undef, undef, undef, undef, undef, undef]) Tryz.func7 rfl rfl fun E hE => ?_
  refine AW.seq ?_
  refine AW.region ?_
  refine AL.w rfl (OW.box (by conv => lhs; whnf) (by intro r h; cases h)) ?_
  (conv => (arg 5; try simp only [T.put, T.ev, putAt, setsT, newBlks, fillL, List.map, List.set, List.append, List.cons_append, List.nil_append, List.length, List.getElem?_cons_zero, List.getElem?_cons_succ, Nat.reduceAdd, Nat.reduceMul, Nat.zero_add, Nat.add_zero, Nat.mul_one, Nat.zero_mul, List.drop, List.take, List.toList_toArray, Value.cells, Int.reduceToNat, Int.toNat_natCast, List.getD, Option.getD, Option.map, flat, flat1, scal, setAll, Int.reduceAdd, Int.reduceMul, if_true, ↓reduceIte]))
  (conv => (arg 6; try simp only [T.put, T.ev, putAt, setsT, newBlks, fillL, List.map, List.set, List.append, List.cons_append, List.nil_append, List.length, List.getElem?_cons_zero, List.getElem?_cons_succ, Nat.reduceAdd, Nat.reduceMul, Nat.zero_add, Nat.add_zero, Nat.mul_one, Nat.zero_mul, List.drop, List.take, List.toList_toArray, Value.cells, Int.reduceToNat, Int.toNat_natCast, List.getD, Option.getD, Option.map, flat, flat1, scal, setAll, Int.reduceAdd, Int.reduceMul, if_true, ↓reduceIte]))
  refine AL.w rfl (OW.alloc (ty := 24) (z := [.string ⟨#[]⟩, .slice none 0 0]) (by kernel_rfl) rfl) ?_
  (conv => (arg 5; try simp only [T.put, T.ev, putAt, setsT, newBlks, fillL, List.map, List.set, List.append, List.cons_append, List.nil_append, List.length, List.getElem?_cons_zero, List.getElem?_cons_succ, Nat.reduceAdd, Nat.reduceMul, Nat.zero_add, Nat.add_zero, Nat.mul_one, Nat.zero_mul, List.drop, List.take, List.toList_toArray, Value.cells, Int.reduceToNat, Int.toNat_natCast, List.getD, Option.getD, Option.map, flat, flat1, scal, setAll, Int.reduceAdd, Int.reduceMul, if_true, ↓reduceIte]))
  (conv => (arg 6; try simp only [T.put, T.ev, putAt, setsT, newBlks, fillL, List.map, List.set, List.append, List.cons_append, List.nil_append, List.length, List.getElem?_cons_zero, List.getElem?_cons_succ, Nat.reduceAdd, Nat.reduceMul, Nat.zero_add, Nat.add_zero, Nat.mul_one, Nat.zero_mul, List.drop, List.take, List.toList_toArray, Value.cells, Int.reduceToNat, Int.toNat_natCast, List.getD, Option.getD, Option.map, flat, flat1, scal, setAll, Int.reduceAdd, Int.reduceMul, if_true, ↓reduceIte]))
  refine AL.nil ?_
  refine Then.n ?_
  refine AW.seq ?_
  refine AW.region ?_
  refine AL.w rfl (OW.buildSl0 (ty := 22) (z := (none, 4, true)) (by kernel_rfl)) ?_
  (conv => (arg 5; try simp only [T.put, T.ev, putAt, setsT, newBlks, fillL, List.map, List.set, List.append, List.cons_append, List.nil_append, List.length, List.getElem?_cons_zero, List.getElem?_cons_succ, Nat.reduceAdd, Nat.reduceMul, Nat.zero_add, Nat.add_zero, Nat.mul_one, Nat.zero_mul, List.drop, List.take, List.toList_toArray, Value.cells, Int.reduceToNat, Int.toNat_natCast, List.getD, Option.getD, Option.map, flat, flat1, scal, setAll, Int.reduceAdd, Int.reduceMul, if_true, ↓reduceIte]))
  (conv => (arg 6; try simp only [T.put, T.ev, putAt, setsT, newBlks, fillL, List.map, List.set, List.append, List.cons_append, List.nil_append, List.length, List.getElem?_cons_zero, List.getElem?_cons_succ, Nat.reduceAdd, Nat.reduceMul, Nat.zero_add, Nat.add_zero, Nat.mul_one, Nat.zero_mul, List.drop, List.take, List.toList_toArray, Value.cells, Int.reduceToNat, Int.toNat_natCast, List.getD, Option.getD, Option.map, flat, flat1, scal, setAll, Int.reduceAdd, Int.reduceMul, if_true, ↓reduceIte]))
  refine AL.q rfl (OQ.fieldA (ty := 24) (i := 1) (n := 1) (off := 1) (g := false) rfl (by kernel_rfl) (by decide)) ?_
  refine AL.q rfl (OQ.load1 (ty := 22) rfl (by kernel_rfl) (by conv => lhs; whnf)) ?_
  refine AL.q rfl (OQ.append0 (v := undef) (z := 4) (e := 64) rfl rfl (by kernel_rfl) (by kernel_rfl)) ?_
  refine AL.q rfl (OQ.fieldA (ty := 24) (i := 1) (n := 1) (off := 1) (g := false) rfl (by kernel_rfl) (by decide)) ?_
  refine AL.w rfl (OW.store (ty := 22) (n := 1) rfl (by conv => lhs; whnf) rfl rfl (by kernel_rfl) rfl rfl (by decide) rfl (Nat.le_of_ble_eq_true rfl) (by intro r h; cases h)) ?_
  (conv => (arg 5; try simp only [T.put, T.ev, putAt, setsT, newBlks, fillL, List.map, List.set, List.append, List.cons_append, List.nil_append, List.length, List.getElem?_cons_zero, List.getElem?_cons_succ, Nat.reduceAdd, Nat.reduceMul, Nat.zero_add, Nat.add_zero, Nat.mul_one, Nat.zero_mul, List.drop, List.take, List.toList_toArray, Value.cells, Int.reduceToNat, Int.toNat_natCast, List.getD, Option.getD, Option.map, flat, flat1, scal, setAll, Int.reduceAdd, Int.reduceMul, if_true, ↓reduceIte]))
  (conv => (arg 6; try simp only [T.put, T.ev, putAt, setsT, newBlks, fillL, List.map, List.set, List.append, List.cons_append, List.nil_append, List.length, List.getElem?_cons_zero, List.getElem?_cons_succ, Nat.reduceAdd, Nat.reduceMul, Nat.zero_add, Nat.add_zero, Nat.mul_one, Nat.zero_mul, List.drop, List.take, List.toList_toArray, Value.cells, Int.reduceToNat, Int.toNat_natCast, List.getD, Option.getD, Option.map, flat, flat1, scal, setAll, Int.reduceAdd, Int.reduceMul, if_true, ↓reduceIte]))
  refine AL.nil ?_
  refine Then.n ?_
  refine AW.seq ?_
  refine AW.region ?_
  refine AL.q rfl (OQ.loadN (ty := 24) (n := 2) rfl (by kernel_rfl) (by kernel_rfl) rfl) ?_
  refine AL.w rfl (OW.store (ty := 24) (n := 2) rfl (by conv => lhs; whnf) rfl rfl (by kernel_rfl) rfl rfl (by decide) rfl (Nat.le_of_ble_eq_true rfl) (by intro r h; cases h)) ?_
  (conv => (arg 5; try simp only [T.put, T.ev, putAt, setsT, newBlks, fillL, List.map, List.set, List.append, List.cons_append, List.nil_append, List.length, List.getElem?_cons_zero, List.getElem?_cons_succ, Nat.reduceAdd, Nat.reduceMul, Nat.zero_add, Nat.add_zero, Nat.mul_one, Nat.zero_mul, List.drop, List.take, List.toList_toArray, Value.cells, Int.reduceToNat, Int.toNat_natCast, List.getD, Option.getD, Option.map, flat, flat1, scal, setAll, Int.reduceAdd, Int.reduceMul, if_true, ↓reduceIte]))
  (conv => (arg 6; try simp only [T.put, T.ev, putAt, setsT, newBlks, fillL, List.map, List.set, List.append, List.cons_append, List.nil_append, List.length, List.getElem?_cons_zero, List.getElem?_cons_succ, Nat.reduceAdd, Nat.reduceMul, Nat.zero_add, Nat.add_zero, Nat.mul_one, Nat.zero_mul, List.drop, List.take, List.toList_toArray, Value.cells, Int.reduceToNat, Int.toNat_natCast, List.getD, Option.getD, Option.map, flat, flat1, scal, setAll, Int.reduceAdd, Int.reduceMul, if_true, ↓reduceIte]))
  refine AL.nil ?_
  refine Then.n ?_
  refine AW.ret ?_
  refine FinA.keep 0 [2] (.inl rfl) (.cellN (n := 2) (by conv => lhs; whnf) (by kernel_rfl) (by kernel_rfl) rfl .nil) ?_ rfl (Nat.le_of_eq hE) rfl rfl ⟨⟨_, rfl, rfl, rfl, .inl ⟨rfl, rfl⟩⟩, trivial⟩
  rfl
theorem Copy_lost (nm : ByteArray) :
    ACalls Tryz.prog 7 [srV nm lostS] [] (srV nm (.slice (some ⟨0, 0, none⟩) 0 0)) [some ⟨[], true, 4⟩] := by
  refine ACalls.enter (t := [srV nm lostS, undef, undef, undef, undef, undef, undef, undef, undef]) Tryz.func7 rfl rfl fun E hE => ?_
  refine AW.seq ?_
  refine AW.region ?_
  refine AL.w rfl (OW.box (by conv => lhs; whnf) (by intro r h; cases h)) ?_
  (conv => (arg 5; try simp only [T.put, T.ev, putAt, setsT, newBlks, fillL, List.map, List.set, List.append, List.cons_append, List.nil_append, List.length, List.getElem?_cons_zero, List.getElem?_cons_succ, Nat.reduceAdd, Nat.reduceMul, Nat.zero_add, Nat.add_zero, Nat.mul_one, Nat.zero_mul, List.drop, List.take, List.toList_toArray, Value.cells, Int.reduceToNat, Int.toNat_natCast, List.getD, Option.getD, Option.map, flat, flat1, scal, setAll, Int.reduceAdd, Int.reduceMul, if_true, ↓reduceIte]))
  (conv => (arg 6; try simp only [T.put, T.ev, putAt, setsT, newBlks, fillL, List.map, List.set, List.append, List.cons_append, List.nil_append, List.length, List.getElem?_cons_zero, List.getElem?_cons_succ, Nat.reduceAdd, Nat.reduceMul, Nat.zero_add, Nat.add_zero, Nat.mul_one, Nat.zero_mul, List.drop, List.take, List.toList_toArray, Value.cells, Int.reduceToNat, Int.toNat_natCast, List.getD, Option.getD, Option.map, flat, flat1, scal, setAll, Int.reduceAdd, Int.reduceMul, if_true, ↓reduceIte]))
  refine AL.w rfl (OW.alloc (ty := 24) (z := [.string ⟨#[]⟩, .slice none 0 0]) (by kernel_rfl) rfl) ?_
  (conv => (arg 5; try simp only [T.put, T.ev, putAt, setsT, newBlks, fillL, List.map, List.set, List.append, List.cons_append, List.nil_append, List.length, List.getElem?_cons_zero, List.getElem?_cons_succ, Nat.reduceAdd, Nat.reduceMul, Nat.zero_add, Nat.add_zero, Nat.mul_one, Nat.zero_mul, List.drop, List.take, List.toList_toArray, Value.cells, Int.reduceToNat, Int.toNat_natCast, List.getD, Option.getD, Option.map, flat, flat1, scal, setAll, Int.reduceAdd, Int.reduceMul, if_true, ↓reduceIte]))
  (conv => (arg 6; try simp only [T.put, T.ev, putAt, setsT, newBlks, fillL, List.map, List.set, List.append, List.cons_append, List.nil_append, List.length, List.getElem?_cons_zero, List.getElem?_cons_succ, Nat.reduceAdd, Nat.reduceMul, Nat.zero_add, Nat.add_zero, Nat.mul_one, Nat.zero_mul, List.drop, List.take, List.toList_toArray, Value.cells, Int.reduceToNat, Int.toNat_natCast, List.getD, Option.getD, Option.map, flat, flat1, scal, setAll, Int.reduceAdd, Int.reduceMul, if_true, ↓reduceIte]))
  refine AL.nil ?_
  refine Then.n ?_
  refine AW.seq ?_
  refine AW.region ?_
  refine AL.w rfl (OW.buildSl0 (ty := 22) (z := (none, 4, true)) (by kernel_rfl)) ?_
  (conv => (arg 5; try simp only [T.put, T.ev, putAt, setsT, newBlks, fillL, List.map, List.set, List.append, List.cons_append, List.nil_append, List.length, List.getElem?_cons_zero, List.getElem?_cons_succ, Nat.reduceAdd, Nat.reduceMul, Nat.zero_add, Nat.add_zero, Nat.mul_one, Nat.zero_mul, List.drop, List.take, List.toList_toArray, Value.cells, Int.reduceToNat, Int.toNat_natCast, List.getD, Option.getD, Option.map, flat, flat1, scal, setAll, Int.reduceAdd, Int.reduceMul, if_true, ↓reduceIte]))
  (conv => (arg 6; try simp only [T.put, T.ev, putAt, setsT, newBlks, fillL, List.map, List.set, List.append, List.cons_append, List.nil_append, List.length, List.getElem?_cons_zero, List.getElem?_cons_succ, Nat.reduceAdd, Nat.reduceMul, Nat.zero_add, Nat.add_zero, Nat.mul_one, Nat.zero_mul, List.drop, List.take, List.toList_toArray, Value.cells, Int.reduceToNat, Int.toNat_natCast, List.getD, Option.getD, Option.map, flat, flat1, scal, setAll, Int.reduceAdd, Int.reduceMul, if_true, ↓reduceIte]))
  refine AL.q rfl (OQ.fieldA (ty := 24) (i := 1) (n := 1) (off := 1) (g := false) rfl (by kernel_rfl) (by decide)) ?_
  refine AL.q rfl (OQ.load1 (ty := 22) rfl (by kernel_rfl) (by conv => lhs; whnf)) ?_
  refine AL.q rfl (OQ.append0 (v := undef) (z := 4) (e := 64) rfl rfl (by kernel_rfl) (by kernel_rfl)) ?_
  refine AL.q rfl (OQ.fieldA (ty := 24) (i := 1) (n := 1) (off := 1) (g := false) rfl (by kernel_rfl) (by decide)) ?_
  refine AL.w rfl (OW.store (ty := 22) (n := 1) rfl (by conv => lhs; whnf) rfl rfl (by kernel_rfl) rfl rfl (by decide) rfl (Nat.le_of_ble_eq_true rfl) (by intro r h; cases h)) ?_
  (conv => (arg 5; try simp only [T.put, T.ev, putAt, setsT, newBlks, fillL, List.map, List.set, List.append, List.cons_append, List.nil_append, List.length, List.getElem?_cons_zero, List.getElem?_cons_succ, Nat.reduceAdd, Nat.reduceMul, Nat.zero_add, Nat.add_zero, Nat.mul_one, Nat.zero_mul, List.drop, List.take, List.toList_toArray, Value.cells, Int.reduceToNat, Int.toNat_natCast, List.getD, Option.getD, Option.map, flat, flat1, scal, setAll, Int.reduceAdd, Int.reduceMul, if_true, ↓reduceIte]))
  (conv => (arg 6; try simp only [T.put, T.ev, putAt, setsT, newBlks, fillL, List.map, List.set, List.append, List.cons_append, List.nil_append, List.length, List.getElem?_cons_zero, List.getElem?_cons_succ, Nat.reduceAdd, Nat.reduceMul, Nat.zero_add, Nat.add_zero, Nat.mul_one, Nat.zero_mul, List.drop, List.take, List.toList_toArray, Value.cells, Int.reduceToNat, Int.toNat_natCast, List.getD, Option.getD, Option.map, flat, flat1, scal, setAll, Int.reduceAdd, Int.reduceMul, if_true, ↓reduceIte]))
  refine AL.nil ?_
  refine Then.n ?_
  refine AW.seq ?_
  refine AW.region ?_
  refine AL.q rfl (OQ.loadN (ty := 24) (n := 2) rfl (by kernel_rfl) (by kernel_rfl) rfl) ?_
  refine AL.w rfl (OW.store (ty := 24) (n := 2) rfl (by conv => lhs; whnf) rfl rfl (by kernel_rfl) rfl rfl (by decide) rfl (Nat.le_of_ble_eq_true rfl) (by intro r h; cases h)) ?_
  (conv => (arg 5; try simp only [T.put, T.ev, putAt, setsT, newBlks, fillL, List.map, List.set, List.append, List.cons_append, List.nil_append, List.length, List.getElem?_cons_zero, List.getElem?_cons_succ, Nat.reduceAdd, Nat.reduceMul, Nat.zero_add, Nat.add_zero, Nat.mul_one, Nat.zero_mul, List.drop, List.take, List.toList_toArray, Value.cells, Int.reduceToNat, Int.toNat_natCast, List.getD, Option.getD, Option.map, flat, flat1, scal, setAll, Int.reduceAdd, Int.reduceMul, if_true, ↓reduceIte]))
  (conv => (arg 6; try simp only [T.put, T.ev, putAt, setsT, newBlks, fillL, List.map, List.set, List.append, List.cons_append, List.nil_append, List.length, List.getElem?_cons_zero, List.getElem?_cons_succ, Nat.reduceAdd, Nat.reduceMul, Nat.zero_add, Nat.add_zero, Nat.mul_one, Nat.zero_mul, List.drop, List.take, List.toList_toArray, Value.cells, Int.reduceToNat, Int.toNat_natCast, List.getD, Option.getD, Option.map, flat, flat1, scal, setAll, Int.reduceAdd, Int.reduceMul, if_true, ↓reduceIte]))
  refine AL.nil ?_
  refine Then.n ?_
  refine AW.ret ?_
  refine FinA.keep 0 [2] (.inl rfl) (.cellN (n := 2) (by conv => lhs; whnf) (by kernel_rfl) (by kernel_rfl) rfl .nil) ?_ rfl (Nat.le_of_eq hE) rfl rfl ⟨⟨_, rfl, rfl, rfl, .inl ⟨rfl, rfl⟩⟩, trivial⟩
  rfl
theorem Copy_none (nm : ByteArray) (z : Nat) :
    ACalls Tryz.prog 7 [srI nm 0 0] [some ⟨[], false, z⟩] (srV nm (.slice (some ⟨1, 0, none⟩) 0 0)) [some ⟨[], false, z⟩, some ⟨[], true, 4⟩] := by
  refine ACalls.enter (t := [srI nm 0 0, undef, undef, undef, undef, undef, undef, undef, undef]) Tryz.func7 rfl rfl fun E hE => ?_
  refine AW.seq ?_
  refine AW.region ?_
  refine AL.w rfl (OW.box (by conv => lhs; whnf) (by intro r h; cases h)) ?_
  (conv => (arg 5; try simp only [T.put, T.ev, putAt, setsT, newBlks, fillL, List.map, List.set, List.append, List.cons_append, List.nil_append, List.length, List.getElem?_cons_zero, List.getElem?_cons_succ, Nat.reduceAdd, Nat.reduceMul, Nat.zero_add, Nat.add_zero, Nat.mul_one, Nat.zero_mul, List.drop, List.take, List.toList_toArray, Value.cells, Int.reduceToNat, Int.toNat_natCast, List.getD, Option.getD, Option.map, flat, flat1, scal, setAll, Int.reduceAdd, Int.reduceMul, if_true, ↓reduceIte]))
  (conv => (arg 6; try simp only [T.put, T.ev, putAt, setsT, newBlks, fillL, List.map, List.set, List.append, List.cons_append, List.nil_append, List.length, List.getElem?_cons_zero, List.getElem?_cons_succ, Nat.reduceAdd, Nat.reduceMul, Nat.zero_add, Nat.add_zero, Nat.mul_one, Nat.zero_mul, List.drop, List.take, List.toList_toArray, Value.cells, Int.reduceToNat, Int.toNat_natCast, List.getD, Option.getD, Option.map, flat, flat1, scal, setAll, Int.reduceAdd, Int.reduceMul, if_true, ↓reduceIte]))
  refine AL.w rfl (OW.alloc (ty := 24) (z := [.string ⟨#[]⟩, .slice none 0 0]) (by kernel_rfl) rfl) ?_
  (conv => (arg 5; try simp only [T.put, T.ev, putAt, setsT, newBlks, fillL, List.map, List.set, List.append, List.cons_append, List.nil_append, List.length, List.getElem?_cons_zero, List.getElem?_cons_succ, Nat.reduceAdd, Nat.reduceMul, Nat.zero_add, Nat.add_zero, Nat.mul_one, Nat.zero_mul, List.drop, List.take, List.toList_toArray, Value.cells, Int.reduceToNat, Int.toNat_natCast, List.getD, Option.getD, Option.map, flat, flat1, scal, setAll, Int.reduceAdd, Int.reduceMul, if_true, ↓reduceIte]))
  (conv => (arg 6; try simp only [T.put, T.ev, putAt, setsT, newBlks, fillL, List.map, List.set, List.append, List.cons_append, List.nil_append, List.length, List.getElem?_cons_zero, List.getElem?_cons_succ, Nat.reduceAdd, Nat.reduceMul, Nat.zero_add, Nat.add_zero, Nat.mul_one, Nat.zero_mul, List.drop, List.take, List.toList_toArray, Value.cells, Int.reduceToNat, Int.toNat_natCast, List.getD, Option.getD, Option.map, flat, flat1, scal, setAll, Int.reduceAdd, Int.reduceMul, if_true, ↓reduceIte]))
  refine AL.nil ?_
  refine Then.n ?_
  refine AW.seq ?_
  refine AW.region ?_
  refine AL.w rfl (OW.buildSl0 (ty := 22) (z := (none, 4, true)) (by kernel_rfl)) ?_
  (conv => (arg 5; try simp only [T.put, T.ev, putAt, setsT, newBlks, fillL, List.map, List.set, List.append, List.cons_append, List.nil_append, List.length, List.getElem?_cons_zero, List.getElem?_cons_succ, Nat.reduceAdd, Nat.reduceMul, Nat.zero_add, Nat.add_zero, Nat.mul_one, Nat.zero_mul, List.drop, List.take, List.toList_toArray, Value.cells, Int.reduceToNat, Int.toNat_natCast, List.getD, Option.getD, Option.map, flat, flat1, scal, setAll, Int.reduceAdd, Int.reduceMul, if_true, ↓reduceIte]))
  (conv => (arg 6; try simp only [T.put, T.ev, putAt, setsT, newBlks, fillL, List.map, List.set, List.append, List.cons_append, List.nil_append, List.length, List.getElem?_cons_zero, List.getElem?_cons_succ, Nat.reduceAdd, Nat.reduceMul, Nat.zero_add, Nat.add_zero, Nat.mul_one, Nat.zero_mul, List.drop, List.take, List.toList_toArray, Value.cells, Int.reduceToNat, Int.toNat_natCast, List.getD, Option.getD, Option.map, flat, flat1, scal, setAll, Int.reduceAdd, Int.reduceMul, if_true, ↓reduceIte]))
  refine AL.q rfl (OQ.fieldA (ty := 24) (i := 1) (n := 1) (off := 1) (g := false) rfl (by kernel_rfl) (by decide)) ?_
  refine AL.q rfl (OQ.load1 (ty := 22) rfl (by kernel_rfl) (by conv => lhs; whnf)) ?_
  refine AL.q rfl (OQ.append0 (v := undef) (z := 4) (e := 64) rfl rfl (by kernel_rfl) (by kernel_rfl)) ?_
  refine AL.q rfl (OQ.fieldA (ty := 24) (i := 1) (n := 1) (off := 1) (g := false) rfl (by kernel_rfl) (by decide)) ?_
  refine AL.w rfl (OW.store (ty := 22) (n := 1) rfl (by conv => lhs; whnf) rfl rfl (by kernel_rfl) rfl rfl (by decide) rfl (Nat.le_of_ble_eq_true rfl) (by intro r h; cases h)) ?_
  (conv => (arg 5; try simp only [T.put, T.ev, putAt, setsT, newBlks, fillL, List.map, List.set, List.append, List.cons_append, List.nil_append, List.length, List.getElem?_cons_zero, List.getElem?_cons_succ, Nat.reduceAdd, Nat.reduceMul, Nat.zero_add, Nat.add_zero, Nat.mul_one, Nat.zero_mul, List.drop, List.take, List.toList_toArray, Value.cells, Int.reduceToNat, Int.toNat_natCast, List.getD, Option.getD, Option.map, flat, flat1, scal, setAll, Int.reduceAdd, Int.reduceMul, if_true, ↓reduceIte]))
  (conv => (arg 6; try simp only [T.put, T.ev, putAt, setsT, newBlks, fillL, List.map, List.set, List.append, List.cons_append, List.nil_append, List.length, List.getElem?_cons_zero, List.getElem?_cons_succ, Nat.reduceAdd, Nat.reduceMul, Nat.zero_add, Nat.add_zero, Nat.mul_one, Nat.zero_mul, List.drop, List.take, List.toList_toArray, Value.cells, Int.reduceToNat, Int.toNat_natCast, List.getD, Option.getD, Option.map, flat, flat1, scal, setAll, Int.reduceAdd, Int.reduceMul, if_true, ↓reduceIte]))
  refine AL.nil ?_
  refine Then.n ?_
  refine AW.seq ?_
  refine AW.region ?_
  refine AL.q rfl (OQ.loadN (ty := 24) (n := 2) rfl (by kernel_rfl) (by kernel_rfl) rfl) ?_
  refine AL.w rfl (OW.store (ty := 24) (n := 2) rfl (by conv => lhs; whnf) rfl rfl (by kernel_rfl) rfl rfl (by decide) rfl (Nat.le_of_ble_eq_true rfl) (by intro r h; cases h)) ?_
  (conv => (arg 5; try simp only [T.put, T.ev, putAt, setsT, newBlks, fillL, List.map, List.set, List.append, List.cons_append, List.nil_append, List.length, List.getElem?_cons_zero, List.getElem?_cons_succ, Nat.reduceAdd, Nat.reduceMul, Nat.zero_add, Nat.add_zero, Nat.mul_one, Nat.zero_mul, List.drop, List.take, List.toList_toArray, Value.cells, Int.reduceToNat, Int.toNat_natCast, List.getD, Option.getD, Option.map, flat, flat1, scal, setAll, Int.reduceAdd, Int.reduceMul, if_true, ↓reduceIte]))
  (conv => (arg 6; try simp only [T.put, T.ev, putAt, setsT, newBlks, fillL, List.map, List.set, List.append, List.cons_append, List.nil_append, List.length, List.getElem?_cons_zero, List.getElem?_cons_succ, Nat.reduceAdd, Nat.reduceMul, Nat.zero_add, Nat.add_zero, Nat.mul_one, Nat.zero_mul, List.drop, List.take, List.toList_toArray, Value.cells, Int.reduceToNat, Int.toNat_natCast, List.getD, Option.getD, Option.map, flat, flat1, scal, setAll, Int.reduceAdd, Int.reduceMul, if_true, ↓reduceIte]))
  refine AL.nil ?_
  refine Then.n ?_
  refine AW.ret ?_
  refine FinA.keep 1 [3] (.inl rfl) (.cellN (n := 2) (by conv => lhs; whnf) (by kernel_rfl) (by kernel_rfl) rfl .nil) ?_ rfl (Nat.le_of_eq hE) rfl rfl ⟨⟨_, rfl, rfl, rfl, .inl ⟨rfl, rfl⟩⟩, ⟨_, rfl, rfl, rfl, .inl ⟨rfl, rfl⟩⟩, trivial⟩
  rfl
theorem Copy_c (nm : ByteArray) (l : List Ep) (h1 : 1 ≤ l.length) (h2 : l.length ≤ 1000) (z : Nat) :
    ACalls Tryz.prog 7 [srI nm 0 l.length] [some ⟨flatE l, false, z⟩] (srI nm 1 l.length) [some ⟨flatE l, false, z⟩, some ⟨flatE l, true, 4⟩] := by
  have hlen := flatE_len l
  have hld : Mem.ld [some ⟨flatE l, false, z⟩, some ⟨[.string nm, .slice (some ⟨0, 0, none⟩) l.length INF], true, 0⟩, some ⟨[.string ⟨#[]⟩, .slice none 0 0], true, 0⟩, some ⟨[], true, 4⟩] 0 0 (l.length * 4) = some (flatE l) := by
    simp [Mem.ld, Mem.at, hlen, List.take_of_length_le]
  have hone : (flatE l).all Ab.one = true := one_of_scal (flatE_scal l)
  refine ACalls.enter (t := [srI nm 0 l.length, undef, undef, undef, undef, undef, undef, undef, undef]) Tryz.func7 rfl rfl fun E hE => ?_
  refine AW.seq ?_
  refine AW.region ?_
  refine AL.w rfl (OW.box (by conv => lhs; whnf) (by intro r h; cases h)) ?_
  (conv => (arg 5; try simp only [T.put, T.ev, putAt, setsT, newBlks, fillL, List.map, List.set, List.append, List.cons_append, List.nil_append, List.length, List.getElem?_cons_zero, List.getElem?_cons_succ, Nat.reduceAdd, Nat.reduceMul, Nat.zero_add, Nat.add_zero, Nat.mul_one, Nat.zero_mul, List.drop, List.take, List.toList_toArray, Value.cells, Int.reduceToNat, Int.toNat_natCast, List.getD, Option.getD, Option.map, flat, flat1, scal, setAll, Int.reduceAdd, Int.reduceMul, if_true, ↓reduceIte]))
  (conv => (arg 6; try simp only [T.put, T.ev, putAt, setsT, newBlks, fillL, List.map, List.set, List.append, List.cons_append, List.nil_append, List.length, List.getElem?_cons_zero, List.getElem?_cons_succ, Nat.reduceAdd, Nat.reduceMul, Nat.zero_add, Nat.add_zero, Nat.mul_one, Nat.zero_mul, List.drop, List.take, List.toList_toArray, Value.cells, Int.reduceToNat, Int.toNat_natCast, List.getD, Option.getD, Option.map, flat, flat1, scal, setAll, Int.reduceAdd, Int.reduceMul, if_true, ↓reduceIte]))
  refine AL.w rfl (OW.alloc (ty := 24) (z := [.string ⟨#[]⟩, .slice none 0 0]) (by kernel_rfl) rfl) ?_
  (conv => (arg 5; try simp only [T.put, T.ev, putAt, setsT, newBlks, fillL, List.map, List.set, List.append, List.cons_append, List.nil_append, List.length, List.getElem?_cons_zero, List.getElem?_cons_succ, Nat.reduceAdd, Nat.reduceMul, Nat.zero_add, Nat.add_zero, Nat.mul_one, Nat.zero_mul, List.drop, List.take, List.toList_toArray, Value.cells, Int.reduceToNat, Int.toNat_natCast, List.getD, Option.getD, Option.map, flat, flat1, scal, setAll, Int.reduceAdd, Int.reduceMul, if_true, ↓reduceIte]))
  (conv => (arg 6; try simp only [T.put, T.ev, putAt, setsT, newBlks, fillL, List.map, List.set, List.append, List.cons_append, List.nil_append, List.length, List.getElem?_cons_zero, List.getElem?_cons_succ, Nat.reduceAdd, Nat.reduceMul, Nat.zero_add, Nat.add_zero, Nat.mul_one, Nat.zero_mul, List.drop, List.take, List.toList_toArray, Value.cells, Int.reduceToNat, Int.toNat_natCast, List.getD, Option.getD, Option.map, flat, flat1, scal, setAll, Int.reduceAdd, Int.reduceMul, if_true, ↓reduceIte]))
  refine AL.nil ?_
  refine Then.n ?_
  refine AW.seq ?_
  refine AW.region ?_
  refine AL.w rfl (OW.buildSl0 (ty := 22) (z := (none, 4, true)) (by kernel_rfl)) ?_
  (conv => (arg 5; try simp only [T.put, T.ev, putAt, setsT, newBlks, fillL, List.map, List.set, List.append, List.cons_append, List.nil_append, List.length, List.getElem?_cons_zero, List.getElem?_cons_succ, Nat.reduceAdd, Nat.reduceMul, Nat.zero_add, Nat.add_zero, Nat.mul_one, Nat.zero_mul, List.drop, List.take, List.toList_toArray, Value.cells, Int.reduceToNat, Int.toNat_natCast, List.getD, Option.getD, Option.map, flat, flat1, scal, setAll, Int.reduceAdd, Int.reduceMul, if_true, ↓reduceIte]))
  (conv => (arg 6; try simp only [T.put, T.ev, putAt, setsT, newBlks, fillL, List.map, List.set, List.append, List.cons_append, List.nil_append, List.length, List.getElem?_cons_zero, List.getElem?_cons_succ, Nat.reduceAdd, Nat.reduceMul, Nat.zero_add, Nat.add_zero, Nat.mul_one, Nat.zero_mul, List.drop, List.take, List.toList_toArray, Value.cells, Int.reduceToNat, Int.toNat_natCast, List.getD, Option.getD, Option.map, flat, flat1, scal, setAll, Int.reduceAdd, Int.reduceMul, if_true, ↓reduceIte]))
  refine AL.q rfl (OQ.fieldA (ty := 24) (i := 1) (n := 1) (off := 1) (g := false) rfl (by kernel_rfl) (by decide)) ?_
  refine AL.q rfl (OQ.load1 (ty := 22) rfl (by kernel_rfl) (by conv => lhs; whnf)) ?_
  refine AL.w rfl (OW.append (n := 0) (c := 0) (b := 3) (blk := ⟨[], true, 4⟩) (z := 4) (by' := 32) (zs := [.int .i64 0, .int .i64 0, .int .i64 0, .int .i64 0]) (e := 64) rfl rfl (by kernel_rfl) (by kernel_rfl) (by kernel_rfl) rfl (by kernel_rfl) (by omega) rfl rfl rfl (by decide) (Nat.le_refl _) hld hone (by omega) (by omega)) ?_
  (conv => (arg 5; try simp only [T.put, T.ev, putAt, setsT, newBlks, fillL, List.map, List.set, List.append, List.cons_append, List.nil_append, List.length, List.getElem?_cons_zero, List.getElem?_cons_succ, Nat.reduceAdd, Nat.reduceMul, Nat.zero_add, Nat.add_zero, Nat.mul_one, Nat.zero_mul, List.drop, List.take, List.toList_toArray, Value.cells, Int.reduceToNat, Int.toNat_natCast, List.getD, Option.getD, Option.map, flat, flat1, scal, setAll, Int.reduceAdd, Int.reduceMul, if_true, ↓reduceIte]))
  (conv => (arg 6; try simp only [T.put, T.ev, putAt, setsT, newBlks, fillL, List.map, List.set, List.append, List.cons_append, List.nil_append, List.length, List.getElem?_cons_zero, List.getElem?_cons_succ, Nat.reduceAdd, Nat.reduceMul, Nat.zero_add, Nat.add_zero, Nat.mul_one, Nat.zero_mul, List.drop, List.take, List.toList_toArray, Value.cells, Int.reduceToNat, Int.toNat_natCast, List.getD, Option.getD, Option.map, flat, flat1, scal, setAll, Int.reduceAdd, Int.reduceMul, if_true, ↓reduceIte]))
  refine AL.q rfl (OQ.fieldA (ty := 24) (i := 1) (n := 1) (off := 1) (g := false) rfl (by kernel_rfl) (by decide)) ?_
  refine AL.w rfl (OW.store (ty := 22) (n := 1) rfl (by conv => lhs; whnf) rfl rfl (by kernel_rfl) rfl rfl (by decide) rfl (Nat.le_of_ble_eq_true rfl) (by intro r h; cases h)) ?_
  (conv => (arg 5; try simp only [T.put, T.ev, putAt, setsT, newBlks, fillL, List.map, List.set, List.append, List.cons_append, List.nil_append, List.length, List.getElem?_cons_zero, List.getElem?_cons_succ, Nat.reduceAdd, Nat.reduceMul, Nat.zero_add, Nat.add_zero, Nat.mul_one, Nat.zero_mul, List.drop, List.take, List.toList_toArray, Value.cells, Int.reduceToNat, Int.toNat_natCast, List.getD, Option.getD, Option.map, flat, flat1, scal, setAll, Int.reduceAdd, Int.reduceMul, if_true, ↓reduceIte]))
  (conv => (arg 6; try simp only [T.put, T.ev, putAt, setsT, newBlks, fillL, List.map, List.set, List.append, List.cons_append, List.nil_append, List.length, List.getElem?_cons_zero, List.getElem?_cons_succ, Nat.reduceAdd, Nat.reduceMul, Nat.zero_add, Nat.add_zero, Nat.mul_one, Nat.zero_mul, List.drop, List.take, List.toList_toArray, Value.cells, Int.reduceToNat, Int.toNat_natCast, List.getD, Option.getD, Option.map, flat, flat1, scal, setAll, Int.reduceAdd, Int.reduceMul, if_true, ↓reduceIte]))
  refine AL.nil ?_
  refine Then.n ?_
  refine AW.seq ?_
  refine AW.region ?_
  refine AL.q rfl (OQ.loadN (ty := 24) (n := 2) rfl (by kernel_rfl) (by kernel_rfl) rfl) ?_
  refine AL.w rfl (OW.store (ty := 24) (n := 2) rfl (by conv => lhs; whnf) rfl rfl (by kernel_rfl) rfl rfl (by decide) rfl (Nat.le_of_ble_eq_true rfl) (by intro r h; cases h)) ?_
  (conv => (arg 5; try simp only [T.put, T.ev, putAt, setsT, newBlks, fillL, List.map, List.set, List.append, List.cons_append, List.nil_append, List.length, List.getElem?_cons_zero, List.getElem?_cons_succ, Nat.reduceAdd, Nat.reduceMul, Nat.zero_add, Nat.add_zero, Nat.mul_one, Nat.zero_mul, List.drop, List.take, List.toList_toArray, Value.cells, Int.reduceToNat, Int.toNat_natCast, List.getD, Option.getD, Option.map, flat, flat1, scal, setAll, Int.reduceAdd, Int.reduceMul, if_true, ↓reduceIte]))
  (conv => (arg 6; try simp only [T.put, T.ev, putAt, setsT, newBlks, fillL, List.map, List.set, List.append, List.cons_append, List.nil_append, List.length, List.getElem?_cons_zero, List.getElem?_cons_succ, Nat.reduceAdd, Nat.reduceMul, Nat.zero_add, Nat.add_zero, Nat.mul_one, Nat.zero_mul, List.drop, List.take, List.toList_toArray, Value.cells, Int.reduceToNat, Int.toNat_natCast, List.getD, Option.getD, Option.map, flat, flat1, scal, setAll, Int.reduceAdd, Int.reduceMul, if_true, ↓reduceIte]))
  refine AL.nil ?_
  refine Then.n ?_
  refine AW.ret ?_
  refine FinA.keep 1 [4] (.inl rfl) (.cellN (n := 2) (by conv => lhs; whnf) (by kernel_rfl) (by kernel_rfl) rfl .nil) ?_ rfl (Nat.le_of_eq hE) rfl rfl ⟨⟨_, rfl, rfl, rfl, .inl ⟨rfl, flatE_scal l⟩⟩, ⟨_, rfl, rfl, rfl, .inl ⟨by simp, flatE_scal l⟩⟩, trivial⟩
  rfl
/-- The copy of any series. -/
theorem Copy_q {m : Mem} {v : Value} {l : List Ep} (nm : ByteArray) (hS : SlE m v l) (hl : l.length ≤ 1000) :
    ACalls Tryz.prog 7 [srV nm v] m (srI nm m.length l.length) (m ++ [some ⟨flatE l, true, 4⟩]) := by
  cases hS with
  | blk i k e hb hc =>
    subst e
    rcases Nat.eq_zero_or_pos l.length with h0 | h0
    · obtain rfl : l = [] := List.eq_nil_of_length_eq_zero h0
      have h1 := ACalls.viaS [i] [] [some ⟨[], true, 4⟩] (Copy_none nm k.esz) (m := m) (args := [srI nm i 0]) (v := srV nm (.slice (some ⟨m.length, 0, none⟩) 0 0))
        ⟨⟨k, hb, rfl, (fun h => nomatch h), .inl ⟨hc, rfl⟩⟩, trivial⟩ (by simp) ⟨⟨_, rfl, rfl⟩, ⟨rfl, rfl, rfl, .inl ⟨rfl, rfl⟩⟩, trivial⟩ rfl rfl (by simp [rn3, rn2, rn1, τn]) rfl
      exact ACalls.weak h1 fun ρ v' h => srV_inf h
    · exact ACalls.viaS [i] [] [some ⟨flatE l, true, 4⟩] (Copy_c nm l h0 hl k.esz) (m := m) (args := [srI nm i l.length]) (v := srI nm m.length l.length)
        ⟨⟨k, hb, rfl, (fun h => nomatch h), .inl ⟨hc, flatE_scal l⟩⟩, trivial⟩ (by simp) ⟨⟨_, rfl, rfl⟩, ⟨rfl, rfl, rfl, .inl ⟨rfl, flatE_scal l⟩⟩, trivial⟩ rfl rfl (by simp [rn3, rn2, rn1, τn]) rfl
  | nil hl e =>
    subst e hl
    have h1 := ACalls.viaS [] [] [some ⟨[], true, 4⟩] (Copy_nil nm) (m := m) (args := [srV nm (.slice none 0 0)]) (v := srV nm (.slice (some ⟨m.length, 0, none⟩) 0 0)) trivial (by simp) ⟨⟨rfl, rfl, rfl, .inl ⟨rfl, rfl⟩⟩, trivial⟩ rfl rfl (by simp [rn3, rn2, rn1, τn]) rfl
    exact ACalls.weak h1 fun ρ v' h => srV_inf h
  | lost hl e =>
    subst e hl
    have h1 := ACalls.viaS [] [] [some ⟨[], true, 4⟩] (Copy_lost nm) (m := m) (args := [srV nm lostS]) (v := srV nm (.slice (some ⟨m.length, 0, none⟩) 0 0)) trivial (by simp) ⟨⟨rfl, rfl, rfl, .inl ⟨rfl, rfl⟩⟩, trivial⟩ rfl rfl (by simp [rn3, rn2, rn1, τn]) rfl
    exact ACalls.weak h1 fun ρ v' h => srV_inf h

def fewS (n k : Nat) : Bool := decide (n ≤ 30 ∧ (k ≤ 10 ∨ 20 < k ∧ k ≤ 22))
theorem few_q {m : Mem} {v : Value} {l : List Ep} (nm : ByteArray) (hS : SlE m v l) (hn : (nm.size : Int) ≤ 9223372036854775807) (hl : (l.length : Int) ≤ 9223372036854775807) : PCalls Tryz.prog 5 [srV nm v] m (.bool (fewS nm.size l.length)) := by
  refine Sh.up (us := []) hS rfl rfl fun v m0 h => ?_
  have hro := h.ro
  have ht : nm.size ≤ 30 → (l.length ≤ 10 ∨ 20 < l.length ∧ l.length ≤ 22) → fewS nm.size l.length = true := fun h1 h2 => decide_eq_true ⟨h1, h2⟩
  have hf : ¬ (nm.size ≤ 30 ∧ (l.length ≤ 10 ∨ 20 < l.length ∧ l.length ≤ 22)) → fewS nm.size l.length = false := fun h => decide_eq_false h
  generalize fewS nm.size l.length = c at *
  rcases h with ⟨rfl, rfl, h3⟩ | ⟨rfl, rfl, h3⟩ | ⟨z, rfl, rfl⟩
  all_goals
    try subst h3
    try simp only [List.length_nil] at ht hf
    refine PCalls.enter (t := [srV nm _, undef, undef, undef, undef, undef, undef, undef, undef, undef, undef, undef, undef, undef, undef, undef, undef, undef, undef, undef, undef, undef, undef, undef, undef]) Tryz.func5 rfl (hro) rfl fun E => ?_
    repeat' (first
      | with_reducible refine Then.n ?_
      | with_reducible refine Then.r ?_
      | with_reducible refine Then.x ?_
      | with_reducible refine InB.n ?_
      | with_reducible refine InB.r ?_
      | with_reducible refine InB.hit ?_
      | with_reducible refine InB.miss (by decide) ?_
      | ((with_reducible refine AL.on ?_); first
        | (refine AL.gd rfl ?_; first | (refine AL.gskip rfl rfl ?_; (conv => (arg 5; try tactic => exact nrm))) | (refine AL.gs1 rfl rfl (fun hc => ?_) (fun hc => ?_) <;> (try simp only [decide_eq_true_eq, decide_eq_false_iff_not, Bool.not_true, Bool.not_false, Bool.not_eq_true', Bool.not_eq_false', Int.not_lt, Int.not_le, Classical.not_not, ne_eq] at hc) <;> first | (exfalso; first | contradiction | (omega); done) | (conv => (arg 5; try tactic => exact nrm))) | (refine AL.gs0 rfl rfl (fun hc => ?_) (fun hc => ?_) <;> (try simp only [decide_eq_true_eq, decide_eq_false_iff_not, Bool.not_true, Bool.not_false, Bool.not_eq_true', Bool.not_eq_false', Int.not_lt, Int.not_le, Classical.not_not, ne_eq] at hc) <;> first | (exfalso; first | contradiction | (omega); done) | (conv => (arg 5; try tactic => exact nrm))))
        | ((first | ((with_reducible refine AL.k_fieldAddr ?_); first | refine AL.q rfl (OQ.fieldA (ty := 24) (i := 0) (n := 1) (off := 0) (g := false) rfl (by kernel_rfl) (by decide)) ?_ | refine AL.q rfl (OQ.fieldA (ty := 24) (i := 1) (n := 1) (off := 1) (g := false) rfl (by kernel_rfl) (by decide)) ?_) | ((with_reducible refine AL.k_load ?_); first | (refine AL.q rfl (OQ.load1 (ty := 9) rfl (by kernel_rfl) (by conv => lhs; whnf)) ?_) | (refine AL.q rfl (OQ.load1 (ty := 22) rfl (by kernel_rfl) (by conv => lhs; whnf)) ?_)) | ((with_reducible refine AL.k_call ?_); first | refine AL.q rfl (OQ.lenStr rfl Tryz.underlying9) ?_ | refine AL.q rfl (OQ.lenS (xt := 22) (r := (none, 4, true)) rfl (by kernel_rfl)) ?_) | ((with_reducible refine AL.k_binOp ?_); first | refine AL.q rfl (OQ.leq rfl rfl) ?_ | refine AL.q rfl (OQ.gtr rfl rfl) ?_) | ((with_reducible refine AL.k_move ?_); first | (refine AL.q rfl (OQ.move (by conv => lhs; whnf)) ?_)) | ((with_reducible refine AL.k_pick ?_); first | (refine AL.q rfl (OQ.pickT rfl (by with_reducible rfl) (by conv => lhs; whnf)) ?_) | (refine AL.q rfl (OQ.pickF rfl (by with_reducible rfl) (by conv => lhs; whnf)) ?_)) | ((with_reducible refine AL.k_assign ?_); first | (refine AL.q rfl (OQ.assign (by conv => lhs; whnf)) ?_))); (conv => (arg 5; try tactic => exact nrm)))
        | ((first | first | (refine AL.w rfl (OW.box (by conv => lhs; whnf) (by intro r h; cases h)) ?_)); (conv => (arg 5; try tactic => exact nrm)); (conv => (arg 6; try tactic => exact nrm)))
        | (refine AL.bs rfl (fun hc => ?_) (fun hc => ?_) <;> (fail_if_success (with_reducible exact lit_no hc)) <;> (try simp only [decide_eq_true_eq, decide_eq_false_iff_not, Bool.not_true, Bool.not_false, Bool.not_eq_true', Bool.not_eq_false', Int.not_lt, Int.not_le, Classical.not_not, ne_eq] at hc) <;> first | (exfalso; first | contradiction | (omega); done) | (conv => (arg 5; try tactic => exact nrm)))
        | refine AL.nil ?_)
      | ((with_reducible refine AW.on ?_); first
        | refine AW.seq ?_
        | refine AW.skip ?_
        | refine AW.exit ?_
        | refine AW.ret ?_
        | refine AW.block ?_
        | refine AW.region ?_
        | (refine AW.conds rfl (fun hc => ?_) (fun hc => ?_) <;> (try simp only [decide_eq_true_eq, decide_eq_false_iff_not, Bool.not_true, Bool.not_false, Bool.not_eq_true', Bool.not_eq_false', Int.not_lt, Int.not_le, Classical.not_not, ne_eq] at hc) <;> first | (exfalso; first | contradiction | (omega); done) | skip))
      | ((with_reducible refine FinP.on ?_); (first | refine FinP.ret (.tmp (by conv => lhs; whnf) .nil) ?_ rfl | refine FinP.end (.tmp (by conv => lhs; whnf) .nil) ?_ rfl); (try simp only [pack, List.drop, List.take]); all_goals (first | (rw [ht (by omega) (by omega)]; done) | (rw [hf (by omega)]; done) | (by_cases h22 : (l.length : Int) ≤ 22; rw [decide_eq_true h22, ht (by omega) (by omega)]; rw [decide_eq_false h22, hf (by omega)]))))
end Go.Proofs.YtmghmmmfdbafoaaGreatDoor
