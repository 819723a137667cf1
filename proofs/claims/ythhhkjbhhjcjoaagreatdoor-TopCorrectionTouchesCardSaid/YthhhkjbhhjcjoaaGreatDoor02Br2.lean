/- Chapter 2: between the elder walks and the small memory. -/
/- Chapter 2: elder contracts carried to the small memory; the copy of an orbit. -/
import Derived.Test.YthhhkjbhhjcjoaaGreatDoorAb
import Derived.Test.YthhhkjbhhjcjoaaGreatDoor02s
import Derived.Test.YthhhkjbhhjcjoaaGreatDoor02Own
import Derived.Test.YthhhkjbhhjcjoaaGreatDoor02E
set_option linter.unusedSimpArgs false
set_option linter.unusedVariables false
section
namespace Go.Proofs.YthhhkjbhhjcjoaaGreatDoor
open Go Go.RowKit Go.Ob Go.Ab

theorem flatS_scal (l : List St) : (flatS l).all scal = true := List.all_eq_true.2 fun u hu => by
  obtain ⟨s, _, h⟩ := List.mem_flatMap.1 hu
  simp only [stC, List.mem_cons, List.not_mem_nil, or_false] at h
  rcases h with rfl | rfl | rfl | rfl | rfl <;> rfl

/-- A place for the states of an orbit as it lies. -/
def ren1 (b off : Nat) : Ren := fun x => if x = 0 then some ⟨b, off, 0, 0⟩ else none

theorem mrel1 {w : World} {b off : Nat} {l : List St} (hS : HasSts w b off l) (hbw : b < w.heap.size) (h1 : 1 ≤ l.length) : MRel (ren1 b off) [some ⟨flatS l, false, 0⟩] w := by
  intro k blk hk
  have hk0 : k = 0 := by
    have := Mem.at_lt hk
    simp at this
    exact this
  subst hk0
  simp [Mem.at] at hk
  subst hk
  have hcell := hS.cells
  have h0 := hcell 0 (by omega)
  simp only [World.cell?] at h0
  cases ho : w.heap[b]? with
  | none => rw [ho] at h0; simp [List.getElem?_eq_getElem (show 0 < (flatS l).length by rw [flatS_len]; omega)] at h0
  | some o =>
    cases o with
    | cells c ty fr =>
      refine ⟨⟨b, off, 0, 0⟩, rfl, ⟨c, ty, fr, ho, rfl, fun i v hv => ?_, fun h => by cases h⟩, fun h => by cases h⟩
      have hi : i < l.length * 5 := by
        have := (List.getElem?_eq_some_iff.1 hv).1
        rwa [flatS_len] at this
      have := hcell i hi
      simp only [World.cell?, ho] at this
      rw [hv] at this
      refine ⟨v, by simpa [Nat.add_comm] using this, .scal (List.all_eq_true.1 (flatS_scal l) v (List.mem_of_getElem? hv))⟩
    | _ => rw [ho] at h0; simp [List.getElem?_eq_getElem (show 0 < (flatS l).length by rw [flatS_len]; omega)] at h0

/-- A state, read from the states of an orbit. -/
theorem ld_st {m : Mem} {b : Nat} {blk : Blk} {l : List St} (hb : m.at b = some blk) (hc : blk.cells = flatS l) (k : Nat) (hk : k < l.length) : m.ld b (k * 5) 5 = some (stC (at_ l k)) := by
  have hlen : (flatS l).length = l.length * 5 := flatS_len l
  have hmul : k * 5 + 5 ≤ l.length * 5 := by omega
  unfold Mem.ld
  rw [hb]
  simp only [hc, hlen]
  rw [if_pos (by omega)]
  congr 1
  refine List.ext_getElem? fun i => ?_
  rcases Nat.lt_or_ge i 5 with hi | hi
  · rw [List.getElem?_take_of_lt hi, List.getElem?_drop, flatS_get l k i hi hk]
  · rw [List.getElem?_eq_none (by simp; omega), List.getElem?_eq_none (by simp [stC]; omega)]
end Go.Proofs.YthhhkjbhhjcjoaaGreatDoor
end

section
namespace Go.Proofs.YthhhkjbhhjcjoaaGreatDoor
open Go Go.RowKit Go.Ob Go.Ab
set_option maxRecDepth 100000

/-- An orbit of n states, in block b. -/
abbrev obN (nm : ByteArray) (bd : Int) (b n : Nat) : Value := .agg #[.string nm, .int .i64 bd, .slice (some ⟨b, 0, none⟩) n INF]

theorem rn1_id {τ : Nat → Nat} {cs : List Value} (h : cs.all scal = true) : cs.map (rn1 τ) = cs := by
  induction cs with
  | nil => rfl
  | cons v vs ih =>
    simp only [List.all_cons, Bool.and_eq_true] at h
    rw [List.map_cons, rn1_scal h.1, ih h.2]
theorem ok1_of_scal {n : Nat} {cs : List Value} (h : cs.all scal = true) : cs.all (ok1 n) = true := List.all_eq_true.2 fun v hv => by
  have := List.all_eq_true.1 h v hv
  unfold ok1
  split <;> first | exact this | (simp [Ab.scal] at this)

/-- A function that reads one block and makes one. -/
theorem ACalls.via1 {P : Program} {f : FuncId} {args0 args : List Value} {cs cs' : List Value} {z' : Nat} {v0 v : Value} {m : Mem} {b : Nat} {blk : Blk} (hb : m.at b = some blk) (hc : blk.cells = cs) (hs : cs.all scal = true) (hs' : cs'.all scal = true)
    (h : ∀ z, ACalls P f args0 [some ⟨cs, false, z⟩] v0 [some ⟨cs, false, z⟩, some ⟨cs', true, z'⟩])
    (hargs : args0.map (rn3 fun _ => b) = args) (hk : args0.all (ok3 1) = true) (hv : rn3 (τn (fun _ => b) 1 m.length) v0 = v) (hkv : ok3 2 v0 = true) : ACalls P f args m v (m ++ [some ⟨cs', true, z'⟩]) := by
  have h0 : ∀ x bk, Mem.at [some (⟨cs, false, blk.esz⟩ : Blk)] x = some bk → x = 0 ∧ bk = ⟨cs, false, blk.esz⟩ := fun x bk hx => by
    have := Mem.at_lt hx
    simp at this
    subst this
    simp [Mem.at] at hx
    exact ⟨rfl, hx.symm⟩
  refine ACalls.via (k := 1) (fun _ => b) (h blk.esz) ⟨fun x hx => ?_, fun x bk hx => ?_, fun x bk hx => ?_, fun x x' bk hx ho => ?_⟩ ⟨rfl, by simp, fun x hx _ => ?_, fun c bk hx ho => ?_, fun c bk hx _ => ?_, fun j hj => ?_, fun c bk hx ho => ?_, fun c bk hx ho => ?_⟩ hargs hk hv hkv
  · simp at hx; subst hx; exact ⟨_, rfl⟩
  · obtain ⟨-, rfl⟩ := h0 x bk hx; exact ok1_of_scal hs
  · obtain ⟨-, rfl⟩ := h0 x bk hx
    refine ⟨blk, hb, rfl, (fun h => nomatch h), fun i v hv => ?_⟩
    rw [hc, rn1_scal (List.all_eq_true.1 hs v (List.mem_of_getElem? hv))]
    exact hv
  · obtain ⟨-, rfl⟩ := h0 x bk hx; cases ho
  · rw [Mem.at_snoc, if_neg (by omega)]
  · obtain ⟨-, rfl⟩ := h0 c bk hx; cases ho
  · obtain ⟨rfl, rfl⟩ := h0 c bk hx; exact ⟨_, rfl, rfl⟩
  · obtain rfl : j = 0 := by omega
    rw [Nat.add_zero, Mem.at_snoc, if_pos rfl]
    simp [Mem.at, rnB, rn1_id hs']
  · have := Mem.at_lt hx
    simp at this
    match c, this with
    | 0, _ =>
      obtain ⟨b0, e0, e1⟩ := ho (by simp)
      obtain ⟨-, rfl⟩ := h0 0 b0 e0
      cases e1
    | 1, _ => simp [Mem.at] at hx; rw [← hx]
  · have := Mem.at_lt hx
    simp at this
    match c, this with
    | 0, _ => simp [Mem.at] at hx; rw [← hx] at ho; cases ho
    | 1, _ => simp [Mem.at] at hx; rw [← hx]; exact ok1_of_scal hs'

theorem Copy_c (nm : ByteArray) (bd : Int) (l : List St) (h1 : 1 ≤ l.length) (h2 : l.length ≤ 1000) (z : Nat) :
    ACalls Tryz.prog 14 [obN nm bd 0 l.length] [some ⟨flatS l, false, z⟩] (obN nm bd 1 l.length) [some ⟨flatS l, false, z⟩, some ⟨flatS l, true, 5⟩] := by
  have hlen := flatS_len l
  have hld : Mem.ld [some ⟨flatS l, false, z⟩, some ⟨[.string nm, .int .i64 bd, .slice (some ⟨0, 0, none⟩) l.length INF], true, 0⟩, some ⟨[.string ⟨#[]⟩, .int .i64 0, .slice none 0 0], true, 0⟩, some ⟨[], true, 5⟩] 0 0 (l.length * 5) = some (flatS l) := by
    simp [Mem.ld, Mem.at, hlen, List.take_of_length_le]
  have hone : (flatS l).all Ab.one = true := List.all_eq_true.2 fun v hv => by
    have := List.all_eq_true.1 (flatS_scal l) v hv
    cases v <;> first | rfl | (simp [Ab.scal] at this)
  refine ACalls.enter (t := [obN nm bd 0 l.length, undef, undef, undef, undef, undef, undef, undef, undef]) Tryz.func14 rfl rfl fun E hE => ?_
  refine AW.seq ?_
  refine AW.region ?_
  refine AL.w rfl (OW.box (by conv => lhs; whnf) (by intro r h; cases h)) ?_
  (conv => (arg 5; try simp only [T.put, T.ev, putAt, setsT, newBlks, fillL, List.map, List.set, List.append, List.cons_append, List.nil_append, List.length, List.getElem?_cons_zero, List.getElem?_cons_succ, Nat.reduceAdd, Nat.reduceMul, Nat.zero_add, Nat.add_zero, Nat.mul_one, Nat.zero_mul, List.drop, List.take, List.toList_toArray, Value.cells, Int.reduceToNat, Int.toNat_natCast, List.getD, Option.getD, Option.map, flat, flat1, scal, if_true, ↓reduceIte]))
  (conv => (arg 6; try simp only [T.put, T.ev, putAt, setsT, newBlks, fillL, List.map, List.set, List.append, List.cons_append, List.nil_append, List.length, List.getElem?_cons_zero, List.getElem?_cons_succ, Nat.reduceAdd, Nat.reduceMul, Nat.zero_add, Nat.add_zero, Nat.mul_one, Nat.zero_mul, List.drop, List.take, List.toList_toArray, Value.cells, Int.reduceToNat, Int.toNat_natCast, List.getD, Option.getD, Option.map, flat, flat1, scal, if_true, ↓reduceIte]))
  refine AL.w rfl (OW.alloc (ty := 37) (z := [.string ⟨#[]⟩, .int .i64 0, .slice none 0 0]) (by kernel_rfl) rfl) ?_
  (conv => (arg 5; try simp only [T.put, T.ev, putAt, setsT, newBlks, fillL, List.map, List.set, List.append, List.cons_append, List.nil_append, List.length, List.getElem?_cons_zero, List.getElem?_cons_succ, Nat.reduceAdd, Nat.reduceMul, Nat.zero_add, Nat.add_zero, Nat.mul_one, Nat.zero_mul, List.drop, List.take, List.toList_toArray, Value.cells, Int.reduceToNat, Int.toNat_natCast, List.getD, Option.getD, Option.map, flat, flat1, scal, if_true, ↓reduceIte]))
  (conv => (arg 6; try simp only [T.put, T.ev, putAt, setsT, newBlks, fillL, List.map, List.set, List.append, List.cons_append, List.nil_append, List.length, List.getElem?_cons_zero, List.getElem?_cons_succ, Nat.reduceAdd, Nat.reduceMul, Nat.zero_add, Nat.add_zero, Nat.mul_one, Nat.zero_mul, List.drop, List.take, List.toList_toArray, Value.cells, Int.reduceToNat, Int.toNat_natCast, List.getD, Option.getD, Option.map, flat, flat1, scal, if_true, ↓reduceIte]))
  refine AL.nil ?_
  refine Then.n ?_
  refine AW.seq ?_
  refine AW.region ?_
  refine AL.w rfl (OW.buildSl0 (ty := 35) (z := (none, 5, true)) (by kernel_rfl)) ?_
  (conv => (arg 5; try simp only [T.put, T.ev, putAt, setsT, newBlks, fillL, List.map, List.set, List.append, List.cons_append, List.nil_append, List.length, List.getElem?_cons_zero, List.getElem?_cons_succ, Nat.reduceAdd, Nat.reduceMul, Nat.zero_add, Nat.add_zero, Nat.mul_one, Nat.zero_mul, List.drop, List.take, List.toList_toArray, Value.cells, Int.reduceToNat, Int.toNat_natCast, List.getD, Option.getD, Option.map, flat, flat1, scal, if_true, ↓reduceIte]))
  (conv => (arg 6; try simp only [T.put, T.ev, putAt, setsT, newBlks, fillL, List.map, List.set, List.append, List.cons_append, List.nil_append, List.length, List.getElem?_cons_zero, List.getElem?_cons_succ, Nat.reduceAdd, Nat.reduceMul, Nat.zero_add, Nat.add_zero, Nat.mul_one, Nat.zero_mul, List.drop, List.take, List.toList_toArray, Value.cells, Int.reduceToNat, Int.toNat_natCast, List.getD, Option.getD, Option.map, flat, flat1, scal, if_true, ↓reduceIte]))
  refine AL.q rfl (OQ.fieldA (ty := 37) (i := 2) (n := 1) (off := 2) (g := false) rfl (by kernel_rfl) (by decide)) ?_
  refine AL.q rfl (OQ.load1 (ty := 35) rfl (by kernel_rfl) (by conv => lhs; whnf)) ?_
  refine AL.w rfl (OW.append (n := 0) (c := 0) (b := 3) (blk := ⟨[], true, 5⟩) (z := 5) (by' := 40) (zs := [.int .i64 0, .int .i64 0, .int .i64 0, .int .i64 0, .int .i64 0]) (e := 25) rfl rfl (by kernel_rfl) (by kernel_rfl) (by kernel_rfl) rfl (by kernel_rfl) (by omega) rfl rfl rfl (by decide) (Nat.le_refl _) hld hone (by omega) (by omega)) ?_
  (conv => (arg 5; try simp only [T.put, T.ev, putAt, setsT, newBlks, fillL, List.map, List.set, List.append, List.cons_append, List.nil_append, List.length, List.getElem?_cons_zero, List.getElem?_cons_succ, Nat.reduceAdd, Nat.reduceMul, Nat.zero_add, Nat.add_zero, Nat.mul_one, Nat.zero_mul, List.drop, List.take, List.toList_toArray, Value.cells, Int.reduceToNat, Int.toNat_natCast, List.getD, Option.getD, Option.map, flat, flat1, scal, if_true, ↓reduceIte]))
  (conv => (arg 6; try simp only [T.put, T.ev, putAt, setsT, newBlks, fillL, List.map, List.set, List.append, List.cons_append, List.nil_append, List.length, List.getElem?_cons_zero, List.getElem?_cons_succ, Nat.reduceAdd, Nat.reduceMul, Nat.zero_add, Nat.add_zero, Nat.mul_one, Nat.zero_mul, List.drop, List.take, List.toList_toArray, Value.cells, Int.reduceToNat, Int.toNat_natCast, List.getD, Option.getD, Option.map, flat, flat1, scal, if_true, ↓reduceIte]))
  refine AL.q rfl (OQ.fieldA (ty := 37) (i := 2) (n := 1) (off := 2) (g := false) rfl (by kernel_rfl) (by decide)) ?_
  refine AL.w rfl (OW.store (ty := 35) (n := 1) rfl (by conv => lhs; whnf) rfl rfl (by kernel_rfl) rfl rfl (by decide) rfl (Nat.le_of_ble_eq_true rfl) (by intro r h; cases h)) ?_
  (conv => (arg 5; try simp only [T.put, T.ev, putAt, setsT, newBlks, fillL, List.map, List.set, List.append, List.cons_append, List.nil_append, List.length, List.getElem?_cons_zero, List.getElem?_cons_succ, Nat.reduceAdd, Nat.reduceMul, Nat.zero_add, Nat.add_zero, Nat.mul_one, Nat.zero_mul, List.drop, List.take, List.toList_toArray, Value.cells, Int.reduceToNat, Int.toNat_natCast, List.getD, Option.getD, Option.map, flat, flat1, scal, if_true, ↓reduceIte]))
  (conv => (arg 6; try simp only [T.put, T.ev, putAt, setsT, newBlks, fillL, List.map, List.set, List.append, List.cons_append, List.nil_append, List.length, List.getElem?_cons_zero, List.getElem?_cons_succ, Nat.reduceAdd, Nat.reduceMul, Nat.zero_add, Nat.add_zero, Nat.mul_one, Nat.zero_mul, List.drop, List.take, List.toList_toArray, Value.cells, Int.reduceToNat, Int.toNat_natCast, List.getD, Option.getD, Option.map, flat, flat1, scal, if_true, ↓reduceIte]))
  refine AL.nil ?_
  refine Then.n ?_
  refine AW.seq ?_
  refine AW.region ?_
  refine AL.q rfl (OQ.loadN (ty := 37) (n := 3) rfl (by kernel_rfl) (by kernel_rfl) rfl) ?_
  refine AL.w rfl (OW.store (ty := 37) (n := 3) rfl (by conv => lhs; whnf) rfl rfl (by kernel_rfl) rfl rfl (by decide) rfl (Nat.le_of_ble_eq_true rfl) (by intro r h; cases h)) ?_
  (conv => (arg 5; try simp only [T.put, T.ev, putAt, setsT, newBlks, fillL, List.map, List.set, List.append, List.cons_append, List.nil_append, List.length, List.getElem?_cons_zero, List.getElem?_cons_succ, Nat.reduceAdd, Nat.reduceMul, Nat.zero_add, Nat.add_zero, Nat.mul_one, Nat.zero_mul, List.drop, List.take, List.toList_toArray, Value.cells, Int.reduceToNat, Int.toNat_natCast, List.getD, Option.getD, Option.map, flat, flat1, scal, if_true, ↓reduceIte]))
  (conv => (arg 6; try simp only [T.put, T.ev, putAt, setsT, newBlks, fillL, List.map, List.set, List.append, List.cons_append, List.nil_append, List.length, List.getElem?_cons_zero, List.getElem?_cons_succ, Nat.reduceAdd, Nat.reduceMul, Nat.zero_add, Nat.add_zero, Nat.mul_one, Nat.zero_mul, List.drop, List.take, List.toList_toArray, Value.cells, Int.reduceToNat, Int.toNat_natCast, List.getD, Option.getD, Option.map, flat, flat1, scal, if_true, ↓reduceIte]))
  refine AL.nil ?_
  refine Then.n ?_
  refine AW.ret ?_
  refine ⟨.inl rfl, _, fun b => if b = 0 then 0 else 4, (.cellN (n := 3) (by conv => lhs; whnf) (by kernel_rfl) (by kernel_rfl) rfl .nil), rfl, rfl, ?_, ?_, ?_⟩
  · refine ⟨⟨_, rfl, rfl, rfl, .inl ⟨rfl, flatS_scal l⟩⟩, ⟨_, rfl, rfl, rfl, .inl ⟨by simp, flatS_scal l⟩⟩, trivial⟩
  · intro b hb; rw [hE] at hb; simp at hb; subst hb; exact ⟨by simp, rfl⟩
  · intro b b' hb hb' he; simp at hb hb'; match b, b', hb, hb' with | 0, 0, _, _ => rfl | 0, 1, _, _ => simp at he | 1, 0, _, _ => simp at he | 1, 1, _, _ => rfl

/-- The copy of an orbit. -/
theorem Copy_p {m : Mem} {b n : Nat} {blk : Blk} (nm : ByteArray) (bd : Int) (l : List St) (hb : m.at b = some blk) (hc : blk.cells = flatS l) (hn : l.length = n) (h1 : 1 ≤ l.length) (h2 : l.length ≤ 1000) :
    ACalls Tryz.prog 14 [obN nm bd b n] m (obN nm bd m.length n) (m ++ [some ⟨flatS l, true, 5⟩]) := by
  subst hn
  refine ACalls.via1 hb hc (flatS_scal l) (flatS_scal l) (Copy_c nm bd l h1 h2) rfl rfl ?_ rfl
  simp [rn3, rn2, rn1, τn]
end Go.Proofs.YthhhkjbhhjcjoaaGreatDoor
end
