/- Chapter 2: orbits in the small memory, with states or without; elder contracts carried there. -/
import Derived.Test.YthhhkjbhhjcjoaaGreatDoor02Br2
import Derived.Test.YthhhkjbhhjcjoaaGreatDoor02A
import Derived.Test.YthhhkjbhhjcjoaaGreatDoor02w
import Derived.Test.YthhhkjbhhjcjoaaGreatDoorAbF
set_option linter.unusedSimpArgs false
set_option linter.unusedVariables false
namespace Go.Proofs.YthhhkjbhhjcjoaaGreatDoor
open Go Go.RowKit Go.Ob Go.Ab
set_option maxRecDepth 100000

/-- A slice of length 0 that is not nil. -/
abbrev lostS : Value := .slice (some ⟨0, 0, some default⟩) 0 0

/-- States as they lie in the small memory. -/
inductive SlB (m : Mem) (v : Value) (l : List St) : Prop
  | blk (i : Nat) (k : Blk) (hv : v = .slice (some ⟨i, 0, none⟩) l.length INF) (h : m.at i = some k) (hc : k.cells = flatS l)
  | nil (hl : l = []) (hv : v = .slice none 0 0)
  | lost (hl : l = []) (hv : v = lostS)

abbrev obW (nm : ByteArray) (bd : Int) (v : Value) : Value := .agg #[.string nm, .int .i64 bd, v]

structure Ors (nm : ByteArray) (l : List St) : Prop where
  nm : nm.size ≤ 1000
  wf : ∀ k, k < l.length → -9223372036854775808 ≤ (at_ l k).t ∧ (at_ l k).t ≤ 9223372036854775807
  len : (l.length : Int) ≤ 9223372036854775807

theorem SlB.real {ρ : Ren} {m : Mem} {w : World} {v v' : Value} {l : List St} (h : SlB m v l) (hwf : ∀ k, k < l.length → -9223372036854775808 ≤ (at_ l k).t ∧ (at_ l k).t ≤ 9223372036854775807) (hm : MRel ρ m w) (hv : VRel ρ v v') :
    ∃ a cap, v' = .slice a l.length cap ∧ SlSts w a l ∧ l.length ≤ cap := by
  have none_ : l = [] → ∀ a, SlSts w a l := fun hl a => ⟨hwf, fun h => absurd hl h⟩
  cases h with
  | blk i k e hb hc =>
    subst e
    rcases hv.slice_inv with ⟨pl, c', hp, g1, _, _, rfl⟩ | ⟨h0, a', rfl⟩
    · refine ⟨_, c', rfl, ⟨hwf, fun _ => ?_⟩, g1⟩
      obtain ⟨pl', hp', ⟨c, ty, fr, k0, _, k2, _⟩, _⟩ := hm i k hb
      cases Option.some.inj (hp.symm.trans hp')
      refine ⟨pl.blk, 0 + pl.sh, rfl, (Array.getElem?_eq_some_iff.1 k0).1, HasSts.of_cells fun j hj => ?_⟩
      have hl : j < (flatS l).length := by rw [flatS_len]; exact hj
      obtain ⟨v', q1, q2⟩ := k2 j (flatS l)[j] (by rw [hc]; simp [hl])
      have hsc := List.all_eq_true.1 (flatS_scal l) _ (List.getElem_mem hl)
      rw [q2.of_scal hsc] at q1
      rw [List.getElem?_eq_getElem hl]
      simp only [World.cell?, k0, Option.isSome_none]
      rw [show 0 + pl.sh + j = j + pl.sh by omega]
      simpa using q1
    · have hl : l = [] := List.eq_nil_of_length_eq_zero h0
      subst hl
      exact ⟨_, _, rfl, none_ rfl _, Nat.le_refl _⟩
  | nil hl e =>
    subst e
    subst hl
    exact ⟨_, _, hv.nil_inv, none_ rfl _, Nat.le_refl _⟩
  | lost hl e =>
    subst e
    subst hl
    cases hv with
    | scal h => cases h
    | empty => exact ⟨_, _, rfl, none_ rfl _, Nat.le_refl _⟩
    | lost => exact ⟨_, _, rfl, none_ rfl _, Nat.zero_le _⟩

theorem ob_real {ρ : Ren} {m : Mem} {w : World} {nm : ByteArray} {bd : Int} {v v' : Value} {l : List St} (h : SlB m v l) (ho : Ors nm l) (hm : MRel ρ m w) (hv : VRel ρ (obW nm bd v) v') :
    ∃ a cap, v' = obV nm bd a l.length cap ∧ OrbIn w nm a cap l := by
  obtain ⟨cs, rfl, hs, hg⟩ := hv.agg_inv
  obtain ⟨u0, e0, r0⟩ := hg 0 _ rfl
  obtain ⟨u1, e1, r1⟩ := hg 1 _ rfl
  obtain ⟨u2, e2, r2⟩ := hg 2 _ rfl
  obtain ⟨a, cap, rfl, h1, h2⟩ := h.real ho.wf hm r2
  refine ⟨a, cap, ?_, ⟨ho.nm, h1, h2, ho.len⟩⟩
  have : cs = #[u0, u1, .slice a l.length cap] := by
    refine Array.ext_getElem? fun i => ?_
    match i with
    | 0 => exact e0
    | 1 => exact e1
    | 2 => exact e2
    | i + 3 => rw [Array.getElem?_eq_none (by simp at hs; omega), Array.getElem?_eq_none (by simp)]
  rw [this, r0.string, r1.int]

theorem of_sl {m : Mem} {v r : Value} {l : List St} {f : FuncId} {nm : ByteArray} {bd : Int} {us : List Value} (hS : SlB m v l) (ho : Ors nm l) (hk : us.all flat = true) (hr : flat r = true)
    (h : ∀ w a cap, OrbIn w nm a cap l → Calls Tryz.prog f (obV nm bd a l.length cap :: us).toArray w fun e w' => e = .returned r ∧ Below w.heap.size w w') : PCalls Tryz.prog f (obW nm bd v :: us) m r := by
  intro ρ args' w hdom hargs hm
  obtain ⟨xs', e, hl, hg⟩ := hargs.tuple_inv
  cases e
  obtain ⟨u, e0, r0⟩ := hg 0 _ rfl
  obtain ⟨a, cap, rfl, hO⟩ := ob_real hS ho hm r0
  have : args' = (obV nm bd a l.length cap :: us).toArray := by
    refine Array.ext (by simpa using hl.symm) fun i hi hi' => ?_
    match i with
    | 0 => rw [Array.getElem?_eq_getElem hi] at e0; simpa using Option.some.inj e0
    | i + 1 =>
      have hi0 : i < us.length := by simpa using hi'
      obtain ⟨u', q1, q2⟩ := hg (i + 1) us[i] (by simp [hi0])
      rw [Array.getElem?_eq_getElem hi] at q1
      rw [Option.some.inj q1, q2.of_flat (List.all_eq_true.1 hk _ (List.getElem_mem hi0))]
      simp
  subst this
  exact (h w a cap hO).mono fun e w' ⟨he, hbl⟩ => ⟨r, he, .flat hr, hbl⟩

section
variable {m : Mem} {v : Value} {l : List St} {nm : ByteArray} {bd : Int}
theorem pathOf_q (hS : SlB m v l) (ho : Ors nm l) : PCalls Tryz.prog 62 [obW nm bd v] m (.tuple #[obW nm bd v, .int .i64 (orbE nm.data.toList bd l).2]) := by
  intro ρ args' w hdom hargs hm
  obtain ⟨xs', e, h1, hg⟩ := hargs.tuple_inv
  cases e
  obtain ⟨u, e0, r0⟩ := hg 0 _ rfl
  obtain ⟨a, cap, rfl, hO⟩ := ob_real hS ho hm r0
  have : args' = #[obV nm bd a l.length cap] := by
    refine Array.ext_getElem? fun i => ?_
    match i with
    | 0 => exact e0
    | i + 1 => rw [Array.getElem?_eq_none (by simp at h1; omega), Array.getElem?_eq_none (by simp)]
  subst this
  refine (pathOf_any nm bd a cap l w hO.nm hO.sts hO.cap hO.len).mono fun e w' ⟨he, hbl⟩ => ⟨_, he, ?_, hbl⟩
  refine .tuple rfl fun i h h' => ?_
  match i, h with
  | 0, _ => exact r0
  | 1, _ => exact .scal rfl
theorem Err_q (hS : SlB m v l) (ho : Ors nm l) : PCalls Tryz.prog 15 [obW nm bd v] m (.int .i64 (orbE nm.data.toList bd l).2) :=
  of_sl hS ho rfl rfl fun w a cap hO => Err_any nm bd a cap l w hO
theorem Ors.of_right (hn : nm.size ≤ 1000) (hR : Right bd l) : Ors nm l := ⟨hn, fun k hk => by
  obtain ⟨h1, h2, _⟩ := hR.ok k hk
  omega, by have := hR.n40; omega⟩
end

/-- A weaker result. -/
theorem ACalls.weak {P : Program} {f : FuncId} {args : List Value} {m m' : Mem} {v u : Value} (h : ACalls P f args m v m') (hw : ∀ ρ v', VRel ρ v v' → VRel ρ u v') : ACalls P f args m u m' :=
  fun E ρ args' w ha hs => (h E ρ args' w ha hs).mono fun _ _ ⟨v', ρ', he, hx, hv, hs'⟩ => ⟨v', ρ', he, hx, hw ρ' v' hv, hs'⟩

theorem VRel.inf {ρ : Ren} {b o n c : Nat} {v' : Value} (h : VRel ρ (.slice (some ⟨b, o, none⟩) n c) v') : VRel ρ (.slice (some ⟨b, o, none⟩) n INF) v' := by
  rcases h.slice_inv with ⟨pl, c', hp, g1, _, g3, rfl⟩ | ⟨h0, a', rfl⟩
  · exact .slice hp g1 (fun h => absurd h (by decide)) g3
  · subst h0
    exact .empty
theorem obW_inf {ρ : Ren} {nm : ByteArray} {bd : Int} {b n c : Nat} {v' : Value} (h : VRel ρ (obW nm bd (.slice (some ⟨b, 0, none⟩) n c)) v') : VRel ρ (obW nm bd (.slice (some ⟨b, 0, none⟩) n INF)) v' := by
  obtain ⟨cs, rfl, hs, hg⟩ := h.agg_inv
  refine .agg_mk (by simpa using hs) fun i u hu => ?_
  match i, hu with
  | 0, hu => exact hg 0 u hu
  | 1, hu => exact hg 1 u hu
  | 2, hu =>
    obtain ⟨u', e, r⟩ := hg 2 _ rfl
    simp at hu
    subst hu
    exact ⟨u', e, VRel.inf r⟩

/-- A function that reads nothing of what is there and makes one block. -/
theorem ACalls.via0 {P : Program} {f : FuncId} {args : List Value} {cs' : List Value} {z' : Nat} {v0 v : Value} {m : Mem} (hs' : cs'.all scal = true)
    (h : ACalls P f args [] v0 [some ⟨cs', true, z'⟩]) (hargs : args.map (rn3 fun _ => 0) = args) (hk : args.all (ok3 0) = true) (hv : rn3 (τn (fun _ => 0) 0 m.length) v0 = v) (hkv : ok3 1 v0 = true) : ACalls P f args m v (m ++ [some ⟨cs', true, z'⟩]) := by
  refine ACalls.via (k := 1) (fun _ => 0) h ⟨fun x hx => absurd hx (by simp), fun x bk hx => by simp [Mem.at] at hx, fun x bk hx => by simp [Mem.at] at hx, fun x x' bk hx => by simp [Mem.at] at hx⟩
    ⟨rfl, by simp, fun x hx _ => ?_, fun c bk hx ho => by simp [Mem.at] at hx, fun c bk hx _ => by simp [Mem.at] at hx, fun j hj => ?_, fun c bk hx ho => ?_, fun c bk hx ho => ?_⟩ hargs hk hv hkv
  · rw [Mem.at_snoc, if_neg (by omega)]
  · obtain rfl : j = 0 := by omega
    rw [Nat.add_zero, Mem.at_snoc, if_pos rfl]
    simp [Mem.at, rnB, rn1_id hs']
  · have := Mem.at_lt hx
    simp at this
    subst this
    simp [Mem.at] at hx
    rw [← hx]
  · have := Mem.at_lt hx
    simp at this
    subst this
    simp [Mem.at] at hx
    rw [← hx]
    exact ok1_of_scal hs'

theorem Copy_nil (nm : ByteArray) (bd : Int) :
    ACalls Tryz.prog 14 [obW nm bd (.slice none 0 0)] [] (obW nm bd (.slice (some ⟨0, 0, none⟩) 0 0)) [some ⟨[], true, 5⟩] := by
  refine ACalls.enter (t := [obW nm bd (.slice none 0 0), undef, undef, undef, undef, undef, undef, undef, undef]) Tryz.func14 rfl rfl fun E hE => ?_
  refine AW.seq ?_
  refine AW.region ?_
  refine AL.w rfl (OW.box (by conv => lhs; whnf) (by intro r h; cases h)) ?_
  (conv => (arg 5; try simp only [T.put, T.ev, putAt, setsT, newBlks, fillL, List.map, List.set, List.append, List.cons_append, List.nil_append, List.length, List.getElem?_cons_zero, List.getElem?_cons_succ, Nat.reduceAdd, Nat.reduceMul, Nat.zero_add, Nat.add_zero, Nat.mul_one, Nat.zero_mul, List.drop, List.take, List.toList_toArray, Value.cells, Int.reduceToNat, Int.toNat_natCast, List.getD, Option.getD, Option.map, flat, flat1, scal, if_true, ↓reduceIte]))
  (conv => (arg 6; try simp only [T.put, T.ev, putAt, setsT, newBlks, fillL, List.map, List.set, List.append, List.cons_append, List.nil_append, List.length, List.getElem?_cons_zero, List.getElem?_cons_succ, Nat.reduceAdd, Nat.reduceMul, Nat.zero_add, Nat.add_zero, Nat.mul_one, Nat.zero_mul, List.drop, List.take, List.toList_toArray, Value.cells, Int.reduceToNat, Int.toNat_natCast, List.getD, Option.getD, Option.map, flat, flat1, scal, if_true, ↓reduceIte]))
  refine AL.w rfl (OW.alloc (ty := 37) (z := [.string ⟨#[]⟩, .int .i64 0, .slice none 0 0]) (by kernel_rfl) rfl) ?_
  (conv => (arg 5; try simp only [T.put, T.ev, putAt, setsT, newBlks, fillL, List.map, List.set, List.append, List.cons_append, List.nil_append, List.length, List.getElem?_cons_zero, List.getElem?_cons_succ, Nat.reduceAdd, Nat.reduceMul, Nat.zero_add, Nat.add_zero, Nat.mul_one, Nat.zero_mul, List.drop, List.take, List.toList_toArray, Value.cells, Int.reduceToNat, Int.toNat_natCast, List.getD, Option.getD, Option.map, flat, flat1, scal, if_true, ↓reduceIte]))
  (conv => (arg 6; try simp only [T.put, T.ev, putAt, setsT, newBlks, fillL, List.map, List.set, List.append, List.cons_append, List.nil_append, List.length, List.getElem?_cons_zero, List.getElem?_cons_succ, Nat.reduceAdd, Nat.reduceMul, Nat.zero_add, Nat.add_zero, Nat.mul_one, Nat.zero_mul, List.drop, List.take, List.toList_toArray, Value.cells, Int.reduceToNat, Int.toNat_natCast, List.getD, Option.getD, Option.map, flat, flat1, scal, if_true, ↓reduceIte]))
  refine AL.nil ?_
  refine Then.n ?_
  refine AW.seq ?_
  refine AW.region ?_
  refine AL.w rfl (OW.buildSl0 (ty := 35) (z := (none, 5, true)) (by kernel_rfl)) ?_
  (conv => (arg 5; try simp only [T.put, T.ev, putAt, setsT, newBlks, fillL, List.map, List.set, List.append, List.cons_append, List.nil_append, List.length, List.getElem?_cons_zero, List.getElem?_cons_succ, Nat.reduceAdd, Nat.reduceMul, Nat.zero_add, Nat.add_zero, Nat.mul_one, Nat.zero_mul, List.drop, List.take, List.toList_toArray, Value.cells, Int.reduceToNat, Int.toNat_natCast, List.getD, Option.getD, Option.map, flat, flat1, scal, if_true, ↓reduceIte]))
  (conv => (arg 6; try simp only [T.put, T.ev, putAt, setsT, newBlks, fillL, List.map, List.set, List.append, List.cons_append, List.nil_append, List.length, List.getElem?_cons_zero, List.getElem?_cons_succ, Nat.reduceAdd, Nat.reduceMul, Nat.zero_add, Nat.add_zero, Nat.mul_one, Nat.zero_mul, List.drop, List.take, List.toList_toArray, Value.cells, Int.reduceToNat, Int.toNat_natCast, List.getD, Option.getD, Option.map, flat, flat1, scal, if_true, ↓reduceIte]))
  refine AL.q rfl (OQ.fieldA (ty := 37) (i := 2) (n := 1) (off := 2) (g := false) rfl (by kernel_rfl) (by decide)) ?_
  refine AL.q rfl (OQ.load1 (ty := 35) rfl (by kernel_rfl) (by conv => lhs; whnf)) ?_
  refine AL.q rfl (OQ.append0 (v := undef) (z := 5) (e := 25) rfl rfl (by kernel_rfl) (by kernel_rfl)) ?_
  refine AL.q rfl (OQ.fieldA (ty := 37) (i := 2) (n := 1) (off := 2) (g := false) rfl (by kernel_rfl) (by decide)) ?_
  refine AL.w rfl (OW.store (ty := 35) (n := 1) rfl (by conv => lhs; whnf) rfl rfl (by kernel_rfl) rfl rfl (by decide) rfl (Nat.le_of_ble_eq_true rfl) (by intro r h; cases h)) ?_
  (conv => (arg 5; try simp only [T.put, T.ev, putAt, setsT, newBlks, fillL, List.map, List.set, List.append, List.cons_append, List.nil_append, List.length, List.getElem?_cons_zero, List.getElem?_cons_succ, Nat.reduceAdd, Nat.reduceMul, Nat.zero_add, Nat.add_zero, Nat.mul_one, Nat.zero_mul, List.drop, List.take, List.toList_toArray, Value.cells, Int.reduceToNat, Int.toNat_natCast, List.getD, Option.getD, Option.map, flat, flat1, scal, if_true, ↓reduceIte]))
  (conv => (arg 6; try simp only [T.put, T.ev, putAt, setsT, newBlks, fillL, List.map, List.set, List.append, List.cons_append, List.nil_append, List.length, List.getElem?_cons_zero, List.getElem?_cons_succ, Nat.reduceAdd, Nat.reduceMul, Nat.zero_add, Nat.add_zero, Nat.mul_one, Nat.zero_mul, List.drop, List.take, List.toList_toArray, Value.cells, Int.reduceToNat, Int.toNat_natCast, List.getD, Option.getD, Option.map, flat, flat1, scal, if_true, ↓reduceIte]))
  refine AL.nil ?_
  refine Then.n ?_
  refine AW.seq ?_
  refine AW.region ?_
  refine AL.q rfl (OQ.loadN (ty := 37) (n := 3) rfl (by kernel_rfl) (by kernel_rfl) rfl) ?_
  refine AL.w rfl (OW.store (ty := 37) (n := 3) rfl (by conv => lhs; whnf) rfl rfl (by kernel_rfl) rfl rfl (by decide) rfl (Nat.le_of_ble_eq_true rfl) (by intro r h; cases h)) ?_
  (conv => (arg 5; try simp only [T.put, T.ev, putAt, setsT, newBlks, fillL, List.map, List.set, List.append, List.cons_append, List.nil_append, List.length, List.getElem?_cons_zero, List.getElem?_cons_succ, Nat.reduceAdd, Nat.reduceMul, Nat.zero_add, Nat.add_zero, Nat.mul_one, Nat.zero_mul, List.drop, List.take, List.toList_toArray, Value.cells, Int.reduceToNat, Int.toNat_natCast, List.getD, Option.getD, Option.map, flat, flat1, scal, if_true, ↓reduceIte]))
  (conv => (arg 6; try simp only [T.put, T.ev, putAt, setsT, newBlks, fillL, List.map, List.set, List.append, List.cons_append, List.nil_append, List.length, List.getElem?_cons_zero, List.getElem?_cons_succ, Nat.reduceAdd, Nat.reduceMul, Nat.zero_add, Nat.add_zero, Nat.mul_one, Nat.zero_mul, List.drop, List.take, List.toList_toArray, Value.cells, Int.reduceToNat, Int.toNat_natCast, List.getD, Option.getD, Option.map, flat, flat1, scal, if_true, ↓reduceIte]))
  refine AL.nil ?_
  refine Then.n ?_
  refine AW.ret ?_
  refine ⟨.inl rfl, _, fun b => 2, (.cellN (n := 3) (by conv => lhs; whnf) (by kernel_rfl) (by kernel_rfl) rfl .nil), rfl, rfl, ?_, ?_, ?_⟩
  · exact ⟨⟨_, rfl, rfl, rfl, .inl ⟨rfl, rfl⟩⟩, trivial⟩
  · intro b hb; rw [hE] at hb; simp at hb
  · intro b b' hb hb' _; simp at hb hb'; omega
theorem Copy_lost (nm : ByteArray) (bd : Int) :
    ACalls Tryz.prog 14 [obW nm bd lostS] [] (obW nm bd (.slice (some ⟨0, 0, none⟩) 0 0)) [some ⟨[], true, 5⟩] := by
  refine ACalls.enter (t := [obW nm bd (lostS), undef, undef, undef, undef, undef, undef, undef, undef]) Tryz.func14 rfl rfl fun E hE => ?_
  refine AW.seq ?_
  refine AW.region ?_
  refine AL.w rfl (OW.box (by conv => lhs; whnf) (by intro r h; cases h)) ?_
  (conv => (arg 5; try simp only [T.put, T.ev, putAt, setsT, newBlks, fillL, List.map, List.set, List.append, List.cons_append, List.nil_append, List.length, List.getElem?_cons_zero, List.getElem?_cons_succ, Nat.reduceAdd, Nat.reduceMul, Nat.zero_add, Nat.add_zero, Nat.mul_one, Nat.zero_mul, List.drop, List.take, List.toList_toArray, Value.cells, Int.reduceToNat, Int.toNat_natCast, List.getD, Option.getD, Option.map, flat, flat1, scal, if_true, ↓reduceIte]))
  (conv => (arg 6; try simp only [T.put, T.ev, putAt, setsT, newBlks, fillL, List.map, List.set, List.append, List.cons_append, List.nil_append, List.length, List.getElem?_cons_zero, List.getElem?_cons_succ, Nat.reduceAdd, Nat.reduceMul, Nat.zero_add, Nat.add_zero, Nat.mul_one, Nat.zero_mul, List.drop, List.take, List.toList_toArray, Value.cells, Int.reduceToNat, Int.toNat_natCast, List.getD, Option.getD, Option.map, flat, flat1, scal, if_true, ↓reduceIte]))
  refine AL.w rfl (OW.alloc (ty := 37) (z := [.string ⟨#[]⟩, .int .i64 0, .slice none 0 0]) (by kernel_rfl) rfl) ?_
  (conv => (arg 5; try simp only [T.put, T.ev, putAt, setsT, newBlks, fillL, List.map, List.set, List.append, List.cons_append, List.nil_append, List.length, List.getElem?_cons_zero, List.getElem?_cons_succ, Nat.reduceAdd, Nat.reduceMul, Nat.zero_add, Nat.add_zero, Nat.mul_one, Nat.zero_mul, List.drop, List.take, List.toList_toArray, Value.cells, Int.reduceToNat, Int.toNat_natCast, List.getD, Option.getD, Option.map, flat, flat1, scal, if_true, ↓reduceIte]))
  (conv => (arg 6; try simp only [T.put, T.ev, putAt, setsT, newBlks, fillL, List.map, List.set, List.append, List.cons_append, List.nil_append, List.length, List.getElem?_cons_zero, List.getElem?_cons_succ, Nat.reduceAdd, Nat.reduceMul, Nat.zero_add, Nat.add_zero, Nat.mul_one, Nat.zero_mul, List.drop, List.take, List.toList_toArray, Value.cells, Int.reduceToNat, Int.toNat_natCast, List.getD, Option.getD, Option.map, flat, flat1, scal, if_true, ↓reduceIte]))
  refine AL.nil ?_
  refine Then.n ?_
  refine AW.seq ?_
  refine AW.region ?_
  refine AL.w rfl (OW.buildSl0 (ty := 35) (z := (none, 5, true)) (by kernel_rfl)) ?_
  (conv => (arg 5; try simp only [T.put, T.ev, putAt, setsT, newBlks, fillL, List.map, List.set, List.append, List.cons_append, List.nil_append, List.length, List.getElem?_cons_zero, List.getElem?_cons_succ, Nat.reduceAdd, Nat.reduceMul, Nat.zero_add, Nat.add_zero, Nat.mul_one, Nat.zero_mul, List.drop, List.take, List.toList_toArray, Value.cells, Int.reduceToNat, Int.toNat_natCast, List.getD, Option.getD, Option.map, flat, flat1, scal, if_true, ↓reduceIte]))
  (conv => (arg 6; try simp only [T.put, T.ev, putAt, setsT, newBlks, fillL, List.map, List.set, List.append, List.cons_append, List.nil_append, List.length, List.getElem?_cons_zero, List.getElem?_cons_succ, Nat.reduceAdd, Nat.reduceMul, Nat.zero_add, Nat.add_zero, Nat.mul_one, Nat.zero_mul, List.drop, List.take, List.toList_toArray, Value.cells, Int.reduceToNat, Int.toNat_natCast, List.getD, Option.getD, Option.map, flat, flat1, scal, if_true, ↓reduceIte]))
  refine AL.q rfl (OQ.fieldA (ty := 37) (i := 2) (n := 1) (off := 2) (g := false) rfl (by kernel_rfl) (by decide)) ?_
  refine AL.q rfl (OQ.load1 (ty := 35) rfl (by kernel_rfl) (by conv => lhs; whnf)) ?_
  refine AL.q rfl (OQ.append0 (v := undef) (z := 5) (e := 25) rfl rfl (by kernel_rfl) (by kernel_rfl)) ?_
  refine AL.q rfl (OQ.fieldA (ty := 37) (i := 2) (n := 1) (off := 2) (g := false) rfl (by kernel_rfl) (by decide)) ?_
  refine AL.w rfl (OW.store (ty := 35) (n := 1) rfl (by conv => lhs; whnf) rfl rfl (by kernel_rfl) rfl rfl (by decide) rfl (Nat.le_of_ble_eq_true rfl) (by intro r h; cases h)) ?_
  (conv => (arg 5; try simp only [T.put, T.ev, putAt, setsT, newBlks, fillL, List.map, List.set, List.append, List.cons_append, List.nil_append, List.length, List.getElem?_cons_zero, List.getElem?_cons_succ, Nat.reduceAdd, Nat.reduceMul, Nat.zero_add, Nat.add_zero, Nat.mul_one, Nat.zero_mul, List.drop, List.take, List.toList_toArray, Value.cells, Int.reduceToNat, Int.toNat_natCast, List.getD, Option.getD, Option.map, flat, flat1, scal, if_true, ↓reduceIte]))
  (conv => (arg 6; try simp only [T.put, T.ev, putAt, setsT, newBlks, fillL, List.map, List.set, List.append, List.cons_append, List.nil_append, List.length, List.getElem?_cons_zero, List.getElem?_cons_succ, Nat.reduceAdd, Nat.reduceMul, Nat.zero_add, Nat.add_zero, Nat.mul_one, Nat.zero_mul, List.drop, List.take, List.toList_toArray, Value.cells, Int.reduceToNat, Int.toNat_natCast, List.getD, Option.getD, Option.map, flat, flat1, scal, if_true, ↓reduceIte]))
  refine AL.nil ?_
  refine Then.n ?_
  refine AW.seq ?_
  refine AW.region ?_
  refine AL.q rfl (OQ.loadN (ty := 37) (n := 3) rfl (by kernel_rfl) (by kernel_rfl) rfl) ?_
  refine AL.w rfl (OW.store (ty := 37) (n := 3) rfl (by conv => lhs; whnf) rfl rfl (by kernel_rfl) rfl rfl (by decide) rfl (Nat.le_of_ble_eq_true rfl) (by intro r h; cases h)) ?_
  (conv => (arg 5; try simp only [T.put, T.ev, putAt, setsT, newBlks, fillL, List.map, List.set, List.append, List.cons_append, List.nil_append, List.length, List.getElem?_cons_zero, List.getElem?_cons_succ, Nat.reduceAdd, Nat.reduceMul, Nat.zero_add, Nat.add_zero, Nat.mul_one, Nat.zero_mul, List.drop, List.take, List.toList_toArray, Value.cells, Int.reduceToNat, Int.toNat_natCast, List.getD, Option.getD, Option.map, flat, flat1, scal, if_true, ↓reduceIte]))
  (conv => (arg 6; try simp only [T.put, T.ev, putAt, setsT, newBlks, fillL, List.map, List.set, List.append, List.cons_append, List.nil_append, List.length, List.getElem?_cons_zero, List.getElem?_cons_succ, Nat.reduceAdd, Nat.reduceMul, Nat.zero_add, Nat.add_zero, Nat.mul_one, Nat.zero_mul, List.drop, List.take, List.toList_toArray, Value.cells, Int.reduceToNat, Int.toNat_natCast, List.getD, Option.getD, Option.map, flat, flat1, scal, if_true, ↓reduceIte]))
  refine AL.nil ?_
  refine Then.n ?_
  refine AW.ret ?_
  refine ⟨.inl rfl, _, fun b => 2, (.cellN (n := 3) (by conv => lhs; whnf) (by kernel_rfl) (by kernel_rfl) rfl .nil), rfl, rfl, ?_, ?_, ?_⟩
  · exact ⟨⟨_, rfl, rfl, rfl, .inl ⟨rfl, rfl⟩⟩, trivial⟩
  · intro b hb; rw [hE] at hb; simp at hb
  · intro b b' hb hb' _; simp at hb hb'; omega
theorem Copy_none (nm : ByteArray) (bd : Int) (z : Nat) :
    ACalls Tryz.prog 14 [obW nm bd (.slice (some ⟨0, 0, none⟩) 0 INF)] [some ⟨[], false, z⟩] (obW nm bd (.slice (some ⟨1, 0, none⟩) 0 0)) [some ⟨[], false, z⟩, some ⟨[], true, 5⟩] := by
  refine ACalls.enter (t := [obW nm bd (.slice (some ⟨0, 0, none⟩) 0 INF), undef, undef, undef, undef, undef, undef, undef, undef]) Tryz.func14 rfl rfl fun E hE => ?_
  refine AW.seq ?_
  refine AW.region ?_
  refine AL.w rfl (OW.box (by conv => lhs; whnf) (by intro r h; cases h)) ?_
  (conv => (arg 5; try simp only [T.put, T.ev, putAt, setsT, newBlks, fillL, List.map, List.set, List.append, List.cons_append, List.nil_append, List.length, List.getElem?_cons_zero, List.getElem?_cons_succ, Nat.reduceAdd, Nat.reduceMul, Nat.zero_add, Nat.add_zero, Nat.mul_one, Nat.zero_mul, List.drop, List.take, List.toList_toArray, Value.cells, Int.reduceToNat, Int.toNat_natCast, List.getD, Option.getD, Option.map, flat, flat1, scal, if_true, ↓reduceIte]))
  (conv => (arg 6; try simp only [T.put, T.ev, putAt, setsT, newBlks, fillL, List.map, List.set, List.append, List.cons_append, List.nil_append, List.length, List.getElem?_cons_zero, List.getElem?_cons_succ, Nat.reduceAdd, Nat.reduceMul, Nat.zero_add, Nat.add_zero, Nat.mul_one, Nat.zero_mul, List.drop, List.take, List.toList_toArray, Value.cells, Int.reduceToNat, Int.toNat_natCast, List.getD, Option.getD, Option.map, flat, flat1, scal, if_true, ↓reduceIte]))
  refine AL.w rfl (OW.alloc (ty := 37) (z := [.string ⟨#[]⟩, .int .i64 0, .slice none 0 0]) (by kernel_rfl) rfl) ?_
  (conv => (arg 5; try simp only [T.put, T.ev, putAt, setsT, newBlks, fillL, List.map, List.set, List.append, List.cons_append, List.nil_append, List.length, List.getElem?_cons_zero, List.getElem?_cons_succ, Nat.reduceAdd, Nat.reduceMul, Nat.zero_add, Nat.add_zero, Nat.mul_one, Nat.zero_mul, List.drop, List.take, List.toList_toArray, Value.cells, Int.reduceToNat, Int.toNat_natCast, List.getD, Option.getD, Option.map, flat, flat1, scal, if_true, ↓reduceIte]))
  (conv => (arg 6; try simp only [T.put, T.ev, putAt, setsT, newBlks, fillL, List.map, List.set, List.append, List.cons_append, List.nil_append, List.length, List.getElem?_cons_zero, List.getElem?_cons_succ, Nat.reduceAdd, Nat.reduceMul, Nat.zero_add, Nat.add_zero, Nat.mul_one, Nat.zero_mul, List.drop, List.take, List.toList_toArray, Value.cells, Int.reduceToNat, Int.toNat_natCast, List.getD, Option.getD, Option.map, flat, flat1, scal, if_true, ↓reduceIte]))
  refine AL.nil ?_
  refine Then.n ?_
  refine AW.seq ?_
  refine AW.region ?_
  refine AL.w rfl (OW.buildSl0 (ty := 35) (z := (none, 5, true)) (by kernel_rfl)) ?_
  (conv => (arg 5; try simp only [T.put, T.ev, putAt, setsT, newBlks, fillL, List.map, List.set, List.append, List.cons_append, List.nil_append, List.length, List.getElem?_cons_zero, List.getElem?_cons_succ, Nat.reduceAdd, Nat.reduceMul, Nat.zero_add, Nat.add_zero, Nat.mul_one, Nat.zero_mul, List.drop, List.take, List.toList_toArray, Value.cells, Int.reduceToNat, Int.toNat_natCast, List.getD, Option.getD, Option.map, flat, flat1, scal, if_true, ↓reduceIte]))
  (conv => (arg 6; try simp only [T.put, T.ev, putAt, setsT, newBlks, fillL, List.map, List.set, List.append, List.cons_append, List.nil_append, List.length, List.getElem?_cons_zero, List.getElem?_cons_succ, Nat.reduceAdd, Nat.reduceMul, Nat.zero_add, Nat.add_zero, Nat.mul_one, Nat.zero_mul, List.drop, List.take, List.toList_toArray, Value.cells, Int.reduceToNat, Int.toNat_natCast, List.getD, Option.getD, Option.map, flat, flat1, scal, if_true, ↓reduceIte]))
  refine AL.q rfl (OQ.fieldA (ty := 37) (i := 2) (n := 1) (off := 2) (g := false) rfl (by kernel_rfl) (by decide)) ?_
  refine AL.q rfl (OQ.load1 (ty := 35) rfl (by kernel_rfl) (by conv => lhs; whnf)) ?_
  refine AL.q rfl (OQ.append0 (v := undef) (z := 5) (e := 25) rfl rfl (by kernel_rfl) (by kernel_rfl)) ?_
  refine AL.q rfl (OQ.fieldA (ty := 37) (i := 2) (n := 1) (off := 2) (g := false) rfl (by kernel_rfl) (by decide)) ?_
  refine AL.w rfl (OW.store (ty := 35) (n := 1) rfl (by conv => lhs; whnf) rfl rfl (by kernel_rfl) rfl rfl (by decide) rfl (Nat.le_of_ble_eq_true rfl) (by intro r h; cases h)) ?_
  (conv => (arg 5; try simp only [T.put, T.ev, putAt, setsT, newBlks, fillL, List.map, List.set, List.append, List.cons_append, List.nil_append, List.length, List.getElem?_cons_zero, List.getElem?_cons_succ, Nat.reduceAdd, Nat.reduceMul, Nat.zero_add, Nat.add_zero, Nat.mul_one, Nat.zero_mul, List.drop, List.take, List.toList_toArray, Value.cells, Int.reduceToNat, Int.toNat_natCast, List.getD, Option.getD, Option.map, flat, flat1, scal, if_true, ↓reduceIte]))
  (conv => (arg 6; try simp only [T.put, T.ev, putAt, setsT, newBlks, fillL, List.map, List.set, List.append, List.cons_append, List.nil_append, List.length, List.getElem?_cons_zero, List.getElem?_cons_succ, Nat.reduceAdd, Nat.reduceMul, Nat.zero_add, Nat.add_zero, Nat.mul_one, Nat.zero_mul, List.drop, List.take, List.toList_toArray, Value.cells, Int.reduceToNat, Int.toNat_natCast, List.getD, Option.getD, Option.map, flat, flat1, scal, if_true, ↓reduceIte]))
  refine AL.nil ?_
  refine Then.n ?_
  refine AW.seq ?_
  refine AW.region ?_
  refine AL.q rfl (OQ.loadN (ty := 37) (n := 3) rfl (by kernel_rfl) (by kernel_rfl) rfl) ?_
  refine AL.w rfl (OW.store (ty := 37) (n := 3) rfl (by conv => lhs; whnf) rfl rfl (by kernel_rfl) rfl rfl (by decide) rfl (Nat.le_of_ble_eq_true rfl) (by intro r h; cases h)) ?_
  (conv => (arg 5; try simp only [T.put, T.ev, putAt, setsT, newBlks, fillL, List.map, List.set, List.append, List.cons_append, List.nil_append, List.length, List.getElem?_cons_zero, List.getElem?_cons_succ, Nat.reduceAdd, Nat.reduceMul, Nat.zero_add, Nat.add_zero, Nat.mul_one, Nat.zero_mul, List.drop, List.take, List.toList_toArray, Value.cells, Int.reduceToNat, Int.toNat_natCast, List.getD, Option.getD, Option.map, flat, flat1, scal, if_true, ↓reduceIte]))
  (conv => (arg 6; try simp only [T.put, T.ev, putAt, setsT, newBlks, fillL, List.map, List.set, List.append, List.cons_append, List.nil_append, List.length, List.getElem?_cons_zero, List.getElem?_cons_succ, Nat.reduceAdd, Nat.reduceMul, Nat.zero_add, Nat.add_zero, Nat.mul_one, Nat.zero_mul, List.drop, List.take, List.toList_toArray, Value.cells, Int.reduceToNat, Int.toNat_natCast, List.getD, Option.getD, Option.map, flat, flat1, scal, if_true, ↓reduceIte]))
  refine AL.nil ?_
  refine Then.n ?_
  refine AW.ret ?_
  refine ⟨.inl rfl, _, fun b => if b = 0 then 0 else 3, (.cellN (n := 3) (by conv => lhs; whnf) (by kernel_rfl) (by kernel_rfl) rfl .nil), rfl, rfl, ?_, ?_, ?_⟩
  · exact ⟨⟨_, rfl, rfl, rfl, .inl ⟨rfl, rfl⟩⟩, ⟨_, rfl, rfl, rfl, .inl ⟨rfl, rfl⟩⟩, trivial⟩
  · intro b hb; rw [hE] at hb; simp at hb; subst hb; exact ⟨by simp, rfl⟩
  · intro b b' hb hb' he; simp at hb hb'; match b, b', hb, hb' with | 0, 0, _, _ => rfl | 0, 1, _, _ => simp at he | 1, 0, _, _ => simp at he | 1, 1, _, _ => rfl

/-- The copy of any orbit. -/
theorem Copy_q {m : Mem} {v : Value} {l : List St} (nm : ByteArray) (bd : Int) (hS : SlB m v l) (hl : l.length ≤ 1000) :
    ACalls Tryz.prog 14 [obW nm bd v] m (obW nm bd (.slice (some ⟨m.length, 0, none⟩) l.length INF)) (m ++ [some ⟨flatS l, true, 5⟩]) := by
  cases hS with
  | blk i k e hb hc =>
    subst e
    rcases Nat.eq_zero_or_pos l.length with h0 | h0
    · have : l = [] := List.eq_nil_of_length_eq_zero h0
      subst this
      have h1 := ACalls.via1 (v := obW nm bd (.slice (some ⟨m.length, 0, none⟩) 0 0)) hb hc rfl rfl (Copy_none nm bd) rfl rfl (by simp [rn3, rn2, rn1, τn]) rfl
      exact ACalls.weak h1 fun ρ v' h => obW_inf h
    · exact Copy_p nm bd l hb hc rfl h0 hl
  | nil hl e =>
    subst e
    subst hl
    have h1 := ACalls.via0 (m := m) (v := obW nm bd (.slice (some ⟨m.length, 0, none⟩) 0 0)) rfl (Copy_nil nm bd) rfl rfl (by simp [rn3, rn2, rn1, τn]) rfl
    exact ACalls.weak h1 fun ρ v' h => obW_inf h
  | lost hl e =>
    subst e
    subst hl
    have h1 := ACalls.via0 (m := m) (v := obW nm bd (.slice (some ⟨m.length, 0, none⟩) 0 0)) rfl (Copy_lost nm bd) rfl rfl (by simp [rn3, rn2, rn1, τn]) rfl
    exact ACalls.weak h1 fun ρ v' h => obW_inf h
end Go.Proofs.YthhhkjbhhjcjoaaGreatDoor
