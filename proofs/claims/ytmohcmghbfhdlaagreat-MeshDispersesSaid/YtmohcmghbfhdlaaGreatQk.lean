/- MeshDisperses: scatterers that lie in memory, in a small memory of their own. -/
import Derived.Test.YtmohcmghbfhdlaaGreatQj
import Derived.Test.YtmohcmghbfhdlaaGreatQi
import Derived.Test.YtmohcmghbfhdlaaGreatQd
import Derived.Test.YtmohcmghbfhdlaaGreatQh
section
set_option linter.unusedSimpArgs false
set_option linter.unusedVariables false
section
namespace Go.Me
open Go.Ab Go.Ls Go.RowKit
def amF (A : Nat → List Int) (q i : Nat) : List Int := if i < q then A i else []
def scL (X : Nat → Pn) (am : Nat → Option Addr) (A : Nat → List Int) (q : Nat) : List Sc := (List.range q).map fun i => (X i, vaX (i + 1) (A i).length (am i).isNone)
def memN (N : Nat) (S : List Sc) (A : Nat → List Int) : Mem := some ⟨flatS S, false, 0⟩ :: (List.range N).map fun i => some ⟨flatN (A i), false, 0⟩
def plO (a : Option Addr) : Option Pl := a.map fun x => ⟨x.block, x.off, 0, 0⟩
def plS (N q : Nat) (a : Option Addr) (am : Nat → Option Addr) (A : Nat → List Int) : Ab.Ren
 | 0 => plO a
 | b + 1 => if b < N then (if b < q ∧ flatN (A b) ≠ [] then plX (am b) (flatN (A b)) else plO a) else none
theorem scL_len (X : Nat → Pn) (am : Nat → Option Addr) (A : Nat → List Int) (q : Nat) : (scL X am A q).length = q := by
 unfold scL
 rw [List.length_map, List.length_range]
theorem scL_at {X : Nat → Pn} {am : Nat → Option Addr} {A : Nat → List Int} {q k : Nat} (h : k < q) (d : Sc) : (scL X am A q).getD k d = (X k, vaX (k + 1) (A k).length (am k).isNone) := by
 unfold scL
 rw [List.getD_eq_getElem?_getD, List.getElem?_map, List.getElem?_range h]
 rfl
theorem memN_at {N : Nat} {S : List Sc} {A : Nat → List Int} {b : Nat} {blk : Blk} (h : (memN N S A).at b = some blk) : (b = 0 ∧ blk = ⟨flatS S, false, 0⟩) ∨ ∃ i, b = i + 1 ∧ i < N ∧ blk = ⟨flatN (A i), false, 0⟩ := by
 unfold memN Mem.at at h
 cases b with
 | zero => exact .inl ⟨rfl, by simpa using h.symm⟩
 | succ i =>
  right
  rw [List.getD_eq_getElem?_getD, List.getElem?_cons_succ, List.getElem?_map] at h
  by_cases hi : i < N
  ·rw [List.getElem?_range hi] at h
   exact ⟨i, rfl, hi, by simpa using h.symm⟩
  ·rw [List.getElem?_eq_none (by simpa using hi)] at h
   cases h
theorem brel_at {ρ : Ab.Ren} {w : World} {b off : Nat} {cs : List Value} {v0 : Value} (h0 : w.cell? ⟨b, off, none⟩ = some v0) (h : ∀ i v, cs[i]? = some v → ∃ v', w.cell? ⟨b, off + i, none⟩ = some v' ∧ VRel ρ v v') : BRel ρ ⟨cs, false, 0⟩ ⟨b, off, 0, 0⟩ w := by
 simp only [World.cell?] at h0
 cases ho : w.heap[b]? with
 | none => rw [ho] at h0; simp at h0
 | some o =>
  cases o with
  | cells c ty fr =>
   refine ⟨_, c, ty, fr, ho, rfl, rfl, fun i v hv => ?_, fun h => by cases h⟩
   obtain ⟨v', h1, h2⟩ := h i v hv
   simp only [World.cell?, ho] at h1
   exact ⟨v', by simpa [Nat.add_comm] using h1, h2⟩
  | _ => rw [ho] at h0; simp at h0
theorem vaX_rel2 {w : World} {ρ : Ab.Ren} {i n : Nat} {a : Option Addr} {cs : List Value} {cap : Nat} (hS : SlX w a cs) (hn : cs = [] ↔ n = 0) (hc : n ≤ cap) (hz : a = none → cap = 0) (hρ : cs ≠ [] → ρ i = plX a cs) : VRel ρ (vaX i n a.isNone) (.slice a n cap) := by
 by_cases hl : n = 0
 ·unfold vaX
  rw [if_pos hl]
  subst hl
  cases a with
  | none => rw [hz rfl]; exact .scal rfl
  | some a => exact .lost
 ·exact vaX_rel hS hn hc hz (hρ fun h => hl (hn.1 h))
theorem flatN_nl (xs : List Int) : flatN xs = [] ↔ xs.length = 0 := by
 unfold flatN
 rw [List.map_eq_nil_iff, List.length_eq_zero_iff]
theorem mrelS {w : World} {a : Option Addr} {n cap : Nat} {X : Nat → Pn} {am : Nat → Option Addr} {A : Nat → List Int} {C : Nat → Nat} (h : ScX w a n cap X am A C) (hn : 0 < n) (q N : Nat) (hq : q ≤ n) (hN : q ≤ N) :
  MRel (plS N q a am A) (memN N (scL X am A q) (amF A q)) w := by
 obtain ⟨b0, off, rfl, hb0, hrow⟩ := h.row hn
 have h0 := (hrow 0 hn).1
 intro b blk hb
 rcases memN_at hb with ⟨rfl, rfl⟩ | ⟨i, rfl, hi, rfl⟩
 ·refine ⟨⟨b0, off, 0, 0⟩, rfl, brel_at (v0 := .int .i64 (X 0).x) (by simpa using h0) fun i v hv => ?_, fun ho => by cases ho⟩
  have hlt := (List.getElem?_eq_some_iff.1 hv).1
  have hl3 : (flatS (scL X am A q)).length = q * 3 := (flat_len scC 3 (fun _ => rfl) _).trans (by rw [scL_len])
  rw [hl3] at hlt
  have hm : i % 3 < 3 := Nat.mod_lt _ (by decide)
  have hd : i / 3 < q := by omega
  have e0 : i / 3 * 3 + i % 3 = i := by omega
  have hg := flat_get scC 3 (fun _ => rfl) (⟨0, 0⟩, .slice none 0 0) (scL X am A q) (i / 3) (i % 3) hm (by rw [scL_len]; exact hd)
  rw [e0, scL_at hd] at hg
  have hv : (scC (X (i / 3), vaX (i / 3 + 1) (A (i / 3)).length (am (i / 3)).isNone))[i % 3]? = some v := hg.symm.trans hv
  obtain ⟨r0, r1, r2⟩ := hrow (i / 3) (by omega)
  obtain ⟨k1, k2, k3, k4⟩ := h.ins (i / 3) (by omega)
  have hc : i % 3 = 0 ∨ i % 3 = 1 ∨ i % 3 = 2 := by omega
  rcases hc with hc | hc | hc
  ·rw [hc] at hv
   cases hv
   exact ⟨_, by rw [← r0]; congr 2; omega, .scal rfl⟩
  ·rw [hc] at hv
   cases hv
   exact ⟨_, by rw [← r1]; congr 2; omega, .scal rfl⟩
  ·rw [hc] at hv
   cases hv
   refine ⟨_, by rw [← r2]; congr 2; omega, vaX_rel2 k3 (flatN_nl _) k1 k4 fun hne => ?_⟩
   show (if i / 3 < N then (if i / 3 < q ∧ flatN (A (i / 3)) ≠ [] then plX (am (i / 3)) (flatN (A (i / 3))) else _) else none) = _
   rw [if_pos (by omega), if_pos ⟨hd, hne⟩]
 ·by_cases hc : i < q ∧ flatN (A i) ≠ []
  ·have hA : amF A q i = A i := if_pos hc.1
   have hp : plS N q (some ⟨b0, off, none⟩) am A (i + 1) = plX (am i) (flatN (A i)) := by
    show (if i < N then (if i < q ∧ flatN (A i) ≠ [] then plX (am i) (flatN (A i)) else _) else none) = _
    rw [if_pos hi, if_pos hc]
   obtain ⟨pl, g1, g2⟩ := blX_rel (ρ := plS N q (some ⟨b0, off, none⟩) am A) (i := i + 1) (flatN_scal (A i)) (h.ins i (by omega)).2.2.1 hp (if_neg hc.2)
   rw [hA]
   exact ⟨pl, g1, g2, fun ho => by cases ho⟩
  ·have hA : flatN (amF A q i) = [] := by
    unfold amF
    split
    ·exact Classical.byContradiction fun h => hc ⟨‹_›, h⟩
    ·rfl
   have hp : plS N q (some ⟨b0, off, none⟩) am A (i + 1) = some ⟨b0, off, 0, 0⟩ := by
    show (if i < N then (if i < q ∧ flatN (A i) ≠ [] then plX (am i) (flatN (A i)) else _) else none) = _
    rw [if_pos hi, if_neg hc]
    rfl
   rw [hA]
   exact ⟨_, hp, brel_at (v0 := .int .i64 (X 0).x) (by simpa using h0) fun i v hv => by simp at hv, fun ho => by cases ho⟩
theorem glueS {P : Program} {f : FuncId} {args : List Value} {vals : Array Value} {w : World} {a : Option Addr} {n cap : Nat} {X : Nat → Pn} {am : Nat → Option Addr} {A : Nat → List Int} {C : Nat → Nat} (h : ScX w a n cap X am A C) (hn : 0 < n) (q N : Nat) (hq : q ≤ n) (hN : q ≤ N)
  (hv : VRel (plS N q a am A) (.tuple args.toArray) (.tuple vals)) (hc : PCalls P f args (memN N (scL X am A q) (amF A q)) (.bool true)) : Calls P f vals w fun e w' => e = .returned (.bool true) ∧ Below w.heap.size w w' := by
 refine (hc (plS N q a am A) _ w (fun b pl hb => ?_) hv (mrelS h hn q N hq hN)).mono fun e w' ⟨v', he, hr, hb⟩ => ⟨by rw [he, hr.bool], hb.below⟩
 unfold memN
 rw [List.length_cons, List.length_map, List.length_range]
 cases b with
 | zero => omega
 | succ b =>
  have hb : (if b < N then (if b < q ∧ flatN (A b) ≠ [] then plX (am b) (flatN (A b)) else plO a) else none) = some pl := hb
  by_cases hi : b < N
  ·omega
  ·rw [if_neg hi] at hb
   cases hb
theorem argS {w : World} {a : Option Addr} {n cap : Nat} {X : Nat → Pn} {am : Nat → Option Addr} {A : Nat → List Int} {C : Nat → Nat} (h : ScX w a n cap X am A C) (hn : 0 < n) (q N : Nat) : VRel (plS N q a am A) (.slice (some ⟨0, 0, none⟩) n INF) (.slice a n cap) := by
 obtain ⟨b0, off, rfl, _⟩ := h.row hn
 have := VRel.slice (ρ := plS N q (some ⟨b0, off, none⟩) am A) (b := 0) (o := 0) (n := n) (c := INF) (c' := cap) (pl := ⟨b0, off, 0, 0⟩) rfl h.le (fun h => absurd h (by decide)) (fun h => absurd rfl h)
 simpa using this
end Go.Me
end
end
/- MeshDisperses: the choice of no scatterers, and of too many. -/
section
set_option linter.unusedSimpArgs false
set_option linter.unusedVariables false
section
namespace Go.Proofs.YtmohcmghbfhdlaaGreat
open Go Go.RowKit Go.Ab Go.Me
set_option maxRecDepth 100000
set_option maxHeartbeats 4000000
attribute [local irreducible] OQ OW AL AW AF SW
theorem rChosen_n (xa : Option Addr) (u d : Int) (hu : -9223372036854775808 ≤ u ∧ u ≤ 9223372036854775807) (hd : -9223372036854775808 ≤ d ∧ d ≤ 9223372036854775807) :
  PCalls Tryz.prog 52 [.slice xa 0 0, .agg #[.int .i64 u, .int .i64 d]] [] (.tuple #[.slice none 0 0, .int .i64 (frX u d)]) := by
 have hB := rIsLowest_q u d hu hd
 have hW := rWithin_q u 0 1000000000
 have hb1 : decide (0 < d ∧ Int.gcd u d = 1) = false → frX u d = 3 := fun h => if_neg (of_decide_eq_false h)
 have hb2 : decide (0 < d ∧ Int.gcd u d = 1) = true → ¬ ((0 ≤ u ∧ u ≤ 1000000000) ∧ d ≤ 1000000000) → frX u d = 2 := fun h h2 => (if_pos (of_decide_eq_true h)).trans (if_neg h2)
 have hb3 : decide (0 < d ∧ Int.gcd u d = 1) = true → ((0 ≤ u ∧ u ≤ 1000000000) ∧ d ≤ 1000000000) → frX u d = 0 := fun h h2 => (if_pos (of_decide_eq_true h)).trans (if_pos h2)
 generalize decide (0 < d ∧ Int.gcd u d = 1) = B1 at *
 have hw1 : rgB u 0 1000000000 = true → 0 ≤ u ∧ u ≤ 1000000000 := rgB_true.1
 have hw2 : rgB u 0 1000000000 = false → ¬ (0 ≤ u ∧ u ≤ 1000000000) := fun h h2 => by
  rw [rgB_true.2 h2] at h
  cases h
 generalize rgB u 0 1000000000 = B2 at *
 generalize frX u d = FX at *
 refine PCalls.en 82 Tryz.func52 rfl (ro0) rfl (fun E => ?_)
 repeat' (first | with_reducible (first | refine Then.n ?_ | refine Then.r ?_ | refine Then.x ?_ | refine InB.n ?_ | refine InB.r ?_ | refine InB.hit ?_ | refine InB.miss (by decide) ?_) | ((with_reducible refine AL.on ?_); first | (refine AL.gd rfl ?_; first | (refine AL.gskip rfl rfl ?_; refine AL.nm ?_) | (refine AL.gs1 rfl rfl (fun hc => ?_) (fun hc => ?_) <;> (try replace hc := nc hc) <;> first | (exfalso; first | contradiction | (first | omega | (simp at hc; done)); done) | refine AL.nm ?_) | (refine AL.gs0 rfl rfl (fun hc => ?_) (fun hc => ?_) <;> (try replace hc := nc hc) <;> first | (exfalso; first | contradiction | (first | omega | (simp at hc; done)); done) | refine AL.nm ?_)) | ((first | ((with_reducible refine AL.k_assign ?_); first | refine AL.as ?_) | ((with_reducible refine AL.k_move ?_); first | refine AL.mv ?_) | ((with_reducible refine AL.k_call ?_); first | refine AL.g (OQ.lenS (xt := 77) (r := (none, 3, true)) rfl kr) ?_) | ((with_reducible refine AL.k_load ?_); first | refine AL.g (OQ.loadN (ty := 65) (n := 2) rfl kr kr rfl) ?_ | (refine AL.g (OQ.load1 (ty := 26) rfl kr wl) ?_) | refine AL.g (OQ.loadN (ty := 79) (n := 2) rfl kr kr rfl) ?_ | (refine AL.g (OQ.load1 (ty := 3) rfl kr wl) ?_)) | ((with_reducible refine AL.k_binOp ?_); first | refine AL.g (OQ.gtr rfl rfl) ?_ | refine AL.g (OQ.lss rfl rfl) ?_ | refine AL.g (OQ.neq rfl rfl) ?_ | refine AL.g (OQ.addi rfl rfl (by omega)) ?_ | refine AL.g (OQ.add rfl rfl) ?_ | refine AL.g (OQ.leq rfl rfl) ?_) | ((with_reducible refine AL.k_fieldAddr ?_); first | refine AL.g (OQ.fieldA (ty := 81) (i := 0) (n := 2) (off := 0) (g := true) rfl kr (by decide)) ?_ | refine AL.g (OQ.fieldA (ty := 81) (i := 1) (n := 1) (off := 2) (g := false) rfl kr (by decide)) ?_ | refine AL.g (OQ.fieldA (ty := 79) (i := 0) (n := 1) (off := 0) (g := false) rfl kr (by decide)) ?_ | refine AL.g (OQ.fieldA (ty := 79) (i := 1) (n := 1) (off := 1) (g := false) rfl kr (by decide)) ?_) | ((with_reducible refine AL.k_indexAddr ?_); first | refine AL.g (OQ.idxAddr (ty := 77) (z := 3) (g := true) rfl rfl kr (by omega) (by omega)) ?_ | refine AL.g (OQ.idxPtr (ty := 52) (n := 1) (l := 2) (g := false) rfl rfl kr (by omega) (by omega)) ?_) | ((with_reducible refine AL.k_unOp ?_); first | refine AL.g (OQ.not rfl) ?_) | ((with_reducible refine AL.k_pick ?_); first | refine AL.pT ?_ | refine AL.pF ?_)); refine AL.nm ?_) | ((first | first | refine AL.pcall (g := 100) rfl kr rfl (rfl) ?_ | refine AL.pcall (g := 49) rfl kr rfl (rfl) ?_ | refine AL.pcall (g := 101) rfl kr rfl (hB _) ?_ | refine AL.pcall (g := 69) rfl kr rfl (hW _) ?_ | refine AL.pcall (g := 50) rfl kr rfl (rfl) ?_ | refine AL.pcall (g := 102) rfl kr rfl (rfl) ?_); refine AL.nm ?_) | ((first | ((with_reducible refine AL.k_call ?_); first | refine AL.w rfl (by first | exact OW.appendNil (e := 65) (z := 2) (zs := [.int .i64 0, .int .i64 0]) (by' := 16) rfl rfl kr kr kr rfl kr (by decide) rfl (by decide) (by decide) | exact OW.appendL (e := 65) (z := 2) (zs := [.int .i64 0, .int .i64 0]) (by' := 16) rfl rfl kr kr kr rfl kr (by decide) rfl rfl rfl (by decide) (by omega) rfl rfl (by omega) (by omega)) ?_ | refine AL.w rfl (by first | exact OW.appendNil (e := 3) (z := 1) (zs := [.int .i64 0]) (by' := 8) rfl rfl kr kr kr rfl kr (by decide) rfl (by decide) (by decide) | exact OW.appendL (e := 3) (z := 1) (zs := [.int .i64 0]) (by' := 8) rfl rfl kr kr kr rfl kr (by decide) rfl rfl rfl (by decide) (by omega) rfl rfl (by omega) (by omega)) ?_) | ((with_reducible refine AL.k_buildSlice ?_); first | refine AL.w rfl (OW.buildSl (ty := 22) (zs := [.int .i64 0, .int .i64 0]) (n := 2) (g := true) kr kr rfl rfl rfl (by decide) (by decide) rfl rfl) ?_ | refine AL.w rfl (OW.buildSl (ty := 26) (zs := [.int .i64 0]) (n := 1) (g := false) kr kr rfl rfl rfl (by decide) (by decide) rfl rfl) ?_) | ((with_reducible refine AL.k_box ?_); first | refine AL.bx ?_) | ((with_reducible refine AL.k_alloc ?_); first | refine AL.w rfl (OW.alloc (ty := 52) (z := [.int .i64 0, .int .i64 0]) kr rfl) ?_) | ((with_reducible refine AL.k_store ?_); first | (refine AL.w rfl (OW.store (ty := 52) (n := 2) rfl wl rfl rfl kr rfl rfl (by decide) rfl (Nat.le_of_ble_eq_true rfl) (by intro r h; cases h)) ?_))); refine AL.nm ?_; refine AL.nM ?_) | (refine AL.bs rfl (fun hc => ?_) (fun hc => ?_) <;> (fail_if_success (with_reducible exact lit_no hc)) <;> (try replace hc := nc hc) <;> first | (exfalso; first | contradiction | (first | omega | (simp at hc; done)); done) | refine AL.nm ?_) | refine AL.nil ?_) | ((with_reducible refine AW.on ?_); first | refine AW.seq ?_ | refine AW.skip ?_ | refine AW.exit ?_ | refine AW.ret ?_ | (refine AW.block (id := 0) ?_; refine AW.unroll 1 ?_) | (refine AW.block (id := 2) ?_; refine AW.unroll 1 ?_) | refine AW.block ?_ | refine AW.region ?_ | (refine AW.conds rfl (fun hc => ?_) (fun hc => ?_) <;> (try replace hc := nc hc) <;> first | (exfalso; first | contradiction | (first | omega | (simp at hc; done)); done) | skip)) | with_reducible refine AR.s ?_ | ((with_reducible refine AR.out ?_); first | omega | (simp at hc; done); done) | ((with_reducible refine FinP.on ?_); (first | refine FinP.ret (.tmp wl (.tmp wl .nil)) ?_ rfl | refine FinP.end (.tmp wl (.tmp wl .nil)) ?_ rfl); (try simp only [pack, List.drop, List.take]); all_goals (first | (have q := hb1 (by assumption); rw [q]) | (have w3 := hw2 (by assumption); have q := hb2 (by assumption) (fun h => w3 h.1); rw [q]) | (have w3 : 1000000000 < d := (by omega); have q := hb2 (by assumption) (by omega); rw [q]) | (have w3 := hw1 (by assumption); have q := hb3 (by assumption) ⟨w3, by omega⟩; rw [q]))))
theorem Chosen_n (u d : Int) (hu : -9223372036854775808 ≤ u ∧ u ≤ 9223372036854775807) (hd : -9223372036854775808 ≤ d ∧ d ≤ 9223372036854775807) :
  PCalls Tryz.prog 51 [.slice none 0 0, .agg #[.int .i64 u, .int .i64 d]] [] (.tuple #[.slice none 0 0, .int .i64 (frX u d)]) := by
 have hB := divisor_g u d hu hd
 have hgc := dvI_gcd d.natAbs u d (Nat.le_refl _)
 have hW := within_q u 0 1000000000
 have hb1 : d ≤ 0 → frX u d = 3 := fun h => if_neg (fun h2 => by omega)
 have hb1b : ¬ dvI u d = 1 → ¬ dvI u d = -1 → frX u d = 3 := fun h h2 => if_neg (fun h3 => by omega)
 have hb2 : 0 < d → (dvI u d = 1 ∨ dvI u d = -1) → ¬ ((0 ≤ u ∧ u ≤ 1000000000) ∧ d ≤ 1000000000) → frX u d = 2 := fun h h3 h2 => (if_pos ⟨h, by omega⟩).trans (if_neg h2)
 have hb3 : 0 < d → (dvI u d = 1 ∨ dvI u d = -1) → ((0 ≤ u ∧ u ≤ 1000000000) ∧ d ≤ 1000000000) → frX u d = 0 := fun h h3 h2 => (if_pos ⟨h, by omega⟩).trans (if_pos h2)
 generalize dvI u d = DV at *
 have hw1 : rgB u 0 1000000000 = true → 0 ≤ u ∧ u ≤ 1000000000 := rgB_true.1
 have hw2 : rgB u 0 1000000000 = false → ¬ (0 ≤ u ∧ u ≤ 1000000000) := fun h h2 => by
  rw [rgB_true.2 h2] at h
  cases h
 generalize rgB u 0 1000000000 = B2 at *
 generalize frX u d = FX at *
 refine PCalls.en 101 Tryz.func51 rfl (ro0) rfl (fun E => ?_)
 repeat' (first | with_reducible (first | refine Then.n ?_ | refine Then.r ?_ | refine Then.x ?_ | refine InB.n ?_ | refine InB.r ?_ | refine InB.hit ?_ | refine InB.miss (by decide) ?_) | ((with_reducible refine AL.on ?_); first | (refine AL.gd rfl ?_; first | (refine AL.gskip rfl rfl ?_; refine AL.nm ?_) | (refine AL.gs1 rfl rfl (fun hc => ?_) (fun hc => ?_) <;> (try replace hc := nc hc) <;> first | (exfalso; first | contradiction | (first | omega | (simp at hc; done)); done) | refine AL.nm ?_) | (refine AL.gs0 rfl rfl (fun hc => ?_) (fun hc => ?_) <;> (try replace hc := nc hc) <;> first | (exfalso; first | contradiction | (first | omega | (simp at hc; done)); done) | refine AL.nm ?_)) | ((first | ((with_reducible refine AL.k_assign ?_); first | refine AL.as ?_) | ((with_reducible refine AL.k_move ?_); first | refine AL.mv ?_) | ((with_reducible refine AL.k_load ?_); first | refine AL.g (OQ.loadN (ty := 81) (n := 3) rfl kr kr rfl) ?_ | refine AL.g (OQ.loadN (ty := 65) (n := 2) rfl kr kr rfl) ?_ | (refine AL.g (OQ.load1 (ty := 26) rfl kr wl) ?_) | (refine AL.g (OQ.load1 (ty := 3) rfl kr wl) ?_) | refine AL.g (OQ.loadN (ty := 52) (n := 2) rfl kr kr rfl) ?_) | ((with_reducible refine AL.k_call ?_); first | refine AL.g (OQ.lenS (xt := 77) (r := (none, 3, true)) rfl kr) ?_ | refine AL.g (OQ.lenS (xt := 45) (r := (none, 2, true)) rfl kr) ?_) | ((with_reducible refine AL.k_binOp ?_); first | refine AL.g (OQ.gtr rfl rfl) ?_ | refine AL.g (OQ.lss rfl rfl) ?_ | refine AL.g (OQ.neq rfl rfl) ?_ | refine AL.g (OQ.addi rfl rfl (by omega)) ?_ | refine AL.g (OQ.add rfl rfl) ?_ | refine AL.g (OQ.leq rfl rfl) ?_) | ((with_reducible refine AL.k_fieldAddr ?_); first | refine AL.g (OQ.fieldA (ty := 81) (i := 0) (n := 2) (off := 0) (g := true) rfl kr (by decide)) ?_ | refine AL.g (OQ.fieldA (ty := 81) (i := 1) (n := 1) (off := 2) (g := false) rfl kr (by decide)) ?_ | refine AL.g (OQ.fieldA (ty := 79) (i := 0) (n := 1) (off := 0) (g := false) rfl kr (by decide)) ?_ | refine AL.g (OQ.fieldA (ty := 79) (i := 1) (n := 1) (off := 1) (g := false) rfl kr (by decide)) ?_) | ((with_reducible refine AL.k_indexAddr ?_); first | refine AL.g (OQ.idxAddr (ty := 77) (z := 3) (g := true) rfl rfl kr (by omega) (by omega)) ?_ | refine AL.g (OQ.idxAddr (ty := 45) (z := 2) (g := true) rfl rfl kr (by omega) (by omega)) ?_ | refine AL.g (OQ.idxPtr (ty := 52) (n := 1) (l := 2) (g := false) rfl rfl kr (by omega) (by omega)) ?_) | ((with_reducible refine AL.k_pick ?_); first | refine AL.pT ?_ | refine AL.pF ?_) | ((with_reducible refine AL.k_extract ?_); first | refine AL.et ?_) | ((with_reducible refine AL.k_unOp ?_); first | refine AL.g (OQ.not rfl) ?_)); refine AL.nm ?_) | ((first | first | refine AL.pcall (g := 97) rfl kr rfl (rfl) ?_ | refine AL.pcall (g := 98) rfl kr rfl (rfl) ?_ | refine AL.pcall (g := 48) rfl kr rfl (rfl) ?_ | refine AL.pcall (g := 95) rfl kr rfl (hB _) ?_ | refine AL.pcall (g := 89) rfl kr rfl (hW _) ?_ | refine AL.pcall (g := 99) rfl kr rfl (rfl) ?_); refine AL.nm ?_) | ((first | ((with_reducible refine AL.k_call ?_); first | refine AL.w rfl (by first | exact OW.appendNil (e := 52) (z := 2) (zs := [.int .i64 0, .int .i64 0]) (by' := 16) rfl rfl kr kr kr rfl kr (by decide) rfl (by decide) (by decide) | exact OW.appendL (e := 52) (z := 2) (zs := [.int .i64 0, .int .i64 0]) (by' := 16) rfl rfl kr kr kr rfl kr (by decide) rfl rfl rfl (by decide) (by omega) rfl rfl (by omega) (by omega)) ?_ | refine AL.w rfl (by first | exact OW.appendNil (e := 3) (z := 1) (zs := [.int .i64 0]) (by' := 8) rfl rfl kr kr kr rfl kr (by decide) rfl (by decide) (by decide) | exact OW.appendL (e := 3) (z := 1) (zs := [.int .i64 0]) (by' := 8) rfl rfl kr kr kr rfl kr (by decide) rfl rfl rfl (by decide) (by omega) rfl rfl (by omega) (by omega)) ?_) | ((with_reducible refine AL.k_buildSlice ?_); first | refine AL.w rfl (OW.buildSl (ty := 22) (zs := [.int .i64 0, .int .i64 0]) (n := 2) (g := true) kr kr rfl rfl rfl (by decide) (by decide) rfl rfl) ?_ | refine AL.w rfl (OW.buildSl (ty := 26) (zs := [.int .i64 0]) (n := 1) (g := false) kr kr rfl rfl rfl (by decide) (by decide) rfl rfl) ?_) | ((with_reducible refine AL.k_alloc ?_); first | refine AL.w rfl (OW.alloc (ty := 81) (z := [.int .i64 0, .int .i64 0, .slice none 0 0]) kr rfl) ?_ | refine AL.w rfl (OW.alloc (ty := 52) (z := [.int .i64 0, .int .i64 0]) kr rfl) ?_) | ((with_reducible refine AL.k_store ?_); first | (refine AL.w rfl (OW.store (ty := 81) (n := 3) rfl wl rfl rfl kr rfl rfl (by decide) rfl (Nat.le_of_ble_eq_true rfl) (by intro r h; cases h)) ?_) | (refine AL.w rfl (OW.store (ty := 52) (n := 2) rfl wl rfl rfl kr rfl rfl (by decide) rfl (Nat.le_of_ble_eq_true rfl) (by intro r h; cases h)) ?_)) | ((with_reducible refine AL.k_box ?_); first | refine AL.bx ?_)); refine AL.nm ?_; refine AL.nM ?_) | (refine AL.bs rfl (fun hc => ?_) (fun hc => ?_) <;> (fail_if_success (with_reducible exact lit_no hc)) <;> (try replace hc := nc hc) <;> first | (exfalso; first | contradiction | (first | omega | (simp at hc; done)); done) | refine AL.nm ?_) | refine AL.nil ?_) | ((with_reducible refine AW.on ?_); first | refine AW.seq ?_ | refine AW.skip ?_ | refine AW.exit ?_ | refine AW.ret ?_ | (refine AW.block (id := 0) ?_; refine AW.unroll 1 ?_) | (refine AW.block (id := 2) ?_; refine AW.unroll 1 ?_) | refine AW.block ?_ | (refine AW.drawF (id := 16) 8 #[0, 0, 2, 6, 15, 0, 0, 64, 255, 511, 1023] kr kr ?_; (conv => (arg 8; simp only [List.take_succ_cons, List.take_zero]))) | refine AW.region ?_ | (refine AW.conds rfl (fun hc => ?_) (fun hc => ?_) <;> (try replace hc := nc hc) <;> first | (exfalso; first | contradiction | (first | omega | (simp at hc; done)); done) | skip)) | ((with_reducible refine AF.on ?_); first | ((first | ((with_reducible refine AF.k_move ?_); first | (refine AF.q 0 (SW.q (OQ.move wl) rfl) ?_)) | ((with_reducible refine AF.k_load ?_); first | refine AF.ql rfl (SW.q (OQ.loadN (ty := 65) (n := 2) rfl kr kr rfl) rfl) ?_ | refine AF.ql rfl (SW.q (OQ.loadN (ty := 52) (n := 2) rfl kr kr rfl) rfl) ?_) | ((with_reducible refine AF.k_fieldAddr ?_); first | refine AF.q 0 (SW.q (OQ.fieldA (ty := 81) (i := 0) (n := 2) (off := 0) (g := true) rfl kr (by decide)) rfl) ?_)); refine AF.nm ?_) | ((first | ((with_reducible refine AF.k_call ?_); first | refine AF.al rfl (SW.w (by first | exact OW.appendNil (e := 65) (z := 2) (zs := [.int .i64 0, .int .i64 0]) (by' := 16) rfl rfl kr kr kr rfl kr (by decide) rfl (by decide) (by decide) | exact OW.appendL (e := 65) (z := 2) (zs := [.int .i64 0, .int .i64 0]) (by' := 16) rfl rfl kr kr kr rfl kr (by decide) rfl rfl rfl (by decide) (by omega) rfl rfl (by omega) (by omega)) rfl) rfl ?_ | refine AF.n1 2 (SW.w (by first | exact OW.appendNil (e := 65) (z := 2) (zs := [.int .i64 0, .int .i64 0]) (by' := 16) rfl rfl kr kr kr rfl kr (by decide) rfl (by decide) (by decide) | exact OW.appendL (e := 65) (z := 2) (zs := [.int .i64 0, .int .i64 0]) (by' := 16) rfl rfl kr kr kr rfl kr (by decide) rfl rfl rfl (by decide) (by omega) rfl rfl (by omega) (by omega)) rfl) rfl ?_) | ((with_reducible refine AF.k_buildSlice ?_); first | refine AF.n1 0 (SW.w (OW.buildSl (ty := 22) (zs := [.int .i64 0, .int .i64 0]) (n := 2) (g := true) kr kr rfl rfl rfl (by decide) (by decide) rfl rfl) rfl) rfl ?_ | refine AF.n1 0 (SW.w (OW.buildSl (ty := 45) (zs := [.int .i64 0, .int .i64 0]) (n := 2) (g := true) kr kr rfl rfl rfl (by decide) (by decide) rfl rfl) rfl) rfl ?_)); refine AF.nm ?_; (conv => (arg 10; try tactic => exact nrmF))) | refine AF.nl ?_) | with_reducible refine AR.s ?_ | ((with_reducible refine AR.out ?_); first | omega | (simp at hc; done); done) | ((with_reducible refine FinP.on ?_); (first | refine FinP.ret (.tmp wl (.tmp wl .nil)) ?_ rfl | refine FinP.end (.tmp wl (.tmp wl .nil)) ?_ rfl); (try simp only [pack, List.drop, List.take]); all_goals (first | (have w1 : d ≤ 0 := (by omega); have q := hb1 w1; rw [q]) | (have w1 : ¬ DV = 1 := (by omega); have w2 : ¬ DV = -1 := (by omega); have q := hb1b w1 w2; rw [q]) | (have w3 := hw2 (by assumption); have w1 : 0 < d := (by omega); have w2 : DV = 1 ∨ DV = -1 := (by omega); have q := hb2 w1 w2 (fun h => w3 h.1); rw [q]) | (have w1 : 0 < d := (by omega); have w2 : DV = 1 ∨ DV = -1 := (by omega); have w3 : 1000000000 < d := (by omega); have q := hb2 w1 w2 (by omega); rw [q]) | (have w3 := hw1 (by assumption); have w1 : 0 < d := (by omega); have w2 : DV = 1 ∨ DV = -1 := (by omega); have q := hb3 w1 w2 ⟨w3, by omega⟩; rw [q]))))
end Go.Proofs.YtmohcmghbfhdlaaGreat
end
end
/- Chapter 6: triangles held against each other; the points beyond an edge. -/
section
set_option linter.unusedSimpArgs false
set_option linter.unusedVariables false
section
namespace Go.Me
open Go.Ab
def cmp3 (a b : T3) : Int := if Go.Proofs.YtmohcmghbfhdlaaGreat.cmpI a.1 b.1 ≠ 0 then Go.Proofs.YtmohcmghbfhdlaaGreat.cmpI a.1 b.1 else if Go.Proofs.YtmohcmghbfhdlaaGreat.cmpI a.2.1 b.2.1 ≠ 0 then Go.Proofs.YtmohcmghbfhdlaaGreat.cmpI a.2.1 b.2.1 else Go.Proofs.YtmohcmghbfhdlaaGreat.cmpI a.2.2 b.2.2
def rtI (l : List Pn) (a b : Nat) : Nat → Int
 | 0 => -1
 | k + 1 => if rtI l a b k ≠ -1 then rtI l a b k else if sgn (cr (pt l a) (pt l b) (pt l k)) < 0 then k else -1
theorem rtI_no {l : List Pn} {a b : Nat} : ∀ n : Nat, (∀ j, j < n → ¬ sgn (cr (pt l a) (pt l b) (pt l j)) < 0) → rtI l a b n = -1 := by
 intro n
 induction n with
 | zero => intro _; rfl
 | succ n ih =>
  intro h
  unfold rtI
  rw [if_neg (fun h2 => h2 (ih fun j hj => h j (by omega))), if_neg (h n (by omega))]
theorem rtI_yes {l : List Pn} {a b k : Nat} (hk : ∀ j, j < k → ¬ sgn (cr (pt l a) (pt l b) (pt l j)) < 0) (he : sgn (cr (pt l a) (pt l b) (pt l k)) < 0) : ∀ n : Nat, k < n → rtI l a b n = k := by
 intro n
 induction n with
 | zero => intro h; omega
 | succ n ih =>
  intro h
  rcases Nat.lt_or_eq_of_le (Nat.le_of_lt_succ h) with h | rfl
  ·have := ih h
   unfold rtI
   rw [this, if_pos (by omega)]
  ·unfold rtI
   rw [if_neg (fun h2 => h2 (rtI_no k hk)), if_pos he]
theorem rtI_bd {l : List Pn} {a b : Nat} : 0 ≤ rtI l a b l.length ↔ bdB l a b = false := by
 constructor
 ·intro h
  apply Classical.byContradiction
  intro h2
  have h3 : bdB l a b = true := by simpa using h2
  unfold bdB at h3
  rw [decide_eq_true_iff] at h3
  rw [rtI_no l.length (fun j hj => by have := h3 j hj; omega)] at h
  omega
 ·intro h
  unfold bdB at h
  rw [decide_eq_false_iff_not] at h
  apply Classical.byContradiction
  intro h2
  apply h
  intro n hn
  apply Classical.byContradiction
  intro h3
  have h4 : ∀ k, k < l.length → (∀ j, j < k → ¬ sgn (cr (pt l a) (pt l b) (pt l j)) < 0) := by
   intro k hk j hj hlt
   have : ∃ i, i < l.length ∧ sgn (cr (pt l a) (pt l b) (pt l i)) < 0 ∧ ∀ j, j < i → ¬ sgn (cr (pt l a) (pt l b) (pt l j)) < 0 := by
    induction j using Nat.strongRecOn with
    | ind j ih =>
     by_cases hex : ∃ i, i < j ∧ sgn (cr (pt l a) (pt l b) (pt l i)) < 0
     ·obtain ⟨i, h5, h6⟩ := hex
      exact ih i h5 (by omega) h6
     ·exact ⟨j, by omega, hlt, fun i hi h6 => hex ⟨i, hi, h6⟩⟩
   obtain ⟨i, h5, h6, h7⟩ := this
   rw [rtI_yes h7 h6 l.length h5] at h2
   omega
  have := rtI_yes (h4 n hn) (by omega) l.length hn
  omega
end Go.Me
namespace Go.Proofs.YtmohcmghbfhdlaaGreat
open Go Go.RowKit Go.Ab Go.Me
set_option maxRecDepth 100000
set_option maxHeartbeats 4000000
attribute [local irreducible] OQ OW AL AW AF SW
theorem Cmp3_0 (t : T3) (ts : List T3) (k c c2 z z2 : Nat) (hk : k < ts.length) (hl : ts.length ≤ 1000000) : PCalls Tryz.prog 157 [.slice (some ⟨0, 0, none⟩) 3 c, .slice (some ⟨1, k * 3, none⟩) 3 c2] [some ⟨[.int .i64 t.1, .int .i64 t.2.1, .int .i64 t.2.2], false, z⟩, some ⟨flatT ts, false, z2⟩] (.int .i64 (cmp3 t (tr ts k))) := by
 obtain ⟨g0, g1, g2⟩ := flatT_get ts k hk
 have hc2 := fun (a b : Int) (m : Mem) => Compare_q a b m
 generalize tr ts k = u at *
 have e1 : cmpI t.1 u.1 ≠ 0 → cmp3 t u = cmpI t.1 u.1 := fun h => if_pos h
 have e2 : cmpI t.1 u.1 = 0 → cmpI t.2.1 u.2.1 ≠ 0 → cmp3 t u = cmpI t.2.1 u.2.1 := fun h h2 => by unfold cmp3; rw [if_neg (fun h3 => h3 h), if_pos h2]
 have e3 : cmpI t.1 u.1 = 0 → cmpI t.2.1 u.2.1 = 0 → cmp3 t u = cmpI t.2.2 u.2.2 := fun h h2 => by unfold cmp3; rw [if_neg (fun h3 => h3 h), if_neg (fun h3 => h3 h2)]
 generalize cmp3 t u = C at *
 refine PCalls.en 34 Tryz.func157 rfl (ro2p _ _ rfl rfl) rfl (fun E => ?_)
 repeat' (first | with_reducible (first | refine Then.n ?_ | refine Then.r ?_ | refine Then.x ?_ | refine InB.n ?_ | refine InB.r ?_ | refine InB.hit ?_) | ((with_reducible refine AL.on ?_); first | ((first | refine AL.mv ?_ | refine AL.as ?_ | ((with_reducible refine AL.k_call ?_); refine AL.g (OQ.lenS (xt := 26) (r := (none, 1, false)) rfl kr) ?_) | ((with_reducible refine AL.k_binOp ?_); first | refine AL.g (OQ.lss rfl rfl) ?_ | refine AL.g (OQ.geq rfl rfl) ?_ | refine AL.g (OQ.neq rfl rfl) ?_ | refine AL.g (OQ.addi rfl rfl (by omega)) ?_) | ((with_reducible refine AL.k_load ?_); (refine AL.g (OQ.load1 (ty := 3) rfl kr (by first | (first | exact g0 | exact g1 | exact g2) | (conv => lhs; whnf))) ?_))); refine AL.nm ?_) | ((first | ((with_reducible refine AL.k_call ?_); refine AL.pcall (g := 147) rfl kr rfl (hc2 _ _ _) ?_) | ((with_reducible refine AL.k_indexAddr ?_); refine AL.g (OQ.idxAddr (ty := 26) (z := 1) (g := false) rfl rfl kr (by omega) (by omega)) ?_)); refine AL.nm ?_) | refine AL.nil ?_) | ((with_reducible refine AW.on ?_); first | refine AW.seq ?_ | refine AW.skip ?_ | refine AW.exit ?_ | refine AW.ret ?_ | (refine AW.block (id := 0) ?_; refine AW.unroll 4 ?_) | refine AW.block ?_ | refine AW.region ?_ | (refine AW.conds rfl (fun hc => ?_) (fun hc => ?_) <;> (try replace hc := nc hc) <;> first | (exfalso; contradiction) | skip)) | with_reducible refine AR.s ?_ | ((with_reducible refine FinP.on ?_); (refine FinP.ret (.tmp wl .nil) ?_ rfl); (try simp only [pack, List.drop, List.take]); all_goals (congr 1; first | exact (e1 ‹_›).symm | exact (e2 ‹_› ‹_›).symm | exact (e3 ‹_› ‹_›).symm | (rw [e3 ‹_› ‹_›]; omega))))
theorem beyond_0 (l : List Pn) (ts : List T3) (hok : ∀ k, k < l.length → (pt l k).Ok) (a b : Nat) (ha : a < l.length) (hb : b < l.length) (p : Pn) (hp : p.Ok) (c c2 z z1 z2 z3 : Nat) (hl : l.length ≤ 1000000) :
  PCalls Tryz.prog 132 [ptV p, .pointer (some ⟨2, 0, none⟩), .pointer (some ⟨3, 0, none⟩)] [some ⟨flatP l, false, z⟩, some ⟨flatT ts, false, z1⟩, some ⟨[.slice (some ⟨0, 0, none⟩) l.length c, .slice (some ⟨1, 0, none⟩) ts.length c2], false, z2⟩, some ⟨[.int .i64 a, .int .i64 b], false, z3⟩] (.bool (decide (sgn (cr (pt l a) (pt l b) p) < 0))) := by
 have hld := fun (k : Nat) (hk : k < l.length) (r : Mem) => flatP_ld (m := some ⟨flatP l, false, z⟩ :: r) (b := 0) (l := l) rfl rfl k hk
 have ht := fun (m : Mem) => turn_q (hok a ha) (hok b hb) hp m
 refine PCalls.en 17 Tryz.func132 rfl (ro4p _ _ _ _ rfl rfl rfl rfl) rfl (fun E => ?_)
 repeat' (first | with_reducible (refine Then.n ?_) | ((with_reducible refine AL.on ?_); first | ((first | refine AL.as ?_ | ((with_reducible refine AL.k_binOp ?_); refine AL.g (OQ.lss rfl rfl) ?_)); refine AL.nm ?_) | ((refine AL.pcall (g := 133) rfl kr rfl (ht _) ?_); refine AL.nm ?_) | ((refine AL.bx ?_); refine AL.nm ?_; refine AL.nM ?_) | refine AL.nil ?_) | ((with_reducible refine AW.on ?_); first | refine AW.seq ?_ | refine AW.ret ?_ | (refine AW.drawF (id := 1) 13 #[0, 1, 0, 4, 15, 31, 0, 64, 0, 256, 960, 1984, 0, 8191, 16383, 32767] kr kr ?_; (conv => (arg 8; simp only [List.take_succ_cons, List.take_zero]))) | refine AW.region ?_) | ((with_reducible refine AF.on ?_); first | ((first | ((with_reducible refine AF.k_load ?_); first | (refine AF.ql rfl (SW.q (OQ.load1 (ty := 22) rfl kr (by (conv => lhs; whnf))) rfl) ?_) | (refine AF.ql rfl (SW.q (OQ.load1 (ty := 3) rfl kr (by (conv => lhs; whnf))) rfl) ?_) | refine AF.ql rfl (SW.q (OQ.loadN (ty := 65) (n := 2) rfl kr kr (by first | (exact hld _ (by omega) _) | rfl)) rfl) ?_) | ((with_reducible refine AF.k_indexAddr ?_); first | refine AF.q 0 (SW.q (OQ.idxPtr (ty := 52) (n := 1) (l := 2) (g := false) rfl rfl kr (by omega) (by omega)) rfl) ?_ | refine AF.q 0 (SW.q (OQ.idxAddr (ty := 22) (z := 2) (g := true) rfl rfl kr (by omega) (by omega)) rfl) ?_) | ((with_reducible refine AF.k_fieldAddr ?_); refine AF.q 0 (SW.q (OQ.fieldA (ty := 25) (i := 0) (n := 1) (off := 0) (g := false) rfl kr (by decide)) rfl) ?_)); refine AF.nm ?_) | refine AF.nl ?_) | ((with_reducible refine FinP.on ?_); (refine FinP.ret (.tmp wl .nil) ?_ rfl); (try simp only [pack, List.drop, List.take]); all_goals (rfl)))
theorem IndexF_0 (l : List Pn) (ts : List T3) (hok : ∀ k, k < l.length → (pt l k).Ok) (a b : Nat) (ha : a < l.length) (hb : b < l.length) (c c2 c3 z z1 z2 z3 : Nat) (hl : l.length ≤ 1000000) :
  PCalls Tryz.prog 161 [.slice (some ⟨0, 0, none⟩) l.length c3, .func (.func 132) #[] #[.pointer (some ⟨2, 0, none⟩), .pointer (some ⟨3, 0, none⟩)]] [some ⟨flatP l, false, z⟩, some ⟨flatT ts, false, z1⟩, some ⟨[.slice (some ⟨0, 0, none⟩) l.length c, .slice (some ⟨1, 0, none⟩) ts.length c2], false, z2⟩, some ⟨[.int .i64 a, .int .i64 b], false, z3⟩] (.int .i64 (rtI l a b l.length)) := by
 have hld := fun (k : Nat) (hk : k < l.length) (r : Mem) => flatP_ld (m := some ⟨flatP l, false, z⟩ :: r) (b := 0) (l := l) rfl rfl k hk
 have hcl := fun (k : Nat) (hk : k < l.length) => beyond_0 l ts hok a b ha hb (pt l k) (hok k hk) c c2 z z1 z2 z3 hl
 have hno := rtI_no (l := l) (a := a) (b := b) l.length
 have hyes := fun (k : Nat) (h1 : k < l.length) (hj : ∀ j, j < k → ¬ sgn (cr (pt l a) (pt l b) (pt l j)) < 0) (he : sgn (cr (pt l a) (pt l b) (pt l k)) < 0) => rtI_yes hj he l.length h1
 generalize rtI l a b l.length = E0 at *
 refine PCalls.en 17 Tryz.func161 rfl (ro4p _ _ _ _ rfl rfl rfl rfl) rfl (fun E => ?_)
 repeat' (first | with_reducible (first | refine Then.n ?_ | refine Then.r ?_ | refine Then.x ?_ | refine InB.n ?_ | refine InB.r ?_ | refine InB.hit ?_) | ((with_reducible refine AL.on ?_); first | ((first | refine AL.mv ?_ | refine AL.as ?_ | ((with_reducible refine AL.k_call ?_); refine AL.g (OQ.lenS (xt := 22) (r := (none, 2, true)) rfl kr) ?_) | ((with_reducible refine AL.k_binOp ?_); first | refine AL.g (OQ.lss rfl rfl) ?_ | refine AL.g (OQ.addi rfl rfl (by omega)) ?_) | ((with_reducible refine AL.k_load ?_); refine AL.g (OQ.loadN (ty := 65) (n := 2) rfl kr kr (by (exact hld _ (by omega) _))) ?_)); refine AL.nm ?_) | ((first | ((with_reducible refine AL.k_call ?_); refine AL.pcall rfl (by kernel_rfl) rfl ((by exact hcl k (by omega))) ?_) | ((with_reducible refine AL.k_indexAddr ?_); refine AL.g (OQ.idxAddr (ty := 22) (z := 2) (g := true) rfl rfl kr (by omega) (by omega)) ?_)); refine AL.nm ?_) | refine AL.nil ?_) | ((with_reducible refine AW.on ?_); first | refine AW.seq ?_ | refine AW.skip ?_ | refine AW.exit ?_ | refine AW.ret ?_ | ((refine AW.block (id := 0) ?_); (refine AW.fk [0, 1, 7, 8] ?_); (refine AW.loop (fun n' t' m => ∃ k : Nat, n' = l.length - k ∧ k ≤ l.length ∧ (∀ j, j < k → ¬ sgn (cr (pt l a) (pt l b) (pt l j)) < 0) ∧ t' = (mtz 19 0 [(0, .slice (some ⟨0, 0, none⟩) l.length c3), (1, .func (.func 132) #[] #[.pointer (some ⟨2, 0, none⟩), .pointer (some ⟨3, 0, none⟩)]), (7, .int .i64 (l.length)), (8, .int .i64 (k))]) ∧ m = [some ⟨flatP l, false, z⟩, some ⟨flatT ts, false, z1⟩, some ⟨[.slice (some ⟨0, 0, none⟩) l.length c, .slice (some ⟨1, 0, none⟩) ts.length c2], false, z2⟩, some ⟨[.int .i64 a, .int .i64 b], false, z3⟩]) (l.length) (by exact ⟨0, rfl, Nat.zero_le _, fun j h => absurd h (by omega), rfl, rfl⟩) ?_); (rintro n' t' m ⟨k, rfl, hk, hj, rfl, rfl⟩); (refine AW.nT ?_)) | refine AW.block ?_ | refine AW.region ?_ | (refine AW.conds rfl (fun hc => ?_) (fun hc => ?_) <;> (try replace hc := nc hc) <;> skip)) | ((with_reducible refine ex_on ?_); (refine ⟨l.length - (k + 1), _, _, by omega, ?_, k + 1, rfl, by omega, fun j h => (by rcases Nat.lt_or_eq_of_le (Nat.le_of_lt_succ h) with h | rfl; (exact hj j h); (omega)), rfl, rfl⟩; exact Wk.fk [0, 1, 7, 8] rfl)) | ((with_reducible refine FinP.on ?_); (refine FinP.ret (.tmp wl .nil) ?_ rfl); (try simp only [pack, List.drop, List.take]); all_goals (symm; first | (rw [hyes k (by omega) hj (by assumption)]; done) | (obtain rfl : k = l.length := (by omega); rw [hno hj]))))
theorem ContainsF_0 (l : List Pn) (ts : List T3) (hok : ∀ k, k < l.length → (pt l k).Ok) (a b : Nat) (ha : a < l.length) (hb : b < l.length) (c c2 c3 z z1 z2 z3 : Nat) (hl : l.length ≤ 1000000) :
  PCalls Tryz.prog 131 [.slice (some ⟨0, 0, none⟩) l.length c3, .func (.func 132) #[] #[.pointer (some ⟨2, 0, none⟩), .pointer (some ⟨3, 0, none⟩)]] [some ⟨flatP l, false, z⟩, some ⟨flatT ts, false, z1⟩, some ⟨[.slice (some ⟨0, 0, none⟩) l.length c, .slice (some ⟨1, 0, none⟩) ts.length c2], false, z2⟩, some ⟨[.int .i64 a, .int .i64 b], false, z3⟩] (.bool (!bdB l a b)) := by
 have hi := IndexF_0 l ts hok a b ha hb c c2 c3 z z1 z2 z3 hl
 have hb2 := rtI_bd (l := l) (a := a) (b := b)
 have e : (!bdB l a b) = decide (0 ≤ rtI l a b l.length) := by
  cases h : bdB l a b with
  | true => rw [h] at hb2; symm; exact decide_eq_false (fun h2 => by have := hb2.1 h2; cases this)
  | false => symm; exact decide_eq_true (hb2.2 h)
 rw [e]
 generalize rtI l a b l.length = E0 at *
 refine PCalls.en 7 Tryz.func131 rfl (ro4p _ _ _ _ rfl rfl rfl rfl) rfl (fun E => ?_)
 repeat' (first | with_reducible (refine Then.n ?_) | ((with_reducible refine AL.on ?_); first | ((first | refine AL.as ?_ | refine AL.mv ?_ | ((with_reducible refine AL.k_binOp ?_); refine AL.g (OQ.geq rfl rfl) ?_)); refine AL.nm ?_) | ((refine AL.pcall (g := 161) rfl kr rfl ((by exact hi)) ?_); refine AL.nm ?_) | refine AL.nil ?_) | ((with_reducible refine AW.on ?_); first | refine AW.seq ?_ | refine AW.ret ?_ | refine AW.region ?_) | ((with_reducible refine FinP.on ?_); (refine FinP.ret (.tmp wl .nil) ?_ rfl); (try simp only [pack, List.drop, List.take]); all_goals (rfl)))
end Go.Proofs.YtmohcmghbfhdlaaGreat
end
end
/- Chapter 6: a triangle's error. -/
section
set_option linter.unusedSimpArgs false
set_option linter.unusedVariables false
section
namespace Go.Me
open Go.Ab
def inR (n : Nat) (t : T3) : Prop := (0 ≤ t.1 ∧ t.1 ≤ (n : Int) - 1) ∧ (0 ≤ t.2.1 ∧ t.2.1 ≤ (n : Int) - 1) ∧ (0 ≤ t.2.2 ∧ t.2.2 ≤ (n : Int) - 1)
instance (n : Nat) (t : T3) : Decidable (inR n t) := by unfold inR; infer_instance
def ordB (ts : List T3) (i : Nat) : Prop := (tr ts i).2.1 ≤ (tr ts i).1 ∨ (tr ts i).2.2 ≤ (tr ts i).1 ∨ (0 < i ∧ cmp3 (tr ts i) (tr ts (i - 1)) ≤ 0)
instance (ts : List T3) (i : Nat) : Decidable (ordB ts i) := by unfold ordB; infer_instance
def trS (l : List Pn) (t : T3) : Int := sgn (cr (pt l t.1.toNat) (pt l t.2.1.toNat) (pt l t.2.2.toNat))
def trE (l : List Pn) (ts : List T3) (L : List (IE × Int)) (i : Nat) : Int :=
 if inR l.length (tr ts i) then (if ordB ts i then 9 else if trS l (tr ts i) ≠ 1 then 13 else if lk L ((tr ts i).1, (tr ts i).2.1) ≠ -1 ∨ lk L ((tr ts i).2.1, (tr ts i).2.2) ≠ -1 ∨ lk L ((tr ts i).2.2, (tr ts i).1) ≠ -1 then 28 else 0) else 6
end Go.Me
namespace Go.Proofs.YtmohcmghbfhdlaaGreat
open Go Go.RowKit Go.Ab Go.Me
set_option maxRecDepth 100000
set_option maxHeartbeats 4000000
attribute [local irreducible] OQ OW AL AW AF SW
theorem Hid_mk {p : Prop} (h : p) : Hid p := h
theorem Cmp3_q {m : Mem} {b d k c c2 : Nat} {blk blk2 : Blk} (t : T3) (ts : List T3) (hk : k < ts.length) (hl : ts.length ≤ 1000000) (hb : m.at b = some blk) (hc : blk.cells = [.int .i64 t.1, .int .i64 t.2.1, .int .i64 t.2.2]) (hd : m.at d = some blk2) (hc2 : blk2.cells = flatT ts) (ho : blk.obj = Ob.plain := by rfl) (ho2 : blk2.obj = Ob.plain := by rfl) :
  PCalls Tryz.prog 157 [.slice (some ⟨b, 0, none⟩) 3 c, .slice (some ⟨d, k * 3, none⟩) 3 c2] m (.int .i64 (cmp3 t (tr ts k))) :=
 PCalls.viaS [b, d] (Cmp3_0 t ts k c c2 blk.esz blk2.esz hk hl) (ro2p _ _ rfl rfl) ⟨⟨_, hb, by unfold Blk.shp Blk.shpR; rw [ho]; rfl, (fun h => nomatch h), .inl ⟨hc, rfl⟩⟩, bS hd ho2 hc2 (flatT_scal _), trivial⟩ rfl rfl rfl rfl
abbrev mpX (L : List (IE × Int)) (own : Bool) (z : Nat) : Blk := @Blk.mk [] own z ⟨some (.map (mpE encE (lfV L)) (lfV L).length)⟩
theorem at_q {m : Mem} {bP bT bN bL n c k c2 : Nat} {A B N : Blk} {own : Bool} {z : Nat} (l : List Pn) (ts : List T3) (L : List (IE × Int)) (hn : (L.map (·.1)).Nodup) (hL : ∀ p ∈ L, okE p.1) (a b : Int) (hab : okE (a, b))
  (hP : m.at bP = some A) (hPc : A.cells = flatP l) (hT : m.at bT = some B) (hTc : B.cells = flatT ts) (hN : m.at bN = some N) (hNc : N.cells = [.slice (some ⟨bP, 0, none⟩) n c, .slice (some ⟨bT, 0, none⟩) k c2, .slice none 0 0, .map (some bL)])
  (hM : m.at bL = some (mpX L own z)) (hz : z = 0) (hPo : A.obj = Ob.plain := by rfl) (hTo : B.obj = Ob.plain := by rfl) (hNo : N.obj = Ob.plain := by rfl) :
  PCalls Tryz.prog 130 [.pointer (some ⟨bN, 0, none⟩), .int .i64 a, .int .i64 b] m (.int .i64 (lk L (a, b))) := by
 subst hz
 exact PCalls.viaS [bP, bT, bN, bL] (at_0 ⟨flatP l, false, A.esz⟩ ⟨flatT ts, false, B.esz⟩ rfl rfl n c k c2 N.esz (.slice none 0 0) L hn hL a b hab) (ro4p _ _ _ _ rfl rfl rfl rfl)
  ⟨bS hP hPo hPc (flatP_scal _), bS hT hTo hTc (flatT_scal _), bI hN hNo hNc, ⟨_, hM, rfl, (fun h => nomatch h), .inl ⟨rfl, rfl⟩⟩, trivial⟩ rfl rfl rfl rfl
theorem triangleErr_0 (l : List Pn) (ts : List T3) (L : List (IE × Int)) (hok : ∀ k, k < l.length → (pt l k).Ok) (hl : l.length ≤ 1000) (hts : ts.length ≤ 1000) (hn : (L.map (·.1)).Nodup) (hL : ∀ p ∈ L, okE p.1) (i c c2 z z1 z2 : Nat) (hi : i < ts.length) :
  PCalls Tryz.prog 127 [.pointer (some ⟨2, 0, none⟩), .int .i64 i] [some ⟨flatP l, false, z⟩, some ⟨flatT ts, false, z1⟩, some ⟨[.slice (some ⟨0, 0, none⟩) l.length c, .slice (some ⟨1, 0, none⟩) ts.length c2, .slice none 0 0, .map (some 3)], false, z2⟩, some (mpX L false 0)] (.int .i64 (trE l ts L i)) := by
 refine PCalls.strip ?_ rfl
 show PCalls _ _ _ [some ⟨flatP l, false, 0⟩, some ⟨flatT ts, false, 0⟩, some ⟨[.slice (some ⟨0, 0, none⟩) l.length c, .slice (some ⟨1, 0, none⟩) ts.length c2, .slice none 0 0, .map (some 3)], false, 0⟩, some (mpX L false 0)] _
 have hld := fun (k : Nat) (hk : k < l.length) (r : Mem) => flatP_ld (m := some ⟨flatP l, false, 0⟩ :: r) (b := 0) (l := l) rfl rfl k hk
 have hldT := fun (k : Nat) (hk : k < ts.length) (a : Option Blk) (r : Mem) => flatT_ld (m := a :: some ⟨flatT ts, false, 0⟩ :: r) (b := 1) (ts := ts) rfl rfl k hk
 have hw := fun (x : Int) (m : Mem) => within_q x 0 ((l.length : Int) - 1) m
 have hrt : ∀ {x : Int}, rgB x 0 ((l.length : Int) - 1) = true → 0 ≤ x ∧ x ≤ (l.length : Int) - 1 := fun h => rgB_true.1 h
 have hrf : ∀ {x : Int}, rgB x 0 ((l.length : Int) - 1) = false → ¬ (0 ≤ x ∧ x ≤ (l.length : Int) - 1) := fun h h2 => by rw [rgB_true.2 h2] at h; cases h
 have hcm := fun (h0 : 0 < i) (m : Mem) (b d c c2 : Nat) (blk blk2 : Blk) (h1 : m.at b = some blk) (h2 : blk.cells = [.int .i64 (tr ts i).1, .int .i64 (tr ts i).2.1, .int .i64 (tr ts i).2.2]) (h3 : m.at d = some blk2) (h4 : blk2.cells = flatT ts) (o1 : blk.obj = Ob.plain) (o2 : blk2.obj = Ob.plain) => Cmp3_q (c := c) (c2 := c2) (k := ((i : Int) - 1).toNat) (tr ts i) ts (by omega) (by omega) h1 h2 h3 h4 o1 o2
 have hat := fun (a b : Int) (hab : okE (a, b)) (m : Mem) (A B N : Blk) (own : Bool) (h1 : m.at 0 = some A) (h2 : A.cells = flatP l) (h3 : m.at 1 = some B) (h4 : B.cells = flatT ts) (h5 : m.at 2 = some N) (h6 : N.cells = [.slice (some ⟨0, 0, none⟩) l.length c, .slice (some ⟨1, 0, none⟩) ts.length c2, .slice none 0 0, .map (some 3)]) (h7 : m.at 3 = some (mpX L own 0)) (o1 : A.obj = Ob.plain) (o2 : B.obj = Ob.plain) (o3 : N.obj = Ob.plain) => at_q l ts L hn hL a b hab h1 h2 h3 h4 h5 h6 h7 rfl o1 o2 o3
 have htn := fun (a b d : Int) (ha : 0 ≤ a ∧ a ≤ (l.length : Int) - 1) (hb : 0 ≤ b ∧ b ≤ (l.length : Int) - 1) (hd : 0 ≤ d ∧ d ≤ (l.length : Int) - 1) (m : Mem) => turn_q (hok a.toNat (by omega)) (hok b.toNat (by omega)) (hok d.toNat (by omega)) m
 have har := fun (a b d : Int) (m : Mem) => around_q a b d m
 have E6 : ¬ inR l.length (tr ts i) → trE l ts L i = 6 := fun h => if_neg h
 have E9 : inR l.length (tr ts i) → ordB ts i → trE l ts L i = 9 := fun h h2 => by unfold trE; rw [if_pos h, if_pos h2]
 have E13 : inR l.length (tr ts i) → ¬ ordB ts i → trS l (tr ts i) ≠ 1 → trE l ts L i = 13 := fun h h2 h3 => by unfold trE; rw [if_pos h, if_neg h2, if_pos h3]
 have E28 : inR l.length (tr ts i) → ¬ ordB ts i → trS l (tr ts i) = 1 → (lk L ((tr ts i).1, (tr ts i).2.1) ≠ -1 ∨ lk L ((tr ts i).2.1, (tr ts i).2.2) ≠ -1 ∨ lk L ((tr ts i).2.2, (tr ts i).1) ≠ -1) → trE l ts L i = 28 := fun h h2 h3 h4 => by unfold trE; rw [if_pos h, if_neg h2, if_neg (fun h5 => h5 h3), if_pos h4]
 have E0 : inR l.length (tr ts i) → ¬ ordB ts i → trS l (tr ts i) = 1 → ¬ (lk L ((tr ts i).1, (tr ts i).2.1) ≠ -1 ∨ lk L ((tr ts i).2.1, (tr ts i).2.2) ≠ -1 ∨ lk L ((tr ts i).2.2, (tr ts i).1) ≠ -1) → trE l ts L i = 0 := fun h h2 h3 h4 => by unfold trE; rw [if_pos h, if_neg h2, if_neg (fun h5 => h5 h3), if_neg h4]
 have ht1 : (((i : Nat) : Int) - 1).toNat = i - 1 := by omega
 simp only [inR, ordB, trS] at E6 E9 E13 E28 E0
 rw [← ht1] at E9 E13 E28 E0
 generalize trE l ts L i = V at *
 have HE := Hid_mk (And.intro E6 (And.intro E9 (And.intro E13 (And.intro E28 E0))))
 clear E6 E9 E13 E28 E0
 refine PCalls.en 105 Tryz.func127 rfl (ro4p _ _ _ _ rfl rfl rfl rfl) rfl (fun E => ?_)
 repeat' (first | with_reducible (first | refine Then.n ?_ | refine Then.r ?_ | refine Then.x ?_ | refine InB.n ?_ | refine InB.r ?_ | refine InB.hit ?_) | ((with_reducible refine AL.on ?_); first | (refine AL.gd rfl ?_; first | (refine AL.gskip rfl rfl ?_; refine AL.nm ?_) | (refine AL.gs1 rfl rfl (fun hc => ?_) (fun hc => ?_) <;> (try replace hc := nc hc) <;> first | (exfalso; contradiction) | refine AL.nm ?_) | (refine AL.gs0 rfl rfl (fun hc => ?_) (fun hc => ?_) <;> (try replace hc := nc hc) <;> first | (exfalso; contradiction) | refine AL.nm ?_)) | ((first | ((with_reducible refine AL.k_load ?_); first | (refine AL.g (OQ.load1 (ty := 23) rfl kr (by (conv => lhs; whnf))) ?_) | refine AL.g (OQ.loadN (ty := 62) (n := 3) rfl kr kr (by first | (exact hldT _ (by omega) _ _) | rfl)) ?_ | (refine AL.g (OQ.load1 (ty := 22) rfl kr (by (conv => lhs; whnf))) ?_) | (refine AL.g (OQ.load1 (ty := 3) rfl kr (by (conv => lhs; whnf))) ?_)) | refine AL.mv ?_ | ((with_reducible refine AL.k_binOp ?_); first | refine AL.g (OQ.lss rfl rfl) ?_ | refine AL.g (OQ.subi rfl rfl (by omega)) ?_ | refine AL.g (OQ.addi rfl rfl (by omega)) ?_ | refine AL.g (OQ.leq rfl rfl) ?_ | refine AL.g (OQ.neq rfl rfl) ?_) | refine AL.as ?_ | ((with_reducible refine AL.k_call ?_); refine AL.g (OQ.lenS (xt := 22) (r := (none, 2, true)) rfl kr) ?_) | ((with_reducible refine AL.k_pick ?_); first | refine AL.pT ?_ | refine AL.pF ?_) | ((with_reducible refine AL.k_index ?_); first | refine AL.g (OQ.idxArr1 (ty := 62) (n := 1) (l := 3) rfl rfl kr (by omega) (by omega) rfl) ?_ | refine AL.g (OQ.idxArrL (ty := 170) (n := 2) (l := 3) rfl rfl kr (by omega) (by omega) rfl) ?_) | ((with_reducible refine AL.k_unOp ?_); refine AL.g (OQ.not rfl) ?_) | refine AL.g (OQ.nilCheck rfl) ?_); refine AL.nm ?_) | ((first | ((with_reducible refine AL.k_indexAddr ?_); first | refine AL.g (OQ.idxAddr (ty := 23) (z := 3) (g := true) rfl rfl kr (by omega) (by omega)) ?_ | refine AL.g (OQ.idxPtr (ty := 52) (n := 1) (l := 2) (g := false) rfl rfl kr (by omega) (by omega)) ?_) | ((with_reducible refine AL.k_fieldAddr ?_); first | refine AL.g (OQ.fieldA (ty := 110) (i := 0) (n := 2) (off := 0) (g := true) rfl kr (by decide)) ?_ | refine AL.g (OQ.fieldA (ty := 25) (i := 1) (n := 1) (off := 1) (g := false) rfl kr (by decide)) ?_ | refine AL.g (OQ.fieldA (ty := 25) (i := 0) (n := 1) (off := 0) (g := false) rfl kr (by decide)) ?_) | ((with_reducible refine AL.k_call ?_); first | refine AL.pcall (g := 89) rfl kr rfl (hw _ _) ?_ | refine AL.pcall (g := 157) rfl kr rfl ((by exact hcm (by omega) _ _ _ _ _ _ _ rfl rfl rfl rfl rfl rfl)) ?_ | refine AL.pcall (g := 133) rfl kr rfl ((by exact htn _ _ _ (by omega) (by omega) (by omega) _)) ?_ | refine AL.pcall (g := 128) rfl kr rfl (har _ _ _ _) ?_ | refine AL.pcall (g := 130) rfl kr rfl ((by exact hat _ _ ⟨⟨by omega, by omega⟩, by omega, by omega⟩ _ _ _ _ _ rfl rfl rfl rfl rfl rfl rfl rfl rfl rfl)) ?_)); refine AL.nm ?_) | ((first | ((with_reducible refine AL.k_alloc ?_); first | refine AL.w rfl (OW.alloc (ty := 62) (z := [.int .i64 0, .int .i64 0, .int .i64 0]) kr rfl) ?_ | refine AL.w rfl (OW.alloc (ty := 52) (z := [.int .i64 0, .int .i64 0]) kr rfl) ?_) | ((with_reducible refine AL.k_store ?_); first | (refine AL.w rfl (OW.store (ty := 62) (n := 3) rfl wl rfl rfl kr rfl rfl (by decide) rfl (Nat.le_of_ble_eq_true rfl) (by intro r h; cases h)) ?_) | (refine AL.w rfl (OW.store (ty := 52) (n := 2) rfl wl rfl rfl kr rfl rfl (by decide) rfl (Nat.le_of_ble_eq_true rfl) (by intro r h; cases h)) ?_))); refine AL.nm ?_; refine AL.nM ?_) | refine AL.nil ?_) | ((with_reducible refine AW.on ?_); first | refine AW.seq ?_ | refine AW.skip ?_ | refine AW.exit ?_ | refine AW.ret ?_ | (refine AW.block (id := 0) ?_; refine AW.unroll 4 ?_) | (refine AW.block (id := 3) ?_; refine AW.unroll 4 ?_) | refine AW.block ?_ | (refine AW.drawF (id := 8) 26 #[0, 1, 0, 4, 15, 31, 63, 127, 63, 319, 1023, 2047, 4095, 8191, 16383, 32767, 65535, 65535, 196607, 458751, 983039, 2031615, 65535, 4259839, 16711679, 33488895, 67108863, 134217727, 268435455, 536870911, 1073741823] kr kr ?_; (conv => (arg 8; simp only [List.take_succ_cons, List.take_zero])); ((have q1 := hrt (x := (tr ts i).1) (by assumption); have q2 := hrt (x := (tr ts i).2.1) (by assumption); have q3 := hrt (x := (tr ts i).2.2) (by assumption)))) | (refine AW.drawF (id := 10) 27 #[0, 1, 3, 7, 15, 0, 32, 127, 255, 0, 512, 1536, 3584, 7680, 0, 16384, 65024, 130560, 0, 262144, 786432, 1835008, 3932160, 0, 8388608, 33292288, 66846720, 134217727, 268435455, 536870911] kr kr ?_; (conv => (arg 8; simp only [List.take_succ_cons, List.take_zero]))) | refine AW.region ?_ | (refine AW.conds rfl (fun hc => ?_) (fun hc => ?_) <;> (try replace hc := nc hc) <;> first | (exfalso; contradiction) | skip)) | ((with_reducible refine AF.on ?_); first | (refine AF.q 0 (SW.skip rfl rfl) ?_; refine AF.nm ?_) | ((first | refine AF.q 0 (SW.no1 rfl rfl (by with_reducible rfl)) ?_ | refine AF.q 0 (SW.no0 rfl rfl (by with_reducible rfl)) ?_); refine AF.nm ?_) | ((first | ((with_reducible refine AF.k_load ?_); first | (refine AF.ql rfl (SW.q (OQ.load1 (ty := 3) rfl kr (by (conv => lhs; whnf))) rfl) ?_) | (refine AF.ql rfl (SW.yes (SW.q (OQ.load1 (ty := 3) rfl kr (by (conv => lhs; whnf))) rfl) rfl rfl (by with_reducible rfl)) ?_) | (refine AF.ql rfl (SW.yes (SW.q (OQ.load1 (ty := 23) rfl kr (by (conv => lhs; whnf))) rfl) rfl rfl (by with_reducible rfl)) ?_) | (refine AF.ql rfl (SW.q (OQ.load1 (ty := 22) rfl kr (by (conv => lhs; whnf))) rfl) ?_) | refine AF.ql rfl (SW.q (OQ.loadN (ty := 65) (n := 2) rfl kr kr (by (exact hld _ (by omega) _))) rfl) ?_) | ((with_reducible refine AF.k_move ?_); first | (refine AF.q 0 (SW.q (OQ.move wl) rfl) ?_) | (refine AF.q 0 (SW.yes (SW.q (OQ.move wl) rfl) rfl rfl (by with_reducible rfl)) ?_)) | ((with_reducible refine AF.k_indexAddr ?_); first | refine AF.q 0 (SW.q (OQ.idxPtr (ty := 62) (n := 1) (l := 3) (g := false) rfl rfl kr (by omega) (by omega)) rfl) ?_ | refine AF.q 0 (SW.yes (SW.q (OQ.idxPtr (ty := 62) (n := 1) (l := 3) (g := false) rfl rfl kr (by omega) (by omega)) rfl) rfl rfl (by with_reducible rfl)) ?_ | refine AF.q 0 (SW.yes (SW.q (OQ.idxAddr (ty := 23) (z := 3) (g := true) rfl rfl kr (by omega) (by omega)) rfl) rfl rfl (by with_reducible rfl)) ?_ | refine AF.q 0 (SW.q (OQ.idxAddr (ty := 22) (z := 2) (g := true) rfl rfl kr (by omega) (by omega)) rfl) ?_) | ((with_reducible refine AF.k_binOp ?_); first | refine AF.q 0 (SW.q (OQ.geq rfl rfl) rfl) ?_ | refine AF.q 0 (SW.yes (SW.q (OQ.geq rfl rfl) rfl) rfl rfl (by with_reducible rfl)) ?_ | refine AF.q 0 (SW.yes (SW.q (OQ.gtr rfl rfl) rfl) rfl rfl (by with_reducible rfl)) ?_ | refine AF.q 0 (SW.yes (SW.q (OQ.subi rfl rfl (by omega)) rfl) rfl rfl (by with_reducible rfl)) ?_) | ((with_reducible refine AF.k_fieldAddr ?_); first | refine AF.q 0 (SW.yes (SW.q (OQ.fieldA (ty := 110) (i := 0) (n := 2) (off := 0) (g := true) rfl kr (by decide)) rfl) rfl rfl (by with_reducible rfl)) ?_ | refine AF.q 0 (SW.yes (SW.q (OQ.fieldA (ty := 25) (i := 1) (n := 1) (off := 1) (g := false) rfl kr (by decide)) rfl) rfl rfl (by with_reducible rfl)) ?_ | refine AF.q 0 (SW.q (OQ.fieldA (ty := 110) (i := 0) (n := 2) (off := 0) (g := true) rfl kr (by decide)) rfl) ?_ | refine AF.q 0 (SW.q (OQ.fieldA (ty := 25) (i := 0) (n := 1) (off := 0) (g := false) rfl kr (by decide)) rfl) ?_) | ((with_reducible refine AF.k_pick ?_); first | (refine AF.q 0 (SW.q (OQ.pickT rfl (by with_reducible rfl) wl) rfl) ?_) | (refine AF.q 0 (SW.q (OQ.pickF rfl (by with_reducible rfl) wl) rfl) ?_)) | refine AF.q 2 (SW.yes (SW.q (by exact OQ.sliceA (ty := 62) (n := 3) (z := 1) (g := false) (l := 0) (h := 3) rfl kr rfl rfl rfl rfl (by decide) (by decide) (by decide)) rfl) rfl rfl (by with_reducible rfl)) ?_ | refine AF.q 2 (SW.yes (SW.q (OQ.nilCheck rfl) rfl) rfl rfl (by with_reducible rfl)) ?_ | refine AF.q 2 (SW.q (OQ.nilCheck rfl) rfl) ?_); refine AF.nm ?_) | (refine AF.gs1 rfl rfl (fun hc => ?_) (fun hc => ?_) <;> (fail_if_success (with_reducible exact lit_no hc)) <;> (try replace hc := nc hc) <;> skip) | (refine AF.gs0 rfl rfl (fun hc => ?_) (fun hc => ?_) <;> (fail_if_success (with_reducible exact lit_no hc)) <;> (try replace hc := nc hc) <;> skip) | refine AF.nl ?_) | with_reducible refine AR.s ?_ | ((with_reducible refine FinP.on ?_); (refine FinP.ret (.tmp wl .nil) ?_ rfl); (try simp only [pack, List.drop, List.take]); all_goals (congr 1; first | (have q := hrf ‹rgB _ _ _ = false›; exact (HE.out.1 (by omega)).symm) | exact (HE.out.2.1 (by omega) (by omega)).symm | exact (HE.out.2.2.1 (by omega) (by omega) (by omega)).symm | exact (HE.out.2.2.2.1 (by omega) (by omega) (by omega) (by omega)).symm | exact (HE.out.2.2.2.2 (by omega) (by omega) (by omega) (by omega)).symm)))
end Go.Proofs.YtmohcmghbfhdlaaGreat
end
end
