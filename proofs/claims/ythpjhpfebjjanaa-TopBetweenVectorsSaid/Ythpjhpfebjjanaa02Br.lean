/- Chapter 2: between the elder walks and the small memory. -/
import Derived.Test.YthpjhpfebjjanaaAb
import Derived.Test.Ythpjhpfebjjanaa02i
import Derived.Test.Ythpjhpfebjjanaa02Own
set_option linter.unusedSimpArgs false
set_option linter.unusedVariables false
namespace Go.Proofs.Ythpjhpfebjjanaa
open Go Go.RowKit Go.Ob Go.Ab

/-- An orbit of the small memory, its states in block b. -/
abbrev obA (nm : ByteArray) (bd : Int) (b : Nat) (l : List St) : Value := .agg #[.string nm, .int .i64 bd, .slice (some ⟨b, 0, none⟩) l.length INF]

theorem ro_one (cs : List Value) (z : Nat) : Mem.ro [some ⟨cs, false, z⟩] := fun b blk h => by
  have := Mem.at_lt h
  simp at this
  subst this
  simp [Mem.at] at h
  rw [← h]

theorem flatS_scal (l : List St) : (flatS l).all scal = true := List.all_eq_true.2 fun u hu => by
  obtain ⟨s, _, h⟩ := List.mem_flatMap.1 hu
  simp only [stC, List.mem_cons, List.not_mem_nil, or_false] at h
  rcases h with rfl | rfl | rfl | rfl | rfl <;> rfl

theorem ob_inv {ρ : Ren} {m : Mem} {w : World} {nm : ByteArray} {bd : Int} {b : Nat} {l : List St} {v : Value} {blk : Blk} (hm : MRel ρ m w) (hb : m.at b = some blk) (hc : blk.cells = flatS l) (h1 : 1 ≤ l.length) (h : VRel ρ (obA nm bd b l) v) :
    ∃ b' off cap, v = obV nm bd (some ⟨b', off, none⟩) l.length cap ∧ HasSts w b' off l ∧ b' < w.heap.size ∧ l.length ≤ cap := by
  obtain ⟨cs, rfl, hs, hg⟩ := h.agg_inv
  obtain ⟨u0, e0, r0⟩ := hg 0 _ rfl
  obtain ⟨u1, e1, r1⟩ := hg 1 _ rfl
  obtain ⟨u2, e2, r2⟩ := hg 2 _ rfl
  rcases r2.slice_inv with ⟨pl, c', hp, g1, _, _, rfl⟩ | ⟨h0, _⟩
  · obtain ⟨pl', hp', ⟨c, ty, fr, k0, _, k2, _⟩, _⟩ := hm b blk hb
    cases Option.some.inj (hp.symm.trans hp')
    refine ⟨pl.blk, 0 + pl.sh, c', ?_, HasSts.of_cells fun j hj => ?_, (Array.getElem?_eq_some_iff.1 k0).1, g1⟩
    · have : cs = #[u0, u1, .slice (some ⟨pl.blk, 0 + pl.sh, none⟩) l.length c'] := by
        refine Array.ext_getElem? fun i => ?_
        match i with
        | 0 => exact e0
        | 1 => exact e1
        | 2 => exact e2
        | i + 3 => rw [Array.getElem?_eq_none (by simp at hs; omega), Array.getElem?_eq_none (by simp)]
      rw [this, r0.string, r1.int]
    · have hl : j < (flatS l).length := by rw [flatS_len]; exact hj
      obtain ⟨v', q1, q2⟩ := k2 j (flatS l)[j] (by rw [hc]; simp [hl])
      have hsc := List.all_eq_true.1 (flatS_scal l) _ (List.getElem_mem hl)
      rw [q2.of_scal hsc] at q1
      rw [List.getElem?_eq_getElem hl]
      simp only [World.cell?, k0, Option.isSome_none]
      rw [show 0 + pl.sh + j = j + pl.sh by omega]
      simpa using q1
  · omega

/-- A place for the states of an orbit as it lies. -/
def ren1 (b off : Nat) : Ren := fun x => if x = 0 then some ⟨b, off, 0, 0⟩ else none

theorem mrel1 {w : World} {b off : Nat} {l : List St} (hS : HasSts w b off l) (hbw : b < w.heap.size) (h1 : 1 ≤ l.length) : MRel (ren1 b off) [some ⟨flatS l, false, 0⟩] w := by
  intro k blk hk
  have hk0 : k = 0 := by
    have := Mem.at_lt hk
    simp at this
    exact this
  subst hk0
  simp [Mem.at] at hk
  subst hk
  have hcell := hS.cells
  have h0 := hcell 0 (by omega)
  simp only [World.cell?] at h0
  cases ho : w.heap[b]? with
  | none => rw [ho] at h0; simp [List.getElem?_eq_getElem (show 0 < (flatS l).length by rw [flatS_len]; omega)] at h0
  | some o =>
    cases o with
    | cells c ty fr =>
      refine ⟨⟨b, off, 0, 0⟩, rfl, ⟨c, ty, fr, ho, rfl, fun i v hv => ?_, fun h => by cases h⟩, fun h => by cases h⟩
      have hi : i < l.length * 5 := by
        have := (List.getElem?_eq_some_iff.1 hv).1
        rwa [flatS_len] at this
      have := hcell i hi
      simp only [World.cell?, ho] at this
      rw [hv] at this
      refine ⟨v, by simpa [Nat.add_comm] using this, .scal (List.all_eq_true.1 (flatS_scal l) v (List.mem_of_getElem? hv))⟩
    | _ => rw [ho] at h0; simp [List.getElem?_eq_getElem (show 0 < (flatS l).length by rw [flatS_len]; omega)] at h0

theorem ob_rel {nm : ByteArray} {bd : Int} {l : List St} {b off cap : Nat} (hc : l.length ≤ cap) : VRel (ren1 b off) (obA nm bd 0 l) (obV nm bd (some ⟨b, off, none⟩) l.length cap) := by
  refine .agg rfl fun i h h' => ?_
  match i, h with
  | 0, _ => exact .scal rfl
  | 1, _ => exact .scal rfl
  | 2, _ =>
    have := VRel.slice (ρ := ren1 b off) (b := 0) (o := 0) (n := l.length) (c := INF) (c' := cap) (pl := ⟨b, off, 0, 0⟩) rfl hc (fun h => absurd h (by decide)) (fun h => absurd rfl h)
    simpa using this

/-- A contract of the small memory, for an orbit in memory and an argument more. -/
theorem calls_ob {f : FuncId} {nm : ByteArray} {bd : Int} {l : List St} {us : List Value} {v : Value} (h : PCalls Try.prog f (obA nm bd 0 l :: us) [some ⟨flatS l, false, 0⟩] v) (hk : us.all flat = true) (hv : flat v = true) {w : World} {b off cap : Nat}
    (hS : HasSts w b off l) (hbw : b < w.heap.size) (h1 : 1 ≤ l.length) (hc : l.length ≤ cap) : Calls Try.prog f (obV nm bd (some ⟨b, off, none⟩) l.length cap :: us).toArray w fun e w' => e = .returned v ∧ Below w.heap.size w w' := by
  refine (h (ren1 b off) _ w (fun x pl hx => ?_) ?_ (mrel1 hS hbw h1)).mono fun e w' ⟨v', he, hr, hb⟩ => ⟨by rw [he, hr.of_flat hv], hb⟩
  · unfold ren1 at hx
    split at hx
    · simp; omega
    · cases hx
  · refine .tuple (by simp) fun i hi hi' => ?_
    simp only [List.getElem_toArray]
    match i with
    | 0 => exact ob_rel hc
    | i + 1 =>
      simp only [List.getElem_cons_succ]
      exact .flat (List.all_eq_true.1 hk _ (List.getElem_mem _))

theorem pathOf_p {m : Mem} {b : Nat} {blk : Blk} (nm : ByteArray) (bd : Int) (l : List St) (hb : m.at b = some blk) (hc : blk.cells = flatS l) (hnm : nm.size ≤ 1000) (hR : Right bd l) :
    PCalls Try.prog 70 [obA nm bd b l] m (.tuple #[obA nm bd b l, .int .i64 (orbE nm.data.toList bd l).2]) := by
  have h2 := hR.n2
  have h40 := hR.n40
  intro ρ args' w hdom hargs hm
  obtain ⟨xs', e, h1, hg⟩ := hargs.tuple_inv
  cases e
  obtain ⟨u, e0, r0⟩ := hg 0 _ rfl
  obtain ⟨b', off, cap, rfl, hS, hbw, hcap⟩ := ob_inv hm hb hc (by omega) r0
  have : args' = #[obV nm bd (some ⟨b', off, none⟩) l.length cap] := by
    refine Array.ext_getElem? fun i => ?_
    match i with
    | 0 => exact e0
    | i + 1 => rw [Array.getElem?_eq_none (by simp at h1; omega), Array.getElem?_eq_none (by simp)]
  subst this
  have hwf : ∀ k, k < l.length → -9223372036854775808 ≤ (at_ l k).t ∧ (at_ l k).t ≤ 9223372036854775807 := fun k hk => by
    obtain ⟨h1, h2, _⟩ := hR.ok k hk
    omega
  refine (pathOf_any nm bd (some ⟨b', off, none⟩) cap l w hnm ⟨hwf, fun _ => ⟨b', off, rfl, hbw, hS⟩⟩ hcap (by omega)).mono fun e w' ⟨he, hbl⟩ => ⟨_, he, ?_, hbl⟩
  refine .tuple rfl fun i h h' => ?_
  match i, h with
  | 0, _ => exact r0
  | 1, _ => exact .scal rfl

/-- A state, read from the states of an orbit. -/
theorem ld_st {m : Mem} {b : Nat} {blk : Blk} {l : List St} (hb : m.at b = some blk) (hc : blk.cells = flatS l) (k : Nat) (hk : k < l.length) : m.ld b (k * 5) 5 = some (stC (at_ l k)) := by
  have hlen : (flatS l).length = l.length * 5 := flatS_len l
  have hmul : k * 5 + 5 ≤ l.length * 5 := by omega
  unfold Mem.ld
  rw [hb]
  simp only [hc, hlen]
  rw [if_pos (by omega)]
  congr 1
  refine List.ext_getElem? fun i => ?_
  rcases Nat.lt_or_ge i 5 with hi | hi
  · rw [List.getElem?_take_of_lt hi, List.getElem?_drop, flatS_get l k i hi hk]
  · rw [List.getElem?_eq_none (by simp; omega), List.getElem?_eq_none (by simp [stC]; omega)]
end Go.Proofs.Ythpjhpfebjjanaa
