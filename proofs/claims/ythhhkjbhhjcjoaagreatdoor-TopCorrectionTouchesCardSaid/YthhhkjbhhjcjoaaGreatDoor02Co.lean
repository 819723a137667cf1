/- Chapter 2 in plain Lean: what the correction of a state touches. -/
import Derived.Test.YthhhkjbhhjcjoaaGreatDoor02tc
import Derived.Test.YthhhkjbhhjcjoaaGreatDoor02Ca
import Derived.Test.YthhhkjbhhjcjoaaGreatDoor02Gl
import Derived.Test.YthhhkjbhhjcjoaaGreatDoorAbJ
set_option linter.unusedSimpArgs false
set_option linter.unusedVariables false
section
namespace Go.Proofs.YthhhkjbhhjcjoaaGreatDoor
open Go Go.Ob Go.Ab
set_option maxRecDepth 100000
/-- A range of a run begins and ends where it is so. -/
theorem run_ends (T : Int → Bool) (a : Int) : ∀ k, ∀ r ∈ runTo T a k, (T r.1 = true ∧ a ≤ r.1 ∧ r.1 < a + k) ∧ T r.2 = true ∧ a ≤ r.2 ∧ r.2 < a + k
  | 0, r, h => by simp [runTo] at h
  | k + 1, r, h => by
    have ih := run_ends T a k
    unfold runTo at h
    split at h
    · rename_i hT
      rcases List.eq_nil_or_concat (runTo T a k) with e | ⟨L, ⟨x, y⟩, e⟩
      · rw [e] at h
        simp only [grow, List.getLast?_nil, List.mem_singleton] at h
        subst h
        exact ⟨⟨hT, by simp; omega, by simp; omega⟩, hT, by simp; omega, by simp; omega⟩
      · rw [List.concat_eq_append] at e
        rw [e] at ih h
        rw [grow_eq] at h
        have hl := ih (x, y) (by simp)
        by_cases hy : y = a + k - 1
        · rw [jn1_last _ _ _ _ hy, List.mem_append, List.mem_singleton] at h
          rcases h with h | h
          · have := ih r (by simp [h])
            exact ⟨⟨this.1.1, this.1.2.1, by omega⟩, this.2.1, this.2.2.1, by omega⟩
          · subst h
            exact ⟨⟨hl.1.1, hl.1.2.1, by have := hl.1.2.2; simp at this ⊢; omega⟩, hT, by simp; omega, by simp; omega⟩
        · rw [jn1_new _ _ _ _ hy, List.mem_append, List.mem_singleton] at h
          rcases h with h | h
          · have := ih r h
            exact ⟨⟨this.1.1, this.1.2.1, by omega⟩, this.2.1, this.2.2.1, by omega⟩
          · subst h
            exact ⟨⟨hT, by simp; omega, by simp; omega⟩, hT, by simp; omega, by simp; omega⟩
    · have := ih r h
      exact ⟨⟨this.1.1, this.1.2.1, by omega⟩, this.2.1, this.2.2.1, by omega⟩
end Go.Proofs.YthhhkjbhhjcjoaaGreatDoor
end

section
namespace Go.Proofs.YthhhkjbhhjcjoaaGreatDoor
open Go Go.RowKit Go.Ob Go.Ab
set_option maxRecDepth 100000
set_option maxHeartbeats 4000000
theorem Within_c (n lo hi : Int) (m : Mem) : PCalls Tryz.prog 22 [.int .i64 n, .int .i64 lo, .int .i64 hi] m (.bool (rngB n lo hi)) := PCalls.of_same rfl rfl fun w => rWithin_any n lo hi w
theorem brief_c {m : Mem} {v : Value} {l : List St} {nm : ByteArray} {bd : Int} (hS : SlB m v l) (hwf : ∀ k, k < l.length → -9223372036854775808 ≤ (at_ l k).t ∧ (at_ l k).t ≤ 9223372036854775807) (hl : (l.length : Int) ≤ 9223372036854775807) (hnm : (nm.size : Int) ≤ 9223372036854775807) :
    PCalls Tryz.prog 21 [obW nm bd v] m (.bool (fewB nm.size l.length && briefB nm.data.toList bd l)) := by
  intro ρ args' w hdom hargs hm
  obtain ⟨xs', e, h1, hg⟩ := hargs.tuple_inv
  cases e
  obtain ⟨u, e0, r0⟩ := hg 0 _ rfl
  obtain ⟨cs, rfl, hs, hg'⟩ := r0.agg_inv
  obtain ⟨u0, f0, q0⟩ := hg' 0 _ rfl
  obtain ⟨u1, f1, q1⟩ := hg' 1 _ rfl
  obtain ⟨u2, f2, q2⟩ := hg' 2 _ rfl
  obtain ⟨a, cap, rfl, hSt, hcap⟩ := hS.real hwf hm q2
  have hcs : cs = #[.string nm, .int .i64 bd, .slice a l.length cap] := by
    refine Array.ext_getElem? fun i => ?_
    match i with
    | 0 => rw [f0, q0.string]; rfl
    | 1 => rw [f1, q1.int]; rfl
    | 2 => exact f2
    | i + 3 => rw [Array.getElem?_eq_none (by simp at hs; omega), Array.getElem?_eq_none (by simp)]
  have : args' = #[obV nm bd a l.length cap] := by
    refine Array.ext_getElem? fun i => ?_
    match i with
    | 0 => rw [e0, hcs]; rfl
    | i + 1 => rw [Array.getElem?_eq_none (by simp at h1; omega), Array.getElem?_eq_none (by simp)]
  subst this
  cases hf : fewB nm.size l.length with
  | false => exact (Brief_no nm bd a l.length cap w hl hnm hf).mono fun e w' ⟨he, hb⟩ => ⟨_, he, .scal rfl, hb⟩
  | true => exact (Brief_yes nm bd a cap l w ⟨by have := (fewB_spec hf).1; omega, hSt, hcap, by omega⟩ hf).mono fun e w' ⟨he, hb⟩ => ⟨_, he, .scal rfl, hb⟩

theorem Touched_anyC (z1 z2 : Nat) {l1 l2 : List St} {nm1 nm2 : ByteArray} {bd1 bd2 : Int} (hn1 : nm1.size ≤ 1000) (hn2 : nm2.size ≤ 1000) (hR1 : Right bd1 l1) (hR2 : Right bd2 l2) (he1 : (orbE nm1.data.toList bd1 l1).2 = 0) (he2 : (orbE nm2.data.toList bd2 l2).2 = 0) (hbr : lastT l1 - frstT l1 ≤ 300)
    (hne : tchL (frstT l1) (lastT l1) (frstT l2) (lastT l2) (tcD bd1 bd2 l1 l2) ≠ []) :
    ACalls Tryz.prog 24 [obI nm1 bd1 0 l1, obI nm2 bd2 1 l2] (two l1 l2 z1 z2) (.tuple #[rgV 2 (tchL (frstT l1) (lastT l1) (frstT l2) (lastT l2) (tcD bd1 bd2 l1 l2)), .int .i64 0])
      [some ⟨flatS l1, false, z1⟩, some ⟨flatS l2, false, z2⟩, rgB (tchL (frstT l1) (lastT l1) (frstT l2) (lastT l2) (tcD bd1 bd2 l1 l2))] := by
  by_cases h1 : lastT l1 < frstT l2
  · exact Touched_n1 z1 z2 hn1 hn2 hR1 hR2 he1 he2 (by simpa using h1) _
  · by_cases h2 : lastT l2 < frstT l1
    · exact Touched_n2 z1 z2 hn1 hn2 hR1 hR2 he1 he2 (by simpa using h2) _
    · exact Touched_y z1 z2 hn1 hn2 hR1 hR2 he1 he2 hbr ⟨by omega, by omega⟩ hne
/-- A call that reads the states of one orbit and makes others. -/
theorem via_e {P : Program} {f : FuncId} {args0 args : List Value} {cs cs' : List Value} {z' : Nat} {v0 v : Value} {m : Mem} {b : Nat} {blk : Blk} (hb : m.at b = some blk) (hc : blk.cells = cs) (hs : cs.all scal = true) (hs' : cs'.all scal = true)
    (h : ACalls P f args0 [some ⟨cs, false, blk.esz⟩] v0 [some ⟨cs, false, blk.esz⟩, some ⟨cs', true, z'⟩])
    (hargs : args0.map (rn3 fun _ => b) = args) (hk : args0.all (ok3 1) = true) (hv : rn3 (τn (fun _ => b) 1 m.length) v0 = v) (hkv : ok3 2 v0 = true) : ACalls P f args m v (m ++ [some ⟨cs', true, z'⟩]) := by
  refine ACalls.viaN (m0 := [some ⟨cs, false, blk.esz⟩]) (x := some ⟨cs', true, z'⟩) (fun _ => b) h (fun x bk hx => ?_) (fun x hx => ?_) (fun bk h => by cases h; exact ⟨rfl, hs'⟩) hargs hk hv hkv
  · have := Mem.at_lt hx
    match x, this with
    | 0, _ =>
      cases hx
      exact ⟨rfl, ok1_of_scal hs, blk, hb, rfl, fun j v hv => by rw [rn1_scal (List.all_eq_true.1 hs v (List.mem_of_getElem? hv)), hc]; exact hv⟩
    | x + 1, h => exact absurd h (by simp)
  · match x, hx with
    | 0, _ => exact ⟨_, rfl⟩
    | x + 1, h => exact absurd h (by simp)
theorem ro_bl (l : List St) : Mem.ro [bl l] := fun k blk hk => by
  have := Mem.at_lt hk
  match k, this with
  | 0, _ => exact bl_ro l _ hk
  | k + 1, h => simp at h
end Go.Proofs.YthhhkjbhhjcjoaaGreatDoor
end

section
namespace Go.Proofs.YthhhkjbhhjcjoaaGreatDoor
open Go.ChangeShapes Go.WideShapes Go.ChangeAt Go Go.RowKit Go.Ob Go.Ab Go.Ls
set_option maxRecDepth 100000
theorem cells_U : Tryz.prog.cellsOf 25 = 5 := by kernel_rfl
theorem ints_U : intsT Tryz.prog 4 25 = true := by kernel_rfl
set_option maxRecDepth 100000 in
theorem open_U {H : Type} {enc : TypeId × Value → H} {w : World} {base : Nat} {spare : Nat → Bool} {held : Bool} {r : Reach} {b0 : Nat} {v : Value} {d : DataW H} {p : List MemPlace} (hv : Value.okWide Tryz.prog w r b0 25 v) (h : DataW.Trod enc Tryz.prog w base spare held 25 v d p) :
    ∃ x0 x1 x2 x3 x4 : Int, v = .agg #[.int .i64 x0, .int .i64 x1, .int .i64 x2, .int .i64 x3, .int .i64 x4] ∧ (-9223372036854775808 ≤ x0 ∧ x0 ≤ 9223372036854775807) ∧ (-9223372036854775808 ≤ x1 ∧ x1 ≤ 9223372036854775807) ∧ (-9223372036854775808 ≤ x2 ∧ x2 ≤ 9223372036854775807) ∧ (-9223372036854775808 ≤ x3 ∧ x3 ≤ 9223372036854775807) ∧ (-9223372036854775808 ≤ x4 ∧ x4 ≤ 9223372036854775807) := by
  obtain ⟨cs, rfl, hsz⟩ := okWide_struct Tryz.underlying25 hv
  obtain ⟨l⟩ := cs
  obtain ⟨fuel, hf⟩ := h
  have hi := ints_of 4 _ _ _ _ ints_U hf
  match l, hsz.trans cells_U, hi with
  | [c0, c1, c2, c3, c4], _, hi =>
    obtain ⟨x0, rfl, hx0⟩ := hi c0 (by simp [Value.cells])
    obtain ⟨x1, rfl, hx1⟩ := hi c1 (by simp [Value.cells])
    obtain ⟨x2, rfl, hx2⟩ := hi c2 (by simp [Value.cells])
    obtain ⟨x3, rfl, hx3⟩ := hi c3 (by simp [Value.cells])
    obtain ⟨x4, rfl, hx4⟩ := hi c4 (by simp [Value.cells])
    exact ⟨x0, x1, x2, x3, x4, rfl, wf_bd hx0, wf_bd hx1, wf_bd hx2, wf_bd hx3, wf_bd hx4⟩
theorem wf_of {l : List St} {P : St → Prop} (h : ∀ x ∈ l, P x) (k : Nat) (hk : k < l.length) : P (at_ l k) := by
  unfold at_
  rw [List.getD_eq_getElem?_getD, List.getElem?_eq_getElem hk]
  exact h _ (List.getElem_mem hk)
theorem wf_to {l : List St} {P : St → Prop} (h : ∀ k, k < l.length → P (at_ l k)) : ∀ x ∈ l, P x := fun x hx => by
  obtain ⟨k, hk, rfl⟩ := List.getElem_of_mem hx
  have := h k hk
  unfold at_ at this
  rw [List.getD_eq_getElem?_getD, List.getElem?_eq_getElem hk] at this
  exact this
def wfP (x : St) : Prop := -9223372036854775808 ≤ x.t ∧ x.t ≤ 9223372036854775807
theorem ors_set {nm : ByteArray} {l : List St} {k : Nat} {s : St} (ho : Ors nm l) (hs : -9223372036854775808 ≤ s.t ∧ s.t ≤ 9223372036854775807) : Ors nm (l.set k s) :=
  ⟨ho.nm, wf_of (P := wfP) fun x hx => by
    rcases List.mem_or_eq_of_mem_set hx with h | rfl
    · exact wf_to (P := wfP) ho.wf x h
    · exact hs, by rw [List.length_set]; exact ho.len⟩
end Go.Proofs.YthhhkjbhhjcjoaaGreatDoor
end
