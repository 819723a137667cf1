/- The small memory: lists in a block, or empty ones of any kind. -/
import Derived.Test.YtmghmmmfdbafoaaGreatDoorAbN
set_option linter.unusedSimpArgs false
set_option linter.unusedVariables false
namespace Go
namespace Ab
open Go.RowKit
/-- Any slice of length 0 that is not nil. -/
abbrev lostV : Value := .slice (some ⟨0, 0, some default⟩) 0 0
theorem VRel.to_lost {ρ : Ren} {i o c : Nat} {v : Value} (h : VRel ρ (.slice (some ⟨i, o, none⟩) 0 c) v) : VRel ρ lostV v := by
  cases h with
  | scal h => simp [Ab.scal] at h
  | slice h h1 h2 h3 => exact .lost
  | empty => exact .lost
theorem PCalls.lost {P : Program} {f : FuncId} {i o c : Nat} {us : List Value} {m : Mem} {v : Value} (h : PCalls P f (lostV :: us) m v) : PCalls P f (.slice (some ⟨i, o, none⟩) 0 c :: us) m v := by
  intro ρ args' w hdom hargs hm
  refine h ρ args' w hdom ?_ hm
  obtain ⟨xs, e, hl, hg⟩ := hargs.tuple_inv
  cases e
  refine .tuple (by simpa using hl) fun i hi hi' => ?_
  match i with
  | 0 =>
    obtain ⟨u, e0, r0⟩ := hg 0 _ rfl
    rw [Array.getElem?_eq_getElem hi'] at e0
    cases e0
    exact VRel.to_lost r0
  | i + 1 =>
    have hi0 : i < us.length := by simpa using hi
    obtain ⟨u, e0, r0⟩ := hg (i + 1) us[i] (by simp [hi0])
    rw [Array.getElem?_eq_getElem hi'] at e0
    cases e0
    simpa using r0
/-- A list of n values with these cells. -/
inductive SlG (m : Mem) (v : Value) (cs : List Value) (n : Nat) : Prop
  | blk (i : Nat) (k : Blk) (hv : v = .slice (some ⟨i, 0, none⟩) n INF) (h : m.at i = some k) (hc : k.cells = cs)
  | nil (hl : n = 0) (hv : v = .slice none 0 0)
  | lost (hl : n = 0) (hv : v = lostV)
  | emp (hl : n = 0) (i o c : Nat) (hv : v = .slice (some ⟨i, o, none⟩) 0 c)
/-- What is walked. -/
def ShG (cs : List Value) (n : Nat) (v : Value) (m0 : Mem) : Prop := (v = .slice none 0 0 ∧ m0 = [] ∧ n = 0) ∨ (v = lostV ∧ m0 = [] ∧ n = 0) ∨ ∃ z, v = .slice (some ⟨0, 0, none⟩) n INF ∧ m0 = [some ⟨cs, false, z⟩]
theorem ShG.ro {cs : List Value} {n : Nat} {v : Value} {m0 : Mem} (h : ShG cs n v m0) : ∀ b blk, m0.at b = some blk → blk.own = false := by
  rcases h with ⟨_, rfl, _⟩ | ⟨_, rfl, _⟩ | ⟨z, _, rfl⟩
  · intro b blk h; simp [Mem.at] at h
  · intro b blk h; simp [Mem.at] at h
  · intro b blk h
    have := Mem.at_lt h
    simp at this
    subst this
    simp [Mem.at] at h
    subst h
    rfl
theorem SlG.up {P : Program} {f : FuncId} {us : List Value} {r v : Value} {m : Mem} {cs : List Value} {n : Nat} (hS : SlG m v cs n) (hs : cs.all scal = true) (hu : us.all flat = true) (hr : flat r = true) (h : ∀ v m0, ShG cs n v m0 → PCalls P f (v :: us) m0 r) : PCalls P f (v :: us) m r := by
  have hmap : ∀ τ : Nat → Nat, us.map (rn3 τ) = us := fun τ => by
    have : ∀ u ∈ us, rn3 τ u = id u := fun u hx => rn3_flat (List.all_eq_true.1 hu u hx)
    rw [List.map_congr_left this, List.map_id]
  have hok : ∀ n, us.all (ok3 n) = true := fun n => List.all_eq_true.2 fun u hx => ok3_flat (List.all_eq_true.1 hu u hx)
  have hL : n = 0 → PCalls P f (lostV :: us) m r := fun h0 => by
    refine PCalls.viaS (m0 := []) [] (h _ _ (.inr (.inl ⟨rfl, rfl, h0⟩))) (fun b blk h => by simp [Mem.at] at h) trivial ?_ ?_ (rn3_flat hr) (ok3_flat hr)
    · rw [List.map_cons, hmap]; rfl
    · rw [List.all_cons, hok]; rfl
  rcases hS with ⟨i, k, rfl, hk, hc⟩ | ⟨h0, rfl⟩ | ⟨h0, rfl⟩ | ⟨h0, i, o, c, rfl⟩
  · refine PCalls.viaS (m0 := [some ⟨cs, false, k.esz⟩]) [i] (h _ _ (.inr (.inr ⟨k.esz, rfl, rfl⟩))) (fun b blk h => ShG.ro (.inr (.inr ⟨k.esz, rfl, rfl⟩) : ShG cs n _ _) b blk h) ⟨⟨k, hk, rfl, (fun h => nomatch h), .inl ⟨hc, hs⟩⟩, trivial⟩ ?_ ?_ (rn3_flat hr) (ok3_flat hr)
    · rw [List.map_cons, hmap]; rfl
    · rw [List.all_cons, hok]; rfl
  · refine PCalls.viaS (m0 := []) [] (h _ _ (.inl ⟨rfl, rfl, h0⟩)) (fun b blk h => by simp [Mem.at] at h) trivial ?_ ?_ (rn3_flat hr) (ok3_flat hr)
    · rw [List.map_cons, hmap]; rfl
    · rw [List.all_cons, hok]; rfl
  · exact hL h0
  · exact (hL h0).lost
end Ab
end Go
