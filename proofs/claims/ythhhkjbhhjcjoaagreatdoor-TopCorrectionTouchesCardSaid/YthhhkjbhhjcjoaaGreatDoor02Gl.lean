/- Chapter 2: how an orbit that is an argument lies in the small memory. -/
import Derived.Test.YthhhkjbhhjcjoaaGreatDoor02Bm
import Derived.Test.YthhhkjbhhjcjoaaGreatDoor02E
import Derived.Test.YthhhkjbhhjcjoaaGreatDoor02Claim
set_option linter.unusedSimpArgs false
set_option linter.unusedVariables false
namespace Go.Proofs.YthhhkjbhhjcjoaaGreatDoor
open Go.ChangeShapes Go.WideShapes Go.ChangeAt Go Go.RowKit Go.Ob Go.Ab
set_option maxRecDepth 100000

section
variable {H : Type} {enc : TypeId × Value → H} {w : World} {base : Nat} {spare : Nat → Bool} {held : Bool}
theorem open_sts2 {fuel : Nat} {v : Value} {x : DataW H × List MemPlace} (h : DataW.trod enc Tryz.prog w base spare held fuel 35 [v] = some x) :
    ∃ a l cap, v = .slice a l.length cap ∧ l.length ≤ cap ∧ cap ≤ maxLen ∧ SlSts w a l ∧ (a = none → cap = 0) := by
  rcases Go.Deep.open_slice Tryz.underlying35 h with ⟨h1, _⟩ | ⟨a, len, cap, m, n, D, Pl, hcs, hb, hl, hm, hmm, hx, hi⟩
  · simp only [List.cons.injEq, and_true] at h1
    subst h1
    exact ⟨none, [], 0, rfl, by simp, by simp [maxLen], ⟨fun k hk => by simp at hk, fun e => absurd rfl e⟩, fun _ => rfl⟩
  · obtain ⟨a', l, cap', e, h1, h2, h3⟩ := open_sts h
    refine ⟨a', l, cap', e, h1, h2, h3, fun ha => ?_⟩
    subst ha
    simp only [List.cons.injEq, and_true] at hcs
    rw [hcs] at e
    cases e

theorem open_orb {fuel : Nat} {c0 c1 c2 : Value} {x : DataW H × List MemPlace} (h : DataW.trod enc Tryz.prog w base spare held fuel 37 [c0, c1, c2] = some x) :
    ∃ nm bd a l cap, c0 = .string nm ∧ c1 = .int .i64 bd ∧ c2 = .slice a l.length cap ∧ nm.size ≤ maxLen ∧ l.length ≤ cap ∧ cap ≤ maxLen ∧ SlSts w a l ∧ (a = none → cap = 0) := by
  obtain ⟨xs', n', _, hx', _, hlen', hg'⟩ := DataW.trod_struct Tryz.underlying37 h
  match xs', hlen' with
  | [z0, z1, z2], _ =>
    have k0 : DataW.trod enc Tryz.prog w base spare held n' 9 [c0] = some z0 := hg' 0 _ rfl
    have k1 : DataW.trod enc Tryz.prog w base spare held n' 3 [c1] = some z1 := hg' 1 _ rfl
    have k2 : DataW.trod enc Tryz.prog w base spare held n' 35 [c2] = some z2 := hg' 2 _ rfl
    obtain ⟨s, e0, _, hs⟩ := DataW.trod_string Tryz.underlying9 k0
    obtain ⟨bd, e1, _, hw⟩ := DataW.trod_int Tryz.underlying3 k1
    obtain ⟨a, l, cap, rfl, hl, hc, hS, hz⟩ := open_sts2 k2
    simp only [List.cons.injEq, and_true] at e0 e1
    exact ⟨s, bd, a, l, cap, e0, e1, rfl, hs, hl, hc, hS, hz⟩

theorem cells_o1 : Tryz.prog.cellsOf 37 = 3 := by kernel_rfl
theorem open_orbit2 {r : Reach} {b0 : Nat} {v : Value} {d : DataW H} {p : List MemPlace} (hv : Value.okWide Tryz.prog w r b0 37 v) (h : DataW.Trod enc Tryz.prog w base spare held 37 v d p) :
    ∃ nm bd a l cap, v = obV nm bd a (List.length (α := St) l) cap ∧ nm.size ≤ maxLen ∧ l.length ≤ cap ∧ cap ≤ maxLen ∧ SlSts w a l ∧ (a = none → cap = 0) := by
  obtain ⟨cs, rfl, hsz⟩ := okWide_struct Tryz.underlying37 hv
  obtain ⟨l⟩ := cs
  match l, hsz.trans cells_o1 with
  | [c0, c1, c2], _ =>
    obtain ⟨fuel, hf⟩ := h
    obtain ⟨nm, bd, a, l, cap, rfl, rfl, rfl, h1, h2, h3, h4, h5⟩ := open_orb hf
    exact ⟨nm, bd, a, l, cap, rfl, h1, h2, h3, h4, h5⟩
end

/-- Where the states of an orbit lie. -/
def plO (a : Option Addr) (l : List St) : Option Pl := if l = [] then none else a.map fun x => ⟨x.block, x.off, 0, 0⟩
/-- What is there of the states of an orbit. -/
def bl (l : List St) : Option Blk := if l = [] then none else some ⟨flatS l, false, 0⟩
def va (i : Nat) (l : List St) (z : Bool) : Value := if l = [] then (if z then .slice none 0 0 else lostS) else .slice (some ⟨i, 0, none⟩) l.length INF
theorem SlB.arg {m : Mem} {i : Nat} {l : List St} {z : Bool} (h : m.at i = bl l ∨ m.at i = (bl l).map fun b => { b with own := false }) : SlB m (va i l z) l := by
  unfold va
  by_cases hl : l = []
  · rw [if_pos hl]
    cases z
    · exact .lost hl rfl
    · exact .nil hl rfl
  · rw [if_neg hl]
    unfold bl at h
    rw [if_neg hl] at h
    rcases h with h | h <;> exact .blk i _ rfl h rfl
theorem bl_ro (l : List St) (b : Blk) (h : bl l = some b) : b.own = false := by
  unfold bl at h
  split at h
  · cases h
  · cases h; rfl
theorem va_rel {w : World} {ρ : Ren} {i : Nat} {a : Option Addr} {l : List St} {cap : Nat} (hS : SlSts w a l) (hc : l.length ≤ cap) (hz : a = none → cap = 0) (hρ : ρ i = plO a l) : VRel ρ (va i l a.isNone) (.slice a l.length cap) := by
  unfold va
  by_cases hl : l = []
  · rw [if_pos hl]
    subst hl
    cases a with
    | none => rw [hz rfl]; exact .scal rfl
    | some a => exact .lost
  · rw [if_neg hl]
    obtain ⟨b, off, rfl, hb, hm⟩ := hS.mem hl
    unfold plO at hρ
    rw [if_neg hl] at hρ
    have := VRel.slice (ρ := ρ) (b := i) (o := 0) (n := l.length) (c := INF) (c' := cap) hρ hc (fun h => absurd h (by decide)) (fun h => absurd rfl h)
    simpa using this

theorem bl_rel {w : World} {ρ : Ren} {i : Nat} {a : Option Addr} {l : List St} (hS : SlSts w a l) (hρ : ρ i = plO a l) {blk : Blk} (hb : bl l = some blk) : ∃ pl, ρ i = some pl ∧ BRel ρ blk pl w := by
  unfold bl at hb
  split at hb
  · cases hb
  · rename_i hl
    cases hb
    obtain ⟨b, off, rfl, hbw, hm⟩ := hS.mem hl
    unfold plO at hρ
    rw [if_neg hl] at hρ
    obtain ⟨pl, h1, ⟨c, ty, fr, k0, k1, k2, k3⟩, _⟩ := mrel1 hm hbw (by cases l <;> simp_all) 0 _ rfl
    cases h1
    exact ⟨_, hρ, ⟨c, ty, fr, k0, k1, fun j v hv => by
      obtain ⟨v', q1, q2⟩ := k2 j v hv
      have hsc := List.all_eq_true.1 (flatS_scal l) v (List.mem_of_getElem? hv)
      rw [q2.of_scal hsc] at q1
      exact ⟨v, q1, .scal hsc⟩, k3⟩⟩

/-- One orbit, and values without addresses. -/
theorem glue1 {f : FuncId} {nm : ByteArray} {bd : Int} {a : Option Addr} {l : List St} {cap : Nat} {us : List Value} {w : World} (hu : us.all flat = true) (hS : SlSts w a l) (hc : l.length ≤ cap) (hz : a = none → cap = 0)
    (h : PCalls Tryz.prog f (obW nm bd (va 0 l a.isNone) :: us) [bl l] (.bool true)) :
    Calls Tryz.prog f (obV nm bd a l.length cap :: us).toArray w fun e w' => e = .returned (.bool true) ∧ Below w.heap.size w w' := by
  refine (h (fun b => if b = 0 then plO a l else none) _ w (fun b pl hb => ?_) ?_ (fun b blk hb => ?_)).mono fun e w' ⟨v', he, hr, hb⟩ => ⟨by rw [he, hr.bool], hb⟩
  · have hb' : (if b = 0 then plO a l else none) = some pl := hb
    split at hb'
    · simp; omega
    · cases hb'
  · refine .tuple (by simp) fun i h h' => ?_
    match i, h with
    | 0, _ =>
      refine .agg rfl fun j g g' => ?_
      match j, g with
      | 0, _ => exact .scal rfl
      | 1, _ => exact .scal rfl
      | 2, _ => exact va_rel hS hc hz rfl
    | i + 1, h =>
      have hi : i < us.length := by simpa using h
      have := List.all_eq_true.1 hu us[i] (List.getElem_mem hi)
      simpa using VRel.flat (ρ := fun b => if b = 0 then plO a l else none) this
  · have hlt := Mem.at_lt hb
    match b, hlt with
    | 0, _ =>
      obtain ⟨pl, k1, k2⟩ := bl_rel (ρ := fun b => if b = 0 then plO a l else none) (i := 0) hS rfl hb
      exact ⟨pl, k1, k2, fun ho => by rw [bl_ro l _ hb] at ho; cases ho⟩
    | b + 1, h => simp at h
end Go.Proofs.YthhhkjbhhjcjoaaGreatDoor
