/- Chapter 2: rows of states and of ranges in memory. -/
import Derived.Test.YthhhkjbhhjcjoaaGreatDoor02A
import Derived.Test.YthhhkjbhhjcjoaaGreatDoorFreeEach
import Derived.Laws.OwnMore
import Derived.Laws.AppendOwnNone
import Derived.Deep.AppendLies
import Derived.OwnWalk
import Derived.OneCell
set_option linter.unusedSimpArgs false
set_option linter.unusedVariables false
namespace Go.Proofs.YthhhkjbhhjcjoaaGreatDoor
open Go.RowKit Go.Ob

theorem flat_len {α : Type} (f : α → List Value) (n : Nat) (h : ∀ x, (f x).length = n) : ∀ l : List α, (l.flatMap f).length = l.length * n
  | [] => by simp
  | x :: l => by rw [List.flatMap_cons, List.length_append, h, flat_len f n h l, List.length_cons, Nat.succ_mul]; omega
theorem flat_get {α : Type} (f : α → List Value) (n : Nat) (h : ∀ x, (f x).length = n) (d : α) : ∀ (l : List α) (k j : Nat), j < n → k < l.length → (l.flatMap f)[k * n + j]? = (f (l.getD k d))[j]?
  | [], k, _, _, hk => by simp at hk
  | x :: l, 0, j, hj, _ => by
    rw [List.flatMap_cons, List.getElem?_append_left (by rw [h]; omega)]; simp
  | x :: l, k + 1, j, hj, hk => by
    rw [List.flatMap_cons, List.getElem?_append_right (by rw [h, Nat.succ_mul]; omega), h, Nat.succ_mul, show k * n + n + j - n = k * n + j by omega, flat_get f n h d l k j hj (by simpa using hk)]
    simp

def stC (s : St) : List Value := [.int .i64 s.t, .int .i64 s.x, .int .i64 s.y, .int .i64 s.z, .int .i64 s.e]
def flatS (l : List St) : List Value := l.flatMap stC
def rgC (r : Int × Int) : List Value := [.int .i64 r.1, .int .i64 r.2]
def flatR (l : List (Int × Int)) : List Value := l.flatMap rgC
def rg_ (l : List (Int × Int)) (k : Nat) : Int × Int := l.getD k (0, 0)
theorem flatS_len (l : List St) : (flatS l).length = l.length * 5 := flat_len stC 5 (fun _ => rfl) l
theorem flatR_len (l : List (Int × Int)) : (flatR l).length = l.length * 2 := flat_len rgC 2 (fun _ => rfl) l
theorem flatS_get (l : List St) (k j : Nat) (hj : j < 5) (hk : k < l.length) : (flatS l)[k * 5 + j]? = (stC (at_ l k))[j]? := flat_get stC 5 (fun _ => rfl) St0 l k j hj hk
theorem flatR_get (l : List (Int × Int)) (k j : Nat) (hj : j < 2) (hk : k < l.length) : (flatR l)[k * 2 + j]? = (rgC (rg_ l k))[j]? := flat_get rgC 2 (fun _ => rfl) (0, 0) l k j hj hk
theorem HasSts.of_cells {w : World} {b off : Nat} {l : List St} (h : ∀ j, j < l.length * 5 → w.cell? ⟨b, off + j, none⟩ = (flatS l)[j]?) : HasSts w b off l := fun k hk => by
  have g : ∀ j, j < 5 → w.cell? ⟨b, off + (k * 5 + j), none⟩ = (stC (at_ l k))[j]? := fun j hj => by rw [h _ (by omega), flatS_get l k j hj hk]
  exact ⟨g 0 (by omega), by rw [Nat.add_assoc]; exact g 1 (by omega), by rw [Nat.add_assoc]; exact g 2 (by omega), by rw [Nat.add_assoc]; exact g 3 (by omega), by rw [Nat.add_assoc]; exact g 4 (by omega)⟩
theorem HasSts.cells {w : World} {b off : Nat} {l : List St} (h : HasSts w b off l) : ∀ j, j < l.length * 5 → w.cell? ⟨b, off + j, none⟩ = (flatS l)[j]? := fun j hj => by
  have hk : j / 5 < l.length := by omega
  obtain ⟨h0, h1, h2, h3, h4⟩ := h (j / 5) hk
  have e : j = j / 5 * 5 + j % 5 := by omega
  have hm : j % 5 < 5 := Nat.mod_lt _ (by omega)
  rw [e, flatS_get l (j / 5) (j % 5) hm hk]
  have hc : j % 5 = 0 ∨ j % 5 = 1 ∨ j % 5 = 2 ∨ j % 5 = 3 ∨ j % 5 = 4 := by omega
  rcases hc with c | c | c | c | c <;> rw [c]
  · exact h0
  · rw [← Nat.add_assoc]; exact h1
  · rw [← Nat.add_assoc]; exact h2
  · rw [← Nat.add_assoc]; exact h3
  · rw [← Nat.add_assoc]; exact h4
/-- Ranges in memory. -/
def HasRgs (w : World) (b off : Nat) (l : List (Int × Int)) : Prop := ∀ k, k < l.length → w.cell? ⟨b, off + k * 2, none⟩ = some (.int .i64 (rg_ l k).1) ∧ w.cell? ⟨b, off + k * 2 + 1, none⟩ = some (.int .i64 (rg_ l k).2)
theorem HasRgs.below {w w' : World} {b off : Nat} {l : List (Int × Int)} (h : HasRgs w b off l) {B : Nat} (hb : Below B w w') (hlt : b < B) : HasRgs w' b off l := fun k hk => by
  obtain ⟨h1, h2⟩ := h k hk
  refine ⟨?_, ?_⟩ <;> (rw [hb.cell (by exact hlt)]; assumption)
structure SlRgs (w : World) (a : Option Addr) (l : List (Int × Int)) : Prop where
  mem : l ≠ [] → ∃ b off, a = some ⟨b, off, none⟩ ∧ b < w.heap.size ∧ HasRgs w b off l
theorem SlRgs.below {w w' : World} {a : Option Addr} {l : List (Int × Int)} (h : SlRgs w a l) (hb : Below w.heap.size w w') : SlRgs w' a l :=
  ⟨fun hl => let ⟨b, off, h1, h2, h3⟩ := h.mem hl; ⟨b, off, h1, Nat.lt_of_lt_of_le h2 hb.size, h3.below hb h2⟩⟩
/-- Stops the walk where it stands. -/
theorem hold {p : Prop} (h : Hid p) : p := h
end Go.Proofs.YthhhkjbhhjcjoaaGreatDoor
