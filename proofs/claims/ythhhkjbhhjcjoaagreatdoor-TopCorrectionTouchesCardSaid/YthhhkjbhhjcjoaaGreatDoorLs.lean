/- Lists of values of whole numbers: in the small memory, and as arguments. -/
import Derived.ProofKit
import Derived.OpenShut
import Derived.Deep.Slices
import Derived.Test.YthhhkjbhhjcjoaaGreatDoorAbL
set_option linter.unusedSimpArgs false
set_option linter.unusedVariables false
namespace Go.Ls
open Go.ChangeShapes Go.WideShapes Go.ChangeAt Go Go.RowKit Go.Ab
set_option maxRecDepth 100000
theorem flat_len {α : Type} (f : α → List Value) (n : Nat) (h : ∀ x, (f x).length = n) : ∀ l : List α, (l.flatMap f).length = l.length * n
  | [] => by simp
  | x :: l => by rw [List.flatMap_cons, List.length_append, h, flat_len f n h l, List.length_cons, Nat.succ_mul]; omega
theorem flat_get {α : Type} (f : α → List Value) (n : Nat) (h : ∀ x, (f x).length = n) (d : α) : ∀ (l : List α) (k j : Nat), j < n → k < l.length → (l.flatMap f)[k * n + j]? = (f (l.getD k d))[j]?
  | [], k, _, _, hk => by simp at hk
  | x :: l, 0, j, hj, _ => by
    rw [List.flatMap_cons, List.getElem?_append_left (by rw [h]; omega)]; simp
  | x :: l, k + 1, j, hj, hk => by
    rw [List.flatMap_cons, List.getElem?_append_right (by rw [h, Nat.succ_mul]; omega), h, Nat.succ_mul, show k * n + n + j - n = k * n + j by omega, flat_get f n h d l k j hj (by simpa using hk)]
    simp
theorem flat_drop {α : Type} (f : α → List Value) (n : Nat) (h : ∀ x, (f x).length = n) (d : α) (l : List α) (k : Nat) (hk : k < l.length) : ((l.flatMap f).drop (k * n)).take n = f (l.getD k d) := by
  refine List.ext_getElem? fun i => ?_
  rw [List.getElem?_take]
  split
  · rename_i hi
    rw [List.getElem?_drop, flat_get f n h d l k i hi hk]
  · rename_i hi
    rw [List.getElem?_eq_none (by rw [h]; omega)]
theorem flat_ld {α : Type} {m : Mem} {b : Nat} {blk : Blk} (f : α → List Value) (n : Nat) (h : ∀ x, (f x).length = n) (d : α) (l : List α) (hb : m.at b = some blk) (hc : blk.cells = l.flatMap f) (k : Nat) (hk : k < l.length) : m.ld b (k * n) n = some (f (l.getD k d)) := by
  have h1 := flat_len f n h l
  have h2 : k * n + n ≤ l.length * n := by rw [← Nat.succ_mul]; exact Nat.mul_le_mul_right _ hk
  unfold Mem.ld
  rw [hb]
  show (if k * n + n ≤ blk.cells.length then some ((blk.cells.drop (k * n)).take n) else none) = _
  rw [hc, if_pos (by omega), flat_drop f n h d l k hk]
theorem one_of_scal {cs : List Value} (h : cs.all Ab.scal = true) : cs.all Ab.one = true := List.all_eq_true.2 fun v hv => by
  have := List.all_eq_true.1 h v hv
  cases v <;> first | rfl | (simp [Ab.scal] at this)
section
variable {H : Type} {enc : TypeId × Value → H} {P : Program}
/-- A type of whole numbers of 64 bits alone. -/
def intsT (P : Program) : Nat → TypeId → Bool
  | 0, _ => false
  | d + 1, t => match P.underlying t with
    | some (.int .i64) => true
    | some (.struct fs) => (fs.all fun f => intsT P d f.type) && (List.range (P.cellsOf t)).all fun i => fs.any fun f => decide (f.offset ≤ i ∧ i < f.offset + P.cellsOf f.type)
    | some (.array n e) => intsT P d e && (P.cellsOf t == n * P.cellsOf e) && decide (0 < P.cellsOf e)
    | _ => false

theorem ints_of {w : World} {base : Nat} {spare : Nat → Bool} {held : Bool} : ∀ (d : Nat) (t : TypeId) (fuel : Nat) (cs : List Value) (x : DataW H × List MemPlace), intsT P d t = true → DataW.trod enc P w base spare held fuel t cs = some x → ∀ v ∈ cs, ∃ n, v = .int .i64 n ∧ (Lit.int .i64 n).wf = true
  | 0, _, _, _, _, h, _ => by simp [intsT] at h
  | d + 1, t, fuel, cs, x, h, ht => by
    unfold intsT at h
    cases hu : P.underlying t with
    | none => rw [hu] at h; cases h
    | some u =>
      rw [hu] at h
      cases u with
      | int k =>
        cases k <;> simp only at h <;> first | (cases h; done) | skip
        obtain ⟨n, rfl, _, hw⟩ := DataW.trod_int hu ht
        intro v hv
        rw [List.mem_singleton] at hv
        exact ⟨n, hv, hw⟩
      | struct fs =>
        simp only [Bool.and_eq_true] at h
        obtain ⟨xs, n, _, _, hlen, hxl, hf⟩ := DataW.trod_struct hu ht
        intro v hv
        obtain ⟨i, hi, rfl⟩ := List.getElem_of_mem hv
        have hc := List.all_eq_true.1 h.2 i (List.mem_range.2 (by rw [← hlen]; exact hi))
        obtain ⟨f, hfm, hfi⟩ := Array.any_eq_true'.1 hc
        simp only [decide_eq_true_eq] at hfi
        obtain ⟨j, hj⟩ := Array.getElem?_of_mem hfm
        have hft := Array.all_eq_true'.1 h.1 f hfm
        have hjl : j < fs.size := (Array.getElem?_eq_some_iff.1 hj).1
        have h1 := hf j f hj
        rw [List.getElem?_eq_getElem (by omega)] at h1
        refine ints_of d f.type n _ _ hft h1 _ ?_
        refine List.mem_iff_getElem?.2 ⟨i - f.offset, ?_⟩
        rw [List.getElem?_take, if_pos (by omega), List.getElem?_drop, show f.offset + (i - f.offset) = i by omega, List.getElem?_eq_getElem hi]
      | array n e =>
        simp only [Bool.and_eq_true, beq_iff_eq, decide_eq_true_eq] at h
        obtain ⟨⟨h1, h2⟩, h3⟩ := h
        cases fuel with
        | zero => simp [DataW.trod] at ht
        | succ m =>
          unfold DataW.trod at ht
          rw [hu] at ht
          simp only at ht
          split at ht
          · rename_i hlen
            simp only [Option.map_eq_some_iff] at ht
            obtain ⟨xs, hxs, _⟩ := ht
            intro v hv
            obtain ⟨i, hi, rfl⟩ := List.getElem_of_mem hv
            have hin : i / P.cellsOf e < n := by
              rw [hlen, h2] at hi
              exact Nat.div_lt_of_lt_mul (by rw [Nat.mul_comm]; exact hi)
            have hg := mapM_some_get hxs (i / P.cellsOf e) (i / P.cellsOf e) (by simp [hin])
            have hxl := mapM_some_length hxs
            rw [List.getElem?_eq_getElem (by rw [hxl]; simpa using hin)] at hg
            refine ints_of d e m _ _ h1 hg _ ?_
            refine List.mem_iff_getElem?.2 ⟨i % P.cellsOf e, ?_⟩
            have hmd := Nat.div_add_mod i (P.cellsOf e)
            rw [List.getElem?_take, if_pos (Nat.mod_lt _ h3), List.getElem?_drop, show i / P.cellsOf e * P.cellsOf e + i % P.cellsOf e = i by rw [Nat.mul_comm]; exact hmd, List.getElem?_eq_getElem hi]
          · cases ht
      | _ => simp at h
end

theorem wf_bd {n : Int} (h : (Lit.int .i64 n).wf = true) : -9223372036854775808 ≤ n ∧ n ≤ 9223372036854775807 := by
  exact bounds_i64 h

theorem spot_none {w : World} {a : Addr} {v : Value} (h : w.cell? a = some v) : a.spot = none := by
  unfold World.cell? at h
  split at h
  · split at h
    · cases h
    · rename_i hs; simpa using hs
  · cases h

def rdI (w : World) (a : Addr) : Int := match w.cell? a with | some (.int .i64 n) => n | _ => 0

section
variable {H : Type} {enc : TypeId × Value → H} {P : Program} {w : World} {base : Nat} {spare : Nat → Bool} {held : Bool}

end

/-- A value put into a row of values. -/
theorem flat_put {α : Type} (f : α → List Value) (n : Nat) (hn : 0 < n) (h : ∀ x, (f x).length = n) (d x : α) (l : List α) (k : Nat) (hk : k < l.length) : putAt (l.flatMap f) (k * n) (f x) = (l.set k x).flatMap f := by
  have h1 := flat_len f n h l
  have h2 := flat_len f n h (l.set k x)
  refine List.ext_getElem? fun i => ?_
  rw [putAt_get, h]
  by_cases hi : i < l.length * n
  · have hm : i % n < n := Nat.mod_lt _ hn
    have hd : i / n < l.length := Nat.div_lt_of_lt_mul (by rw [Nat.mul_comm]; exact hi)
    have e0 : i / n * n + i % n = i := by rw [Nat.mul_comm]; exact Nat.div_add_mod i n
    have g1 := flat_get f n h d l (i / n) (i % n) hm hd
    have g2 := flat_get f n h d (l.set k x) (i / n) (i % n) hm (by rw [List.length_set]; exact hd)
    rw [e0] at g1 g2
    rw [g1, g2]
    by_cases hki : k = i / n
    · subst hki
      rw [if_pos ⟨by omega, by omega, by omega⟩, show i - i / n * n = i % n by omega]
      rw [List.getD_eq_getElem?_getD, List.getElem?_set_self hd]
      rfl
    · have : ¬ (k * n ≤ i ∧ i < k * n + n ∧ i < (l.flatMap f).length) := fun ⟨a, b, _⟩ => hki (by
        have : i / n = k := by rw [Nat.div_eq_of_lt_le] <;> first | exact a | (rw [Nat.succ_mul]; exact b)
        omega)
      rw [if_neg this, List.getD_eq_getElem?_getD, List.getD_eq_getElem?_getD, List.getElem?_set_ne hki]
  · rw [if_neg (by omega), List.getElem?_eq_none (by omega), List.getElem?_eq_none (by rw [h2, List.length_set]; omega)]
end Go.Ls
