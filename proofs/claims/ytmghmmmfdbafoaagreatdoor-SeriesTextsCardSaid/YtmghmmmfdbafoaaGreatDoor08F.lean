/- Chapter 8: rows of values in the small memory. -/
import Derived.Test.YtmghmmmfdbafoaaGreatDoor08N
import Derived.Test.YtmghmmmfdbafoaaGreatDoor08S
import Derived.Test.YtmghmmmfdbafoaaGreatDoorAbD
set_option linter.unusedSimpArgs false
set_option linter.unusedVariables false
namespace Go.Proofs.YtmghmmmfdbafoaaGreatDoor
open Go Go.RowKit Go.Ab Go.Sr
set_option maxRecDepth 100000

theorem flat_len {α : Type} (f : α → List Value) (n : Nat) (h : ∀ x, (f x).length = n) : ∀ l : List α, (l.flatMap f).length = l.length * n
  | [] => by simp
  | x :: l => by rw [List.flatMap_cons, List.length_append, h, flat_len f n h l, List.length_cons, Nat.succ_mul]; omega
theorem flat_get {α : Type} (f : α → List Value) (n : Nat) (h : ∀ x, (f x).length = n) (d : α) : ∀ (l : List α) (k j : Nat), j < n → k < l.length → (l.flatMap f)[k * n + j]? = (f (l.getD k d))[j]?
  | [], k, _, _, hk => by simp at hk
  | x :: l, 0, j, hj, _ => by
    rw [List.flatMap_cons, List.getElem?_append_left (by rw [h]; omega)]; simp
  | x :: l, k + 1, j, hj, hk => by
    rw [List.flatMap_cons, List.getElem?_append_right (by rw [h, Nat.succ_mul]; omega), h, Nat.succ_mul, show k * n + n + j - n = k * n + j by omega, flat_get f n h d l k j hj (by simpa using hk)]
    simp
theorem flat_snoc {α : Type} (f : α → List Value) (l : List α) (x : α) : (l ++ [x]).flatMap f = l.flatMap f ++ f x := by simp
theorem flat_drop {α : Type} (f : α → List Value) (n : Nat) (h : ∀ x, (f x).length = n) (d : α) (l : List α) (k : Nat) (hk : k < l.length) : ((l.flatMap f).drop (k * n)).take n = f (l.getD k d) := by
  refine List.ext_getElem? fun i => ?_
  rw [List.getElem?_take]
  split
  · rename_i hi
    rw [List.getElem?_drop, flat_get f n h d l k i hi hk]
  · rename_i hi
    rw [List.getElem?_eq_none (by rw [h]; omega)]
theorem flat_scal {α : Type} (f : α → List Value) (h : ∀ x, (f x).all Ab.scal = true) (l : List α) : (l.flatMap f).all Ab.scal = true := List.all_eq_true.2 fun u hu => by
  obtain ⟨s, _, hs⟩ := List.mem_flatMap.1 hu
  exact List.all_eq_true.1 (h s) u hs
theorem flat_ld {α : Type} {m : Mem} {b : Nat} {blk : Blk} (f : α → List Value) (n : Nat) (h : ∀ x, (f x).length = n) (d : α) (l : List α) (hb : m.at b = some blk) (hc : blk.cells = l.flatMap f) (k : Nat) (hk : k < l.length) : m.ld b (k * n) n = some (f (l.getD k d)) := by
  have h1 := flat_len f n h l
  have h2 : k * n + n ≤ l.length * n := by rw [← Nat.succ_mul]; exact Nat.mul_le_mul_right _ hk
  unfold Mem.ld
  rw [hb]
  show (if k * n + n ≤ blk.cells.length then some ((blk.cells.drop (k * n)).take n) else none) = _
  rw [hc, if_pos (by omega), flat_drop f n h d l k hk]
theorem one_of_scal {cs : List Value} (h : cs.all Ab.scal = true) : cs.all Ab.one = true := List.all_eq_true.2 fun v hv => by
  have := List.all_eq_true.1 h v hv
  cases v <;> first | rfl | (simp [Ab.scal] at this)
theorem ok1_of_scal {n : Nat} {cs : List Value} (h : cs.all scal = true) : cs.all (ok1 n) = true := List.all_eq_true.2 fun v hv => by
  have := List.all_eq_true.1 h v hv
  unfold ok1
  split <;> first | exact this | (simp [Ab.scal] at this)
theorem ro1 (b : Blk) (h : b.own = false) : Mem.ro [some b] := fun k blk hk => by
  have := Mem.at_lt hk
  simp at this
  subst this
  simp [Mem.at] at hk
  rw [← hk, h]
theorem ro2 (b c : Blk) (h : b.own = false) (h' : c.own = false) : Mem.ro [some b, some c] := fun k blk hk => by
  have := Mem.at_lt hk
  match k, this with
  | 0, _ => simp [Mem.at] at hk; rw [← hk, h]
  | 1, _ => simp [Mem.at] at hk; rw [← hk, h']
  | k + 2, h => exact absurd (show k + 2 < 2 from h) (by omega)
theorem ro3 (b c d : Blk) (h : b.own = false) (h' : c.own = false) (h'' : d.own = false) : Mem.ro [some b, some c, some d] := fun k blk hk => by
  have := Mem.at_lt hk
  match k, this with
  | 0, _ => simp [Mem.at] at hk; rw [← hk, h]
  | 1, _ => simp [Mem.at] at hk; rw [← hk, h']
  | 2, _ => simp [Mem.at] at hk; rw [← hk, h'']
  | k + 3, h => exact absurd (show k + 3 < 3 from h) (by omega)
/-- A function that reads one block of numbers. -/
theorem PCalls.via1 {P : Program} {f : FuncId} {args0 args : List Value} {cs : List Value} {v : Value} {m : Mem} {b : Nat} {blk : Blk} (h : ∀ z, PCalls P f args0 [some ⟨cs, false, z⟩] v) (hb : m.at b = some blk) (hc : blk.cells = cs) (hs : cs.all scal = true)
    (hargs : args0.map (rn3 fun _ => b) = args) (hk : args0.all (ok3 1) = true) (hv : rn3 (fun _ => b) v = v) (hkv : ok3 1 v = true) : PCalls P f args m v := by
  refine PCalls.via (fun _ => b) (h blk.esz) (fun x bk hx => ?_) hargs hk hv hkv
  have := Mem.at_lt hx
  simp at this
  subst this
  simp [Mem.at] at hx
  subst hx
  refine ⟨rfl, ok1_of_scal hs, blk, hb, rfl, fun i v hv => ?_⟩
  rw [hc, rn1_scal (List.all_eq_true.1 hs v (List.mem_of_getElem? hv))]
  exact hv
/-- A function that reads one block of numbers and makes one. -/
theorem ACalls.via1 {P : Program} {f : FuncId} {args0 args : List Value} {cs cs' : List Value} {z' : Nat} {v0 v : Value} {m : Mem} {b : Nat} {blk : Blk} (hb : m.at b = some blk) (hc : blk.cells = cs) (hs : cs.all scal = true) (hs' : cs'.all scal = true)
    (h : ∀ z, ACalls P f args0 [some ⟨cs, false, z⟩] v0 [some ⟨cs, false, z⟩, some ⟨cs', true, z'⟩])
    (hargs : args0.map (rn3 fun _ => b) = args) (hk : args0.all (ok3 1) = true) (hv : rn3 (τn (fun _ => b) 1 m.length) v0 = v) (hkv : ok3 2 v0 = true) : ACalls P f args m v (m ++ [some ⟨cs', true, z'⟩]) := by
  refine ACalls.viaN (m0 := [some ⟨cs, false, blk.esz⟩]) (x := some ⟨cs', true, z'⟩) (fun _ => b) (h blk.esz) (fun x bk hx => ?_) (fun x hx => ?_) (fun bk hx => by cases hx; exact ⟨rfl, hs'⟩) hargs hk hv hkv
  · have := Mem.at_lt hx
    simp at this
    subst this
    simp [Mem.at] at hx
    subst hx
    refine ⟨rfl, ok1_of_scal hs, blk, hb, rfl, fun i v hv => ?_⟩
    rw [hc, rn1_scal (List.all_eq_true.1 hs v (List.mem_of_getElem? hv))]
    exact hv
  · simp at hx; subst hx; exact ⟨_, rfl⟩

/-- Dates, numbers, rows, fractions in cells. -/
def epC (e : Ep) : List Value := [.int .i64 e.d, .int .i64 e.b, .int .i64 e.p, .int .i64 e.m]
def intC (n : Int) : List Value := [.int .i64 n]
def v3C (v : V3) : List Value := [.int .i64 v.1, .int .i64 v.2.1, .int .i64 v.2.2]
def frC (f : Int × Int) : List Value := [.int .i64 f.1, .int .i64 f.2]
def flatE (l : List Ep) : List Value := l.flatMap epC
def flatI (l : List Int) : List Value := l.flatMap intC
def flatV (l : List V3) : List Value := l.flatMap v3C
def flatF (l : List (Int × Int)) : List Value := l.flatMap frC
theorem flatE_len (l : List Ep) : (flatE l).length = l.length * 4 := flat_len epC 4 (fun _ => rfl) l
theorem flatI_len (l : List Int) : (flatI l).length = l.length * 1 := flat_len intC 1 (fun _ => rfl) l
theorem flatV_len (l : List V3) : (flatV l).length = l.length * 3 := flat_len v3C 3 (fun _ => rfl) l
theorem flatF_len (l : List (Int × Int)) : (flatF l).length = l.length * 2 := flat_len frC 2 (fun _ => rfl) l
theorem flatE_scal (l : List Ep) : (flatE l).all Ab.scal = true := flat_scal epC (fun _ => rfl) l
theorem flatI_scal (l : List Int) : (flatI l).all Ab.scal = true := flat_scal intC (fun _ => rfl) l
theorem flatV_scal (l : List V3) : (flatV l).all Ab.scal = true := flat_scal v3C (fun _ => rfl) l
theorem flatF_scal (l : List (Int × Int)) : (flatF l).all Ab.scal = true := flat_scal frC (fun _ => rfl) l
theorem flatE_snoc (l : List Ep) (e : Ep) : flatE (l ++ [e]) = flatE l ++ epC e := flat_snoc epC l e
theorem flatI_snoc (l : List Int) (e : Int) : flatI (l ++ [e]) = flatI l ++ [.int .i64 e] := flat_snoc intC l e
theorem flatV_snoc (l : List V3) (e : V3) : flatV (l ++ [e]) = flatV l ++ v3C e := flat_snoc v3C l e
theorem flatF_snoc (l : List (Int × Int)) (e : Int × Int) : flatF (l ++ [e]) = flatF l ++ frC e := flat_snoc frC l e
theorem flatE_get (l : List Ep) (k j : Nat) (hj : j < 4) (hk : k < l.length) : (flatE l)[k * 4 + j]? = (epC (ep l k))[j]? := flat_get epC 4 (fun _ => rfl) Ep0 l k j hj hk
theorem flatI_get (l : List Int) (k : Nat) (hk : k < l.length) : (flatI l)[k * 1]? = some (.int .i64 (l.getD k 0)) := flat_get intC 1 (fun _ => rfl) 0 l k 0 (by decide) hk
theorem flatE_ld {m : Mem} {b : Nat} {blk : Blk} {l : List Ep} (hb : m.at b = some blk) (hc : blk.cells = flatE l) (k : Nat) (hk : k < l.length) : m.ld b (k * 4) 4 = some [.int .i64 (ep l k).d, .int .i64 (ep l k).b, .int .i64 (ep l k).p, .int .i64 (ep l k).m] := flat_ld epC 4 (fun _ => rfl) Ep0 l hb hc k hk
theorem flatV_ld {m : Mem} {b : Nat} {blk : Blk} {l : List V3} (hb : m.at b = some blk) (hc : blk.cells = flatV l) (k : Nat) (hk : k < l.length) : m.ld b (k * 3) 3 = some [.int .i64 (gv l k).1, .int .i64 (gv l k).2.1, .int .i64 (gv l k).2.2] := flat_ld v3C 3 (fun _ => rfl) (0, 0, 0) l hb hc k hk
end Go.Proofs.YtmghmmmfdbafoaaGreatDoor
