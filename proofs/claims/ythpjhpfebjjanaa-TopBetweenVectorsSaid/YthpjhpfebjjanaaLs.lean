/- Lists of values of whole numbers: in the small memory, and as arguments. -/
import Derived.ProofKit
import Derived.OpenShut
import Derived.Deep.Slices
import Derived.Test.YthpjhpfebjjanaaAbL
set_option linter.unusedSimpArgs false
set_option linter.unusedVariables false
namespace Go.Ls
open Go.ChangeShapes Go.WideShapes Go.ChangeAt Go Go.RowKit Go.Ab
set_option maxRecDepth 100000
theorem flat_len {α : Type} (f : α → List Value) (n : Nat) (h : ∀ x, (f x).length = n) : ∀ l : List α, (l.flatMap f).length = l.length * n
  | [] => by simp
  | x :: l => by rw [List.flatMap_cons, List.length_append, h, flat_len f n h l, List.length_cons, Nat.succ_mul]; omega
theorem flat_get {α : Type} (f : α → List Value) (n : Nat) (h : ∀ x, (f x).length = n) (d : α) : ∀ (l : List α) (k j : Nat), j < n → k < l.length → (l.flatMap f)[k * n + j]? = (f (l.getD k d))[j]?
  | [], k, _, _, hk => by simp at hk
  | x :: l, 0, j, hj, _ => by
    rw [List.flatMap_cons, List.getElem?_append_left (by rw [h]; omega)]; simp
  | x :: l, k + 1, j, hj, hk => by
    rw [List.flatMap_cons, List.getElem?_append_right (by rw [h, Nat.succ_mul]; omega), h, Nat.succ_mul, show k * n + n + j - n = k * n + j by omega, flat_get f n h d l k j hj (by simpa using hk)]
    simp
theorem flat_snoc {α : Type} (f : α → List Value) (l : List α) (x : α) : (l ++ [x]).flatMap f = l.flatMap f ++ f x := by simp
theorem flat_drop {α : Type} (f : α → List Value) (n : Nat) (h : ∀ x, (f x).length = n) (d : α) (l : List α) (k : Nat) (hk : k < l.length) : ((l.flatMap f).drop (k * n)).take n = f (l.getD k d) := by
  refine List.ext_getElem? fun i => ?_
  rw [List.getElem?_take]
  split
  · rename_i hi
    rw [List.getElem?_drop, flat_get f n h d l k i hi hk]
  · rename_i hi
    rw [List.getElem?_eq_none (by rw [h]; omega)]
theorem flat_scal {α : Type} (f : α → List Value) (h : ∀ x, (f x).all Ab.scal = true) (l : List α) : (l.flatMap f).all Ab.scal = true := List.all_eq_true.2 fun u hu => by
  obtain ⟨s, _, hs⟩ := List.mem_flatMap.1 hu
  exact List.all_eq_true.1 (h s) u hs
theorem flat_ld {α : Type} {m : Mem} {b : Nat} {blk : Blk} (f : α → List Value) (n : Nat) (h : ∀ x, (f x).length = n) (d : α) (l : List α) (hb : m.at b = some blk) (hc : blk.cells = l.flatMap f) (k : Nat) (hk : k < l.length) : m.ld b (k * n) n = some (f (l.getD k d)) := by
  have h1 := flat_len f n h l
  have h2 : k * n + n ≤ l.length * n := by rw [← Nat.succ_mul]; exact Nat.mul_le_mul_right _ hk
  unfold Mem.ld
  rw [hb]
  show (if k * n + n ≤ blk.cells.length then some ((blk.cells.drop (k * n)).take n) else none) = _
  rw [hc, if_pos (by omega), flat_drop f n h d l k hk]
theorem one_of_scal {cs : List Value} (h : cs.all Ab.scal = true) : cs.all Ab.one = true := List.all_eq_true.2 fun v hv => by
  have := List.all_eq_true.1 h v hv
  cases v <;> first | rfl | (simp [Ab.scal] at this)
section
variable {H : Type} {enc : TypeId × Value → H} {P : Program}
/-- A type of whole numbers of 64 bits alone. -/
def intsT (P : Program) : Nat → TypeId → Bool
  | 0, _ => false
  | d + 1, t => match P.underlying t with
    | some (.int .i64) => true
    | some (.struct fs) => (fs.all fun f => intsT P d f.type) && (List.range (P.cellsOf t)).all fun i => fs.any fun f => decide (f.offset ≤ i ∧ i < f.offset + P.cellsOf f.type)
    | some (.array n e) => intsT P d e && (P.cellsOf t == n * P.cellsOf e) && decide (0 < P.cellsOf e)
    | _ => false

theorem ints_of {w : World} {base : Nat} {spare : Nat → Bool} {held : Bool} : ∀ (d : Nat) (t : TypeId) (fuel : Nat) (cs : List Value) (x : DataW H × List MemPlace), intsT P d t = true → DataW.trod enc P w base spare held fuel t cs = some x → ∀ v ∈ cs, ∃ n, v = .int .i64 n ∧ (Lit.int .i64 n).wf = true
  | 0, _, _, _, _, h, _ => by simp [intsT] at h
  | d + 1, t, fuel, cs, x, h, ht => by
    unfold intsT at h
    cases hu : P.underlying t with
    | none => rw [hu] at h; cases h
    | some u =>
      rw [hu] at h
      cases u with
      | int k =>
        cases k <;> simp only at h <;> first | (cases h; done) | skip
        obtain ⟨n, rfl, _, hw⟩ := DataW.trod_int hu ht
        intro v hv
        rw [List.mem_singleton] at hv
        exact ⟨n, hv, hw⟩
      | struct fs =>
        simp only [Bool.and_eq_true] at h
        obtain ⟨xs, n, _, _, hlen, hxl, hf⟩ := DataW.trod_struct hu ht
        intro v hv
        obtain ⟨i, hi, rfl⟩ := List.getElem_of_mem hv
        have hc := List.all_eq_true.1 h.2 i (List.mem_range.2 (by rw [← hlen]; exact hi))
        obtain ⟨f, hfm, hfi⟩ := Array.any_eq_true'.1 hc
        simp only [decide_eq_true_eq] at hfi
        obtain ⟨j, hj⟩ := Array.getElem?_of_mem hfm
        have hft := Array.all_eq_true'.1 h.1 f hfm
        have hjl : j < fs.size := (Array.getElem?_eq_some_iff.1 hj).1
        have h1 := hf j f hj
        rw [List.getElem?_eq_getElem (by omega)] at h1
        refine ints_of d f.type n _ _ hft h1 _ ?_
        refine List.mem_iff_getElem?.2 ⟨i - f.offset, ?_⟩
        rw [List.getElem?_take, if_pos (by omega), List.getElem?_drop, show f.offset + (i - f.offset) = i by omega, List.getElem?_eq_getElem hi]
      | array n e =>
        simp only [Bool.and_eq_true, beq_iff_eq, decide_eq_true_eq] at h
        obtain ⟨⟨h1, h2⟩, h3⟩ := h
        cases fuel with
        | zero => simp [DataW.trod] at ht
        | succ m =>
          unfold DataW.trod at ht
          rw [hu] at ht
          simp only at ht
          split at ht
          · rename_i hlen
            simp only [Option.map_eq_some_iff] at ht
            obtain ⟨xs, hxs, _⟩ := ht
            intro v hv
            obtain ⟨i, hi, rfl⟩ := List.getElem_of_mem hv
            have hin : i / P.cellsOf e < n := by
              rw [hlen, h2] at hi
              exact Nat.div_lt_of_lt_mul (by rw [Nat.mul_comm]; exact hi)
            have hg := mapM_some_get hxs (i / P.cellsOf e) (i / P.cellsOf e) (by simp [hin])
            have hxl := mapM_some_length hxs
            rw [List.getElem?_eq_getElem (by rw [hxl]; simpa using hin)] at hg
            refine ints_of d e m _ _ h1 hg _ ?_
            refine List.mem_iff_getElem?.2 ⟨i % P.cellsOf e, ?_⟩
            have hmd := Nat.div_add_mod i (P.cellsOf e)
            rw [List.getElem?_take, if_pos (Nat.mod_lt _ h3), List.getElem?_drop, show i / P.cellsOf e * P.cellsOf e + i % P.cellsOf e = i by rw [Nat.mul_comm]; exact hmd, List.getElem?_eq_getElem hi]
          · cases ht
      | _ => simp at h
end

theorem wf_bd {n : Int} (h : (Lit.int .i64 n).wf = true) : -9223372036854775808 ≤ n ∧ n ≤ 9223372036854775807 := by
  exact bounds_i64 h

/-- Cells in a row, where a slice that is not empty points. -/
def SlX (w : World) (a : Option Addr) (cs : List Value) : Prop := cs ≠ [] → ∃ b off, a = some ⟨b, off, none⟩ ∧ b < w.heap.size ∧ ∀ j, j < cs.length → w.cell? ⟨b, off + j, none⟩ = cs[j]?

theorem spot_none {w : World} {a : Addr} {v : Value} (h : w.cell? a = some v) : a.spot = none := by
  unfold World.cell? at h
  split at h
  · split at h
    · cases h
    · rename_i hs; simpa using hs
  · cases h

def rdI (w : World) (a : Addr) : Int := match w.cell? a with | some (.int .i64 n) => n | _ => 0

section
variable {H : Type} {enc : TypeId × Value → H} {P : Program} {w : World} {base : Nat} {spare : Nat → Bool} {held : Bool}

/-- A slice of values of whole numbers alone, read. -/
theorem open_ints {α : Type} {t e : TypeId} {n : Nat} (c : α → List Value) (hc : ∀ x, (c x).length = n) (mk : (Nat → Int) → α) (hmk : ∀ f j, j < n → (c (mk f))[j]? = some (.int .i64 (f j))) (hu : P.underlying t = some (.slice e)) (hce : P.cellsOf e = n) (hn : 0 < n) (hi0 : intsT P 4 e = true)
    {fuel : Nat} {v : Value} {x : DataW H × List MemPlace} (h : DataW.trod enc P w base spare held fuel t [v] = some x) :
    ∃ a l cap, v = .slice a (List.length (α := α) l) cap ∧ l.length ≤ cap ∧ cap ≤ maxLen ∧ SlX w a (l.flatMap c) ∧ (a = none → cap = 0) ∧ ∀ y ∈ l, ∃ f, y = mk f ∧ ∀ j, j < n → -9223372036854775808 ≤ f j ∧ f j ≤ 9223372036854775807 := by
  rcases Go.Deep.open_slice hu h with ⟨h1, _⟩ | ⟨a, len, cap, m, k, D, Pl, hcs, hb, hl, hm, hmm, hx, hi⟩
  · simp only [List.cons.injEq, and_true] at h1
    subst h1
    exact ⟨none, [], 0, rfl, by simp, by simp [maxLen], fun h => absurd rfl h, fun _ => rfl, by simp⟩
  · simp only [List.cons.injEq, and_true] at hcs
    subst hcs
    have hlm : len ≤ m := by rw [hmm]; split <;> omega
    let F : Nat → Nat → Int := fun i j => rdI w ((a.add (i * n)).add j)
    let L := (List.range len).map fun i => mk (F i)
    have hL : L.length = len := by simp [L]
    have hcell : ∀ i, i < len → ∀ j, j < n → w.cell? ((a.add (i * n)).add j) = some (.int .i64 (F i j)) ∧ -9223372036854775808 ≤ F i j ∧ F i j ≤ 9223372036854775807 := by
      intro i hil j hj
      obtain ⟨cs', hc', ht'⟩ := hi i (by omega)
      rw [hce] at hc'
      obtain ⟨_, hcl, hat⟩ := World.cells?_some hc'
      obtain ⟨z, hz, hw⟩ := ints_of 4 _ _ _ _ hi0 ht' (cs'[j]'(by omega)) (List.getElem_mem _)
      have hce' : w.cell? ((a.add (i * n)).add j) = some (.int .i64 z) := by rw [hat j hj, List.getElem?_eq_getElem (by omega), hz]
      have : F i j = z := by simp only [F, rdI, hce']
      rw [this]
      exact ⟨hce', wf_bd hw⟩
    refine ⟨some a, L, cap, by rw [hL], by omega, hm, fun hne => ?_, (fun h => by cases h), fun y hy => ?_⟩
    · have hpos : 0 < len := by
        rcases Nat.eq_zero_or_pos len with h0 | h0
        · have : L = [] := List.eq_nil_of_length_eq_zero (by rw [hL]; exact h0)
          rw [this] at hne
          exact absurd rfl hne
        · exact h0
      have hz0 := (hcell 0 hpos 0 hn).1
      have hs : a.spot = none := by
        have := spot_none hz0
        simpa [Addr.add] using this
      obtain ⟨b, off, sp⟩ := a
      simp only at hs
      subst hs
      refine ⟨b, off, rfl, World.block_lt_of_cell? w _ (by simpa [Addr.add] using hz0), fun j hj => ?_⟩
      rw [flat_len c n hc, hL] at hj
      have hjn : j % n < n := Nat.mod_lt _ hn
      have hjd : j / n < len := Nat.div_lt_of_lt_mul (by rw [Nat.mul_comm]; exact hj)
      have e0 : j / n * n + j % n = j := by rw [Nat.mul_comm]; exact Nat.div_add_mod j n
      have g := (hcell (j / n) hjd (j % n) hjn).1
      have e1 : ((⟨b, off, none⟩ : Addr).add (j / n * n)).add (j % n) = ⟨b, off + j, none⟩ := by
        unfold Addr.add
        by_cases h1 : j / n * n = 0 <;> by_cases h2 : j % n = 0 <;> simp [h1, h2] <;> omega
      rw [e1] at g
      rw [g]
      have := flat_get c n hc (mk (F 0)) L (j / n) (j % n) hjn (by rw [hL]; exact hjd)
      rw [e0] at this
      rw [this, show L.getD (j / n) (mk (F 0)) = mk (F (j / n)) by simp [L, List.getD_eq_getElem?_getD, hjd], hmk _ _ hjn]
    · obtain ⟨i, hi1, rfl⟩ := List.mem_map.1 hy
      exact ⟨_, rfl, fun j hj => (hcell i (List.mem_range.1 hi1) j hj).2⟩
end

/-- Where cells lie. -/
def plX (a : Option Addr) (cs : List Value) : Option Pl := if cs = [] then none else a.map fun x => ⟨x.block, x.off, 0, 0⟩
/-- What is there. -/
def blX (cs : List Value) : Option Blk := if cs = [] then none else some ⟨cs, false, 0⟩
def vaX (i n : Nat) (z : Bool) : Value := if n = 0 then (if z then .slice none 0 0 else lostV) else .slice (some ⟨i, 0, none⟩) n INF
theorem vaX_rel {w : World} {ρ : Ren} {i n : Nat} {a : Option Addr} {cs : List Value} {cap : Nat} (hS : SlX w a cs) (hn : cs = [] ↔ n = 0) (hc : n ≤ cap) (hz : a = none → cap = 0) (hρ : ρ i = plX a cs) : VRel ρ (vaX i n a.isNone) (.slice a n cap) := by
  unfold vaX
  by_cases hl : n = 0
  · rw [if_pos hl]
    subst hl
    cases a with
    | none => rw [hz rfl]; exact .scal rfl
    | some a => exact .lost
  · rw [if_neg hl]
    have hne : cs ≠ [] := fun h => hl (hn.1 h)
    obtain ⟨b, off, rfl, hb, hm⟩ := hS hne
    unfold plX at hρ
    rw [if_neg hne] at hρ
    have := VRel.slice (ρ := ρ) (b := i) (o := 0) (n := n) (c := INF) (c' := cap) hρ hc (fun h => absurd h (by decide)) (fun h => absurd rfl h)
    simpa using this
theorem blX_rel {w : World} {ρ : Ren} {i : Nat} {a : Option Addr} {cs : List Value} (hs : cs.all scal = true) (hS : SlX w a cs) (hρ : ρ i = plX a cs) {blk : Blk} (hb : blX cs = some blk) : ∃ pl, ρ i = some pl ∧ BRel ρ blk pl w := by
  unfold blX at hb
  split at hb
  · cases hb
  · rename_i hl
    cases hb
    obtain ⟨b, off, rfl, hbw, hcell⟩ := hS hl
    unfold plX at hρ
    rw [if_neg hl] at hρ
    have hp : 0 < cs.length := List.length_pos_iff.2 hl
    have h0 := hcell 0 hp
    simp only [World.cell?] at h0
    refine ⟨_, hρ, ?_⟩
    cases ho : w.heap[b]? with
    | none => rw [ho] at h0; simp [List.getElem?_eq_getElem hp] at h0
    | some o =>
      cases o with
      | cells c ty fr =>
        refine ⟨c, ty, fr, ho, rfl, fun i v hv => ?_, fun h => by cases h⟩
        have hi := (List.getElem?_eq_some_iff.1 hv).1
        have := hcell i hi
        simp only [World.cell?, ho] at this
        rw [hv] at this
        exact ⟨v, by simpa [Nat.add_comm] using this, .scal (List.all_eq_true.1 hs v (List.mem_of_getElem? hv))⟩
      | _ => rw [ho] at h0; simp [List.getElem?_eq_getElem hp] at h0
theorem blX_ro (cs : List Value) (b : Blk) (h : blX cs = some b) : b.own = false := by
  unfold blX at h
  split at h
  · cases h
  · cases h; rfl

/-- A value put into a row of values. -/
theorem flat_put {α : Type} (f : α → List Value) (n : Nat) (hn : 0 < n) (h : ∀ x, (f x).length = n) (d x : α) (l : List α) (k : Nat) (hk : k < l.length) : putAt (l.flatMap f) (k * n) (f x) = (l.set k x).flatMap f := by
  have h1 := flat_len f n h l
  have h2 := flat_len f n h (l.set k x)
  refine List.ext_getElem? fun i => ?_
  rw [putAt_get, h]
  by_cases hi : i < l.length * n
  · have hm : i % n < n := Nat.mod_lt _ hn
    have hd : i / n < l.length := Nat.div_lt_of_lt_mul (by rw [Nat.mul_comm]; exact hi)
    have e0 : i / n * n + i % n = i := by rw [Nat.mul_comm]; exact Nat.div_add_mod i n
    have g1 := flat_get f n h d l (i / n) (i % n) hm hd
    have g2 := flat_get f n h d (l.set k x) (i / n) (i % n) hm (by rw [List.length_set]; exact hd)
    rw [e0] at g1 g2
    rw [g1, g2]
    by_cases hki : k = i / n
    · subst hki
      rw [if_pos ⟨by omega, by omega, by omega⟩, show i - i / n * n = i % n by omega]
      rw [List.getD_eq_getElem?_getD, List.getElem?_set_self hd]
      rfl
    · have : ¬ (k * n ≤ i ∧ i < k * n + n ∧ i < (l.flatMap f).length) := fun ⟨a, b, _⟩ => hki (by
        have : i / n = k := by rw [Nat.div_eq_of_lt_le] <;> first | exact a | (rw [Nat.succ_mul]; exact b)
        omega)
      rw [if_neg this, List.getD_eq_getElem?_getD, List.getD_eq_getElem?_getD, List.getElem?_set_ne hki]
  · rw [if_neg (by omega), List.getElem?_eq_none (by omega), List.getElem?_eq_none (by rw [h2, List.length_set]; omega)]
/-- A list of which the first k values are others. -/
def chg {α : Type} (d : α) (g : Nat → α) (l : List α) (k : Nat) : List α := (List.range l.length).map fun i => if i < k then g i else l.getD i d
theorem chg_len {α : Type} (d : α) (g : Nat → α) (l : List α) (k : Nat) : (chg d g l k).length = l.length := by simp [chg]
theorem chg_at {α : Type} (d : α) (g : Nat → α) (l : List α) (k i : Nat) (h : i < l.length) : (chg d g l k).getD i d = if i < k then g i else l.getD i d := by
  unfold chg
  rw [List.getD_eq_getElem?_getD, List.getElem?_map, List.getElem?_range h]
  rfl
theorem chg_0 {α : Type} (d : α) (g : Nat → α) (l : List α) : chg d g l 0 = l := by
  refine List.ext_getElem? fun i => ?_
  by_cases h : i < l.length
  · unfold chg
    rw [List.getElem?_map, List.getElem?_range h, List.getElem?_eq_getElem h]
    simp [List.getD_eq_getElem?_getD, h]
  · rw [List.getElem?_eq_none (by rw [chg_len]; omega), List.getElem?_eq_none (by omega)]
theorem chg_succ {α : Type} (d : α) (g : Nat → α) (l : List α) (k : Nat) (hk : k < l.length) : chg d g l (k + 1) = (chg d g l k).set k (g k) := by
  refine List.ext_getElem? fun i => ?_
  rw [List.getElem?_set, chg_len, if_pos hk]
  by_cases h : i < l.length
  · unfold chg
    rw [List.getElem?_map, List.getElem?_range h, List.getElem?_map, List.getElem?_range h]
    simp only [Option.map_some]
    by_cases hi : k = i
    · subst hi
      rw [if_pos (by omega), if_pos rfl]
    · rw [if_neg hi]
      by_cases h2 : i < k
      · rw [if_pos (by omega), if_pos h2]
      · rw [if_neg (by omega), if_neg h2]
  · rw [List.getElem?_eq_none (by rw [chg_len]; omega), if_neg (by omega), List.getElem?_eq_none (by rw [chg_len]; omega)]
end Go.Ls
