/- Chapter 8: how series and lists that are arguments lie in the small memory. -/
import Derived.Test.YtmghmmmfdbafoaaGreatDoor08G
import Derived.Test.YtmghmmmfdbafoaaGreatDoor08q
set_option linter.unusedSimpArgs false
set_option linter.unusedVariables false
namespace Go.Proofs.YtmghmmmfdbafoaaGreatDoor
open Go.ChangeShapes Go.WideShapes Go.ChangeAt Go Go.RowKit Go.Ab Go.Sr
set_option maxRecDepth 100000

/-- Cells in a row, where a slice that is not empty points. -/
def SlX (w : World) (a : Option Addr) (cs : List Value) : Prop := cs ≠ [] → ∃ b off, a = some ⟨b, off, none⟩ ∧ b < w.heap.size ∧ ∀ j, j < cs.length → w.cell? ⟨b, off + j, none⟩ = cs[j]?

theorem spot_none {w : World} {a : Addr} {v : Value} (h : w.cell? a = some v) : a.spot = none := by
  unfold World.cell? at h
  split at h
  · split at h
    · cases h
    · rename_i hs; simpa using hs
  · cases h

def rdI (w : World) (a : Addr) : Int := match w.cell? a with | some (.int .i64 n) => n | _ => 0

section
variable {H : Type} {enc : TypeId × Value → H} {w : World} {base : Nat} {spare : Nat → Bool} {held : Bool}

/-- A slice of values of whole numbers alone, read. -/
theorem open_ints {α : Type} {t e : TypeId} {n : Nat} (c : α → List Value) (hc : ∀ x, (c x).length = n) (mk : (Nat → Int) → α) (hmk : ∀ f j, j < n → (c (mk f))[j]? = some (.int .i64 (f j))) (hu : Tryz.prog.underlying t = some (.slice e)) (hce : Tryz.prog.cellsOf e = n) (hn : 0 < n) (hi0 : intsT Tryz.prog 4 e = true)
    {fuel : Nat} {v : Value} {x : DataW H × List MemPlace} (h : DataW.trod enc Tryz.prog w base spare held fuel t [v] = some x) :
    ∃ a l cap, v = .slice a (List.length (α := α) l) cap ∧ l.length ≤ cap ∧ cap ≤ maxLen ∧ SlX w a (l.flatMap c) ∧ (a = none → cap = 0) ∧ ∀ y ∈ l, ∃ f, y = mk f ∧ ∀ j, j < n → -9223372036854775808 ≤ f j ∧ f j ≤ 9223372036854775807 := by
  rcases Go.Deep.open_slice hu h with ⟨h1, _⟩ | ⟨a, len, cap, m, k, D, Pl, hcs, hb, hl, hm, hmm, hx, hi⟩
  · simp only [List.cons.injEq, and_true] at h1
    subst h1
    exact ⟨none, [], 0, rfl, by simp, by simp [maxLen], fun h => absurd rfl h, fun _ => rfl, by simp⟩
  · simp only [List.cons.injEq, and_true] at hcs
    subst hcs
    have hlm : len ≤ m := by rw [hmm]; split <;> omega
    let F : Nat → Nat → Int := fun i j => rdI w ((a.add (i * n)).add j)
    let L := (List.range len).map fun i => mk (F i)
    have hL : L.length = len := by simp [L]
    have hcell : ∀ i, i < len → ∀ j, j < n → w.cell? ((a.add (i * n)).add j) = some (.int .i64 (F i j)) ∧ -9223372036854775808 ≤ F i j ∧ F i j ≤ 9223372036854775807 := by
      intro i hil j hj
      obtain ⟨cs', hc', ht'⟩ := hi i (by omega)
      rw [hce] at hc'
      obtain ⟨_, hcl, hat⟩ := World.cells?_some hc'
      obtain ⟨z, hz, hw⟩ := ints_of 4 _ _ _ _ hi0 ht' (cs'[j]'(by omega)) (List.getElem_mem _)
      have hce' : w.cell? ((a.add (i * n)).add j) = some (.int .i64 z) := by rw [hat j hj, List.getElem?_eq_getElem (by omega), hz]
      have : F i j = z := by simp only [F, rdI, hce']
      rw [this]
      exact ⟨hce', wf_bd hw⟩
    refine ⟨some a, L, cap, by rw [hL], by omega, hm, fun hne => ?_, (fun h => by cases h), fun y hy => ?_⟩
    · have hpos : 0 < len := by
        rcases Nat.eq_zero_or_pos len with h0 | h0
        · have : L = [] := List.eq_nil_of_length_eq_zero (by rw [hL]; exact h0)
          rw [this] at hne
          exact absurd rfl hne
        · exact h0
      have hz0 := (hcell 0 hpos 0 hn).1
      have hs : a.spot = none := by
        have := spot_none hz0
        simpa [Addr.add] using this
      obtain ⟨b, off, sp⟩ := a
      simp only at hs
      subst hs
      refine ⟨b, off, rfl, World.block_lt_of_cell? w _ (by simpa [Addr.add] using hz0), fun j hj => ?_⟩
      rw [flat_len c n hc, hL] at hj
      have hjn : j % n < n := Nat.mod_lt _ hn
      have hjd : j / n < len := Nat.div_lt_of_lt_mul (by rw [Nat.mul_comm]; exact hj)
      have e0 : j / n * n + j % n = j := by rw [Nat.mul_comm]; exact Nat.div_add_mod j n
      have g := (hcell (j / n) hjd (j % n) hjn).1
      have e1 : ((⟨b, off, none⟩ : Addr).add (j / n * n)).add (j % n) = ⟨b, off + j, none⟩ := by
        unfold Addr.add
        by_cases h1 : j / n * n = 0 <;> by_cases h2 : j % n = 0 <;> simp [h1, h2] <;> omega
      rw [e1] at g
      rw [g]
      have := flat_get c n hc (mk (F 0)) L (j / n) (j % n) hjn (by rw [hL]; exact hjd)
      rw [e0] at this
      rw [this, show L.getD (j / n) (mk (F 0)) = mk (F (j / n)) by simp [L, List.getD_eq_getElem?_getD, hjd], hmk _ _ hjn]
    · obtain ⟨i, hi1, rfl⟩ := List.mem_map.1 hy
      exact ⟨_, rfl, fun j hj => (hcell i (List.mem_range.1 hi1) j hj).2⟩
end

/-- Where cells lie. -/
def plX (a : Option Addr) (cs : List Value) : Option Pl := if cs = [] then none else a.map fun x => ⟨x.block, x.off, 0, 0⟩
/-- What is there. -/
def blX (cs : List Value) : Option Blk := if cs = [] then none else some ⟨cs, false, 0⟩
def vaX (i n : Nat) (z : Bool) : Value := if n = 0 then (if z then .slice none 0 0 else lostS) else .slice (some ⟨i, 0, none⟩) n INF
theorem vaX_rel {w : World} {ρ : Ren} {i n : Nat} {a : Option Addr} {cs : List Value} {cap : Nat} (hS : SlX w a cs) (hn : cs = [] ↔ n = 0) (hc : n ≤ cap) (hz : a = none → cap = 0) (hρ : ρ i = plX a cs) : VRel ρ (vaX i n a.isNone) (.slice a n cap) := by
  unfold vaX
  by_cases hl : n = 0
  · rw [if_pos hl]
    subst hl
    cases a with
    | none => rw [hz rfl]; exact .scal rfl
    | some a => exact .lost
  · rw [if_neg hl]
    have hne : cs ≠ [] := fun h => hl (hn.1 h)
    obtain ⟨b, off, rfl, hb, hm⟩ := hS hne
    unfold plX at hρ
    rw [if_neg hne] at hρ
    have := VRel.slice (ρ := ρ) (b := i) (o := 0) (n := n) (c := INF) (c' := cap) hρ hc (fun h => absurd h (by decide)) (fun h => absurd rfl h)
    simpa using this
theorem blX_rel {w : World} {ρ : Ren} {i : Nat} {a : Option Addr} {cs : List Value} (hs : cs.all scal = true) (hS : SlX w a cs) (hρ : ρ i = plX a cs) {blk : Blk} (hb : blX cs = some blk) : ∃ pl, ρ i = some pl ∧ BRel ρ blk pl w := by
  unfold blX at hb
  split at hb
  · cases hb
  · rename_i hl
    cases hb
    obtain ⟨b, off, rfl, hbw, hcell⟩ := hS hl
    unfold plX at hρ
    rw [if_neg hl] at hρ
    have hp : 0 < cs.length := List.length_pos_iff.2 hl
    have h0 := hcell 0 hp
    simp only [World.cell?] at h0
    refine ⟨_, hρ, ?_⟩
    cases ho : w.heap[b]? with
    | none => rw [ho] at h0; simp [List.getElem?_eq_getElem hp] at h0
    | some o =>
      cases o with
      | cells c ty fr =>
        refine ⟨c, ty, fr, ho, rfl, fun i v hv => ?_, fun h => by cases h⟩
        have hi := (List.getElem?_eq_some_iff.1 hv).1
        have := hcell i hi
        simp only [World.cell?, ho] at this
        rw [hv] at this
        exact ⟨v, by simpa [Nat.add_comm] using this, .scal (List.all_eq_true.1 hs v (List.mem_of_getElem? hv))⟩
      | _ => rw [ho] at h0; simp [List.getElem?_eq_getElem hp] at h0
theorem blX_ro (cs : List Value) (b : Blk) (h : blX cs = some b) : b.own = false := by
  unfold blX at h
  split at h
  · cases h
  · cases h; rfl

/-- Arguments of which one list is in memory. -/
theorem glueX {f : FuncId} {args : List Value} {vals : Array Value} {a : Option Addr} {cs : List Value} {w : World} (hs : cs.all scal = true) (hS : SlX w a cs) (hv : ∀ ρ : Ren, ρ 0 = plX a cs → VRel ρ (.tuple args.toArray) (.tuple vals))
    (h : PCalls Tryz.prog f args [blX cs] (.bool true)) : Calls Tryz.prog f vals w fun e w' => e = .returned (.bool true) ∧ Below w.heap.size w w' := by
  refine (h (fun b => if b = 0 then plX a cs else none) _ w (fun b pl hb => ?_) (hv _ rfl) (fun b blk hb => ?_)).mono fun e w' ⟨v', he, hr, hb⟩ => ⟨by rw [he, hr.bool], hb⟩
  · have hb' : (if b = 0 then plX a cs else none) = some pl := hb
    split at hb'
    · simp; omega
    · cases hb'
  · have hlt := Mem.at_lt hb
    match b, hlt with
    | 0, _ =>
      obtain ⟨pl, k1, k2⟩ := blX_rel (ρ := fun b => if b = 0 then plX a cs else none) (i := 0) hs hS rfl hb
      exact ⟨pl, k1, k2, fun ho => by rw [blX_ro _ _ hb] at ho; cases ho⟩
    | b + 1, h => simp at h

/- series -/
def mkE (f : Nat → Int) : Ep := ⟨f 0, f 1, f 2, f 3⟩
theorem cells_se : Tryz.prog.cellsOf 64 = 4 := by kernel_rfl
theorem ints_se : intsT Tryz.prog 4 64 = true := by kernel_rfl
theorem cells_sp : Tryz.prog.cellsOf 24 = 2 := by kernel_rfl
theorem open_S {H : Type} {enc : TypeId × Value → H} {w : World} {base : Nat} {spare : Nat → Bool} {held : Bool} {r : Reach} {b0 : Nat} {v : Value} {d : DataW H} {p : List MemPlace} (hv : Value.okWide Tryz.prog w r b0 24 v) (h : DataW.Trod enc Tryz.prog w base spare held 24 v d p) :
    ∃ nm a l cap, v = .agg #[.string nm, .slice a (List.length (α := Ep) l) cap] ∧ nm.size ≤ maxLen ∧ l.length ≤ cap ∧ cap ≤ maxLen ∧ SlX w a (flatE l) ∧ (a = none → cap = 0) := by
  obtain ⟨cs, rfl, hsz⟩ := okWide_struct Tryz.underlying24 hv
  obtain ⟨l⟩ := cs
  match l, hsz.trans cells_sp with
  | [c0, c1], _ =>
    obtain ⟨fuel, hf⟩ := h
    obtain ⟨xs, n, _, hx, _, hlen, hg⟩ := DataW.trod_struct Tryz.underlying24 hf
    match xs, hlen with
    | [y0, y1], _ =>
      have g0 : DataW.trod enc Tryz.prog w base spare held n 9 [c0] = some y0 := hg 0 _ rfl
      have g1 : DataW.trod enc Tryz.prog w base spare held n 22 [c1] = some y1 := hg 1 _ rfl
      obtain ⟨s, e0, _, hs⟩ := DataW.trod_string Tryz.underlying9 g0
      obtain ⟨a, l, cap, rfl, h1, h2, h3, h4, _⟩ := open_ints epC (fun _ => rfl) mkE (fun f j hj => match j, hj with | 0, _ => rfl | 1, _ => rfl | 2, _ => rfl | 3, _ => rfl) Tryz.underlying22 cells_se (by decide) ints_se g1
      simp only [List.cons.injEq, and_true] at e0
      subst e0
      exact ⟨s, a, l, cap, rfl, hs, h1, h2, h3, h4⟩
theorem flatE_nil (l : List Ep) : flatE l = [] ↔ l.length = 0 := by
  rw [← List.length_eq_zero_iff, flatE_len]
  omega
theorem SlE.arg {i : Nat} {l : List Ep} {z : Bool} {m : Mem} (h : m.at i = blX (flatE l)) : SlE m (vaX i l.length z) l := by
  unfold vaX
  by_cases hl : l.length = 0
  · rw [if_pos hl]
    have := List.eq_nil_of_length_eq_zero hl
    cases z
    · exact .lost this rfl
    · exact .nil this rfl
  · rw [if_neg hl]
    unfold blX at h
    rw [if_neg (fun h => hl ((flatE_nil l).1 h))] at h
    exact .blk i _ rfl h rfl
/-- One series, and values without addresses. -/
theorem glueS {f : FuncId} {nm : ByteArray} {a : Option Addr} {l : List Ep} {cap : Nat} {us : List Value} {w : World} (hu : us.all flat = true) (hS : SlX w a (flatE l)) (hc : l.length ≤ cap) (hz : a = none → cap = 0)
    (h : ∀ v m0, Sh l v m0 → PCalls Tryz.prog f (srV nm v :: us) m0 (.bool true)) :
    Calls Tryz.prog f (Value.agg #[.string nm, .slice a l.length cap] :: us).toArray w fun e w' => e = .returned (.bool true) ∧ Below w.heap.size w w' := by
  refine glueX (args := srV nm (vaX 0 l.length a.isNone) :: us) (flatE_scal l) hS (fun ρ hρ => ?_) (Sh.up (SlE.arg rfl) hu rfl h)
  refine .tuple (by simp) fun i h h' => ?_
  match i, h with
  | 0, _ =>
    refine .agg rfl fun j g g' => ?_
    match j, g with
    | 0, _ => exact .scal rfl
    | 1, _ => exact vaX_rel hS (flatE_nil l) hc hz hρ
  | i + 1, h =>
    have hi : i < us.length := by simpa using h
    have := List.all_eq_true.1 hu us[i] (List.getElem_mem hi)
    simpa using VRel.flat (ρ := ρ) this
end Go.Proofs.YtmghmmmfdbafoaaGreatDoor
