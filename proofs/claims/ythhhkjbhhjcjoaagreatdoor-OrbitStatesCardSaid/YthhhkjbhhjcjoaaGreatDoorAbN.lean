/- The small memory: calls that write some blocks of a greater memory; more operations. -/
import Derived.Test.YthhhkjbhhjcjoaaGreatDoorAbD
set_option linter.unusedSimpArgs false
set_option linter.unusedVariables false
namespace Go
open Go.RowKit
namespace Ab

theorem ok1_scal {n : Nat} {v : Value} (h : scal v = true) : ok1 n v = true := by
  unfold ok1
  split <;> first | exact h | (simp [Ab.scal] at h)
theorem rn2_flat {τ : Nat → Nat} {v : Value} (h : flat1 v = true) : rn2 τ v = v := by
  cases v with
  | agg xs =>
    simp only [flat1] at h
    show Value.agg (xs.toList.map (rn1 τ)).toArray = _
    rw [rn1_all h]
  | _ => (simp only [flat1] at h); exact rn1_scal (τ := τ) h
theorem ok2_flat {n : Nat} {v : Value} (h : flat1 v = true) : ok2 n v = true := by
  cases v with
  | agg xs =>
    simp only [flat1] at h
    exact List.all_eq_true.2 fun u hu => ok1_scal (List.all_eq_true.1 h u hu)
  | _ => (simp only [flat1] at h); exact ok1_scal (n := n) h
theorem rn3_flat {τ : Nat → Nat} {v : Value} (h : flat v = true) : rn3 τ v = v := by
  cases v with
  | tuple xs =>
    simp only [flat] at h
    show Value.tuple (xs.toList.map (rn2 τ)).toArray = _
    have : xs.toList.map (rn2 τ) = xs.toList.map id := List.map_congr_left fun u hu => rn2_flat (List.all_eq_true.1 h u hu)
    rw [this, List.map_id]
  | func fn xs ys => simp [flat, flat1, Ab.scal] at h
  | _ => (simp only [flat] at h); exact rn2_flat (τ := τ) h
theorem ok3_flat {n : Nat} {v : Value} (h : flat v = true) : ok3 n v = true := by
  cases v with
  | tuple xs =>
    simp only [flat] at h
    exact List.all_eq_true.2 fun u hu => ok2_flat (List.all_eq_true.1 h u hu)
  | func fn xs ys => simp [flat, flat1, Ab.scal] at h
  | _ => (simp only [flat] at h); exact ok2_flat (n := n) h
/-- Cells under new numbers. -/
def cR (κ : Nat → Nat) (n : Nat) (c c' : List Value) : Prop := (c' = c ∧ c.all scal = true) ∨ (c' = c.map (rn1 κ) ∧ c.all (ok1 n) = true)
theorem cR.ok {κ : Nat → Nat} {n : Nat} {c c' : List Value} (h : cR κ n c c') : c.all (ok1 n) = true := by
  rcases h with ⟨_, h⟩ | ⟨_, h⟩
  · refine List.all_eq_true.2 fun v hv => ?_
    have := List.all_eq_true.1 h v hv
    unfold ok1
    split <;> first | exact this | (simp [Ab.scal] at this)
  · exact h
theorem cR.map {κ : Nat → Nat} {n : Nat} {c c' : List Value} (h : cR κ n c c') : c' = c.map (rn1 κ) := by
  rcases h with ⟨rfl, h⟩ | ⟨h, _⟩
  · rw [rn1_all h]
  · exact h
def bR (κ : Nat → Nat) (n : Nat) : Option Blk → Option Blk → Prop
  | some x, some y => y.own = true ∧ x.own = true ∧ y.esz = x.esz ∧ cR κ n x.cells y.cells
  | none, none => True
  | _, _ => False
theorem bR.map {κ : Nat → Nat} {n : Nat} {e e' : Option Blk} (h : bR κ n e e') : e' = e.map (rnB κ) ∧ ∀ b, e = some b → b.own = true ∧ b.cells.all (ok1 n) = true := by
  cases e with
  | none =>
    cases e' with
    | none => exact ⟨rfl, fun _ h => by cases h⟩
    | some y => exact h.elim
  | some x =>
    cases e' with
    | none => exact h.elim
    | some y =>
      obtain ⟨h1, h2, h3, h4⟩ := h
      refine ⟨?_, fun b hb => by cases hb; exact ⟨h2, h4.ok⟩⟩
      obtain ⟨yc, yo, ye⟩ := y
      simp only at h1 h3 h4
      rw [h1, h3, h4.map, Option.map_some]
      show _ = some (Blk.mk (x.cells.map (rn1 κ)) x.own x.esz)
      rw [h2]
/-- What the call needs lies there. -/
def befS (τ : Nat → Nat) (n : Nat) (m : Mem) : List Nat → Mem → Prop
  | t :: ts, some x :: m0 => (∃ y, m.at t = some y ∧ y.esz = x.esz ∧ (x.own = true → y.own = true) ∧ cR τ n x.cells y.cells) ∧ befS τ n m ts m0
  | [], [] => True
  | _, _ => False
theorem befS_get {τ : Nat → Nat} {n : Nat} {m : Mem} : ∀ (ts : List Nat) (m0 : Mem), befS τ n m ts m0 → ts.length = m0.length ∧ ∀ b, b < m0.length → ∃ x y t, ts[b]? = some t ∧ m0.at b = some x ∧ m.at t = some y ∧ y.esz = x.esz ∧ (x.own = true → y.own = true) ∧ cR τ n x.cells y.cells
  | [], [], _ => ⟨rfl, fun b hb => by simp at hb⟩
  | [], _ :: _, h => h.elim
  | _ :: _, [], h => h.elim
  | _ :: _, none :: _, h => h.elim
  | t :: ts, some x :: m0, h => by
    obtain ⟨⟨y, h1, h2, h3, h4⟩, h5⟩ := h
    obtain ⟨g1, g2⟩ := befS_get ts m0 h5
    refine ⟨by simp [g1], fun b hb => ?_⟩
    cases b with
    | zero => exact ⟨x, y, t, rfl, rfl, h1, h2, h3, h4⟩
    | succ b =>
      obtain ⟨x', y', t', q⟩ := g2 b (by simpa using hb)
      exact ⟨x', y', t', q⟩
/-- Passes in any memory: with a list, or with none. -/
theorem PCalls.viaS {P : Program} {f : FuncId} {args0 args : List Value} {m0 m : Mem} {v0 v : Value} (ts : List Nat) (h : PCalls P f args0 m0 v0) (hro : ∀ b blk, m0.at b = some blk → blk.own = false)
    (hb : befS (fun b => ts.getD b 0) m0.length m ts m0) (hargs : args0.map (rn3 fun b => ts.getD b 0) = args) (hk : args0.all (ok3 m0.length) = true) (hv : rn3 (fun b => ts.getD b 0) v0 = v) (hkv : ok3 m0.length v0 = true) : PCalls P f args m v := by
  obtain ⟨b1, b2⟩ := befS_get ts m0 hb
  refine PCalls.via (fun b => ts.getD b 0) h (fun b blk hbk => ?_) hargs hk hv hkv
  obtain ⟨x, y, t, q1, q2, q3, q4, q5, q6⟩ := b2 b (Mem.at_lt hbk)
  rw [hbk] at q2
  cases q2
  refine ⟨hro b blk hbk, q6.ok, y, by show m.at (ts.getD b 0) = some y; rw [List.getD_eq_getElem?_getD, q1]; exact q3, q4, fun i v hv => ?_⟩
  rw [q6.map, List.getElem?_map, hv]
  rfl
section
variable {P : Program} {t : T} {m : Mem} {dst : Option Tmp} {rt ty ty' : TypeId} {pos : String} {after : Array Edge} {guard : Option (Nat × Bool)} {x y : Operand}
theorem OQ.nilCheck {b o : Nat} (hx : t.ev x = .pointer (some ⟨b, o, none⟩)) : OQ P ⟨dst, .nilCheck x, rt, pos, after, guard⟩ t m (.pointer (some ⟨b, o, none⟩)) := by
  intro ρ a w ht _
  obtain ⟨pl, hp, e⟩ := (hx ▸ ht.ev x).ptr_inv
  exact ⟨_, .ptr hp, fun w' _ => by simp [execOp, e, Sem.run_pure]⟩
/-- 'append' where the slice is the whole of its block. -/
theorem OW.appendL {s : Operand} {st e : TypeId} {z by' : Nat} {zs : List Value} {b n c bx ox k cx : Nat} {vs : List Value} {blk : Blk} (hs : t.ev s = .slice (some ⟨b, 0, none⟩) n c) (hx : t.ev x = .slice (some ⟨bx, ox, none⟩) k cx) (he : elemT P st = some e) (hz : szOf P e = some z) (h0 : zeroOf P e = some zs) (hzl : zs.length = z) (hby : bytesOf' P e = some by')
    (hk : 0 < k) (hb : m.at b = some blk) (ho : blk.own = true) (hesz : blk.esz = z) (hz0 : z ≠ 0) (hn : blk.cells.length = n * z) (hl : m.ld bx ox (k * z) = some vs) (h1 : vs.all one = true) (hsm : (n + k) * by' ≤ 140737488355328) (hsm' : n + k ≤ 4611686018427387904) :
    OW P ⟨dst, .call ⟨.builtin .append, #[s, x], #[st, st]⟩, rt, pos, after, guard⟩ t m (.slice (some ⟨m.length, 0, none⟩) (n + k) INF) (m.set b none ++ [some ⟨blk.cells ++ vs, true, z⟩]) := by
  have := OW.append (P := P) (dst := dst) (rt := rt) (pos := pos) (after := after) (guard := guard) hs hx he hz h0 hzl hby hk hb ho hesz hz0 (Nat.le_of_eq hn.symm) hl h1 hsm hsm'
  rwa [List.take_of_length_le (Nat.le_of_eq hn)] at this
end
end Ab
end Go
