/- Chapter 8: the reference: Solve and SolveOnly; the copy of a series. -/
import Derived.Test.YthgbincoppnpgaaDoor08v
set_option linter.unusedSimpArgs false
set_option linter.unusedVariables false
namespace Go.Proofs.YthgbincoppnpgaaDoor
open Go Go.RowKit Go.Ab Go.Sr
set_option maxRecDepth 100000
set_option maxHeartbeats 4000000
attribute [local irreducible] OQ OW AL AW AD AF SW

theorem rk_det (l : List Ep) : rkF (rwT l l.length) (rwT l l.length).length < 3 ↔ (NM l).det = 0 := by
  rw [rkF_3, ← rws_w, ← nm_dN]
  rfl
theorem rn3_rk {τ : Nat → Nat} {r : Int} : rn3 τ (.tuple #[.int .i64 r, junk]) = .tuple #[.int .i64 r, junk] := rfl
theorem RankOf_q {m : Mem} {b n : Nat} {blk : Blk} (nm : ByteArray) (l : List Ep) (hR : SRight l) (hb : m.at b = some blk) (hc : blk.cells = flatE l) (hn : l.length = n) : PCalls Tryd.prog 13 [srI nm b n] m (.tuple #[.int .i64 (rkF (rwT l l.length) (rwT l l.length).length), junk]) := by
  subst hn
  intro ρ args' w hdom hargs hm
  refine (RankOf_c nm l hR blk.esz (ρ.via 1 fun _ => b) args' w (fun x pl hx => ?_) ?_ (fun x bk hx => ?_)).mono ?_
  · unfold Ren.via at hx
    split at hx
    · assumption
    · cases hx
  · obtain ⟨xs', e, h1, h2⟩ := hargs.tuple_inv
    cases e
    refine .tuple (by simpa using h1) fun i hi hi' => ?_
    match i, hi with
    | 0, _ =>
      obtain ⟨u', e1, e2⟩ := h2 0 _ rfl
      rw [Array.getElem?_eq_getElem hi'] at e1
      cases e1
      exact rn3_to (v := srI nm 0 l.length) e2 rfl
  · have := Mem.at_lt hx
    simp at this
    subst this
    simp [Mem.at] at hx
    subst hx
    obtain ⟨pl, hp, ⟨c, ty, fr, g1, g2, g3, g4⟩, _⟩ := hm b blk hb
    refine ⟨pl, by rw [via_get (by decide)]; exact hp, ⟨c, ty, fr, g1, g2, fun i u hu => ?_, fun h => by cases h⟩, fun h => by cases h⟩
    have hsc := List.all_eq_true.1 (flatE_scal l) u (List.mem_of_getElem? hu)
    obtain ⟨u', q1, q2⟩ := g3 i u (by rw [hc]; exact hu)
    rw [q2.of_scal hsc] at q1
    exact ⟨u, q1, .scal hsc⟩
  · rintro e w' ⟨v', rfl, hv, hbl⟩
    refine ⟨v', rfl, ?_, hbl⟩
    obtain ⟨xs', e, h1, h2⟩ := hv.tuple_inv
    cases e
    refine .tuple (by simpa using h1) fun i hi hi' => ?_
    match i, hi with
    | 0, _ =>
      obtain ⟨u', e1, e2⟩ := h2 0 _ rfl
      rw [Array.getElem?_eq_getElem hi'] at e1
      cases e1
      show VRel ρ (.int .i64 _) _
      rw [e2.int]
      exact .scal rfl
    | 1, _ => exact .junk _
theorem sl_flat (N : Nm) : flat (.tuple #[slV N, .int .i64 (slE N)]) = true := by unfold slV thV; split <;> (try split) <;> rfl
end Go.Proofs.YthgbincoppnpgaaDoor
