/- MeshPoints: which points are right, and their hull, are as specified, or the errors. -/
import Derived.Test.YtmohcmghbfhdlaaRows
import Derived.Test.YtmohcmghbfhdlaaQm
set_option linter.unusedSimpArgs false
set_option linter.unusedVariables false
section
namespace Go.Proofs.Ytmohcmghbfhdlaa
open Go.ChangeShapes Go.WideShapes Go.ChangeAt Go Go.RowKit Go.Ab Go.Ls Go.Me
set_option maxRecDepth 100000
theorem MeshPoints_lm (m : Mem) : PCalls Try.prog 3 [lostV] m (.bool true) := PCalls.viaS (m0 := []) (args0 := [lostV]) (v0 := .bool true) [] MeshPoints_l (fun b blk h => by simp [Mem.at] at h) trivial rfl rfl rfl rfl
theorem MeshPoints_q {v : Value} {m : Mem} {l : List Pn} (hS : SlG m v (flatP l) l.length) (hl : (l.length : Int) ≤ 9223372036854775807) : PCalls Try.prog 3 [v] m (.bool true) := by
  refine SlG.up (us := []) hS (flatP_scal l) rfl rfl fun v m0 h => ?_
  by_cases h0 : l.length = 0
  · have e := List.eq_nil_of_length_eq_zero h0
    subst e
    rcases h with ⟨rfl, rfl, _⟩ | ⟨rfl, rfl, _⟩ | ⟨z, rfl, rfl⟩
    · exact MeshPoints_n
    · exact MeshPoints_l
    · exact PCalls.lost (MeshPoints_lm _)
  · rcases h with ⟨rfl, rfl, h3⟩ | ⟨rfl, rfl, h3⟩ | ⟨z, rfl, rfl⟩
    · omega
    · omega
    · exact MeshPoints_0 l INF z (by omega) hl
end Go.Proofs.Ytmohcmghbfhdlaa
end

section
namespace Go.Proofs.Ytmohcmghbfhdlaa.MeshPoints
open Go.ChangeShapes Go.WideShapes Go.ChangeAt Go Go.RowKit Go.Ab Go.Ls Go.Me Go.Proofs.Ytmohcmghbfhdlaa
set_option maxRecDepth 100000
theorem walk {W : World} (a : Option Addr) (l : List Pn) (cap : Nat) (hcap : l.length ≤ cap) (hcm : cap ≤ maxLen) (hS : SlX W a (flatP l)) (hz : a = none → cap = 0) : Calls Try.prog 3 #[.slice a l.length cap] W fun e w' => e = .returned (.bool true) ∧ Below W.heap.size W w' := by
  refine glueL (args := [vaX 0 l.length a.isNone]) [(a, flatP l)] (fun x hx => ?_) ?_ (MeshPoints_q (SlG.arg rfl (flatP_nil l)) ?_)
  · rw [List.mem_singleton] at hx
    subst hx
    exact ⟨flatP_scal l, hS⟩
  · refine .tuple rfl fun i h h' => ?_
    match i, h with
    | 0, _ => exact vaX_rel hS (flatP_nil l) hcap hz rfl
    | i + 1, h => simp at h
  · simp only [maxLen] at hcm
    omega

set_option maxRecDepth 100000 in
theorem lifted (os : Os) (started : os.Started) (H : Type) (enc : TypeId × Value → H) :
    ReturnsInHanded {} Try.checked os 3 .any (Rows.meshPointsSpec.pre6 enc Try.prog Try.f3 Rows.meshPointsRow.domain false) (Rows.meshPointsSpec.post enc Try.prog Try.f3 false true false false) := by
  refine returnsInHanded_of_change (C := Try.checked) own started (by kernel_rfl) Try.func3
    (ChangeSpec.witness6 (enc := enc) (C := Try.checked) false ⟨#[], #[.slice none 0 0], []⟩ 8 (by kernel_rfl) (by kernel_rfl) (by kernel_rfl) (by kernel_rfl)) ?_
  intro W base args ds gs before hval0 hW hcnd _
  have hval : ∀ (j : Nat) t v, Try.f3.params[j]? = some t → args[j]? = some v → Value.okWide Try.prog W .any base t v := hval0
  have hW' := hW
  obtain ⟨p, q, hA0, hV, rfl, hfz, hnd⟩ := hW
  have hA : DataW.TrodAll enc Try.prog W 0 (fun _ => true) true Try.f3.params.toList args.toList ds p := hA0
  rw [Try.params3] at hA hval
  obtain ⟨v0, vs0, d0, ds0, p0, q0, hargs, rfl, rfl, h0, r0⟩ := trodAll_cons hA
  obtain ⟨rfl, rfl, rfl⟩ := trodAll_nil r0
  obtain rfl : args = #[v0] := by cases args; simp_all
  obtain ⟨rfl, rfl⟩ := trodVars_none hV
  clear hA0 hval0
  have hlt := hW'.lt
  have g0 := h0
  obtain ⟨a0, l0, cap0, rfl, hcap0, hcm0, hS0, hz0⟩ := open_MP (hval 0 22 v0 rfl rfl) h0
  simp only [List.append_nil] at hW' hlt ⊢
  refine (walk a0 l0 cap0 hcap0 hcm0 hS0 hz0).mono fun e W' ⟨he, hb⟩ => ?_
  subst he
  have stay : ∀ (t : TypeId) v d ps (sp : Nat → Bool), Try.prog.readableRec t = true → t < Try.prog.types.size → DataW.Trod enc Try.prog W 0 (fun _ => true) true t v d ps → (∀ x ∈ ps, x.block < W.heap.size) → (∀ x ∈ ps, sp x.block = true) → DataW.Trod enc Try.prog W' 0 sp true t v d ps :=
    fun t v d ps sp hr ht h hx hs => Go.WideElems.Trod_stays laid hr ht h (fun x hxp => hb.same (hx x hxp)) hs
  exact ⟨_, rfl, post_below (pa := p0 ++ []) (pv := []) hW' (fun _ _ _ => trodAll_mk1 (shut_bool Try.underlying4 true)) (fun sp hs => (trodAll_cons_mk (stay 22 _ _ _ sp (by kernel_rfl) (of_decide_eq_true (by kernel_rfl)) g0 (fun x hx => hlt x (by simp [hx])) (fun x hx => hs x (by simp [hx]))) (trodAll_mk0))) (fun _ _ => rfl) (by simp)
    hb (ok_one (by kernel_rfl) rfl (okWide_bool_mk Try.underlying4 true))⟩

theorem over : Rows.meshPointsRow.holds Try.pinned (OpenSpec.ofChange Rows.meshPointsSpec) :=
  OpenClaim.holds_of_wide 3 Try.f3 rfl rfl rfl rfl rfl rfl rfl ⟨rfl, rfl, rfl, rfl, rfl⟩ rfl rfl rfl rfl rfl (by kernel_rfl) Try.func3 (by kernel_rfl)
    (of_decide_eq_true (by kernel_rfl)) (by unfold Func.isWrapper; first | (rw [if_pos (by decide +kernel)]; kernel_rfl) | (rw [if_neg (by decide +kernel)]; exact ⟨rfl, rfl⟩))
    (fun os started H enc _ => lifted os started H enc)

theorem proved : Rows.MeshPointsSaid := over
#print axioms proved
end Go.Proofs.Ytmohcmghbfhdlaa.MeshPoints
end
