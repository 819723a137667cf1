/- The small memory: calls whose memory nobody sees, some of whose results nobody asks for. -/
import Derived.Test.YtmghmmmfdbafoaaGreatDoorAbN
set_option linter.unusedSimpArgs false
set_option linter.unusedVariables false
namespace Go
open Go.RowKit
namespace Ab

/-- What is related to u is related to v, wherever blocks lie: v is u with parts of it left open. -/
def jle (v u : Value) : Prop := ∀ (ρ ρ' : Ren) (x : Value), VRel ρ u x → VRel ρ' v x
theorem jle_flat {v : Value} (h : flat v = true) : jle v v := fun ρ ρ' x hx => by
  rw [hx.of_flat h]
  exact .flat h
def FinJ (P : Program) (fn : Func) (v : Value) : Post := fun e t m' => (e = .ret ∨ e = .normal) ∧ ∃ vs, ResR P t m' fn.results.toList vs ∧ jle v (pack vs)
theorem FinJ.on {P : Program} {fn : Func} {v : Value} {x : Exit} {t : T} {m' : Mem} (h : FinJ P fn v x t m') : FinJ P fn v x t m' := h
theorem FinJ.ret {P : Program} {fn : Func} {v : Value} {t : T} {m' : Mem} {vs : List Value} (h : ResR P t m' fn.results.toList vs) (hj : jle v (pack vs)) : FinJ P fn v .ret t m' := ⟨.inl rfl, vs, h, hj⟩
theorem FinJ.end {P : Program} {fn : Func} {v : Value} {t : T} {m' : Mem} {vs : List Value} (h : ResR P t m' fn.results.toList vs) (hj : jle v (pack vs)) : FinJ P fn v .normal t m' := ⟨.inr rfl, vs, h, hj⟩
theorem PCalls.enterJ {P : Program} {f : FuncId} {fn : Func} {c : Code} {args : List Value} {m : Mem} {v : Value} {t : T} (hf : P.funcs[f]? = some fn) (hb : fn.body = some c) (hro : m.ro) (ht : args ++ List.replicate (fn.ntmps - args.length) undef = t)
    (h : ∀ E : Env, E.n0 = m.length → AW P E c t m (FinJ P fn v)) : PCalls P f args m v := by
  subst ht
  intro ρ args' w hdom ha hm
  refine calls_of_wp hf hb ?_
  have hsz : args.length = args'.size := by
    obtain ⟨xs', e, h1, _⟩ := ha.tuple_inv
    cases e
    simpa using h1
  refine wp_mono (h ⟨w, fun _ => False, ρ, m.length, hdom, []⟩ rfl ρ _ w rfl ?_ ?_) ?_
  · refine ⟨by simp [hsz], fun i u hu => ?_⟩
    obtain ⟨xs', e, h1, h2⟩ := ha.tuple_inv
    cases e
    simp only at hu ⊢
    rw [List.getElem?_append] at hu
    rw [Array.getElem?_append]
    split at hu
    · rename_i hi
      rw [if_pos (by omega)]
      exact h2 i u (by simpa using hu)
    · rename_i hi
      rw [if_neg (by omega)]
      rw [← hsz]
      rw [List.getElem?_replicate] at hu
      split at hu
      · rename_i hi'
        cases Option.some.inj hu
        exact ⟨undef, by simp [hi'], .undef⟩
      · cases hu
  · exact ⟨rfl, rfl, rfl, Nat.le_refl _, fun _ _ _ => rfl, fun _ _ => rfl, Nat.le_refl _, hdom, hm, fun b blk pl hb ho => by rw [hro b blk hb] at ho; cases ho⟩
  · rintro e a w' ⟨hd, ρ', t', m', ⟨he, vs, hr, hj⟩, ht, hs⟩
    obtain ⟨v', hrun, hv⟩ := run_results (P := P) (w := w') ht hs.mem hr
    have hbelow : Below w.heap.size w w' := ⟨hs.os, hs.tape, hs.output, hs.size, fun k hk => hs.same k hk (fun h => h)⟩
    rcases he with rfl | rfl
    · exact bodyPost_ret hrun hd ⟨v', rfl, hj _ _ _ hv, hbelow⟩
    · exact bodyPost_end hrun hd ⟨v', rfl, hj _ _ _ hv, hbelow⟩
end Ab
end Go
