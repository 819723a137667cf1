/- The small memory: calls whose memory nobody sees, some of whose results nobody asks for. -/
import Derived.Test.YthgbincoppnpgaaDoorAbN
set_option linter.unusedSimpArgs false
set_option linter.unusedVariables false
namespace Go
open Go.RowKit
namespace Ab

theorem OW.buildSl0n {P : Program} {t : T} {m : Mem} {dst : Option Tmp} {rt ty : TypeId} {pos : String} {after : Array Edge} {guard : Option (Nat × Bool)} {n : Nat} {g : Bool} (hpl : elemOf' P ty = some (none, n, g)) : OW P ⟨dst, .buildSlice ty 0 #[], rt, pos, after, guard⟩ t m (.slice (some ⟨m.length, 0, none⟩) 0 0) (m ++ [some ⟨[], true, n⟩]) :=
  OW.buildSl0 (z := (none, n, g)) hpl
/-- 'append' of an older slice: it sees that one's block, too. -/
theorem AF.al2 {P : Program} {E : Env} {l : List Oper} {bits : Array Nat} {n : Nat} {Q : Post} {m0 : Mem} {ops : List Oper} {t : T} {m : Mem} {sps : List Sp} {v : Value} {dst : Option Tmp} {st rt : TypeId} {s x : Operand} {pos : String} {after : Array Edge} {guard : Option (Nat × Bool)} {b' k' c' b'' o'' k'' c'' : Nat} {z : Blk} (hx : (onlyF (Oper.looksAt l.toArray ⟨dst, .call ⟨.builtin .append, #[s, x], #[st, st]⟩, rt, pos, after, guard⟩) 0 t).ev s = .slice (some ⟨b', 0, none⟩) k' c')
    (hy : (onlyF (Oper.looksAt l.toArray ⟨dst, .call ⟨.builtin .append, #[s, x], #[st, st]⟩, rt, pos, after, guard⟩) 0 t).ev x = .slice (some ⟨b'', o'', none⟩) k'' c'')
    (h : SW P E l.toArray ⟨dst, .call ⟨.builtin .append, #[s, x], #[st, st]⟩, rt, pos, after, guard⟩ (onlyF (Oper.looksAt l.toArray ⟨dst, .call ⟨.builtin .append, #[s, x], #[st, st]⟩, rt, pos, after, guard⟩) 0 t) (maskF (vis bits m0.length (own0 m0) sps sps.length (1000 + (2 ^ b' + 2 ^ b''))) (some b') 0 m) v ((maskF (vis bits m0.length (own0 m0) sps sps.length (1000 + (2 ^ b' + 2 ^ b''))) (some b') 0 m).set b' none ++ [some z])) (hz : z.own = true)
    (hr : AF P E l bits n Q m0 ops (t.put dst v) (m.set b' none ++ [some z]) (sps ++ [(some b', 1, 1000 + (2 ^ b' + 2 ^ b''))])) : AF P E l bits n Q m0 (⟨dst, .call ⟨.builtin .append, #[s, x], #[st, st]⟩, rt, pos, after, guard⟩ :: ops) t m sps := AF.app (1000 + (2 ^ b' + 2 ^ b'')) h hz hr
/-- What is related to u is related to v, wherever blocks lie: v is u with parts of it left open. -/
def jle (v u : Value) : Prop := ∀ (ρ ρ' : Ren) (x : Value), VRel ρ u x → VRel ρ' v x
theorem jle_flat {v : Value} (h : flat v = true) : jle v v := fun ρ ρ' x hx => by
  rw [hx.of_flat h]
  exact .flat h
theorem jle_two {a z : Value} (h : flat1 a = true) : jle (.tuple #[a, junk]) (.tuple #[a, z]) := fun ρ ρ' x hx => by
  obtain ⟨xs, rfl, h1, h2⟩ := hx.tuple_inv
  refine .tuple h1 fun i hi hi' => ?_
  match i, hi with
  | 0, _ =>
    obtain ⟨u, e, r⟩ := h2 0 _ rfl
    rw [Array.getElem?_eq_getElem hi'] at e
    cases e
    show VRel ρ' a _
    rw [r.of_flat1 h]
    exact .flat1 h
  | 1, _ => exact .junk _
def FinJ (P : Program) (fn : Func) (v : Value) : Post := fun e t m' => (e = .ret ∨ e = .normal) ∧ ∃ vs, ResR P t m' fn.results.toList vs ∧ jle v (pack vs)
theorem FinJ.on {P : Program} {fn : Func} {v : Value} {x : Exit} {t : T} {m' : Mem} (h : FinJ P fn v x t m') : FinJ P fn v x t m' := h
theorem FinJ.ret {P : Program} {fn : Func} {v : Value} {t : T} {m' : Mem} {vs : List Value} (h : ResR P t m' fn.results.toList vs) (hj : jle v (pack vs)) : FinJ P fn v .ret t m' := ⟨.inl rfl, vs, h, hj⟩
theorem FinJ.end {P : Program} {fn : Func} {v : Value} {t : T} {m' : Mem} {vs : List Value} (h : ResR P t m' fn.results.toList vs) (hj : jle v (pack vs)) : FinJ P fn v .normal t m' := ⟨.inr rfl, vs, h, hj⟩
theorem PCalls.enterJ {P : Program} {f : FuncId} {fn : Func} {c : Code} {args : List Value} {m : Mem} {v : Value} {t : T} (hf : P.funcs[f]? = some fn) (hb : fn.body = some c) (hro : m.ro) (ht : args ++ List.replicate (fn.ntmps - args.length) undef = t)
    (h : ∀ E : Env, E.n0 = m.length → AW P E c t m (FinJ P fn v)) : PCalls P f args m v := by
  subst ht
  intro ρ args' w hdom ha hm
  refine calls_of_wp hf hb ?_
  have hsz : args.length = args'.size := by
    obtain ⟨xs', e, h1, _⟩ := ha.tuple_inv
    cases e
    simpa using h1
  refine wp_mono (h ⟨w, fun _ => False, ρ, m.length, hdom⟩ rfl ρ _ w rfl ?_ ?_) ?_
  · refine ⟨by simp [hsz], fun i u hu => ?_⟩
    obtain ⟨xs', e, h1, h2⟩ := ha.tuple_inv
    cases e
    simp only at hu ⊢
    rw [List.getElem?_append] at hu
    rw [Array.getElem?_append]
    split at hu
    · rename_i hi
      rw [if_pos (by omega)]
      exact h2 i u (by simpa using hu)
    · rename_i hi
      rw [if_neg (by omega)]
      rw [← hsz]
      rw [List.getElem?_replicate] at hu
      split at hu
      · rename_i hi'
        cases Option.some.inj hu
        exact ⟨undef, by simp [hi'], .undef⟩
      · cases hu
  · exact ⟨rfl, rfl, rfl, Nat.le_refl _, fun _ _ _ => rfl, fun _ _ => rfl, Nat.le_refl _, hdom, hm, fun b blk pl hb ho => by rw [hro b blk hb] at ho; cases ho⟩
  · rintro e a w' ⟨hd, ρ', t', m', ⟨he, vs, hr, hj⟩, ht, hs⟩
    obtain ⟨v', hrun, hv⟩ := run_results (P := P) (w := w') ht hs.mem hr
    have hbelow : Below w.heap.size w w' := ⟨hs.os, hs.tape, hs.output, hs.size, fun k hk => hs.same k hk (fun h => h)⟩
    rcases he with rfl | rfl
    · exact bodyPost_ret hrun hd ⟨v', rfl, hj _ _ _ hv, hbelow⟩
    · exact bodyPost_end hrun hd ⟨v', rfl, hj _ _ _ hv, hbelow⟩
end Ab
end Go
