/- The small memory: a function with a range over an iterator: how it begins and how it ends. -/
import Derived.Test.YtmghmmmfdbafoaaGreatDoorAbY
import Derived.Test.YtmghmmmfdbafoaaGreatDoorAbW
set_option linter.unusedSimpArgs false
set_option linter.unusedVariables false
namespace Go
open Go.RowKit
namespace Ab
/-- A function's end: the marks of the loops that are over are shut. -/
def EndE (P : Program) (E : Env) (fn : Func) (v : Value) (mE : Mem) : Exit → Act → World → Prop := fun e a w =>
  ∃ w' ρ t m, Free.Marks a.defers w w' ∧ FinA P E fn v mE e t m ∧ TRel ρ t a.tmps ∧ St E ρ m w'
theorem ACallsW.enterE {P : Program} {f : FuncId} {fn : Func} {c : Code} {args : List Value} {m : Mem} {v : Value} {mE : Mem} {t : T} {N0 : Nat} {W0 : World} (hf : P.funcs[f]? = some fn) (hb : fn.body = some c)
    (ht : args ++ List.replicate (fn.ntmps - args.length) undef = t)
    (h : ∀ E : Env, E.n0 = m.length → E.ds = [] → EW N0 W0 E → ∀ ρ a w, a.defers = [] → TRel ρ t a.tmps → St E ρ m w → c.wp P (EndE P E fn v mE) a w) : ACallsW N0 W0 P f args m v mE := by
  subst ht
  intro E0 ρ args' w hKW ha hst
  refine Free.calls_of_each hf hb ?_
  have hsz : args.length = args'.size := by
    obtain ⟨xs', e, h1, _⟩ := ha.tuple_inv
    cases e
    simpa using h1
  let E : Env := ⟨E0.W, E0.S, ρ, m.length, hst.dom, []⟩
  refine wp_mono (h E rfl rfl hKW ρ _ w rfl ?_ ?_) ?_
  · refine ⟨by simp [hsz], fun i u hu => ?_⟩
    obtain ⟨xs', e, h1, h2⟩ := ha.tuple_inv
    cases e
    simp only at hu ⊢
    rw [List.getElem?_append] at hu
    rw [Array.getElem?_append]
    split at hu
    · rename_i hi
      rw [if_pos (by omega)]
      exact h2 i u (by simpa using hu)
    · rename_i hi
      rw [if_neg (by omega)]
      rw [← hsz]
      rw [List.getElem?_replicate] at hu
      split at hu
      · rename_i hi'
        cases Option.some.inj hu
        exact ⟨undef, by simp [hi'], .undef⟩
      · cases hu
  · exact ⟨hst.os, hst.tape, hst.output, hst.size, hst.same, fun _ _ => rfl, Nat.le_refl _, hst.dom, hst.mem, hst.fresh⟩
  · rintro e a w1 ⟨w', ρ', t', m', hmk, ⟨he, vs, σ, hr, hv, hok, hren, hid, hinj⟩, ht, hs⟩
    obtain ⟨v', hrun, hvr⟩ := run_results (P := P) (w := w') ht hs.mem hr
    rw [← hv] at hvr
    have hvr' := rn3_to hvr hok
    have hs' := hs.ren σ hren hid hinj
    have hst' : St E0 (ρ'.via mE.length σ) mE w' := ⟨hs'.os, hs'.tape, hs'.output, hs'.size, hs'.same, fun b hb => (hs'.ext b (Nat.lt_of_lt_of_le hb hst.len)).trans (hst.ext b hb), Nat.le_trans hst.len hs'.len, hs'.dom, hs'.mem, hs'.fresh⟩
    rcases he with rfl | rfl
    · exact ⟨w', hmk, v', hrun, v', _, rfl, hs'.extE, hvr', hst'⟩
    · exact ⟨w', hmk, v', hrun, v', _, rfl, hs'.extE, hvr', hst'⟩
/-- Ahead of the loop. -/
theorem EndE.of {P : Program} {E : Env} {fn : Func} {v : Value} {mE : Mem} {e : Exit} {a : Act} {w : World} (hds : E.ds = []) (h : lift E (FinA P E fn v mE) e a w) : EndE P E fn v mE e a w := by
  obtain ⟨hd, ρ, t, m, hq, ht, hs⟩ := h
  exact ⟨w, ρ, t, m, by rw [hd, hds]; exact rfl, hq, ht, hs⟩
/-- The environment behind a loop. -/
def bhE (ρ : Ren) (m : Mem) (n1 : Nat) (W : World) (D : Nat) : Env := { rbE ρ m n1 W with ds := [{ target := .collected D, args := #[] }] }
theorem St.toBh {ρ ρ' : Ren} {m m' : Mem} {n1 : Nat} {W W' : World} {D : Nat} (h : St (rbE ρ m n1 W) ρ' m' W') : St (bhE ρ m n1 W D) ρ' m' W' := ⟨h.os, h.tape, h.output, h.size, h.same, h.ext, h.len, h.dom, h.mem, h.fresh⟩
theorem St.ofBh {ρ ρ' : Ren} {m m' : Mem} {n1 : Nat} {W W' : World} {D : Nat} (h : St (bhE ρ m n1 W D) ρ' m' W') : St (rbE ρ m n1 W) ρ' m' W' := ⟨h.os, h.tape, h.output, h.size, h.same, h.ext, h.len, h.dom, h.mem, h.fresh⟩
/-- Behind the loop. -/
theorem EndE.mark {P : Program} {E : Env} {fn : Func} {v : Value} {mE : Mem} {e : Exit} {a : Act} {W W' : World} {ρ : Ren} {m : Mem} {n1 D : Nat} (hs : St E ρ m W) (hn1 : E.n0 ≤ n1) (hD : W.heap[D]? = some (.deferred (some []))) (hDE : E.W.heap.size ≤ D)
    (hfree : ∀ b blk pl, m.at b = some blk → ρ b = some pl → pl.blk ≠ D) (h : lift (bhE ρ m n1 W D) (FinA P E fn v mE) e a W') : EndE P E fn v mE e a W' := by
  obtain ⟨hd, ρ2, t2, m2, hq, ht2, hs2⟩ := h
  have hs2' := hs2.ofBh
  have hD' : W'.heap[D]? = some (.deferred (some [])) := (hs2'.stays (Array.getElem?_eq_some_iff.1 hD).1 hfree).trans hD
  exact ⟨W'.putObj D (.deferred none), ρ2, t2, m2, by rw [hd]; exact ⟨D, rfl, hD', rfl⟩, hq, ht2, (hs.unbase hn1 hs2').put _ hDE hD' rfl⟩
/-- What stands behind the loop, walked in the small memory. -/
theorem behind {P : Program} {E : Env} {fn : Func} {v : Value} {mE : Mem} {c : Code} {W : World} {ρ0 ρ : Ren} {m : Mem} {n1 D : Nat} {t : T} {a : Act} (hs : St E ρ m W) (hn1 : E.n0 ≤ n1) (hlen : n1 ≤ m.length) (hD : W.heap[D]? = some (.deferred (some []))) (hDE : E.W.heap.size ≤ D)
    (hfree : ∀ b blk pl, m.at b = some blk → ρ b = some pl → pl.blk ≠ D) (ht : TRel ρ0 t a.tmps) (hk : t.all (okJ n1) = true) (h3 : ∀ b, b < n1 → ρ b = ρ0 b) (hd : a.defers = [{ target := .collected D, args := #[] }])
    (h : ∀ E' : Env, E'.n0 = n1 → (∀ N0 W0, EW N0 W0 E → EW N0 W0 E') → AW P E' c t m (FinA P E fn v mE)) : c.wp P (EndE P E fn v mE) a W :=
  wp_mono (h (bhE ρ m n1 W D) rfl (fun N0 W0 hE => (show EW N0 W0 (rbE ρ m n1 W) from hE.rebase hs)) ρ a W hd (ht.back hk h3) (hs.rebase hlen).toBh) fun _ _ _ hq => EndE.mark hs hn1 hD hDE hfree hq
/-- A walk to a function's end, ahead of a loop whose mark the frame bears from there on. -/
def AWT (P : Program) (E : Env) (fn : Func) (v : Value) (mE : Mem) (c : Code) (t : T) (m : Mem) : Prop :=
  ∀ ρ a w, a.defers = [] → TRel ρ t a.tmps → St E ρ m w → c.wp P (EndE P E fn v mE) a w
section
variable {P : Program} {E : Env} {fn : Func} {v : Value} {mE : Mem} {c d : Code} {t : T} {m : Mem}
theorem AWT.seq (hds : E.ds = []) (h : AW P E c t m (Then (fun t m => AWT P E fn v mE d t m) (FinA P E fn v mE))) : AWT P E fn v mE (.seq c d) t m := by
  intro ρ a w hd ht hs
  refine wp_seq (wp_mono (h ρ a w (hd.trans hds.symm) ht hs) ?_)
  rintro e a' w' ⟨hd', ρ', t', m', hq, ht', hs'⟩
  cases e with
  | normal => exact hq ρ' a' w' (hd'.trans hds) ht' hs'
  | exit id => exact EndE.of hds ⟨hd', ρ', t', m', hq, ht', hs'⟩
  | goto l => exact EndE.of hds ⟨hd', ρ', t', m', hq, ht', hs'⟩
  | ret => exact EndE.of hds ⟨hd', ρ', t', m', hq, ht', hs'⟩
  | panic ch => exact EndE.of hds ⟨hd', ρ', t', m', hq, ht', hs'⟩
  | outgrown => exact EndE.of hds ⟨hd', ρ', t', m', hq, ht', hs'⟩
theorem AWT.on (h : AWT P E fn v mE c t m) : ∀ ρ a w, a.defers = [] → TRel ρ t a.tmps → St E ρ m w → c.wp P (EndE P E fn v mE) a w := h
theorem AWT.sreg {id : Nat} {ops : Array Oper} {b : Bool} (hds : E.ds = []) (h : AW P E (.region id ops b) t m (Then (fun t m => AWT P E fn v mE d t m) (FinA P E fn v mE))) : AWT P E fn v mE (.seq (.region id ops b) d) t m := AWT.seq hds h
theorem AWT.scond {x : Operand} {c1 c2 : Code} (hds : E.ds = []) (h : AW P E (.cond x c1 c2) t m (Then (fun t m => AWT P E fn v mE d t m) (FinA P E fn v mE))) : AWT P E fn v mE (.seq (.cond x c1 c2) d) t m := AWT.seq hds h
end
/-- A walk of a piece, ahead of the rest of the function. -/
def AWX (P : Program) (E : Env) (fn : Func) (v : Value) (mE : Mem) (c d : Code) (t : T) (m : Mem) : Prop :=
  ∀ ρ a w, a.defers = [] → TRel ρ t a.tmps → St E ρ m w → c.wp P (Exit.then (d.wp P (EndE P E fn v mE)) (EndE P E fn v mE)) a w
section
variable {P : Program} {E : Env} {fn : Func} {v : Value} {mE : Mem} {c d : Code} {t : T} {m : Mem}
theorem AWT.x (h : AWX P E fn v mE c d t m) : AWT P E fn v mE (.seq c d) t m := fun ρ a w hd ht hs => wp_seq (h ρ a w hd ht hs)
theorem AWX.seq {c1 c2 : Code} (hds : E.ds = []) (h : AW P E c1 t m (Then (fun t m => AWX P E fn v mE c2 d t m) (FinA P E fn v mE))) : AWX P E fn v mE (.seq c1 c2) d t m := by
  intro ρ a w hd ht hs
  refine wp_seq (wp_mono (h ρ a w (hd.trans hds.symm) ht hs) ?_)
  rintro e a' w' ⟨hd', ρ', t', m', hq, ht', hs'⟩
  cases e with
  | normal => exact hq ρ' a' w' (hd'.trans hds) ht' hs'
  | exit id => exact EndE.of hds ⟨hd', ρ', t', m', hq, ht', hs'⟩
  | goto l => exact EndE.of hds ⟨hd', ρ', t', m', hq, ht', hs'⟩
  | ret => exact EndE.of hds ⟨hd', ρ', t', m', hq, ht', hs'⟩
  | panic ch => exact EndE.of hds ⟨hd', ρ', t', m', hq, ht', hs'⟩
  | outgrown => exact EndE.of hds ⟨hd', ρ', t', m', hq, ht', hs'⟩
/-- A region, then a block that is a loop. -/
theorem AWT.srb {id bid : Nat} {ops : Array Oper} {b : Bool} {c2 : Code} (hds : E.ds = []) (h : AW P E (.region id ops b) t m (Then (fun t m => AWX P E fn v mE (.block bid c2) d t m) (FinA P E fn v mE))) : AWT P E fn v mE (.seq (.seq (.region id ops b) (.block bid c2)) d) t m := AWT.x (AWX.seq hds h)
theorem AWT.src {id : Nat} {x : Operand} {ops : Array Oper} {b : Bool} {c1 c2 : Code} (hds : E.ds = []) (h : AW P E (.seq (.region id ops b) (.cond x c1 c2)) t m (Then (fun t m => AWT P E fn v mE d t m) (FinA P E fn v mE))) : AWT P E fn v mE (.seq (.seq (.region id ops b) (.cond x c1 c2)) d) t m := AWT.seq hds h
end
theorem fgt_rel {ρ : Ren} {t t' : T} {xs : Array Value} (bs : List Bool) (h : fgt bs t = t') (ht : TRel ρ t xs) : TRel ρ t' xs := by
  subst h
  refine ⟨by rw [fgt_length]; exact ht.1, fun i v hv => ?_⟩
  rcases fgt_get bs t i v hv with rfl | hv'
  · have hi : i < (fgt bs t).length := (List.getElem?_eq_some_iff.1 hv).1
    rw [fgt_length, ht.1] at hi
    exact ⟨xs[i], Array.getElem?_eq_getElem hi, .junk _⟩
  · exact ht.2 i v hv'
/-- A return out of a round. -/
theorem EndE.back {P : Program} {E : Env} {fn : Func} {v : Value} {mE : Mem} {W : World} {ρ0 ρ : Ren} {m : Mem} {n1 D : Nat} {t : T} {a : Act} (hs : St E ρ m W) (hn1 : E.n0 ≤ n1) (hlen : n1 ≤ m.length) (hD : W.heap[D]? = some (.deferred (some []))) (hDE : E.W.heap.size ≤ D)
    (hfree : ∀ b blk pl, m.at b = some blk → ρ b = some pl → pl.blk ≠ D) (ht : TRel ρ0 t a.tmps) (hk : t.all (okJ n1) = true) (h3 : ∀ b, b < n1 → ρ b = ρ0 b) (hd : a.defers = [{ target := .collected D, args := #[] }])
    (h : FinA P E fn v mE .ret t m) : EndE P E fn v mE .ret a W :=
  EndE.mark hs hn1 hD hDE hfree ⟨hd, ρ, t, m, h, ht.back hk h3, (hs.rebase hlen).toBh⟩
theorem St.far {E : Env} {ρ : Ren} {m : Mem} {W : World} {D : Nat} {o : Obj} (hs : St E ρ m W) (hD : W.heap[D]? = some o) (ho : o.isCells = false) : ∀ b blk pl, m.at b = some blk → ρ b = some pl → pl.blk ≠ D := fun b blk pl hb hp e => by
  obtain ⟨pl2, h1, ⟨c, ty, fr, hc, _⟩, _⟩ := hs.mem b blk hb
  cases Option.some.inj (h1.symm.trans hp)
  rw [e, hD] at hc
  cases hc
  cases ho
end Ab
end Go
