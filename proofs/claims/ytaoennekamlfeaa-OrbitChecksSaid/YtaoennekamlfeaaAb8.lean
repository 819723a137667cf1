/- The small memory, part 8: small steps for walks that a program prints. -/
import Derived.Test.YtaoennekamlfeaaAb7
import Derived.LoopN
set_option linter.unusedSimpArgs false
set_option linter.unusedVariables false
namespace Go
open Go.RowKit
namespace Ab
section
variable {P : Program} {E : Env} {ops : Array Oper} {o : Oper} {rest : List Oper} {t : T} {m : Mem} {Q : Post}
theorem AL.bcase {x : Operand} {c : Bool} (hc : t.ev x = .bool c) (h1 : c = true → AL P E ops rest t m Q) (h2 : c = false → AL P E ops rest t m Q) : AL P E ops rest t m Q := by
  cases c
  · exact h2 rfl
  · exact h1 rfl
theorem AL.gyes {d : Nat} {want c : Bool} (hg : gdt ops o = some (d, want)) (hc : t.getD d undef = .bool c) (h : c = want) (h1 : AL P E ops ({ o with guard := none } :: rest) t m Q) : AL P E ops (o :: rest) t m Q :=
  AL.gcase hg hc (fun _ => h1) fun h' => by subst h; cases c <;> cases h'
theorem AL.gno {d : Nat} {want c : Bool} (hg : gdt ops o = some (d, want)) (hc : t.getD d undef = .bool c) (h : c = !want) (h2 : AL P E ops rest (t.put o.dst undef) m Q) : AL P E ops (o :: rest) t m Q :=
  AL.gcase hg hc (fun h' => by subst h'; cases c <;> cases h) fun _ => h2
variable {l : List Oper} {b : Array Nat} {n i : Nat} {news : List New} {os : List Oper}
theorem AD.bcase {x : Operand} {c : Bool} (hc : t.ev x = .bool c) (h1 : c = true → AD P E l b n m Q os i t news) (h2 : c = false → AD P E l b n m Q os i t news) : AD P E l b n m Q os i t news := by
  cases c
  · exact h2 rfl
  · exact h1 rfl
theorem AD.gcase {d : Nat} {want c : Bool} (hg : gdt l.toArray o = some (d, want)) (hc : t.getD d undef = .bool c) (h1 : c = want → AD P E l b n m Q (o :: os) i t news) (h2 : c = !want → AD P E l b n m Q (o :: os) i t news) : AD P E l b n m Q (o :: os) i t news := by
  by_cases h : c = want
  · exact h1 h
  · exact h2 (by cases c <;> cases want <;> simp_all)
theorem AD.qc {v : Value} {d : Nat} {want c : Bool} (hg : gdt l.toArray o = some (d, want)) (hc : t.getD d undef = .bool c) (hcw : c = want) (h : OQ P o t m v) (hs : noSel o = true) (hj : noJ t o = true) (hk : keepsNews o news = true)
    (hr : AD P E l b n m Q os (i + 1) (t.put o.dst v) news) : AD P E l b n m Q (o :: os) i t news := AD.qy hg (hcw ▸ hc) h hs hj hk hr
theorem AD.gnoc {d : Nat} {want c : Bool} (hg : gdt l.toArray o = some (d, want)) (hc : t.getD d undef = .bool c) (hcw : c = !want) (hk : keepsNews o news = true)
    (hr : AD P E l b n m Q os (i + 1) (t.put o.dst undef) news) : AD P E l b n m Q (o :: os) i t news := AD.gno hg (hcw ▸ hc) hk hr
theorem AD.pcallc {dst : Option Tmp} {fo : Operand} {xs : Array Operand} {ats : Array TypeId} {ty : TypeId} {pos : String} {after : Array Edge} {guard : Option (Nat × Bool)} {g : FuncId} {first cap : Array Value} {args : List Value} {v : Value} {d : Nat} {want c : Bool}
    (hg : gdt l.toArray ⟨dst, .call ⟨.value fo, xs, ats⟩, ty, pos, after, guard⟩ = some (d, want)) (hc : t.getD d undef = .bool c) (hcw : c = want)
    (hf : t.ev fo = .func (.func g) first cap) (he : enters P g = true) (ha : first.toList ++ xs.toList.map t.ev ++ cap.toList = args) (h : PCalls P g args m v) (hfl : flat v = true)
    (hk : keepsNews ⟨dst, .call ⟨.value fo, xs, ats⟩, ty, pos, after, guard⟩ news = true)
    (hr : AD P E l b n m Q os (i + 1) (t.put dst v) news) : AD P E l b n m Q (⟨dst, .call ⟨.value fo, xs, ats⟩, ty, pos, after, guard⟩ :: os) i t news :=
  AD.pcally hg (hcw ▸ hc) hf he ha h hfl hk hr
/-- A guard whose own operation was passed over. -/
theorem AD.gskip {d : Nat} {want : Bool} (hg : gdt l.toArray o = some (d, want)) (hc : t.getD d undef = .tuple #[]) (hk : keepsNews o news = true)
    (hr : AD P E l b n m Q os (i + 1) (t.put o.dst undef) news) : AD P E l b n m Q (o :: os) i t news := by
  intro ρ w0 A acc hd
  refine Free.E.no (fun u => ?_) (hr ρ w0 _ _ (hd.q .undef hk))
  have hu : (A u).tmps.getD d undef = .tuple #[] := by
    obtain ⟨xs', e, h1, _⟩ := (hc ▸ (hd.rel u).get d).tuple_inv
    rw [e]
    simp at h1
    rw [Array.eq_empty_of_size_eq_zero h1.symm]
  unfold gdt at hg
  unfold Region.wanted
  split at hg
  · cases hg
  · rename_i j w' hgu
    rw [hgu]
    split at hg
    · rename_i d' hd'
      simp only [Option.some.injEq, Prod.mk.injEq] at hg
      obtain ⟨rfl, rfl⟩ := hg
      unfold yielded
      simp only [hd', Option.bind_some]
      rw [Array.getD_eq_getD_getElem?] at hu
      cases ht : (A u).tmps[d']? with
      | none => simp
      | some v => rw [ht] at hu; simp only [Option.getD_some] at hu; subst hu; simp
    · cases hg
end
section
variable {P : Program} {t : T} {m : Mem} {dst : Option Tmp} {ty rt : TypeId} {pos : String} {after : Array Edge} {guard : Option (Nat × Bool)} {x y : Operand} {k : IntKind} {a : Int} {n : Nat}
theorem extract_list (cs : Array Value) (o n : Nat) : cs.extract o (o + n) = ((cs.toList.drop o).take n).toArray := by
  apply Array.ext'
  simp [List.take_drop]
theorem OQ.fieldL {i off : Nat} {cs : Array Value} {l : List Value} (hx : t.ev x = .agg cs) (hf : fieldOf P ty i = some (off, n, true)) (hl : cs.toList = l) : OQ P ⟨dst, .field ty x i, rt, pos, after, guard⟩ t m (.agg ((l.drop off).take n).toArray) := by
  subst hl
  rw [← extract_list]
  exact OQ.fieldN hx hf
theorem OQ.idxArrL {l : Nat} {cs : Array Value} {ls : List Value} (hx : t.ev x = .agg cs) (hy : t.ev y = .int k a) (hf : elemOf' P ty = some (some l, n, true)) (h0 : 0 ≤ a) (h1 : a < l) (hl : cs.toList = ls) : OQ P ⟨dst, .index ty x y, rt, pos, after, guard⟩ t m (.agg ((ls.drop (a.toNat * n)).take n).toArray) := by
  subst hl
  rw [← extract_list]
  exact OQ.idxArrN hx hy hf h0 h1
end
section
variable {P : Program} {E : Env} {t : T} {m : Mem} {Q : Post} {c d : Code}
theorem AW.condT {x : Operand} {b : Bool} (hx : t.ev x = .bool b) (h : b = true) (h1 : AW P E c t m Q) : AW P E (.cond x c d) t m Q := AW.cond hx (fun _ => h1) (fun h' => by rw [h] at h'; cases h')
theorem AW.condF {x : Operand} {b : Bool} (hx : t.ev x = .bool b) (h : b = false) (h1 : AW P E d t m Q) : AW P E (.cond x c d) t m Q := AW.cond hx (fun h' => by rw [h] at h'; cases h') (fun _ => h1)
/-- A loop of few rounds. -/
def AR (P : Program) (E : Env) (c : Code) (Q : Post) : Nat → T → Mem → Prop
  | 0, _, _ => False
  | n + 1, t, m => AW P E c t m (Then (AR P E c Q n) Q)
theorem AR.s {n : Nat} (h : AW P E c t m (Then (AR P E c Q n) Q)) : AR P E c Q (n + 1) t m := h
theorem AR.rounds : ∀ (n : Nat) (t : T) (m : Mem), AR P E c Q n t m → ∀ ρ a w, a.defers = [] → TRel ρ t a.tmps → St E ρ m w → c.rounds P (lift E Q) n a w
  | 0, _, _, h, _, _, _, _, _, _ => h.elim
  | n + 1, t, m, h, ρ, a, w, hd, ht, hs => by
    rw [rounds_succ]
    refine wp_mono (h ρ a w hd ht hs) ?_
    rintro e a' w' ⟨hd', ρ', t', m', hq, ht', hs'⟩
    cases e with
    | normal => exact AR.rounds n t' m' hq ρ' a' w' hd' ht' hs'
    | exit id => exact ⟨hd', ρ', t', m', hq, ht', hs'⟩
    | goto l => exact ⟨hd', ρ', t', m', hq, ht', hs'⟩
    | ret => exact ⟨hd', ρ', t', m', hq, ht', hs'⟩
    | panic ch => exact ⟨hd', ρ', t', m', hq, ht', hs'⟩
    | outgrown => exact ⟨hd', ρ', t', m', hq, ht', hs'⟩
theorem AW.unroll (n : Nat) (h : AR P E c Q n t m) : AW P E (.loop c) t m Q := fun ρ a w hd ht hs => wp_loop_rounds n (AR.rounds n t m h ρ a w hd ht hs)
end

/-- What the elder walks say, of values without addresses. -/
theorem PCalls.of_calls {P : Program} {f : FuncId} {args : List Value} {m : Mem} {v : Value} (hk : args.all flat = true) (hv : flat v = true)
    (h : ∀ w, Calls P f args.toArray w fun e w' => e = .returned v ∧ Below w.heap.size w w') : PCalls P f args m v := by
  intro ρ args' w hdom hargs hm
  obtain ⟨xs', e, h1, h2⟩ := hargs.tuple_inv
  cases e
  have : args' = args.toArray := by
    refine Array.ext (by simpa using h1.symm) fun i hi hi' => ?_
    have hi0 : i < args.length := by simpa using hi'
    obtain ⟨u', e1, e2⟩ := h2 i args[i] (by simp [hi0])
    rw [Array.getElem?_eq_getElem hi] at e1
    rw [Option.some.inj e1, e2.of_flat (List.all_eq_true.1 hk _ (List.getElem_mem hi0))]
    simp
  subst this
  exact (h w).mono fun e w' ⟨he, hb⟩ => ⟨v, he, .flat hv, hb⟩
theorem PCalls.of_same {P : Program} {f : FuncId} {args : List Value} {m : Mem} {v : Value} (hk : args.all flat = true) (hv : flat v = true)
    (h : ∀ w, Calls P f args.toArray w fun e w' => e = .returned v ∧ w = w') : PCalls P f args m v := PCalls.of_calls hk hv fun w => Free.Calls.grow (h w)
end Ab
end Go
