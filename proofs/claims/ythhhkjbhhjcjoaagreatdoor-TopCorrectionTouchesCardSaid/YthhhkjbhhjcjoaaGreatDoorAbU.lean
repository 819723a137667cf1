/- The small memory: texts: joining two of them, texts of bytes; calls of the library that hang on the world's first blocks. -/
import Derived.Test.YthhhkjbhhjcjoaaGreatDoorAbW
import Derived.Laws.BytesString
import Derived.Laws.BytesArg
import Derived.Laws.Concat
set_option linter.unusedSimpArgs false
set_option linter.unusedVariables false
namespace Go
open Go.RowKit
namespace Ab

section
variable {P : Program} {t : T} {m : Mem} {dst : Option Tmp} {ty ty' rt : TypeId} {pos : String} {after : Array Edge} {guard : Option (Nat × Bool)} {x y : Operand}
end

section
variable {P : Program} {t : T} {m : Mem} {dst : Option Tmp} {ty rt : TypeId} {pos : String} {after : Array Edge} {guard : Option (Nat × Bool)}
/-- A list of one value. -/
theorem OW.build1 {parts : Array (Nat × Operand)} {z v0 : Value} {g : Bool} (hpl : elemOf' P ty = some (none, 1, g)) (hz : ((match P.underlying ty with | some (.slice e) => zeroOf P e | _ => none)) = some [z]) (hs : scal z = true)
    (hpv : parts.toList.map (fun p => (p.1, t.ev p.2)) = [(0, v0)]) (h0 : isJ v0 = false ∧ v0.cells = #[v0]) :
    OW P ⟨dst, .buildSlice ty 1 parts, rt, pos, after, guard⟩ t m (.slice (some ⟨m.length, 0, none⟩) 1 1) (m ++ [some ⟨[v0], true, 1⟩]) := by
  refine OW.buildSl hpl hz (by simp [hs]) hpv ?_ (by decide) (by decide) rfl ?_
  · simp [partsOk, h0]
  · simp [fillL, putAt, h0, List.range, List.range.loop]
end

theorem args_eq {ρ : Ren} {args : List Value} {args' : Array Value} (hargs : VRel ρ (.tuple args.toArray) (.tuple args')) (hk : args.all flat = true) : args' = args.toArray := by
  obtain ⟨xs', e, h1, h2⟩ := hargs.tuple_inv
  cases e
  refine Array.ext (by simpa using h1.symm) fun i hi hi' => ?_
  have hi0 : i < args.length := by simpa using hi'
  obtain ⟨u', e1, e2⟩ := h2 i args[i] (by simp [hi0])
  rw [Array.getElem?_eq_getElem hi] at e1
  rw [Option.some.inj e1, e2.of_flat (List.all_eq_true.1 hk _ (List.getElem_mem hi0))]
  simp
/-- An elder contract that hangs on the first blocks. -/
theorem PCallsW.of_calls {N0 : Nat} {W0 : World} {P : Program} {f : FuncId} {args : List Value} {m : Mem} {v : Value} (hk : args.all flat = true) (hv : flat v = true)
    (h : ∀ w, GW N0 W0 w → Calls P f args.toArray w fun e w' => e = .returned v ∧ Below w.heap.size w w') : PCallsW N0 W0 P f args m v := by
  intro ρ args' w hW hdom hargs hm
  obtain rfl := args_eq hargs hk
  exact (h w hW).mono fun e w' ⟨he, hb⟩ => ⟨v, he, .flat hv, hb⟩
/-- A call that gives a new list. -/
theorem ACallsW.of_row {N0 : Nat} {W0 : World} {P : Program} {f : FuncId} {args : List Value} {m : Mem} {cs : List Value} {n z : Nat} {ty : TypeId} (hk : args.all flat = true) (hs : cs.all scal = true) (hn : n * z = cs.length)
    (h : ∀ w, GW N0 W0 w → Calls P f args.toArray w fun e w' => e = .returned (.slice (some ⟨w.heap.size, 0, none⟩) n n) ∧ w' = w.alloc (.cells cs.toArray ty)) :
    ACallsW N0 W0 P f args m (.slice (some ⟨m.length, 0, none⟩) n n) (m ++ [some ⟨cs, true, z⟩]) := by
  intro E ρ args' w hW hargs hst
  obtain rfl := args_eq hargs hk
  refine (h w (hW.at hst)).mono ?_
  rintro e w' ⟨rfl, rfl⟩
  refine ⟨_, _, rfl, hst.ext_new ⟨w.heap.size, 0, z, cs.toArray.size⟩, .slice (b := m.length) (o := 0) (pl := ⟨w.heap.size, 0, z, cs.toArray.size⟩) (by simp [Ren.new]) (Nat.le_refl _) (fun _ => Nat.le_refl _) (fun _ => by simp [hn]), hst.new (ty := ty) (c := cs.toArray) fun i v hv => ⟨v, by simpa using hv, .scal (List.all_eq_true.1 hs v (List.mem_of_getElem? hv))⟩⟩
/-- A call that reads a list of texts. -/
theorem PCallsW.of_texts {N0 : Nat} {W0 : World} {P : Program} {f : FuncId} {m : Mem} {b o c : Nat} {xs : List ByteArray} {sep : ByteArray} {v : Value} {blk : Blk} (hv : flat v = true) (hb : m.at b = some blk)
    (hc : ∀ (j : Nat) s, xs[j]? = some s → blk.cells[o + j]? = some (.string s)) (hx : xs ≠ [])
    (h : ∀ w bk o c, GW N0 W0 w → bk < w.heap.size → (∀ (j : Nat) s, xs[j]? = some s → w.cell? ⟨bk, o + j, none⟩ = some (.string s)) → xs.length ≤ c →
      Calls P f #[.slice (some ⟨bk, o, none⟩) xs.length c, .string sep] w fun e w' => e = .returned v ∧ Below w.heap.size w w') :
    PCallsW N0 W0 P f [.slice (some ⟨b, o, none⟩) xs.length c, .string sep] m v := by
  intro ρ args' w hW hdom hargs hm
  obtain ⟨xs', e, h1, h2⟩ := hargs.tuple_inv
  cases e
  obtain ⟨u0, e0, r0⟩ := h2 0 _ rfl
  obtain ⟨u1, e1, r1⟩ := h2 1 _ rfl
  have hargs' : args' = #[u0, u1] := by
    refine Array.ext (by simpa using h1.symm) fun i hi hi' => ?_
    have hi2 : i < 2 := by simpa using hi'
    match i, hi2 with
    | 0, _ => rw [Array.getElem?_eq_getElem hi] at e0; exact Option.some.inj e0
    | 1, _ => rw [Array.getElem?_eq_getElem hi] at e1; exact Option.some.inj e1
  subst hargs'
  obtain rfl := r1.string
  obtain ⟨pl, hp, ⟨cc, ty, fr, g1, g2, g3, g4⟩, _⟩ := hm b blk hb
  have hlen : xs.length ≠ 0 := fun h0 => hx (List.length_eq_zero_iff.1 h0)
  rcases r0.slice_inv with ⟨pl2, c', hp2, k1, k2, k3, rfl⟩ | ⟨h0, a', rfl⟩
  · cases Option.some.inj (hp.symm.trans hp2)
    refine (h w pl.blk (o + pl.sh) c' hW (by
      rw [Array.getElem?_eq_some_iff] at g1
      exact g1.1) (fun j s hj => ?_) k1).mono fun e w' ⟨he, hbw⟩ => ⟨v, he, .flat hv, hbw⟩
    obtain ⟨s', q1, q2⟩ := g3 (o + j) _ (hc j s hj)
    obtain rfl := q2.string
    simp only [World.cell?, g1]
    rw [show o + pl.sh + j = o + j + pl.sh by omega]
    simpa using q1
  · exact absurd h0 hlen
end Ab
end Go
