/- The small memory: texts: joining two of them, texts of bytes; calls of the library that hang on the world's first blocks. -/
import Derived.Test.YtmghmmmfdbafoaaGreatDoorAbW
import Derived.Laws.BytesString
import Derived.Laws.BytesArg
import Derived.Laws.Concat
set_option linter.unusedSimpArgs false
set_option linter.unusedVariables false
namespace Go
open Go.RowKit
namespace Ab

section
variable {P : Program} {t : T} {m : Mem} {dst : Option Tmp} {ty ty' rt : TypeId} {pos : String} {after : Array Edge} {guard : Option (Nat × Bool)} {x y : Operand}
theorem OQ.cat {s r : ByteArray} (hx : t.ev x = .string s) (hy : t.ev y = .string r) (h : s.size + r.size ≤ 9223372036854775807) : OQ P ⟨dst, .binOp .add ty x y ty', rt, pos, after, guard⟩ t m (.string (s ++ r)) :=
  fun ρ a' w ht _ => ⟨_, .scal rfl, fun w' _ => by simp [execOp, evs ht hx, evs ht hy, eqGuard, binOp_string_add, Sem.run_bind, Sem.run_pure, run_string_add_sum w' s r h]⟩
theorem bytes_fold : ∀ (ns : List UInt8) (r : ByteArray), (ns.map fun b => (b.toNat : Int)).foldl (fun r n => r.push (UInt8.ofNat n.toNat)) r = ⟨r.data ++ ns.toArray⟩
  | [], r => by simp
  | b :: ns, r => by
    rw [List.map_cons, List.foldl_cons, bytes_fold ns]
    apply ByteArray.ext
    simp
/-- A text of bytes. -/
theorem OQ.ofBytes {b o n c : Nat} {e : TypeId} {ns : List UInt8} (hx : t.ev x = .slice (some ⟨b, o, none⟩) n c) (hs : P.underlying ty = some (.slice e)) (he : P.underlying e = some (.int .u8)) (hd : P.underlying ty' = some .string)
    (hn : n ≠ 0) (hl : m.ld b o n = some (ns.map fun b => .int .u8 b.toNat)) : OQ P ⟨dst, .convert ty ty' x, rt, pos, after, guard⟩ t m (.string ⟨ns.toArray⟩) := by
  intro ρ a' w ht hm
  refine ⟨_, .scal rfl, fun w' hw => ?_⟩
  rcases (hx ▸ ht.ev x).slice_inv with ⟨pl, c', hp, k1, k2, k3, hv⟩ | ⟨h0, a2, hv⟩
  · obtain ⟨g1, vs', g2, g3, g4⟩ := hm.cells (P := P) hl hp
    have hvs : vs' = (ns.map fun b => (b.toNat : Int)).map (Value.int .u8) := by
      refine List.ext_getElem? fun i => ?_
      rw [List.map_map]
      by_cases hi : i < ns.length
      · obtain ⟨u', q1, q2⟩ := g3 i (.int .u8 (ns[i]).toNat) (by simp [hi])
        rw [q1, q2.int]
        simp [hi]
      · rw [List.getElem?_eq_none (by rw [g2, ← g1]; simpa using hi), List.getElem?_eq_none (by simpa using hi)]
    have hld := g4 w' hw
    rw [hvs] at hld
    have := run_bytesToString (P := P) w' _ n c' _ hld
    rw [bytes_fold] at this
    simp only [execOp, hv, Sem.run_bind, run_convert_bytes_string w' ty ty' e _ _ _ hs he hd, this, Result.andThen_ok, Sem.run_pure]
    simp [ByteArray.empty, ByteArray.emptyWithCapacity]
    rfl
  · exact absurd h0 hn
end

section
variable {P : Program} {t : T} {m : Mem} {dst : Option Tmp} {ty rt : TypeId} {pos : String} {after : Array Edge} {guard : Option (Nat × Bool)}
/-- A list of one value. -/
theorem OW.build1 {parts : Array (Nat × Operand)} {z v0 : Value} {g : Bool} (hpl : elemOf' P ty = some (none, 1, g)) (hz : ((match P.underlying ty with | some (.slice e) => zeroOf P e | _ => none)) = some [z]) (hs : scal z = true)
    (hpv : parts.toList.map (fun p => (p.1, t.ev p.2)) = [(0, v0)]) (h0 : isJ v0 = false ∧ v0.cells = #[v0]) :
    OW P ⟨dst, .buildSlice ty 1 parts, rt, pos, after, guard⟩ t m (.slice (some ⟨m.length, 0, none⟩) 1 1) (m ++ [some ⟨[v0], true, 1⟩]) := by
  refine OW.buildSl hpl hz (by simp [hs]) hpv ?_ (by decide) (by decide) rfl ?_
  · simp [partsOk, h0]
  · simp [fillL, putAt, h0, List.range, List.range.loop]
end

theorem args_eq {ρ : Ren} {args : List Value} {args' : Array Value} (hargs : VRel ρ (.tuple args.toArray) (.tuple args')) (hk : args.all flat = true) : args' = args.toArray := by
  obtain ⟨xs', e, h1, h2⟩ := hargs.tuple_inv
  cases e
  refine Array.ext (by simpa using h1.symm) fun i hi hi' => ?_
  have hi0 : i < args.length := by simpa using hi'
  obtain ⟨u', e1, e2⟩ := h2 i args[i] (by simp [hi0])
  rw [Array.getElem?_eq_getElem hi] at e1
  rw [Option.some.inj e1, e2.of_flat (List.all_eq_true.1 hk _ (List.getElem_mem hi0))]
  simp
/-- An elder contract that hangs on the first blocks. -/
theorem PCallsW.of_calls {N0 : Nat} {W0 : World} {P : Program} {f : FuncId} {args : List Value} {m : Mem} {v : Value} (hk : args.all flat = true) (hv : flat v = true)
    (h : ∀ w, GW N0 W0 w → Calls P f args.toArray w fun e w' => e = .returned v ∧ Below w.heap.size w w') : PCallsW N0 W0 P f args m v := by
  intro ρ args' w hW hdom hargs hm
  obtain rfl := args_eq hargs hk
  exact (h w hW).mono fun e w' ⟨he, hb⟩ => ⟨v, he, .flat hv, hb⟩
/-- A call that gives a value and an error that is not nil. -/
theorem PCallsW.of_err {N0 : Nat} {W0 : World} {P : Program} {f : FuncId} {args : List Value} {m : Mem} {v : Value} {ty : TypeId} (hk : args.all flat = true) (hv : flat1 v = true)
    (h : ∀ w, GW N0 W0 w → Calls P f args.toArray w fun e w' => (∃ p, e = .returned (.tuple #[v, .iface ty p])) ∧ Below w.heap.size w w') : PCallsW N0 W0 P f args m (.tuple #[v, .iface ty junk]) := by
  intro ρ args' w hW hdom hargs hm
  obtain rfl := args_eq hargs hk
  refine (h w hW).mono fun e w' ⟨⟨p, he⟩, hb⟩ => ⟨_, he, .tuple rfl fun i hi hi' => ?_, hb⟩
  match i, hi with
  | 0, _ => exact .flat1 hv
  | 1, _ => exact .iface
/-- Arguments of which some are not looked at. -/
def ArgsJ : List Value → List Value → Prop
  | a :: as, b :: bs => (a = junk ∨ (a = b ∧ flat a = true)) ∧ ArgsJ as bs
  | [], [] => True
  | _, _ => False
theorem ArgsJ.get : ∀ (as bs : List Value), ArgsJ as bs → as.length = bs.length ∧ ∀ (i : Nat) (a b : Value), as[i]? = some a → bs[i]? = some b → a = junk ∨ (a = b ∧ flat a = true)
  | [], [], _ => ⟨rfl, fun i a b h => by simp at h⟩
  | a :: as, b :: bs, ⟨h, hs⟩ => by
    obtain ⟨h1, h2⟩ := ArgsJ.get as bs hs
    refine ⟨by simp [h1], fun i x y hx hy => ?_⟩
    match i with
    | 0 => cases hx; cases hy; exact h
    | i + 1 => exact h2 i x y hx hy
theorem PCallsW.junk {N0 : Nat} {W0 : World} {P : Program} {f : FuncId} {args args' : List Value} {v : Value} (h : PCallsW N0 W0 P f args [] v) (hv : flat v = true) (ha : ArgsJ args args') (m : Mem) : PCallsW N0 W0 P f args' m v := by
  intro ρ margs w hW hdom hargs hm
  obtain ⟨g1, g2⟩ := ArgsJ.get _ _ ha
  obtain ⟨xs', e, h1, h2⟩ := hargs.tuple_inv
  cases e
  refine (h (fun _ => none) margs w hW (fun b pl hb => by cases hb) (.tuple (by simp at h1 ⊢; omega) fun i hi hi' => ?_) (fun b blk hb => by simp [Mem.at] at hb)).mono fun e w' ⟨v', he, hr, hb⟩ => ⟨v, by rw [he, hr.of_flat hv], .flat hv, hb⟩
  have hi0 : i < args.length := by simpa using hi
  have hi1 : i < args'.length := by omega
  obtain ⟨u', e1, e2⟩ := h2 i args'[i] (by simp [hi1])
  rw [Array.getElem?_eq_getElem hi'] at e1
  cases e1
  simp only [List.getElem_toArray]
  rcases g2 i args[i] args'[i] (by simp [hi0]) (by simp [hi1]) with h | ⟨h, hf⟩
  · rw [h]; exact .junk _
  · rw [e2.of_flat (h ▸ hf), ← h]
    exact .flat hf
/-- The type of an interface. -/
def isIf (P : Program) (ty : TypeId) : Bool := match P.underlying ty with | some (.interface _) => true | _ => false
section
variable {P : Program} {t : T} {m : Mem} {dst : Option Tmp} {rt ty ty' : TypeId} {pos : String} {after : Array Edge} {guard : Option (Nat × Bool)} {x y : Operand}
theorem isIf_at (h : isIf P ty = true) : ∃ q, P.underlying ty = some (.interface q) := by
  unfold isIf at h
  split at h
  · exact ⟨_, by assumption⟩
  · cases h
theorem run_if1 {u : TypeId} {p : Value} {w : World} (hs : isIf P ty = true) : (Op.equal ty (.iface u p) .nilIface).run P w = .ok false w := by
  obtain ⟨q, hq⟩ := isIf_at hs
  unfold Op.equal Op.maxDepth Op.equalIn
  simp [run_und hq, Sem.run_bind, Sem.run_pure]
theorem run_if0 {w : World} (hs : isIf P ty = true) : (Op.equal ty .nilIface .nilIface).run P w = .ok true w := by
  obtain ⟨q, hq⟩ := isIf_at hs
  unfold Op.equal Op.maxDepth Op.equalIn
  simp [run_und hq, Sem.run_bind, Sem.run_pure]
/-- An error compared with nil. -/
theorem OQ.errNe {u : TypeId} {p : Value} (hx : t.ev x = .iface u p) (hy : t.ev y = .nilIface) (hs : isIf P ty = true) : OQ P ⟨dst, .binOp .neq ty x y ty', rt, pos, after, guard⟩ t m (.bool true) :=
  fun ρ a' w ht _ => by
    have hr := hx ▸ ht.ev x
    have hy' : a'.eval y = .nilIface := VRel.of_scal (hy ▸ ht.ev y) rfl
    obtain ⟨p', hx'⟩ : ∃ p', a'.eval x = .iface u p' := by
      generalize a'.eval x = v at hr
      cases hr with
      | scal h => exact ⟨_, rfl⟩
      | iface => exact ⟨_, rfl⟩
    exact ⟨_, .scal rfl, fun w' _ => by simp [execOp, hx', hy', eqGuard, binOp, Sem.run_bind, Sem.run_pure, run_if1 hs]⟩
theorem OQ.errNil (hx : t.ev x = .nilIface) (hs : isIf P ty = true) : OQ P ⟨dst, .binOp .neq ty x (.const .nilIface) ty', rt, pos, after, guard⟩ t m (.bool false) :=
  fun ρ a' w ht _ => by
    have hx' : a'.eval x = .nilIface := VRel.of_scal (hx ▸ ht.ev x) rfl
    have hy' : a'.eval (.const .nilIface) = .nilIface := rfl
    exact ⟨_, .scal rfl, fun w' _ => by simp [execOp, hx', hy', eqGuard, binOp, Sem.run_bind, Sem.run_pure, run_if0 hs]⟩
end
/-- A call that gives a new list. -/
theorem ACallsW.of_row {N0 : Nat} {W0 : World} {P : Program} {f : FuncId} {args : List Value} {m : Mem} {cs : List Value} {n z : Nat} {ty : TypeId} (hk : args.all flat = true) (hs : cs.all scal = true) (hn : n * z = cs.length)
    (h : ∀ w, GW N0 W0 w → Calls P f args.toArray w fun e w' => e = .returned (.slice (some ⟨w.heap.size, 0, none⟩) n n) ∧ w' = w.alloc (.cells cs.toArray ty)) :
    ACallsW N0 W0 P f args m (.slice (some ⟨m.length, 0, none⟩) n n) (m ++ [some ⟨cs, true, z⟩]) := by
  intro E ρ args' w hW hargs hst
  obtain rfl := args_eq hargs hk
  refine (h w (hW.at hst)).mono ?_
  rintro e w' ⟨rfl, rfl⟩
  refine ⟨_, _, rfl, hst.ext_new ⟨w.heap.size, 0, z, cs.toArray.size⟩, .slice (b := m.length) (o := 0) (pl := ⟨w.heap.size, 0, z, cs.toArray.size⟩) (by simp [Ren.new]) (Nat.le_refl _) (fun _ => Nat.le_refl _) (fun _ => by simp [hn]), hst.new (ty := ty) (c := cs.toArray) fun i v hv => ⟨v, by simpa using hv, .scal (List.all_eq_true.1 hs v (List.mem_of_getElem? hv))⟩⟩
/-- A call that reads a list of texts. -/
theorem PCallsW.of_texts {N0 : Nat} {W0 : World} {P : Program} {f : FuncId} {m : Mem} {b o c : Nat} {xs : List ByteArray} {sep : ByteArray} {v : Value} {blk : Blk} (hv : flat v = true) (hb : m.at b = some blk)
    (hc : ∀ (j : Nat) s, xs[j]? = some s → blk.cells[o + j]? = some (.string s)) (hx : xs ≠ [])
    (h : ∀ w bk o c, GW N0 W0 w → bk < w.heap.size → (∀ (j : Nat) s, xs[j]? = some s → w.cell? ⟨bk, o + j, none⟩ = some (.string s)) → xs.length ≤ c →
      Calls P f #[.slice (some ⟨bk, o, none⟩) xs.length c, .string sep] w fun e w' => e = .returned v ∧ Below w.heap.size w w') :
    PCallsW N0 W0 P f [.slice (some ⟨b, o, none⟩) xs.length c, .string sep] m v := by
  intro ρ args' w hW hdom hargs hm
  obtain ⟨xs', e, h1, h2⟩ := hargs.tuple_inv
  cases e
  obtain ⟨u0, e0, r0⟩ := h2 0 _ rfl
  obtain ⟨u1, e1, r1⟩ := h2 1 _ rfl
  have hargs' : args' = #[u0, u1] := by
    refine Array.ext (by simpa using h1.symm) fun i hi hi' => ?_
    have hi2 : i < 2 := by simpa using hi'
    match i, hi2 with
    | 0, _ => rw [Array.getElem?_eq_getElem hi] at e0; exact Option.some.inj e0
    | 1, _ => rw [Array.getElem?_eq_getElem hi] at e1; exact Option.some.inj e1
  subst hargs'
  obtain rfl := r1.string
  obtain ⟨pl, hp, ⟨cc, ty, fr, g1, g2, g3, g4⟩, _⟩ := hm b blk hb
  have hlen : xs.length ≠ 0 := fun h0 => hx (List.length_eq_zero_iff.1 h0)
  rcases r0.slice_inv with ⟨pl2, c', hp2, k1, k2, k3, rfl⟩ | ⟨h0, a', rfl⟩
  · cases Option.some.inj (hp.symm.trans hp2)
    refine (h w pl.blk (o + pl.sh) c' hW (by
      rw [Array.getElem?_eq_some_iff] at g1
      exact g1.1) (fun j s hj => ?_) k1).mono fun e w' ⟨he, hbw⟩ => ⟨v, he, .flat hv, hbw⟩
    obtain ⟨s', q1, q2⟩ := g3 (o + j) _ (hc j s hj)
    obtain rfl := q2.string
    simp only [World.cell?, g1]
    rw [show o + pl.sh + j = o + j + pl.sh by omega]
    simpa using q1
  · exact absurd h0 hlen
end Ab
end Go
