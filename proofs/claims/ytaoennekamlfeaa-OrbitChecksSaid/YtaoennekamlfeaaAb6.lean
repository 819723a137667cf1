/- The small memory, part 6: sums that keep within int; building, lengths, slices; contracts carried on. -/
import Derived.Test.YtaoennekamlfeaaAb5
set_option linter.unusedSimpArgs false
set_option linter.unusedVariables false
namespace Go
open Go.RowKit
namespace Ab

theorem wrap_id {n : Int} (h : -9223372036854775808 ≤ n ∧ n ≤ 9223372036854775807) : IntKind.i64.wrap n = n := by
  obtain ⟨h1, h2⟩ := h
  have e1 : (2 ^ IntKind.i64.bits : Int) = 18446744073709551616 := rfl
  have e2 : (2 ^ (IntKind.i64.bits - 1) : Int) = 9223372036854775808 := rfl
  have e3 : IntKind.i64.signed = true := rfl
  unfold IntKind.wrap
  simp only [e1, e2, e3, Bool.true_and, decide_eq_true_eq]
  split <;> omega

section ops
variable {P : Program} {t : T} {m : Mem} {dst : Option Tmp} {ty ty' rt : TypeId} {pos : String} {after : Array Edge} {guard : Option (Nat × Bool)} {x y z : Operand} {k : IntKind} {a b c : Int}

theorem OQ.addi (hx : t.ev x = .int .i64 a) (hy : t.ev y = .int .i64 b) (h : -9223372036854775808 ≤ a + b ∧ a + b ≤ 9223372036854775807) : OQ P ⟨dst, .binOp .add ty x y ty', rt, pos, after, guard⟩ t m (.int .i64 (a + b)) := wrap_id h ▸ OQ.add hx hy
theorem OQ.subi (hx : t.ev x = .int .i64 a) (hy : t.ev y = .int .i64 b) (h : -9223372036854775808 ≤ a - b ∧ a - b ≤ 9223372036854775807) : OQ P ⟨dst, .binOp .sub ty x y ty', rt, pos, after, guard⟩ t m (.int .i64 (a - b)) := wrap_id h ▸ OQ.sub hx hy
theorem OQ.muli (hx : t.ev x = .int .i64 a) (hy : t.ev y = .int .i64 b) (h : -9223372036854775808 ≤ a * b ∧ a * b ≤ 9223372036854775807) : OQ P ⟨dst, .binOp .mul ty x y ty', rt, pos, after, guard⟩ t m (.int .i64 (a * b)) := wrap_id h ▸ OQ.mul hx hy
theorem OQ.quoi (hx : t.ev x = .int .i64 a) (hy : t.ev y = .int .i64 b) (h0 : b ≠ 0) (h : -9223372036854775808 ≤ a.tdiv b ∧ a.tdiv b ≤ 9223372036854775807) : OQ P ⟨dst, .binOp .quo ty x y ty', rt, pos, after, guard⟩ t m (.int .i64 (a.tdiv b)) := wrap_id h ▸ OQ.quo hx hy h0
theorem OQ.negi (hx : t.ev x = .int .i64 a) (h : -9223372036854775808 ≤ -a ∧ -a ≤ 9223372036854775807) : OQ P ⟨dst, .unOp .neg ty x, rt, pos, after, guard⟩ t m (.int .i64 (-a)) := by
  have := OQ.neg (P := P) (m := m) (dst := dst) (ty := ty) (rt := rt) (pos := pos) (after := after) (guard := guard) hx
  rw [show (0 : Int) - a = -a by omega, wrap_id h] at this
  exact this
theorem OQ.pickT {cc : Bool} {v : Value} (hx : t.ev x = .bool cc) (h : cc = true) (hy : t.ev y = v) : OQ P ⟨dst, .pick x y z, rt, pos, after, guard⟩ t m v := by subst h; exact OQ.pick hx hy rfl
theorem OQ.pickF {cc : Bool} {v : Value} (hx : t.ev x = .bool cc) (h : cc = false) (hz : t.ev z = v) : OQ P ⟨dst, .pick x y z, rt, pos, after, guard⟩ t m v := by subst h; exact OQ.pick hx rfl hz

theorem OQ.lenS {a : Option Addr} {n c : Nat} {r : Option Nat × Nat × Bool} {xt : TypeId} (hx : t.ev x = .slice a n c) (hs : elemOf' P xt = some (none, r.2)) : OQ P ⟨dst, .call ⟨.builtin .len, #[x], #[xt]⟩, rt, pos, after, guard⟩ t m (.int .i64 n) := by
  intro ρ a' w ht hm
  obtain ⟨e, e1, _⟩ := elemOf_slice (n := r.2.1) (b := r.2.2) hs
  have hr := hx ▸ ht.ev x
  have : ∃ b c', a'.eval x = .slice b n c' := by
    generalize a'.eval x = v at hr
    cases hr with
    | scal h => exact ⟨_, _, rfl⟩
    | slice => exact ⟨_, _, rfl⟩
    | empty => exact ⟨_, _, rfl⟩
  obtain ⟨b, c', he⟩ := this
  refine ⟨_, .scal rfl, fun w' _ => ?_⟩
  simp [execOp, resolve, invoke, builtin, Builtin.len_, he, Sem.run_bind, Sem.run_pure, run_und e1, goInt]
theorem OQ.lenStr {s : ByteArray} {xt : TypeId} (hx : t.ev x = .string s) (hs : P.underlying xt = some .string) : OQ P ⟨dst, .call ⟨.builtin .len, #[x], #[xt]⟩, rt, pos, after, guard⟩ t m (.int .i64 s.size) :=
  fun ρ a' w ht _ => ⟨_, .scal rfl, fun w' _ => by simp [execOp, resolve, invoke, builtin, Builtin.len_, evs ht hx, Sem.run_bind, Sem.run_pure, run_und hs, goInt]⟩
theorem OQ.lenArr {n : Nat} {xt e : TypeId} (hs : P.underlying xt = some (.array n e)) : OQ P ⟨dst, .call ⟨.builtin .len, #[x], #[xt]⟩, rt, pos, after, guard⟩ t m (.int .i64 n) :=
  fun ρ a' w ht _ => ⟨_, .scal rfl, fun w' _ => by simp [execOp, resolve, invoke, builtin, Builtin.len_, Sem.run_bind, Sem.run_pure, run_und hs, goInt]⟩
theorem OQ.max2 {ats : Array TypeId} (hx : t.ev x = .int k a) (hy : t.ev y = .int k b) : OQ P ⟨dst, .call ⟨.builtin .max, #[x, y], ats⟩, rt, pos, after, guard⟩ t m (.int k (if b > a then b else a)) :=
  fun ρ a' w ht _ => ⟨_, .scal rfl, fun w' _ => by simp [execOp, resolve, invoke, builtin, Builtin.max_, Builtin.max2, evi ht hx, evi ht hy, Sem.run_bind, Sem.run_pure]⟩
theorem OQ.min2 {ats : Array TypeId} (hx : t.ev x = .int k a) (hy : t.ev y = .int k b) : OQ P ⟨dst, .call ⟨.builtin .min, #[x, y], ats⟩, rt, pos, after, guard⟩ t m (.int k (if b < a then b else a)) :=
  fun ρ a' w ht _ => ⟨_, .scal rfl, fun w' _ => by simp [execOp, resolve, invoke, builtin, Builtin.min_, Builtin.min2, evi ht hx, evi ht hy, Sem.run_bind, Sem.run_pure]⟩
theorem OQ.max3 {ats : Array TypeId} (hx : t.ev x = .int k a) (hy : t.ev y = .int k b) (hz : t.ev z = .int k c) : OQ P ⟨dst, .call ⟨.builtin .max, #[x, y, z], ats⟩, rt, pos, after, guard⟩ t m (.int k (if c > (if b > a then b else a) then c else (if b > a then b else a))) :=
  fun ρ a' w ht _ => ⟨_, .scal rfl, fun w' _ => by simp [execOp, resolve, invoke, builtin, Builtin.max_, Builtin.max2, evi ht hx, evi ht hy, evi ht hz, Sem.run_bind, Sem.run_pure]⟩

theorem OQ.mkfn {fn : Fn} {first cap : Array Operand} : OQ P ⟨dst, .makeFunc fn first cap, rt, pos, after, guard⟩ t m (.func fn (first.toList.map t.ev).toArray (cap.toList.map t.ev).toArray) := by
  intro ρ a w ht _
  refine ⟨.func fn (first.map a.eval) (cap.map a.eval), ?_, fun w' _ => by simp [execOp, Instr.makeFunc, Sem.run_bind, Sem.run_pure]⟩
  refine .func (by simp) (by simp) (fun i h h' => ?_) (fun i h h' => ?_)
  · simp only [List.getElem_toArray, List.getElem_map, Array.getElem_map, Array.getElem_toList]; exact ht.ev _
  · simp only [List.getElem_toArray, List.getElem_map, Array.getElem_map, Array.getElem_toList]; exact ht.ev _

/-- A list of cells with the values of parts laid in. -/
def fillL (place : Nat → Option Nat) (cells : List Value) : List (Nat × Value) → Option (List Value)
  | [] => some cells
  | (i, v) :: rest =>
    match place i with
    | none => none
    | some off => if off + v.cells.toList.length ≤ cells.length then fillL place (putAt cells off v.cells.toList) rest else none

theorem zipFold (v : List Value) : ∀ (off k : Nat) (cells : Array Value), ((v.zipIdx k).foldl (fun cs (p : Value × Nat) => cs.setIfInBounds (off + p.2) p.1) cells) = (putAt cells.toList (off + k) v).toArray := by
  induction v with
  | nil => intro off k cells; simp [putAt]
  | cons u us ih =>
    intro off k cells
    simp only [List.zipIdx_cons, List.foldl_cons, putAt]
    rw [ih]
    simp [Nat.add_assoc]

theorem fill_rel {ρ : Ren} {place : Nat → Option (Nat × Nat)} {pl : Nat → Option Nat} : ∀ (parts : List (Nat × Value)) (parts' : List (Nat × Value)) (cells cells' : List Value),
    cells.length = cells'.length → (∀ (i : Nat) (v : Value), cells[i]? = some v → ∃ v', cells'[i]? = some v' ∧ VRel ρ v v') →
    (parts.length = parts'.length ∧ ∀ (i : Nat) (p : Nat × Value), parts[i]? = some p → ∃ v', parts'[i]? = some (p.1, v') ∧ VRel ρ p.2 v' ∧ (∀ r, p.2 ≠ .chan r) ∧ ∃ off, pl p.1 = some off ∧ place p.1 = some (off, p.2.cells.size)) →
    ∀ r, fillL pl cells parts = some r → ∃ r', Instr.fill place cells'.toArray parts' = some r' ∧ r.length = r'.size ∧ ∀ (i : Nat) (v : Value), r[i]? = some v → ∃ v', r'[i]? = some v' ∧ VRel ρ v v'
  | [], parts', cells, cells', hl, hc, hp, r, hr => by
    have : parts' = [] := List.eq_nil_of_length_eq_zero hp.1.symm
    subst this
    cases Option.some.inj hr
    exact ⟨cells'.toArray, rfl, by simpa using hl, fun i v hv => by simpa using hc i v hv⟩
  | (i, v) :: rest, parts', cells, cells', hl, hc, hp, r, hr => by
    obtain ⟨hp1, hp2⟩ := hp
    rcases parts' with _ | ⟨⟨i', v'⟩, rest'⟩
    · simp at hp1
    obtain ⟨v0, e0, hv, hj, off, ho1, ho2⟩ := hp2 0 (i, v) rfl
    simp only [List.getElem?_cons_zero, Option.some.injEq, Prod.mk.injEq] at e0
    obtain ⟨rfl, rfl⟩ := e0
    obtain ⟨g1, g2⟩ := hv.cells hj
    simp only [fillL, ho1] at hr
    split at hr
    · rename_i hle
      simp only [Array.length_toList] at hle
      simp only [Instr.fill, ho2]
      rw [if_neg (by simp [← g1, ← hl]; omega)]
      have hz := zipFold v'.cells.toList off 0 cells'.toArray
      have e : v'.cells.zipIdx.foldl (fun cs (x : Value × Nat) => match x with | (c, j) => cs.setIfInBounds (off + j) c) cells'.toArray = (putAt cells' off v'.cells.toList).toArray := by
        rw [← Array.foldl_toList, Array.toList_zipIdx]
        simpa using hz
      erw [e]
      refine fill_rel rest rest' _ _ (by simp [putAt_length, hl]) (fun j u hu => ?_) ⟨by simpa using hp1, fun j p hp => hp2 (j + 1) p (by simpa using hp)⟩ r hr
      rw [putAt_get] at hu ⊢
      simp only [Array.length_toList, ← g1, ← hl] at hu ⊢
      split at hu
      · rename_i h1
        rw [if_pos h1]
        obtain ⟨u', q1, q2⟩ := g2 (j - off) u (by simpa using hu)
        exact ⟨u', by simpa using q1, q2⟩
      · rename_i h1
        rw [if_neg h1]
        exact hc j u hu
    · cases hr
end ops

def placesOf (P : Program) (s : TypeId) : Option (List (Nat × Nat)) :=
  match P.underlying s with
  | some (.struct fs) => fs.toList.mapM fun f => (szOf P f.type).map fun n => (f.offset, n)
  | _ => none

theorem run_places {P : Program} {w : World} : ∀ (fs : List Field) (pl : List (Nat × Nat)), fs.mapM (fun f => (szOf P f.type).map fun n => (f.offset, n)) = some pl →
    (fs.mapM (m := Sem) fun f => do pure (f.offset, ← sizeOf f.type)).run P w = .ok pl w
  | [], pl, h => by
    simp only [List.mapM_nil, Option.pure_def, Option.some.injEq] at h
    subst h; rfl
  | f :: fs, pl, h => by
    simp only [List.mapM_cons, Option.pure_def, Option.bind_eq_bind] at h
    cases hs : szOf P f.type with
    | none => rw [hs] at h; simp at h
    | some n =>
      rw [hs] at h
      simp only [Option.map_some, Option.bind_some] at h
      cases hr : fs.mapM (fun f => (szOf P f.type).map fun n => (f.offset, n)) with
      | none => rw [hr] at h; simp at h
      | some us =>
        rw [hr] at h
        simp only [Option.bind_some, Option.some.injEq] at h
        subst h
        rw [List.mapM_cons]
        simp only [Sem.run_bind, Sem.run_pure, Result.andThen_ok, run_size hs, run_places fs us hr]

section ops2
variable {P : Program} {t : T} {m : Mem} {dst : Option Tmp} {ty ty' rt : TypeId} {pos : String} {after : Array Edge} {guard : Option (Nat × Bool)}

/-- What is asked of the parts: their sizes are their places'. -/
def partsOk (pl : Nat → Option (Nat × Nat)) (parts : List (Nat × Value)) : Bool := parts.all fun p => !isJ p.2 && (match pl p.1 with | some (_, n) => n == p.2.cells.size | none => false)

theorem parts_rel {ρ : Ren} {a : Act} (ht : TRel ρ t a.tmps) {place : Nat → Option (Nat × Nat)} (ps : Array (Nat × Operand)) (hok : partsOk place (ps.toList.map fun p => (p.1, t.ev p.2)) = true) :
    (ps.toList.map fun p => (p.1, t.ev p.2)).length = (ps.map fun (i, x) => (i, a.eval x)).toList.length ∧ ∀ (i : Nat) (p : Nat × Value), (ps.toList.map fun p => (p.1, t.ev p.2))[i]? = some p →
      ∃ v', (ps.map fun (i, x) => (i, a.eval x)).toList[i]? = some (p.1, v') ∧ VRel ρ p.2 v' ∧ (∀ r, p.2 ≠ .chan r) ∧ ∃ off, (place p.1).map (·.1) = some off ∧ place p.1 = some (off, p.2.cells.size) := by
  refine ⟨by simp, fun i p hp => ?_⟩
  have hm := List.all_eq_true.1 hok p (List.mem_of_getElem? hp)
  simp only [List.getElem?_map, Array.getElem?_toList] at hp
  cases hi : ps[i]? with
  | none => rw [hi] at hp; cases hp
  | some q =>
    rw [hi] at hp
    simp only [Option.map_some, Option.some.injEq] at hp
    subst hp
    refine ⟨a.eval q.2, by simp [hi], ht.ev _, fun r e => ?_, ?_⟩
    · have e' : t.ev q.2 = .chan r := e
      simp only [e', isJ] at hm
      cases hm
    · simp only [Bool.and_eq_true] at hm
      have h2 := hm.2
      split at h2
      · rename_i off n hpl
        rw [hpl]
        exact ⟨off, rfl, by rw [beq_iff_eq.1 h2]⟩
      · cases h2

theorem OQ.buildS {parts : Array (Nat × Operand)} {zs : List Value} {pls : List (Nat × Nat)} {pv : List (Nat × Value)} {r : List Value} (hz : zeroOf P ty = some zs) (hs : zs.all scal = true) (hpl : placesOf P ty = some pls)
    (hpv : parts.toList.map (fun p => (p.1, t.ev p.2)) = pv) (hok : partsOk (fun i => pls[i]?) pv = true) (hr : fillL (fun i => (pls[i]?).map (·.1)) zs pv = some r) : OQ P ⟨dst, .build ty parts, rt, pos, after, guard⟩ t m (.agg r.toArray) := by
  intro ρ a w ht hm
  subst hpv
  have hp := parts_rel ht (place := fun i => pls[i]?) parts hok
  obtain ⟨r', h1, h2, h3⟩ := fill_rel _ _ zs zs rfl (fun i v hv => ⟨v, hv, .scal (List.all_eq_true.1 hs v (List.mem_of_getElem? hv))⟩) hp r hr
  refine ⟨.agg r', .agg_mk (by simpa using h2) (fun i u hu => h3 i u (by simpa using hu)), fun w' _ => ?_⟩
  unfold placesOf at hpl
  cases hu : P.underlying ty with
  | none => rw [hu] at hpl; cases hpl
  | some d =>
    rw [hu] at hpl
    cases d <;> try (cases hpl; done)
    rename_i fs
    simp only at hpl
    obtain ⟨zv, hz1, hz2⟩ := run_zero (w := w') hz
    have hrun : (fs.mapM (m := Sem) fun f => do pure (f.offset, ← sizeOf f.type)).run P w' = .ok pls.toArray w' := by
      rw [Array.mapM_eq_mapM_toList]
      rw [show (List.toArray <$> fs.toList.mapM (m := Sem) (fun f => do pure (f.offset, ← sizeOf f.type))) = (do let x ← fs.toList.mapM (m := Sem) (fun f => do pure (f.offset, ← sizeOf f.type)); pure x.toArray) from rfl]
      rw [Sem.run_bind, run_places _ _ hpl]
      rfl
    simp only [execOp, Instr.build, Sem.run_bind, hz1, Result.andThen_ok, hz2, run_und hu, hrun]
    have : (fun (i : Nat) => pls.toArray[i]?) = fun (i : Nat) => pls[i]? := by funext i; simp
    simp only [this, h1]
    simp [go_sem]

theorem OQ.buildA {parts : Array (Nat × Operand)} {zs : List Value} {n k : Nat} {g : Bool} {pv : List (Nat × Value)} {r : List Value} (hz : zeroOf P ty = some zs) (hs : zs.all scal = true) (hpl : elemOf' P ty = some (some k, n, g))
    (hpv : parts.toList.map (fun p => (p.1, t.ev p.2)) = pv) (hok : partsOk (fun i => some (i * n, n)) pv = true) (hr : fillL (fun i => some (i * n)) zs pv = some r) : OQ P ⟨dst, .build ty parts, rt, pos, after, guard⟩ t m (.agg r.toArray) := by
  intro ρ a w ht hm
  subst hpv
  have hp := parts_rel ht (place := fun i => some (i * n, n)) parts hok
  obtain ⟨r', h1, h2, h3⟩ := fill_rel (place := fun i => some (i * n, n)) (pl := fun i => Option.map (fun x => x.1) (some (i * n, n))) _ _ zs zs rfl (fun i v hv => ⟨v, hv, .scal (List.all_eq_true.1 hs v (List.mem_of_getElem? hv))⟩) hp r hr
  refine ⟨.agg r', .agg_mk (by simpa using h2) (fun i u hu => h3 i u (by simpa using hu)), fun w' _ => ?_⟩
  obtain ⟨e, e1, e2, e3⟩ := elemOf_array hpl
  obtain ⟨zv, hz1, hz2⟩ := run_zero (w := w') hz
  simp only [execOp, Instr.build, Sem.run_bind, hz1, Result.andThen_ok, hz2, run_und e1, run_size e2, h1]
  simp [go_sem]

/-- A slice written out. -/
theorem OW.buildSl {parts : Array (Nat × Operand)} {zs : List Value} {n len : Nat} {g : Bool} {pv : List (Nat × Value)} {r : List Value} (hpl : elemOf' P ty = some (none, n, g)) (hz : ((match P.underlying ty with | some (.slice e) => zeroOf P e | _ => none)) = some zs) (hs : zs.all scal = true)
    (hpv : parts.toList.map (fun p => (p.1, t.ev p.2)) = pv) (hok : partsOk (fun i => some (i * n, n)) pv = true) (hsm : len * n ≤ 16777216) (hn0 : len * n ≠ 0) (hzn : zs.length = n) (hr : fillL (fun i => some (i * n)) ((List.range (len * n)).map fun i => zs.getD (i % n) default) pv = some r) :
    OW P ⟨dst, .buildSlice ty len parts, rt, pos, after, guard⟩ t m (.slice (some ⟨m.length, 0, none⟩) len len) (m ++ [some ⟨r, true, n⟩]) := by
  intro E ρ a w ht hst
  subst hpv
  have hp := parts_rel ht (place := fun i => some (i * n, n)) parts hok
  have hn : n ≠ 0 := fun h => hn0 (by rw [h]; simp)
  have hscal : ∀ (i : Nat) (v : Value), ((List.range (len * n)).map fun i => zs.getD (i % n) default)[i]? = some v → ∃ v', ((List.range (len * n)).map fun i => zs.getD (i % n) default)[i]? = some v' ∧ VRel ρ v v' := by
    intro i v hv
    refine ⟨v, hv, .scal ?_⟩
    obtain ⟨j, hj, rfl⟩ := List.mem_map.1 (List.mem_of_getElem? hv)
    have hlt : j % n < zs.length := by rw [hzn]; exact Nat.mod_lt _ (Nat.pos_of_ne_zero hn)
    rw [List.getD_eq_getElem?_getD, List.getElem?_eq_getElem hlt]
    exact List.all_eq_true.1 hs _ (List.getElem_mem hlt)
  obtain ⟨r', h1, h2, h3⟩ := fill_rel (place := fun i => some (i * n, n)) (pl := fun i => Option.map (fun x => x.1) (some (i * n, n))) _ _ _ _ rfl hscal hp r hr
  have hsz : r'.size = len * n := by
    rw [← h2]
    have : ∀ (parts : List (Nat × Value)) (cells r : List Value), fillL (fun i => some (i * n)) cells parts = some r → r.length = cells.length := by
      intro parts
      induction parts with
      | nil => intro cells r h; cases Option.some.inj h; rfl
      | cons p ps ih =>
        intro cells r h
        simp only [fillL] at h
        split at h
        · rw [ih _ _ h, putAt_length]
        · cases h
    rw [this _ _ _ hr]; simp
  obtain ⟨e, e1, e2, e3⟩ := elemOf_slice hpl
  rw [e1] at hz
  obtain ⟨zv, hz1, hz2⟩ := run_zero (w := w) hz
  refine ⟨.slice (some ⟨w.heap.size, 0, none⟩) len len, _, _, .inl ?_, hst.ext_new ⟨w.heap.size, 0, n, r'.size⟩, ?_, hst.new (ty := e) (c := r') h3⟩
  · have hcells : (Array.range (len * n)).map (fun x => zv.cells[x % zv.cells.size]!) = ((List.range (len * n)).map fun i => zs.getD (i % n) default).toArray := by
      rw [hz2]
      apply Array.ext
      · simp
      · intro i h h'
        simp only [Array.getElem_map, Array.getElem_range, List.getElem_toArray, List.getElem_map, List.getElem_range, List.size_toArray, hzn]
        have hlt : i % n < zs.length := by rw [hzn]; exact Nat.mod_lt _ (Nat.pos_of_ne_zero hn)
        simp [List.getD_eq_getElem?_getD, hlt]
    simp only [execOp, Instr.buildSlice, Sem.run_bind, run_und e1, Result.andThen_ok, run_size e2]
    rw [if_neg (by omega)]
    simp only [Sem.run_bind, Sem.run_pure, Result.andThen_ok, if_neg hn0, hz1]
    erw [hcells]
    simp only [h1, newRow]
    simp [go_sem]
  · exact .slice (b := m.length) (o := 0) (pl := ⟨w.heap.size, 0, n, r'.size⟩) (by unfold Ren.new; rw [if_pos rfl]) (Nat.le_refl _) (fun _ => Nat.le_refl _) (fun _ => by simp [hsz])

theorem OW.buildSl0 {z : Option Nat × Nat × Bool} (hpl : elemOf' P ty = some (none, z.2)) : OW P ⟨dst, .buildSlice ty 0 #[], rt, pos, after, guard⟩ t m (.slice (some ⟨m.length, 0, none⟩) 0 0) (m ++ [some ⟨[], true, 0⟩]) := by
  intro E ρ a w ht hst
  obtain ⟨e, e1, e2, e3⟩ := elemOf_slice (n := z.2.1) (b := z.2.2) hpl
  refine ⟨.slice (some ⟨w.heap.size, 0, none⟩) 0 0, _, _, .inl ?_, hst.ext_new ⟨w.heap.size, 0, 0, (#[] : Array Value).size⟩, .slice (b := m.length) (o := 0) (pl := ⟨w.heap.size, 0, 0, (#[] : Array Value).size⟩) (by unfold Ren.new; rw [if_pos rfl]) (Nat.le_refl _) (fun _ => Nat.le_refl _) (fun h => absurd rfl h), hst.new (ty := e) (c := #[]) (fun i v hv => by simp at hv)⟩
  simp only [execOp, Instr.buildSlice, Sem.run_bind, run_und e1, Result.andThen_ok, run_size e2]
  simp [Instr.fill, newRow, go_sem]
end ops2
end Ab
end Go
