/- The small memory, part 5: regions that draw their order. -/
import Derived.Test.YtaoennekamlfeaaAb4
set_option linter.unusedSimpArgs false
set_option linter.unusedVariables false
namespace Go
open Go.RowKit
namespace Ab

def isJ : Value → Bool | .chan _ => true | _ => false

structure New where
  j : Nat
  d : Nat
  ty : TypeId
  z : List Value
  cells : List Value
  fresh : Bool

/-- What is known on the way of a new variable. -/
def NewOK (ρ : Ren) (acc : List Free.K) (A : Free.U → Act) (t : T) (nw : New) : Prop :=
  acc[nw.j]? = some (.a nw.z.toArray nw.ty) ∧ (∀ u, (A u).tmps[nw.d]? = some (u nw.j)) ∧ t[nw.d]? = some junk ∧ (nw.fresh = true → Free.noInit acc nw.j = true) ∧
    ∀ u, (Free.final acc nw.j nw.z.toArray u).size = nw.z.length ∧ ∀ (i : Nat) (v : Value), nw.cells[i]? = some v → ∃ v', (Free.final acc nw.j nw.z.toArray u)[i]? = some v' ∧ VRel ρ v v'

def Distinct (ns : List New) : Prop := ns.Pairwise fun a b => a.j ≠ b.j

structure DSt (E : Env) (m : Mem) (t : T) (news : List New) (i : Nat) (ρ : Ren) (w0 : World) (A : Free.U → Act) (acc : List Free.K) : Prop where
  st : St E ρ m w0
  rel : ∀ u, TRel ρ t (A u).tmps
  def' : ∀ u, (A u).defers = []
  fix : ∀ u u' (k : Nat), (∀ v, t[k]? = some v → isJ v = false) → (A u).tmps[k]? = (A u').tmps[k]?
  len : acc.length = i
  nws : ∀ nw ∈ news, NewOK ρ acc A t nw
  ik : ∀ k c, Free.K.i k c ∈ acc → k < i
  dist : Distinct news

def AD (P : Program) (E : Env) (l : List Oper) (b : Array Nat) (n : Nat) (m : Mem) (Q : Post) (ops : List Oper) (i : Nat) (t : T) (news : List New) : Prop :=
  ∀ ρ w0 A acc, DSt E m t news i ρ w0 A acc → Free.E ⟨P, l.toArray, b, n, w0, lift E Q⟩ ops i A acc

def noSel (o : Oper) : Bool := match o.op with | .select _ _ => false | _ => true
/-- The operand is known. -/
def opJ (t : T) (x : Operand) : Bool := match x with
  | .tmp k => match t[k]? with
    | some v => !isJ v
    | none => true
  | _ => true
def noJ (t : T) (o : Oper) : Bool := o.op.operands.toList.all (opJ t)
def keepsNews (o : Oper) (news : List New) : Bool := match o.dst with
  | some d => news.all fun nw => d != nw.d
  | none => true

section
variable {P : Program} {E : Env} {l : List Oper} {b : Array Nat} {n : Nat} {m : Mem} {Q : Post} {o : Oper} {ops : List Oper} {i : Nat} {t : T} {news : List New}

theorem noSel_spec (h : noSel o = true) : ∀ cs b, o.op ≠ .select cs b := by
  intro cs b e
  unfold noSel at h
  rw [e] at h
  cases h

theorem DSt.sameE {ρ : Ren} {w0 : World} {A : Free.U → Act} {acc : List Free.K} (h : DSt E m t news i ρ w0 A acc) {x : Operand} (hj : opJ t x = true) (u u' : Free.U) : (A u).eval x = (A u').eval x := by
  cases x with
  | tmp k =>
    simp only [opJ] at hj
    have e := h.fix u u' k (fun v hv => by rw [hv] at hj; simpa using hj)
    simp only [Act.eval, Array.getD_eq_getD_getElem?, e]
  | const v => rfl
  | global g => rfl
  | func f => rfl

theorem DSt.same {ρ : Ren} {w0 : World} {A : Free.U → Act} {acc : List Free.K} (h : DSt E m t news i ρ w0 A acc) (hs : noSel o = true) (hj : noJ t o = true) (u u' : Free.U) : execOp (A u).eval o = execOp (A u').eval o :=
  execOp_congr o (noSel_spec hs) fun x hx => h.sameE (List.all_eq_true.1 hj x (by simpa using hx)) u u'

theorem final_q {acc : List Free.K} {κ : Free.K} {j : Nat} {z : Array Value} {u : Free.U} (h : ∀ c, κ ≠ .i j c) : Free.final (acc ++ [κ]) j z u = Free.final acc j z u := by
  unfold Free.final
  rw [List.findSome?_append]
  cases hf : acc.findSome? (fun κ => match κ with | .i k c => if k = j then some (c u) else none | _ => none) with
  | some v => simp
  | none =>
    simp only [Option.none_or]
    cases κ with
    | i k c =>
      have : k ≠ j := fun e => h c (by rw [e])
      simp [this]
    | q _ => simp
    | r _ => simp
    | a _ _ => simp

theorem noInit_q {acc : List Free.K} {κ : Free.K} {j : Nat} (h : ∀ c, κ ≠ .i j c) (hn : Free.noInit acc j = true) : Free.noInit (acc ++ [κ]) j = true := by
  unfold Free.noInit at *
  simp only [List.all_append, hn, Bool.true_and, List.all_cons, List.all_nil, Bool.and_true]
  cases κ with
  | i k c =>
    have : k ≠ j := fun e => h c (by rw [e])
    simpa using this
  | q _ => rfl
  | r _ => rfl
  | a _ _ => rfl

theorem NewOK.step {ρ : Ren} {acc : List Free.K} {A A' : Free.U → Act} {t t' : T} {nw : New} {κ : Free.K} (h : NewOK ρ acc A t nw) (hk : ∀ c, κ ≠ .i nw.j c) (hA : ∀ u, (A' u).tmps[nw.d]? = (A u).tmps[nw.d]?) (ht : t'[nw.d]? = t[nw.d]?) : NewOK ρ (acc ++ [κ]) A' t' nw := by
  obtain ⟨h1, h2, h3, h4, h5⟩ := h
  refine ⟨?_, fun u => (hA u).trans (h2 u), ht.trans h3, fun hf => noInit_q hk (h4 hf), fun u => by rw [final_q hk]; exact h5 u⟩
  rw [List.getElem?_append_left (List.getElem?_eq_some_iff.1 h1).1]
  exact h1

/-- The state behind an operation that leaves a value that hangs on nothing. -/
theorem DSt.q {ρ : Ren} {w0 : World} {A : Free.U → Act} {acc : List Free.K} (h : DSt E m t news i ρ w0 A acc) {v v' : Value} (hv : VRel ρ v v') (hk : keepsNews o news = true) :
    DSt E m (t.put o.dst v) news (i + 1) ρ w0 (fun u => (A u).put o.dst v') (acc ++ [.q fun _ => v']) := by
  refine ⟨h.st, fun u => (h.rel u).put hv _, fun u => by rw [put_defers]; exact h.def' u, ?_, by simp [h.len], fun nw hn => ?_, fun k c hk => by simp at hk; have := h.ik k c hk; omega, h.dist⟩
  · intro u u' k hjk
    cases hd : o.dst with
    | none =>
      rw [hd] at hjk
      exact h.fix u u' k hjk
    | some d =>
      rw [hd] at hjk
      simp only [Act.put, Array.getElem?_setIfInBounds, ← (h.rel u).1, ← (h.rel u').1]
      by_cases hdk : d = k
      · simp [hdk]
      · simp only [hdk, if_false]
        refine h.fix u u' k fun x hx => hjk x ?_
        simp only [T.put, List.getElem?_set, hdk, if_false]
        exact hx
  · have hne : ∀ d, o.dst = some d → d ≠ nw.d := fun d hd => by
      unfold keepsNews at hk
      rw [hd] at hk
      simpa using List.all_eq_true.1 hk nw hn
    refine (h.nws nw hn).step (fun c => by simp) (fun u => ?_) ?_
    · cases hd : o.dst with
      | none => rfl
      | some d => simp only [Act.put]; rw [Array.getElem?_setIfInBounds_ne (hne d hd)]
    · cases hd : o.dst with
      | none => rfl
      | some d => simp only [T.put]; rw [List.getElem?_set_ne (hne d hd)]

theorem St.sameB {ρ : Ren} {w0 w : World} (h : St E ρ m w0) (hb : Below w0.heap.size w0 w) : Same ρ m w0 w := by
  intro b blk pl hbk hp
  obtain ⟨pl', hp', hbr, _⟩ := h.mem b blk hbk
  cases Option.some.inj (hp'.symm.trans hp)
  exact hb.block _ hbr.lt

theorem AD.q {v : Value} (hg : o.guard = none) (h : OQ P o t m v) (hs : noSel o = true) (hj : noJ t o = true) (hk : keepsNews o news = true) (hr : AD P E l b n m Q ops (i + 1) (t.put o.dst v) news) :
    AD P E l b n m Q (o :: ops) i t news := by
  intro ρ w0 A acc hd
  obtain ⟨v', hv, hrun⟩ := h ρ (A fun _ => undef) w0 (hd.rel _) hd.st.mem
  refine Free.E.q hg ⟨v', fun u w' _ hb => ?_, hr ρ w0 _ _ (hd.q hv hk)⟩
  unfold Oper.quietAt
  rw [hd.same hs hj u (fun _ => undef), hrun w' (hd.st.sameB hb)]
  exact ⟨rfl, rfl⟩

theorem AD.qy {v : Value} {d : Nat} {want : Bool} (hg : gdt l.toArray o = some (d, want)) (hc : t.getD d undef = .bool want) (h : OQ P o t m v) (hs : noSel o = true) (hj : noJ t o = true) (hk : keepsNews o news = true)
    (hr : AD P E l b n m Q ops (i + 1) (t.put o.dst v) news) : AD P E l b n m Q (o :: ops) i t news := by
  intro ρ w0 A acc hd
  obtain ⟨v', hv, hrun⟩ := h ρ (A fun _ => undef) w0 (hd.rel _) hd.st.mem
  refine Free.E.qy (fun u => by rw [wanted_iff hg (VRel.bool (hc ▸ (hd.rel u).get d))]; simp) ⟨v', fun u w' _ hb => ?_, hr ρ w0 _ _ (hd.q hv hk)⟩
  unfold Oper.quietAt
  rw [hd.same hs hj u (fun _ => undef), hrun w' (hd.st.sameB hb)]
  exact ⟨rfl, rfl⟩

theorem AD.gno {d : Nat} {want : Bool} (hg : gdt l.toArray o = some (d, want)) (hc : t.getD d undef = .bool (!want)) (hk : keepsNews o news = true)
    (hr : AD P E l b n m Q ops (i + 1) (t.put o.dst undef) news) : AD P E l b n m Q (o :: ops) i t news := by
  intro ρ w0 A acc hd
  exact Free.E.no (fun u => by rw [wanted_iff hg (VRel.bool (hc ▸ (hd.rel u).get d))]; simp) (hr ρ w0 _ _ (hd.q .undef hk))

theorem DSt.pcall {ρ : Ren} {w0 : World} {A : Free.U → Act} {acc : List Free.K} (hd : DSt E m t news i ρ w0 A acc) {dst : Option Tmp} {fo : Operand} {xs : Array Operand} {ats : Array TypeId} {ty : TypeId} {pos : String} {after : Array Edge} {guard : Option (Nat × Bool)} {g : FuncId} {first cap : Array Value} {args : List Value} {v : Value}
    (hf : t.ev fo = .func (.func g) first cap) (he : enters P g = true) (ha : first.toList ++ xs.toList.map t.ev ++ cap.toList = args) (h : PCalls P g args m v) (hfl : flat v = true) (u : Free.U) {w' : World} (hb : Below w0.heap.size w0 w') :
    (⟨dst, .call ⟨.value fo, xs, ats⟩, ty, pos, after, guard⟩ : Oper).quietAt P (A u) (fun w'' => Below w'.heap.size w' w'') w' v := by
  obtain ⟨args', hrun, hargs⟩ := run_call (P := P) (w := w') (dst := dst) (ats := ats) (ty := ty) (pos := pos) (after := after) (guard := guard) (xs := xs) (hd.rel u) hf he
  unfold Oper.quietAt
  rw [hrun]
  refine ⟨rfl, (h ρ args' w' hd.st.dom (by rw [← ha, show (first.toList ++ xs.toList.map t.ev ++ cap.toList).toArray = first ++ (xs.toList.map t.ev).toArray ++ cap by simp]; exact hargs) (hd.st.below hb).mem).mono ?_⟩
  rintro e w'' ⟨v', rfl, hv, hbw⟩
  exact ⟨by rw [hv.of_flat hfl], hbw⟩

theorem AD.pcall {dst : Option Tmp} {fo : Operand} {xs : Array Operand} {ats : Array TypeId} {ty : TypeId} {pos : String} {after : Array Edge} {g : FuncId} {first cap : Array Value} {args : List Value} {v : Value}
    (hf : t.ev fo = .func (.func g) first cap) (he : enters P g = true) (ha : first.toList ++ xs.toList.map t.ev ++ cap.toList = args) (h : PCalls P g args m v) (hfl : flat v = true)
    (hk : keepsNews ⟨dst, .call ⟨.value fo, xs, ats⟩, ty, pos, after, none⟩ news = true)
    (hr : AD P E l b n m Q ops (i + 1) (t.put dst v) news) : AD P E l b n m Q (⟨dst, .call ⟨.value fo, xs, ats⟩, ty, pos, after, none⟩ :: ops) i t news := by
  intro ρ w0 A acc hd
  exact Free.E.q rfl ⟨v, fun u w' _ hb => hd.pcall hf he ha h hfl u hb, hr ρ w0 _ _ (hd.q (o := ⟨dst, .call ⟨.value fo, xs, ats⟩, ty, pos, after, none⟩) (.flat hfl) hk)⟩

theorem AD.pcally {dst : Option Tmp} {fo : Operand} {xs : Array Operand} {ats : Array TypeId} {ty : TypeId} {pos : String} {after : Array Edge} {guard : Option (Nat × Bool)} {g : FuncId} {first cap : Array Value} {args : List Value} {v : Value} {d : Nat} {want : Bool}
    (hg : gdt l.toArray ⟨dst, .call ⟨.value fo, xs, ats⟩, ty, pos, after, guard⟩ = some (d, want)) (hc : t.getD d undef = .bool want)
    (hf : t.ev fo = .func (.func g) first cap) (he : enters P g = true) (ha : first.toList ++ xs.toList.map t.ev ++ cap.toList = args) (h : PCalls P g args m v) (hfl : flat v = true)
    (hk : keepsNews ⟨dst, .call ⟨.value fo, xs, ats⟩, ty, pos, after, guard⟩ news = true)
    (hr : AD P E l b n m Q ops (i + 1) (t.put dst v) news) : AD P E l b n m Q (⟨dst, .call ⟨.value fo, xs, ats⟩, ty, pos, after, guard⟩ :: ops) i t news := by
  intro ρ w0 A acc hd
  exact Free.E.qy (fun u => by rw [wanted_iff hg (VRel.bool (hc ▸ (hd.rel u).get d))]; simp) ⟨v, fun u w' _ hb => hd.pcall hf he ha h hfl u hb, hr ρ w0 _ _ (hd.q (o := ⟨dst, .call ⟨.value fo, xs, ats⟩, ty, pos, after, guard⟩) (.flat hfl) hk)⟩

theorem final_none {acc : List Free.K} {j : Nat} {z : Array Value} {u : Free.U} (h : ∀ c, Free.K.i j c ∉ acc) : Free.final acc j z u = z := by
  unfold Free.final
  rw [List.findSome?_eq_none_iff.2]
  · rfl
  · intro κ hκ
    cases κ with
    | i k c =>
      have : k ≠ j := fun e => h c (e ▸ hκ)
      simp [this]
    | q _ => rfl
    | r _ => rfl
    | a _ _ => rfl

theorem noInit_of {acc : List Free.K} {j : Nat} (h : ∀ c, Free.K.i j c ∉ acc) : Free.noInit acc j = true := by
  unfold Free.noInit
  refine List.all_eq_true.2 fun κ hκ => ?_
  cases κ with
  | i k c =>
    have : k ≠ j := fun e => h c (e ▸ hκ)
    simpa using this
  | q _ => rfl
  | r _ => rfl
  | a _ _ => rfl

theorem AD.new {ty : TypeId} {z : List Value} {d : Nat} (hg : o.guard = none) (ho : o.op = .alloc ty) (hd' : o.dst = some d) (hz : (P.info? ty).map (fun i => i.zero.map (·.cells)) = some (some z.toArray)) (hs : z.all scal = true) (hdl : d < t.length)
    (hk : keepsNews o news = true)
    (hr : AD P E l b n m Q ops (i + 1) (t.put o.dst junk) (news ++ [⟨i, d, ty, z, z, true⟩])) : AD P E l b n m Q (o :: ops) i t news := by
  intro ρ w0 A acc hd
  refine Free.E.new hg ho hz (hr ρ w0 _ _ ?_)
  refine ⟨hd.st, fun u => (hd.rel u).put (.junk _) _, fun u => by rw [put_defers]; exact hd.def' u, ?_, by simp [hd.len], fun nw hn => ?_, fun k c hk => by simp at hk; have := hd.ik k c hk; omega, ?_⟩
  · intro u u' k hjk
    rw [hd'] at hjk ⊢
    simp only [Act.put, Array.getElem?_setIfInBounds, ← (hd.rel u).1, ← (hd.rel u').1]
    by_cases hdk : d = k
    · subst hdk
      exact absurd (hjk junk (by simp [T.put, hdl])) (by decide)
    · simp only [hdk, if_false]
      refine hd.fix u u' k fun x hx => hjk x ?_
      simp only [T.put, List.getElem?_set, hdk, if_false]
      exact hx
  · simp only [List.mem_append, List.mem_singleton] at hn
    rcases hn with hn | rfl
    · have hne : d ≠ nw.d := by
        unfold keepsNews at hk
        rw [hd'] at hk
        simpa using List.all_eq_true.1 hk nw hn
      refine (hd.nws nw hn).step (fun c => by simp) (fun u => ?_) ?_
      · rw [hd']; simp only [Act.put]; rw [Array.getElem?_setIfInBounds_ne hne]
      · rw [hd']; simp only [T.put]; rw [List.getElem?_set_ne hne]
    · have hni : ∀ c, Free.K.i i c ∉ acc ++ [Free.K.a z.toArray ty] := fun c hc => by
        simp at hc
        have := hd.ik i c hc
        omega
      refine ⟨by simp [← hd.len], fun u => ?_, ?_, fun _ => noInit_of hni, fun u => ?_⟩
      · rw [hd']
        have : d < (A u).tmps.size := by rw [← (hd.rel u).1]; exact hdl
        simp [Act.put, this]
      · rw [hd']; simp [T.put, hdl]
      · rw [final_none hni]
        exact ⟨by simp, fun i v hv => ⟨v, by simpa using hv, .scal (List.all_eq_true.1 hs v (List.mem_of_getElem? hv))⟩⟩
  · refine List.pairwise_append.2 ⟨hd.dist, List.pairwise_singleton _ _, fun a ha c hc => ?_⟩
    simp only [List.mem_singleton] at hc
    subst hc
    have := (List.getElem?_eq_some_iff.1 (hd.nws a ha).1).1
    simp only
    rw [hd.len] at this
    omega

theorem final_init {acc : List Free.K} {j : Nat} {z : Array Value} {u : Free.U} {c : Free.U → Array Value} (h : ∀ c, Free.K.i j c ∉ acc) : Free.final (acc ++ [.i j c]) j z u = c u := by
  unfold Free.final
  rw [List.findSome?_append, List.findSome?_eq_none_iff.2]
  · simp
  · intro κ hκ
    cases κ with
    | i k c' =>
      have : k ≠ j := fun e => h c' (e ▸ hκ)
      simp [this]
    | q _ => rfl
    | r _ => rfl
    | a _ _ => rfl

theorem AD.init {ty : TypeId} {d p : Nat} {x : Operand} {v : Value} {vs : List Value} {nw : New} (hg : o.guard = none) (hd' : o.dst = none) (ho : o.op = .store ty (.tmp d) x) (hp : news[p]? = some nw) (hnd : nw.d = d) (hnf : nw.fresh = true)
    (hbit : Free.bit b i nw.j = true) (hx : t.ev x = v) (hjx : opJ t x = true) (hz : szOf P ty = some nw.z.length) (hv : v.cells.toList = vs) (hn : vs.length = nw.z.length) (h1 : vs.all one = true) (hjv : ∀ r, v ≠ .chan r)
    (hr : AD P E l b n m Q ops (i + 1) t (news.set p { nw with cells := vs, fresh := false })) : AD P E l b n m Q (o :: ops) i t news := by
  intro ρ w0 A acc hd
  have hmem : nw ∈ news := List.mem_of_getElem? hp
  obtain ⟨e1, e2, e3, e4, e5⟩ := hd.nws nw hmem
  have hni := Free.noInit_spec (e4 hnf)
  have hji : nw.j < i := by
    have := (List.getElem?_eq_some_iff.1 e1).1
    rw [hd.len] at this
    exact this
  have hrel := hx ▸ (hd.rel fun _ => undef).ev x
  obtain ⟨g1, g2⟩ := hrel.cells hjv
  have hvs : v.cells.size = vs.length := by rw [← hv]; simp
  refine Free.E.init (k := nw.j) (d := d) (x := x) (v := (A fun _ => undef).eval x) (t := ty) (ty := nw.ty) (z := nw.z.toArray) (m := nw.z.length) hg hd' ho e1 (e4 hnf) hji hbit (fun u => ?_) (fun u => hd.sameE hjx u _) hz (by rw [← g1, hvs, hn]) (by simp) ?_ (hr ρ w0 _ _ ?_)
  · have := e2 u
    rw [hnd] at this
    simp [Act.eval, Array.getD_eq_getD_getElem?, this]
  · refine List.all_eq_true.2 fun u hu => ?_
    obtain ⟨q, hq, hqu⟩ := List.mem_iff_getElem.1 hu
    have hq' : q < vs.length := by simp at hq; omega
    obtain ⟨u', h3, h4⟩ := g2 q vs[q] (by rw [← Array.getElem?_toList, hv]; simp [hq'])
    rw [Array.getElem?_eq_getElem (by simpa using hq)] at h3
    have := h4.one (List.all_eq_true.1 h1 _ (List.getElem_mem hq'))
    rw [← Option.some.inj h3] at this
    rw [← hqu]
    simpa using this
  · refine ⟨hd.st, hd.rel, hd.def', hd.fix, by simp [hd.len], fun nw' hn' => ?_, fun k c hk => ?_, ?_⟩
    · obtain ⟨q, hq, hqe⟩ := List.mem_iff_getElem.1 hn'
      rw [List.getElem_set] at hqe
      split at hqe
      · subst hqe
        refine ⟨?_, e2, e3, fun hf => by simp at hf, fun u => ?_⟩
        · rw [List.getElem?_append_left (List.getElem?_eq_some_iff.1 e1).1]; exact e1
        · rw [final_init hni]
          refine ⟨by rw [← g1, hvs, hn], fun q v' hq' => ?_⟩
          exact g2 q v' (by rw [← Array.getElem?_toList, hv]; exact hq')
      · rename_i hpq
        have hnw : nw' ∈ news := by rw [← hqe]; exact List.getElem_mem _
        refine (hd.nws nw' hnw).step (fun c => ?_) (fun _ => rfl) rfl
        have hjj : nw.j ≠ nw'.j := by
          have hdist := List.pairwise_iff_getElem.1 hd.dist
          obtain ⟨hp1, hp2⟩ := List.getElem?_eq_some_iff.1 hp
          have hq' : q < news.length := by simpa using hq
          rcases Nat.lt_or_ge p q with h' | h'
          · have := hdist p q hp1 hq' h'
            rw [hp2, hqe] at this
            exact this
          · have := hdist q p hq' hp1 (by omega)
            rw [hp2, hqe] at this
            exact Ne.symm this
        simp [hjj]
    · simp only [List.mem_append, List.mem_singleton] at hk
      rcases hk with hk | hk
      · have := hd.ik k c hk; omega
      · simp only [Free.K.i.injEq] at hk; omega
    · unfold Distinct
      rw [List.pairwise_iff_getElem]
      intro q r hq hr' hqr
      have := List.pairwise_iff_getElem.1 hd.dist q r (by simpa using hq) (by simpa using hr') hqr
      obtain ⟨hp1, hp2⟩ := List.getElem?_eq_some_iff.1 hp
      simp only [List.getElem_set]
      split <;> split <;> simp_all <;> omega

/-- The frame behind the head: the new variables are known. -/
def setsT (t : T) (k : Nat) : List New → T
  | [] => t
  | nw :: ns => setsT (t.set nw.d (.pointer (some ⟨k, 0, none⟩))) (k + 1) ns
def newBlks (news : List New) : Mem := news.map fun nw => some ⟨nw.cells, true, 0⟩

theorem St.adopt {ρ : Ren} {w : World} (h : St E ρ m w) {g : Nat} {c : Array Value} {ty : TypeId} {cells : List Value} {esz : Nat} (hg : w.heap[g]? = some (.cells c ty (0, 0))) (hnew : E.W.heap.size ≤ g) (hap : ∀ b blk pl, m.at b = some blk → ρ b = some pl → pl.blk ≠ g)
    (hc : ∀ (i : Nat) (v : Value), cells[i]? = some v → ∃ v', c[i]? = some v' ∧ VRel ρ v v') :
    St E (ρ.new m.length ⟨g, 0, esz, c.size⟩) (m ++ [some ⟨cells, true, esz⟩]) w := by
  have he := h.ext_new ⟨g, 0, esz, c.size⟩
  refine ⟨h.os, h.tape, h.output, h.size, h.same, h.ext.trans he, fun b pl hb => ?_, ?_, ?_⟩
  · unfold Ren.new at hb
    split at hb
    · simp; omega
    · have := h.dom b pl hb
      simp; omega
  · intro b blk hb
    rw [Mem.at_snoc] at hb
    split at hb
    · rename_i hbm
      cases Option.some.inj hb
      refine ⟨⟨g, 0, esz, c.size⟩, by simp [Ren.new, hbm], ⟨c, ty, (0, 0), hg, rfl, fun i v hv => ?_, fun _ => ⟨rfl, rfl, rfl⟩⟩, ?_⟩
      · obtain ⟨v', h1, h2⟩ := hc i v hv
        exact ⟨v', by simpa using h1, h2.ext he⟩
      · intro _ b' blk' pl' hne hb' hp'
        rw [Mem.at_snoc, if_neg (by omega)] at hb'
        unfold Ren.new at hp'
        rw [if_neg (by omega)] at hp'
        exact hap b' blk' pl' hb' hp'
    · rename_i hbm
      obtain ⟨pl, hp, hbr, hown⟩ := h.mem b blk hb
      refine ⟨pl, he b pl hp, hbr.ext he rfl, fun ho b' blk' pl' hne hb' hp' => ?_⟩
      rw [Mem.at_snoc] at hb'
      unfold Ren.new at hp'
      split at hb'
      · rename_i hbm'
        rw [if_pos hbm'] at hp'
        cases Option.some.inj hp'
        exact Ne.symm (hap b blk pl hb hp)
      · rename_i hbm'
        rw [if_neg hbm'] at hp'
        exact hown ho b' blk' pl' hne hb' hp'
  · intro b blk pl hb ho hp
    rw [Mem.at_snoc] at hb
    unfold Ren.new at hp
    split at hb
    · rename_i hbm
      rw [if_pos hbm] at hp
      cases Option.some.inj hp
      exact .inl hnew
    · rename_i hbm
      rw [if_neg hbm] at hp
      exact h.fresh b blk pl hb ho hp

theorem adopts {w : World} : ∀ (news : List New) (ρ : Ren) (m : Mem) (t : T) (a : Act) (g : New → Nat), St E ρ m w → TRel ρ t a.tmps →
    (∀ nw ∈ news, a.tmps[nw.d]? = some (.pointer (some ⟨g nw, 0, none⟩)) ∧ E.W.heap.size ≤ g nw ∧ (∀ b blk pl, m.at b = some blk → ρ b = some pl → pl.blk ≠ g nw) ∧
      ∃ c, w.heap[g nw]? = some (.cells c nw.ty (0, 0)) ∧ ∀ (i : Nat) (v : Value), nw.cells[i]? = some v → ∃ v', c[i]? = some v' ∧ VRel ρ v v') →
    (news.Pairwise fun a b => g a ≠ g b) → ∃ ρ', St E ρ' (m ++ newBlks news) w ∧ TRel ρ' (setsT t m.length news) a.tmps
  | [], ρ, m, t, a, g, hs, ht, _, _ => ⟨ρ, by simpa [newBlks] using hs, ht⟩
  | nw :: ns, ρ, m, t, a, g, hs, ht, h, hd => by
    obtain ⟨h1, h2, h3, c, h4, h5⟩ := h nw (by simp)
    have he := hs.ext_new ⟨g nw, 0, 0, c.size⟩
    have hs' := hs.adopt (esz := 0) h4 h2 h3 h5
    obtain ⟨hd1, hd2⟩ := List.pairwise_cons.1 hd
    have ht' : TRel (ρ.new m.length ⟨g nw, 0, 0, c.size⟩) (t.set nw.d (.pointer (some ⟨m.length, 0, none⟩))) a.tmps := by
      refine ⟨by simpa using ht.1, fun i v hv => ?_⟩
      rw [List.getElem?_set] at hv
      split at hv
      · rename_i hi
        split at hv
        · cases Option.some.inj hv
          exact ⟨_, hi ▸ h1, .ptr (b := m.length) (o := 0) (by simp [Ren.new]; rfl)⟩
        · cases hv
      · obtain ⟨v', hv', hr⟩ := ht.2 i v hv
        exact ⟨v', hv', hr.ext he⟩
    refine (adopts ns _ _ _ a g hs' ht' (fun nw' hn' => ?_) hd2).elim fun ρ' ⟨r1, r2⟩ => ⟨ρ', by simpa [newBlks] using r1, by simpa [setsT] using r2⟩
    · obtain ⟨k1, k2, k3, c', k4, k5⟩ := h nw' (by simp [hn'])
      refine ⟨k1, k2, fun b blk pl hb hp => ?_, c', k4, fun i v hv => ?_⟩
      · rw [Mem.at_snoc] at hb
        unfold Ren.new at hp
        split at hb
        · rename_i hbm
          rw [if_pos hbm] at hp
          cases Option.some.inj hp
          exact hd1 nw' hn'
        · rename_i hbm
          rw [if_neg hbm] at hp
          exact k3 b blk pl hb hp
      · obtain ⟨v', q1, q2⟩ := k5 i v hv
        exact ⟨v', q1, q2.ext he⟩

theorem AD.nil (hr : AL P E l.toArray (l.drop n) (setsT t m.length news) (m ++ newBlks news) Q) : AD P E l b n m Q [] i t news := by
  intro ρ w0 A acc hd
  refine Free.E.nil fun u w S hF => ?_
  have hall := hF.allocs
  have hst := hd.st.below hF.below
  have hget : ∀ nw ∈ news, ∃ g, u nw.j = .pointer (some ⟨g, 0, none⟩) := fun nw hn => by
    obtain ⟨g, h1, _⟩ := hall nw.j _ _ (hd.nws nw hn).1
    exact ⟨g, h1⟩
  let g : New → Nat := fun nw => match u nw.j with | .pointer (some ⟨b, _, _⟩) => b | _ => 0
  have hg : ∀ nw ∈ news, u nw.j = .pointer (some ⟨g nw, 0, none⟩) := fun nw hn => by
    obtain ⟨b, hb⟩ := hget nw hn
    simp only [g, hb]
  refine (adopts news ρ m t (A u) g hst (hd.rel u) (fun nw hn => ?_) ?_).elim fun ρ' ⟨hs', ht'⟩ => by
    have := hr ρ' (A u) w (hd.def' u) ht' hs'
    simpa using this
  · obtain ⟨e1, e2, e3, e4, e5⟩ := hd.nws nw hn
    obtain ⟨b', h1, h2, h3, h4, h5⟩ := hall nw.j _ _ e1
    rw [hg nw hn] at h1
    have hb' : b' = g nw := by
      simp only [Value.pointer.injEq, Option.some.injEq, Addr.mk.injEq] at h1
      exact h1.1.symm
    subst hb'
    refine ⟨by rw [e2 u, hg nw hn], Nat.le_trans hd.st.size h2, fun b blk pl hb hp => ?_, _, h5, (e5 u).2⟩
    obtain ⟨pl', hp', hbr, _⟩ := hd.st.mem b blk hb
    cases Option.some.inj (hp'.symm.trans hp)
    have := hbr.lt
    simp only at h2
    omega
  · have hp := List.pairwise_iff_getElem.1 hd.dist
    rw [List.pairwise_iff_getElem]
    intro i j hi hj hij heq
    have h1 := hd.nws news[i] (List.getElem_mem _)
    have h2 := hd.nws news[j] (List.getElem_mem _)
    have := hF.apart news[i].j news[j].j _ _ _ _ h1.1 h2.1 (hp i j hi hj hij)
    rw [hg _ (List.getElem_mem _), hg _ (List.getElem_mem _), heq] at this
    exact this rfl

theorem AW.draw {id : Nat} (n : Nat) (b : Array Nat) (hm : P.follows .mixedOrders = true) (hc : Free.chk l.toArray b n = true) (h : AD P E l b n m Q (l.take n) 0 t []) : AW P E (.region id l.toArray true) t m Q := by
  intro ρ a w hd ht hs
  refine Free.wp_region n b hm hc (h ρ w _ _ ⟨hs, fun _ => ht, fun _ => hd, fun _ _ _ _ => rfl, rfl, fun nw h => by simp at h, fun k c h => by simp at h, List.Pairwise.nil⟩)
end
end Ab
end Go
