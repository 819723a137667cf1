/- Chapter 6: the opening of nets that are right. -/
import Derived.Test.YtmohcmghbfhdlaaQc
import Derived.Test.YtmohcmghbfhdlaaQg
section
set_option linter.unusedSimpArgs false
set_option linter.unusedVariables false
section
namespace Go.Proofs.Ytmohcmghbfhdlaa
open Go Go.RowKit Go.Ab Go.Me
set_option maxRecDepth 100000
set_option maxHeartbeats 4000000
attribute [local irreducible] OQ OW AL AW AD AF SW
theorem open_y0 (l : List Pn) (ts : List T3) (c c2 z z1 : Nat) (hz : z = 0 ∨ z = 2) (h0 : cpB l = 0) (h80 : ts.length ≤ 80) (hall : ∀ j, j < ts.length → trK l ts j = 0) (hop : opB l ts = false) (hgp : gpB l ts = false) :
    ACalls Try.prog 35 [.agg #[.slice (some ⟨0, 0, none⟩) l.length c, .slice (some ⟨1, 0, none⟩) ts.length c2]] [some ⟨flatP l, false, z⟩, some ⟨flatT ts, false, z1⟩] (.tuple #[.pointer (some ⟨2, 0, none⟩), .int .i64 0, .int .i64 0]) [some ⟨flatP l, false, z⟩, some ⟨flatT ts, false, z1⟩, some ⟨[.slice (some ⟨0, 0, none⟩) l.length c, .slice (some ⟨1, 0, none⟩) ts.length c2, .slice (some ⟨4, 0, none⟩) (edL ts).length INF, .map (some 3)], true, 0⟩, some (mpX (lfA ts) true 0), some ⟨flatP (edL ts), true, 2⟩] := by
  obtain ⟨h40, hok, hap⟩ := cp_ok h0
  have hp := fun (m : Mem) (b : Nat) (blk : Blk) (h1 : m.at b = some blk) (h2 : blk.cells = flatP l) (h3 : blk.esz = 0 ∨ blk.esz = 2) (h4 : blk.obj = Ob.plain) => CheckPoints_q (c := c) l h1 h2 rfl (by omega) h3 h4
  rw [h0] at hp
  have hlf := fun (k : Nat) (hj : ∀ j, j < k → trK l ts j = 0) => lf_ok (l := l) (ts := ts) k hj
  have hte : ∀ (k : Nat) (hk : k < ts.length) (hj : ∀ j, j < k → trK l ts j = 0) (m : Mem) (A B N : Blk) (own : Bool) (h1 : m.at 0 = some A) (h2 : A.cells = flatP l) (h3 : m.at 1 = some B) (h4 : B.cells = flatT ts) (h5 : m.at 4 = some N) (h6 : N.cells = [.slice (some ⟨0, 0, none⟩) l.length c, .slice (some ⟨1, 0, none⟩) ts.length c2, .slice none 0 0, .map (some 3)]) (h7 : m.at 3 = some (mpX (lf ts k) own 0)) (o1 : A.obj = Ob.plain) (o2 : B.obj = Ob.plain) (o3 : N.obj = Ob.plain), PCalls Try.prog 56 [.pointer (some ⟨4, 0, none⟩), .int .i64 k] m (.int .i64 (trK l ts k)) := fun k hk hj m A B N own h1 h2 h3 h4 h5 h6 h7 o1 o2 o3 => triangleErr_q l ts (lf ts k) hok (by omega) (by omega) (hlf k hj).nd ((hlf k hj).okE (by omega)) hk h1 h2 h3 h4 h5 h6 h7 o1 o2 o3
  have hr3 := fun (k : Nat) (hj : ∀ j, j < k → trK l ts j = 0) (he : trK l ts k = 0) => rnd3 (l := l) (by omega) (hlf k hj) he
  have hun := us_nodup ts
  have hrd := fun (a b d : Int) (m : Mem) => around_q a b d m
  have h3t : ∀ k, trK l ts k = 0 → (0 ≤ (tr ts k).1 ∧ (tr ts k).1 < l.length) ∧ (0 ≤ (tr ts k).2.1 ∧ (tr ts k).2.1 < l.length) ∧ (0 ≤ (tr ts k).2.2 ∧ (tr ts k).2.2 < l.length) := fun k he => by
    have := (trK_0 he).1
    unfold inR at this
    omega
  have hare : ∀ (k : Nat) (he : trK l ts k = 0) (m : Mem) (b d : Nat) (blk blk2 : Blk) (h1 : m.at b = some blk) (h2 : blk.cells = flatP l) (h3 : m.at d = some blk2) (h4 : blk2.cells = [.int .i64 (tr ts k).1, .int .i64 (tr ts k).2.1, .int .i64 (tr ts k).2.2]) (o1 : blk.obj = Ob.plain) (o2 : blk2.obj = Ob.plain), PCalls Try.prog 58 [.slice (some ⟨b, 0, none⟩) l.length c, .slice (some ⟨d, 0, none⟩) 3 3] m (.int .i64 (arS l [(tr ts k).1.toNat, (tr ts k).2.1.toNat, (tr ts k).2.2.toNat] 3)) := fun k he m b d blk blk2 h1 h2 h3 h4 o1 o2 => by
    have hq := h3t k he
    exact area_q l [(tr ts k).1.toNat, (tr ts k).2.1.toNat, (tr ts k).2.2.toNat] hok (fun j hj => by
      match j, hj with
      | 0, _ => show (tr ts k).1.toNat < _; omega
      | 1, _ => show (tr ts k).2.1.toNat < _; omega
      | 2, _ => show (tr ts k).2.2.toNat < _; omega
      | j + 3, hj => simp at hj; omega) (by simp) h1 h2 rfl h3 (by rw [h4]; show _ = [Value.int .i64 (((tr ts k).1.toNat : Nat) : Int), Value.int .i64 (((tr ts k).2.1.toNat : Nat) : Int), Value.int .i64 (((tr ts k).2.2.toNat : Nat) : Int)]; rw [Int.toNat_of_nonneg hq.1.1, Int.toNat_of_nonneg hq.2.1.1, Int.toNat_of_nonneg hq.2.2.1]) rfl o1 o2
  have htb := fun (k : Nat) (he : trK l ts k = 0) => tri_bd (l := l) (ts := ts) (k := k) hok he
  have hab := fun (k : Nat) (hj : ∀ j, j < k → trK l ts j = 0) => arT_bd (l := l) (ts := ts) hok k hj
  have hLf : LfOk l.length (lfA ts) := hlf ts.length hall
  have hat : ∀ (a b : Int) (hab : okE (a, b)) (m : Mem) (A B N : Blk) (own : Bool) (h1 : m.at 0 = some A) (h2 : A.cells = flatP l) (h3 : m.at 1 = some B) (h4 : B.cells = flatT ts) (h5 : m.at 4 = some N) (h6 : N.cells = [.slice (some ⟨0, 0, none⟩) l.length c, .slice (some ⟨1, 0, none⟩) ts.length c2, .slice none 0 0, .map (some 3)]) (h7 : m.at 3 = some (mpX (lf ts ts.length) own 0)) (o1 : A.obj = Ob.plain) (o2 : B.obj = Ob.plain) (o3 : N.obj = Ob.plain), PCalls Try.prog 59 [.pointer (some ⟨4, 0, none⟩), .int .i64 a, .int .i64 b] m (.int .i64 (lk (lfA ts) (a, b))) := fun a b hab m A B N own h1 h2 h3 h4 h5 h6 h7 o1 o2 o3 => at_q l ts (lfA ts) hLf.nd (hLf.okE (by omega)) a b hab h1 h2 h3 h4 h5 h6 h7 rfl o1 o2 o3
  have hcf := fun (a b : Int) (ha : 0 ≤ a ∧ a < l.length) (hb : 0 ≤ b ∧ b < l.length) (m : Mem) (bE : Nat) (A B X D : Blk) (h1 : m.at 0 = some A) (h2 : A.cells = flatP l) (h3 : m.at 1 = some B) (h4 : B.cells = flatT ts) (h5 : m.at 2 = some X) (h6 : X.cells = [.slice (some ⟨0, 0, none⟩) l.length c, .slice (some ⟨1, 0, none⟩) ts.length c2]) (h7 : m.at bE = some D) (h8 : D.cells = [.int .i64 a, .int .i64 b]) (o1 : A.obj = Ob.plain) (o2 : B.obj = Ob.plain) (o3 : X.obj = Ob.plain) (o4 : D.obj = Ob.plain) => ContainsF_q (c3 := c) l ts hok (by omega) a b ha hb rfl rfl h1 h2 h3 h4 h5 h6 h7 h8 o1 o2 o3 o4
  have hVf := lfV_flat (lfA ts)
  have hVl := lfV_len (lfA ts)
  have hhl := fun (h2 : 2 ≤ l.length) (m : Mem) (b : Nat) (blk : Blk) (h1 : m.at b = some blk) (h2' : blk.cells = flatP l) (h4 : blk.obj = Ob.plain) => hull_q (c := c) l h0 h2 h1 h2' rfl h4
  have h2l := fun (h : 0 < ts.length) => two_of hall h
  have harh := fun (m : Mem) (b d : Nat) (blk blk2 : Blk) (h1 : m.at b = some blk) (h2 : blk.cells = flatP l) (h3 : m.at d = some blk2) (h4 : blk2.cells = flatO (hl l)) (o1 : blk.obj = Ob.plain) (o2 : blk2.obj = Ob.plain) => area_q (c := c) (c2 := INF) l (hl l) hok (hl_lt h0) (hl_le h0) h1 h2 rfl h3 h4 rfl o1 o2
  have hul : (List.map (fun k => (k, Value.bool true)) (us ts ts.length)).length = (us ts ts.length).length := List.length_map _
  have hg : ts.length ≠ 0 ∧ arT l ts ts.length = arS l (hl l) (hl l).length ∧ (us ts ts.length).length = l.length := by
    unfold gpB at hgp
    rw [Bool.or_eq_false_iff, Bool.or_eq_false_iff, decide_eq_false_iff_not, decide_eq_false_iff_not, decide_eq_false_iff_not] at hgp
    exact ⟨hgp.1.1, Classical.not_not.1 hgp.1.2, Classical.not_not.1 hgp.2⟩
  obtain ⟨hg1, hg2, hg3⟩ := hg
  have hLn : (lfA ts).length = 3 * ts.length := lfA_len ts.length
  have hat2 : ∀ (a b : Int) (hab : okE (a, b)) (m : Mem) (A B N D : Blk) (own : Bool) (es : List Pn) (ne : Nat) (h1 : m.at 0 = some A) (h2 : A.cells = flatP l) (h3 : m.at 1 = some B) (h4 : B.cells = flatT ts) (h5 : m.at 4 = some N) (h6 : N.cells = [.slice (some ⟨0, 0, none⟩) l.length c, .slice (some ⟨1, 0, none⟩) ts.length c2, .slice (some ⟨6, 0, none⟩) ne INF, .map (some 3)]) (h7 : m.at 3 = some (mpX (lf ts ts.length) own 0)) (h8 : m.at 6 = some D) (h9 : D.cells = flatP es) (o1 : A.obj = Ob.plain) (o2 : B.obj = Ob.plain) (o3 : N.obj = Ob.plain) (o4 : D.obj = Ob.plain), PCalls Try.prog 59 [.pointer (some ⟨4, 0, none⟩), .int .i64 a, .int .i64 b] m (.int .i64 (lk (lfA ts) (a, b))) := fun a b hab m A B N D own es ne h1 h2 h3 h4 h5 h6 h7 h8 h9 o1 o2 o3 o4 => at_e l ts es (lfA ts) hLf.nd (hLf.okE (by omega)) a b hab h1 h2 h3 h4 h5 h6 h7 rfl h8 h9 o1 o2 o3 o4
  refine ACalls.enter (t := [.agg #[.slice (some ⟨0, 0, none⟩) l.length c, .slice (some ⟨1, 0, none⟩) ts.length c2], undef, undef, undef, undef, undef, undef, undef, undef, undef, undef, undef, undef, undef, undef, undef, undef, undef, undef, undef, undef, undef, undef, undef, undef, undef, undef, undef, undef, undef, undef, undef, undef, undef, undef, undef, undef, undef, undef, undef, undef, undef, undef, undef, undef, undef, undef, undef, undef, undef, undef, undef, undef, undef, undef, undef, undef, undef, undef, undef, undef, undef, undef, undef, undef, undef, undef, undef, undef, undef, undef, undef, undef, undef, undef, undef, undef, undef, undef, undef, undef, undef, undef, undef, undef, undef, undef, undef, undef, undef, undef, undef, undef, undef, undef, undef, undef, undef, undef, undef, undef, undef, undef, undef, undef, undef, undef, undef, undef, undef, undef, undef, undef, undef, undef, undef, undef, undef, undef, undef, undef, undef, undef, undef, undef, undef, undef, undef, undef, undef, undef, undef, undef, undef, undef, undef, undef, undef, undef, undef, undef, undef, undef, undef, undef, undef, undef, undef, undef, undef, undef, undef, undef, undef, undef, undef, undef, undef, undef, undef, undef, undef, undef, undef, undef]) Try.func35 rfl rfl fun E hE => ?_
  repeat' (first
    | with_reducible refine Then.n ?_
    | with_reducible refine Then.r ?_
    | with_reducible refine Then.x ?_
    | with_reducible refine InB.n ?_
    | with_reducible refine InB.r ?_
    | with_reducible refine InB.hit ?_
    | with_reducible refine InB.miss (by decide) ?_
    | ((with_reducible refine AL.on ?_); first
      | (refine AL.gd rfl ?_; first | (refine AL.gskip rfl rfl ?_; (conv => (arg 5; try tactic => exact nrm))) | (refine AL.gs1 rfl rfl (fun hc => ?_) (fun hc => ?_) <;> (try replace hc := nc hc) <;> first | (exfalso; first | contradiction | (first | omega | (simp at hc; done) | (exact absurd (hall k (by omega)) (by assumption)) | (exact absurd (opB_yes hmm (by assumption) (by assumption)) (by rw [hop]; decide))); done) | (conv => (arg 5; try tactic => exact nrm))) | (refine AL.gs0 rfl rfl (fun hc => ?_) (fun hc => ?_) <;> (try replace hc := nc hc) <;> first | (exfalso; first | contradiction | (first | omega | (simp at hc; done) | (exact absurd (hall k (by omega)) (by assumption)) | (exact absurd (opB_yes hmm (by assumption) (by assumption)) (by rw [hop]; decide))); done) | (conv => (arg 5; try tactic => exact nrm))))
      | ((first | ((with_reducible refine AL.k_move ?_); first | (refine AL.q rfl (OQ.move wl) ?_)) | ((with_reducible refine AL.k_assign ?_); first | (refine AL.q rfl (OQ.assign wl) ?_)) | ((with_reducible refine AL.k_load ?_); first | (refine AL.q rfl (OQ.load1 (ty := 22) rfl kr (by first | (exact flatT_ld rfl rfl _ (by omega)) | (conv => lhs; whnf))) ?_) | (refine AL.q rfl (OQ.load1 (ty := 36) rfl kr (by first | (exact flatT_ld rfl rfl _ (by omega)) | (conv => lhs; whnf))) ?_) | refine AL.q rfl (OQ.loadN (ty := 38) (n := 2) rfl kr kr (by first | (exact flatT_ld rfl rfl _ (by omega)) | rfl)) ?_ | refine AL.q rfl (OQ.loadN (ty := 79) (n := 3) rfl kr kr (by first | (exact flatT_ld rfl rfl _ (by omega)) | rfl)) ?_ | (refine AL.q rfl (OQ.load1 (ty := 3) rfl kr (by first | (exact flatT_ld rfl rfl _ (by omega)) | (conv => lhs; whnf))) ?_) | (refine AL.q rfl (OQ.load1 (ty := 72) rfl kr (by first | (exact flatT_ld rfl rfl _ (by omega)) | (conv => lhs; whnf))) ?_) | (refine AL.q rfl (OQ.load1 (ty := 42) rfl kr (by first | (exact flatT_ld rfl rfl _ (by omega)) | (conv => lhs; whnf))) ?_)) | ((with_reducible refine AL.k_call ?_); first | refine AL.q rfl (OQ.lenS (xt := 36) (r := (none, 3, true)) rfl kr) ?_) | ((with_reducible refine AL.k_binOp ?_); first | refine AL.q rfl (OQ.neq rfl rfl) ?_ | refine AL.q rfl (OQ.gtr rfl rfl) ?_ | refine AL.q rfl (OQ.lss rfl rfl) ?_ | refine AL.q rfl (OQ.addi rfl rfl (by omega)) ?_ | refine AL.q rfl (OQ.add rfl rfl) ?_ | refine AL.q rfl (OQ.eql rfl rfl) ?_) | ((with_reducible refine AL.k_extract ?_); first | refine AL.q rfl (OQ.extract rfl rfl) ?_) | ((with_reducible refine AL.k_pick ?_); first | (refine AL.q rfl (OQ.pickT rfl (by with_reducible rfl) wl) ?_) | (refine AL.q rfl (OQ.pickF rfl (by with_reducible rfl) wl) ?_)) | ((with_reducible refine AL.k_index ?_); first | refine AL.q rfl (OQ.idxArrL (ty := 95) (n := 2) (l := 3) rfl rfl kr (by first | omega | decide) (by first | omega | decide) rfl) ?_) | refine AL.q rfl (OQ.nilCheck rfl) ?_ | refine AL.q rfl (OQ.mentry (b := 3) (j := j) (seen := seen) (k := kk) (l := lfV (lfA ts)) rfl rfl rfl hj rfl rfl) ?_); (conv => (arg 5; try tactic => exact nrm)))
      | ((first | ((with_reducible refine AL.k_call ?_); first | refine AL.pcall (g := 8) rfl kr rfl ((by exact hp _ 0 _ rfl rfl hz rfl)) ?_ | refine AL.pcall (g := 56) rfl kr rfl ((by exact hte k (by omega) hj _ _ _ _ _ rfl rfl rfl rfl rfl rfl rfl rfl rfl rfl)) ?_ | refine AL.pcall (g := 57) rfl kr rfl (hrd _ _ _ _) ?_ | refine AL.pcall (g := 59) rfl kr rfl ((by first | exact hat _ _ ⟨⟨by omega, by omega⟩, by omega, by omega⟩ _ _ _ _ _ rfl rfl rfl rfl rfl rfl rfl rfl rfl rfl | exact hat2 _ _ ⟨⟨by omega, by omega⟩, by omega, by omega⟩ _ _ _ _ _ _ _ _ rfl rfl rfl rfl rfl rfl rfl rfl rfl rfl rfl rfl rfl)) ?_ | refine AL.pcall (g := 60) rfl kr rfl ((by exact hcf _ _ hr1 hr2 _ 7 _ _ _ _ rfl rfl rfl rfl rfl rfl rfl rfl rfl rfl rfl rfl)) ?_) | ((with_reducible refine AL.k_fieldAddr ?_); first | refine AL.q rfl (OQ.fieldA (ty := 38) (i := 0) (n := 1) (off := 0) (g := false) rfl kr (by decide)) ?_ | refine AL.q rfl (OQ.fieldA (ty := 38) (i := 1) (n := 1) (off := 1) (g := false) rfl kr (by decide)) ?_ | refine AL.q rfl (OQ.fieldA (ty := 74) (i := 2) (n := 1) (off := 3) (g := false) rfl kr (by decide)) ?_ | refine AL.q rfl (OQ.fieldA (ty := 74) (i := 1) (n := 1) (off := 2) (g := false) rfl kr (by decide)) ?_) | ((with_reducible refine AL.k_indexAddr ?_); first | refine AL.q rfl (OQ.idxAddr (ty := 36) (z := 3) (g := true) rfl rfl kr (by first | omega | decide) (by first | omega | decide)) ?_ | refine AL.q rfl (OQ.idxPtr (ty := 45) (n := 1) (l := 2) (g := false) rfl rfl kr (by first | omega | decide) (by first | omega | decide)) ?_) | ((with_reducible refine AL.k_build ?_); first | refine AL.q rfl (OQ.buildS (ty := 74) (zs := [.slice none 0 0, .slice none 0 0, .slice none 0 0, .map none]) (pls := [(0, 2), (2, 1), (3, 1)]) kr rfl kr rfl rfl rfl) ?_) | refine AL.q rfl OQ.mkfn ?_); (conv => (arg 5; try tactic => exact nrm)))
      | ((first | ((with_reducible refine AL.k_call ?_); first | refine AL.acall (g := 62) rfl kr rfl ((by exact sortE_q (b := 6) (eqS ts seen) rfl hpos (by omega) rfl)) ?_) | ((with_reducible refine AL.k_store ?_); first | (refine AL.w rfl (OW.store (ty := 79) (n := 3) rfl wl rfl rfl kr rfl rfl (by decide) rfl (Nat.le_of_ble_eq_true rfl) (by intro r h; cases h)) ?_) | (refine AL.w rfl (OW.store (ty := 45) (n := 2) rfl wl rfl rfl kr rfl rfl (by decide) rfl (Nat.le_of_ble_eq_true rfl) (by intro r h; cases h)) ?_) | (refine AL.w rfl (OW.store (ty := 42) (n := 1) rfl wl rfl rfl kr rfl rfl (by decide) rfl (Nat.le_of_ble_eq_true rfl) (by intro r h; cases h)) ?_)) | ((with_reducible refine AL.k_alloc ?_); first | refine AL.w rfl (OW.alloc (ty := 79) (z := [.int .i64 0, .int .i64 0, .int .i64 0]) kr rfl) ?_ | refine AL.w rfl (OW.alloc (ty := 45) (z := [.int .i64 0, .int .i64 0]) kr rfl) ?_) | ((with_reducible refine AL.k_box ?_); first | (refine AL.w rfl (OW.box wl (by intro r h; cases h)) ?_)) | refine AL.w rfl OW.makeMap ?_ | refine AL.w rfl (by first | exact OW.mupdN (enc := encE) (k := ((tr ts k).1, (tr ts k).2.1)) KE hs3.o1 hs3.a1 rfl rfl rfl Try.underlying72 rfl hs3.b1 rfl | exact OW.mupdN (enc := encE) (k := ((tr ts k).2.1, (tr ts k).2.2)) KE hs3.o2 hs3.a2 rfl rfl rfl Try.underlying72 rfl hs3.b2 rfl | exact OW.mupdN (enc := encE) (k := ((tr ts k).2.2, (tr ts k).1)) KE hs3.o3 hs3.a3 rfl rfl rfl Try.underlying72 rfl hs3.b3 rfl | exact OW.mins (enc := encI) (l := us ts k) (k := (tr ts k).1) (v := .bool true) KI trivial (fun _ _ => trivial) rfl rfl rfl Try.underlying91 rfl (hun k) rfl | exact OW.mins (enc := encI) (l := insL (us ts k) (tr ts k).1) (k := (tr ts k).2.1) (v := .bool true) KI trivial (fun _ _ => trivial) rfl rfl rfl Try.underlying91 rfl (insL_nodup (hun k)) rfl | exact OW.mins (enc := encI) (l := insL (insL (us ts k) (tr ts k).1) (tr ts k).2.1) (k := (tr ts k).2.2) (v := .bool true) KI trivial (fun _ _ => trivial) rfl rfl rfl Try.underlying91 rfl (insL_nodup (insL_nodup (hun k))) rfl) ?_ | refine AL.w rfl (OW.rangeMap rfl Try.underlying72 rfl) ?_ | refine (AL.mnext (b := 3) (enc := encE) (l := lfV (lfA ts)) KE rfl rfl rfl hVf (fun hdone => ?_) (fun j kk v hj hns => ?_))); (conv => (arg 5; try tactic => exact nrm)); (conv => (arg 6; try tactic => exact nrm)))
      | (refine AL.bs rfl (fun hc => ?_) (fun hc => ?_) <;> (fail_if_success (with_reducible exact lit_no hc)) <;> (try replace hc := nc hc) <;> first | (exfalso; first | contradiction | (first | omega | (simp at hc; done) | (exact absurd (hall k (by omega)) (by assumption)) | (exact absurd (opB_yes hmm (by assumption) (by assumption)) (by rw [hop]; decide))); done) | (conv => (arg 5; try tactic => exact nrm)))
      | refine AL.nil ?_)
    | ((with_reducible refine AW.on ?_); first
      | refine AW.seq ?_
      | refine AW.skip ?_
      | refine AW.exit ?_
      | refine AW.ret ?_
      | ((refine AW.block (id := 0) ?_); (refine AW.wk (Wk.forget [false, true, false, false, false, false, false, true, true, true, false, false, false, false, false, false, false, false, false, false, false, false, false, false, false, false, false, false, false, false, false, false, false, false, false, false, true, true, true, false, false, false, false, false, false, false, false, false, false, false, false, false, false, false, false, false, false, false, false, false, false, false, false, false, false, false, false, false, false, false, false, false, false, false, false, false, false, false, false, false, false, false, false, false, false, false, false, false, false, false, false, false, false, false, false, false, false, false, false, false, false, false, false, false, false, false, false, false, false, false, false, false, false, false, false, false, false, false, false, false, false, false, false, false, false, false, false, false, false, false, false, false, false, false, false, false, false, false, false, false, false, false, false, false, false, false, false, false, false, false, false, false, false, false, false, false, false, false, false, false, false, false, false, false, false] rfl) ?_); (conv => (arg 4; simp only [fgt, if_true, if_false, Bool.false_eq_true])); (refine AW.loop (fun n' t' m => ∃ k : Nat, n' = ts.length - k ∧ k ≤ ts.length ∧ (∀ j, j < k → trK l ts j = 0) ∧ t' = [junk, .pointer (some ⟨2, 0, none⟩), junk, junk, junk, junk, junk, .pointer (some ⟨4, 0, none⟩), .int .i64 (arT l ts k), .map (some 5), junk, junk, junk, junk, junk, junk, junk, junk, junk, junk, junk, junk, junk, junk, junk, junk, junk, junk, junk, junk, junk, junk, junk, junk, junk, junk, .slice (some ⟨1, 0, none⟩) ts.length c2, .int .i64 (ts.length), .int .i64 (k), junk, junk, junk, junk, junk, junk, junk, junk, junk, junk, junk, junk, junk, junk, junk, junk, junk, junk, junk, junk, junk, junk, junk, junk, junk, junk, junk, junk, junk, junk, junk, junk, junk, junk, junk, junk, junk, junk, junk, junk, junk, junk, junk, junk, junk, junk, junk, junk, junk, junk, junk, junk, junk, junk, junk, junk, junk, junk, junk, junk, junk, junk, junk, junk, junk, junk, junk, junk, junk, junk, junk, junk, junk, junk, junk, junk, junk, junk, junk, junk, junk, junk, junk, junk, junk, junk, junk, junk, junk, junk, junk, junk, junk, junk, junk, junk, junk, junk, junk, junk, junk, junk, junk, junk, junk, junk, junk, junk, junk, junk, junk, junk, junk, junk, junk, junk, junk, junk, junk, junk, junk, junk, junk, junk, junk, junk] ∧ m = [some ⟨flatP l, false, z⟩, some ⟨flatT ts, false, z1⟩, some ⟨[.slice (some ⟨0, 0, none⟩) l.length c, .slice (some ⟨1, 0, none⟩) ts.length c2], true, 0⟩, some (mpX (lf ts k) true 0), some ⟨[.slice (some ⟨0, 0, none⟩) l.length c, .slice (some ⟨1, 0, none⟩) ts.length c2, .slice none 0 0, .map (some 3)], true, 0⟩, some (mpU (us ts k))]) (ts.length) (by exact ⟨0, rfl, Nat.zero_le _, fun j h => absurd h (by omega), rfl, rfl⟩) ?_); (rintro n' t' m ⟨k, rfl, hk, hj, rfl, rfl⟩))
      | (refine AW.block (id := 2) ?_; refine AW.unroll 4 ?_)
      | ((refine AW.block (id := 4) ?_); (refine AW.wk (Wk.forget [false, true, false, false, false, false, false, true, true, true, false, false, false, false, false, false, false, false, false, false, false, false, false, false, false, false, false, false, false, false, false, false, false, false, false, false, false, false, false, false, false, false, false, false, false, false, false, false, false, false, false, false, false, false, false, false, false, false, false, false, false, false, false, false, false, false, false, false, false, false, false, false, false, false, false, false, true, false, false, false, false, false, false, false, false, false, false, false, false, false, false, false, false, false, false, false, false, false, false, false, false, false, false, false, false, false, false, false, false, false, false, false, false, false, false, false, false, false, false, false, false, false, false, false, false, false, false, false, false, false, false, false, false, false, false, false, false, false, false, false, false, false, false, false, false, false, false, false, false, false, false, false, false, false, false, false, false, false, false, false, false, false, false, false, false] rfl) ?_); (conv => (arg 4; simp only [fgt, if_true, if_false, Bool.false_eq_true])); (refine AW.loop (fun n' t' m => ∃ seen : List Nat, n' = (lfA ts).length - seen.length ∧ seen.Nodup ∧ (∀ j ∈ seen, j < (lfA ts).length ∧ (∀ (kk : IE) (v : Value), (lfV (lfA ts))[j]? = some (kk, v) → lk (lfA ts) (kk.2, kk.1) = -1 → bdB l kk.1.toNat kk.2.toNat = true)) ∧ t' = [junk, .pointer (some ⟨2, 0, none⟩), junk, junk, junk, junk, junk, .pointer (some ⟨4, 0, none⟩), .int .i64 (arT l ts ts.length), .map (some 5), junk, junk, junk, junk, junk, junk, junk, junk, junk, junk, junk, junk, junk, junk, junk, junk, junk, junk, junk, junk, junk, junk, junk, junk, junk, junk, junk, junk, junk, junk, junk, junk, junk, junk, junk, junk, junk, junk, junk, junk, junk, junk, junk, junk, junk, junk, junk, junk, junk, junk, junk, junk, junk, junk, junk, junk, junk, junk, junk, junk, junk, junk, junk, junk, junk, junk, .pointer (some ⟨6, 0, none⟩), junk, junk, junk, junk, junk, junk, junk, junk, junk, junk, junk, junk, junk, junk, junk, junk, junk, junk, junk, junk, junk, junk, junk, junk, junk, junk, junk, junk, junk, junk, junk, junk, junk, junk, junk, junk, junk, junk, junk, junk, junk, junk, junk, junk, junk, junk, junk, junk, junk, junk, junk, junk, junk, junk, junk, junk, junk, junk, junk, junk, junk, junk, junk, junk, junk, junk, junk, junk, junk, junk, junk, junk, junk, junk, junk, junk, junk, junk, junk, junk, junk, junk, junk, junk, junk, junk, junk, junk] ∧ m = [some ⟨flatP l, false, z⟩, some ⟨flatT ts, false, z1⟩, some ⟨[.slice (some ⟨0, 0, none⟩) l.length c, .slice (some ⟨1, 0, none⟩) ts.length c2], true, 0⟩, some (mpX (lf ts ts.length) true 0), some ⟨[.slice (some ⟨0, 0, none⟩) l.length c, .slice (some ⟨1, 0, none⟩) ts.length c2, .slice none 0 0, .map (some 3)], true, 0⟩, some (mpU (us ts ts.length)), some (itL 3 (lfV (lfA ts)).length (seen))]) ((lfA ts).length) (by exact ⟨[], rfl, List.nodup_nil, fun j h => absurd h (by simp), rfl, rfl⟩) ?_); (rintro n' t' m ⟨seen, rfl, hnd, hG, rfl, rfl⟩))
      | ((refine AW.block (id := 6) ?_); (refine AW.wk (Wk.forget [false, false, false, false, false, false, false, true, false, false, false, false, false, false, false, false, false, false, false, false, false, false, false, false, false, false, false, false, false, false, false, false, false, false, false, false, false, false, false, false, false, false, false, false, false, false, false, false, false, false, false, false, false, false, false, false, false, false, false, false, false, false, false, false, false, false, false, false, false, false, false, false, false, false, false, false, false, false, false, false, false, false, false, false, false, false, false, false, false, false, false, false, false, false, false, false, false, false, false, false, false, false, false, false, false, false, false, false, false, false, false, false, false, false, false, false, false, false, false, false, true, false, false, false, false, false, false, false, false, false, false, false, false, false, false, false, false, false, false, false, false, false, false, false, false, false, false, false, false, false, false, false, false, false, false, false, false, false, false, false, false, false, false, false, false] rfl) ?_); (conv => (arg 4; simp only [fgt, if_true, if_false, Bool.false_eq_true])); (refine AW.wk (t' := [junk, junk, junk, junk, junk, junk, junk, .pointer (some ⟨4, 0, none⟩), junk, junk, junk, junk, junk, junk, junk, junk, junk, junk, junk, junk, junk, junk, junk, junk, junk, junk, junk, junk, junk, junk, junk, junk, junk, junk, junk, junk, junk, junk, junk, junk, junk, junk, junk, junk, junk, junk, junk, junk, junk, junk, junk, junk, junk, junk, junk, junk, junk, junk, junk, junk, junk, junk, junk, junk, junk, junk, junk, junk, junk, junk, junk, junk, junk, junk, junk, junk, junk, junk, junk, junk, junk, junk, junk, junk, junk, junk, junk, junk, junk, junk, junk, junk, junk, junk, junk, junk, junk, junk, junk, junk, junk, junk, junk, junk, junk, junk, junk, junk, junk, junk, junk, junk, junk, junk, junk, junk, junk, junk, junk, junk, .pointer (some ⟨5, 0, none⟩), junk, junk, junk, junk, junk, junk, junk, junk, junk, junk, junk, junk, junk, junk, junk, junk, junk, junk, junk, junk, junk, junk, junk, junk, junk, junk, junk, junk, junk, junk, junk, junk, junk, junk, junk, junk, junk, junk, junk, junk, junk, junk, junk, junk]) (m' := [some ⟨flatP l, false, z⟩, some ⟨flatT ts, false, z1⟩, some ⟨[.slice (some ⟨0, 0, none⟩) l.length c, .slice (some ⟨1, 0, none⟩) ts.length c2], true, 0⟩, some (mpX (lf ts ts.length) true 0), some ⟨[.slice (some ⟨0, 0, none⟩) l.length c, .slice (some ⟨1, 0, none⟩) ts.length c2, .slice none 0 0, .map (some 3)], true, 0⟩, some (itL 3 (lfV (lfA ts)).length ([]))]) (Wk.keep 5 [8] (by rw [hE]; exact (by decide : 2 ≤ 5)) rfl rfl (by repeat (first | exact RenT.nil | refine RenT.junk ?_ | refine RenT.val (by first | rfl | with_reducible assumption | (simp only [rn3, rn2, rn1, kσ]; done)) (by first | rfl | assumption | (simp [ok3, ok2, ok1]; done)) ?_)) ⟨⟨_, rfl, rfl, rfl, .inl ⟨rfl, flatP_scal l⟩⟩, ⟨_, rfl, rfl, rfl, .inl ⟨rfl, flatT_scal ts⟩⟩, ⟨_, rfl, rfl, rfl, .inr ⟨rfl, rfl⟩⟩, ⟨_, rfl, rfl, rfl, .inl ⟨rfl, rfl⟩⟩, ⟨_, rfl, rfl, rfl, .inr ⟨rfl, rfl⟩⟩, ⟨_, rfl, rfl, rfl, .inl ⟨rfl, rfl⟩⟩, trivial⟩) ?_); (refine AW.loop (fun n' t' m => ∃ seen : List Nat, n' = (lfA ts).length - seen.length ∧ seen.Nodup ∧ (∀ j ∈ seen, j < (lfA ts).length) ∧ ((eqS ts seen = [] ∧ t' = [junk, junk, junk, junk, junk, junk, junk, .pointer (some ⟨4, 0, none⟩), junk, junk, junk, junk, junk, junk, junk, junk, junk, junk, junk, junk, junk, junk, junk, junk, junk, junk, junk, junk, junk, junk, junk, junk, junk, junk, junk, junk, junk, junk, junk, junk, junk, junk, junk, junk, junk, junk, junk, junk, junk, junk, junk, junk, junk, junk, junk, junk, junk, junk, junk, junk, junk, junk, junk, junk, junk, junk, junk, junk, junk, junk, junk, junk, junk, junk, junk, junk, junk, junk, junk, junk, junk, junk, junk, junk, junk, junk, junk, junk, junk, junk, junk, junk, junk, junk, junk, junk, junk, junk, junk, junk, junk, junk, junk, junk, junk, junk, junk, junk, junk, junk, junk, junk, junk, junk, junk, junk, junk, junk, junk, junk, .pointer (some ⟨5, 0, none⟩), junk, junk, junk, junk, junk, junk, junk, junk, junk, junk, junk, junk, junk, junk, junk, junk, junk, junk, junk, junk, junk, junk, junk, junk, junk, junk, junk, junk, junk, junk, junk, junk, junk, junk, junk, junk, junk, junk, junk, junk, junk, junk, junk, junk] ∧ m = [some ⟨flatP l, false, z⟩, some ⟨flatT ts, false, z1⟩, some ⟨[.slice (some ⟨0, 0, none⟩) l.length c, .slice (some ⟨1, 0, none⟩) ts.length c2], true, 0⟩, some (mpX (lf ts ts.length) true 0), some ⟨[.slice (some ⟨0, 0, none⟩) l.length c, .slice (some ⟨1, 0, none⟩) ts.length c2, .slice none 0 0, .map (some 3)], true, 0⟩, some (itL 3 (lfV (lfA ts)).length (seen))]) ∨ (eqS ts seen ≠ [] ∧ t' = [junk, junk, junk, junk, junk, junk, junk, .pointer (some ⟨4, 0, none⟩), junk, junk, junk, junk, junk, junk, junk, junk, junk, junk, junk, junk, junk, junk, junk, junk, junk, junk, junk, junk, junk, junk, junk, junk, junk, junk, junk, junk, junk, junk, junk, junk, junk, junk, junk, junk, junk, junk, junk, junk, junk, junk, junk, junk, junk, junk, junk, junk, junk, junk, junk, junk, junk, junk, junk, junk, junk, junk, junk, junk, junk, junk, junk, junk, junk, junk, junk, junk, junk, junk, junk, junk, junk, junk, junk, junk, junk, junk, junk, junk, junk, junk, junk, junk, junk, junk, junk, junk, junk, junk, junk, junk, junk, junk, junk, junk, junk, junk, junk, junk, junk, junk, junk, junk, junk, junk, junk, junk, junk, junk, junk, junk, .pointer (some ⟨5, 0, none⟩), junk, junk, junk, junk, junk, junk, junk, junk, junk, junk, junk, junk, junk, junk, junk, junk, junk, junk, junk, junk, junk, junk, junk, junk, junk, junk, junk, junk, junk, junk, junk, junk, junk, junk, junk, junk, junk, junk, junk, junk, junk, junk, junk, junk] ∧ m = [some ⟨flatP l, false, z⟩, some ⟨flatT ts, false, z1⟩, some ⟨[.slice (some ⟨0, 0, none⟩) l.length c, .slice (some ⟨1, 0, none⟩) ts.length c2], true, 0⟩, some (mpX (lf ts ts.length) true 0), some ⟨[.slice (some ⟨0, 0, none⟩) l.length c, .slice (some ⟨1, 0, none⟩) ts.length c2, .slice (some ⟨6, 0, none⟩) ((eqS ts seen).length) INF, .map (some 3)], true, 0⟩, some (itL 3 (lfV (lfA ts)).length (seen)), some ⟨flatP (eqS ts seen), true, 2⟩]))) ((lfA ts).length) (by exact ⟨[], rfl, List.nodup_nil, fun j h => absurd h (by simp), .inl ⟨rfl, rfl, rfl⟩⟩) ?_); (rintro n' t' m ⟨seen, rfl, hnd, hsn, (⟨he0, rfl, rfl⟩ | ⟨he1, rfl, rfl⟩)⟩))
      | refine AW.block ?_
      | (refine AW.drawF (id := 18) 6 #[0, 1, 3, 7, 0, 0, 63] kr kr ?_; (conv => (arg 8; simp only [List.take_succ_cons, List.take_zero])))
      | (refine AW.drawF (id := 21) 5 #[0, 0, 2, 0, 14, 31, 63] kr kr ?_; (conv => (arg 8; simp only [List.take_succ_cons, List.take_zero])); ((have hq1 := htb k ‹_›; have hq2 := hab k hj)))
      | (refine AW.drawF (id := 28) 20 #[0, 1, 3, 7, 15, 31, 31, 95, 31, 287, 799, 2015, 4095, 8191, 16383, 32767, 65535, 32767, 163839, 425983, 1048575, 2097151] kr kr ?_; (conv => (arg 8; simp only [List.take_succ_cons, List.take_zero])))
      | (refine AW.drawF (id := 34) 18 #[0, 0, 2, 6, 14, 0, 32, 0, 128, 480, 0, 1024, 0, 4096, 15360, 32736, 65504, 131070, 262143, 524287, 1048575] kr kr ?_; (conv => (arg 8; simp only [List.take_succ_cons, List.take_zero])))
      | (refine AW.region (id := 14) ?_; exfalso; first | omega | (simp at hc; done) | (exact absurd (hall k (by omega)) (by assumption)) | (exact absurd (opB_yes hmm (by assumption) (by assumption)) (by rw [hop]; decide)); done)
      | (refine AW.region (id := 15) ?_; ((have hs3 := hr3 k hj ‹_›; have ht3 := h3t k ‹_›)))
      | (refine AW.region (id := 23) ?_; ((obtain rfl : k = ts.length := (by omega))))
      | (refine AW.region (id := 25) ?_; ((obtain ⟨hjl, ⟨vi, rfl, hmm⟩, hr1, hr2⟩ := lfV_get hLf hj)))
      | (refine AW.region (id := 27) ?_; exfalso; first | omega | (simp at hc; done) | (exact absurd (hall k (by omega)) (by assumption)) | (exact absurd (opB_yes hmm (by assumption) (by assumption)) (by rw [hop]; decide)); done)
      | (refine AW.region (id := 29) ?_; exfalso; first | omega | (simp at hc; done) | (exact absurd (hall k (by omega)) (by assumption)) | (exact absurd (opB_yes hmm (by assumption) (by assumption)) (by rw [hop]; decide)); done)
      | (refine AW.region (id := 32) ?_; ((obtain ⟨hjl, ⟨vi, rfl, hmm⟩, hr1, hr2⟩ := lfV_get hLf hj; have hpk := pk_at hj; have hse := eqS_le (ts := ts) (seen := seen); have hsl := seen_le hnd hsn)))
      | (refine AW.region (id := 35) ?_; (first | (exfalso; exact absurd he0 (eqS_pos hall (by omega) (fun j hj => hdone j (by rw [hVl]; exact hj)))) | (have hpos := List.length_pos_iff.2 he1; have hse := eqS_le (ts := ts) (seen := seen); have hsl := seen_le hnd hsn)))
      | refine AW.region ?_
      | (refine AW.conds rfl (fun hc => ?_) (fun hc => ?_) <;> (try replace hc := nc hc) <;> first | (exfalso; first | contradiction | (first | omega | (simp at hc; done) | (exact absurd (hall k (by omega)) (by assumption)) | (exact absurd (opB_yes hmm (by assumption) (by assumption)) (by rw [hop]; decide))); done) | skip))
    | ((with_reducible refine AF.on ?_); first
      | (refine AF.q 0 (SW.skip rfl rfl) ?_; (conv => (arg 9; try tactic => exact nrmF)); (conv => (arg 11; try simp only [List.nil_append, List.cons_append])))
      | ((first | refine AF.q 0 (SW.no1 rfl rfl (by with_reducible rfl)) ?_ | refine AF.q 0 (SW.no0 rfl rfl (by with_reducible rfl)) ?_); (conv => (arg 9; try tactic => exact nrmF)); (conv => (arg 11; try simp only [List.nil_append, List.cons_append])))
      | ((first | ((with_reducible refine AF.k_move ?_); first | (refine AF.q 0 (SW.q (OQ.move wl) rfl) ?_) | (refine AF.q 0 (SW.yes (SW.q (OQ.move wl) rfl) rfl rfl (by with_reducible rfl)) ?_)) | ((with_reducible refine AF.k_load ?_); first | (refine AF.ql rfl (SW.q (OQ.load1 (ty := 72) rfl kr (by first | (exact flatT_ld rfl rfl _ (by omega)) | (conv => lhs; whnf))) rfl) ?_) | refine AF.ql rfl (SW.q (OQ.loadN (ty := 45) (n := 2) rfl kr kr (by first | (exact flatT_ld rfl rfl _ (by omega)) | rfl)) rfl) ?_ | (refine AF.ql rfl (SW.q (OQ.load1 (ty := 22) rfl kr (by first | (exact flatT_ld rfl rfl _ (by omega)) | (conv => lhs; whnf))) rfl) ?_) | (refine AF.ql rfl (SW.q (OQ.load1 (ty := 36) rfl kr (by first | (exact flatT_ld rfl rfl _ (by omega)) | (conv => lhs; whnf))) rfl) ?_) | (refine AF.ql rfl (SW.yes (SW.q (OQ.load1 (ty := 22) rfl kr (by first | (exact flatT_ld rfl rfl _ (by omega)) | (conv => lhs; whnf))) rfl) rfl rfl (by with_reducible rfl)) ?_) | (refine AF.ql rfl (SW.q (OQ.load1 (ty := 42) rfl kr (by first | (exact flatT_ld rfl rfl _ (by omega)) | (conv => lhs; whnf))) rfl) ?_) | (refine AF.ql rfl (SW.q (OQ.load1 (ty := 3) rfl kr (by first | (exact flatT_ld rfl rfl _ (by omega)) | (conv => lhs; whnf))) rfl) ?_)) | ((with_reducible refine AF.k_call ?_); first | refine AF.q 0 (SW.q (OQ.lenS (xt := 36) (r := (none, 3, true)) rfl kr) rfl) ?_ | refine AF.q 0 (SW.yes (SW.q (OQ.lenS (xt := 22) (r := (none, 2, true)) rfl kr) rfl) rfl rfl (by with_reducible rfl)) ?_ | refine AF.q 0 (SW.q (OQ.min2 rfl rfl) rfl) ?_ | refine AF.q 0 (SW.q (OQ.max2 rfl rfl) rfl) ?_ | refine AF.q 2 (SW.pcall (g := 58) rfl kr rfl ((by first | exact hare k ‹_› _ 0 6 _ _ rfl rfl rfl rfl rfl rfl | exact harh _ 0 7 _ _ rfl rfl rfl rfl rfl rfl)) rfl) ?_ | refine AF.q 2 (SW.yes (SW.pcall (g := 58) rfl kr rfl ((by first | exact hare k ‹_› _ 0 6 _ _ rfl rfl rfl rfl rfl rfl | exact harh _ 0 7 _ _ rfl rfl rfl rfl rfl rfl)) rfl) rfl rfl (by with_reducible rfl)) ?_ | refine AF.q 2 (SW.yes (SW.q (OQ.mlen rfl Try.underlying91 rfl) rfl) rfl rfl (by with_reducible rfl)) ?_) | ((with_reducible refine AF.k_fieldAddr ?_); first | refine AF.q 0 (SW.q (OQ.fieldA (ty := 74) (i := 2) (n := 1) (off := 3) (g := false) rfl kr (by decide)) rfl) ?_ | refine AF.q 0 (SW.q (OQ.fieldA (ty := 38) (i := 0) (n := 1) (off := 0) (g := false) rfl kr (by decide)) rfl) ?_ | refine AF.q 0 (SW.q (OQ.fieldA (ty := 38) (i := 1) (n := 1) (off := 1) (g := false) rfl kr (by decide)) rfl) ?_ | refine AF.q 0 (SW.yes (SW.q (OQ.fieldA (ty := 38) (i := 0) (n := 1) (off := 0) (g := false) rfl kr (by decide)) rfl) rfl rfl (by with_reducible rfl)) ?_ | refine AF.q 0 (SW.q (OQ.fieldA (ty := 74) (i := 1) (n := 1) (off := 2) (g := false) rfl kr (by decide)) rfl) ?_) | ((with_reducible refine AF.k_binOp ?_); first | refine AF.q 0 (SW.q (OQ.eql rfl rfl) rfl) ?_ | refine AF.q 0 (SW.yes (SW.q (OQ.neq rfl rfl) rfl) rfl rfl (by with_reducible rfl)) ?_) | ((with_reducible refine AF.k_indexAddr ?_); first | refine AF.q 0 (SW.q (OQ.idxPtr (ty := 45) (n := 1) (l := 2) (g := false) rfl rfl kr (by first | omega | decide) (by first | omega | decide)) rfl) ?_) | ((with_reducible refine AF.k_pick ?_); first | (refine AF.q 0 (SW.q (OQ.pickT rfl (by with_reducible rfl) wl) rfl) ?_) | (refine AF.q 0 (SW.q (OQ.pickF rfl (by with_reducible rfl) wl) rfl) ?_)) | ((with_reducible refine AF.k_build ?_); first | refine AF.q 0 (SW.q (OQ.buildA (ty := 45) (zs := [.int .i64 0, .int .i64 0]) (n := 1) (k := 2) (g := false) kr rfl kr rfl rfl rfl) rfl) ?_) | refine AF.q 2 (SW.q (OQ.nilCheck rfl) rfl) ?_ | refine AF.q 2 (SW.q (by exact OQ.sliceA (ty := 79) (n := 3) (z := 1) (g := false) (l := 0) (h := 3) rfl kr rfl rfl rfl rfl (by decide) (by decide) (by decide)) rfl) ?_); (conv => (arg 9; try tactic => exact nrmF)); (conv => (arg 11; try simp only [List.nil_append, List.cons_append])))
      | ((first | ((with_reducible refine AF.k_call ?_); first | refine AF.al rfl (SW.w (by first | exact OW.appendNil (e := 45) (z := 2) (zs := [.int .i64 0, .int .i64 0]) (by' := 16) rfl rfl kr kr kr rfl kr (by decide) rfl (by decide) (by decide) | exact OW.appendL (e := 45) (z := 2) (zs := [.int .i64 0, .int .i64 0]) (by' := 16) rfl rfl kr kr kr rfl kr (by decide) rfl rfl rfl (by decide) (by exact flatP_len _) rfl rfl (by omega) (by omega)) rfl) rfl ?_ | refine AF.n1 2 (SW.yes (SW.acall (g := 31) rfl kr rfl ((by exact hhl (h2l (by omega)) _ 0 _ rfl rfl rfl)) rfl) rfl rfl (by with_reducible rfl)) rfl ?_ | refine AF.n1 2 (SW.w (by first | exact OW.appendNil (e := 45) (z := 2) (zs := [.int .i64 0, .int .i64 0]) (by' := 16) rfl rfl kr kr kr rfl kr (by decide) rfl (by decide) (by decide) | exact OW.appendL (e := 45) (z := 2) (zs := [.int .i64 0, .int .i64 0]) (by' := 16) rfl rfl kr kr kr rfl kr (by decide) rfl rfl rfl (by decide) (by exact flatP_len _) rfl rfl (by omega) (by omega)) rfl) rfl ?_) | ((with_reducible refine AF.k_buildSlice ?_); first | refine AF.n1 0 (SW.w (OW.buildSl (ty := 42) (zs := [.int .i64 0, .int .i64 0]) (n := 2) (g := true) kr kr rfl rfl rfl (by decide) (by decide) rfl rfl) rfl) rfl ?_)); (conv => (arg 9; try tactic => exact nrmF)); (conv => (arg 11; try simp only [List.nil_append, List.cons_append])); (conv => (arg 10; try tactic => exact nrmF)))
      | (refine AF.bs rfl (fun hc => ?_) (fun hc => ?_) <;> (fail_if_success (with_reducible exact lit_no hc)) <;> (try replace hc := nc hc) <;> first | (exfalso; first | contradiction | (first | omega | (simp at hc; done) | (exact absurd (hall k (by omega)) (by assumption)) | (exact absurd (opB_yes hmm (by assumption) (by assumption)) (by rw [hop]; decide))); done) | skip)
      | (refine AF.gs1 rfl rfl (fun hc => ?_) (fun hc => ?_) <;> (fail_if_success (with_reducible exact lit_no hc)) <;> (try replace hc := nc hc) <;> first | (exfalso; first | contradiction | (first | omega | (simp at hc; done) | (exact absurd (hall k (by omega)) (by assumption)) | (exact absurd (opB_yes hmm (by assumption) (by assumption)) (by rw [hop]; decide))); done) | skip)
      | (refine AF.gs0 rfl rfl (fun hc => ?_) (fun hc => ?_) <;> (fail_if_success (with_reducible exact lit_no hc)) <;> (try replace hc := nc hc) <;> first | (exfalso; first | contradiction | (first | omega | (simp at hc; done) | (exact absurd (hall k (by omega)) (by assumption)) | (exact absurd (opB_yes hmm (by assumption) (by assumption)) (by rw [hop]; decide))); done) | skip)
      | (refine AF.nil ?_ kr; (conv => (arg 4; simp only [List.drop_succ_cons, List.drop_zero, List.drop_nil]))))
    | with_reducible refine AR.s ?_
    | ((with_reducible refine AR.out ?_); first | omega | (simp at hc; done) | (exact absurd (hall k (by omega)) (by assumption)) | (exact absurd (opB_yes hmm (by assumption) (by assumption)) (by rw [hop]; decide)); done)
    | ((with_reducible refine ex_on ?_); first | ((refine ⟨ts.length - (k + 1), [junk, .pointer (some ⟨2, 0, none⟩), junk, junk, junk, junk, junk, .pointer (some ⟨4, 0, none⟩), .int .i64 (arT l ts (k + 1)), .map (some 5), junk, junk, junk, junk, junk, junk, junk, junk, junk, junk, junk, junk, junk, junk, junk, junk, junk, junk, junk, junk, junk, junk, junk, junk, junk, junk, .slice (some ⟨1, 0, none⟩) ts.length c2, .int .i64 (ts.length), .int .i64 (((k + 1 : Nat) : Int)), junk, junk, junk, junk, junk, junk, junk, junk, junk, junk, junk, junk, junk, junk, junk, junk, junk, junk, junk, junk, junk, junk, junk, junk, junk, junk, junk, junk, junk, junk, junk, junk, junk, junk, junk, junk, junk, junk, junk, junk, junk, junk, junk, junk, junk, junk, junk, junk, junk, junk, junk, junk, junk, junk, junk, junk, junk, junk, junk, junk, junk, junk, junk, junk, junk, junk, junk, junk, junk, junk, junk, junk, junk, junk, junk, junk, junk, junk, junk, junk, junk, junk, junk, junk, junk, junk, junk, junk, junk, junk, junk, junk, junk, junk, junk, junk, junk, junk, junk, junk, junk, junk, junk, junk, junk, junk, junk, junk, junk, junk, junk, junk, junk, junk, junk, junk, junk, junk, junk, junk, junk, junk, junk, junk, junk, junk], [some ⟨flatP l, false, z⟩, some ⟨flatT ts, false, z1⟩, some ⟨[.slice (some ⟨0, 0, none⟩) l.length c, .slice (some ⟨1, 0, none⟩) ts.length c2], true, 0⟩, some (mpX (lf ts (k + 1)) true 0), some ⟨[.slice (some ⟨0, 0, none⟩) l.length c, .slice (some ⟨1, 0, none⟩) ts.length c2, .slice none 0 0, .map (some 3)], true, 0⟩, some (mpU (us ts (k + 1)))], by omega, ?_, k + 1, rfl, by omega, fun j h => (by rcases Nat.lt_or_eq_of_le (Nat.le_of_lt_succ h) with h | rfl; (exact hj j h); assumption), rfl, rfl⟩; exact Wk.keep 6 [] (by rw [hE]; exact (by decide : 2 ≤ 6)) rfl rfl (by repeat (first | exact RenT.nil | refine RenT.junk ?_ | refine RenT.val (by first | rfl | with_reducible assumption | (simp only [rn3, rn2, rn1, kσ]; done)) (by first | rfl | assumption | (simp [ok3, ok2, ok1]; done)) ?_)) ⟨⟨_, rfl, rfl, rfl, .inl ⟨rfl, flatP_scal l⟩⟩, ⟨_, rfl, rfl, rfl, .inl ⟨rfl, flatT_scal ts⟩⟩, ⟨_, rfl, rfl, rfl, .inr ⟨rfl, rfl⟩⟩, ⟨_, rfl, rfl, shp_map hs3.c, .inl ⟨rfl, rfl⟩⟩, ⟨_, rfl, rfl, rfl, .inr ⟨rfl, rfl⟩⟩, ⟨_, rfl, rfl, rfl, .inl ⟨rfl, rfl⟩⟩, trivial⟩)) | ((have hG2 : ∀ x ∈ seen ++ [j], x < (lfA ts).length ∧ (∀ (kk : IE) (v : Value), (lfV (lfA ts))[x]? = some (kk, v) → lk (lfA ts) (kk.2, kk.1) = -1 → bdB l kk.1.toNat kk.2.toNat = true) := (fun x hx => by rcases List.mem_append.1 hx with h | h; (exact hG x h); (rw [List.mem_singleton] at h; subst h; exact ⟨hjl, fun kk' v' h' h1 => by rw [hj] at h'; cases h'; first | exact absurd h1 (by assumption) | assumption | simp_all⟩)); have hsl := seen_le (seen_snoc hnd hns) (fun x hx => (hG2 x hx).1); rw [List.length_append] at hsl; refine ⟨(lfA ts).length - (seen ++ [j]).length, [junk, .pointer (some ⟨2, 0, none⟩), junk, junk, junk, junk, junk, .pointer (some ⟨4, 0, none⟩), .int .i64 (arT l ts ts.length), .map (some 5), junk, junk, junk, junk, junk, junk, junk, junk, junk, junk, junk, junk, junk, junk, junk, junk, junk, junk, junk, junk, junk, junk, junk, junk, junk, junk, junk, junk, junk, junk, junk, junk, junk, junk, junk, junk, junk, junk, junk, junk, junk, junk, junk, junk, junk, junk, junk, junk, junk, junk, junk, junk, junk, junk, junk, junk, junk, junk, junk, junk, junk, junk, junk, junk, junk, junk, .pointer (some ⟨6, 0, none⟩), junk, junk, junk, junk, junk, junk, junk, junk, junk, junk, junk, junk, junk, junk, junk, junk, junk, junk, junk, junk, junk, junk, junk, junk, junk, junk, junk, junk, junk, junk, junk, junk, junk, junk, junk, junk, junk, junk, junk, junk, junk, junk, junk, junk, junk, junk, junk, junk, junk, junk, junk, junk, junk, junk, junk, junk, junk, junk, junk, junk, junk, junk, junk, junk, junk, junk, junk, junk, junk, junk, junk, junk, junk, junk, junk, junk, junk, junk, junk, junk, junk, junk, junk, junk, junk, junk, junk, junk], [some ⟨flatP l, false, z⟩, some ⟨flatT ts, false, z1⟩, some ⟨[.slice (some ⟨0, 0, none⟩) l.length c, .slice (some ⟨1, 0, none⟩) ts.length c2], true, 0⟩, some (mpX (lf ts ts.length) true 0), some ⟨[.slice (some ⟨0, 0, none⟩) l.length c, .slice (some ⟨1, 0, none⟩) ts.length c2, .slice none 0 0, .map (some 3)], true, 0⟩, some (mpU (us ts ts.length)), some (itL 3 (lfV (lfA ts)).length (seen ++ [j]))], by (rw [List.length_append]; simp only [List.length_cons, List.length_nil] at hsl ⊢; omega), ?_, seen ++ [j], rfl, seen_snoc hnd hns, hG2, rfl, rfl⟩; exact Wk.keep 7 [] (by rw [hE]; exact (by decide : 2 ≤ 7)) rfl rfl (by repeat (first | exact RenT.nil | refine RenT.junk ?_ | refine RenT.val (by first | rfl | with_reducible assumption | (simp only [rn3, rn2, rn1, kσ]; done)) (by first | rfl | assumption | (simp [ok3, ok2, ok1]; done)) ?_)) ⟨⟨_, rfl, rfl, rfl, .inl ⟨rfl, flatP_scal l⟩⟩, ⟨_, rfl, rfl, rfl, .inl ⟨rfl, flatT_scal ts⟩⟩, ⟨_, rfl, rfl, rfl, .inr ⟨rfl, rfl⟩⟩, ⟨_, rfl, rfl, rfl, .inl ⟨rfl, rfl⟩⟩, ⟨_, rfl, rfl, rfl, .inr ⟨rfl, rfl⟩⟩, ⟨_, rfl, rfl, rfl, .inl ⟨rfl, rfl⟩⟩, ⟨_, rfl, rfl, rfl, .inl ⟨rfl, rfl⟩⟩, trivial⟩)) | (first | (have hs2 : ∀ x ∈ seen ++ [j], x < (lfA ts).length := (fun x hx => by rcases List.mem_append.1 hx with h | h; (exact hsn x h); (rw [List.mem_singleton] at h; subst h; exact hjl)); have hsl2 := seen_le (seen_snoc hnd hns) hs2; rw [List.length_append] at hsl2; simp only [List.length_cons, List.length_nil] at hsl2; have hes := eqS_snoc ts seen j; rw [hpk] at hes; have hp0 : pkE (lfA ts) kk = [] := if_neg (by omega); rw [hp0] at hes; have hxx := he0; refine ⟨(lfA ts).length - (seen ++ [j]).length, [junk, junk, junk, junk, junk, junk, junk, .pointer (some ⟨4, 0, none⟩), junk, junk, junk, junk, junk, junk, junk, junk, junk, junk, junk, junk, junk, junk, junk, junk, junk, junk, junk, junk, junk, junk, junk, junk, junk, junk, junk, junk, junk, junk, junk, junk, junk, junk, junk, junk, junk, junk, junk, junk, junk, junk, junk, junk, junk, junk, junk, junk, junk, junk, junk, junk, junk, junk, junk, junk, junk, junk, junk, junk, junk, junk, junk, junk, junk, junk, junk, junk, junk, junk, junk, junk, junk, junk, junk, junk, junk, junk, junk, junk, junk, junk, junk, junk, junk, junk, junk, junk, junk, junk, junk, junk, junk, junk, junk, junk, junk, junk, junk, junk, junk, junk, junk, junk, junk, junk, junk, junk, junk, junk, junk, junk, .pointer (some ⟨5, 0, none⟩), junk, junk, junk, junk, junk, junk, junk, junk, junk, junk, junk, junk, junk, junk, junk, junk, junk, junk, junk, junk, junk, junk, junk, junk, junk, junk, junk, junk, junk, junk, junk, junk, junk, junk, junk, junk, junk, junk, junk, junk, junk, junk, junk, junk], [some ⟨flatP l, false, z⟩, some ⟨flatT ts, false, z1⟩, some ⟨[.slice (some ⟨0, 0, none⟩) l.length c, .slice (some ⟨1, 0, none⟩) ts.length c2], true, 0⟩, some (mpX (lf ts ts.length) true 0), some ⟨[.slice (some ⟨0, 0, none⟩) l.length c, .slice (some ⟨1, 0, none⟩) ts.length c2, .slice none 0 0, .map (some 3)], true, 0⟩, some (itL 3 (lfV (lfA ts)).length (seen ++ [j]))], (by rw [List.length_append]; simp only [List.length_cons, List.length_nil]; omega), ?_, seen ++ [j], rfl, seen_snoc hnd hns, hs2, .inl ⟨by rw [hes, he0]; rfl, rfl, rfl⟩⟩; exact Wk.keep 6 [] (by rw [hE]; exact Nat.le_of_ble_eq_true rfl) rfl rfl (by repeat (first | exact RenT.nil | refine RenT.junk ?_ | refine RenT.val (by first | rfl | with_reducible assumption | (simp only [rn3, rn2, rn1, kσ]; done)) (by first | rfl | assumption | (simp [ok3, ok2, ok1]; done)) ?_)) ⟨⟨_, rfl, rfl, rfl, .inl ⟨rfl, flatP_scal l⟩⟩, ⟨_, rfl, rfl, rfl, .inl ⟨rfl, flatT_scal ts⟩⟩, ⟨_, rfl, rfl, rfl, .inr ⟨rfl, rfl⟩⟩, ⟨_, rfl, rfl, rfl, .inl ⟨rfl, rfl⟩⟩, ⟨_, rfl, rfl, rfl, .inr ⟨rfl, rfl⟩⟩, ⟨_, rfl, rfl, rfl, .inl ⟨rfl, rfl⟩⟩, trivial⟩) | (have hs2 : ∀ x ∈ seen ++ [j], x < (lfA ts).length := (fun x hx => by rcases List.mem_append.1 hx with h | h; (exact hsn x h); (rw [List.mem_singleton] at h; subst h; exact hjl)); have hsl2 := seen_le (seen_snoc hnd hns) hs2; rw [List.length_append] at hsl2; simp only [List.length_cons, List.length_nil] at hsl2; have hes := eqS_snoc ts seen j; rw [hpk] at hes; have hp0 : pkE (lfA ts) kk = [⟨if kk.2 < kk.1 then kk.2 else kk.1, if kk.2 > kk.1 then kk.2 else kk.1⟩] := if_pos (by omega); rw [hp0] at hes; have hxx := he0; refine ⟨(lfA ts).length - (seen ++ [j]).length, [junk, junk, junk, junk, junk, junk, junk, .pointer (some ⟨4, 0, none⟩), junk, junk, junk, junk, junk, junk, junk, junk, junk, junk, junk, junk, junk, junk, junk, junk, junk, junk, junk, junk, junk, junk, junk, junk, junk, junk, junk, junk, junk, junk, junk, junk, junk, junk, junk, junk, junk, junk, junk, junk, junk, junk, junk, junk, junk, junk, junk, junk, junk, junk, junk, junk, junk, junk, junk, junk, junk, junk, junk, junk, junk, junk, junk, junk, junk, junk, junk, junk, junk, junk, junk, junk, junk, junk, junk, junk, junk, junk, junk, junk, junk, junk, junk, junk, junk, junk, junk, junk, junk, junk, junk, junk, junk, junk, junk, junk, junk, junk, junk, junk, junk, junk, junk, junk, junk, junk, junk, junk, junk, junk, junk, junk, .pointer (some ⟨5, 0, none⟩), junk, junk, junk, junk, junk, junk, junk, junk, junk, junk, junk, junk, junk, junk, junk, junk, junk, junk, junk, junk, junk, junk, junk, junk, junk, junk, junk, junk, junk, junk, junk, junk, junk, junk, junk, junk, junk, junk, junk, junk, junk, junk, junk, junk], [some ⟨flatP l, false, z⟩, some ⟨flatT ts, false, z1⟩, some ⟨[.slice (some ⟨0, 0, none⟩) l.length c, .slice (some ⟨1, 0, none⟩) ts.length c2], true, 0⟩, some (mpX (lf ts ts.length) true 0), some ⟨[.slice (some ⟨0, 0, none⟩) l.length c, .slice (some ⟨1, 0, none⟩) ts.length c2, .slice (some ⟨6, 0, none⟩) (1) INF, .map (some 3)], true, 0⟩, some (itL 3 (lfV (lfA ts)).length (seen ++ [j])), some ⟨[.int .i64 (if kk.2 < kk.1 then kk.2 else kk.1), .int .i64 (if kk.2 > kk.1 then kk.2 else kk.1)], true, 2⟩], (by rw [List.length_append]; simp only [List.length_cons, List.length_nil]; omega), ?_, seen ++ [j], rfl, seen_snoc hnd hns, hs2, .inr ⟨by rw [hes, he0]; simp, rfl, by rw [hes, he0]; rfl⟩⟩; exact Wk.keep 6 [8] (by rw [hE]; exact Nat.le_of_ble_eq_true rfl) rfl rfl (by repeat (first | exact RenT.nil | refine RenT.junk ?_ | refine RenT.val (by first | rfl | with_reducible assumption | (simp only [rn3, rn2, rn1, kσ]; done)) (by first | rfl | assumption | (simp [ok3, ok2, ok1]; done)) ?_)) ⟨⟨_, rfl, rfl, rfl, .inl ⟨rfl, flatP_scal l⟩⟩, ⟨_, rfl, rfl, rfl, .inl ⟨rfl, flatT_scal ts⟩⟩, ⟨_, rfl, rfl, rfl, .inr ⟨rfl, rfl⟩⟩, ⟨_, rfl, rfl, rfl, .inl ⟨rfl, rfl⟩⟩, ⟨_, rfl, rfl, rfl, .inr ⟨rfl, rfl⟩⟩, ⟨_, rfl, rfl, rfl, .inl ⟨rfl, rfl⟩⟩, ⟨_, rfl, rfl, rfl, .inl ⟨rfl, rfl⟩⟩, trivial⟩) | (have hs2 : ∀ x ∈ seen ++ [j], x < (lfA ts).length := (fun x hx => by rcases List.mem_append.1 hx with h | h; (exact hsn x h); (rw [List.mem_singleton] at h; subst h; exact hjl)); have hsl2 := seen_le (seen_snoc hnd hns) hs2; rw [List.length_append] at hsl2; simp only [List.length_cons, List.length_nil] at hsl2; have hes := eqS_snoc ts seen j; rw [hpk] at hes; have hp0 : pkE (lfA ts) kk = [] := if_neg (by omega); rw [hp0] at hes; have hxx := he1; refine ⟨(lfA ts).length - (seen ++ [j]).length, [junk, junk, junk, junk, junk, junk, junk, .pointer (some ⟨4, 0, none⟩), junk, junk, junk, junk, junk, junk, junk, junk, junk, junk, junk, junk, junk, junk, junk, junk, junk, junk, junk, junk, junk, junk, junk, junk, junk, junk, junk, junk, junk, junk, junk, junk, junk, junk, junk, junk, junk, junk, junk, junk, junk, junk, junk, junk, junk, junk, junk, junk, junk, junk, junk, junk, junk, junk, junk, junk, junk, junk, junk, junk, junk, junk, junk, junk, junk, junk, junk, junk, junk, junk, junk, junk, junk, junk, junk, junk, junk, junk, junk, junk, junk, junk, junk, junk, junk, junk, junk, junk, junk, junk, junk, junk, junk, junk, junk, junk, junk, junk, junk, junk, junk, junk, junk, junk, junk, junk, junk, junk, junk, junk, junk, junk, .pointer (some ⟨5, 0, none⟩), junk, junk, junk, junk, junk, junk, junk, junk, junk, junk, junk, junk, junk, junk, junk, junk, junk, junk, junk, junk, junk, junk, junk, junk, junk, junk, junk, junk, junk, junk, junk, junk, junk, junk, junk, junk, junk, junk, junk, junk, junk, junk, junk, junk], [some ⟨flatP l, false, z⟩, some ⟨flatT ts, false, z1⟩, some ⟨[.slice (some ⟨0, 0, none⟩) l.length c, .slice (some ⟨1, 0, none⟩) ts.length c2], true, 0⟩, some (mpX (lf ts ts.length) true 0), some ⟨[.slice (some ⟨0, 0, none⟩) l.length c, .slice (some ⟨1, 0, none⟩) ts.length c2, .slice (some ⟨6, 0, none⟩) ((eqS ts seen).length) INF, .map (some 3)], true, 0⟩, some (itL 3 (lfV (lfA ts)).length (seen ++ [j])), some ⟨flatP (eqS ts seen), true, 2⟩], (by rw [List.length_append]; simp only [List.length_cons, List.length_nil]; omega), ?_, seen ++ [j], rfl, seen_snoc hnd hns, hs2, .inr ⟨by rw [hes, List.append_nil]; exact he1, rfl, by rw [hes, List.append_nil]⟩⟩; exact Wk.keep 7 [] (by rw [hE]; exact Nat.le_of_ble_eq_true rfl) rfl rfl (by repeat (first | exact RenT.nil | refine RenT.junk ?_ | refine RenT.val (by first | rfl | with_reducible assumption | (simp only [rn3, rn2, rn1, kσ]; done)) (by first | rfl | assumption | (simp [ok3, ok2, ok1]; done)) ?_)) ⟨⟨_, rfl, rfl, rfl, .inl ⟨rfl, flatP_scal l⟩⟩, ⟨_, rfl, rfl, rfl, .inl ⟨rfl, flatT_scal ts⟩⟩, ⟨_, rfl, rfl, rfl, .inr ⟨rfl, rfl⟩⟩, ⟨_, rfl, rfl, rfl, .inl ⟨rfl, rfl⟩⟩, ⟨_, rfl, rfl, rfl, .inr ⟨rfl, rfl⟩⟩, ⟨_, rfl, rfl, rfl, .inl ⟨rfl, rfl⟩⟩, ⟨_, rfl, rfl, rfl, .inl ⟨rfl, flatP_scal _⟩⟩, trivial⟩) | (have hs2 : ∀ x ∈ seen ++ [j], x < (lfA ts).length := (fun x hx => by rcases List.mem_append.1 hx with h | h; (exact hsn x h); (rw [List.mem_singleton] at h; subst h; exact hjl)); have hsl2 := seen_le (seen_snoc hnd hns) hs2; rw [List.length_append] at hsl2; simp only [List.length_cons, List.length_nil] at hsl2; have hes := eqS_snoc ts seen j; rw [hpk] at hes; have hp0 : pkE (lfA ts) kk = [⟨if kk.2 < kk.1 then kk.2 else kk.1, if kk.2 > kk.1 then kk.2 else kk.1⟩] := if_pos (by omega); rw [hp0] at hes; have hxx := he1; refine ⟨(lfA ts).length - (seen ++ [j]).length, [junk, junk, junk, junk, junk, junk, junk, .pointer (some ⟨4, 0, none⟩), junk, junk, junk, junk, junk, junk, junk, junk, junk, junk, junk, junk, junk, junk, junk, junk, junk, junk, junk, junk, junk, junk, junk, junk, junk, junk, junk, junk, junk, junk, junk, junk, junk, junk, junk, junk, junk, junk, junk, junk, junk, junk, junk, junk, junk, junk, junk, junk, junk, junk, junk, junk, junk, junk, junk, junk, junk, junk, junk, junk, junk, junk, junk, junk, junk, junk, junk, junk, junk, junk, junk, junk, junk, junk, junk, junk, junk, junk, junk, junk, junk, junk, junk, junk, junk, junk, junk, junk, junk, junk, junk, junk, junk, junk, junk, junk, junk, junk, junk, junk, junk, junk, junk, junk, junk, junk, junk, junk, junk, junk, junk, junk, .pointer (some ⟨5, 0, none⟩), junk, junk, junk, junk, junk, junk, junk, junk, junk, junk, junk, junk, junk, junk, junk, junk, junk, junk, junk, junk, junk, junk, junk, junk, junk, junk, junk, junk, junk, junk, junk, junk, junk, junk, junk, junk, junk, junk, junk, junk, junk, junk, junk, junk], [some ⟨flatP l, false, z⟩, some ⟨flatT ts, false, z1⟩, some ⟨[.slice (some ⟨0, 0, none⟩) l.length c, .slice (some ⟨1, 0, none⟩) ts.length c2], true, 0⟩, some (mpX (lf ts ts.length) true 0), some ⟨[.slice (some ⟨0, 0, none⟩) l.length c, .slice (some ⟨1, 0, none⟩) ts.length c2, .slice (some ⟨6, 0, none⟩) ((eqS ts seen).length + 1) INF, .map (some 3)], true, 0⟩, some (itL 3 (lfV (lfA ts)).length (seen ++ [j])), some ⟨flatP (eqS ts seen) ++ [.int .i64 (if kk.2 < kk.1 then kk.2 else kk.1), .int .i64 (if kk.2 > kk.1 then kk.2 else kk.1)], true, 2⟩], (by rw [List.length_append]; simp only [List.length_cons, List.length_nil]; omega), ?_, seen ++ [j], rfl, seen_snoc hnd hns, hs2, .inr ⟨by rw [hes]; simp, rfl, by rw [hes, flatP_snoc, List.length_append]; rfl⟩⟩; exact Wk.keep 6 [9] (by rw [hE]; exact Nat.le_of_ble_eq_true rfl) rfl rfl (by repeat (first | exact RenT.nil | refine RenT.junk ?_ | refine RenT.val (by first | rfl | with_reducible assumption | (simp only [rn3, rn2, rn1, kσ]; done)) (by first | rfl | assumption | (simp [ok3, ok2, ok1]; done)) ?_)) ⟨⟨_, rfl, rfl, rfl, .inl ⟨rfl, flatP_scal l⟩⟩, ⟨_, rfl, rfl, rfl, .inl ⟨rfl, flatT_scal ts⟩⟩, ⟨_, rfl, rfl, rfl, .inr ⟨rfl, rfl⟩⟩, ⟨_, rfl, rfl, rfl, .inl ⟨rfl, rfl⟩⟩, ⟨_, rfl, rfl, rfl, .inr ⟨rfl, rfl⟩⟩, ⟨_, rfl, rfl, rfl, .inl ⟨rfl, rfl⟩⟩, ⟨_, rfl, rfl, rfl, .inl ⟨rfl, by rw [List.all_append, flatP_scal]; rfl⟩⟩, trivial⟩)))
    | ((with_reducible refine FinA.on ?_); (have hq := eqS_all hnd hsn (fun j hj => hdone j (by rw [hVl]; exact hj)); have hq2 : (edL ts).length = (eqS ts seen).length := (by rw [← hq, sortE_len]); rw [hq2, ← hq]; refine FinA.keep 2 [4, 3, 6] (.inl rfl) (.tmp wl (.tmp wl (.tmp wl .nil))) ?_ rfl (Nat.le_of_eq hE) rfl rfl ⟨⟨_, rfl, rfl, rfl, .inl ⟨rfl, flatP_scal l⟩⟩, ⟨_, rfl, rfl, rfl, .inl ⟨rfl, flatT_scal ts⟩⟩, ⟨_, rfl, rfl, rfl, .inr ⟨rfl, rfl⟩⟩, ⟨_, rfl, rfl, rfl, .inl ⟨rfl, rfl⟩⟩, ⟨_, rfl, rfl, rfl, .inl ⟨rfl, flatP_scal _⟩⟩, trivial⟩; rfl)))
end Go.Proofs.Ytmohcmghbfhdlaa
end
end
/- Chapter 6: open, for all nets, in a greater memory. -/
section
set_option linter.unusedSimpArgs false
set_option linter.unusedVariables false
section
namespace Go.Me
open Go.Ab Go.Proofs.Ytmohcmghbfhdlaa
theorem fst_cases (f : Nat → Int) (n : Nat) : (∀ j, j < n → f j = 0) ∨ ∃ i, i < n ∧ (∀ j, j < i → f j = 0) ∧ f i ≠ 0 := by
  induction n with
  | zero => exact .inl fun j h => absurd h (by omega)
  | succ n ih =>
    rcases ih with h | ⟨i, h1, h2, h3⟩
    · by_cases h4 : f n = 0
      · refine .inl fun j hj => ?_
        rcases Nat.lt_or_eq_of_le (Nat.le_of_lt_succ hj) with h5 | rfl
        · exact h j h5
        · exact h4
      · exact .inr ⟨n, by omega, h, h4⟩
    · exact .inr ⟨i, by omega, h2, h3⟩
structure NetR (l : List Pn) (ts : List T3) : Prop where
  cp : cpB l = 0
  le : ts.length ≤ 80
  all : ∀ j, j < ts.length → trK l ts j = 0
  op : opB l ts = false
  gp : gpB l ts = false
theorem netE_0 {l : List Pn} {ts : List T3} : netE l ts = 0 ↔ NetR l ts := by
  constructor
  · intro h
    unfold netE at h
    by_cases h1 : cpB l ≠ 0
    · rw [if_pos h1] at h; exact absurd h h1
    · rw [if_neg h1] at h
      by_cases h2 : 80 < ts.length
      · rw [if_pos h2] at h; cases h
      · rw [if_neg h2] at h
        rcases fst_cases (trK l ts) ts.length with h3 | ⟨i, h3, h4, h5⟩
        · rw [fstN_no _ h3, if_neg (fun h => h rfl)] at h
          cases h6 : opB l ts with
          | true => rw [h6, if_pos rfl] at h; cases h
          | false =>
            rw [h6, if_neg (by decide)] at h
            cases h7 : gpB l ts with
            | true => rw [h7, if_pos rfl] at h; cases h
            | false => exact ⟨Classical.not_not.1 h1, by omega, h3, h6, h7⟩
        · rw [fstN_yes h4 h5 _ h3, if_pos (by omega)] at h
          exact absurd h h5
  · rintro ⟨h1, h2, h3, h4, h5⟩
    unfold netE
    rw [if_neg (fun h => h h1), if_neg (by omega), fstN_no _ h3, if_neg (fun h => h rfl), h4, if_neg (by decide), h5, if_neg (by decide)]
end Go.Me
namespace Go.Proofs.Ytmohcmghbfhdlaa
open Go Go.RowKit Go.Ab Go.Me
set_option maxRecDepth 100000
set_option maxHeartbeats 4000000
attribute [local irreducible] OQ OW AL AW AD AF SW
structure ArgN (m : Mem) (bP bT : Nat) (l : List Pn) (ts : List T3) : Prop where
  P : ∃ A : Blk, m.at bP = some A ∧ A.cells = flatP l ∧ (A.esz = 0 ∨ A.esz = 2) ∧ A.obj = Ob.plain
  T : ∃ B : Blk, m.at bT = some B ∧ B.cells = flatT ts ∧ B.obj = Ob.plain
  ne : bP ≠ bT
abbrev netM (b bP bT n c k c2 : Nat) (ts : List T3) : Mem := [some ⟨[.slice (some ⟨bP, 0, none⟩) n c, .slice (some ⟨bT, 0, none⟩) k c2, .slice (some ⟨b + 2, 0, none⟩) (edL ts).length INF, .map (some (b + 1))], true, 0⟩, some (mpX (lfA ts) true 0), some ⟨flatP (edL ts), true, 2⟩]
theorem open_y {m : Mem} {bP bT n k c c2 : Nat} (l : List Pn) (ts : List T3) (hA : ArgN m bP bT l ts) (hn : l.length = n) (hk : ts.length = k) (hR : NetR l ts) :
    ACalls Try.prog 35 [.agg #[.slice (some ⟨bP, 0, none⟩) n c, .slice (some ⟨bT, 0, none⟩) k c2]] m (.tuple #[.pointer (some ⟨m.length, 0, none⟩), .int .i64 0, .int .i64 0]) (m ++ netM m.length bP bT n c k c2 ts) := by
  subst hn hk
  obtain ⟨⟨A, h1, h2, h3, h4⟩, ⟨B, h5, h6, h7⟩, hne⟩ := hA
  obtain ⟨g1, g2, g3, g4, g5⟩ := hR
  have h := ACalls.viaS (m := m) (args := [.agg #[.slice (some ⟨bP, 0, none⟩) l.length c, .slice (some ⟨bT, 0, none⟩) ts.length c2]]) (v := .tuple #[.pointer (some ⟨m.length, 0, none⟩), .int .i64 0, .int .i64 0]) [bP, bT] [] (netM m.length bP bT l.length c ts.length c2 ts) (open_y0 l ts c c2 A.esz B.esz h3 g1 g2 g3 g4 g5) ⟨⟨_, h1, by unfold Blk.shp Blk.shpR; rw [h4]; rfl, (fun h => nomatch h), .inl ⟨h2, flatP_scal _⟩⟩, ⟨_, h5, by unfold Blk.shp Blk.shpR; rw [h7]; rfl, (fun h => nomatch h), .inl ⟨h6, flatT_scal _⟩⟩, trivial⟩ (by simpa using hne) ?_ rfl rfl rfl rfl
  · exact h
  · exact ⟨⟨_, rfl, rfl⟩, ⟨_, rfl, rfl⟩, ⟨rfl, rfl, rfl, .inr ⟨rfl, rfl⟩⟩, ⟨rfl, rfl, rfl, .inl ⟨rfl, rfl⟩⟩, ⟨rfl, rfl, rfl, .inl ⟨rfl, flatP_scal _⟩⟩, trivial⟩
end Go.Proofs.Ytmohcmghbfhdlaa
end
end
/- Chapter 6: CheckNet, Edges, Sides (the program's). -/
section
set_option linter.unusedSimpArgs false
set_option linter.unusedVariables false
section
namespace Go.Me
open Go.Ab Go.Proofs.Ytmohcmghbfhdlaa
def sdP (ts : List T3) (e : Pn) : Pn := ⟨lk (lfA ts) (e.x, e.y), lk (lfA ts) (e.y, e.x)⟩
def sdL (ts : List T3) : List Pn := (edL ts).map (sdP ts)
theorem sdL_len (ts : List T3) : (sdL ts).length = (edL ts).length := List.length_map _
theorem sdL_pt {ts : List T3} {k : Nat} (h : k < (edL ts).length) : pt (sdL ts) k = sdP ts (pt (edL ts) k) := by
  unfold pt sdL
  rw [List.getD_eq_getElem?_getD, List.getD_eq_getElem?_getD, List.getElem?_map, List.getElem?_eq_getElem h]
  rfl
theorem edL_rng {l : List Pn} {ts : List T3} (h : LfOk l.length (lfA ts)) : ∀ e ∈ edL ts, (0 ≤ e.x ∧ e.x < l.length) ∧ (0 ≤ e.y ∧ e.y < l.length) := fun e he => by
  have h1 := (sortE_perm _).mem_iff.1 he
  unfold eqS at h1
  obtain ⟨j, _, h2⟩ := List.mem_flatMap.1 h1
  unfold pk at h2
  cases hq : (lfA ts)[j]? with
  | none => rw [hq] at h2; simp at h2
  | some p =>
    rw [hq] at h2
    have hr := h.rng p (List.mem_of_getElem? hq)
    simp only at h2
    unfold pkE at h2
    split at h2
    · rw [List.mem_singleton] at h2
      subst h2
      simp only
      split <;> split <;> omega
    · simp at h2
theorem edL_at {l : List Pn} {ts : List T3} (h : LfOk l.length (lfA ts)) (k : Nat) (hk : k < (edL ts).length) : (0 ≤ (pt (edL ts) k).x ∧ (pt (edL ts) k).x < l.length) ∧ (0 ≤ (pt (edL ts) k).y ∧ (pt (edL ts) k).y < l.length) := edL_rng h _ (pt_mem hk)
theorem edL_le (ts : List T3) : (edL ts).length ≤ 3 * ts.length := by
  unfold edL
  rw [sortE_len]
  have := eqS_le (ts := ts) (seen := List.range (lfA ts).length)
  rw [List.length_range] at this
  have h2 : (lfA ts).length = 3 * ts.length := lfA_len ts.length
  omega
theorem NetR.ok {l : List Pn} {ts : List T3} (h : NetR l ts) : LfOk l.length (lfA ts) := lf_ok ts.length h.all
end Go.Me
namespace Go.Proofs.Ytmohcmghbfhdlaa
open Go Go.RowKit Go.Ab Go.Me
set_option maxRecDepth 100000
set_option maxHeartbeats 4000000
attribute [local irreducible] OQ OW AL AW AD AF SW
structure OpenN (m : Mem) (bN bL bE bP bT : Nat) (c c2 : Nat) (l : List Pn) (ts : List T3) : Prop where
  P : ∃ A : Blk, m.at bP = some A ∧ A.cells = flatP l ∧ A.obj = Ob.plain
  T : ∃ B : Blk, m.at bT = some B ∧ B.cells = flatT ts ∧ B.obj = Ob.plain
  N : ∃ N : Blk, m.at bN = some N ∧ N.cells = [.slice (some ⟨bP, 0, none⟩) l.length c, .slice (some ⟨bT, 0, none⟩) ts.length c2, .slice (some ⟨bE, 0, none⟩) (edL ts).length INF, .map (some bL)] ∧ N.obj = Ob.plain
  L : ∃ own : Bool, m.at bL = some (mpX (lfA ts) own 0)
  E : ∃ D : Blk, m.at bE = some D ∧ D.cells = flatP (edL ts) ∧ D.obj = Ob.plain
theorem sides_0 (l : List Pn) (ts : List T3) (hR : NetR l ts) (c c2 z0 z1 z2 z4 i : Nat) (hi : i < (edL ts).length) :
    PCalls Try.prog 36 [.pointer (some ⟨2, 0, none⟩), .int .i64 i] [some ⟨flatP l, false, z0⟩, some ⟨flatT ts, false, z1⟩, some ⟨[.slice (some ⟨0, 0, none⟩) l.length c, .slice (some ⟨1, 0, none⟩) ts.length c2, .slice (some ⟨4, 0, none⟩) (edL ts).length INF, .map (some 3)], false, z2⟩, some (mpX (lfA ts) false 0), some ⟨flatP (edL ts), false, z4⟩] (.agg #[.int .i64 (sdP ts (pt (edL ts) i)).x, .int .i64 (sdP ts (pt (edL ts) i)).y]) := by
  have hL := hR.ok
  have h40 := (cp_ok hR.cp).1
  have hr := edL_at hL i hi
  have hle := edL_le ts
  have h80 := hR.le
  have hat : ∀ (a b : Int) (hab : okE (a, b)) (m : Mem) (A B N D : Blk) (own : Bool) (h1 : m.at 0 = some A) (h2 : A.cells = flatP l) (h3 : m.at 1 = some B) (h4 : B.cells = flatT ts) (h5 : m.at 2 = some N) (h6 : N.cells = [.slice (some ⟨0, 0, none⟩) l.length c, .slice (some ⟨1, 0, none⟩) ts.length c2, .slice (some ⟨4, 0, none⟩) (edL ts).length INF, .map (some 3)]) (h7 : m.at 3 = some (mpX (lfA ts) own 0)) (h8 : m.at 4 = some D) (h9 : D.cells = flatP (edL ts)) (o1 : A.obj = Ob.plain) (o2 : B.obj = Ob.plain) (o3 : N.obj = Ob.plain) (o4 : D.obj = Ob.plain), PCalls Try.prog 59 [.pointer (some ⟨2, 0, none⟩), .int .i64 a, .int .i64 b] m (.int .i64 (lk (lfA ts) (a, b))) := fun a b hab m A B N D own h1 h2 h3 h4 h5 h6 h7 h8 h9 o1 o2 o3 o4 => at_e l ts (edL ts) (lfA ts) hL.nd (hL.okE (by omega)) a b hab h1 h2 h3 h4 h5 h6 h7 rfl h8 h9 o1 o2 o3 o4
  unfold sdP
  refine PCalls.enter (t := [.pointer (some ⟨2, 0, none⟩), .int .i64 i, undef, undef, undef, undef, undef, undef, undef, undef, undef, undef, undef, undef, undef, undef, undef, undef, undef, undef, undef, undef, undef, undef, undef, undef]) Try.func36 rfl (ro5p _ _ _ _ _ rfl rfl rfl rfl rfl) rfl fun E => ?_
  repeat' (first
    | with_reducible refine Then.n ?_
    | with_reducible refine Then.r ?_
    | with_reducible refine Then.x ?_
    | with_reducible refine InB.n ?_
    | with_reducible refine InB.r ?_
    | with_reducible refine InB.hit ?_
    | with_reducible refine InB.miss (by decide) ?_
    | ((with_reducible refine AL.on ?_); first
      | ((first | ((with_reducible refine AL.k_load ?_); first | (refine AL.q rfl (OQ.load1 (ty := 42) rfl kr (by first | (exact flatP_ld rfl rfl _ (by omega)) | (conv => lhs; whnf))) ?_) | refine AL.q rfl (OQ.loadN (ty := 45) (n := 2) rfl kr kr (by first | (exact flatP_ld rfl rfl _ (by omega)) | rfl)) ?_) | ((with_reducible refine AL.k_move ?_); first | (refine AL.q rfl (OQ.move wl) ?_)) | refine AL.q rfl (OQ.nilCheck rfl) ?_); (conv => (arg 5; try tactic => exact nrm)))
      | ((first | ((with_reducible refine AL.k_indexAddr ?_); first | refine AL.q rfl (OQ.idxAddr (ty := 42) (z := 2) (g := true) rfl rfl kr (by first | omega | decide) (by first | omega | decide)) ?_) | ((with_reducible refine AL.k_call ?_); first | refine AL.pcall (g := 59) rfl kr rfl ((by exact hat _ _ ⟨⟨by omega, by omega⟩, by omega, by omega⟩ _ _ _ _ _ _ rfl rfl rfl rfl rfl rfl rfl rfl rfl rfl rfl rfl rfl)) ?_) | ((with_reducible refine AL.k_fieldAddr ?_); first | refine AL.q rfl (OQ.fieldA (ty := 74) (i := 1) (n := 1) (off := 2) (g := false) rfl kr (by decide)) ?_) | ((with_reducible refine AL.k_build ?_); first | refine AL.q rfl (OQ.buildA (ty := 45) (zs := [.int .i64 0, .int .i64 0]) (n := 1) (k := 2) (g := false) kr rfl kr rfl rfl rfl) ?_)); (conv => (arg 5; try tactic => exact nrm)))
      | ((first | ((with_reducible refine AL.k_alloc ?_); first | refine AL.w rfl (OW.alloc (ty := 45) (z := [.int .i64 0, .int .i64 0]) kr rfl) ?_) | ((with_reducible refine AL.k_store ?_); first | (refine AL.w rfl (OW.store (ty := 45) (n := 2) rfl wl rfl rfl kr rfl rfl (by decide) rfl (Nat.le_of_ble_eq_true rfl) (by intro r h; cases h)) ?_))); (conv => (arg 5; try tactic => exact nrm)); (conv => (arg 6; try tactic => exact nrm)))
      | refine AL.nil ?_)
    | ((with_reducible refine AW.on ?_); first
      | refine AW.seq ?_
      | refine AW.skip ?_
      | refine AW.exit ?_
      | refine AW.ret ?_
      | refine AW.block ?_
      | (refine AW.drawF (id := 2) 11 #[0, 0, 2, 0, 8, 31, 0, 0, 128, 0, 512, 2047, 4095, 8191] kr kr ?_; (conv => (arg 8; simp only [List.take_succ_cons, List.take_zero])))
      | refine AW.region ?_
      | (refine AW.conds rfl (fun hc => ?_) (fun hc => ?_) <;> (try replace hc := nc hc) <;> first | (exfalso; first | contradiction | (first | omega | (simp at hc; done)); done) | skip))
    | ((with_reducible refine AF.on ?_); first
      | ((first | ((with_reducible refine AF.k_load ?_); first | (refine AF.ql rfl (SW.q (OQ.load1 (ty := 3) rfl kr (by first | (exact flatP_ld rfl rfl _ (by omega)) | (conv => lhs; whnf))) rfl) ?_)) | ((with_reducible refine AF.k_indexAddr ?_); first | refine AF.q 0 (SW.q (OQ.idxPtr (ty := 45) (n := 1) (l := 2) (g := false) rfl rfl kr (by first | omega | decide) (by first | omega | decide)) rfl) ?_) | ((with_reducible refine AF.k_move ?_); first | (refine AF.q 0 (SW.q (OQ.move wl) rfl) ?_)) | ((with_reducible refine AF.k_call ?_); first | refine AF.q 2 (SW.pcall (g := 59) rfl kr rfl ((by exact hat _ _ ⟨⟨by omega, by omega⟩, by omega, by omega⟩ _ _ _ _ _ _ rfl rfl rfl rfl rfl rfl rfl rfl rfl rfl rfl rfl rfl)) rfl) ?_)); (conv => (arg 9; try tactic => exact nrmF)); (conv => (arg 11; try simp only [List.nil_append, List.cons_append])))
      | (refine AF.nil ?_ kr; (conv => (arg 4; simp only [List.drop_succ_cons, List.drop_zero, List.drop_nil]))))
    | ((with_reducible refine FinP.on ?_); (first | refine FinP.ret (.cellN (n := 2) wl kr kr rfl .nil) ?_ rfl | refine FinP.end (.cellN (n := 2) wl kr kr rfl .nil) ?_ rfl); (try simp only [pack, List.drop, List.take]); all_goals (rfl)))
theorem sides_q {m : Mem} {bN bL bE bP bT c c2 i : Nat} {l : List Pn} {ts : List T3} (h : OpenN m bN bL bE bP bT c c2 l ts) (hR : NetR l ts) (hi : i < (edL ts).length) :
    PCalls Try.prog 36 [.pointer (some ⟨bN, 0, none⟩), .int .i64 i] m (.agg #[.int .i64 (sdP ts (pt (edL ts) i)).x, .int .i64 (sdP ts (pt (edL ts) i)).y]) := by
  obtain ⟨⟨A, a1, a2, a3⟩, ⟨B, b1, b2, b3⟩, ⟨N, n1, n2, n3⟩, ⟨own, l1⟩, ⟨D, d1, d2, d3⟩⟩ := h
  exact PCalls.viaS [bP, bT, bN, bL, bE] (sides_0 l ts hR c c2 A.esz B.esz N.esz D.esz i hi) (ro5p _ _ _ _ _ rfl rfl rfl rfl rfl)
    ⟨⟨_, a1, by unfold Blk.shp Blk.shpR; rw [a3]; rfl, (fun h => nomatch h), .inl ⟨a2, flatP_scal _⟩⟩, ⟨_, b1, by unfold Blk.shp Blk.shpR; rw [b3]; rfl, (fun h => nomatch h), .inl ⟨b2, flatT_scal _⟩⟩, ⟨_, n1, by unfold Blk.shp Blk.shpR; rw [n3]; rfl, (fun h => nomatch h), .inr ⟨n2, rfl⟩⟩, ⟨_, l1, rfl, (fun h => nomatch h), .inl ⟨rfl, rfl⟩⟩, ⟨_, d1, by unfold Blk.shp Blk.shpR; rw [d3]; rfl, (fun h => nomatch h), .inl ⟨d2, flatP_scal _⟩⟩, trivial⟩ rfl rfl rfl rfl
end Go.Proofs.Ytmohcmghbfhdlaa
end
end
/- Chapter 6: CheckNet, Edges, Sides (the program's). -/
section
set_option linter.unusedSimpArgs false
set_option linter.unusedVariables false
section
namespace Go.Me
open Go.Ab Go.Proofs.Ytmohcmghbfhdlaa
theorem edL_pos {l : List Pn} {ts : List T3} (h : NetR l ts) : 0 < (edL ts).length := by
  have h1 : ts.length ≠ 0 := by
    have := h.gp
    unfold gpB at this
    rw [Bool.or_eq_false_iff, Bool.or_eq_false_iff, decide_eq_false_iff_not] at this
    exact this.1.1
  unfold edL
  rw [sortE_len]
  exact List.length_pos_iff.2 (eqS_pos h.all (by omega) (fun j hj => List.mem_range.2 hj))
theorem flatP_take {es : List Pn} {k : Nat} (h : k < es.length) : flatP (es.take k) ++ [.int .i64 (pt es k).x, .int .i64 (pt es k).y] = flatP (es.take (k + 1)) := by
  rw [List.take_add_one, List.getElem?_eq_getElem h, Option.toList_some, flatP_snoc]
  unfold pt
  rw [List.getD_eq_getElem?_getD, List.getElem?_eq_getElem h]
  rfl
end Go.Me
namespace Go.Proofs.Ytmohcmghbfhdlaa
open Go Go.RowKit Go.Ab Go.Me
set_option maxRecDepth 100000
set_option maxHeartbeats 4000000
attribute [local irreducible] OQ OW AL AW AD AF SW
theorem Sides_y0 (l : List Pn) (ts : List T3) (c c2 z z1 : Nat) (hz : z = 0 ∨ z = 2) (hR : NetR l ts) : ACalls Try.prog 18 [.agg #[.slice (some ⟨0, 0, none⟩) l.length c, .slice (some ⟨1, 0, none⟩) ts.length c2]] [some ⟨flatP l, false, z⟩, some ⟨flatT ts, false, z1⟩] (.tuple #[.slice (some ⟨2, 0, none⟩) (sdL ts).length INF, .int .i64 0]) [some ⟨flatP l, false, z⟩, some ⟨flatT ts, false, z1⟩, some ⟨flatP (sdL ts), true, 2⟩] := by
  have hy := fun (m : Mem) (hA : ArgN m 0 1 l ts) => open_y (c := c) (c2 := c2) l ts hA rfl rfl hR
  have hs := fun (m : Mem) (i : Nat) (h : OpenN m 3 4 5 0 1 c c2 l ts) (hi : i < (edL ts).length) => sides_q (i := i) h hR hi
  have hps := fun (i : Nat) (hi : i < (edL ts).length) => sdL_pt (ts := ts) hi
  have hpos := edL_pos hR
  have hle := edL_le ts
  have h80 := hR.le
  rw [sdL_len]
  have hft := fun (k : Nat) (hk : k < (edL ts).length) => flatP_take (es := sdL ts) (k := k) (by rw [sdL_len]; exact hk)
  have hfl : ∀ k, k ≤ (edL ts).length → (flatP ((sdL ts).take k)).length = k * 2 := fun k hk => by rw [flatP_len, List.length_take, sdL_len, Nat.min_eq_left hk]
  have htl : (sdL ts).take (edL ts).length = sdL ts := by rw [← sdL_len, List.take_length]
  refine ACalls.enter (t := [.agg #[.slice (some ⟨0, 0, none⟩) l.length c, .slice (some ⟨1, 0, none⟩) ts.length c2], undef, undef, undef, undef, undef, undef, undef, undef, undef, undef, undef, undef, undef, undef, undef, undef, undef, undef, undef, undef, undef, undef, undef, undef, undef, undef, undef, undef, undef, undef, undef, undef, undef]) Try.func18 rfl rfl fun E hE => ?_
  repeat' (first
    | with_reducible refine Then.n ?_
    | with_reducible refine Then.r ?_
    | with_reducible refine Then.x ?_
    | with_reducible refine InB.n ?_
    | with_reducible refine InB.r ?_
    | with_reducible refine InB.hit ?_
    | with_reducible refine InB.miss (by decide) ?_
    | ((with_reducible refine AL.on ?_); first
      | ((first | ((with_reducible refine AL.k_assign ?_); first | (refine AL.q rfl (OQ.assign wl) ?_)) | ((with_reducible refine AL.k_move ?_); first | (refine AL.q rfl (OQ.move wl) ?_)) | ((with_reducible refine AL.k_call ?_); first | refine AL.q rfl (OQ.lenS (xt := 42) (r := (none, 2, true)) rfl kr) ?_) | ((with_reducible refine AL.k_extract ?_); first | refine AL.q rfl (OQ.extract rfl rfl) ?_) | ((with_reducible refine AL.k_binOp ?_); first | refine AL.q rfl (OQ.neq rfl rfl) ?_ | refine AL.q rfl (OQ.lss rfl rfl) ?_ | refine AL.q rfl (OQ.addi rfl rfl (by omega)) ?_ | refine AL.q rfl (OQ.add rfl rfl) ?_) | ((with_reducible refine AL.k_load ?_); first | refine AL.q rfl (OQ.loadN (ty := 38) (n := 2) rfl kr kr rfl) ?_ | (refine AL.q rfl (OQ.load1 (ty := 42) rfl kr wl) ?_)) | ((with_reducible refine AL.k_fieldAddr ?_); first | refine AL.q rfl (OQ.fieldA (ty := 74) (i := 1) (n := 1) (off := 2) (g := false) rfl kr (by decide)) ?_) | refine AL.q rfl (OQ.nilCheck rfl) ?_); (conv => (arg 5; try tactic => exact nrm)))
      | ((first | first | refine AL.pcall (g := 36) rfl kr rfl ((by exact hs _ k ⟨⟨_, rfl, rfl, rfl⟩, ⟨_, rfl, rfl, rfl⟩, ⟨_, rfl, rfl, rfl⟩, ⟨_, rfl⟩, ⟨_, rfl, rfl, rfl⟩⟩ (by omega))) ?_); (conv => (arg 5; try tactic => exact nrm)))
      | ((first | ((with_reducible refine AL.k_call ?_); first | refine AL.acall (g := 35) rfl kr rfl ((by exact hy _ ⟨⟨_, rfl, rfl, hz, rfl⟩, ⟨_, rfl, rfl, rfl⟩, by decide⟩)) ?_ | refine AL.w rfl (by first | exact OW.appendNil (e := 45) (z := 2) (zs := [.int .i64 0, .int .i64 0]) (by' := 16) rfl rfl kr kr kr rfl kr (by decide) rfl (by decide) (by decide) | exact OW.appendL (e := 45) (z := 2) (zs := [.int .i64 0, .int .i64 0]) (by' := 16) rfl rfl kr kr kr rfl kr (by decide) rfl rfl rfl (by decide) (by exact hfl k (by omega)) rfl rfl (by omega) (by omega)) ?_) | ((with_reducible refine AL.k_box ?_); first | (refine AL.w rfl (OW.box wl (by intro r h; cases h)) ?_)) | ((with_reducible refine AL.k_buildSlice ?_); first | refine AL.w rfl (OW.buildSl (ty := 42) (zs := [.int .i64 0, .int .i64 0]) (n := 2) (g := true) kr kr rfl rfl rfl (by decide) (by decide) rfl rfl) ?_)); (conv => (arg 5; try tactic => exact nrm)); (conv => (arg 6; try tactic => exact nrm)))
      | refine AL.nil ?_)
    | ((with_reducible refine AW.on ?_); first
      | refine AW.seq ?_
      | refine AW.skip ?_
      | refine AW.exit ?_
      | refine AW.ret ?_
      | ((refine AW.block (id := 0) ?_); (refine AW.wk (Wk.forget [false, false, false, false, true, false, false, true, false, false, false, false, false, false, false, false, false, false, false, false, false, false, true, true, false, false, false, false, false, false, false, false, false, false] rfl) ?_); (conv => (arg 4; simp only [fgt, if_true, if_false, Bool.false_eq_true])); (refine AW.loop (fun n' t' m => ∃ k : Nat, n' = (edL ts).length - k ∧ k ≤ (edL ts).length ∧ ((k = 0 ∧ t' = [junk, junk, junk, junk, .pointer (some ⟨3, 0, none⟩), junk, junk, .slice none 0 0, junk, junk, junk, junk, junk, junk, junk, junk, junk, junk, junk, junk, junk, junk, .int .i64 ((edL ts).length), .int .i64 (k), junk, junk, junk, junk, junk, junk, junk, junk, junk, junk] ∧ m = [some ⟨flatP l, false, z⟩, some ⟨flatT ts, false, z1⟩, some ⟨[.slice (some ⟨0, 0, none⟩) l.length c, .slice (some ⟨1, 0, none⟩) ts.length c2], true, 0⟩, some ⟨[.slice (some ⟨0, 0, none⟩) l.length c, .slice (some ⟨1, 0, none⟩) ts.length c2, .slice (some ⟨5, 0, none⟩) (edL ts).length INF, .map (some 4)], true, 0⟩, some (mpX (lfA ts) true 0), some ⟨flatP (edL ts), true, 2⟩]) ∨ (0 < k ∧ t' = [junk, junk, junk, junk, .pointer (some ⟨3, 0, none⟩), junk, junk, .slice (some ⟨6, 0, none⟩) (k) INF, junk, junk, junk, junk, junk, junk, junk, junk, junk, junk, junk, junk, junk, junk, .int .i64 ((edL ts).length), .int .i64 (k), junk, junk, junk, junk, junk, junk, junk, junk, junk, junk] ∧ m = [some ⟨flatP l, false, z⟩, some ⟨flatT ts, false, z1⟩, some ⟨[.slice (some ⟨0, 0, none⟩) l.length c, .slice (some ⟨1, 0, none⟩) ts.length c2], true, 0⟩, some ⟨[.slice (some ⟨0, 0, none⟩) l.length c, .slice (some ⟨1, 0, none⟩) ts.length c2, .slice (some ⟨5, 0, none⟩) (edL ts).length INF, .map (some 4)], true, 0⟩, some (mpX (lfA ts) true 0), some ⟨flatP (edL ts), true, 2⟩, some ⟨flatP ((sdL ts).take k), true, 2⟩]))) ((edL ts).length) (by exact ⟨0, rfl, Nat.zero_le _, .inl ⟨rfl, rfl, rfl⟩⟩) ?_); (rintro n' t' m ⟨k, rfl, hk, (⟨hk0, rfl, rfl⟩ | ⟨hk1, rfl, rfl⟩)⟩))
      | refine AW.block ?_
      | refine AW.region ?_
      | (refine AW.conds rfl (fun hc => ?_) (fun hc => ?_) <;> (try replace hc := nc hc) <;> first | (exfalso; first | contradiction | (first | omega | (simp at hc; done)); done) | skip))
    | ((with_reducible refine ex_on ?_); first | (obtain rfl := hk0; have hf0 := hft 0 (by omega); rw [hps 0 (by omega)] at hf0; refine ⟨(edL ts).length - 1, [junk, junk, junk, junk, .pointer (some ⟨3, 0, none⟩), junk, junk, .slice (some ⟨6, 0, none⟩) (1) INF, junk, junk, junk, junk, junk, junk, junk, junk, junk, junk, junk, junk, junk, junk, .int .i64 ((edL ts).length), .int .i64 (((0 + 1 : Nat) : Int)), junk, junk, junk, junk, junk, junk, junk, junk, junk, junk], [some ⟨flatP l, false, z⟩, some ⟨flatT ts, false, z1⟩, some ⟨[.slice (some ⟨0, 0, none⟩) l.length c, .slice (some ⟨1, 0, none⟩) ts.length c2], true, 0⟩, some ⟨[.slice (some ⟨0, 0, none⟩) l.length c, .slice (some ⟨1, 0, none⟩) ts.length c2, .slice (some ⟨5, 0, none⟩) (edL ts).length INF, .map (some 4)], true, 0⟩, some (mpX (lfA ts) true 0), some ⟨flatP (edL ts), true, 2⟩, some ⟨[.int .i64 (sdP ts (pt (edL ts) 0)).x, .int .i64 (sdP ts (pt (edL ts) 0)).y], true, 2⟩], by omega, ?_, 0 + 1, rfl, by omega, .inr ⟨by omega, rfl, by rw [← hf0]; rfl⟩⟩; exact Wk.keep 6 [7] (by rw [hE]; exact Nat.le_of_ble_eq_true rfl) rfl rfl (by repeat (first | exact RenT.nil | refine RenT.junk ?_ | refine RenT.val (by first | rfl | with_reducible assumption | (simp only [rn3, rn2, rn1, kσ]; done)) (by first | rfl | assumption | (simp [ok3, ok2, ok1]; done)) ?_)) ⟨⟨_, rfl, rfl, rfl, .inl ⟨rfl, flatP_scal l⟩⟩, ⟨_, rfl, rfl, rfl, .inl ⟨rfl, flatT_scal ts⟩⟩, ⟨_, rfl, rfl, rfl, .inr ⟨rfl, rfl⟩⟩, ⟨_, rfl, rfl, rfl, .inr ⟨rfl, rfl⟩⟩, ⟨_, rfl, rfl, rfl, .inl ⟨rfl, rfl⟩⟩, ⟨_, rfl, rfl, rfl, .inl ⟨rfl, flatP_scal _⟩⟩, ⟨_, rfl, rfl, rfl, .inl ⟨rfl, rfl⟩⟩, trivial⟩) | (have hf0 := hft k (by omega); rw [hps k (by omega)] at hf0; refine ⟨(edL ts).length - (k + 1), [junk, junk, junk, junk, .pointer (some ⟨3, 0, none⟩), junk, junk, .slice (some ⟨6, 0, none⟩) (k + 1) INF, junk, junk, junk, junk, junk, junk, junk, junk, junk, junk, junk, junk, junk, junk, .int .i64 ((edL ts).length), .int .i64 (((k + 1 : Nat) : Int)), junk, junk, junk, junk, junk, junk, junk, junk, junk, junk], [some ⟨flatP l, false, z⟩, some ⟨flatT ts, false, z1⟩, some ⟨[.slice (some ⟨0, 0, none⟩) l.length c, .slice (some ⟨1, 0, none⟩) ts.length c2], true, 0⟩, some ⟨[.slice (some ⟨0, 0, none⟩) l.length c, .slice (some ⟨1, 0, none⟩) ts.length c2, .slice (some ⟨5, 0, none⟩) (edL ts).length INF, .map (some 4)], true, 0⟩, some (mpX (lfA ts) true 0), some ⟨flatP (edL ts), true, 2⟩, some ⟨flatP ((sdL ts).take k) ++ [.int .i64 (sdP ts (pt (edL ts) k)).x, .int .i64 (sdP ts (pt (edL ts) k)).y], true, 2⟩], by omega, ?_, k + 1, rfl, by omega, .inr ⟨by omega, rfl, by rw [← hf0]⟩⟩; exact Wk.keep 6 [8] (by rw [hE]; exact Nat.le_of_ble_eq_true rfl) rfl rfl (by repeat (first | exact RenT.nil | refine RenT.junk ?_ | refine RenT.val (by first | rfl | with_reducible assumption | (simp only [rn3, rn2, rn1, kσ]; done)) (by first | rfl | assumption | (simp [ok3, ok2, ok1]; done)) ?_)) ⟨⟨_, rfl, rfl, rfl, .inl ⟨rfl, flatP_scal l⟩⟩, ⟨_, rfl, rfl, rfl, .inl ⟨rfl, flatT_scal ts⟩⟩, ⟨_, rfl, rfl, rfl, .inr ⟨rfl, rfl⟩⟩, ⟨_, rfl, rfl, rfl, .inr ⟨rfl, rfl⟩⟩, ⟨_, rfl, rfl, rfl, .inl ⟨rfl, rfl⟩⟩, ⟨_, rfl, rfl, rfl, .inl ⟨rfl, flatP_scal _⟩⟩, ⟨_, rfl, rfl, rfl, .inl ⟨rfl, by rw [List.all_append, flatP_scal]; rfl⟩⟩, trivial⟩))
    | ((with_reducible refine FinA.on ?_); (obtain rfl : k = (edL ts).length := (by omega); rw [htl]; refine FinA.keep 2 [6] (.inl rfl) (.tmp wl (.tmp wl .nil)) ?_ rfl (Nat.le_of_eq hE) rfl rfl ⟨⟨_, rfl, rfl, rfl, .inl ⟨rfl, flatP_scal l⟩⟩, ⟨_, rfl, rfl, rfl, .inl ⟨rfl, flatT_scal ts⟩⟩, ⟨_, rfl, rfl, rfl, .inl ⟨rfl, flatP_scal _⟩⟩, trivial⟩; rfl)))
end Go.Proofs.Ytmohcmghbfhdlaa
end
end
/- Chapter 6: phases of a net; differences (the program's). -/
section
set_option linter.unusedSimpArgs false
set_option linter.unusedVariables false
section
namespace Go.Me
open Go.Ab Go.Proofs.Ytmohcmghbfhdlaa
theorem flatN_snoc (xs : List Int) (x : Int) : flatN xs ++ [.int .i64 x] = flatN (xs ++ [x]) := by
  unfold flatN
  rw [List.map_append]
  rfl
theorem flatN_len (xs : List Int) : (flatN xs).length = xs.length := List.length_map _
theorem flatN_take {xs : List Int} {k : Nat} (h : k < xs.length) : flatN (xs.take k) ++ [.int .i64 (nt xs k)] = flatN (xs.take (k + 1)) := by
  rw [List.take_add_one, List.getElem?_eq_getElem h, Option.toList_some, flatN_snoc]
  unfold nt
  rw [List.getD_eq_getElem?_getD, List.getElem?_eq_getElem h]
  rfl
def ixB (p : Int → Bool) (xs : List Int) : Int := fstN (fun j => if p (nt xs j) = true then 1 else 0) xs.length
theorem ixB_any (p : Int → Bool) (xs : List Int) : decide (0 ≤ ixB p xs) = xs.any p := by
  unfold ixB
  rcases fst_cases (fun j => if p (nt xs j) = true then 1 else 0) xs.length with h | ⟨i, h1, h2, h3⟩
  · rw [fstN_no _ h]
    symm
    show _ = false
    rw [List.any_eq_false]
    intro x hx hp
    obtain ⟨j, hj, rfl⟩ := List.getElem_of_mem hx
    have this : (if p (nt xs j) = true then (1 : Int) else 0) = 0 := h j hj
    have e : nt xs j = xs[j] := by unfold nt; rw [List.getD_eq_getElem?_getD, List.getElem?_eq_getElem hj]; rfl
    rw [e, hp] at this
    cases this
  · rw [fstN_yes h2 h3 _ h1]
    have e : nt xs i = xs[i] := by unfold nt; rw [List.getD_eq_getElem?_getD, List.getElem?_eq_getElem h1]; rfl
    rw [decide_eq_true (by omega)]
    symm
    rw [List.any_eq_true]
    refine ⟨xs[i], List.getElem_mem _, ?_⟩
    replace h3 : (if p (nt xs i) = true then (1 : Int) else 0) ≠ 0 := h3
    rw [e] at h3
    cases hp : p xs[i] with
    | true => rfl
    | false => rw [hp] at h3; exact absurd rfl h3
def phE (l : List Pn) (ph : List Int) : Int := if ph.length ≠ l.length then 10 else if ph.any (fun x => !rgB x (-2048) 2047) = true then 2 else 0
theorem phE_0 {l : List Pn} {ph : List Int} (h : phE l ph = 0) : ph.length = l.length ∧ ∀ k, k < ph.length → -2048 ≤ nt ph k ∧ nt ph k ≤ 2047 := by
  unfold phE at h
  by_cases h1 : ph.length ≠ l.length
  · rw [if_pos h1] at h; cases h
  · rw [if_neg h1] at h
    cases h2 : ph.any (fun x => !rgB x (-2048) 2047) with
    | true => rw [h2, if_pos rfl] at h; cases h
    | false =>
      refine ⟨Classical.not_not.1 h1, fun k hk => ?_⟩
      rw [List.any_eq_false] at h2
      have e : nt ph k = ph[k] := by unfold nt; rw [List.getD_eq_getElem?_getD, List.getElem?_eq_getElem hk]; rfl
      have := h2 ph[k] (List.getElem_mem _)
      simp only [Bool.not_eq_true', Bool.not_eq_false] at this
      rw [e]
      exact rgB_true.1 this
def dfP (ph : List Int) (e : Pn) : Int := wrI (nt ph e.y.toNat - nt ph e.x.toNat)
def dfL (ts : List T3) (ph : List Int) : List Int := (edL ts).map (dfP ph)
theorem dfL_len (ts : List T3) (ph : List Int) : (dfL ts ph).length = (edL ts).length := List.length_map _
theorem dfL_nt {ts : List T3} {ph : List Int} {k : Nat} (h : k < (edL ts).length) : nt (dfL ts ph) k = dfP ph (pt (edL ts) k) := by
  unfold nt dfL pt
  rw [List.getD_eq_getElem?_getD, List.getD_eq_getElem?_getD, List.getElem?_map, List.getElem?_eq_getElem h]
  rfl
end Go.Me
namespace Go.Proofs.Ytmohcmghbfhdlaa
open Go Go.RowKit Go.Ab Go.Me
set_option maxRecDepth 100000
set_option maxHeartbeats 4000000
attribute [local irreducible] OQ OW AL AW AD AF SW
theorem IndexI_0 (f : FuncId) (hen : enters Try.prog f = true) (p : Int → Bool) (hp : ∀ (x : Int) (m : Mem), PCalls Try.prog f [.int .i64 x] m (.bool (p x))) (xs : List Int) (c z : Nat) (hl : xs.length ≤ 1000000) :
    PCalls Try.prog 82 [.slice (some ⟨0, 0, none⟩) xs.length c, .func (.func f) #[] #[]] [some ⟨flatN xs, false, z⟩] (.int .i64 (ixB p xs)) := by
  have hld := fun (k : Nat) (hk : k < xs.length) => flatN_get xs k hk
  have hno := fstN_no (f := fun j => if p (nt xs j) = true then 1 else 0) xs.length
  have hyes := fun (k : Nat) (h1 : k < xs.length) (hj : ∀ j, j < k → p (nt xs j) = false) (he : p (nt xs k) = true) => fstN_yes (f := fun j => if p (nt xs j) = true then 1 else 0) (fun j h => by show (if p (nt xs j) = true then (1 : Int) else 0) = 0; rw [hj j h]; rfl) (by show (if p (nt xs k) = true then (1 : Int) else 0) ≠ 0; rw [he, if_pos rfl]; decide) xs.length h1
  unfold ixB
  generalize fstN (fun j => if p (nt xs j) = true then 1 else 0) xs.length = E0 at *
  refine PCalls.enter (t := [.slice (some ⟨0, 0, none⟩) xs.length c, .func (.func f) #[] #[], undef, undef, undef, undef, undef, undef, undef, undef, undef, undef, undef, undef, undef, undef, undef, undef, undef]) Try.func82 rfl (ro1p _ rfl) rfl fun E => ?_
  repeat' (first
    | with_reducible refine Then.n ?_
    | with_reducible refine Then.r ?_
    | with_reducible refine Then.x ?_
    | with_reducible refine InB.n ?_
    | with_reducible refine InB.r ?_
    | with_reducible refine InB.hit ?_
    | with_reducible refine InB.miss (by decide) ?_
    | ((with_reducible refine AL.on ?_); first
      | ((first | ((with_reducible refine AL.k_move ?_); first | (refine AL.q rfl (OQ.move wl) ?_)) | ((with_reducible refine AL.k_assign ?_); first | (refine AL.q rfl (OQ.assign wl) ?_)) | ((with_reducible refine AL.k_call ?_); first | refine AL.q rfl (OQ.lenS (xt := 29) (r := (none, 1, false)) rfl kr) ?_) | ((with_reducible refine AL.k_binOp ?_); first | refine AL.q rfl (OQ.lss rfl rfl) ?_ | refine AL.q rfl (OQ.addi rfl rfl (by omega)) ?_ | refine AL.q rfl (OQ.add rfl rfl) ?_) | ((with_reducible refine AL.k_load ?_); first | (refine AL.q rfl (OQ.load1 (ty := 3) rfl kr (by first | (exact hld _ (by omega)) | (conv => lhs; whnf))) ?_))); (conv => (arg 5; try tactic => exact nrm)))
      | ((first | ((with_reducible refine AL.k_call ?_); first | refine AL.pcall rfl (by first | assumption | kernel_rfl) rfl ((by exact hp _ _)) ?_) | ((with_reducible refine AL.k_indexAddr ?_); first | refine AL.q rfl (OQ.idxAddr (ty := 29) (z := 1) (g := false) rfl rfl kr (by omega) (by omega)) ?_)); (conv => (arg 5; try tactic => exact nrm)))
      | refine AL.nil ?_)
    | ((with_reducible refine AW.on ?_); first
      | refine AW.seq ?_
      | refine AW.skip ?_
      | refine AW.exit ?_
      | refine AW.ret ?_
      | ((refine AW.block (id := 0) ?_); (refine AW.wk (Wk.forget [true, true, false, false, false, false, false, true, true, false, false, false, false, false, false, false, false, false, false] rfl) ?_); (conv => (arg 4; simp only [fgt, if_true, if_false, Bool.false_eq_true])); (refine AW.loop (fun n' t' m => ∃ k : Nat, n' = xs.length - k ∧ k ≤ xs.length ∧ (∀ j, j < k → p (nt xs j) = false) ∧ t' = [.slice (some ⟨0, 0, none⟩) xs.length c, .func (.func f) #[] #[], junk, junk, junk, junk, junk, .int .i64 (xs.length), .int .i64 (k), junk, junk, junk, junk, junk, junk, junk, junk, junk, junk] ∧ m = [some ⟨flatN xs, false, z⟩]) (xs.length) (by exact ⟨0, rfl, Nat.zero_le _, fun j h => absurd h (by omega), rfl, rfl⟩) ?_); (rintro n' t' m ⟨k, rfl, hk, hj, rfl, rfl⟩))
      | refine AW.block ?_
      | refine AW.region ?_
      | (refine AW.conds rfl (fun hc => ?_) (fun hc => ?_) <;> (try replace hc := nc hc) <;> first | (exfalso; first | contradiction | (first | omega | (simp at hc; done)); done) | skip))
    | ((with_reducible refine ex_on ?_); (refine ⟨xs.length - (k + 1), _, _, by omega, ?_, k + 1, rfl, by omega, fun j h => (by rcases Nat.lt_or_eq_of_le (Nat.le_of_lt_succ h) with h | rfl; (exact hj j h); (first | assumption | simp_all)), rfl, rfl⟩; exact Wk.forget [true, true, false, false, false, false, false, true, true, false, false, false, false, false, false, false, false, false, false] rfl))
    | ((with_reducible refine FinP.on ?_); (first | refine FinP.ret (.tmp wl .nil) ?_ rfl | refine FinP.end (.tmp wl .nil) ?_ rfl); (try simp only [pack, List.drop, List.take]); all_goals (symm; first | (rw [hyes k (by omega) hj (by first | assumption | simp_all)]; done) | (obtain rfl : k = xs.length := (by omega); rw [hno (fun j h => by show (if p (nt xs j) = true then (1 : Int) else 0) = 0; rw [hj j h]; rfl)]))))
theorem ContainsI_0 (f : FuncId) (hen : enters Try.prog f = true) (p : Int → Bool) (hp : ∀ (x : Int) (m : Mem), PCalls Try.prog f [.int .i64 x] m (.bool (p x))) (xs : List Int) (c z : Nat) (hl : xs.length ≤ 1000000) :
    PCalls Try.prog 65 [.slice (some ⟨0, 0, none⟩) xs.length c, .func (.func f) #[] #[]] [some ⟨flatN xs, false, z⟩] (.bool (xs.any p)) := by
  have hi := IndexI_0 f hen p hp xs c z hl
  rw [← ixB_any]
  generalize ixB p xs = E0 at *
  refine PCalls.enter (t := [.slice (some ⟨0, 0, none⟩) xs.length c, .func (.func f) #[] #[], undef, undef, undef, undef, undef, undef, undef]) Try.func65 rfl (ro1p _ rfl) rfl fun E => ?_
  repeat' (first
    | with_reducible refine Then.n ?_
    | with_reducible refine Then.r ?_
    | with_reducible refine Then.x ?_
    | with_reducible refine InB.n ?_
    | with_reducible refine InB.r ?_
    | with_reducible refine InB.hit ?_
    | with_reducible refine InB.miss (by decide) ?_
    | ((with_reducible refine AL.on ?_); first
      | ((first | ((with_reducible refine AL.k_assign ?_); first | (refine AL.q rfl (OQ.assign wl) ?_)) | ((with_reducible refine AL.k_move ?_); first | (refine AL.q rfl (OQ.move wl) ?_)) | ((with_reducible refine AL.k_binOp ?_); first | refine AL.q rfl (OQ.geq rfl rfl) ?_)); (conv => (arg 5; try tactic => exact nrm)))
      | ((first | first | refine AL.pcall (g := 82) rfl kr rfl ((by exact hi)) ?_); (conv => (arg 5; try tactic => exact nrm)))
      | refine AL.nil ?_)
    | ((with_reducible refine AW.on ?_); first
      | refine AW.seq ?_
      | refine AW.skip ?_
      | refine AW.exit ?_
      | refine AW.ret ?_
      | refine AW.block ?_
      | refine AW.region ?_
      | (refine AW.conds rfl (fun hc => ?_) (fun hc => ?_) <;> (try replace hc := nc hc) <;> first | (exfalso; first | contradiction | (first | omega | (simp at hc; done)); done) | skip))
    | ((with_reducible refine FinP.on ?_); (first | refine FinP.ret (.tmp wl .nil) ?_ rfl | refine FinP.end (.tmp wl .nil) ?_ rfl); (try simp only [pack, List.drop, List.take]); all_goals (rfl)))
theorem ContainsI_q {m : Mem} {b n c : Nat} {blk : Blk} (f : FuncId) (hen : enters Try.prog f = true) (p : Int → Bool) (hp : ∀ (x : Int) (m : Mem), PCalls Try.prog f [.int .i64 x] m (.bool (p x))) (xs : List Int) (hl : xs.length ≤ 1000000) (hb : m.at b = some blk) (hc : blk.cells = flatN xs) (hn : xs.length = n) (ho : blk.obj = Ob.plain := by rfl) :
    PCalls Try.prog 65 [.slice (some ⟨b, 0, none⟩) n c, .func (.func f) #[] #[]] m (.bool (xs.any p)) := by
  subst hn
  exact PCalls.viaS [b] (ContainsI_0 f hen p hp xs c blk.esz hl) (ro1p _ rfl) ⟨⟨_, hb, by unfold Blk.shp Blk.shpR; rw [ho]; rfl, (fun h => nomatch h), .inl ⟨hc, flatN_scal _⟩⟩, trivial⟩ rfl rfl rfl rfl
theorem offPh_q (n : Int) (m : Mem) : PCalls Try.prog 83 [.int .i64 n] m (.bool (!rgB n (-2048) 2047)) := by
  refine PCalls.any ?_ rfl rfl m
  have hw := fun m => within_q n (-2048) 2047 m
  refine PCalls.enter (t := [.int .i64 n, undef, undef, undef, undef, undef]) Try.func83 rfl (ro_nil) rfl fun E => ?_
  repeat' (first
    | with_reducible refine Then.n ?_
    | with_reducible refine Then.r ?_
    | with_reducible refine Then.x ?_
    | with_reducible refine InB.n ?_
    | with_reducible refine InB.r ?_
    | with_reducible refine InB.hit ?_
    | with_reducible refine InB.miss (by decide) ?_
    | ((with_reducible refine AL.on ?_); first
      | ((first | ((with_reducible refine AL.k_assign ?_); first | (refine AL.q rfl (OQ.assign wl) ?_)) | ((with_reducible refine AL.k_move ?_); first | (refine AL.q rfl (OQ.move wl) ?_)) | ((with_reducible refine AL.k_unOp ?_); first | refine AL.q rfl (OQ.not rfl) ?_)); (conv => (arg 5; try tactic => exact nrm)))
      | ((first | first | refine AL.pcall (g := 46) rfl kr rfl (hw _) ?_); (conv => (arg 5; try tactic => exact nrm)))
      | refine AL.nil ?_)
    | ((with_reducible refine AW.on ?_); first
      | refine AW.seq ?_
      | refine AW.skip ?_
      | refine AW.exit ?_
      | refine AW.ret ?_
      | refine AW.block ?_
      | refine AW.region ?_
      | (refine AW.conds rfl (fun hc => ?_) (fun hc => ?_) <;> (try replace hc := nc hc) <;> first | (exfalso; first | contradiction | (omega); done) | skip))
    | ((with_reducible refine FinP.on ?_); (first | refine FinP.ret (.tmp wl .nil) ?_ rfl | refine FinP.end (.tmp wl .nil) ?_ rfl); (try simp only [pack, List.drop, List.take]); all_goals (rfl)))
theorem ro6p (a b c d e f : Blk) (h1 : a.own = false) (h2 : b.own = false) (h3 : c.own = false) (h4 : d.own = false) (h5 : e.own = false) (h6 : f.own = false) : Mem.ro [some a, some b, some c, some d, some e, some f] := fun k blk hk => by
  match k, hk with
  | 0, hk => cases hk; exact h1
  | 1, hk => cases hk; exact h2
  | 2, hk => cases hk; exact h3
  | 3, hk => cases hk; exact h4
  | 4, hk => cases hk; exact h5
  | 5, hk => cases hk; exact h6
abbrev mem6 (l : List Pn) (ts : List T3) (xs : List Int) (c c2 z0 z1 z2 z4 z5 : Nat) : Mem := [some ⟨flatP l, false, z0⟩, some ⟨flatT ts, false, z1⟩, some ⟨[.slice (some ⟨0, 0, none⟩) l.length c, .slice (some ⟨1, 0, none⟩) ts.length c2, .slice (some ⟨4, 0, none⟩) (edL ts).length INF, .map (some 3)], false, z2⟩, some (mpX (lfA ts) false 0), some ⟨flatP (edL ts), false, z4⟩, some ⟨flatN xs, false, z5⟩]
theorem phasesErr_0 (l : List Pn) (ts : List T3) (ph : List Int) (c c2 c3 z0 z1 z2 z4 z5 : Nat) (hl : ph.length ≤ 1000000) :
    PCalls Try.prog 70 [.pointer (some ⟨2, 0, none⟩), .slice (some ⟨5, 0, none⟩) ph.length c3] [some ⟨flatP l, false, z0⟩, some ⟨flatT ts, false, z1⟩, some ⟨[.slice (some ⟨0, 0, none⟩) l.length c, .slice (some ⟨1, 0, none⟩) ts.length c2, .slice (some ⟨4, 0, none⟩) (edL ts).length INF, .map (some 3)], false, z2⟩, some (mpX (lfA ts) false 0), some ⟨flatP (edL ts), false, z4⟩, some ⟨flatN ph, false, z5⟩] (.int .i64 (phE l ph)) := by
  have hc3 := fun (m : Mem) (b : Nat) (blk : Blk) (h1 : m.at b = some blk) (h2 : blk.cells = flatN ph) (h3 : blk.obj = Ob.plain) => ContainsI_q (c := c3) 83 (by kernel_rfl) (fun x => !rgB x (-2048) 2047) offPh_q ph hl h1 h2 rfl h3
  have e10 : ph.length ≠ l.length → phE l ph = 10 := fun h => if_pos h
  have e2 : ph.length = l.length → ph.any (fun x => !rgB x (-2048) 2047) = true → phE l ph = 2 := fun h h2 => by unfold phE; rw [if_neg (fun h3 => h3 h), if_pos h2]
  have e0 : ph.length = l.length → ph.any (fun x => !rgB x (-2048) 2047) = false → phE l ph = 0 := fun h h2 => by unfold phE; rw [if_neg (fun h3 => h3 h), if_neg (by rw [h2]; decide)]
  generalize phE l ph = E0 at *
  generalize ph.any (fun x => !rgB x (-2048) 2047) = B0 at *
  refine PCalls.enter (t := [.pointer (some ⟨2, 0, none⟩), .slice (some ⟨5, 0, none⟩) ph.length c3, undef, undef, undef, undef, undef, undef, undef, undef, undef, undef, undef, undef, undef, undef, undef, undef]) Try.func70 rfl (ro6p _ _ _ _ _ _ rfl rfl rfl rfl rfl rfl) rfl fun E => ?_
  repeat' (first
    | with_reducible refine Then.n ?_
    | with_reducible refine Then.r ?_
    | with_reducible refine Then.x ?_
    | with_reducible refine InB.n ?_
    | with_reducible refine InB.r ?_
    | with_reducible refine InB.hit ?_
    | with_reducible refine InB.miss (by decide) ?_
    | ((with_reducible refine AL.on ?_); first
      | ((first | ((with_reducible refine AL.k_assign ?_); first | (refine AL.q rfl (OQ.assign wl) ?_)) | ((with_reducible refine AL.k_move ?_); first | (refine AL.q rfl (OQ.move wl) ?_)) | ((with_reducible refine AL.k_call ?_); first | refine AL.q rfl (OQ.lenS (xt := 29) (r := (none, 1, false)) rfl kr) ?_ | refine AL.q rfl (OQ.lenS (xt := 22) (r := (none, 2, true)) rfl kr) ?_) | ((with_reducible refine AL.k_fieldAddr ?_); first | refine AL.q rfl (OQ.fieldA (ty := 74) (i := 0) (n := 2) (off := 0) (g := true) rfl kr (by decide)) ?_ | refine AL.q rfl (OQ.fieldA (ty := 38) (i := 0) (n := 1) (off := 0) (g := false) rfl kr (by decide)) ?_) | ((with_reducible refine AL.k_load ?_); first | (refine AL.q rfl (OQ.load1 (ty := 22) rfl kr wl) ?_)) | ((with_reducible refine AL.k_binOp ?_); first | refine AL.q rfl (OQ.neq rfl rfl) ?_) | refine AL.q rfl (OQ.nilCheck rfl) ?_); (conv => (arg 5; try tactic => exact nrm)))
      | ((first | first | refine AL.pcall (g := 65) rfl kr rfl ((by exact hc3 _ 5 _ rfl rfl rfl)) ?_); (conv => (arg 5; try tactic => exact nrm)))
      | refine AL.nil ?_)
    | ((with_reducible refine AW.on ?_); first
      | refine AW.seq ?_
      | refine AW.skip ?_
      | refine AW.exit ?_
      | refine AW.ret ?_
      | refine AW.block ?_
      | refine AW.region ?_
      | (refine AW.conds rfl (fun hc => ?_) (fun hc => ?_) <;> (try replace hc := nc hc) <;> first | (exfalso; first | contradiction | (first | omega | (simp at hc; done)); done) | skip))
    | ((with_reducible refine FinP.on ?_); (first | refine FinP.ret (.tmp wl .nil) ?_ rfl | refine FinP.end (.tmp wl .nil) ?_ rfl); (try simp only [pack, List.drop, List.take]); all_goals (congr 1; first | exact (e10 (by omega)).symm | exact (e2 (by omega) (by assumption)).symm | exact (e0 (by omega) (by assumption)).symm)))
theorem differences_0 (l : List Pn) (ts : List T3) (hR : NetR l ts) (ph : List Int) (hph : phE l ph = 0) (c c2 c3 z0 z1 z2 z4 z5 : Nat) :
    ACalls Try.prog 50 [.pointer (some ⟨2, 0, none⟩), .slice (some ⟨5, 0, none⟩) ph.length c3] [some ⟨flatP l, false, z0⟩, some ⟨flatT ts, false, z1⟩, some ⟨[.slice (some ⟨0, 0, none⟩) l.length c, .slice (some ⟨1, 0, none⟩) ts.length c2, .slice (some ⟨4, 0, none⟩) (edL ts).length INF, .map (some 3)], false, z2⟩, some (mpX (lfA ts) false 0), some ⟨flatP (edL ts), false, z4⟩, some ⟨flatN ph, false, z5⟩]
      (.slice (some ⟨6, 0, none⟩) (edL ts).length INF) [some ⟨flatP l, false, z0⟩, some ⟨flatT ts, false, z1⟩, some ⟨[.slice (some ⟨0, 0, none⟩) l.length c, .slice (some ⟨1, 0, none⟩) ts.length c2, .slice (some ⟨4, 0, none⟩) (edL ts).length INF, .map (some 3)], false, z2⟩, some (mpX (lfA ts) false 0), some ⟨flatP (edL ts), false, z4⟩, some ⟨flatN ph, false, z5⟩, some ⟨flatN (dfL ts ph), true, 1⟩] := by
  obtain ⟨hpl, hpb⟩ := phE_0 hph
  have hr := fun (k : Nat) (hk : k < (edL ts).length) => edL_at hR.ok k hk
  have hg := fun (k : Nat) (hk : k < ph.length) => flatN_get ph k hk
  have hpos := edL_pos hR
  have hle := edL_le ts
  have h80 := hR.le
  have hdl := dfL_len ts ph
  have hnt := fun (k : Nat) (hk : k < (edL ts).length) => dfL_nt (ph := ph) hk
  have hft := fun (k : Nat) (hk : k < (edL ts).length) => flatN_take (xs := dfL ts ph) (k := k) (by rw [dfL_len]; exact hk)
  have hfl : ∀ k, k ≤ (edL ts).length → (flatN ((dfL ts ph).take k)).length = k * 1 := fun k hk => by rw [flatN_len, List.length_take, dfL_len, Nat.min_eq_left hk, Nat.mul_one]
  have htl : (dfL ts ph).take (edL ts).length = dfL ts ph := by rw [← dfL_len ts ph, List.take_length]
  have hwr := fun (n : Int) (hn : -1000000000 ≤ n ∧ n ≤ 1000000000) (m : Mem) => wrap_q n hn m
  refine ACalls.enter (t := [.pointer (some ⟨2, 0, none⟩), .slice (some ⟨5, 0, none⟩) ph.length c3, undef, undef, undef, undef, undef, undef, undef, undef, undef, undef, undef, undef, undef, undef, undef, undef, undef, undef, undef, undef, undef, undef, undef, undef, undef, undef, undef, undef, undef, undef, undef, undef]) Try.func50 rfl rfl fun E hE => ?_
  repeat' (first
    | with_reducible refine Then.n ?_
    | with_reducible refine Then.r ?_
    | with_reducible refine Then.x ?_
    | with_reducible refine InB.n ?_
    | with_reducible refine InB.r ?_
    | with_reducible refine InB.hit ?_
    | with_reducible refine InB.miss (by decide) ?_
    | ((with_reducible refine AL.on ?_); first
      | ((first | ((with_reducible refine AL.k_move ?_); first | (refine AL.q rfl (OQ.move wl) ?_)) | ((with_reducible refine AL.k_load ?_); first | (refine AL.q rfl (OQ.load1 (ty := 42) rfl kr (by first | (first | exact hg _ (by omega) | exact flatP_ld rfl rfl _ (by omega)) | (conv => lhs; whnf))) ?_) | refine AL.q rfl (OQ.loadN (ty := 45) (n := 2) rfl kr kr (by first | (first | exact hg _ (by omega) | exact flatP_ld rfl rfl _ (by omega)) | rfl)) ?_) | ((with_reducible refine AL.k_assign ?_); first | (refine AL.q rfl (OQ.assign wl) ?_)) | ((with_reducible refine AL.k_call ?_); first | refine AL.q rfl (OQ.lenS (xt := 42) (r := (none, 2, true)) rfl kr) ?_) | ((with_reducible refine AL.k_binOp ?_); first | refine AL.q rfl (OQ.lss rfl rfl) ?_ | refine AL.q rfl (OQ.addi rfl rfl (by omega)) ?_ | refine AL.q rfl (OQ.add rfl rfl) ?_) | refine AL.q rfl (OQ.nilCheck rfl) ?_); (conv => (arg 5; try tactic => exact nrm)))
      | ((first | ((with_reducible refine AL.k_indexAddr ?_); first | refine AL.q rfl (OQ.idxAddr (ty := 42) (z := 2) (g := true) rfl rfl kr (by first | omega | decide) (by first | omega | decide)) ?_) | ((with_reducible refine AL.k_fieldAddr ?_); first | refine AL.q rfl (OQ.fieldA (ty := 74) (i := 1) (n := 1) (off := 2) (g := false) rfl kr (by decide)) ?_)); (conv => (arg 5; try tactic => exact nrm)))
      | ((first | ((with_reducible refine AL.k_call ?_); first | refine AL.w rfl (by first | exact OW.appendNil (e := 3) (z := 1) (zs := [.int .i64 0]) (by' := 8) rfl rfl kr kr kr rfl kr (by decide) rfl (by decide) (by decide) | exact OW.appendL (e := 3) (z := 1) (zs := [.int .i64 0]) (by' := 8) rfl rfl kr kr kr rfl kr (by decide) rfl rfl rfl (by decide) (by exact hfl k (by omega)) rfl rfl (by omega) (by omega)) ?_) | ((with_reducible refine AL.k_alloc ?_); first | refine AL.w rfl (OW.alloc (ty := 45) (z := [.int .i64 0, .int .i64 0]) kr rfl) ?_) | ((with_reducible refine AL.k_store ?_); first | (refine AL.w rfl (OW.store (ty := 45) (n := 2) rfl wl rfl rfl kr rfl rfl (by decide) rfl (Nat.le_of_ble_eq_true rfl) (by intro r h; cases h)) ?_))); (conv => (arg 5; try tactic => exact nrm)); (conv => (arg 6; try tactic => exact nrm)))
      | refine AL.nil ?_)
    | ((with_reducible refine AW.on ?_); first
      | refine AW.seq ?_
      | refine AW.skip ?_
      | refine AW.exit ?_
      | refine AW.ret ?_
      | ((refine AW.block (id := 0) ?_); (refine AW.wk (Wk.forget [false, true, false, false, false, true, false, false, false, false, false, true, true, true, false, false, false, false, false, false, false, false, false, false, false, false, false, false, false, false, false, false, false, false] rfl) ?_); (conv => (arg 4; simp only [fgt, if_true, if_false, Bool.false_eq_true])); (refine AW.loop (fun n' t' m => ∃ k : Nat, n' = (edL ts).length - k ∧ k ≤ (edL ts).length ∧ ((k = 0 ∧ t' = [junk, .slice (some ⟨5, 0, none⟩) ph.length c3, junk, junk, junk, .slice none 0 0, junk, junk, junk, junk, junk, .slice (some ⟨4, 0, none⟩) ((edL ts).length) INF, .int .i64 ((edL ts).length), .int .i64 (k), junk, junk, junk, junk, junk, junk, junk, junk, junk, junk, junk, junk, junk, junk, junk, junk, junk, junk, junk, junk] ∧ m = mem6 l ts ph c c2 z0 z1 z2 z4 z5) ∨ (0 < k ∧ t' = [junk, .slice (some ⟨5, 0, none⟩) ph.length c3, junk, junk, junk, .slice (some ⟨6, 0, none⟩) (k) INF, junk, junk, junk, junk, junk, .slice (some ⟨4, 0, none⟩) ((edL ts).length) INF, .int .i64 ((edL ts).length), .int .i64 (k), junk, junk, junk, junk, junk, junk, junk, junk, junk, junk, junk, junk, junk, junk, junk, junk, junk, junk, junk, junk] ∧ m = [some ⟨flatP l, false, z0⟩, some ⟨flatT ts, false, z1⟩, some ⟨[.slice (some ⟨0, 0, none⟩) l.length c, .slice (some ⟨1, 0, none⟩) ts.length c2, .slice (some ⟨4, 0, none⟩) (edL ts).length INF, .map (some 3)], false, z2⟩, some (mpX (lfA ts) false 0), some ⟨flatP (edL ts), false, z4⟩, some ⟨flatN ph, false, z5⟩, some ⟨flatN ((dfL ts ph).take k), true, 1⟩]))) ((edL ts).length) (by exact ⟨0, rfl, Nat.zero_le _, .inl ⟨rfl, rfl, rfl⟩⟩) ?_); (rintro n' t' m ⟨k, rfl, hk, (⟨hk0, rfl, rfl⟩ | ⟨hk1, rfl, rfl⟩)⟩))
      | refine AW.block ?_
      | (refine AW.drawF (id := 5) 14 #[0, 0, 0, 4, 14, 30, 0, 0, 128, 448, 960, 2046, 4094, 8190, 16383, 32767] kr kr ?_; (conv => (arg 8; simp only [List.take_succ_cons, List.take_zero])); ((have hq := hr k (by omega); have hq1 := hpb (pt (edL ts) k).x.toNat (by omega); have hq2 := hpb (pt (edL ts) k).y.toNat (by omega))))
      | refine AW.region ?_
      | (refine AW.conds rfl (fun hc => ?_) (fun hc => ?_) <;> (try replace hc := nc hc) <;> first | (exfalso; first | contradiction | (first | omega | (simp at hc; done)); done) | skip))
    | ((with_reducible refine AF.on ?_); first
      | ((first | ((with_reducible refine AF.k_move ?_); first | (refine AF.q 0 (SW.q (OQ.move wl) rfl) ?_)) | ((with_reducible refine AF.k_load ?_); first | (refine AF.ql rfl (SW.q (OQ.load1 (ty := 3) rfl kr (by first | (first | exact hg _ (by omega) | exact flatP_ld rfl rfl _ (by omega)) | (conv => lhs; whnf))) rfl) ?_)) | ((with_reducible refine AF.k_indexAddr ?_); first | refine AF.q 0 (SW.q (OQ.idxPtr (ty := 45) (n := 1) (l := 2) (g := false) rfl rfl kr (by first | omega | decide) (by first | omega | decide)) rfl) ?_ | refine AF.q 0 (SW.q (OQ.idxAddr (ty := 29) (z := 1) (g := false) rfl rfl kr (by first | omega | decide) (by first | omega | decide)) rfl) ?_) | ((with_reducible refine AF.k_binOp ?_); first | refine AF.q 0 (SW.q (OQ.subi rfl rfl (by omega)) rfl) ?_ | refine AF.q 0 (SW.q (OQ.sub rfl rfl) rfl) ?_) | ((with_reducible refine AF.k_call ?_); first | refine AF.q 2 (SW.pcall (g := 73) rfl kr rfl ((by exact hwr _ (by omega) _)) rfl) ?_)); (conv => (arg 9; try tactic => exact nrmF)); (conv => (arg 11; try simp only [List.nil_append, List.cons_append])))
      | ((first | first | refine AF.n1 0 (SW.w (OW.buildSl (ty := 29) (zs := [.int .i64 0]) (n := 1) (g := false) kr kr rfl rfl rfl (by decide) (by decide) rfl rfl) rfl) rfl ?_); (conv => (arg 9; try tactic => exact nrmF)); (conv => (arg 11; try simp only [List.nil_append, List.cons_append])); (conv => (arg 10; try tactic => exact nrmF)))
      | (refine AF.nil ?_ kr; (conv => (arg 4; simp only [List.drop_succ_cons, List.drop_zero, List.drop_nil]))))
    | ((with_reducible refine ex_on ?_); first | (obtain rfl := hk0; have hf0 := hft 0 (by omega); rw [hnt 0 (by omega)] at hf0; refine ⟨(edL ts).length - 1, [junk, .slice (some ⟨5, 0, none⟩) ph.length c3, junk, junk, junk, .slice (some ⟨6, 0, none⟩) (1) INF, junk, junk, junk, junk, junk, .slice (some ⟨4, 0, none⟩) ((edL ts).length) INF, .int .i64 ((edL ts).length), .int .i64 (((0 + 1 : Nat) : Int)), junk, junk, junk, junk, junk, junk, junk, junk, junk, junk, junk, junk, junk, junk, junk, junk, junk, junk, junk, junk], mem6 l ts ph c c2 z0 z1 z2 z4 z5 ++ [some ⟨[.int .i64 (dfP ph (pt (edL ts) 0))], true, 1⟩], by omega, ?_, 0 + 1, rfl, by omega, .inr ⟨by omega, rfl, by rw [← hf0]; rfl⟩⟩; exact Wk.keep 6 [8] (by rw [hE]; exact Nat.le_of_ble_eq_true rfl) rfl rfl (by repeat (first | exact RenT.nil | refine RenT.junk ?_ | refine RenT.val (by first | rfl | with_reducible assumption | (simp only [rn3, rn2, rn1, kσ]; done)) (by first | rfl | assumption | (simp [ok3, ok2, ok1]; done)) ?_)) ⟨⟨_, rfl, rfl, rfl, .inl ⟨rfl, flatP_scal l⟩⟩, ⟨_, rfl, rfl, rfl, .inl ⟨rfl, flatT_scal ts⟩⟩, ⟨_, rfl, rfl, rfl, .inr ⟨rfl, rfl⟩⟩, ⟨_, rfl, rfl, rfl, .inl ⟨rfl, rfl⟩⟩, ⟨_, rfl, rfl, rfl, .inl ⟨rfl, flatP_scal _⟩⟩, ⟨_, rfl, rfl, rfl, .inl ⟨rfl, flatN_scal _⟩⟩, ⟨_, rfl, rfl, rfl, .inl ⟨rfl, rfl⟩⟩, trivial⟩) | (have hf0 := hft k (by omega); rw [hnt k (by omega)] at hf0; refine ⟨(edL ts).length - (k + 1), [junk, .slice (some ⟨5, 0, none⟩) ph.length c3, junk, junk, junk, .slice (some ⟨6, 0, none⟩) (k + 1) INF, junk, junk, junk, junk, junk, .slice (some ⟨4, 0, none⟩) ((edL ts).length) INF, .int .i64 ((edL ts).length), .int .i64 (((k + 1 : Nat) : Int)), junk, junk, junk, junk, junk, junk, junk, junk, junk, junk, junk, junk, junk, junk, junk, junk, junk, junk, junk, junk], mem6 l ts ph c c2 z0 z1 z2 z4 z5 ++ [some ⟨flatN ((dfL ts ph).take k) ++ [.int .i64 (dfP ph (pt (edL ts) k))], true, 1⟩], by omega, ?_, k + 1, rfl, by omega, .inr ⟨by omega, rfl, by rw [← hf0]; rfl⟩⟩; exact Wk.keep 6 [9] (by rw [hE]; exact Nat.le_of_ble_eq_true rfl) rfl rfl (by repeat (first | exact RenT.nil | refine RenT.junk ?_ | refine RenT.val (by first | rfl | with_reducible assumption | (simp only [rn3, rn2, rn1, kσ]; done)) (by first | rfl | assumption | (simp [ok3, ok2, ok1]; done)) ?_)) ⟨⟨_, rfl, rfl, rfl, .inl ⟨rfl, flatP_scal l⟩⟩, ⟨_, rfl, rfl, rfl, .inl ⟨rfl, flatT_scal ts⟩⟩, ⟨_, rfl, rfl, rfl, .inr ⟨rfl, rfl⟩⟩, ⟨_, rfl, rfl, rfl, .inl ⟨rfl, rfl⟩⟩, ⟨_, rfl, rfl, rfl, .inl ⟨rfl, flatP_scal _⟩⟩, ⟨_, rfl, rfl, rfl, .inl ⟨rfl, flatN_scal _⟩⟩, ⟨_, rfl, rfl, rfl, .inl ⟨rfl, by rw [List.all_append, flatN_scal]; rfl⟩⟩, trivial⟩))
    | ((with_reducible refine FinA.on ?_); (obtain rfl : k = (edL ts).length := (by omega); rw [htl]; refine FinA.keep 7 [] (.inl rfl) (.tmp wl .nil) ?_ rfl (by rw [hE]; exact Nat.le_of_ble_eq_true rfl) rfl rfl ⟨⟨_, rfl, rfl, rfl, .inl ⟨rfl, flatP_scal l⟩⟩, ⟨_, rfl, rfl, rfl, .inl ⟨rfl, flatT_scal ts⟩⟩, ⟨_, rfl, rfl, rfl, .inr ⟨rfl, rfl⟩⟩, ⟨_, rfl, rfl, rfl, .inl ⟨rfl, rfl⟩⟩, ⟨_, rfl, rfl, rfl, .inl ⟨rfl, flatP_scal _⟩⟩, ⟨_, rfl, rfl, rfl, .inl ⟨rfl, flatN_scal _⟩⟩, ⟨_, rfl, rfl, rfl, .inl ⟨rfl, flatN_scal _⟩⟩, trivial⟩; rfl)))
end Go.Proofs.Ytmohcmghbfhdlaa
end
end
