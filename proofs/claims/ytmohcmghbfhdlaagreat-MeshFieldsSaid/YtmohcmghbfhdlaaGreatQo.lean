/- Chapter 6: the opening of nets that do not cover. -/
import Derived.Test.YtmohcmghbfhdlaaGreatQd
import Derived.Test.YtmohcmghbfhdlaaGreatQn
section
set_option linter.unusedSimpArgs false
set_option linter.unusedVariables false
section
namespace Go.Proofs.YtmohcmghbfhdlaaGreat
open Go Go.RowKit Go.Ab Go.Me
set_option maxRecDepth 100000
set_option maxHeartbeats 4000000
attribute [local irreducible] OQ OW AL AW AF SW
theorem open_g (l : List Pn) (ts : List T3) (c c2 z z1 : Nat) (hz : z = 0 ∨ z = 2) (h0 : cpB l = 0) (h80 : ts.length ≤ 80) (hall : ∀ j, j < ts.length → trK l ts j = 0) (hop : opB l ts = false) (hgp : gpB l ts = true) :
  PCalls Tryz.prog 71 [.agg #[.slice (some ⟨0, 0, none⟩) l.length c, .slice (some ⟨1, 0, none⟩) ts.length c2]] [some ⟨flatP l, false, z⟩, some ⟨flatT ts, false, z1⟩] (.tuple #[.pointer none, .int .i64 0, .int .i64 14]) := by
 obtain ⟨h40, hok, hap⟩ := cp_ok h0
 have hp := fun (m : Mem) (b : Nat) (blk : Blk) (h1 : m.at b = some blk) (h2 : blk.cells = flatP l) (h3 : blk.esz = 0 ∨ blk.esz = 2) (h4 : blk.obj = Ob.plain) => CheckPoints_q (c := c) l h1 h2 rfl (by omega) h3 h4
 rw [h0] at hp
 have hlf := fun (k : Nat) (hj : ∀ j, j < k → trK l ts j = 0) => lf_ok (l := l) (ts := ts) k hj
 have hte : ∀ (k : Nat) (hk : k < ts.length) (hj : ∀ j, j < k → trK l ts j = 0) (m : Mem) (A B N : Blk) (own : Bool) (h1 : m.at 0 = some A) (h2 : A.cells = flatP l) (h3 : m.at 1 = some B) (h4 : B.cells = flatT ts) (h5 : m.at 4 = some N) (h6 : N.cells = [.slice (some ⟨0, 0, none⟩) l.length c, .slice (some ⟨1, 0, none⟩) ts.length c2, .slice none 0 0, .map (some 3)]) (h7 : m.at 3 = some (mpX (lf ts k) own 0)) (o1 : A.obj = Ob.plain) (o2 : B.obj = Ob.plain) (o3 : N.obj = Ob.plain), PCalls Tryz.prog 127 [.pointer (some ⟨4, 0, none⟩), .int .i64 k] m (.int .i64 (trK l ts k)) := fun k hk hj m A B N own h1 h2 h3 h4 h5 h6 h7 o1 o2 o3 => triangleErr_q l ts (lf ts k) hok (by omega) (by omega) (hlf k hj).nd ((hlf k hj).okE (by omega)) hk h1 h2 h3 h4 h5 h6 h7 o1 o2 o3
 have hr3 := fun (k : Nat) (hj : ∀ j, j < k → trK l ts j = 0) (he : trK l ts k = 0) => rnd3 (l := l) (by omega) (hlf k hj) he
 have hun := us_nodup ts
 have hrd := fun (a b d : Int) (m : Mem) => around_q a b d m
 have h3t : ∀ k, trK l ts k = 0 → (0 ≤ (tr ts k).1 ∧ (tr ts k).1 < l.length) ∧ (0 ≤ (tr ts k).2.1 ∧ (tr ts k).2.1 < l.length) ∧ (0 ≤ (tr ts k).2.2 ∧ (tr ts k).2.2 < l.length) := fun k he => by
  have := (trK_0 he).1
  unfold inR at this
  omega
 have hare : ∀ (k : Nat) (he : trK l ts k = 0) (m : Mem) (b d : Nat) (blk blk2 : Blk) (h1 : m.at b = some blk) (h2 : blk.cells = flatP l) (h3 : m.at d = some blk2) (h4 : blk2.cells = [.int .i64 (tr ts k).1, .int .i64 (tr ts k).2.1, .int .i64 (tr ts k).2.2]) (o1 : blk.obj = Ob.plain) (o2 : blk2.obj = Ob.plain), PCalls Tryz.prog 129 [.slice (some ⟨b, 0, none⟩) l.length c, .slice (some ⟨d, 0, none⟩) 3 3] m (.int .i64 (arS l [(tr ts k).1.toNat, (tr ts k).2.1.toNat, (tr ts k).2.2.toNat] 3)) := fun k he m b d blk blk2 h1 h2 h3 h4 o1 o2 => by
  have hq := h3t k he
  exact area_q l [(tr ts k).1.toNat, (tr ts k).2.1.toNat, (tr ts k).2.2.toNat] hok (fun j hj => by
   match j, hj with
   | 0, _ => show (tr ts k).1.toNat < _; omega
   | 1, _ => show (tr ts k).2.1.toNat < _; omega
   | 2, _ => show (tr ts k).2.2.toNat < _; omega
   | j + 3, hj => simp at hj; omega) (by simp) h1 h2 rfl h3 (by rw [h4]; show _ = [Value.int .i64 (((tr ts k).1.toNat : Nat) : Int), Value.int .i64 (((tr ts k).2.1.toNat : Nat) : Int), Value.int .i64 (((tr ts k).2.2.toNat : Nat) : Int)]; rw [Int.toNat_of_nonneg hq.1.1, Int.toNat_of_nonneg hq.2.1.1, Int.toNat_of_nonneg hq.2.2.1]) rfl o1 o2
 have htb := fun (k : Nat) (he : trK l ts k = 0) => tri_bd (l := l) (ts := ts) (k := k) hok he
 have hab := fun (k : Nat) (hj : ∀ j, j < k → trK l ts j = 0) => arT_bd (l := l) (ts := ts) hok k hj
 have hLf : LfOk l.length (lfA ts) := hlf ts.length hall
 have hat : ∀ (a b : Int) (hab : okE (a, b)) (m : Mem) (A B N : Blk) (own : Bool) (h1 : m.at 0 = some A) (h2 : A.cells = flatP l) (h3 : m.at 1 = some B) (h4 : B.cells = flatT ts) (h5 : m.at 4 = some N) (h6 : N.cells = [.slice (some ⟨0, 0, none⟩) l.length c, .slice (some ⟨1, 0, none⟩) ts.length c2, .slice none 0 0, .map (some 3)]) (h7 : m.at 3 = some (mpX (lf ts ts.length) own 0)) (o1 : A.obj = Ob.plain) (o2 : B.obj = Ob.plain) (o3 : N.obj = Ob.plain), PCalls Tryz.prog 130 [.pointer (some ⟨4, 0, none⟩), .int .i64 a, .int .i64 b] m (.int .i64 (lk (lfA ts) (a, b))) := fun a b hab m A B N own h1 h2 h3 h4 h5 h6 h7 o1 o2 o3 => at_q l ts (lfA ts) hLf.nd (hLf.okE (by omega)) a b hab h1 h2 h3 h4 h5 h6 h7 rfl o1 o2 o3
 have hcf := fun (a b : Int) (ha : 0 ≤ a ∧ a < l.length) (hb : 0 ≤ b ∧ b < l.length) (m : Mem) (bE : Nat) (A B X D : Blk) (h1 : m.at 0 = some A) (h2 : A.cells = flatP l) (h3 : m.at 1 = some B) (h4 : B.cells = flatT ts) (h5 : m.at 2 = some X) (h6 : X.cells = [.slice (some ⟨0, 0, none⟩) l.length c, .slice (some ⟨1, 0, none⟩) ts.length c2]) (h7 : m.at bE = some D) (h8 : D.cells = [.int .i64 a, .int .i64 b]) (o1 : A.obj = Ob.plain) (o2 : B.obj = Ob.plain) (o3 : X.obj = Ob.plain) (o4 : D.obj = Ob.plain) => ContainsF_q (c3 := c) l ts hok (by omega) a b ha hb rfl rfl h1 h2 h3 h4 h5 h6 h7 h8 o1 o2 o3 o4
 have hVf := lfV_flat (lfA ts)
 have hVl := lfV_len (lfA ts)
 have hhl := fun (h2 : 2 ≤ l.length) (m : Mem) (b : Nat) (blk : Blk) (h1 : m.at b = some blk) (h2' : blk.cells = flatP l) (h4 : blk.obj = Ob.plain) => hull_q (c := c) l h0 h2 h1 h2' rfl h4
 have h2l := fun (h : 0 < ts.length) => two_of hall h
 have harh := fun (m : Mem) (b d : Nat) (blk blk2 : Blk) (h1 : m.at b = some blk) (h2 : blk.cells = flatP l) (h3 : m.at d = some blk2) (h4 : blk2.cells = flatO (hl l)) (o1 : blk.obj = Ob.plain) (o2 : blk2.obj = Ob.plain) => area_q (c := c) (c2 := INF) l (hl l) hok (hl_lt h0) (hl_le h0) h1 h2 rfl h3 h4 rfl o1 o2
 have hul : (List.map (fun k => (k, Value.bool true)) (us ts ts.length)).length = (us ts ts.length).length := List.length_map _
 have hgn : ¬ ts.length = 0 → arT l ts ts.length = arS l (hl l) (hl l).length → (us ts ts.length).length = l.length → False := fun h1 h2 h3 => by
  unfold gpB at hgp
  rw [decide_eq_false h1, decide_eq_false (fun h => h h2), decide_eq_false (fun h => h h3)] at hgp
  cases hgp
 refine PCalls.enJ 164 Tryz.func71 rfl (ro2p _ _ rfl rfl) rfl (fun E hE => ?_)
 repeat' (first | with_reducible (first | refine Then.n ?_ | refine Then.r ?_ | refine Then.x ?_ | refine InB.n ?_ | refine InB.hit ?_) | ((with_reducible refine AL.on ?_); first | (refine AL.gd rfl ?_; first | (refine AL.gs1 rfl rfl (fun hc => ?_) (fun hc => ?_) <;> (try replace hc := nc hc) <;> first | (exfalso; contradiction) | refine AL.nm ?_) | (refine AL.gs0 rfl rfl (fun hc => ?_) (fun hc => ?_) <;> (try replace hc := nc hc) <;> first | (exfalso; contradiction) | refine AL.nm ?_)) | ((first | refine AL.mv ?_ | refine AL.as ?_ | ((with_reducible refine AL.k_load ?_); first | (refine AL.g (OQ.load1 (ty := 22) rfl kr (by (conv => lhs; whnf))) ?_) | (refine AL.g (OQ.load1 (ty := 23) rfl kr (by (conv => lhs; whnf))) ?_) | refine AL.g (OQ.loadN (ty := 25) (n := 2) rfl kr kr (by rfl)) ?_ | refine AL.g (OQ.loadN (ty := 62) (n := 3) rfl kr kr (by first | (exact flatT_ld rfl rfl _ (by omega)) | rfl)) ?_ | (refine AL.g (OQ.load1 (ty := 3) rfl kr (by (conv => lhs; whnf))) ?_) | (refine AL.g (OQ.load1 (ty := 108) rfl kr (by (conv => lhs; whnf))) ?_)) | ((with_reducible refine AL.k_call ?_); refine AL.g (OQ.lenS (xt := 23) (r := (none, 3, true)) rfl kr) ?_) | ((with_reducible refine AL.k_binOp ?_); first | refine AL.g (OQ.neq rfl rfl) ?_ | refine AL.g (OQ.gtr rfl rfl) ?_ | refine AL.g (OQ.lss rfl rfl) ?_ | refine AL.g (OQ.addi rfl rfl (by omega)) ?_ | refine AL.g (OQ.eql rfl rfl) ?_) | refine AL.et ?_ | ((with_reducible refine AL.k_pick ?_); first | refine AL.pT ?_ | refine AL.pF ?_) | ((with_reducible refine AL.k_index ?_); refine AL.g (OQ.idxArrL (ty := 170) (n := 2) (l := 3) rfl rfl kr (by omega) (by omega) rfl) ?_) | refine AL.g (OQ.nilCheck rfl) ?_ | refine AL.g (OQ.mentry (b := 3) (j := j) (seen := seen) (k := kk) (l := lfV (lfA ts)) rfl rfl rfl hj rfl rfl) ?_); refine AL.nm ?_) | ((first | ((with_reducible refine AL.k_call ?_); first | refine AL.pcall (g := 121) rfl kr rfl ((by exact hp _ 0 _ rfl rfl hz rfl)) ?_ | refine AL.pcall (g := 127) rfl kr rfl ((by exact hte k (by omega) hj _ _ _ _ _ rfl rfl rfl rfl rfl rfl rfl rfl rfl rfl)) ?_ | refine AL.pcall (g := 128) rfl kr rfl (hrd _ _ _ _) ?_ | refine AL.pcall (g := 130) rfl kr rfl ((by exact hat _ _ ⟨⟨by omega, by omega⟩, by omega, by omega⟩ _ _ _ _ _ rfl rfl rfl rfl rfl rfl rfl rfl rfl rfl)) ?_ | refine AL.pcall (g := 131) rfl kr rfl ((by exact hcf _ _ hr1 hr2 _ 7 _ _ _ _ rfl rfl rfl rfl rfl rfl rfl rfl rfl rfl rfl rfl)) ?_) | ((with_reducible refine AL.k_fieldAddr ?_); first | refine AL.g (OQ.fieldA (ty := 25) (i := 0) (n := 1) (off := 0) (g := false) rfl kr (by decide)) ?_ | refine AL.g (OQ.fieldA (ty := 25) (i := 1) (n := 1) (off := 1) (g := false) rfl kr (by decide)) ?_ | refine AL.g (OQ.fieldA (ty := 110) (i := 2) (n := 1) (off := 3) (g := false) rfl kr (by decide)) ?_) | ((with_reducible refine AL.k_indexAddr ?_); first | refine AL.g (OQ.idxAddr (ty := 23) (z := 3) (g := true) rfl rfl kr (by omega) (by omega)) ?_ | refine AL.g (OQ.idxPtr (ty := 52) (n := 1) (l := 2) (g := false) rfl rfl kr (by omega) (by omega)) ?_) | ((with_reducible refine AL.k_build ?_); refine AL.g (OQ.buildS (ty := 110) (zs := [.slice none 0 0, .slice none 0 0, .slice none 0 0, .map none]) (pls := [(0, 2), (2, 1), (3, 1)]) kr rfl kr rfl rfl rfl) ?_) | refine AL.q rfl OQ.mkfn ?_); refine AL.nm ?_) | ((first | ((with_reducible refine AL.k_store ?_); first | (refine AL.w rfl (OW.store (ty := 62) (n := 3) rfl wl rfl rfl kr rfl rfl (by decide) rfl (Nat.le_of_ble_eq_true rfl) (by intro r h; cases h)) ?_) | (refine AL.w rfl (OW.store (ty := 52) (n := 2) rfl wl rfl rfl kr rfl rfl (by decide) rfl (Nat.le_of_ble_eq_true rfl) (by intro r h; cases h)) ?_)) | ((with_reducible refine AL.k_alloc ?_); first | refine AL.w rfl (OW.alloc (ty := 62) (z := [.int .i64 0, .int .i64 0, .int .i64 0]) kr rfl) ?_ | refine AL.w rfl (OW.alloc (ty := 52) (z := [.int .i64 0, .int .i64 0]) kr rfl) ?_) | refine AL.bx ?_ | refine AL.w rfl OW.makeMap ?_ | refine AL.w rfl (by first | exact OW.mupdN (enc := encE) (k := ((tr ts k).1, (tr ts k).2.1)) KE hs3.o1 hs3.a1 rfl rfl rfl Tryz.underlying108 rfl hs3.b1 rfl | exact OW.mupdN (enc := encE) (k := ((tr ts k).2.1, (tr ts k).2.2)) KE hs3.o2 hs3.a2 rfl rfl rfl Tryz.underlying108 rfl hs3.b2 rfl | exact OW.mupdN (enc := encE) (k := ((tr ts k).2.2, (tr ts k).1)) KE hs3.o3 hs3.a3 rfl rfl rfl Tryz.underlying108 rfl hs3.b3 rfl | exact OW.mins (enc := encI) (l := us ts k) (k := (tr ts k).1) (v := .bool true) KI trivial (fun _ _ => trivial) rfl rfl rfl Tryz.underlying107 rfl (hun k) rfl | exact OW.mins (enc := encI) (l := insL (us ts k) (tr ts k).1) (k := (tr ts k).2.1) (v := .bool true) KI trivial (fun _ _ => trivial) rfl rfl rfl Tryz.underlying107 rfl (insL_nodup (hun k)) rfl | exact OW.mins (enc := encI) (l := insL (insL (us ts k) (tr ts k).1) (tr ts k).2.1) (k := (tr ts k).2.2) (v := .bool true) KI trivial (fun _ _ => trivial) rfl rfl rfl Tryz.underlying107 rfl (insL_nodup (insL_nodup (hun k))) rfl) ?_ | refine AL.w rfl (OW.rangeMap rfl Tryz.underlying108 rfl) ?_ | refine (AL.mnext (b := 3) (enc := encE) (l := lfV (lfA ts)) KE rfl rfl rfl hVf (fun hdone => ?_) (fun j kk v hj hns => ?_))); refine AL.nm ?_; refine AL.nM ?_) | refine AL.nil ?_) | ((with_reducible refine AW.on ?_); first | refine AW.seq ?_ | refine AW.skip ?_ | refine AW.exit ?_ | refine AW.ret ?_ | ((refine AW.block (id := 0) ?_); (refine AW.fk [1, 7, 8, 9, 36, 37, 38] ?_); (refine AW.loop (fun n' t' m => ∃ k : Nat, n' = ts.length - k ∧ k ≤ ts.length ∧ (∀ j, j < k → trK l ts j = 0) ∧ t' = (mtz 165 0 [(1, .pointer (some ⟨2, 0, none⟩)), (7, .pointer (some ⟨4, 0, none⟩)), (8, .int .i64 (arT l ts k)), (9, .map (some 5)), (36, .slice (some ⟨1, 0, none⟩) ts.length c2), (37, .int .i64 (ts.length)), (38, .int .i64 (k))]) ∧ m = [some ⟨flatP l, false, z⟩, some ⟨flatT ts, false, z1⟩, some ⟨[.slice (some ⟨0, 0, none⟩) l.length c, .slice (some ⟨1, 0, none⟩) ts.length c2], true, 0⟩, some (mpX (lf ts k) true 0), some ⟨[.slice (some ⟨0, 0, none⟩) l.length c, .slice (some ⟨1, 0, none⟩) ts.length c2, .slice none 0 0, .map (some 3)], true, 0⟩, some (mpU (us ts k))]) (ts.length) (by exact ⟨0, rfl, Nat.zero_le _, fun j h => absurd h (by omega), rfl, rfl⟩) ?_); (rintro n' t' m ⟨k, rfl, hk, hj, rfl, rfl⟩); (refine AW.nT ?_)) | (refine AW.block (id := 2) ?_; refine AW.unroll 4 ?_) | ((refine AW.block (id := 4) ?_); (refine AW.fk [1, 7, 8, 9, 76] ?_); (refine AW.loop (fun n' t' m => ∃ seen : List Nat, n' = (lfA ts).length - seen.length ∧ seen.Nodup ∧ (∀ j ∈ seen, j < (lfA ts).length ∧ (∀ (kk : IE) (v : Value), (lfV (lfA ts))[j]? = some (kk, v) → lk (lfA ts) (kk.2, kk.1) = -1 → bdB l kk.1.toNat kk.2.toNat = true)) ∧ t' = (mtz 165 0 [(1, .pointer (some ⟨2, 0, none⟩)), (7, .pointer (some ⟨4, 0, none⟩)), (8, .int .i64 (arT l ts ts.length)), (9, .map (some 5)), (76, .pointer (some ⟨6, 0, none⟩))]) ∧ m = [some ⟨flatP l, false, z⟩, some ⟨flatT ts, false, z1⟩, some ⟨[.slice (some ⟨0, 0, none⟩) l.length c, .slice (some ⟨1, 0, none⟩) ts.length c2], true, 0⟩, some (mpX (lf ts ts.length) true 0), some ⟨[.slice (some ⟨0, 0, none⟩) l.length c, .slice (some ⟨1, 0, none⟩) ts.length c2, .slice none 0 0, .map (some 3)], true, 0⟩, some (mpU (us ts ts.length)), some (itL 3 (lfV (lfA ts)).length (seen))]) ((lfA ts).length) (by exact ⟨[], rfl, List.nodup_nil, fun j h => absurd h (by simp), rfl, rfl⟩) ?_); (rintro n' t' m ⟨seen, rfl, hnd, hG, rfl, rfl⟩); (refine AW.nT ?_)) | refine AW.block ?_ | (refine AW.drawF (id := 18) 6 #[0, 1, 3, 7, 0, 0, 63] kr kr ?_; (conv => (arg 8; simp only [List.take_succ_cons, List.take_zero]))) | (refine AW.drawF (id := 21) 5 #[0, 0, 2, 0, 14, 31, 63] kr kr ?_; (conv => (arg 8; simp only [List.take_succ_cons, List.take_zero])); ((have hq1 := htb k ‹_›; have hq2 := hab k hj))) | (refine AW.drawF (id := 28) 20 #[0, 1, 3, 7, 15, 31, 31, 95, 31, 287, 799, 2015, 4095, 8191, 16383, 32767, 65535, 32767, 163839, 425983, 1048575, 2097151] kr kr ?_; (conv => (arg 8; simp only [List.take_succ_cons, List.take_zero]))) | (refine AW.region (id := 15) ?_; ((have hs3 := hr3 k hj ‹_›; have ht3 := h3t k ‹_›))) | (refine AW.region (id := 23) ?_; ((obtain rfl : k = ts.length := (by omega)))) | (refine AW.region (id := 25) ?_; ((obtain ⟨hjl, ⟨vi, rfl, hmm⟩, hr1, hr2⟩ := lfV_get hLf hj))) | refine AW.region ?_ | (refine AW.conds rfl (fun hc => ?_) (fun hc => ?_) <;> (try replace hc := nc hc) <;> first | (exfalso; first | contradiction | (first | omega | (exact absurd (hall k (by omega)) (by assumption)) | (exact absurd (opB_yes hmm (by assumption) (by assumption)) (by rw [hop]; decide)) | (exact (hgn (by omega) (by omega) (by omega)).elim)); done) | skip)) | ((with_reducible refine AF.on ?_); first | ((refine AF.q 0 (SW.no0 rfl rfl (by with_reducible rfl)) ?_); refine AF.nm ?_) | ((first | ((with_reducible refine AF.k_move ?_); first | (refine AF.q 0 (SW.q (OQ.move wl) rfl) ?_) | (refine AF.q 0 (SW.yes (SW.q (OQ.move wl) rfl) rfl rfl (by with_reducible rfl)) ?_)) | ((with_reducible refine AF.k_load ?_); first | (refine AF.ql rfl (SW.q (OQ.load1 (ty := 108) rfl kr (by (conv => lhs; whnf))) rfl) ?_) | refine AF.ql rfl (SW.q (OQ.loadN (ty := 52) (n := 2) rfl kr kr (by rfl)) rfl) ?_ | (refine AF.ql rfl (SW.q (OQ.load1 (ty := 22) rfl kr (by (conv => lhs; whnf))) rfl) ?_) | (refine AF.ql rfl (SW.q (OQ.load1 (ty := 23) rfl kr (by (conv => lhs; whnf))) rfl) ?_) | (refine AF.ql rfl (SW.yes (SW.q (OQ.load1 (ty := 22) rfl kr (by (conv => lhs; whnf))) rfl) rfl rfl (by with_reducible rfl)) ?_)) | ((with_reducible refine AF.k_call ?_); first | refine AF.q 0 (SW.q (OQ.lenS (xt := 23) (r := (none, 3, true)) rfl kr) rfl) ?_ | refine AF.q 0 (SW.yes (SW.q (OQ.lenS (xt := 22) (r := (none, 2, true)) rfl kr) rfl) rfl rfl (by with_reducible rfl)) ?_ | refine AF.q 2 (SW.pcall (g := 129) rfl kr rfl ((by first | exact hare k ‹_› _ 0 6 _ _ rfl rfl rfl rfl rfl rfl | exact harh _ 0 7 _ _ rfl rfl rfl rfl rfl rfl)) rfl) ?_ | refine AF.q 2 (SW.yes (SW.pcall (g := 129) rfl kr rfl ((by exact harh _ 0 7 _ _ rfl rfl rfl rfl rfl rfl)) rfl) rfl rfl (by with_reducible rfl)) ?_ | refine AF.q 2 (SW.yes (SW.q (OQ.mlen rfl Tryz.underlying107 rfl) rfl) rfl rfl (by with_reducible rfl)) ?_) | ((with_reducible refine AF.k_fieldAddr ?_); first | refine AF.q 0 (SW.q (OQ.fieldA (ty := 110) (i := 2) (n := 1) (off := 3) (g := false) rfl kr (by decide)) rfl) ?_ | refine AF.q 0 (SW.q (OQ.fieldA (ty := 25) (i := 0) (n := 1) (off := 0) (g := false) rfl kr (by decide)) rfl) ?_ | refine AF.q 0 (SW.q (OQ.fieldA (ty := 25) (i := 1) (n := 1) (off := 1) (g := false) rfl kr (by decide)) rfl) ?_ | refine AF.q 0 (SW.yes (SW.q (OQ.fieldA (ty := 25) (i := 0) (n := 1) (off := 0) (g := false) rfl kr (by decide)) rfl) rfl rfl (by with_reducible rfl)) ?_) | ((with_reducible refine AF.k_binOp ?_); first | refine AF.q 0 (SW.q (OQ.eql rfl rfl) rfl) ?_ | refine AF.q 0 (SW.yes (SW.q (OQ.neq rfl rfl) rfl) rfl rfl (by with_reducible rfl)) ?_) | ((with_reducible refine AF.k_pick ?_); first | (refine AF.q 0 (SW.q (OQ.pickT rfl (by with_reducible rfl) wl) rfl) ?_) | (refine AF.q 0 (SW.q (OQ.pickF rfl (by with_reducible rfl) wl) rfl) ?_)) | refine AF.q 2 (SW.q (OQ.nilCheck rfl) rfl) ?_ | refine AF.q 2 (SW.q (by exact OQ.sliceA (ty := 62) (n := 3) (z := 1) (g := false) (l := 0) (h := 3) rfl kr rfl rfl rfl rfl (by decide) (by decide) (by decide)) rfl) ?_); refine AF.nm ?_) | ((((with_reducible refine AF.k_call ?_); refine AF.n1 2 (SW.yes (SW.acall (g := 122) rfl kr rfl ((by exact hhl (h2l (by omega)) _ 0 _ rfl rfl rfl)) rfl) rfl rfl (by with_reducible rfl)) rfl ?_)); refine AF.nm ?_; (conv => (arg 10; try tactic => exact nrmF))) | (refine AF.gs0 rfl rfl (fun hc => ?_) (fun hc => ?_) <;> (fail_if_success (with_reducible exact lit_no hc)) <;> (try replace hc := nc hc) <;> skip) | refine AF.nl ?_) | with_reducible refine AR.s ?_ | ((with_reducible refine ex_on ?_); first | ((refine ⟨ts.length - (k + 1), [jk, .pointer (some ⟨2, 0, none⟩), jk, jk, jk, jk, jk, .pointer (some ⟨4, 0, none⟩), .int .i64 (arT l ts (k + 1)), .map (some 5), jk, jk, jk, jk, jk, jk, jk, jk, jk, jk, jk, jk, jk, jk, jk, jk, jk, jk, jk, jk, jk, jk, jk, jk, jk, jk, .slice (some ⟨1, 0, none⟩) ts.length c2, .int .i64 (ts.length), .int .i64 (((k + 1 : Nat) : Int)), jk, jk, jk, jk, jk, jk, jk, jk, jk, jk, jk, jk, jk, jk, jk, jk, jk, jk, jk, jk, jk, jk, jk, jk, jk, jk, jk, jk, jk, jk, jk, jk, jk, jk, jk, jk, jk, jk, jk, jk, jk, jk, jk, jk, jk, jk, jk, jk, jk, jk, jk, jk, jk, jk, jk, jk, jk, jk, jk, jk, jk, jk, jk, jk, jk, jk, jk, jk, jk, jk, jk, jk, jk, jk, jk, jk, jk, jk, jk, jk, jk, jk, jk, jk, jk, jk, jk, jk, jk, jk, jk, jk, jk, jk, jk, jk, jk, jk, jk, jk, jk, jk, jk, jk, jk, jk, jk, jk, jk, jk, jk, jk, jk, jk, jk, jk, jk, jk, jk, jk, jk, jk, jk, jk, jk, jk], [some ⟨flatP l, false, z⟩, some ⟨flatT ts, false, z1⟩, some ⟨[.slice (some ⟨0, 0, none⟩) l.length c, .slice (some ⟨1, 0, none⟩) ts.length c2], true, 0⟩, some (mpX (lf ts (k + 1)) true 0), some ⟨[.slice (some ⟨0, 0, none⟩) l.length c, .slice (some ⟨1, 0, none⟩) ts.length c2, .slice none 0 0, .map (some 3)], true, 0⟩, some (mpU (us ts (k + 1)))], by omega, ?_, k + 1, rfl, by omega, fun j h => (by rcases Nat.lt_or_eq_of_le (Nat.le_of_lt_succ h) with h | rfl; (exact hj j h); assumption), rfl, rfl⟩; exact Wk.keep 6 [] (by rw [hE]; exact (by decide : 2 ≤ 6)) rfl rfl (by repeat (first | exact RenT.nil | refine RenT.jk ?_ | refine RenT.val (by rfl) (by rfl) ?_)) ⟨kl rfl (flatP_scal l), kl rfl (flatT_scal ts), ki rfl, ⟨_, rfl, rfl, shp_map hs3.c, .inl ⟨rfl, rfl⟩⟩, ki rfl, kl rfl rfl, trivial⟩)) | ((have hG2 : ∀ x ∈ seen ++ [j], x < (lfA ts).length ∧ (∀ (kk : IE) (v : Value), (lfV (lfA ts))[x]? = some (kk, v) → lk (lfA ts) (kk.2, kk.1) = -1 → bdB l kk.1.toNat kk.2.toNat = true) := (fun x hx => by rcases List.mem_append.1 hx with h | h; (exact hG x h); (rw [List.mem_singleton] at h; subst h; exact ⟨hjl, fun kk' v' h' h1 => by rw [hj] at h'; cases h'; first | exact absurd h1 (by assumption) | assumption⟩)); have hsl := seen_le (seen_snoc hnd hns) (fun x hx => (hG2 x hx).1); rw [List.length_append] at hsl; refine ⟨(lfA ts).length - (seen ++ [j]).length, [jk, .pointer (some ⟨2, 0, none⟩), jk, jk, jk, jk, jk, .pointer (some ⟨4, 0, none⟩), .int .i64 (arT l ts ts.length), .map (some 5), jk, jk, jk, jk, jk, jk, jk, jk, jk, jk, jk, jk, jk, jk, jk, jk, jk, jk, jk, jk, jk, jk, jk, jk, jk, jk, jk, jk, jk, jk, jk, jk, jk, jk, jk, jk, jk, jk, jk, jk, jk, jk, jk, jk, jk, jk, jk, jk, jk, jk, jk, jk, jk, jk, jk, jk, jk, jk, jk, jk, jk, jk, jk, jk, jk, jk, .pointer (some ⟨6, 0, none⟩), jk, jk, jk, jk, jk, jk, jk, jk, jk, jk, jk, jk, jk, jk, jk, jk, jk, jk, jk, jk, jk, jk, jk, jk, jk, jk, jk, jk, jk, jk, jk, jk, jk, jk, jk, jk, jk, jk, jk, jk, jk, jk, jk, jk, jk, jk, jk, jk, jk, jk, jk, jk, jk, jk, jk, jk, jk, jk, jk, jk, jk, jk, jk, jk, jk, jk, jk, jk, jk, jk, jk, jk, jk, jk, jk, jk, jk, jk, jk, jk, jk, jk, jk, jk, jk, jk, jk, jk], [some ⟨flatP l, false, z⟩, some ⟨flatT ts, false, z1⟩, some ⟨[.slice (some ⟨0, 0, none⟩) l.length c, .slice (some ⟨1, 0, none⟩) ts.length c2], true, 0⟩, some (mpX (lf ts ts.length) true 0), some ⟨[.slice (some ⟨0, 0, none⟩) l.length c, .slice (some ⟨1, 0, none⟩) ts.length c2, .slice none 0 0, .map (some 3)], true, 0⟩, some (mpU (us ts ts.length)), some (itL 3 (lfV (lfA ts)).length (seen ++ [j]))], by (rw [List.length_append]; simp only [List.length_cons, List.length_nil] at hsl ⊢; omega), ?_, seen ++ [j], rfl, seen_snoc hnd hns, hG2, rfl, rfl⟩; exact Wk.keep 7 [] (by rw [hE]; exact (by decide : 2 ≤ 7)) rfl rfl (by repeat (first | exact RenT.nil | refine RenT.jk ?_ | refine RenT.val (by rfl) (by rfl) ?_)) ⟨kl rfl (flatP_scal l), kl rfl (flatT_scal ts), ki rfl, kl rfl rfl, ki rfl, kl rfl rfl, kl rfl rfl, trivial⟩))) | ((with_reducible refine FinJ.on ?_); exact FinJ.ret (.tmp wl (.tmp wl (.tmp wl .nil))) (jle_flat rfl)))
end Go.Proofs.YtmohcmghbfhdlaaGreat
end
end
/- Chapter 6: the edges of a net, in order. -/
section
set_option linter.unusedSimpArgs false
set_option linter.unusedVariables false
section
namespace Go.Me
open Go.Ab Go.Proofs.YtmohcmghbfhdlaaGreat
def pkE (L : List (IE × Int)) (p : IE) : List Pn := if p.1 < p.2 ∨ lk L (p.2, p.1) = -1 then [⟨if p.2 < p.1 then p.2 else p.1, if p.2 > p.1 then p.2 else p.1⟩] else []
def pk (ts : List T3) (j : Nat) : List Pn := match (lfA ts)[j]? with
 | none => []
 | some p => pkE (lfA ts) p.1
def eqS (ts : List T3) (seen : List Nat) : List Pn := seen.flatMap (pk ts)
theorem eqS_snoc (ts : List T3) (seen : List Nat) (j : Nat) : eqS ts (seen ++ [j]) = eqS ts seen ++ pk ts j := by
 unfold eqS
 rw [List.flatMap_append]
 simp
theorem pk_at {ts : List T3} {j : Nat} {kk : IE} {v : Value} (hj : (lfV (lfA ts))[j]? = some (kk, v)) : pk ts j = pkE (lfA ts) kk := by
 unfold lfV at hj
 rw [List.getElem?_map] at hj
 unfold pk
 cases hq : (lfA ts)[j]? with
 | none => rw [hq] at hj; cases hj
 | some p =>
  rw [hq] at hj
  cases hj
  rfl
def sortE (es : List Pn) : List Pn := es.mergeSort fun x y => !decide (ordP y x < 0)
theorem sortE_perm (es : List Pn) : (sortE es).Perm es := List.mergeSort_perm _ _
theorem sortE_len (es : List Pn) : (sortE es).length = es.length := List.length_mergeSort _
theorem sortE_pair (es : List Pn) : (sortE es).Pairwise fun x y => ¬ lexLt y x := by
 have h := List.pairwise_mergeSort (le := fun x y => !decide (ordP y x < 0)) (l := es) (fun a b c h1 h2 => by
  simp only [Bool.not_eq_true', decide_eq_false_iff_not, ordP_neg] at h1 h2 ⊢
  unfold lexLt at *
  omega) (fun a b => by
  simp only [Bool.or_eq_true, Bool.not_eq_true', decide_eq_false_iff_not, ordP_neg]
  unfold lexLt
  omega)
 refine h.imp fun {a b} hab => ?_
 simpa only [Bool.not_eq_true', decide_eq_false_iff_not, ordP_neg] using hab
theorem sorted_uniq {xs ys : List Pn} (h : xs.Perm ys) (h1 : xs.Pairwise fun x y => ¬ lexLt y x) (h2 : ys.Pairwise fun x y => ¬ lexLt y x) : xs = ys := by
 refine List.Perm.eq_of_pairwise (le := fun x y => ¬ lexLt y x) ?_ h1 h2 h
 intro a b _ _ h3 h4
 apply Classical.byContradiction
 intro h5
 rcases lexLt_or h5 with h6 | h6
 ·exact h4 h6
 ·exact h3 h6
theorem sortE_eq {xs ys : List Pn} (h : xs.Perm ys) : sortE xs = sortE ys :=
 sorted_uniq (((sortE_perm xs).trans h).trans (sortE_perm ys).symm) (sortE_pair xs) (sortE_pair ys)
def edL (ts : List T3) : List Pn := sortE (eqS ts (List.range (lfA ts).length))
theorem eqS_all {ts : List T3} {seen : List Nat} (hn : seen.Nodup) (h1 : ∀ j ∈ seen, j < (lfA ts).length) (h2 : ∀ j, j < (lfA ts).length → j ∈ seen) : sortE (eqS ts seen) = edL ts := by
 refine sortE_eq ?_
 have hp : seen.Perm (List.range (lfA ts).length) := (List.perm_ext_iff_of_nodup hn List.nodup_range).2 fun a => ⟨fun h => List.mem_range.2 (h1 a h), fun h => h2 a (List.mem_range.1 h)⟩
 exact hp.flatMap_right _
theorem lfA_len {ts : List T3} : ∀ k, (lf ts k).length = 3 * k
 | 0 => rfl
 | k + 1 => by
  rw [lf_succ, List.length_append, List.length_append, List.length_append, lfA_len k]
  simp only [List.length_cons, List.length_nil]
  omega
theorem lf_first {ts : List T3} : ∀ k, 0 < k → (lf ts k)[0]? = some (((tr ts 0).1, (tr ts 0).2.1), 0)
 | 0, h => absurd h (by decide)
 | 1, _ => rfl
 | k + 2, _ => by
  rw [lf_succ, List.append_assoc, List.append_assoc, List.getElem?_append_left (by rw [lfA_len]; omega)]
  exact lf_first (k + 1) (by omega)
theorem eqS_pos {l : List Pn} {ts : List T3} {seen : List Nat} (hall : ∀ j, j < ts.length → trK l ts j = 0) (h0 : 0 < ts.length) (h2 : ∀ j, j < (lfA ts).length → j ∈ seen) : eqS ts seen ≠ [] := fun h => by
 have hm := h2 0 (by unfold lfA; rw [lfA_len]; omega)
 unfold eqS at h
 rw [List.flatMap_eq_nil_iff] at h
 have h3 := h 0 hm
 unfold pk at h3
 unfold lfA at h3
 rw [lf_first _ h0] at h3
 simp only at h3
 unfold pkE at h3
 obtain ⟨_, h4, _⟩ := trK_0 (hall 0 h0)
 unfold ordB at h4
 rw [if_pos (.inl (by simp only; omega))] at h3
 cases h3
theorem eqS_le {ts : List T3} {seen : List Nat} : (eqS ts seen).length ≤ seen.length := by
 unfold eqS
 induction seen with
 | nil => exact Nat.le_refl _
 | cons j r ih =>
  rw [List.flatMap_cons, List.length_append, List.length_cons]
  have : (pk ts j).length ≤ 1 := by
   unfold pk
   split
   ·exact Nat.zero_le _
   ·unfold pkE
    split
    ·exact Nat.le_refl _
    ·exact Nat.zero_le _
  omega
end Go.Me
namespace Go.Proofs.YtmohcmghbfhdlaaGreat
open Go Go.RowKit Go.Ab Go.Me Go.Sort
set_option maxRecDepth 100000
set_option maxHeartbeats 4000000
attribute [local irreducible] OQ OW AL AW AF SW
instance : Inhabited Pn := ⟨⟨0, 0⟩⟩
theorem sortE_q {m : Mem} {b n c z : Nat} (es : List Pn) (hn : es.length = n) (h0 : 0 < n) (hl : n ≤ 100000) (hb : m.at b = some ⟨flatP es, true, z⟩) :
  ACalls Tryz.prog 111 [.slice (some ⟨b, 0, none⟩) n c, .func (.func 112) #[] #[]] m (.tuple #[]) (m.set b (some ⟨flatP (sortE es), true, z⟩)) := by
 have e : flatP es = es.flatMap fun p : Pn => [.int .i64 p.x, .int .i64 p.y] := rfl
 have h := ACalls.sortK (g := 112) (capA := #[]) (z := z) (c := c) Tryz.laysK6 2 (by kernel_rfl) (by kernel_rfl) (fun p : Pn => [.int .i64 p.x, .int .i64 p.y]) (fun _ => rfl) (fun x v hv => by
  simp only [List.mem_cons, List.not_mem_nil, or_false] at hv
  rcases hv with rfl | rfl <;> rfl) (fun _ => rfl) (fun x y => ordP x y) (swo_ord fun x : Pn => x) (fun x y h1 h2 => by
  simp only [ltOf, decide_eq_false_iff_not] at h1 h2
  exact ordP_tie h1 h2) (by kernel_rfl) es hn h0 (by omega) hb (CmpQ.of (fun _ _ => rfl) fun x y => byEdges_q x.x x.y y.x y.y _)
 exact h
theorem ro5p (a b c d e : Blk) (h1 : a.own = false) (h2 : b.own = false) (h3 : c.own = false) (h4 : d.own = false) (h5 : e.own = false) : Mem.ro [some a, some b, some c, some d, some e] := fun k blk hk => by
 match k, hk with
 | 0, hk => cases hk; exact h1
 | 1, hk => cases hk; exact h2
 | 2, hk => cases hk; exact h3
 | 3, hk => cases hk; exact h4
 | 4, hk => cases hk; exact h5
theorem at_1 (A B D : Blk) (hA : A.own = false) (hB : B.own = false) (hD : D.own = false) (n c k c2 z : Nat) (ev : Value) (L : List (IE × Int)) (hn : (L.map (·.1)).Nodup) (hL : ∀ p ∈ L, okE p.1) (a b : Int) (hab : okE (a, b)) :
  PCalls Tryz.prog 130 [.pointer (some ⟨2, 0, none⟩), .int .i64 a, .int .i64 b] [some A, some B, some ⟨netC n c k c2 ev, false, z⟩, some (mpR encE (lfV L)), some D] (.int .i64 (lk L (a, b))) := by
 have hk2 := lfV_keys L
 have hL2 : ∀ p ∈ lfV L, okE p.1 := fun p hp => by
  obtain ⟨x, hx, rfl⟩ := List.mem_map.1 hp
  exact hL x hx
 unfold netC
 by_cases he : (a, b) ∈ L.map (·.1)
 ·have hm := lfV_mem he
  refine PCalls.en 19 Tryz.func130 rfl (ro5p _ _ _ _ _ hA hB rfl rfl hD) rfl (fun E => ?_)
  repeat' (first | with_reducible (first | refine Then.n ?_ | refine Then.r ?_) | ((with_reducible refine AL.on ?_); first | ((first | refine AL.mv ?_ | refine AL.as ?_ | refine AL.et ?_ | ((with_reducible refine AL.k_fieldAddr ?_); refine AL.g (OQ.fieldA (ty := 110) (i := 2) (n := 1) (off := 3) (g := false) rfl kr (by decide)) ?_) | ((with_reducible refine AL.k_load ?_); (refine AL.g (OQ.load1 (ty := 108) rfl kr wl) ?_)) | refine AL.g (OQ.nilCheck rfl) ?_ | (refine AL.g (OQ.mlookS (k := (a, b)) KE hab hL2 rfl rfl Tryz.underlying108 rfl (by rw [hk2]; exact hn) hm rfl).1 ?_)); refine AL.nm ?_) | ((refine AL.g (OQ.buildA (ty := 52) (zs := [.int .i64 0, .int .i64 0]) (n := 1) (k := 2) (g := false) kr rfl kr rfl rfl rfl) ?_); refine AL.nm ?_) | refine AL.nil ?_) | ((with_reducible refine AW.on ?_); first | refine AW.seq ?_ | refine AW.ret ?_ | refine AW.region ?_ | (refine AW.conds rfl (fun hc => ?_) (fun hc => ?_) <;> (try replace hc := nc hc) <;> first | (exfalso; contradiction) | skip)) | ((with_reducible refine FinP.on ?_); (refine FinP.ret (.tmp wl .nil) ?_ rfl); (try simp only [pack, List.drop, List.take]); all_goals (rfl)))
 ·have hl := lk_not he
  rw [hl]
  refine PCalls.en 19 Tryz.func130 rfl (ro5p _ _ _ _ _ hA hB rfl rfl hD) rfl (fun E => ?_)
  repeat' (first | with_reducible (refine Then.n ?_) | ((with_reducible refine AL.on ?_); first | ((first | refine AL.mv ?_ | refine AL.as ?_ | refine AL.et ?_ | ((with_reducible refine AL.k_fieldAddr ?_); refine AL.g (OQ.fieldA (ty := 110) (i := 2) (n := 1) (off := 3) (g := false) rfl kr (by decide)) ?_) | ((with_reducible refine AL.k_load ?_); (refine AL.g (OQ.load1 (ty := 108) rfl kr wl) ?_)) | refine AL.g (OQ.nilCheck rfl) ?_ | (refine AL.g (OQ.mlookN (k := (a, b)) (v := .int .i64 0) KE hab hL2 rfl rfl Tryz.underlying108 rfl (by rw [hk2]; exact he) (fun w => by kernel_rfl) rfl).1 ?_)); refine AL.nm ?_) | ((refine AL.g (OQ.buildA (ty := 52) (zs := [.int .i64 0, .int .i64 0]) (n := 1) (k := 2) (g := false) kr rfl kr rfl rfl rfl) ?_); refine AL.nm ?_) | refine AL.nil ?_) | ((with_reducible refine AW.on ?_); first | refine AW.seq ?_ | refine AW.skip ?_ | refine AW.ret ?_ | refine AW.region ?_ | (refine AW.conds rfl (fun hc => ?_) (fun hc => ?_) <;> (try replace hc := nc hc) <;> first | (exfalso; contradiction) | skip)) | ((with_reducible refine FinP.on ?_); (refine FinP.ret (.tmp wl .nil) ?_ rfl); (try simp only [pack, List.drop, List.take]); all_goals (rfl)))
theorem at_e {m : Mem} {bP bT bN bL bE n c k c2 ne : Nat} {A B N D : Blk} {own : Bool} {z : Nat} (l : List Pn) (ts : List T3) (es : List Pn) (L : List (IE × Int)) (hn : (L.map (·.1)).Nodup) (hL : ∀ p ∈ L, okE p.1) (a b : Int) (hab : okE (a, b))
  (hP : m.at bP = some A) (hPc : A.cells = flatP l) (hT : m.at bT = some B) (hTc : B.cells = flatT ts) (hN : m.at bN = some N) (hNc : N.cells = [.slice (some ⟨bP, 0, none⟩) n c, .slice (some ⟨bT, 0, none⟩) k c2, .slice (some ⟨bE, 0, none⟩) ne INF, .map (some bL)])
  (hM : m.at bL = some (mpX L own z)) (hz : z = 0) (hD : m.at bE = some D) (hDc : D.cells = flatP es) (hPo : A.obj = Ob.plain := by rfl) (hTo : B.obj = Ob.plain := by rfl) (hNo : N.obj = Ob.plain := by rfl) (hDo : D.obj = Ob.plain := by rfl) :
  PCalls Tryz.prog 130 [.pointer (some ⟨bN, 0, none⟩), .int .i64 a, .int .i64 b] m (.int .i64 (lk L (a, b))) := by
 subst hz
 exact PCalls.viaS [bP, bT, bN, bL, bE] (at_1 ⟨flatP l, false, A.esz⟩ ⟨flatT ts, false, B.esz⟩ ⟨flatP es, false, D.esz⟩ rfl rfl rfl n c k c2 N.esz (.slice (some ⟨4, 0, none⟩) ne INF) L hn hL a b hab) (ro5p _ _ _ _ _ rfl rfl rfl rfl rfl)
  ⟨bS hP hPo hPc (flatP_scal _), bS hT hTo hTc (flatT_scal _), bI hN hNo hNc, ⟨_, hM, rfl, (fun h => nomatch h), .inl ⟨rfl, rfl⟩⟩, bS hD hDo hDc (flatP_scal _), trivial⟩ rfl rfl rfl rfl
end Go.Proofs.YtmohcmghbfhdlaaGreat
end
end
