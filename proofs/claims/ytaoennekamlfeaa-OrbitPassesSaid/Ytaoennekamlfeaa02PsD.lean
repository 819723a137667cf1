/- OrbitPasses: Passes returns the ranges of ticks near a place, or the errors; farther away there are no fewer ticks. -/
import Derived.Test.Ytaoennekamlfeaa02Ps
import Derived.Test.Ytaoennekamlfeaa02Gl
set_option linter.unusedSimpArgs false
set_option linter.unusedVariables false

section
namespace Go.Proofs.Ytaoennekamlfeaa
open Go Go.RowKit Go.Ob Go.Ab
set_option maxRecDepth 100000
set_option maxHeartbeats 1000000

theorem First_q {m : Mem} {v : Value} {l : List St} {nm : ByteArray} {bd : Int} (hS : SlB m v l) (ho : Ors nm l) (hR : Right bd l) : PCalls Try.prog 33 [obW nm bd v] m (.int .i64 (frstT l)) :=
  of_sl hS ho rfl rfl fun w a cap hO => by
    obtain ⟨b, off, rfl, hbw, hmem⟩ := hO.mem hR
    exact First_any nm bd b off cap l w hmem hbw (by have := hR.n2; omega) (by have := hR.n40; omega)
theorem Last_q {m : Mem} {v : Value} {l : List St} {nm : ByteArray} {bd : Int} (hS : SlB m v l) (ho : Ors nm l) (hR : Right bd l) : PCalls Try.prog 34 [obW nm bd v] m (.int .i64 (lastT l)) :=
  of_sl hS ho rfl rfl fun w a cap hO => by
    obtain ⟨b, off, rfl, hbw, hmem⟩ := hO.mem hR
    exact Last_any nm bd b off cap l w hmem hbw (by have := hR.n2; omega) (by have := hR.n40; omega)
theorem Square_q (x y z a b c : Int) (hx : -1000000000 ≤ x - a ∧ x - a ≤ 1000000000) (hy : -1000000000 ≤ y - b ∧ y - b ≤ 1000000000) (hz : -1000000000 ≤ z - c ∧ z - c ≤ 1000000000) (m : Mem) :
    PCalls Try.prog 40 [v3 x y z, v3 a b c] m (.int .i64 ((x - a) * (x - a) + (y - b) * (y - b) + (z - c) * (z - c))) := PCalls.of_calls rfl rfl fun w => rSquare_any x y z a b c w hx hy hz

section
attribute [local irreducible] OQ OW AL AW AD AF SW rgV rgB
theorem rPasses_0 (nm : ByteArray) (bd x y z mo : Int) (l : List St) (z0 : Nat) (hn : nm.size ≤ 1000) (hR : Right bd l)
    (hx : -100000000 ≤ x ∧ x ≤ 100000000) (hy : -100000000 ≤ y ∧ y ≤ 100000000) (hz : -100000000 ≤ z ∧ z ≤ 100000000) (hmo : 0 ≤ mo ∧ mo ≤ 100000000) :
    ACalls Try.prog 23 [obI nm bd 0 l, v3 x y z, .int .i64 mo] [some ⟨flatS l, false, z0⟩] (rgV 1 (psL l x y z mo)) [some ⟨flatS l, false, z0⟩, rgB (psL l x y z mo)] := by
  have ho := Ors.of_right hn hR
  have HF := fun (m : Mem) (v : Value) (hS : SlB m v l) => First_q (bd := bd) hS ho hR
  have HL := fun (m : Mem) (v : Value) (hS : SlB m v l) => Last_q (bd := bd) hS ho hR
  have HN := fun (m : Mem) (v : Value) (hS : SlB m v l) (t : Int) (h0 : frstT l ≤ t) (h1 : t ≤ lastT l) => Nominal_q (bd := bd) hS ho hR t h0 h1
  have HB := fun (t : Int) (h0 : frstT l ≤ t) (h1 : t ≤ lastT l) => nom_bd hR h0 h1
  have HQ : ∀ (t : Int) (h0 : frstT l ≤ t) (h1 : t ≤ lastT l) (m : Mem), PCalls Try.prog 40 [p3V (nom l t), v3 x y z] m (.int .i64 (nsq l x y z t)) := fun t h0 h1 m => by
    have hb := HB t h0 h1
    exact Square_q _ _ _ x y z (by omega) (by omega) (by omega) m
  obtain ⟨hN, t0, t1, hN2⟩ := nTicks_eq hR
  have hm := sq_bd (n := mo) (M := 100000000) (by omega) (by omega)
  have hyes : ∀ k : Nat, nsq l x y z (frstT l + k) ≤ mo * mo → runTo (fun t => decide (nsq l x y z t ≤ mo * mo)) (frstT l) (k + 1) = grow (runTo (fun t => decide (nsq l x y z t ≤ mo * mo)) (frstT l) k) (frstT l + k) := fun k h => runTo_yes (decide_eq_true h)
  have hno : ∀ k : Nat, ¬ nsq l x y z (frstT l + k) ≤ mo * mo → runTo (fun t => decide (nsq l x y z t ≤ mo * mo)) (frstT l) (k + 1) = runTo (fun t => decide (nsq l x y z t ≤ mo * mo)) (frstT l) k := fun k h => runTo_no (decide_eq_false h)
  have hlen := runTo_len (fun t => decide (nsq l x y z t ≤ mo * mo)) (frstT l)
  unfold psL
  generalize hG : runTo (fun t => decide (nsq l x y z t ≤ mo * mo)) (frstT l) = G at *
  have hG0 : G 0 = [] := by rw [← hG]; rfl
  clear hG
  refine ACalls.enter (t := [obI nm bd 0 l, v3 x y z, .int .i64 mo, undef, undef, undef, undef, undef, undef, undef, undef, undef, undef, undef, undef, undef, undef, undef, undef, undef, undef, undef, undef, undef, undef, undef, undef, undef, undef, undef]) Try.func23 rfl rfl fun E hE => ?_
  repeat' (first
    | with_reducible refine Then.n ?_
    | with_reducible refine Then.r ?_
    | with_reducible refine Then.x ?_
    | with_reducible refine InB.n ?_
    | with_reducible refine InB.r ?_
    | with_reducible refine InB.hit ?_
    | with_reducible refine InB.miss (by decide) ?_
    | ((with_reducible refine AL.on ?_); first
      | ((first | ((with_reducible refine AL.k_move ?_); first | (refine AL.q rfl (OQ.move (by conv => lhs; whnf)) ?_)) | ((with_reducible refine AL.k_assign ?_); first | (refine AL.q rfl (OQ.assign (by conv => lhs; whnf)) ?_)) | ((with_reducible refine AL.k_load ?_); first | refine AL.q rfl (OQ.loadN (ty := 24) (n := 3) rfl (by kernel_rfl) (by kernel_rfl) rfl) ?_) | ((with_reducible refine AL.k_binOp ?_); first | refine AL.q rfl (OQ.leq rfl rfl) ?_ | refine AL.q rfl (OQ.addi rfl rfl (by omega)) ?_ | refine AL.q rfl (OQ.add rfl rfl) ?_)); (conv => (arg 5; try simp only [T.put, T.ev, putAt, setsT, newBlks, fillL, List.map, List.set, List.append, List.cons_append, List.nil_append, List.length, List.getElem?_cons_zero, List.getElem?_cons_succ, Nat.reduceAdd, Nat.reduceMul, Nat.zero_add, Nat.add_zero, Nat.mul_one, Nat.zero_mul, List.drop, List.take, List.toList_toArray, Value.cells, Int.reduceToNat, Int.toNat_natCast, List.getD, Option.getD, Option.map, flat, flat1, scal, if_true, ↓reduceIte])))
      | ((first | first | refine AL.pcall (g := 33) rfl (by kernel_rfl) rfl (HF _ _ (.blk 0 _ rfl rfl rfl)) ?_ | refine AL.pcall (g := 34) rfl (by kernel_rfl) rfl (HL _ _ (.blk 0 _ rfl rfl rfl)) ?_); (conv => (arg 5; try simp only [T.put, T.ev, putAt, setsT, newBlks, fillL, List.map, List.set, List.append, List.cons_append, List.nil_append, List.length, List.getElem?_cons_zero, List.getElem?_cons_succ, Nat.reduceAdd, Nat.reduceMul, Nat.zero_add, Nat.add_zero, Nat.mul_one, Nat.zero_mul, List.drop, List.take, List.toList_toArray, Value.cells, Int.reduceToNat, Int.toNat_natCast, List.getD, Option.getD, Option.map, flat, flat1, scal, if_true, ↓reduceIte])))
      | ((first | ((with_reducible refine AL.k_call ?_); first | refine AL.acall (g := 79) rfl (by kernel_rfl) rfl ((by exact grown_q _ _ rfl (by omega) (by omega))) ?_) | ((with_reducible refine AL.k_box ?_); first | (refine AL.w rfl (OW.box (by conv => lhs; whnf) (by intro r h; cases h)) ?_))); (conv => (arg 5; try simp only [T.put, T.ev, putAt, setsT, newBlks, fillL, List.map, List.set, List.append, List.cons_append, List.nil_append, List.length, List.getElem?_cons_zero, List.getElem?_cons_succ, Nat.reduceAdd, Nat.reduceMul, Nat.zero_add, Nat.add_zero, Nat.mul_one, Nat.zero_mul, List.drop, List.take, List.toList_toArray, Value.cells, Int.reduceToNat, Int.toNat_natCast, List.getD, Option.getD, Option.map, flat, flat1, scal, if_true, ↓reduceIte])); (conv => (arg 6; try simp only [T.put, T.ev, putAt, setsT, newBlks, fillL, List.map, List.set, List.append, List.cons_append, List.nil_append, List.length, List.getElem?_cons_zero, List.getElem?_cons_succ, Nat.reduceAdd, Nat.reduceMul, Nat.zero_add, Nat.add_zero, Nat.mul_one, Nat.zero_mul, List.drop, List.take, List.toList_toArray, Value.cells, Int.reduceToNat, Int.toNat_natCast, List.getD, Option.getD, Option.map, flat, flat1, scal, if_true, ↓reduceIte])))
      | refine AL.nil ?_)
    | ((with_reducible refine AW.on ?_); first
      | refine AW.seq ?_
      | refine AW.skip ?_
      | refine AW.exit ?_
      | refine AW.ret ?_
      | ((refine AW.block (id := 0) ?_); (refine AW.wk (t' := [junk, junk, .int .i64 mo, .pointer (some ⟨1, 0, none⟩), .pointer (some ⟨2, 0, none⟩), junk, junk, .slice none 0 0, .int .i64 (frstT l), junk, junk, junk, junk, junk, junk, junk, junk, junk, junk, junk, junk, junk, junk, junk, junk, junk, junk, junk, junk, junk]) (m' := [some ⟨flatS l, false, z0⟩, some ⟨[.string nm, .int .i64 bd, .slice (some ⟨0, 0, none⟩) l.length INF], true, 0⟩, some ⟨[.int .i64 x, .int .i64 y, .int .i64 z], true, 0⟩, none]) (Wk.keep 3 [3] (by rw [hE]; exact (by decide : 1 ≤ 3)) rfl rfl (by repeat (first | exact RenT.nil | refine RenT.junk ?_ | refine RenT.val (by first | rfl | with_reducible assumption | (simp only [rn3, rn2, rn1, kσ]; done)) (by first | rfl | assumption | (simp [ok3, ok2, ok1]; done)) ?_)) ⟨⟨_, rfl, rfl, rfl, .inl ⟨rfl, flatS_scal l⟩⟩, ⟨_, rfl, rfl, rfl, .inr ⟨rfl, rfl⟩⟩, ⟨_, rfl, rfl, rfl, .inl ⟨rfl, rfl⟩⟩, trivial⟩) ?_); (refine AW.loop (fun n t' m => ∃ k : Nat, n = nTicks l - k ∧ k ≤ nTicks l ∧ t' = [junk, junk, .int .i64 mo, .pointer (some ⟨1, 0, none⟩), .pointer (some ⟨2, 0, none⟩), junk, junk, rgV 3 (G k), .int .i64 (frstT l + k), junk, junk, junk, junk, junk, junk, junk, junk, junk, junk, junk, junk, junk, junk, junk, junk, junk, junk, junk, junk, junk] ∧ m = [some ⟨flatS l, false, z0⟩, some ⟨[.string nm, .int .i64 bd, .slice (some ⟨0, 0, none⟩) l.length INF], true, 0⟩, some ⟨[.int .i64 x, .int .i64 y, .int .i64 z], true, 0⟩, rgB (G k)]) (nTicks l) (by exact ⟨0, rfl, Nat.zero_le _, by rw [hG0, rgV_nil]; simp, by rw [hG0, rgB_nil]⟩) ?_); (rintro n t' m ⟨k, rfl, hk, rfl, rfl⟩))
      | refine AW.block ?_
      | (refine AW.draw (id := 5) 9 #[0, 0, 3, 0, 15, 0, 0, 96, 255] (by kernel_rfl) (by kernel_rfl) ?_; (conv => (arg 8; simp only [List.take_succ_cons, List.take_zero])); (have hkN : k < nTicks l := by omega); all_goals (have hlk := hlen k))
      | (refine AW.region (id := 7) ?_; (obtain rfl : k = nTicks l := by omega); all_goals (have hr1 : rn3 (kσ 1 [3]) (rgV 1 (G (nTicks l))) = rgV 3 (G (nTicks l)) := rgV_rn _ _ _); all_goals (have hr2 : ok3 2 (rgV 1 (G (nTicks l))) = true := rgV_ok _ (by decide)))
      | refine AW.region ?_
      | (refine AW.conds rfl (fun hc => ?_) (fun hc => ?_) <;> (try simp only [decide_eq_true_eq, decide_eq_false_iff_not, Bool.not_true, Bool.not_false, Bool.not_eq_true', Bool.not_eq_false', Int.not_lt, Int.not_le, Classical.not_not, ne_eq] at hc) <;> first | (exfalso; first | contradiction | (omega); done) | skip))
    | ((with_reducible refine AD.on ?_); first
      | ((first | ((with_reducible refine AD.k_move ?_); first | (refine AD.q rfl (OQ.move (by conv => lhs; whnf)) rfl rfl rfl ?_)) | ((with_reducible refine AD.k_load ?_); first | refine AD.q rfl (OQ.loadN (ty := 24) (n := 3) rfl (by kernel_rfl) (by kernel_rfl) rfl) rfl rfl rfl ?_ | refine AD.q rfl (OQ.loadN (ty := 26) (n := 3) rfl (by kernel_rfl) (by kernel_rfl) rfl) rfl rfl rfl ?_) | ((with_reducible refine AD.k_binOp ?_); first | refine AD.q rfl (OQ.muli rfl rfl (by omega)) rfl rfl rfl ?_ | refine AD.q rfl (OQ.mul rfl rfl) rfl rfl rfl ?_ | refine AD.q rfl (OQ.leq rfl rfl) rfl rfl rfl ?_)); (conv => (arg 10; try simp only [T.put, T.ev, putAt, setsT, newBlks, fillL, List.map, List.set, List.append, List.cons_append, List.nil_append, List.length, List.getElem?_cons_zero, List.getElem?_cons_succ, Nat.reduceAdd, Nat.reduceMul, Nat.zero_add, Nat.add_zero, Nat.mul_one, Nat.zero_mul, List.drop, List.take, List.toList_toArray, Value.cells, Int.reduceToNat, Int.toNat_natCast, List.getD, Option.getD, Option.map, flat, flat1, scal, if_true, ↓reduceIte])))
      | ((first | first | refine AD.pcall (g := 29) rfl (by kernel_rfl) rfl (HN _ _ (.blk 0 _ rfl rfl rfl) _ (by omega) (by omega)) rfl rfl ?_ | refine AD.pcall (g := 40) rfl (by kernel_rfl) rfl (HQ _ (by omega) (by omega) _) rfl rfl ?_); (conv => (arg 10; try simp only [T.put, T.ev, putAt, setsT, newBlks, fillL, List.map, List.set, List.append, List.cons_append, List.nil_append, List.length, List.getElem?_cons_zero, List.getElem?_cons_succ, Nat.reduceAdd, Nat.reduceMul, Nat.zero_add, Nat.add_zero, Nat.mul_one, Nat.zero_mul, List.drop, List.take, List.toList_toArray, Value.cells, Int.reduceToNat, Int.toNat_natCast, List.getD, Option.getD, Option.map, flat, flat1, scal, if_true, ↓reduceIte])))
      | (refine AD.nil ?_; (conv => (arg 4; simp only [List.drop_succ_cons, List.drop_zero, List.drop_nil])); (conv => (arg 5; try simp only [T.put, T.ev, putAt, setsT, newBlks, fillL, List.map, List.set, List.append, List.cons_append, List.nil_append, List.length, List.getElem?_cons_zero, List.getElem?_cons_succ, Nat.reduceAdd, Nat.reduceMul, Nat.zero_add, Nat.add_zero, Nat.mul_one, Nat.zero_mul, List.drop, List.take, List.toList_toArray, Value.cells, Int.reduceToNat, Int.toNat_natCast, List.getD, Option.getD, Option.map, flat, flat1, scal, if_true, ↓reduceIte])); (conv => (arg 6; try simp only [T.put, T.ev, putAt, setsT, newBlks, fillL, List.map, List.set, List.append, List.cons_append, List.nil_append, List.length, List.getElem?_cons_zero, List.getElem?_cons_succ, Nat.reduceAdd, Nat.reduceMul, Nat.zero_add, Nat.add_zero, Nat.mul_one, Nat.zero_mul, List.drop, List.take, List.toList_toArray, Value.cells, Int.reduceToNat, Int.toNat_natCast, List.getD, Option.getD, Option.map, flat, flat1, scal, if_true, ↓reduceIte]))))
    | ((with_reducible refine ex_on ?_); first | (refine ⟨nTicks l - (k + 1), [junk, junk, .int .i64 mo, .pointer (some ⟨1, 0, none⟩), .pointer (some ⟨2, 0, none⟩), junk, junk, rgV 3 (grow (G k) (frstT l + k)), .int .i64 (frstT l + k + 1), junk, junk, junk, junk, junk, junk, junk, junk, junk, junk, junk, junk, junk, junk, junk, junk, junk, junk, junk, junk, junk], [some ⟨flatS l, false, z0⟩, some ⟨[.string nm, .int .i64 bd, .slice (some ⟨0, 0, none⟩) l.length INF], true, 0⟩, some ⟨[.int .i64 x, .int .i64 y, .int .i64 z], true, 0⟩, rgB (grow (G k) (frstT l + k))], by omega, ?_, k + 1, rfl, by omega, by rw [hyes k (by omega), show frstT l + ((k + 1 : Nat) : Int) = frstT l + k + 1 by omega], by rw [hyes k (by omega)]⟩; have hr1 : rn3 (kσ 3 [4]) (rgV 3 (grow (G k) (frstT l + k))) = rgV 4 (grow (G k) (frstT l + k)) := rgV_rn _ _ _; have hr2 : ok3 4 (rgV 3 (grow (G k) (frstT l + k))) = true := rgV_ok _ (by decide); exact Wk.keep 3 [4] (by rw [hE]; exact (by decide : 1 ≤ 3)) rfl rfl (by repeat (first | exact RenT.nil | refine RenT.junk ?_ | refine RenT.val (by first | rfl | with_reducible assumption | (simp only [rn3, rn2, rn1, kσ]; done)) (by first | rfl | assumption | (simp [ok3, ok2, ok1]; done)) ?_)) ⟨⟨_, rfl, rfl, rfl, .inl ⟨rfl, flatS_scal l⟩⟩, ⟨_, rfl, rfl, rfl, .inr ⟨rfl, rfl⟩⟩, ⟨_, rfl, rfl, rfl, .inl ⟨rfl, rfl⟩⟩, memRen_opt rfl (fun b h => (rgB_scal _ b h).2) trivial⟩) | (refine ⟨nTicks l - (k + 1), [junk, junk, .int .i64 mo, .pointer (some ⟨1, 0, none⟩), .pointer (some ⟨2, 0, none⟩), junk, junk, rgV 3 (G k), .int .i64 (frstT l + k + 1), junk, junk, junk, junk, junk, junk, junk, junk, junk, junk, junk, junk, junk, junk, junk, junk, junk, junk, junk, junk, junk], [some ⟨flatS l, false, z0⟩, some ⟨[.string nm, .int .i64 bd, .slice (some ⟨0, 0, none⟩) l.length INF], true, 0⟩, some ⟨[.int .i64 x, .int .i64 y, .int .i64 z], true, 0⟩, rgB (G k)], by omega, ?_, k + 1, rfl, by omega, by rw [hno k (by omega), show frstT l + ((k + 1 : Nat) : Int) = frstT l + k + 1 by omega], by rw [hno k (by omega)]⟩; have hr1 : rn3 (kσ 3 [3]) (rgV 3 (G k)) = rgV 3 (G k) := rgV_rn _ _ _; have hr2 : ok3 4 (rgV 3 (G k)) = true := rgV_ok _ (by decide); exact Wk.keep 3 [3] (by rw [hE]; exact (by decide : 1 ≤ 3)) rfl rfl (by repeat (first | exact RenT.nil | refine RenT.junk ?_ | refine RenT.val (by first | rfl | with_reducible assumption | (simp only [rn3, rn2, rn1, kσ]; done)) (by first | rfl | assumption | (simp [ok3, ok2, ok1]; done)) ?_)) ⟨⟨_, rfl, rfl, rfl, .inl ⟨rfl, flatS_scal l⟩⟩, ⟨_, rfl, rfl, rfl, .inr ⟨rfl, rfl⟩⟩, ⟨_, rfl, rfl, rfl, .inl ⟨rfl, rfl⟩⟩, memRen_opt rfl (fun b h => (rgB_scal _ b h).2) trivial⟩))
    | ((with_reducible refine FinA.on ?_); (refine FinA.keep 1 [3] (.inl rfl) (.tmp (by conv => lhs; whnf) .nil) ?_ hr2 (Nat.le_of_eq hE) rfl rfl ⟨⟨_, rfl, rfl, rfl, .inl ⟨rfl, flatS_scal l⟩⟩, memRen_opt rfl (fun b h => (rgB_scal _ b h).2) trivial⟩; exact hr1)))
end
end Go.Proofs.Ytaoennekamlfeaa
end

section
namespace Go.Proofs.Ytaoennekamlfeaa
open Go Go.Ob

theorem rg_app {L : List (Int × Int)} {r : Int × Int} {j : Nat} (h : j < L.length) : rg_ (L ++ [r]) j = rg_ L j := by
  unfold rg_
  rw [List.getD_eq_getElem?_getD, List.getD_eq_getElem?_getD, List.getElem?_append_left h]
theorem rg_last {L : List (Int × Int)} {r : Int × Int} : rg_ (L ++ [r]) L.length = r := by
  unfold rg_
  rw [List.getD_eq_getElem?_getD, List.getElem?_append_right (Nat.le_refl _)]
  simp
theorem tkTo_eq {L M : List (Int × Int)} : ∀ k, (∀ j, j < k → rg_ L j = rg_ M j) → tkTo L k = tkTo M k
  | 0, _ => rfl
  | k + 1, h => by simp only [tkTo]; rw [tkTo_eq k fun j hj => h j (by omega), h k (by omega)]
def nTk (L : List (Int × Int)) : Int := tkTo L L.length
theorem nTk_snoc (L : List (Int × Int)) (r : Int × Int) : nTk (L ++ [r]) = nTk L + (r.2 - r.1 + 1) := by
  unfold nTk
  rw [List.length_append, List.length_singleton]
  simp only [tkTo]
  rw [tkTo_eq L.length fun j hj => rg_app hj, rg_last]
theorem nTk_grow (L : List (Int × Int)) (t : Int) : nTk (grow L t) = nTk L + 1 := by
  rcases List.eq_nil_or_concat L with h | ⟨L0, ⟨a, b⟩, h⟩
  · subst h
    rw [grow_nil, show [(t, t)] = [] ++ [(t, t)] from rfl, nTk_snoc]
    simp only
    omega
  · rw [List.concat_eq_append] at h
    subst h
    by_cases e : b = t - 1
    · rw [grow_last _ _ _ _ e, nTk_snoc, nTk_snoc]
      simp only
      omega
    · rw [grow_new _ _ _ _ e, nTk_snoc]
      simp only
      omega
theorem nTk_mono {is is' : Int → Bool} (h : ∀ t, is t = true → is' t = true) (a : Int) : ∀ k, nTk (runTo is a k) ≤ nTk (runTo is' a k)
  | 0 => Int.le_refl _
  | k + 1 => by
    have ih := nTk_mono h a k
    cases h1 : is (a + k) with
    | false =>
      rw [runTo_no h1]
      cases h2 : is' (a + k) with
      | false => rw [runTo_no h2]; exact ih
      | true => rw [runTo_yes h2, nTk_grow]; omega
    | true => rw [runTo_yes h1, runTo_yes (h _ h1), nTk_grow, nTk_grow]; omega
theorem runTo_in (is : Int → Bool) (a : Int) : ∀ k : Nat, ∀ r ∈ runTo is a k, a ≤ r.1 ∧ r.1 ≤ r.2 ∧ r.2 < a + k
  | 0, r, hr => by simp [runTo] at hr
  | k + 1, r, hr => by
    have ih := runTo_in is a k
    rcases run_cases is a k with ⟨_, _, e⟩ | ⟨L, q, _, e1, e⟩ | ⟨_, _, e⟩ | ⟨L, p, q, _, hq, e1, e⟩ | ⟨L, p, q, _, hq, e1, e⟩
    · rw [e] at hr; simp at hr
    · rw [e, ← e1] at hr; have := ih r hr; omega
    · rw [e] at hr; simp at hr; subst hr; simp only; omega
    · rw [e] at hr
      rw [e1] at ih
      rcases List.mem_append.1 hr with h | h
      · have := ih r (List.mem_append_left _ h); omega
      · simp at h; subst h; have := ih (p, q) (by simp); simp only at this ⊢; omega
    · rw [e] at hr
      rw [e1] at ih
      rcases List.mem_append.1 hr with h | h
      · have := ih r h; omega
      · simp at h; subst h; simp only; omega
theorem rg_mem {L : List (Int × Int)} {k : Nat} (h : k < L.length) : rg_ L k ∈ L := by
  unfold rg_
  rw [List.getD_eq_getElem?_getD, List.getElem?_eq_getElem h]
  exact List.getElem_mem h
end Go.Proofs.Ytaoennekamlfeaa
end

section
namespace Go.Proofs.Ytaoennekamlfeaa
open Go Go.RowKit Go.Ob Go.Ab
set_option maxRecDepth 100000
set_option maxHeartbeats 1000000

theorem brief_q {m : Mem} {v : Value} {l : List St} {nm : ByteArray} {bd : Int} (hS : SlB m v l) (hwf : ∀ k, k < l.length → -9223372036854775808 ≤ (at_ l k).t ∧ (at_ l k).t ≤ 9223372036854775807) (hl : (l.length : Int) ≤ 9223372036854775807) (hnm : (nm.size : Int) ≤ 9223372036854775807) :
    PCalls Try.prog 16 [obW nm bd v] m (.bool (fewB nm.size l.length && briefB nm.data.toList bd l)) := by
  intro ρ args' w hdom hargs hm
  obtain ⟨xs', e, h1, hg⟩ := hargs.tuple_inv
  cases e
  obtain ⟨u, e0, r0⟩ := hg 0 _ rfl
  obtain ⟨cs, rfl, hs, hg'⟩ := r0.agg_inv
  obtain ⟨u0, f0, q0⟩ := hg' 0 _ rfl
  obtain ⟨u1, f1, q1⟩ := hg' 1 _ rfl
  obtain ⟨u2, f2, q2⟩ := hg' 2 _ rfl
  obtain ⟨a, cap, rfl, hSt, hcap⟩ := hS.real hwf hm q2
  have hcs : cs = #[.string nm, .int .i64 bd, .slice a l.length cap] := by
    refine Array.ext_getElem? fun i => ?_
    match i with
    | 0 => rw [f0, q0.string]; rfl
    | 1 => rw [f1, q1.int]; rfl
    | 2 => exact f2
    | i + 3 => rw [Array.getElem?_eq_none (by simp at hs; omega), Array.getElem?_eq_none (by simp)]
  have : args' = #[obV nm bd a l.length cap] := by
    refine Array.ext_getElem? fun i => ?_
    match i with
    | 0 => rw [e0, hcs]; rfl
    | i + 1 => rw [Array.getElem?_eq_none (by simp at h1; omega), Array.getElem?_eq_none (by simp)]
  subst this
  cases hf : fewB nm.size l.length with
  | false => exact (Brief_no nm bd a l.length cap w hl hnm hf).mono fun e w' ⟨he, hb⟩ => ⟨_, he, .scal rfl, hb⟩
  | true => exact (Brief_yes nm bd a cap l w ⟨by have := (fewB_spec hf).1; omega, hSt, hcap, by omega⟩ hf).mono fun e w' ⟨he, hb⟩ => ⟨_, he, .scal rfl, hb⟩

theorem Within_q (n lo hi : Int) (m : Mem) : PCalls Try.prog 21 [.int .i64 n, .int .i64 lo, .int .i64 hi] m (.bool (rngB n lo hi)) := PCalls.of_same rfl rfl fun w => rWithin_any n lo hi w
theorem IsPlace_q (x y z : Int) (m : Mem) : PCalls Try.prog 20 [v3 x y z] m (.bool (plB x y z)) := PCalls.of_calls rfl rfl fun w => IsPlace_any x y z w

theorem ACalls.pcalls {P : Program} {f : FuncId} {args : List Value} {m m' : Mem} {v : Value} (h : ACalls P f args m v m') (hro : m.ro) (hv : flat v = true) : PCalls P f args m v := by
  intro ρ args' w hdom hargs hm
  refine (h ⟨w, fun _ => False, ρ, m.length, hdom⟩ ρ args' w hargs ⟨rfl, rfl, rfl, Nat.le_refl _, fun _ _ _ => rfl, fun _ _ => rfl, Nat.le_refl _, hdom, hm, fun b blk pl hb ho => by rw [hro b blk hb] at ho; cases ho⟩).mono ?_
  rintro e w' ⟨v', ρ', rfl, hx, hvr, hs⟩
  refine ⟨v', rfl, ?_, ⟨hs.os, hs.tape, hs.output, hs.size, fun k hk => hs.same k hk id⟩⟩
  rw [hvr.of_flat hv]
  exact .flat hv

/-- Passes in any memory: with a list, or with none. -/
theorem ps_a {m : Mem} {i : Nat} {blk : Blk} {l : List St} (nm : ByteArray) (bd x y z mo : Int) (L : List (Int × Int)) (BL : Blk) (hb : m.at i = some blk) (hcl : blk.cells = flatS l) (hL : rgB L = some BL) {f : FuncId} {v0 v : Value}
    (h : ∀ z0, ACalls Try.prog f [obI nm bd 0 l, v3 x y z, .int .i64 mo] [some ⟨flatS l, false, z0⟩] v0 [some ⟨flatS l, false, z0⟩, rgB L]) (hv : rn3 (τn (fun _ => i) 1 m.length) v0 = v) (hkv : ok3 2 v0 = true) :
    ACalls Try.prog f [obI nm bd i l, v3 x y z, .int .i64 mo] m v (m ++ [some BL]) := by
  have h' := h blk.esz
  rw [hL] at h'
  refine ACalls.viaN (m0 := [some ⟨flatS l, false, blk.esz⟩]) (fun _ => i) h' (fun b bk hx => ?_) here1 (fun b h => by cases h; exact rgB_scal L _ hL) rfl rfl hv hkv
  have := Mem.at_lt hx
  simp at this
  subst this
  simp [Mem.at] at hx
  subst hx
  refine ⟨rfl, ok1_of_scal (flatS_scal l), blk, hb, rfl, fun j u hu => ?_⟩
  rw [hcl, rn1_scal (List.all_eq_true.1 (flatS_scal l) u (List.mem_of_getElem? hu))]
  exact hu
theorem ps_p {m : Mem} {i : Nat} {blk : Blk} {l : List St} (nm : ByteArray) (bd x y z mo : Int) {m' : Nat → Mem} (hb : m.at i = some blk) (hcl : blk.cells = flatS l) {f : FuncId} {v0 : Value}
    (h : ∀ z0, ACalls Try.prog f [obI nm bd 0 l, v3 x y z, .int .i64 mo] [some ⟨flatS l, false, z0⟩] v0 (m' z0)) (hf : flat v0 = true) (hv : rn3 (fun _ => i) v0 = v0) (hkv : ok3 1 v0 = true) :
    PCalls Try.prog f [obI nm bd i l, v3 x y z, .int .i64 mo] m v0 :=
  PCalls.via1 (fun z0 => ACalls.pcalls (h z0) (ro1 _ rfl) hf) hb hcl (flatS_scal l) rfl rfl hv hkv
theorem tk_q {m : Mem} {b : Nat} (L : List (Int × Int)) (hb : m.at b = rgB L) (hl : L.length ≤ 300) (h : ∀ k, k < L.length → 0 ≤ (rg_ L k).1 ∧ (rg_ L k).1 ≤ (rg_ L k).2 ∧ (rg_ L k).2 ≤ 1000000000) :
    PCalls Try.prog 24 [rgV b L] m (.int .i64 (nTk L)) := by
  by_cases hL : L = []
  · subst hL
    exact ticks_nil m
  · have e : rgV b L = .slice (some ⟨b, 0, none⟩) L.length INF := if_neg hL
    rw [e]
    exact PCalls.via (fun _ => b) (ticks_c L hl h) (rg_lies hb hL rfl) rfl rfl rfl rfl

section
variable {l : List St} {nm : ByteArray} {bd : Int}
theorem ro_bl1 (l : List St) : Mem.ro [bl l] := fun k blk hk => by
  have := Mem.at_lt hk
  match k, this with
  | 0, _ => exact bl_ro l _ hk
  | k + 1, h => simp at h

attribute [local irreducible] OQ OW AL AW AD AF SW
theorem ps_no (x y z mo : Int) (g : Bool) (hwf : ∀ k, k < l.length → -9223372036854775808 ≤ (at_ l k).t ∧ (at_ l k).t ≤ 9223372036854775807) (hl : (l.length : Int) ≤ 9223372036854775807) (hnm : (nm.size : Int) ≤ 9223372036854775807)
    (hf : (fewB nm.size l.length && briefB nm.data.toList bd l) = false) : PCalls Try.prog 3 [obW nm bd (va 0 l g), v3 x y z, .int .i64 mo] [bl l] (.bool true) := by
  have H1 := fun (m : Mem) (v : Value) (hS : SlB m v l) => brief_q (bd := bd) hS hwf hl hnm
  rw [hf] at H1
  refine PCalls.enter (t := [obW nm bd (va 0 l g), v3 x y z, .int .i64 mo, undef, undef, undef, undef, undef, undef, undef, undef, undef, undef, undef, undef, undef, undef, undef, undef, undef, undef, undef, undef, undef, undef, undef, undef, undef, undef, undef, undef, undef, undef, undef, undef, undef, undef, undef, undef, undef, undef, undef, undef, undef, undef, undef, undef, undef, undef, undef, undef, undef, undef, undef, undef, undef, undef, undef, undef, undef, undef, undef, undef, undef, undef, undef, undef, undef, undef, undef, undef, undef, undef, undef, undef, undef, undef, undef, undef, undef]) Try.func3 rfl (ro_bl1 _) rfl fun E => ?_
  repeat' (first
    | with_reducible refine Then.n ?_
    | with_reducible refine Then.r ?_
    | with_reducible refine Then.x ?_
    | with_reducible refine InB.n ?_
    | with_reducible refine InB.r ?_
    | with_reducible refine InB.hit ?_
    | with_reducible refine InB.miss (by decide) ?_
    | ((with_reducible refine AL.on ?_); first
      | (refine AL.gd rfl ?_; first | (refine AL.gskip rfl rfl ?_; (conv => (arg 5; try simp only [T.put, T.ev, putAt, setsT, newBlks, fillL, List.map, List.set, List.append, List.cons_append, List.nil_append, List.length, List.getElem?_cons_zero, List.getElem?_cons_succ, Nat.reduceAdd, Nat.reduceMul, Nat.zero_add, Nat.add_zero, Nat.mul_one, Nat.zero_mul, List.drop, List.take, List.toList_toArray, Value.cells, Int.reduceToNat, Int.toNat_natCast, List.getD, Option.getD, Option.map, flat, flat1, scal, if_true, ↓reduceIte]))) | (refine AL.gs1 rfl rfl (fun hc => ?_) (fun hc => ?_) <;> (try simp only [decide_eq_true_eq, decide_eq_false_iff_not, Bool.not_true, Bool.not_false, Bool.not_eq_true', Bool.not_eq_false', Int.not_lt, Int.not_le, Classical.not_not, ne_eq] at hc) <;> first | (exfalso; first | contradiction | (first | omega | (simp_all; done)); done) | (conv => (arg 5; try simp only [T.put, T.ev, putAt, setsT, newBlks, fillL, List.map, List.set, List.append, List.cons_append, List.nil_append, List.length, List.getElem?_cons_zero, List.getElem?_cons_succ, Nat.reduceAdd, Nat.reduceMul, Nat.zero_add, Nat.add_zero, Nat.mul_one, Nat.zero_mul, List.drop, List.take, List.toList_toArray, Value.cells, Int.reduceToNat, Int.toNat_natCast, List.getD, Option.getD, Option.map, flat, flat1, scal, if_true, ↓reduceIte]))) | (refine AL.gs0 rfl rfl (fun hc => ?_) (fun hc => ?_) <;> (try simp only [decide_eq_true_eq, decide_eq_false_iff_not, Bool.not_true, Bool.not_false, Bool.not_eq_true', Bool.not_eq_false', Int.not_lt, Int.not_le, Classical.not_not, ne_eq] at hc) <;> first | (exfalso; first | contradiction | (first | omega | (simp_all; done)); done) | (conv => (arg 5; try simp only [T.put, T.ev, putAt, setsT, newBlks, fillL, List.map, List.set, List.append, List.cons_append, List.nil_append, List.length, List.getElem?_cons_zero, List.getElem?_cons_succ, Nat.reduceAdd, Nat.reduceMul, Nat.zero_add, Nat.add_zero, Nat.mul_one, Nat.zero_mul, List.drop, List.take, List.toList_toArray, Value.cells, Int.reduceToNat, Int.toNat_natCast, List.getD, Option.getD, Option.map, flat, flat1, scal, if_true, ↓reduceIte]))))
      | ((first | ((with_reducible refine AL.k_move ?_); first | (refine AL.q rfl (OQ.move (by conv => lhs; whnf)) ?_)) | ((with_reducible refine AL.k_call ?_); first | refine AL.q rfl (OQ.lenS (xt := 29) (r := (none, 2, true)) rfl (by kernel_rfl)) ?_) | ((with_reducible refine AL.k_assign ?_); first | (refine AL.q rfl (OQ.assign (by conv => lhs; whnf)) ?_)) | ((with_reducible refine AL.k_load ?_); first | refine AL.q rfl (OQ.loadN (ty := 24) (n := 3) rfl (by kernel_rfl) (by kernel_rfl) rfl) ?_ | refine AL.q rfl (OQ.loadN (ty := 26) (n := 3) rfl (by kernel_rfl) (by kernel_rfl) rfl) ?_) | ((with_reducible refine AL.k_binOp ?_); first | refine AL.q rfl (OQ.eql rfl rfl) ?_ | refine AL.q rfl (OQ.neq rfl rfl) ?_ | refine AL.q rfl (OQ.geq rfl rfl) ?_) | ((with_reducible refine AL.k_pick ?_); first | (refine AL.q rfl (OQ.pickT rfl (by with_reducible rfl) (by conv => lhs; whnf)) ?_) | (refine AL.q rfl (OQ.pickF rfl (by with_reducible rfl) (by conv => lhs; whnf)) ?_)) | ((with_reducible refine AL.k_unOp ?_); first | refine AL.q rfl (OQ.not rfl) ?_)); (conv => (arg 5; try simp only [T.put, T.ev, putAt, setsT, newBlks, fillL, List.map, List.set, List.append, List.cons_append, List.nil_append, List.length, List.getElem?_cons_zero, List.getElem?_cons_succ, Nat.reduceAdd, Nat.reduceMul, Nat.zero_add, Nat.add_zero, Nat.mul_one, Nat.zero_mul, List.drop, List.take, List.toList_toArray, Value.cells, Int.reduceToNat, Int.toNat_natCast, List.getD, Option.getD, Option.map, flat, flat1, scal, if_true, ↓reduceIte])))
      | ((first | first | refine AL.pcall (g := 15) rfl (by kernel_rfl) rfl (awake_q _) ?_ | refine AL.pcall (g := 16) rfl (by kernel_rfl) rfl (H1 _ _ (SlB.arg (.inl rfl))) ?_); (conv => (arg 5; try simp only [T.put, T.ev, putAt, setsT, newBlks, fillL, List.map, List.set, List.append, List.cons_append, List.nil_append, List.length, List.getElem?_cons_zero, List.getElem?_cons_succ, Nat.reduceAdd, Nat.reduceMul, Nat.zero_add, Nat.add_zero, Nat.mul_one, Nat.zero_mul, List.drop, List.take, List.toList_toArray, Value.cells, Int.reduceToNat, Int.toNat_natCast, List.getD, Option.getD, Option.map, flat, flat1, scal, if_true, ↓reduceIte])))
      | ((first | first | (refine AL.w rfl (OW.box (by conv => lhs; whnf) (by intro r h; cases h)) ?_)); (conv => (arg 5; try simp only [T.put, T.ev, putAt, setsT, newBlks, fillL, List.map, List.set, List.append, List.cons_append, List.nil_append, List.length, List.getElem?_cons_zero, List.getElem?_cons_succ, Nat.reduceAdd, Nat.reduceMul, Nat.zero_add, Nat.add_zero, Nat.mul_one, Nat.zero_mul, List.drop, List.take, List.toList_toArray, Value.cells, Int.reduceToNat, Int.toNat_natCast, List.getD, Option.getD, Option.map, flat, flat1, scal, if_true, ↓reduceIte])); (conv => (arg 6; try simp only [T.put, T.ev, putAt, setsT, newBlks, fillL, List.map, List.set, List.append, List.cons_append, List.nil_append, List.length, List.getElem?_cons_zero, List.getElem?_cons_succ, Nat.reduceAdd, Nat.reduceMul, Nat.zero_add, Nat.add_zero, Nat.mul_one, Nat.zero_mul, List.drop, List.take, List.toList_toArray, Value.cells, Int.reduceToNat, Int.toNat_natCast, List.getD, Option.getD, Option.map, flat, flat1, scal, if_true, ↓reduceIte])))
      | (refine AL.bs rfl (fun hc => ?_) (fun hc => ?_) <;> (fail_if_success (with_reducible exact lit_no hc)) <;> (try simp only [decide_eq_true_eq, decide_eq_false_iff_not, Bool.not_true, Bool.not_false, Bool.not_eq_true', Bool.not_eq_false', Int.not_lt, Int.not_le, Classical.not_not, ne_eq] at hc) <;> first | (exfalso; first | contradiction | (first | omega | (simp_all; done)); done) | (conv => (arg 5; try simp only [T.put, T.ev, putAt, setsT, newBlks, fillL, List.map, List.set, List.append, List.cons_append, List.nil_append, List.length, List.getElem?_cons_zero, List.getElem?_cons_succ, Nat.reduceAdd, Nat.reduceMul, Nat.zero_add, Nat.add_zero, Nat.mul_one, Nat.zero_mul, List.drop, List.take, List.toList_toArray, Value.cells, Int.reduceToNat, Int.toNat_natCast, List.getD, Option.getD, Option.map, flat, flat1, scal, if_true, ↓reduceIte])))
      | refine AL.nil ?_)
    | ((with_reducible refine AW.on ?_); first
      | refine AW.seq ?_
      | refine AW.skip ?_
      | refine AW.exit ?_
      | refine AW.ret ?_
      | refine AW.block ?_
      | (refine AW.draw (id := 5) 10 #[0, 1, 0, 0, 15, 31, 63, 63, 127, 511] (by kernel_rfl) (by kernel_rfl) ?_; (conv => (arg 8; simp only [List.take_succ_cons, List.take_zero])))
      | (refine AW.draw (id := 11) 12 #[0, 1, 0, 0, 8, 24, 63, 127, 255, 255, 511, 2047] (by kernel_rfl) (by kernel_rfl) ?_; (conv => (arg 8; simp only [List.take_succ_cons, List.take_zero])))
      | refine AW.region ?_
      | (refine AW.conds rfl (fun hc => ?_) (fun hc => ?_) <;> (try simp only [decide_eq_true_eq, decide_eq_false_iff_not, Bool.not_true, Bool.not_false, Bool.not_eq_true', Bool.not_eq_false', Int.not_lt, Int.not_le, Classical.not_not, ne_eq] at hc) <;> first | (exfalso; first | contradiction | (first | omega | (simp_all; done)); done) | skip))
    | ((with_reducible refine AD.on ?_); first
      | ((first | ((with_reducible refine AD.k_move ?_); first | (refine AD.q rfl (OQ.move (by conv => lhs; whnf)) rfl rfl rfl ?_)) | ((with_reducible refine AD.k_call ?_); first | refine AD.q rfl (OQ.min2 rfl rfl) rfl rfl rfl ?_) | ((with_reducible refine AD.k_assign ?_); first | (refine AD.q rfl (OQ.assign (by conv => lhs; whnf)) rfl rfl rfl ?_)) | ((with_reducible refine AD.k_load ?_); first | refine AD.q rfl (OQ.loadN (ty := 24) (n := 3) rfl (by kernel_rfl) (by kernel_rfl) rfl) rfl rfl rfl ?_ | refine AD.q rfl (OQ.loadN (ty := 26) (n := 3) rfl (by kernel_rfl) (by kernel_rfl) rfl) rfl rfl rfl ?_) | ((with_reducible refine AD.k_binOp ?_); first | refine AD.q rfl (OQ.muli rfl rfl (by omega)) rfl rfl rfl ?_ | refine AD.q rfl (OQ.mul rfl rfl) rfl rfl rfl ?_) | ((with_reducible refine AD.k_extract ?_); first | refine AD.q rfl (OQ.extract rfl rfl) rfl rfl rfl ?_)); (conv => (arg 10; try simp only [T.put, T.ev, putAt, setsT, newBlks, fillL, List.map, List.set, List.append, List.cons_append, List.nil_append, List.length, List.getElem?_cons_zero, List.getElem?_cons_succ, Nat.reduceAdd, Nat.reduceMul, Nat.zero_add, Nat.add_zero, Nat.mul_one, Nat.zero_mul, List.drop, List.take, List.toList_toArray, Value.cells, Int.reduceToNat, Int.toNat_natCast, List.getD, Option.getD, Option.map, flat, flat1, scal, if_true, ↓reduceIte])))
      | (refine AD.nil ?_; (conv => (arg 4; simp only [List.drop_succ_cons, List.drop_zero, List.drop_nil])); (conv => (arg 5; try simp only [T.put, T.ev, putAt, setsT, newBlks, fillL, List.map, List.set, List.append, List.cons_append, List.nil_append, List.length, List.getElem?_cons_zero, List.getElem?_cons_succ, Nat.reduceAdd, Nat.reduceMul, Nat.zero_add, Nat.add_zero, Nat.mul_one, Nat.zero_mul, List.drop, List.take, List.toList_toArray, Value.cells, Int.reduceToNat, Int.toNat_natCast, List.getD, Option.getD, Option.map, flat, flat1, scal, if_true, ↓reduceIte])); (conv => (arg 6; try simp only [T.put, T.ev, putAt, setsT, newBlks, fillL, List.map, List.set, List.append, List.cons_append, List.nil_append, List.length, List.getElem?_cons_zero, List.getElem?_cons_succ, Nat.reduceAdd, Nat.reduceMul, Nat.zero_add, Nat.add_zero, Nat.mul_one, Nat.zero_mul, List.drop, List.take, List.toList_toArray, Value.cells, Int.reduceToNat, Int.toNat_natCast, List.getD, Option.getD, Option.map, flat, flat1, scal, if_true, ↓reduceIte]))))
    | ((with_reducible refine FinP.on ?_); (first | refine FinP.ret (.tmp (by conv => lhs; whnf) .nil) ?_ rfl | refine FinP.end (.tmp (by conv => lhs; whnf) .nil) ?_ rfl); (try simp only [pack, List.drop, List.take]); all_goals (rfl)))

/-- Something is wrong. -/
theorem ps_e (x y z mo c e : Int) (b1 b2 : Bool) (g : Bool) (ho : Ors nm l) (hl : l.length ≤ 1000) (hf : (fewB nm.size l.length && briefB nm.data.toList bd l) = true) (he : (orbE nm.data.toList bd l).2 = e) (h1 : plB x y z = b1) (h2 : rngB mo 0 100000000 = b2)
    (hc : firstE [e, placeE x y z, Ob.bnd mo 0 100000000] = c) (hc0 : c ≠ 0) (hcc : c = if e = 0 then 2 else e) (hb : e = 0 → (b1 && b2) = false) :
    PCalls Try.prog 3 [obW nm bd (va 0 l g), v3 x y z, .int .i64 mo] [bl l] (.bool true) := by
  have hnm' : (nm.size : Int) ≤ 9223372036854775807 := by have := ho.nm; omega
  have H1 := fun (m : Mem) (v : Value) (hS : SlB m v l) => brief_q (bd := bd) hS ho.wf ho.len hnm'
  rw [hf] at H1
  have H2 := fun (m : Mem) (v : Value) (hS : SlB m v l) => Err_q (bd := bd) hS ho
  rw [he] at H2
  have H3 := fun z0 => Passes_e nm bd x y z mo l z0 ho (by rw [he, hc]; exact hc0)
  rw [he, hc] at H3
  have H4 := IsPlace_q x y z
  rw [h1] at H4
  have H5 := Within_q mo 0 100000000
  rw [h2] at H5
  refine PCalls.enter (t := [obW nm bd (va 0 l g), v3 x y z, .int .i64 mo, undef, undef, undef, undef, undef, undef, undef, undef, undef, undef, undef, undef, undef, undef, undef, undef, undef, undef, undef, undef, undef, undef, undef, undef, undef, undef, undef, undef, undef, undef, undef, undef, undef, undef, undef, undef, undef, undef, undef, undef, undef, undef, undef, undef, undef, undef, undef, undef, undef, undef, undef, undef, undef, undef, undef, undef, undef, undef, undef, undef, undef, undef, undef, undef, undef, undef, undef, undef, undef, undef, undef, undef, undef, undef, undef, undef, undef]) Try.func3 rfl (ro_bl1 _) rfl fun E => ?_
  repeat' (first
    | with_reducible refine Then.n ?_
    | with_reducible refine Then.r ?_
    | with_reducible refine Then.x ?_
    | with_reducible refine InB.n ?_
    | with_reducible refine InB.r ?_
    | with_reducible refine InB.hit ?_
    | with_reducible refine InB.miss (by decide) ?_
    | ((with_reducible refine AL.on ?_); first
      | (refine AL.gd rfl ?_; first | (refine AL.gskip rfl rfl ?_; (conv => (arg 5; try simp only [T.put, T.ev, putAt, setsT, newBlks, fillL, List.map, List.set, List.append, List.cons_append, List.nil_append, List.length, List.getElem?_cons_zero, List.getElem?_cons_succ, Nat.reduceAdd, Nat.reduceMul, Nat.zero_add, Nat.add_zero, Nat.mul_one, Nat.zero_mul, List.drop, List.take, List.toList_toArray, Value.cells, Int.reduceToNat, Int.toNat_natCast, List.getD, Option.getD, Option.map, flat, flat1, scal, if_true, ↓reduceIte]))) | (refine AL.gs1 rfl rfl (fun hc => ?_) (fun hc => ?_) <;> (try simp only [decide_eq_true_eq, decide_eq_false_iff_not, Bool.not_true, Bool.not_false, Bool.not_eq_true', Bool.not_eq_false', Int.not_lt, Int.not_le, Classical.not_not, ne_eq] at hc) <;> first | (exfalso; first | contradiction | (first | omega | (simp_all; done)); done) | (conv => (arg 5; try simp only [T.put, T.ev, putAt, setsT, newBlks, fillL, List.map, List.set, List.append, List.cons_append, List.nil_append, List.length, List.getElem?_cons_zero, List.getElem?_cons_succ, Nat.reduceAdd, Nat.reduceMul, Nat.zero_add, Nat.add_zero, Nat.mul_one, Nat.zero_mul, List.drop, List.take, List.toList_toArray, Value.cells, Int.reduceToNat, Int.toNat_natCast, List.getD, Option.getD, Option.map, flat, flat1, scal, if_true, ↓reduceIte]))) | (refine AL.gs0 rfl rfl (fun hc => ?_) (fun hc => ?_) <;> (try simp only [decide_eq_true_eq, decide_eq_false_iff_not, Bool.not_true, Bool.not_false, Bool.not_eq_true', Bool.not_eq_false', Int.not_lt, Int.not_le, Classical.not_not, ne_eq] at hc) <;> first | (exfalso; first | contradiction | (first | omega | (simp_all; done)); done) | (conv => (arg 5; try simp only [T.put, T.ev, putAt, setsT, newBlks, fillL, List.map, List.set, List.append, List.cons_append, List.nil_append, List.length, List.getElem?_cons_zero, List.getElem?_cons_succ, Nat.reduceAdd, Nat.reduceMul, Nat.zero_add, Nat.add_zero, Nat.mul_one, Nat.zero_mul, List.drop, List.take, List.toList_toArray, Value.cells, Int.reduceToNat, Int.toNat_natCast, List.getD, Option.getD, Option.map, flat, flat1, scal, if_true, ↓reduceIte]))))
      | ((first | ((with_reducible refine AL.k_move ?_); first | (refine AL.q rfl (OQ.move (by conv => lhs; whnf)) ?_)) | ((with_reducible refine AL.k_call ?_); first | refine AL.q rfl (OQ.lenS (xt := 29) (r := (none, 2, true)) rfl (by kernel_rfl)) ?_) | ((with_reducible refine AL.k_assign ?_); first | (refine AL.q rfl (OQ.assign (by conv => lhs; whnf)) ?_)) | ((with_reducible refine AL.k_load ?_); first | refine AL.q rfl (OQ.loadN (ty := 24) (n := 3) rfl (by kernel_rfl) (by kernel_rfl) rfl) ?_ | refine AL.q rfl (OQ.loadN (ty := 26) (n := 3) rfl (by kernel_rfl) (by kernel_rfl) rfl) ?_) | ((with_reducible refine AL.k_binOp ?_); first | refine AL.q rfl (OQ.eql rfl rfl) ?_ | refine AL.q rfl (OQ.neq rfl rfl) ?_ | refine AL.q rfl (OQ.geq rfl rfl) ?_) | ((with_reducible refine AL.k_pick ?_); first | (refine AL.q rfl (OQ.pickT rfl (by with_reducible rfl) (by conv => lhs; whnf)) ?_) | (refine AL.q rfl (OQ.pickF rfl (by with_reducible rfl) (by conv => lhs; whnf)) ?_)) | ((with_reducible refine AL.k_unOp ?_); first | refine AL.q rfl (OQ.not rfl) ?_)); (conv => (arg 5; try simp only [T.put, T.ev, putAt, setsT, newBlks, fillL, List.map, List.set, List.append, List.cons_append, List.nil_append, List.length, List.getElem?_cons_zero, List.getElem?_cons_succ, Nat.reduceAdd, Nat.reduceMul, Nat.zero_add, Nat.add_zero, Nat.mul_one, Nat.zero_mul, List.drop, List.take, List.toList_toArray, Value.cells, Int.reduceToNat, Int.toNat_natCast, List.getD, Option.getD, Option.map, flat, flat1, scal, if_true, ↓reduceIte])))
      | ((first | first | refine AL.pcall (g := 15) rfl (by kernel_rfl) rfl (awake_q _) ?_ | refine AL.pcall (g := 16) rfl (by kernel_rfl) rfl (H1 _ _ (SlB.arg (.inl rfl))) ?_ | refine AL.pcall (g := 19) rfl (by kernel_rfl) rfl (H2 _ _ (SlB.arg (.inl rfl))) ?_ | refine AL.pcall (g := 20) rfl (by kernel_rfl) rfl (H4 _) ?_ | refine AL.pcall (g := 21) rfl (by kernel_rfl) rfl (H5 _) ?_); (conv => (arg 5; try simp only [T.put, T.ev, putAt, setsT, newBlks, fillL, List.map, List.set, List.append, List.cons_append, List.nil_append, List.length, List.getElem?_cons_zero, List.getElem?_cons_succ, Nat.reduceAdd, Nat.reduceMul, Nat.zero_add, Nat.add_zero, Nat.mul_one, Nat.zero_mul, List.drop, List.take, List.toList_toArray, Value.cells, Int.reduceToNat, Int.toNat_natCast, List.getD, Option.getD, Option.map, flat, flat1, scal, if_true, ↓reduceIte])))
      | ((first | first | (refine AL.w rfl (OW.box (by conv => lhs; whnf) (by intro r h; cases h)) ?_)); (conv => (arg 5; try simp only [T.put, T.ev, putAt, setsT, newBlks, fillL, List.map, List.set, List.append, List.cons_append, List.nil_append, List.length, List.getElem?_cons_zero, List.getElem?_cons_succ, Nat.reduceAdd, Nat.reduceMul, Nat.zero_add, Nat.add_zero, Nat.mul_one, Nat.zero_mul, List.drop, List.take, List.toList_toArray, Value.cells, Int.reduceToNat, Int.toNat_natCast, List.getD, Option.getD, Option.map, flat, flat1, scal, if_true, ↓reduceIte])); (conv => (arg 6; try simp only [T.put, T.ev, putAt, setsT, newBlks, fillL, List.map, List.set, List.append, List.cons_append, List.nil_append, List.length, List.getElem?_cons_zero, List.getElem?_cons_succ, Nat.reduceAdd, Nat.reduceMul, Nat.zero_add, Nat.add_zero, Nat.mul_one, Nat.zero_mul, List.drop, List.take, List.toList_toArray, Value.cells, Int.reduceToNat, Int.toNat_natCast, List.getD, Option.getD, Option.map, flat, flat1, scal, if_true, ↓reduceIte])))
      | (refine AL.bs rfl (fun hc => ?_) (fun hc => ?_) <;> (fail_if_success (with_reducible exact lit_no hc)) <;> (try simp only [decide_eq_true_eq, decide_eq_false_iff_not, Bool.not_true, Bool.not_false, Bool.not_eq_true', Bool.not_eq_false', Int.not_lt, Int.not_le, Classical.not_not, ne_eq] at hc) <;> first | (exfalso; first | contradiction | (first | omega | (simp_all; done)); done) | (conv => (arg 5; try simp only [T.put, T.ev, putAt, setsT, newBlks, fillL, List.map, List.set, List.append, List.cons_append, List.nil_append, List.length, List.getElem?_cons_zero, List.getElem?_cons_succ, Nat.reduceAdd, Nat.reduceMul, Nat.zero_add, Nat.add_zero, Nat.mul_one, Nat.zero_mul, List.drop, List.take, List.toList_toArray, Value.cells, Int.reduceToNat, Int.toNat_natCast, List.getD, Option.getD, Option.map, flat, flat1, scal, if_true, ↓reduceIte])))
      | refine AL.nil ?_)
    | ((with_reducible refine AW.on ?_); first
      | refine AW.seq ?_
      | refine AW.skip ?_
      | refine AW.exit ?_
      | refine AW.ret ?_
      | refine AW.block ?_
      | (refine AW.drawF (id := 5) 9 #[0, 1, 0, 0, 15, 31, 63, 63, 127, 511] (by kernel_rfl) (by kernel_rfl) ?_; (conv => (arg 8; simp only [List.take_succ_cons, List.take_zero])))
      | (refine AW.drawF (id := 11) 11 #[0, 1, 0, 0, 8, 24, 63, 127, 255, 255, 511, 2047] (by kernel_rfl) (by kernel_rfl) ?_; (conv => (arg 8; simp only [List.take_succ_cons, List.take_zero])))
      | (refine AW.region (id := 12) ?_; exfalso; first | omega | (simp_all; done); done)
      | refine AW.region ?_
      | (refine AW.conds rfl (fun hc => ?_) (fun hc => ?_) <;> (try simp only [decide_eq_true_eq, decide_eq_false_iff_not, Bool.not_true, Bool.not_false, Bool.not_eq_true', Bool.not_eq_false', Int.not_lt, Int.not_le, Classical.not_not, ne_eq] at hc) <;> first | (exfalso; first | contradiction | (first | omega | (simp_all; done)); done) | skip))
    | ((with_reducible refine AF.on ?_); first
      | ((first | ((with_reducible refine AF.k_move ?_); first | (refine AF.q 0 (SW.q (OQ.move (by conv => lhs; whnf)) rfl) ?_)) | ((with_reducible refine AF.k_call ?_); first | refine AF.q 2 (SW.pcall (g := 17) rfl (by kernel_rfl) rfl ((by exact PCalls.via1 H3 rfl rfl (flatS_scal l) rfl rfl rfl rfl)) rfl) ?_ | refine AF.q 0 (SW.q (OQ.min2 rfl rfl) rfl) ?_) | ((with_reducible refine AF.k_assign ?_); first | (refine AF.q 0 (SW.q (OQ.assign (by conv => lhs; whnf)) rfl) ?_)) | ((with_reducible refine AF.k_load ?_); first | refine AF.q 2 (SW.q (OQ.loadN (ty := 24) (n := 3) rfl (by kernel_rfl) (by kernel_rfl) rfl) rfl) ?_ | refine AF.q 2 (SW.q (OQ.loadN (ty := 26) (n := 3) rfl (by kernel_rfl) (by kernel_rfl) rfl) rfl) ?_) | ((with_reducible refine AF.k_binOp ?_); first | refine AF.q 0 (SW.q (OQ.muli rfl rfl (by omega)) rfl) ?_ | refine AF.q 0 (SW.q (OQ.mul rfl rfl) rfl) ?_) | ((with_reducible refine AF.k_extract ?_); first | refine AF.q 0 (SW.q (OQ.extract rfl rfl) rfl) ?_)); (conv => (arg 9; try simp only [T.put, maskF_len, List.length_cons, List.length_nil, T.ev, putAt, setsT, newBlks, fillL, List.map, List.set, List.append, List.cons_append, List.nil_append, List.length, List.getElem?_cons_zero, List.getElem?_cons_succ, Nat.reduceAdd, Nat.reduceMul, Nat.zero_add, Nat.add_zero, Nat.mul_one, Nat.zero_mul, List.drop, List.take, List.toList_toArray, Value.cells, Int.reduceToNat, Int.toNat_natCast, List.getD, Option.getD, Option.map, flat, flat1, scal, if_true, ↓reduceIte])); (conv => (arg 11; try simp only [List.nil_append, List.cons_append])))
      | ((first | first | refine AF.n1 2 (SW.acall (g := 18) rfl (by kernel_rfl) rfl ((by exact Copy_q nm bd (l := l) (SlB.arg (by first | exact .inl rfl | exact .inr rfl)) (by omega))) rfl) rfl ?_); (conv => (arg 9; try simp only [T.put, maskF_len, List.length_cons, List.length_nil, T.ev, putAt, setsT, newBlks, fillL, List.map, List.set, List.append, List.cons_append, List.nil_append, List.length, List.getElem?_cons_zero, List.getElem?_cons_succ, Nat.reduceAdd, Nat.reduceMul, Nat.zero_add, Nat.add_zero, Nat.mul_one, Nat.zero_mul, List.drop, List.take, List.toList_toArray, Value.cells, Int.reduceToNat, Int.toNat_natCast, List.getD, Option.getD, Option.map, flat, flat1, scal, if_true, ↓reduceIte])); (conv => (arg 11; try simp only [List.nil_append, List.cons_append])); (conv => (arg 10; try simp only [T.put, maskF_len, List.length_cons, List.length_nil, T.ev, putAt, setsT, newBlks, fillL, List.map, List.set, List.append, List.cons_append, List.nil_append, List.length, List.getElem?_cons_zero, List.getElem?_cons_succ, Nat.reduceAdd, Nat.reduceMul, Nat.zero_add, Nat.add_zero, Nat.mul_one, Nat.zero_mul, List.drop, List.take, List.toList_toArray, Value.cells, Int.reduceToNat, Int.toNat_natCast, List.getD, Option.getD, Option.map, flat, flat1, scal, if_true, ↓reduceIte])))
      | (refine AF.nil ?_ (by kernel_rfl); (conv => (arg 4; simp only [List.drop_succ_cons, List.drop_zero, List.drop_nil]))))
    | ((with_reducible refine FinP.on ?_); (first | refine FinP.ret (.tmp (by conv => lhs; whnf) .nil) ?_ rfl | refine FinP.end (.tmp (by conv => lhs; whnf) .nil) ?_ rfl); (try simp only [pack, List.drop, List.take]); all_goals (rfl)))

attribute [local irreducible] rgV rgB
/-- A right orbit and a right place. -/
theorem ps_nn (x y z mo : Int) (L M : List (Int × Int)) (hn : nm.size ≤ 1000) (hR : Right bd l) (he : (orbE nm.data.toList bd l).2 = 0) (hf : (fewB nm.size l.length && briefB nm.data.toList bd l) = true)
    (hx : -100000000 ≤ x ∧ x ≤ 100000000) (hy : -100000000 ≤ y ∧ y ≤ 100000000) (hz : -100000000 ≤ z ∧ z ≤ 100000000) (hpl : placeE x y z = 0) (hplB : plB x y z = true) (hmo : 0 ≤ mo ∧ mo ≤ 100000000)
    (hLd : psL l x y z mo = L) (hMd : psL l x y z (if (100000000 : Int) < 2 * mo then 100000000 else 2 * mo) = M) (hL : rgB L = some ⟨flatR L, true, 2⟩) (hM : rgB M = some ⟨flatR M, true, 2⟩) (kL : L.length ≤ 300) (kM : M.length ≤ 300)
    (rL : ∀ k, k < L.length → 0 ≤ (rg_ L k).1 ∧ (rg_ L k).1 ≤ (rg_ L k).2 ∧ (rg_ L k).2 ≤ 1000000000) (rM : ∀ k, k < M.length → 0 ≤ (rg_ M k).1 ∧ (rg_ M k).1 ≤ (rg_ M k).2 ∧ (rg_ M k).2 ≤ 1000000000) (hle : nTk L ≤ nTk M) :
    PCalls Try.prog 3 [obW nm bd (.slice (some ⟨0, 0, none⟩) l.length INF), v3 x y z, .int .i64 mo] [some ⟨flatS l, false, 0⟩] (.bool true) := by
  have ho := Ors.of_right (bd := bd) hn hR
  have h40 := hR.n40
  have hnm' : (nm.size : Int) ≤ 9223372036854775807 := by omega
  have H1 := fun (m : Mem) (v : Value) (hS : SlB m v l) => brief_q (bd := bd) hS ho.wf ho.len hnm'
  rw [hf] at H1
  have H2 := fun (m : Mem) (v : Value) (hS : SlB m v l) => Err_q (bd := bd) hS ho
  rw [he] at H2
  have H4 := IsPlace_q x y z
  rw [hplB] at H4
  have H5 := Within_q mo 0 100000000
  rw [show rngB mo 0 100000000 = true from rngB_true.2 hmo] at H5
  have P1 := fun z0 => Passes_0 nm bd x y z mo l z0 hn hR he hx hy hz hpl hmo
  have P2 := fun z0 => Passes_0 nm bd x y z (if (100000000 : Int) < 2 * mo then 100000000 else 2 * mo) l z0 hn hR he hx hy hz hpl (by omega)
  have P3 := fun z0 => rPasses_0 nm bd x y z mo l z0 hn hR hx hy hz hmo
  rw [hLd] at P1 P3
  rw [hMd] at P2
  have T1 := fun (m : Mem) (b : Nat) (hb : m.at b = rgB L) => tk_q L hb kL rL
  have T2 := fun (m : Mem) (b : Nat) (hb : m.at b = rgB M) => tk_q M hb kM rM
  have R1 := fun (m : Mem) (b c : Nat) (hb : m.at b = rgB L) (hc : m.at c = rgB L) => Ranges_q hb hc (by omega) (by omega)
  simp only [decide_true] at R1
  clear hLd hMd rL rM
  generalize nTk L = tL at *
  generalize nTk M = tM at *
  rw [hL] at T1 R1
  have A1 := fun (m : Mem) (i : Nat) (blk : Blk) (hb : m.at i = some blk) (hc : blk.cells = flatS l) => ps_a nm bd x y z mo L ⟨flatR L, true, 2⟩ hb hc hL P1 (by show Value.tuple #[rn2 _ (rgV 1 L), .int .i64 0] = Value.tuple #[rgV m.length L, .int .i64 0]; rw [rgV_rn2]; rfl) (by show (ok2 2 (rgV 1 L) && (true && true)) = true; rw [rgV_ok2 _ (by decide)]; rfl)
  have A3 := fun (m : Mem) (i : Nat) (blk : Blk) (hb : m.at i = some blk) (hc : blk.cells = flatS l) => ps_a nm bd x y z mo L ⟨flatR L, true, 2⟩ hb hc hL P3 (v := rgV m.length L) (rgV_rn _ _ _) (rgV_ok _ (by decide))
  rw [hM] at T2
  have A2 := fun (m : Mem) (i : Nat) (blk : Blk) (hb : m.at i = some blk) (hc : blk.cells = flatS l) => ps_a nm bd x y z (if (100000000 : Int) < 2 * mo then 100000000 else 2 * mo) M ⟨flatR M, true, 2⟩ hb hc hM P2 (by show Value.tuple #[rn2 _ (rgV 1 M), .int .i64 0] = Value.tuple #[rgV m.length M, .int .i64 0]; rw [rgV_rn2]; rfl) (by show (ok2 2 (rgV 1 M) && (true && true)) = true; rw [rgV_ok2 _ (by decide)]; rfl)
  clear P1 P2 P3
  refine PCalls.enter (t := [obW nm bd (.slice (some ⟨0, 0, none⟩) l.length INF), v3 x y z, .int .i64 mo, undef, undef, undef, undef, undef, undef, undef, undef, undef, undef, undef, undef, undef, undef, undef, undef, undef, undef, undef, undef, undef, undef, undef, undef, undef, undef, undef, undef, undef, undef, undef, undef, undef, undef, undef, undef, undef, undef, undef, undef, undef, undef, undef, undef, undef, undef, undef, undef, undef, undef, undef, undef, undef, undef, undef, undef, undef, undef, undef, undef, undef, undef, undef, undef, undef, undef, undef, undef, undef, undef, undef, undef, undef, undef, undef, undef, undef]) Try.func3 rfl (ro1 _ rfl) rfl fun E => ?_
  repeat' (first
    | with_reducible refine Then.n ?_
    | with_reducible refine Then.r ?_
    | with_reducible refine Then.x ?_
    | with_reducible refine InB.n ?_
    | with_reducible refine InB.r ?_
    | with_reducible refine InB.hit ?_
    | with_reducible refine InB.miss (by decide) ?_
    | ((with_reducible refine AL.on ?_); first
      | (refine AL.gd rfl ?_; first | (refine AL.gskip rfl rfl ?_; (conv => (arg 5; try simp only [T.put, T.ev, putAt, setsT, newBlks, fillL, List.map, List.set, List.append, List.cons_append, List.nil_append, List.length, List.getElem?_cons_zero, List.getElem?_cons_succ, Nat.reduceAdd, Nat.reduceMul, Nat.zero_add, Nat.add_zero, Nat.mul_one, Nat.zero_mul, List.drop, List.take, List.toList_toArray, Value.cells, Int.reduceToNat, Int.toNat_natCast, List.getD, Option.getD, Option.map, flat, flat1, scal, if_true, ↓reduceIte]))) | (refine AL.gs1 rfl rfl (fun hc => ?_) (fun hc => ?_) <;> (try simp only [decide_eq_true_eq, decide_eq_false_iff_not, Bool.not_true, Bool.not_false, Bool.not_eq_true', Bool.not_eq_false', Int.not_lt, Int.not_le, Classical.not_not, ne_eq] at hc) <;> first | (exfalso; first | contradiction | (first | omega | (simp_all; done)); done) | (conv => (arg 5; try simp only [T.put, T.ev, putAt, setsT, newBlks, fillL, List.map, List.set, List.append, List.cons_append, List.nil_append, List.length, List.getElem?_cons_zero, List.getElem?_cons_succ, Nat.reduceAdd, Nat.reduceMul, Nat.zero_add, Nat.add_zero, Nat.mul_one, Nat.zero_mul, List.drop, List.take, List.toList_toArray, Value.cells, Int.reduceToNat, Int.toNat_natCast, List.getD, Option.getD, Option.map, flat, flat1, scal, if_true, ↓reduceIte]))) | (refine AL.gs0 rfl rfl (fun hc => ?_) (fun hc => ?_) <;> (try simp only [decide_eq_true_eq, decide_eq_false_iff_not, Bool.not_true, Bool.not_false, Bool.not_eq_true', Bool.not_eq_false', Int.not_lt, Int.not_le, Classical.not_not, ne_eq] at hc) <;> first | (exfalso; first | contradiction | (first | omega | (simp_all; done)); done) | (conv => (arg 5; try simp only [T.put, T.ev, putAt, setsT, newBlks, fillL, List.map, List.set, List.append, List.cons_append, List.nil_append, List.length, List.getElem?_cons_zero, List.getElem?_cons_succ, Nat.reduceAdd, Nat.reduceMul, Nat.zero_add, Nat.add_zero, Nat.mul_one, Nat.zero_mul, List.drop, List.take, List.toList_toArray, Value.cells, Int.reduceToNat, Int.toNat_natCast, List.getD, Option.getD, Option.map, flat, flat1, scal, if_true, ↓reduceIte]))))
      | ((first | ((with_reducible refine AL.k_move ?_); first | (refine AL.q rfl (OQ.move (by conv => lhs; whnf)) ?_)) | ((with_reducible refine AL.k_call ?_); first | refine AL.q rfl (OQ.lenS (xt := 29) (r := (none, 2, true)) rfl (by kernel_rfl)) ?_) | ((with_reducible refine AL.k_assign ?_); first | (refine AL.q rfl (OQ.assign (by conv => lhs; whnf)) ?_)) | ((with_reducible refine AL.k_load ?_); first | refine AL.q rfl (OQ.loadN (ty := 24) (n := 3) rfl (by kernel_rfl) (by kernel_rfl) rfl) ?_ | refine AL.q rfl (OQ.loadN (ty := 26) (n := 3) rfl (by kernel_rfl) (by kernel_rfl) rfl) ?_) | ((with_reducible refine AL.k_binOp ?_); first | refine AL.q rfl (OQ.eql rfl rfl) ?_ | refine AL.q rfl (OQ.neq rfl rfl) ?_ | refine AL.q rfl (OQ.geq rfl rfl) ?_) | ((with_reducible refine AL.k_pick ?_); first | (refine AL.q rfl (OQ.pickT rfl (by with_reducible rfl) (by conv => lhs; whnf)) ?_) | (refine AL.q rfl (OQ.pickF rfl (by with_reducible rfl) (by conv => lhs; whnf)) ?_)) | ((with_reducible refine AL.k_unOp ?_); first | refine AL.q rfl (OQ.not rfl) ?_)); (conv => (arg 5; try simp only [T.put, T.ev, putAt, setsT, newBlks, fillL, List.map, List.set, List.append, List.cons_append, List.nil_append, List.length, List.getElem?_cons_zero, List.getElem?_cons_succ, Nat.reduceAdd, Nat.reduceMul, Nat.zero_add, Nat.add_zero, Nat.mul_one, Nat.zero_mul, List.drop, List.take, List.toList_toArray, Value.cells, Int.reduceToNat, Int.toNat_natCast, List.getD, Option.getD, Option.map, flat, flat1, scal, if_true, ↓reduceIte])))
      | ((first | first | refine AL.pcall (g := 15) rfl (by kernel_rfl) rfl (awake_q _) ?_ | refine AL.pcall (g := 16) rfl (by kernel_rfl) rfl (H1 _ _ (.blk 0 _ rfl rfl rfl)) ?_ | refine AL.pcall (g := 19) rfl (by kernel_rfl) rfl (H2 _ _ (.blk 0 _ rfl rfl rfl)) ?_ | refine AL.pcall (g := 20) rfl (by kernel_rfl) rfl (H4 _) ?_ | refine AL.pcall (g := 21) rfl (by kernel_rfl) rfl (H5 _) ?_ | refine AL.pcall (g := 22) rfl (by kernel_rfl) rfl ((by exact R1 _ _ _ rfl rfl)) ?_ | refine AL.pcall (g := 24) rfl (by kernel_rfl) rfl ((by first | exact T1 _ _ rfl | exact T2 _ _ rfl)) ?_); (conv => (arg 5; try simp only [T.put, T.ev, putAt, setsT, newBlks, fillL, List.map, List.set, List.append, List.cons_append, List.nil_append, List.length, List.getElem?_cons_zero, List.getElem?_cons_succ, Nat.reduceAdd, Nat.reduceMul, Nat.zero_add, Nat.add_zero, Nat.mul_one, Nat.zero_mul, List.drop, List.take, List.toList_toArray, Value.cells, Int.reduceToNat, Int.toNat_natCast, List.getD, Option.getD, Option.map, flat, flat1, scal, if_true, ↓reduceIte])))
      | ((first | ((with_reducible refine AL.k_call ?_); first | refine AL.acall (g := 23) rfl (by kernel_rfl) rfl ((by exact A3 _ _ _ rfl rfl)) ?_) | ((with_reducible refine AL.k_box ?_); first | (refine AL.w rfl (OW.box (by conv => lhs; whnf) (by intro r h; cases h)) ?_))); (conv => (arg 5; try simp only [T.put, T.ev, putAt, setsT, newBlks, fillL, List.map, List.set, List.append, List.cons_append, List.nil_append, List.length, List.getElem?_cons_zero, List.getElem?_cons_succ, Nat.reduceAdd, Nat.reduceMul, Nat.zero_add, Nat.add_zero, Nat.mul_one, Nat.zero_mul, List.drop, List.take, List.toList_toArray, Value.cells, Int.reduceToNat, Int.toNat_natCast, List.getD, Option.getD, Option.map, flat, flat1, scal, if_true, ↓reduceIte])); (conv => (arg 6; try simp only [T.put, T.ev, putAt, setsT, newBlks, fillL, List.map, List.set, List.append, List.cons_append, List.nil_append, List.length, List.getElem?_cons_zero, List.getElem?_cons_succ, Nat.reduceAdd, Nat.reduceMul, Nat.zero_add, Nat.add_zero, Nat.mul_one, Nat.zero_mul, List.drop, List.take, List.toList_toArray, Value.cells, Int.reduceToNat, Int.toNat_natCast, List.getD, Option.getD, Option.map, flat, flat1, scal, if_true, ↓reduceIte])))
      | (refine AL.bs rfl (fun hc => ?_) (fun hc => ?_) <;> (fail_if_success (with_reducible exact lit_no hc)) <;> (try simp only [decide_eq_true_eq, decide_eq_false_iff_not, Bool.not_true, Bool.not_false, Bool.not_eq_true', Bool.not_eq_false', Int.not_lt, Int.not_le, Classical.not_not, ne_eq] at hc) <;> first | (exfalso; first | contradiction | (first | omega | (simp_all; done)); done) | (conv => (arg 5; try simp only [T.put, T.ev, putAt, setsT, newBlks, fillL, List.map, List.set, List.append, List.cons_append, List.nil_append, List.length, List.getElem?_cons_zero, List.getElem?_cons_succ, Nat.reduceAdd, Nat.reduceMul, Nat.zero_add, Nat.add_zero, Nat.mul_one, Nat.zero_mul, List.drop, List.take, List.toList_toArray, Value.cells, Int.reduceToNat, Int.toNat_natCast, List.getD, Option.getD, Option.map, flat, flat1, scal, if_true, ↓reduceIte])))
      | refine AL.nil ?_)
    | ((with_reducible refine AW.on ?_); first
      | refine AW.seq ?_
      | refine AW.skip ?_
      | refine AW.exit ?_
      | refine AW.ret ?_
      | refine AW.block ?_
      | (refine AW.drawF (id := 5) 9 #[0, 1, 0, 0, 15, 31, 63, 63, 127, 511] (by kernel_rfl) (by kernel_rfl) ?_; (conv => (arg 8; simp only [List.take_succ_cons, List.take_zero])))
      | (refine AW.drawF (id := 11) 11 #[0, 1, 0, 0, 8, 24, 63, 127, 255, 255, 511, 2047] (by kernel_rfl) (by kernel_rfl) ?_; (conv => (arg 8; simp only [List.take_succ_cons, List.take_zero])))
      | (refine AW.region (id := 10) ?_; exfalso; first | omega | (simp_all; done); done)
      | refine AW.region ?_
      | (refine AW.conds rfl (fun hc => ?_) (fun hc => ?_) <;> (try simp only [decide_eq_true_eq, decide_eq_false_iff_not, Bool.not_true, Bool.not_false, Bool.not_eq_true', Bool.not_eq_false', Int.not_lt, Int.not_le, Classical.not_not, ne_eq] at hc) <;> first | (exfalso; first | contradiction | (first | omega | (simp_all; done)); done) | skip))
    | ((with_reducible refine AF.on ?_); first
      | ((first | ((with_reducible refine AF.k_move ?_); first | (refine AF.q 0 (SW.q (OQ.move (by conv => lhs; whnf)) rfl) ?_)) | ((with_reducible refine AF.k_call ?_); first | refine AF.q 0 (SW.q (OQ.min2 rfl rfl) rfl) ?_) | ((with_reducible refine AF.k_assign ?_); first | (refine AF.q 0 (SW.q (OQ.assign (by conv => lhs; whnf)) rfl) ?_)) | ((with_reducible refine AF.k_load ?_); first | refine AF.q 2 (SW.q (OQ.loadN (ty := 24) (n := 3) rfl (by kernel_rfl) (by kernel_rfl) rfl) rfl) ?_ | refine AF.q 2 (SW.q (OQ.loadN (ty := 26) (n := 3) rfl (by kernel_rfl) (by kernel_rfl) rfl) rfl) ?_) | ((with_reducible refine AF.k_binOp ?_); first | refine AF.q 0 (SW.q (OQ.muli rfl rfl (by omega)) rfl) ?_ | refine AF.q 0 (SW.q (OQ.mul rfl rfl) rfl) ?_) | ((with_reducible refine AF.k_extract ?_); first | refine AF.q 0 (SW.q (OQ.extract rfl rfl) rfl) ?_)); (conv => (arg 9; try simp only [T.put, maskF_len, List.length_cons, List.length_nil, T.ev, putAt, setsT, newBlks, fillL, List.map, List.set, List.append, List.cons_append, List.nil_append, List.length, List.getElem?_cons_zero, List.getElem?_cons_succ, Nat.reduceAdd, Nat.reduceMul, Nat.zero_add, Nat.add_zero, Nat.mul_one, Nat.zero_mul, List.drop, List.take, List.toList_toArray, Value.cells, Int.reduceToNat, Int.toNat_natCast, List.getD, Option.getD, Option.map, flat, flat1, scal, if_true, ↓reduceIte])); (conv => (arg 11; try simp only [List.nil_append, List.cons_append])))
      | ((first | first | refine AF.n1 2 (SW.acall (g := 18) rfl (by kernel_rfl) rfl ((by exact Copy_q nm bd (l := l) (.blk 0 _ rfl rfl rfl) (by omega))) rfl) rfl ?_ | refine AF.n1 2 (SW.acall (g := 17) rfl (by kernel_rfl) rfl ((by first | exact A1 _ _ _ rfl rfl | exact A2 _ _ _ rfl rfl)) rfl) rfl ?_); (conv => (arg 9; try simp only [T.put, maskF_len, List.length_cons, List.length_nil, T.ev, putAt, setsT, newBlks, fillL, List.map, List.set, List.append, List.cons_append, List.nil_append, List.length, List.getElem?_cons_zero, List.getElem?_cons_succ, Nat.reduceAdd, Nat.reduceMul, Nat.zero_add, Nat.add_zero, Nat.mul_one, Nat.zero_mul, List.drop, List.take, List.toList_toArray, Value.cells, Int.reduceToNat, Int.toNat_natCast, List.getD, Option.getD, Option.map, flat, flat1, scal, if_true, ↓reduceIte])); (conv => (arg 11; try simp only [List.nil_append, List.cons_append])); (conv => (arg 10; try simp only [T.put, maskF_len, List.length_cons, List.length_nil, T.ev, putAt, setsT, newBlks, fillL, List.map, List.set, List.append, List.cons_append, List.nil_append, List.length, List.getElem?_cons_zero, List.getElem?_cons_succ, Nat.reduceAdd, Nat.reduceMul, Nat.zero_add, Nat.add_zero, Nat.mul_one, Nat.zero_mul, List.drop, List.take, List.toList_toArray, Value.cells, Int.reduceToNat, Int.toNat_natCast, List.getD, Option.getD, Option.map, flat, flat1, scal, if_true, ↓reduceIte])))
      | (refine AF.nil ?_ (by kernel_rfl); (conv => (arg 4; simp only [List.drop_succ_cons, List.drop_zero, List.drop_nil]))))
    | ((with_reducible refine FinP.on ?_); (first | refine FinP.ret (.tmp (by conv => lhs; whnf) .nil) ?_ rfl | refine FinP.end (.tmp (by conv => lhs; whnf) .nil) ?_ rfl); (try simp only [pack, List.drop, List.take]); all_goals (simp_all)))

/-- A right orbit and a right place, no tick near. -/
theorem ps_en (x y z mo : Int) (L M : List (Int × Int)) (hn : nm.size ≤ 1000) (hR : Right bd l) (he : (orbE nm.data.toList bd l).2 = 0) (hf : (fewB nm.size l.length && briefB nm.data.toList bd l) = true)
    (hx : -100000000 ≤ x ∧ x ≤ 100000000) (hy : -100000000 ≤ y ∧ y ≤ 100000000) (hz : -100000000 ≤ z ∧ z ≤ 100000000) (hpl : placeE x y z = 0) (hplB : plB x y z = true) (hmo : 0 ≤ mo ∧ mo ≤ 100000000)
    (hLd : psL l x y z mo = L) (hMd : psL l x y z (if (100000000 : Int) < 2 * mo then 100000000 else 2 * mo) = M) (hL : L = []) (hM : rgB M = some ⟨flatR M, true, 2⟩) (kL : L.length ≤ 300) (kM : M.length ≤ 300)
    (rL : ∀ k, k < L.length → 0 ≤ (rg_ L k).1 ∧ (rg_ L k).1 ≤ (rg_ L k).2 ∧ (rg_ L k).2 ≤ 1000000000) (rM : ∀ k, k < M.length → 0 ≤ (rg_ M k).1 ∧ (rg_ M k).1 ≤ (rg_ M k).2 ∧ (rg_ M k).2 ≤ 1000000000) (hle : nTk L ≤ nTk M) :
    PCalls Try.prog 3 [obW nm bd (.slice (some ⟨0, 0, none⟩) l.length INF), v3 x y z, .int .i64 mo] [some ⟨flatS l, false, 0⟩] (.bool true) := by
  have ho := Ors.of_right (bd := bd) hn hR
  have h40 := hR.n40
  have hnm' : (nm.size : Int) ≤ 9223372036854775807 := by omega
  have H1 := fun (m : Mem) (v : Value) (hS : SlB m v l) => brief_q (bd := bd) hS ho.wf ho.len hnm'
  rw [hf] at H1
  have H2 := fun (m : Mem) (v : Value) (hS : SlB m v l) => Err_q (bd := bd) hS ho
  rw [he] at H2
  have H4 := IsPlace_q x y z
  rw [hplB] at H4
  have H5 := Within_q mo 0 100000000
  rw [show rngB mo 0 100000000 = true from rngB_true.2 hmo] at H5
  have P1 := fun z0 => Passes_0 nm bd x y z mo l z0 hn hR he hx hy hz hpl hmo
  have P2 := fun z0 => Passes_0 nm bd x y z (if (100000000 : Int) < 2 * mo then 100000000 else 2 * mo) l z0 hn hR he hx hy hz hpl (by omega)
  have P3 := fun z0 => rPasses_0 nm bd x y z mo l z0 hn hR hx hy hz hmo
  rw [hLd] at P1 P3
  rw [hMd] at P2
  have T1 := fun (m : Mem) (b : Nat) (hb : m.at b = rgB L) => tk_q L hb kL rL
  have T2 := fun (m : Mem) (b : Nat) (hb : m.at b = rgB M) => tk_q M hb kM rM
  have R1 := fun (m : Mem) (b c : Nat) (hb : m.at b = rgB L) (hc : m.at c = rgB L) => Ranges_q hb hc (by omega) (by omega)
  simp only [decide_true] at R1
  clear hLd hMd rL rM
  generalize nTk L = tL at *
  generalize nTk M = tM at *
  subst hL
  simp only [rgV_nil] at P1 P3 T1 R1
  have B1 := fun (m : Mem) (i : Nat) (blk : Blk) (hb : m.at i = some blk) (hc : blk.cells = flatS l) => ps_p nm bd x y z mo hb hc P1 rfl rfl rfl
  have B3 := fun (m : Mem) (i : Nat) (blk : Blk) (hb : m.at i = some blk) (hc : blk.cells = flatS l) => ps_p nm bd x y z mo hb hc P3 rfl rfl rfl
  have T1' := fun (m : Mem) => T1 m m.length (by simp [Mem.at, rgB_nil])
  have R1' := fun (m : Mem) => R1 m m.length m.length (by simp [Mem.at, rgB_nil]) (by simp [Mem.at, rgB_nil])
  rw [hM] at T2
  have A2 := fun (m : Mem) (i : Nat) (blk : Blk) (hb : m.at i = some blk) (hc : blk.cells = flatS l) => ps_a nm bd x y z (if (100000000 : Int) < 2 * mo then 100000000 else 2 * mo) M ⟨flatR M, true, 2⟩ hb hc hM P2 (by show Value.tuple #[rn2 _ (rgV 1 M), .int .i64 0] = Value.tuple #[rgV m.length M, .int .i64 0]; rw [rgV_rn2]; rfl) (by show (ok2 2 (rgV 1 M) && (true && true)) = true; rw [rgV_ok2 _ (by decide)]; rfl)
  clear P1 P2 P3
  refine PCalls.enter (t := [obW nm bd (.slice (some ⟨0, 0, none⟩) l.length INF), v3 x y z, .int .i64 mo, undef, undef, undef, undef, undef, undef, undef, undef, undef, undef, undef, undef, undef, undef, undef, undef, undef, undef, undef, undef, undef, undef, undef, undef, undef, undef, undef, undef, undef, undef, undef, undef, undef, undef, undef, undef, undef, undef, undef, undef, undef, undef, undef, undef, undef, undef, undef, undef, undef, undef, undef, undef, undef, undef, undef, undef, undef, undef, undef, undef, undef, undef, undef, undef, undef, undef, undef, undef, undef, undef, undef, undef, undef, undef, undef, undef, undef]) Try.func3 rfl (ro1 _ rfl) rfl fun E => ?_
  repeat' (first
    | with_reducible refine Then.n ?_
    | with_reducible refine Then.r ?_
    | with_reducible refine Then.x ?_
    | with_reducible refine InB.n ?_
    | with_reducible refine InB.r ?_
    | with_reducible refine InB.hit ?_
    | with_reducible refine InB.miss (by decide) ?_
    | ((with_reducible refine AL.on ?_); first
      | (refine AL.gd rfl ?_; first | (refine AL.gskip rfl rfl ?_; (conv => (arg 5; try simp only [T.put, T.ev, putAt, setsT, newBlks, fillL, List.map, List.set, List.append, List.cons_append, List.nil_append, List.length, List.getElem?_cons_zero, List.getElem?_cons_succ, Nat.reduceAdd, Nat.reduceMul, Nat.zero_add, Nat.add_zero, Nat.mul_one, Nat.zero_mul, List.drop, List.take, List.toList_toArray, Value.cells, Int.reduceToNat, Int.toNat_natCast, List.getD, Option.getD, Option.map, flat, flat1, scal, if_true, ↓reduceIte]))) | (refine AL.gs1 rfl rfl (fun hc => ?_) (fun hc => ?_) <;> (try simp only [decide_eq_true_eq, decide_eq_false_iff_not, Bool.not_true, Bool.not_false, Bool.not_eq_true', Bool.not_eq_false', Int.not_lt, Int.not_le, Classical.not_not, ne_eq] at hc) <;> first | (exfalso; first | contradiction | (first | omega | (simp_all; done)); done) | (conv => (arg 5; try simp only [T.put, T.ev, putAt, setsT, newBlks, fillL, List.map, List.set, List.append, List.cons_append, List.nil_append, List.length, List.getElem?_cons_zero, List.getElem?_cons_succ, Nat.reduceAdd, Nat.reduceMul, Nat.zero_add, Nat.add_zero, Nat.mul_one, Nat.zero_mul, List.drop, List.take, List.toList_toArray, Value.cells, Int.reduceToNat, Int.toNat_natCast, List.getD, Option.getD, Option.map, flat, flat1, scal, if_true, ↓reduceIte]))) | (refine AL.gs0 rfl rfl (fun hc => ?_) (fun hc => ?_) <;> (try simp only [decide_eq_true_eq, decide_eq_false_iff_not, Bool.not_true, Bool.not_false, Bool.not_eq_true', Bool.not_eq_false', Int.not_lt, Int.not_le, Classical.not_not, ne_eq] at hc) <;> first | (exfalso; first | contradiction | (first | omega | (simp_all; done)); done) | (conv => (arg 5; try simp only [T.put, T.ev, putAt, setsT, newBlks, fillL, List.map, List.set, List.append, List.cons_append, List.nil_append, List.length, List.getElem?_cons_zero, List.getElem?_cons_succ, Nat.reduceAdd, Nat.reduceMul, Nat.zero_add, Nat.add_zero, Nat.mul_one, Nat.zero_mul, List.drop, List.take, List.toList_toArray, Value.cells, Int.reduceToNat, Int.toNat_natCast, List.getD, Option.getD, Option.map, flat, flat1, scal, if_true, ↓reduceIte]))))
      | ((first | ((with_reducible refine AL.k_move ?_); first | (refine AL.q rfl (OQ.move (by conv => lhs; whnf)) ?_)) | ((with_reducible refine AL.k_call ?_); first | refine AL.q rfl (OQ.lenS (xt := 29) (r := (none, 2, true)) rfl (by kernel_rfl)) ?_) | ((with_reducible refine AL.k_assign ?_); first | (refine AL.q rfl (OQ.assign (by conv => lhs; whnf)) ?_)) | ((with_reducible refine AL.k_load ?_); first | refine AL.q rfl (OQ.loadN (ty := 24) (n := 3) rfl (by kernel_rfl) (by kernel_rfl) rfl) ?_ | refine AL.q rfl (OQ.loadN (ty := 26) (n := 3) rfl (by kernel_rfl) (by kernel_rfl) rfl) ?_) | ((with_reducible refine AL.k_binOp ?_); first | refine AL.q rfl (OQ.eql rfl rfl) ?_ | refine AL.q rfl (OQ.neq rfl rfl) ?_ | refine AL.q rfl (OQ.geq rfl rfl) ?_) | ((with_reducible refine AL.k_pick ?_); first | (refine AL.q rfl (OQ.pickT rfl (by with_reducible rfl) (by conv => lhs; whnf)) ?_) | (refine AL.q rfl (OQ.pickF rfl (by with_reducible rfl) (by conv => lhs; whnf)) ?_)) | ((with_reducible refine AL.k_unOp ?_); first | refine AL.q rfl (OQ.not rfl) ?_)); (conv => (arg 5; try simp only [T.put, T.ev, putAt, setsT, newBlks, fillL, List.map, List.set, List.append, List.cons_append, List.nil_append, List.length, List.getElem?_cons_zero, List.getElem?_cons_succ, Nat.reduceAdd, Nat.reduceMul, Nat.zero_add, Nat.add_zero, Nat.mul_one, Nat.zero_mul, List.drop, List.take, List.toList_toArray, Value.cells, Int.reduceToNat, Int.toNat_natCast, List.getD, Option.getD, Option.map, flat, flat1, scal, if_true, ↓reduceIte])))
      | ((first | first | refine AL.pcall (g := 15) rfl (by kernel_rfl) rfl (awake_q _) ?_ | refine AL.pcall (g := 16) rfl (by kernel_rfl) rfl (H1 _ _ (.blk 0 _ rfl rfl rfl)) ?_ | refine AL.pcall (g := 19) rfl (by kernel_rfl) rfl (H2 _ _ (.blk 0 _ rfl rfl rfl)) ?_ | refine AL.pcall (g := 20) rfl (by kernel_rfl) rfl (H4 _) ?_ | refine AL.pcall (g := 21) rfl (by kernel_rfl) rfl (H5 _) ?_ | refine AL.pcall (g := 23) rfl (by kernel_rfl) rfl ((by exact B3 _ _ _ rfl rfl)) ?_ | refine AL.pcall (g := 22) rfl (by kernel_rfl) rfl ((by exact R1' _)) ?_ | refine AL.pcall (g := 24) rfl (by kernel_rfl) rfl ((by first | exact T1' _ | exact T2 _ _ rfl)) ?_); (conv => (arg 5; try simp only [T.put, T.ev, putAt, setsT, newBlks, fillL, List.map, List.set, List.append, List.cons_append, List.nil_append, List.length, List.getElem?_cons_zero, List.getElem?_cons_succ, Nat.reduceAdd, Nat.reduceMul, Nat.zero_add, Nat.add_zero, Nat.mul_one, Nat.zero_mul, List.drop, List.take, List.toList_toArray, Value.cells, Int.reduceToNat, Int.toNat_natCast, List.getD, Option.getD, Option.map, flat, flat1, scal, if_true, ↓reduceIte])))
      | ((first | first | (refine AL.w rfl (OW.box (by conv => lhs; whnf) (by intro r h; cases h)) ?_)); (conv => (arg 5; try simp only [T.put, T.ev, putAt, setsT, newBlks, fillL, List.map, List.set, List.append, List.cons_append, List.nil_append, List.length, List.getElem?_cons_zero, List.getElem?_cons_succ, Nat.reduceAdd, Nat.reduceMul, Nat.zero_add, Nat.add_zero, Nat.mul_one, Nat.zero_mul, List.drop, List.take, List.toList_toArray, Value.cells, Int.reduceToNat, Int.toNat_natCast, List.getD, Option.getD, Option.map, flat, flat1, scal, if_true, ↓reduceIte])); (conv => (arg 6; try simp only [T.put, T.ev, putAt, setsT, newBlks, fillL, List.map, List.set, List.append, List.cons_append, List.nil_append, List.length, List.getElem?_cons_zero, List.getElem?_cons_succ, Nat.reduceAdd, Nat.reduceMul, Nat.zero_add, Nat.add_zero, Nat.mul_one, Nat.zero_mul, List.drop, List.take, List.toList_toArray, Value.cells, Int.reduceToNat, Int.toNat_natCast, List.getD, Option.getD, Option.map, flat, flat1, scal, if_true, ↓reduceIte])))
      | (refine AL.bs rfl (fun hc => ?_) (fun hc => ?_) <;> (fail_if_success (with_reducible exact lit_no hc)) <;> (try simp only [decide_eq_true_eq, decide_eq_false_iff_not, Bool.not_true, Bool.not_false, Bool.not_eq_true', Bool.not_eq_false', Int.not_lt, Int.not_le, Classical.not_not, ne_eq] at hc) <;> first | (exfalso; first | contradiction | (first | omega | (simp_all; done)); done) | (conv => (arg 5; try simp only [T.put, T.ev, putAt, setsT, newBlks, fillL, List.map, List.set, List.append, List.cons_append, List.nil_append, List.length, List.getElem?_cons_zero, List.getElem?_cons_succ, Nat.reduceAdd, Nat.reduceMul, Nat.zero_add, Nat.add_zero, Nat.mul_one, Nat.zero_mul, List.drop, List.take, List.toList_toArray, Value.cells, Int.reduceToNat, Int.toNat_natCast, List.getD, Option.getD, Option.map, flat, flat1, scal, if_true, ↓reduceIte])))
      | refine AL.nil ?_)
    | ((with_reducible refine AW.on ?_); first
      | refine AW.seq ?_
      | refine AW.skip ?_
      | refine AW.exit ?_
      | refine AW.ret ?_
      | refine AW.block ?_
      | (refine AW.drawF (id := 5) 9 #[0, 1, 0, 0, 15, 31, 63, 63, 127, 511] (by kernel_rfl) (by kernel_rfl) ?_; (conv => (arg 8; simp only [List.take_succ_cons, List.take_zero])))
      | (refine AW.drawF (id := 11) 11 #[0, 1, 0, 0, 8, 24, 63, 127, 255, 255, 511, 2047] (by kernel_rfl) (by kernel_rfl) ?_; (conv => (arg 8; simp only [List.take_succ_cons, List.take_zero])))
      | (refine AW.region (id := 10) ?_; exfalso; first | omega | (simp_all; done); done)
      | refine AW.region ?_
      | (refine AW.conds rfl (fun hc => ?_) (fun hc => ?_) <;> (try simp only [decide_eq_true_eq, decide_eq_false_iff_not, Bool.not_true, Bool.not_false, Bool.not_eq_true', Bool.not_eq_false', Int.not_lt, Int.not_le, Classical.not_not, ne_eq] at hc) <;> first | (exfalso; first | contradiction | (first | omega | (simp_all; done)); done) | skip))
    | ((with_reducible refine AF.on ?_); first
      | ((first | ((with_reducible refine AF.k_move ?_); first | (refine AF.q 0 (SW.q (OQ.move (by conv => lhs; whnf)) rfl) ?_)) | ((with_reducible refine AF.k_call ?_); first | refine AF.q 0 (SW.q (OQ.min2 rfl rfl) rfl) ?_) | ((with_reducible refine AF.k_assign ?_); first | (refine AF.q 0 (SW.q (OQ.assign (by conv => lhs; whnf)) rfl) ?_)) | ((with_reducible refine AF.k_load ?_); first | refine AF.q 2 (SW.q (OQ.loadN (ty := 24) (n := 3) rfl (by kernel_rfl) (by kernel_rfl) rfl) rfl) ?_ | refine AF.q 2 (SW.q (OQ.loadN (ty := 26) (n := 3) rfl (by kernel_rfl) (by kernel_rfl) rfl) rfl) ?_) | ((with_reducible refine AF.k_binOp ?_); first | refine AF.q 0 (SW.q (OQ.muli rfl rfl (by omega)) rfl) ?_ | refine AF.q 0 (SW.q (OQ.mul rfl rfl) rfl) ?_) | ((with_reducible refine AF.k_extract ?_); first | refine AF.q 0 (SW.q (OQ.extract rfl rfl) rfl) ?_)); (conv => (arg 9; try simp only [T.put, maskF_len, List.length_cons, List.length_nil, T.ev, putAt, setsT, newBlks, fillL, List.map, List.set, List.append, List.cons_append, List.nil_append, List.length, List.getElem?_cons_zero, List.getElem?_cons_succ, Nat.reduceAdd, Nat.reduceMul, Nat.zero_add, Nat.add_zero, Nat.mul_one, Nat.zero_mul, List.drop, List.take, List.toList_toArray, Value.cells, Int.reduceToNat, Int.toNat_natCast, List.getD, Option.getD, Option.map, flat, flat1, scal, if_true, ↓reduceIte])); (conv => (arg 11; try simp only [List.nil_append, List.cons_append])))
      | ((first | first | refine AF.n1 2 (SW.acall (g := 18) rfl (by kernel_rfl) rfl ((by exact Copy_q nm bd (l := l) (.blk 0 _ rfl rfl rfl) (by omega))) rfl) rfl ?_ | refine AF.n1 2 (SW.acall (g := 17) rfl (by kernel_rfl) rfl ((by exact A2 _ _ _ rfl rfl)) rfl) rfl ?_ | refine AF.q 2 (SW.pcall (g := 17) rfl (by kernel_rfl) rfl ((by exact B1 _ _ _ rfl rfl)) rfl) ?_); (conv => (arg 9; try simp only [T.put, maskF_len, List.length_cons, List.length_nil, T.ev, putAt, setsT, newBlks, fillL, List.map, List.set, List.append, List.cons_append, List.nil_append, List.length, List.getElem?_cons_zero, List.getElem?_cons_succ, Nat.reduceAdd, Nat.reduceMul, Nat.zero_add, Nat.add_zero, Nat.mul_one, Nat.zero_mul, List.drop, List.take, List.toList_toArray, Value.cells, Int.reduceToNat, Int.toNat_natCast, List.getD, Option.getD, Option.map, flat, flat1, scal, if_true, ↓reduceIte])); (conv => (arg 11; try simp only [List.nil_append, List.cons_append])); (conv => (arg 10; try simp only [T.put, maskF_len, List.length_cons, List.length_nil, T.ev, putAt, setsT, newBlks, fillL, List.map, List.set, List.append, List.cons_append, List.nil_append, List.length, List.getElem?_cons_zero, List.getElem?_cons_succ, Nat.reduceAdd, Nat.reduceMul, Nat.zero_add, Nat.add_zero, Nat.mul_one, Nat.zero_mul, List.drop, List.take, List.toList_toArray, Value.cells, Int.reduceToNat, Int.toNat_natCast, List.getD, Option.getD, Option.map, flat, flat1, scal, if_true, ↓reduceIte])))
      | (refine AF.nil ?_ (by kernel_rfl); (conv => (arg 4; simp only [List.drop_succ_cons, List.drop_zero, List.drop_nil]))))
    | ((with_reducible refine FinP.on ?_); (first | refine FinP.ret (.tmp (by conv => lhs; whnf) .nil) ?_ rfl | refine FinP.end (.tmp (by conv => lhs; whnf) .nil) ?_ rfl); (try simp only [pack, List.drop, List.take]); all_goals (simp_all)))

/-- A right orbit and a right place, no tick near or farther. -/
theorem ps_ee (x y z mo : Int) (L M : List (Int × Int)) (hn : nm.size ≤ 1000) (hR : Right bd l) (he : (orbE nm.data.toList bd l).2 = 0) (hf : (fewB nm.size l.length && briefB nm.data.toList bd l) = true)
    (hx : -100000000 ≤ x ∧ x ≤ 100000000) (hy : -100000000 ≤ y ∧ y ≤ 100000000) (hz : -100000000 ≤ z ∧ z ≤ 100000000) (hpl : placeE x y z = 0) (hplB : plB x y z = true) (hmo : 0 ≤ mo ∧ mo ≤ 100000000)
    (hLd : psL l x y z mo = L) (hMd : psL l x y z (if (100000000 : Int) < 2 * mo then 100000000 else 2 * mo) = M) (hL : L = []) (hM : M = []) (kL : L.length ≤ 300) (kM : M.length ≤ 300)
    (rL : ∀ k, k < L.length → 0 ≤ (rg_ L k).1 ∧ (rg_ L k).1 ≤ (rg_ L k).2 ∧ (rg_ L k).2 ≤ 1000000000) (rM : ∀ k, k < M.length → 0 ≤ (rg_ M k).1 ∧ (rg_ M k).1 ≤ (rg_ M k).2 ∧ (rg_ M k).2 ≤ 1000000000) (hle : nTk L ≤ nTk M) :
    PCalls Try.prog 3 [obW nm bd (.slice (some ⟨0, 0, none⟩) l.length INF), v3 x y z, .int .i64 mo] [some ⟨flatS l, false, 0⟩] (.bool true) := by
  have ho := Ors.of_right (bd := bd) hn hR
  have h40 := hR.n40
  have hnm' : (nm.size : Int) ≤ 9223372036854775807 := by omega
  have H1 := fun (m : Mem) (v : Value) (hS : SlB m v l) => brief_q (bd := bd) hS ho.wf ho.len hnm'
  rw [hf] at H1
  have H2 := fun (m : Mem) (v : Value) (hS : SlB m v l) => Err_q (bd := bd) hS ho
  rw [he] at H2
  have H4 := IsPlace_q x y z
  rw [hplB] at H4
  have H5 := Within_q mo 0 100000000
  rw [show rngB mo 0 100000000 = true from rngB_true.2 hmo] at H5
  have P1 := fun z0 => Passes_0 nm bd x y z mo l z0 hn hR he hx hy hz hpl hmo
  have P2 := fun z0 => Passes_0 nm bd x y z (if (100000000 : Int) < 2 * mo then 100000000 else 2 * mo) l z0 hn hR he hx hy hz hpl (by omega)
  have P3 := fun z0 => rPasses_0 nm bd x y z mo l z0 hn hR hx hy hz hmo
  rw [hLd] at P1 P3
  rw [hMd] at P2
  have T1 := fun (m : Mem) (b : Nat) (hb : m.at b = rgB L) => tk_q L hb kL rL
  have T2 := fun (m : Mem) (b : Nat) (hb : m.at b = rgB M) => tk_q M hb kM rM
  have R1 := fun (m : Mem) (b c : Nat) (hb : m.at b = rgB L) (hc : m.at c = rgB L) => Ranges_q hb hc (by omega) (by omega)
  simp only [decide_true] at R1
  clear hLd hMd rL rM
  generalize nTk L = tL at *
  generalize nTk M = tM at *
  subst hL
  simp only [rgV_nil] at P1 P3 T1 R1
  have B1 := fun (m : Mem) (i : Nat) (blk : Blk) (hb : m.at i = some blk) (hc : blk.cells = flatS l) => ps_p nm bd x y z mo hb hc P1 rfl rfl rfl
  have B3 := fun (m : Mem) (i : Nat) (blk : Blk) (hb : m.at i = some blk) (hc : blk.cells = flatS l) => ps_p nm bd x y z mo hb hc P3 rfl rfl rfl
  have T1' := fun (m : Mem) => T1 m m.length (by simp [Mem.at, rgB_nil])
  have R1' := fun (m : Mem) => R1 m m.length m.length (by simp [Mem.at, rgB_nil]) (by simp [Mem.at, rgB_nil])
  subst hM
  simp only [rgV_nil] at P2 T2
  have B2 := fun (m : Mem) (i : Nat) (blk : Blk) (hb : m.at i = some blk) (hc : blk.cells = flatS l) => ps_p nm bd x y z (if (100000000 : Int) < 2 * mo then 100000000 else 2 * mo) hb hc P2 rfl rfl rfl
  have T2' := fun (m : Mem) => T2 m m.length (by simp [Mem.at, rgB_nil])
  clear P1 P2 P3
  refine PCalls.enter (t := [obW nm bd (.slice (some ⟨0, 0, none⟩) l.length INF), v3 x y z, .int .i64 mo, undef, undef, undef, undef, undef, undef, undef, undef, undef, undef, undef, undef, undef, undef, undef, undef, undef, undef, undef, undef, undef, undef, undef, undef, undef, undef, undef, undef, undef, undef, undef, undef, undef, undef, undef, undef, undef, undef, undef, undef, undef, undef, undef, undef, undef, undef, undef, undef, undef, undef, undef, undef, undef, undef, undef, undef, undef, undef, undef, undef, undef, undef, undef, undef, undef, undef, undef, undef, undef, undef, undef, undef, undef, undef, undef, undef, undef]) Try.func3 rfl (ro1 _ rfl) rfl fun E => ?_
  repeat' (first
    | with_reducible refine Then.n ?_
    | with_reducible refine Then.r ?_
    | with_reducible refine Then.x ?_
    | with_reducible refine InB.n ?_
    | with_reducible refine InB.r ?_
    | with_reducible refine InB.hit ?_
    | with_reducible refine InB.miss (by decide) ?_
    | ((with_reducible refine AL.on ?_); first
      | (refine AL.gd rfl ?_; first | (refine AL.gskip rfl rfl ?_; (conv => (arg 5; try simp only [T.put, T.ev, putAt, setsT, newBlks, fillL, List.map, List.set, List.append, List.cons_append, List.nil_append, List.length, List.getElem?_cons_zero, List.getElem?_cons_succ, Nat.reduceAdd, Nat.reduceMul, Nat.zero_add, Nat.add_zero, Nat.mul_one, Nat.zero_mul, List.drop, List.take, List.toList_toArray, Value.cells, Int.reduceToNat, Int.toNat_natCast, List.getD, Option.getD, Option.map, flat, flat1, scal, if_true, ↓reduceIte]))) | (refine AL.gs1 rfl rfl (fun hc => ?_) (fun hc => ?_) <;> (try simp only [decide_eq_true_eq, decide_eq_false_iff_not, Bool.not_true, Bool.not_false, Bool.not_eq_true', Bool.not_eq_false', Int.not_lt, Int.not_le, Classical.not_not, ne_eq] at hc) <;> first | (exfalso; first | contradiction | (first | omega | (simp_all; done)); done) | (conv => (arg 5; try simp only [T.put, T.ev, putAt, setsT, newBlks, fillL, List.map, List.set, List.append, List.cons_append, List.nil_append, List.length, List.getElem?_cons_zero, List.getElem?_cons_succ, Nat.reduceAdd, Nat.reduceMul, Nat.zero_add, Nat.add_zero, Nat.mul_one, Nat.zero_mul, List.drop, List.take, List.toList_toArray, Value.cells, Int.reduceToNat, Int.toNat_natCast, List.getD, Option.getD, Option.map, flat, flat1, scal, if_true, ↓reduceIte]))) | (refine AL.gs0 rfl rfl (fun hc => ?_) (fun hc => ?_) <;> (try simp only [decide_eq_true_eq, decide_eq_false_iff_not, Bool.not_true, Bool.not_false, Bool.not_eq_true', Bool.not_eq_false', Int.not_lt, Int.not_le, Classical.not_not, ne_eq] at hc) <;> first | (exfalso; first | contradiction | (first | omega | (simp_all; done)); done) | (conv => (arg 5; try simp only [T.put, T.ev, putAt, setsT, newBlks, fillL, List.map, List.set, List.append, List.cons_append, List.nil_append, List.length, List.getElem?_cons_zero, List.getElem?_cons_succ, Nat.reduceAdd, Nat.reduceMul, Nat.zero_add, Nat.add_zero, Nat.mul_one, Nat.zero_mul, List.drop, List.take, List.toList_toArray, Value.cells, Int.reduceToNat, Int.toNat_natCast, List.getD, Option.getD, Option.map, flat, flat1, scal, if_true, ↓reduceIte]))))
      | ((first | ((with_reducible refine AL.k_move ?_); first | (refine AL.q rfl (OQ.move (by conv => lhs; whnf)) ?_)) | ((with_reducible refine AL.k_call ?_); first | refine AL.q rfl (OQ.lenS (xt := 29) (r := (none, 2, true)) rfl (by kernel_rfl)) ?_) | ((with_reducible refine AL.k_assign ?_); first | (refine AL.q rfl (OQ.assign (by conv => lhs; whnf)) ?_)) | ((with_reducible refine AL.k_load ?_); first | refine AL.q rfl (OQ.loadN (ty := 24) (n := 3) rfl (by kernel_rfl) (by kernel_rfl) rfl) ?_ | refine AL.q rfl (OQ.loadN (ty := 26) (n := 3) rfl (by kernel_rfl) (by kernel_rfl) rfl) ?_) | ((with_reducible refine AL.k_binOp ?_); first | refine AL.q rfl (OQ.eql rfl rfl) ?_ | refine AL.q rfl (OQ.neq rfl rfl) ?_ | refine AL.q rfl (OQ.geq rfl rfl) ?_) | ((with_reducible refine AL.k_pick ?_); first | (refine AL.q rfl (OQ.pickT rfl (by with_reducible rfl) (by conv => lhs; whnf)) ?_) | (refine AL.q rfl (OQ.pickF rfl (by with_reducible rfl) (by conv => lhs; whnf)) ?_)) | ((with_reducible refine AL.k_unOp ?_); first | refine AL.q rfl (OQ.not rfl) ?_)); (conv => (arg 5; try simp only [T.put, T.ev, putAt, setsT, newBlks, fillL, List.map, List.set, List.append, List.cons_append, List.nil_append, List.length, List.getElem?_cons_zero, List.getElem?_cons_succ, Nat.reduceAdd, Nat.reduceMul, Nat.zero_add, Nat.add_zero, Nat.mul_one, Nat.zero_mul, List.drop, List.take, List.toList_toArray, Value.cells, Int.reduceToNat, Int.toNat_natCast, List.getD, Option.getD, Option.map, flat, flat1, scal, if_true, ↓reduceIte])))
      | ((first | first | refine AL.pcall (g := 15) rfl (by kernel_rfl) rfl (awake_q _) ?_ | refine AL.pcall (g := 16) rfl (by kernel_rfl) rfl (H1 _ _ (.blk 0 _ rfl rfl rfl)) ?_ | refine AL.pcall (g := 19) rfl (by kernel_rfl) rfl (H2 _ _ (.blk 0 _ rfl rfl rfl)) ?_ | refine AL.pcall (g := 20) rfl (by kernel_rfl) rfl (H4 _) ?_ | refine AL.pcall (g := 21) rfl (by kernel_rfl) rfl (H5 _) ?_ | refine AL.pcall (g := 23) rfl (by kernel_rfl) rfl ((by exact B3 _ _ _ rfl rfl)) ?_ | refine AL.pcall (g := 22) rfl (by kernel_rfl) rfl ((by exact R1' _)) ?_ | refine AL.pcall (g := 24) rfl (by kernel_rfl) rfl ((by first | exact T1' _ | exact T2' _)) ?_); (conv => (arg 5; try simp only [T.put, T.ev, putAt, setsT, newBlks, fillL, List.map, List.set, List.append, List.cons_append, List.nil_append, List.length, List.getElem?_cons_zero, List.getElem?_cons_succ, Nat.reduceAdd, Nat.reduceMul, Nat.zero_add, Nat.add_zero, Nat.mul_one, Nat.zero_mul, List.drop, List.take, List.toList_toArray, Value.cells, Int.reduceToNat, Int.toNat_natCast, List.getD, Option.getD, Option.map, flat, flat1, scal, if_true, ↓reduceIte])))
      | ((first | first | (refine AL.w rfl (OW.box (by conv => lhs; whnf) (by intro r h; cases h)) ?_)); (conv => (arg 5; try simp only [T.put, T.ev, putAt, setsT, newBlks, fillL, List.map, List.set, List.append, List.cons_append, List.nil_append, List.length, List.getElem?_cons_zero, List.getElem?_cons_succ, Nat.reduceAdd, Nat.reduceMul, Nat.zero_add, Nat.add_zero, Nat.mul_one, Nat.zero_mul, List.drop, List.take, List.toList_toArray, Value.cells, Int.reduceToNat, Int.toNat_natCast, List.getD, Option.getD, Option.map, flat, flat1, scal, if_true, ↓reduceIte])); (conv => (arg 6; try simp only [T.put, T.ev, putAt, setsT, newBlks, fillL, List.map, List.set, List.append, List.cons_append, List.nil_append, List.length, List.getElem?_cons_zero, List.getElem?_cons_succ, Nat.reduceAdd, Nat.reduceMul, Nat.zero_add, Nat.add_zero, Nat.mul_one, Nat.zero_mul, List.drop, List.take, List.toList_toArray, Value.cells, Int.reduceToNat, Int.toNat_natCast, List.getD, Option.getD, Option.map, flat, flat1, scal, if_true, ↓reduceIte])))
      | (refine AL.bs rfl (fun hc => ?_) (fun hc => ?_) <;> (fail_if_success (with_reducible exact lit_no hc)) <;> (try simp only [decide_eq_true_eq, decide_eq_false_iff_not, Bool.not_true, Bool.not_false, Bool.not_eq_true', Bool.not_eq_false', Int.not_lt, Int.not_le, Classical.not_not, ne_eq] at hc) <;> first | (exfalso; first | contradiction | (first | omega | (simp_all; done)); done) | (conv => (arg 5; try simp only [T.put, T.ev, putAt, setsT, newBlks, fillL, List.map, List.set, List.append, List.cons_append, List.nil_append, List.length, List.getElem?_cons_zero, List.getElem?_cons_succ, Nat.reduceAdd, Nat.reduceMul, Nat.zero_add, Nat.add_zero, Nat.mul_one, Nat.zero_mul, List.drop, List.take, List.toList_toArray, Value.cells, Int.reduceToNat, Int.toNat_natCast, List.getD, Option.getD, Option.map, flat, flat1, scal, if_true, ↓reduceIte])))
      | refine AL.nil ?_)
    | ((with_reducible refine AW.on ?_); first
      | refine AW.seq ?_
      | refine AW.skip ?_
      | refine AW.exit ?_
      | refine AW.ret ?_
      | refine AW.block ?_
      | (refine AW.drawF (id := 5) 9 #[0, 1, 0, 0, 15, 31, 63, 63, 127, 511] (by kernel_rfl) (by kernel_rfl) ?_; (conv => (arg 8; simp only [List.take_succ_cons, List.take_zero])))
      | (refine AW.drawF (id := 11) 11 #[0, 1, 0, 0, 8, 24, 63, 127, 255, 255, 511, 2047] (by kernel_rfl) (by kernel_rfl) ?_; (conv => (arg 8; simp only [List.take_succ_cons, List.take_zero])))
      | (refine AW.region (id := 10) ?_; exfalso; first | omega | (simp_all; done); done)
      | refine AW.region ?_
      | (refine AW.conds rfl (fun hc => ?_) (fun hc => ?_) <;> (try simp only [decide_eq_true_eq, decide_eq_false_iff_not, Bool.not_true, Bool.not_false, Bool.not_eq_true', Bool.not_eq_false', Int.not_lt, Int.not_le, Classical.not_not, ne_eq] at hc) <;> first | (exfalso; first | contradiction | (first | omega | (simp_all; done)); done) | skip))
    | ((with_reducible refine AF.on ?_); first
      | ((first | ((with_reducible refine AF.k_move ?_); first | (refine AF.q 0 (SW.q (OQ.move (by conv => lhs; whnf)) rfl) ?_)) | ((with_reducible refine AF.k_call ?_); first | refine AF.q 2 (SW.pcall (g := 17) rfl (by kernel_rfl) rfl ((by first | exact B1 _ _ _ rfl rfl | exact B2 _ _ _ rfl rfl)) rfl) ?_ | refine AF.q 0 (SW.q (OQ.min2 rfl rfl) rfl) ?_) | ((with_reducible refine AF.k_assign ?_); first | (refine AF.q 0 (SW.q (OQ.assign (by conv => lhs; whnf)) rfl) ?_)) | ((with_reducible refine AF.k_load ?_); first | refine AF.q 2 (SW.q (OQ.loadN (ty := 24) (n := 3) rfl (by kernel_rfl) (by kernel_rfl) rfl) rfl) ?_ | refine AF.q 2 (SW.q (OQ.loadN (ty := 26) (n := 3) rfl (by kernel_rfl) (by kernel_rfl) rfl) rfl) ?_) | ((with_reducible refine AF.k_binOp ?_); first | refine AF.q 0 (SW.q (OQ.muli rfl rfl (by omega)) rfl) ?_ | refine AF.q 0 (SW.q (OQ.mul rfl rfl) rfl) ?_) | ((with_reducible refine AF.k_extract ?_); first | refine AF.q 0 (SW.q (OQ.extract rfl rfl) rfl) ?_)); (conv => (arg 9; try simp only [T.put, maskF_len, List.length_cons, List.length_nil, T.ev, putAt, setsT, newBlks, fillL, List.map, List.set, List.append, List.cons_append, List.nil_append, List.length, List.getElem?_cons_zero, List.getElem?_cons_succ, Nat.reduceAdd, Nat.reduceMul, Nat.zero_add, Nat.add_zero, Nat.mul_one, Nat.zero_mul, List.drop, List.take, List.toList_toArray, Value.cells, Int.reduceToNat, Int.toNat_natCast, List.getD, Option.getD, Option.map, flat, flat1, scal, if_true, ↓reduceIte])); (conv => (arg 11; try simp only [List.nil_append, List.cons_append])))
      | ((first | first | refine AF.n1 2 (SW.acall (g := 18) rfl (by kernel_rfl) rfl ((by exact Copy_q nm bd (l := l) (.blk 0 _ rfl rfl rfl) (by omega))) rfl) rfl ?_); (conv => (arg 9; try simp only [T.put, maskF_len, List.length_cons, List.length_nil, T.ev, putAt, setsT, newBlks, fillL, List.map, List.set, List.append, List.cons_append, List.nil_append, List.length, List.getElem?_cons_zero, List.getElem?_cons_succ, Nat.reduceAdd, Nat.reduceMul, Nat.zero_add, Nat.add_zero, Nat.mul_one, Nat.zero_mul, List.drop, List.take, List.toList_toArray, Value.cells, Int.reduceToNat, Int.toNat_natCast, List.getD, Option.getD, Option.map, flat, flat1, scal, if_true, ↓reduceIte])); (conv => (arg 11; try simp only [List.nil_append, List.cons_append])); (conv => (arg 10; try simp only [T.put, maskF_len, List.length_cons, List.length_nil, T.ev, putAt, setsT, newBlks, fillL, List.map, List.set, List.append, List.cons_append, List.nil_append, List.length, List.getElem?_cons_zero, List.getElem?_cons_succ, Nat.reduceAdd, Nat.reduceMul, Nat.zero_add, Nat.add_zero, Nat.mul_one, Nat.zero_mul, List.drop, List.take, List.toList_toArray, Value.cells, Int.reduceToNat, Int.toNat_natCast, List.getD, Option.getD, Option.map, flat, flat1, scal, if_true, ↓reduceIte])))
      | (refine AF.nil ?_ (by kernel_rfl); (conv => (arg 4; simp only [List.drop_succ_cons, List.drop_zero, List.drop_nil]))))
    | ((with_reducible refine FinP.on ?_); (first | refine FinP.ret (.tmp (by conv => lhs; whnf) .nil) ?_ rfl | refine FinP.end (.tmp (by conv => lhs; whnf) .nil) ?_ rfl); (try simp only [pack, List.drop, List.take]); all_goals (simp_all)))
end
end Go.Proofs.Ytaoennekamlfeaa
end

section
namespace Go.Proofs.Ytaoennekamlfeaa.OrbitPasses
open Go.ChangeShapes Go.WideShapes Go.ChangeAt Go Go.RowKit Go.Ob Go.Ab Go.Proofs.Ytaoennekamlfeaa
set_option maxRecDepth 100000

theorem nTk_pos {L : List (Int × Int)} (h : ∀ k, k < L.length → 0 ≤ (rg_ L k).1 ∧ (rg_ L k).1 ≤ (rg_ L k).2 ∧ (rg_ L k).2 ≤ 1000000000) (hL : L ≠ []) : 0 < nTk L := by
  rcases List.eq_nil_or_concat L with e | ⟨L0, r, e⟩
  · exact absurd e hL
  · rw [List.concat_eq_append] at e
    subst e
    have h0 : ∀ k, k < L0.length → 0 ≤ (rg_ L0 k).1 ∧ (rg_ L0 k).1 ≤ (rg_ L0 k).2 ∧ (rg_ L0 k).2 ≤ 1000000000 := fun k hk => by
      have := h k (by simp; omega)
      rwa [rg_app hk] at this
    have h1 := h L0.length (by simp)
    rw [rg_last] at h1
    have h2 := tkTo_bd h0 L0.length (Nat.le_refl _)
    rw [nTk_snoc]
    unfold nTk
    omega

theorem walk (nm : ByteArray) (bd x y z mo : Int) (a : Option Addr) (l : List St) (cap : Nat) (w : World) (hn : nm.size ≤ maxLen) (hc : l.length ≤ cap) (hm : cap ≤ maxLen) (hS : SlSts w a l) (hz : a = none → cap = 0) :
    Calls Try.prog 3 #[obV nm bd a l.length cap, v3 x y z, .int .i64 mo] w fun e w' => e = .returned (.bool true) ∧ Below w.heap.size w w' := by
  simp only [maxLen] at hn hm
  refine glue1 (us := [_, _]) rfl hS hc hz ?_
  cases hf : (fewB nm.size l.length && briefB nm.data.toList bd l) with
  | false => exact ps_no x y z mo _ hS.wf (by omega) (by omega) hf
  | true =>
    obtain ⟨hf1, hf2⟩ : fewB nm.size l.length = true ∧ briefB nm.data.toList bd l = true := by simpa using hf
    obtain ⟨k1, k2⟩ := fewB_spec hf1
    have ho : Ors nm l := ⟨by omega, hS.wf, by omega⟩
    by_cases h : firstE [(orbE nm.data.toList bd l).2, placeE x y z, Ob.bnd mo 0 100000000] = 0
    · obtain ⟨he, hpl, hb⟩ := (firstE_three _ _ _).1 h
      have hR := (orbE_right he).1
      obtain ⟨hx, hy, hz'⟩ := placeE_zero hpl
      have hmo := bnd_ok.1 hb
      have hl : l ≠ [] := fun h => by have := hR.n2; rw [h] at this; simp at this
      have hbr : lastT l - frstT l ≤ 200 := by
        have := of_decide_eq_true hf2
        rcases this with h | h
        · exact absurd he h
        · exact h
      obtain ⟨q1, q2, q3, q4⟩ := nTicks_eq hR
      have hlen := fun is => runTo_len is (frstT l) (nTicks l)
      have hrg : ∀ is k, k < (runTo is (frstT l) (nTicks l)).length → 0 ≤ (rg_ (runTo is (frstT l) (nTicks l)) k).1 ∧ (rg_ (runTo is (frstT l) (nTicks l)) k).1 ≤ (rg_ (runTo is (frstT l) (nTicks l)) k).2 ∧ (rg_ (runTo is (frstT l) (nTicks l)) k).2 ≤ 1000000000 := fun is k hk => by
        have := runTo_in is (frstT l) (nTicks l) _ (rg_mem hk)
        omega
      have hle : nTk (psL l x y z mo) ≤ nTk (psL l x y z (if (100000000 : Int) < 2 * mo then 100000000 else 2 * mo)) := nTk_mono (fun t ht => by
        have h1 := of_decide_eq_true ht
        refine decide_eq_true (Int.le_trans h1 (Int.mul_le_mul ?_ ?_ hmo.1 ?_)) <;> split <;> omega) _ _
      rw [show va 0 l a.isNone = .slice (some ⟨0, 0, none⟩) l.length INF by unfold va; rw [if_neg hl], show [bl l] = [some ⟨flatS l, false, 0⟩] by unfold bl; rw [if_neg hl]]
      have hplB : plB x y z = true := by simp [plB, hpl]
      have g1 : (psL l x y z mo).length ≤ nTicks l := hlen _
      have g2 : (psL l x y z (if (100000000 : Int) < 2 * mo then 100000000 else 2 * mo)).length ≤ nTicks l := hlen _
      by_cases hL : psL l x y z mo = []
      · by_cases hM : psL l x y z (if (100000000 : Int) < 2 * mo then 100000000 else 2 * mo) = []
        · exact ps_ee x y z mo _ _ (by omega) hR he hf hx hy hz' hpl hplB hmo rfl rfl hL hM (by omega) (by omega) (hrg _) (hrg _) hle
        · exact ps_en x y z mo _ _ (by omega) hR he hf hx hy hz' hpl hplB hmo rfl rfl hL (if_neg hM) (by omega) (by omega) (hrg _) (hrg _) hle
      · by_cases hM : psL l x y z (if (100000000 : Int) < 2 * mo then 100000000 else 2 * mo) = []
        · have := nTk_pos (hrg _) hL
          rw [hM] at hle
          exact absurd (Int.lt_of_lt_of_le this hle) (by simp [nTk, tkTo])
        · exact ps_nn x y z mo _ _ (by omega) hR he hf hx hy hz' hpl hplB hmo rfl rfl (if_neg hL) (if_neg hM) (by omega) (by omega) (hrg _) (hrg _) hle
    · have hp : placeE x y z = 0 ∨ placeE x y z = 2 := by
        rcases bnd_or x (-100000000) 100000000 with h | h <;> rcases bnd_or y (-100000000) 100000000 with h' | h' <;> rcases bnd_or z (-100000000) 100000000 with h'' | h'' <;> simp [placeE, firstE, h, h', h'']
      have hb := bnd_or mo 0 100000000
      have hbb : rngB mo 0 100000000 = decide (Ob.bnd mo 0 100000000 = 0) := by
        rcases hb with h | h
        · rw [h, rngB_true.2 (bnd_ok.1 h)]; rfl
        · rw [h]
          cases hr : rngB mo 0 100000000 with
          | true => rw [bnd_ok.2 (rngB_true.1 hr)] at h; cases h
          | false => rfl
      have hpp : plB x y z = decide (placeE x y z = 0) := by
        by_cases h : placeE x y z = 0 <;> simp [plB, h]
      refine ps_e x y z mo _ _ _ _ _ ho (by omega) hf rfl rfl rfl rfl h ?_ ?_
      · by_cases he : (orbE nm.data.toList bd l).2 = 0
        · rw [if_pos he]
          rcases hp with hp | hp <;> rcases hb with hb | hb <;> simp [firstE, he, hp, hb] at h ⊢
        · rw [if_neg he]
          simp [firstE, he]
      · intro he
        rw [hbb, hpp]
        rcases hp with hp | hp <;> rcases hb with hb | hb <;> simp [firstE, he, hp, hb] at h ⊢

set_option maxRecDepth 100000 in
theorem lifted (os : Os) (started : os.Started) (H : Type) (enc : TypeId × Value → H) :
    ReturnsInHanded {} Try.checked os 3 .any (Rows.orbitPassesSpec.pre6 enc Try.prog Try.f3 Rows.orbitPassesRow.domain false) (Rows.orbitPassesSpec.post enc Try.prog Try.f3 false true false false) := by
  refine returnsInHanded_of_change (C := Try.checked) own started (by kernel_rfl) Try.func3
    (ChangeSpec.witness6 (enc := enc) (C := Try.checked) false ⟨#[], #[.agg #[.string ⟨#[]⟩, .int .i64 0, .slice none 0 0], .agg #[.int .i64 0, .int .i64 0, .int .i64 0], .int .i64 0], []⟩ 8 (by kernel_rfl) (by kernel_rfl) (by kernel_rfl) (by kernel_rfl)) ?_
  intro W base args ds gs before hval0 hW hcnd _
  have hval : ∀ (j : Nat) t v, Try.f3.params[j]? = some t → args[j]? = some v → Value.okWide Try.prog W .any base t v := hval0
  have hW' := hW
  obtain ⟨p, q, hA0, hV, rfl, hfz, hnd⟩ := hW
  have hA : DataW.TrodAll enc Try.prog W 0 (fun _ => true) true Try.f3.params.toList args.toList ds p := hA0
  rw [Try.params3] at hA hval
  obtain ⟨v0, vs0, d0, ds0, p0, q0, hargs, rfl, rfl, h0, r0⟩ := trodAll_cons hA
  obtain ⟨v1, vs1, d1, ds1, p1, q1, rfl, rfl, rfl, h1, r1⟩ := trodAll_cons r0
  obtain ⟨v2, vs2, d2, ds2, p2, q2, rfl, rfl, rfl, h2, r2⟩ := trodAll_cons r1
  obtain ⟨rfl, rfl, rfl⟩ := trodAll_nil r2
  obtain rfl : args = #[v0, v1, v2] := by cases args; simp_all
  obtain ⟨rfl, rfl⟩ := trodVars_none hV
  clear hA0 hval0
  have hlt := hW'.lt
  have g0 := h0
  have g1 := h1
  have g2 := h2
  obtain ⟨nm0, bd0, a0, l0, cap0, rfl, hnm0, hcap0, hcm0, hS0, hz0⟩ := open_orbit2 (hval 0 24 v0 rfl rfl) h0
  obtain ⟨px1, py1, pz1, rfl, hpx1, hpy1, hpz1⟩ := open_place (hval 1 26 v1 rfl rfl) h1
  obtain ⟨x2, rfl, -, -, wx2⟩ := open_int Try.underlying3 (hval 2 3 v2 rfl rfl) h2
  simp only [List.append_nil] at hW' hlt ⊢
  refine (walk nm0 bd0 px1 py1 pz1 x2 a0 l0 cap0 W hnm0 hcap0 hcm0 hS0 hz0).mono fun e W' ⟨he, hb⟩ => ?_
  subst he
  have stay : ∀ (t : TypeId) v d ps (sp : Nat → Bool), Try.prog.readableRec t = true → t < Try.prog.types.size → DataW.Trod enc Try.prog W 0 (fun _ => true) true t v d ps → (∀ x ∈ ps, x.block < W.heap.size) → (∀ x ∈ ps, sp x.block = true) → DataW.Trod enc Try.prog W' 0 sp true t v d ps :=
    fun t v d ps sp hr ht h hx hs => Go.WideElems.Trod_stays laid hr ht h (fun x hxp => hb.same (hx x hxp)) hs
  exact ⟨_, rfl, post_below (pa := p0 ++ (p1 ++ (p2 ++ []))) (pv := []) hW' (fun _ _ _ => trodAll_mk1 (shut_bool Try.underlying4 true)) (fun sp hs => (trodAll_cons_mk (stay 24 _ _ _ sp (by kernel_rfl) (of_decide_eq_true (by kernel_rfl)) g0 (fun x hx => hlt x (by simp [hx])) (fun x hx => hs x (by simp [hx]))) (trodAll_cons_mk (stay 26 _ _ _ sp (by kernel_rfl) (of_decide_eq_true (by kernel_rfl)) g1 (fun x hx => hlt x (by simp [hx])) (fun x hx => hs x (by simp [hx]))) (trodAll_cons_mk (stay 3 _ _ _ sp (by kernel_rfl) (of_decide_eq_true (by kernel_rfl)) g2 (fun x hx => hlt x (by simp [hx])) (fun x hx => hs x (by simp [hx]))) (trodAll_mk0))))) (fun _ _ => rfl) (by simp)
    hb (ok_one (by kernel_rfl) rfl (okWide_bool_mk Try.underlying4 true))⟩

theorem over : Rows.orbitPassesRow.holds Try.pinned (OpenSpec.ofChange Rows.orbitPassesSpec) :=
  OpenClaim.holds_of_wide 3 Try.f3 rfl rfl rfl rfl rfl rfl rfl ⟨rfl, rfl, rfl, rfl, rfl⟩ rfl rfl rfl rfl rfl (by kernel_rfl) Try.func3 (by kernel_rfl)
    (of_decide_eq_true (by kernel_rfl)) (by unfold Func.isWrapper; first | (rw [if_pos (by decide +kernel)]; kernel_rfl) | (rw [if_neg (by decide +kernel)]; exact ⟨rfl, rfl⟩))
    (fun os started H enc _ => lifted os started H enc)

/-- The statement. -/
theorem proved : Rows.OrbitPassesSaid := over
#print axioms proved
end Go.Proofs.Ytaoennekamlfeaa.OrbitPasses
end
