/- Chapter 2: small contracts in the small memory. -/
import Derived.Test.YthhhkjbhhjcjoaaGreatDoor02Ob
import Derived.Test.YthhhkjbhhjcjoaaGreatDoorAbD
import Derived.Test.YthhhkjbhhjcjoaaGreatDoor02B
set_option linter.unusedSimpArgs false
set_option linter.unusedVariables false
namespace Go.Proofs.YthhhkjbhhjcjoaaGreatDoor
open Go Go.RowKit Go.Ob Go.Ab
set_option maxRecDepth 100000
set_option maxHeartbeats 2000000
attribute [local irreducible] OQ OW AL AW AD AF SW

theorem ro1 (b : Blk) (h : b.own = false) : Mem.ro [some b] := fun k blk hk => by
  have := Mem.at_lt hk
  simp at this
  subst this
  simp [Mem.at] at hk
  rw [← hk, h]

theorem fE {a e f : Int} (h : (if e = 0 then f else e) = a) : Value.int .i64 a = .int .i64 (firstE [e, f]) := by
  rw [← h]
  unfold firstE firstE firstE
  by_cases h1 : e = 0 <;> by_cases h2 : f = 0 <;> simp [h1, h2]

theorem first2_c (e f : Int) (z c : Nat) : PCalls Tryz.prog 63 [.slice (some ⟨0, 0, none⟩) 2 c] [some ⟨[.int .i64 e, .int .i64 f], false, z⟩] (.int .i64 (firstE [e, f])) := by
  refine PCalls.enter (t := [.slice (some ⟨0, 0, none⟩) 2 c, undef, undef, undef, undef, undef, undef, undef, undef, undef, undef, undef, undef, undef, undef]) Tryz.func63 rfl (ro1 _ rfl) rfl fun E => ?_
  repeat' (first
    | with_reducible refine Then.n ?_
    | with_reducible refine Then.r ?_
    | with_reducible refine Then.x ?_
    | with_reducible refine InB.n ?_
    | with_reducible refine InB.r ?_
    | with_reducible refine InB.hit ?_
    | with_reducible refine InB.miss (by decide) ?_
    | ((with_reducible refine AL.on ?_); first
      | ((first | ((with_reducible refine AL.k_move ?_); first | (refine AL.q rfl (OQ.move (by conv => lhs; whnf)) ?_)) | ((with_reducible refine AL.k_assign ?_); first | (refine AL.q rfl (OQ.assign (by conv => lhs; whnf)) ?_)) | ((with_reducible refine AL.k_binOp ?_); first | refine AL.q rfl (OQ.lss rfl rfl) ?_ | refine AL.q rfl (OQ.neq rfl rfl) ?_ | refine AL.q rfl (OQ.addi rfl rfl (by omega)) ?_ | refine AL.q rfl (OQ.add rfl rfl) ?_) | ((with_reducible refine AL.k_call ?_); first | refine AL.q rfl (OQ.lenS (xt := 163) (r := (none, 1, false)) rfl (by kernel_rfl)) ?_) | ((with_reducible refine AL.k_indexAddr ?_); first | refine AL.q rfl (OQ.idxAddr (ty := 163) (z := 1) (g := false) rfl rfl (by kernel_rfl) (by omega) (by omega)) ?_) | ((with_reducible refine AL.k_load ?_); first | (refine AL.q rfl (OQ.load1 (ty := 28) rfl (by kernel_rfl) (by conv => lhs; whnf)) ?_))); (conv => (arg 5; try tactic => exact nrm)))
      | refine AL.nil ?_)
    | ((with_reducible refine AW.on ?_); first
      | refine AW.seq ?_
      | refine AW.skip ?_
      | refine AW.exit ?_
      | refine AW.ret ?_
      | (refine AW.block (id := 0) ?_; refine AW.unroll 3 ?_)
      | refine AW.block ?_
      | refine AW.region ?_
      | (refine AW.conds rfl (fun hc => ?_) (fun hc => ?_) <;> (try simp only [decide_eq_true_eq, decide_eq_false_iff_not, Bool.not_true, Bool.not_false, Bool.not_eq_true', Bool.not_eq_false', Int.not_lt, Int.not_le, Classical.not_not, ne_eq] at hc) <;> first | (exfalso; first | contradiction | (omega); done) | skip))
    | with_reducible refine AR.s ?_
    | ((with_reducible refine AR.out ?_); omega; done)
    | ((with_reducible refine FinP.on ?_); (first | refine FinP.ret (.tmp (by conv => lhs; whnf) .nil) ?_ rfl | refine FinP.end (.tmp (by conv => lhs; whnf) .nil) ?_ rfl); (try simp only [pack, List.drop, List.take]); all_goals (refine fE ?_; simp_all)))

/-- A function that reads one block of numbers. -/
theorem PCalls.via1 {P : Program} {f : FuncId} {args0 args : List Value} {cs : List Value} {v : Value} {m : Mem} {b : Nat} {blk : Blk} (h : ∀ z, PCalls P f args0 [some ⟨cs, false, z⟩] v) (hb : m.at b = some blk) (hc : blk.cells = cs) (hs : cs.all scal = true)
    (hargs : args0.map (rn3 fun _ => b) = args) (hk : args0.all (ok3 1) = true) (hv : rn3 (fun _ => b) v = v) (hkv : ok3 1 v = true) : PCalls P f args m v := by
  refine PCalls.via (fun _ => b) (h blk.esz) (fun x bk hx => ?_) hargs hk hv hkv
  have := Mem.at_lt hx
  simp at this
  subst this
  simp [Mem.at] at hx
  subst hx
  refine ⟨rfl, ok1_of_scal hs, blk, hb, rfl, fun i v hv => ?_⟩
  rw [hc, rn1_scal (List.all_eq_true.1 hs v (List.mem_of_getElem? hv))]
  exact hv

theorem first2_q {m : Mem} {b c : Nat} {blk : Blk} (e f : Int) (hb : m.at b = some blk) (hc : blk.cells = [.int .i64 e, .int .i64 f]) : PCalls Tryz.prog 63 [.slice (some ⟨b, 0, none⟩) 2 c] m (.int .i64 (firstE [e, f])) :=
  PCalls.via1 (fun z => first2_c e f z c) hb hc rfl rfl rfl rfl rfl

theorem within_q (n lo hi : Int) (m : Mem) : PCalls Tryz.prog 59 [.int .i64 n, .int .i64 lo, .int .i64 hi] m (.bool (rngB n lo hi)) := PCalls.of_same rfl rfl fun w => within_any n lo hi w
/-- Two orbits, their states in two blocks. -/
abbrev two (l1 l2 : List St) (z1 z2 : Nat) : Mem := [some ⟨flatS l1, false, z1⟩, some ⟨flatS l2, false, z2⟩]
abbrev obI (nm : ByteArray) (bd : Int) (i : Nat) (l : List St) : Value := obW nm bd (.slice (some ⟨i, 0, none⟩) l.length INF)
theorem ro2 (b c : Blk) (h : b.own = false) (h' : c.own = false) : Mem.ro [some b, some c] := fun k blk hk => by
  have := Mem.at_lt hk
  match k, this with
  | 0, _ => simp [Mem.at] at hk; rw [← hk, h]
  | 1, _ => simp [Mem.at] at hk; rw [← hk, h']
  | k + 2, h => simp at h; omega
end Go.Proofs.YthhhkjbhhjcjoaaGreatDoor
