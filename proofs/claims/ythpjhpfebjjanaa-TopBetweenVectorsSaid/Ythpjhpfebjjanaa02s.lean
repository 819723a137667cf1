/- Chapter 2: the reference's checks. -/
import Derived.Test.Ythpjhpfebjjanaa02r
set_option linter.unusedSimpArgs false
set_option linter.unusedVariables false
namespace Go.Proofs.Ythpjhpfebjjanaa
open Go.RowKit Go.Ob

theorem bv_get (s : ByteArray) (k : Nat) (h : k < s.size) : bv s.data.toList k = (s[k].toNat : Int) := by
  have hk' : k < s.data.toList.length := by simpa using h
  simp only [bv, List.getD_eq_getElem?_getD, List.getElem?_eq_getElem hk', Option.getD_some, Array.getElem_toList]
  rfl

set_option maxRecDepth 100000 in
set_option maxHeartbeats 4000000 in
theorem rIsName_any (s : ByteArray) (w : World) (hs : s.size ≤ 1000) :
    Calls Try.prog 106 #[.string s] w fun e w' => e = .returned (.bool (nameB s.data.toList)) ∧ w = w' := by
  have hlen : Hid (s.data.toList.length = s.size) := by unfold Hid; simp
  refine Calls.same fun R HR => ?_
  have HN : Hid (∀ b, nameB s.data.toList = b → R (.returned (.bool b)) w) := fun b h => h ▸ HR.out
  clear HR
  by_cases h1 : s.size < 1
  · have h2 : (s.size : Int) < 1 := by omega
    have HF := Lib.hid (HN.out false (by unfold nameB; rw [decide_eq_false]; rintro ⟨a, _⟩; rw [hlen.out] at a; omega))
    go_enter Try.func106, Try.ntmps106
    go_wp2
    first | (go_ret; exact HF.out) | exact HF.out
  · by_cases h3 : 12 < s.size
    · have h2 : (1 : Int) ≤ s.size := by omega
      have h4 : (12 : Int) < s.size := by omega
      have HF := Lib.hid (HN.out false (by unfold nameB; rw [decide_eq_false]; rintro ⟨_, a, _⟩; rw [hlen.out] at a; omega))
      go_enter Try.func106, Try.ntmps106
      go_wp2
      first | (go_ret; exact HF.out) | exact HF.out
    · have h2 : (1 : Int) ≤ s.size := by omega
      have h4 : (s.size : Int) ≤ 12 := by omega
      go_enter Try.func106, Try.ntmps106
      go_wp2
      go_loop [3, 4, 5] (fun i _ _ => ∃ k : Nat, k ≤ s.size ∧ i = .int .i64 k ∧ ∀ j, j < k → okN j (bv s.data.toList j)) (fun i _ _ => s.size - (intOf i).toNat)
      case atStart => exact ⟨0, Nat.zero_le _, rfl, fun _ h => by omega⟩
      case round =>
        obtain ⟨k, hk, rfl, hf⟩ := hrel
        have HF := Lib.hid hf
        clear hf
        by_cases hlt : k < s.size
        · have HV := Lib.hid (bv_get s k hlt)
          have hv1 := (bv_bd s.data.toList k)
          rw [HV.out] at hv1
          obtain ⟨hv0, hv1⟩ := hv1
          have HNo := Lib.hid (fun h : ¬ okN k (bv s.data.toList k) => HN.out false (nameB_no (by rw [hlen.out]; exact hlt) h))
          obtain ⟨bk, hbk⟩ : ∃ b : Bool, ((k : Int) == 0) = b := ⟨_, rfl⟩
          obtain ⟨b45, hb45⟩ : ∃ b : Bool, ((s[k].toNat : Int) != 45) = b := ⟨_, rfl⟩
          cases bk <;> cases b45
          all_goals
            have hk0 := hbk
            have hn45 := hb45
            simp only [beq_iff_eq, bne_iff_ne, beq_eq_false_iff_ne, ne_eq, bne_eq_false_iff_eq] at hk0 hn45
            have HK := Lib.hid hk0
            have H45 := Lib.hid hn45
            clear hk0 hn45
            go_wp2
            all_goals first
              | (go_round
                 case measure => simp [intOf]; omega
                 case rel =>
                   refine ⟨k + 1, by omega, by go_num, fun j hj => ?_⟩
                   by_cases hjk : j = k
                   · subst hjk; rw [HV.out]; have := HK.out; have := H45.out; unfold okN; omega
                   · exact HF.out j (by omega))
              | (first | (go_ret; exact HNo.out (by rw [HV.out]; have := HK.out; have := H45.out; unfold okN; omega)) | exact HNo.out (by rw [HV.out]; have := HK.out; have := H45.out; unfold okN; omega))
              | (exfalso; rename_i hx; simp only [Bool.not_eq_false', decide_eq_true_eq] at hx; omega)
        · have HF2 := Lib.hid (HN.out true (by rw [nameB_end (fun j hj => HF.out j (by rw [hlen.out] at hj; omega)), hlen.out, decide_eq_true]; omega))
          go_wp2
          first | (go_ret; exact HF2.out) | exact HF2.out

set_option maxRecDepth 100000 in
set_option maxHeartbeats 1000000 in
theorem rRoot_any (n : Int) (w : World) (h0 : 0 ≤ n) (h1 : n ≤ 1152921504606846976) :
    Calls Try.prog 99 #[.int .i64 n] w fun e w' => e = .returned (.int .i64 (rt n)) ∧ w = w' := by
  obtain ⟨m, rfl⟩ := Int.eq_ofNat_of_zero_le h0
  refine Calls.same fun R HR => ?_
  go_enter Try.func99, Try.ntmps99
  go_wp2
  go_loop [3, 4] (fun r b => ∃ x y : Nat, r = .int .i64 x ∧ b = .int .i64 y ∧ RtInv m x y ∧ x + 2 * y ≤ 2147483648) (fun _ b => (intOf b).toNat)
  case atStart => exact ⟨0, 1073741824, rfl, rfl, RtInv.start (k := 30) (by simp; omega), by omega⟩
  case round =>
    obtain ⟨x, y, rfl, rfl, hI, hxy⟩ := hrel
    have HI := Lib.hid hI
    clear hI
    have hxy' : (x : Int) + 2 * y ≤ 2147483648 := by omega
    by_cases hy : 0 < y
    · have hq : ((x : Int) + y) * (x + y) ≤ 4611686018427387904 := by
        have := Int.mul_le_mul (show (x : Int) + y ≤ 2147483648 by omega) (show (x : Int) + y ≤ 2147483648 by omega) (by omega) (by omega); omega
      have hq0 : 0 ≤ ((x : Int) + y) * (x + y) := Int.mul_nonneg (by omega) (by omega)
      by_cases hx : ((x : Int) + y) * (x + y) ≤ m
      · have HX : Hid ((x + y) * (x + y) ≤ m) := by unfold Hid; exact_mod_cast hx
        go_wp2
        go_round
        case measure => simp [intOf]; omega
        case rel => exact ⟨x + y, y / 2, by go_num, by go_num, HI.out.take hy HX.out, by omega⟩
      · have HX : Hid (m < (x + y) * (x + y)) := by unfold Hid; exact_mod_cast Int.not_le.1 hx
        go_wp2
        go_round
        case measure => simp [intOf]; omega
        case rel => exact ⟨x, y / 2, rfl, by go_num, HI.out.pass hy HX.out, by omega⟩
    · have hy0 : y = 0 := by omega
      subst hy0
      have HRx : Hid (rt (m : Int) = (x : Int)) := by unfold Hid rt; rw [Int.toNat_natCast, HI.out.done]
      rw [HRx.out] at HR
      go_wp2
      first | (go_ret; exact HR.out) | exact HR.out

set_option maxRecDepth 100000 in
set_option maxHeartbeats 1000000 in
theorem rSquare_any (x y z a b c : Int) (w : World) (hx : -1000000000 ≤ x - a ∧ x - a ≤ 1000000000) (hy : -1000000000 ≤ y - b ∧ y - b ≤ 1000000000) (hz : -1000000000 ≤ z - c ∧ z - c ≤ 1000000000) :
    Calls Try.prog 41 #[v3 x y z, v3 a b c] w fun e w' => e = .returned (.int .i64 ((x - a) * (x - a) + (y - b) * (y - b) + (z - c) * (z - c))) ∧ Below w.heap.size w w' := by
  have s1 := sq_bd hx.1 hx.2
  have s2 := sq_bd hy.1 hy.2
  have s3 := sq_bd hz.1 hz.2
  have HS : Hid (((0 ≤ (x - a) * (x - a) ∧ (x - a) * (x - a) ≤ 1000000000 * 1000000000) ∧ (0 ≤ (y - b) * (y - b) ∧ (y - b) * (y - b) ≤ 1000000000 * 1000000000)) ∧ (0 ≤ (z - c) * (z - c) ∧ (z - c) * (z - c) ≤ 1000000000 * 1000000000)) := ⟨⟨s1, s2⟩, s3⟩
  clear s1 s2 s3
  refine Calls.made fun R HR => ?_
  go_enter Try.func41, Try.ntmps41
  go_wp2
  refine Free.wp_region 7 #[0, 1, 0, 7, 15, 0, 63] (by kernel_rfl) (by kernel_rfl) ?_
  simp only [List.take_succ_cons, List.take_zero]
  iterate 5
    refine Free.E.q (by rfl) ?_
    apply Exists.intro
    refine ⟨fun u w' hc hb => ?_, ?_⟩
    go_simp
    (try go_ints); (try simp only [Ob.ite_imx, Ob.ite_imn]); first | exact rfl | (go_simp; exact rfl) | ((go_at_call 96; exact coordinates_any _ _ _ _)) | ((go_at_call 95; exact rless_any _ _ _ _ _ _ _ (by omega) (by omega) (by omega))) | (simp only [↓IntWalk.iteOmega]; (try go_simp); exact rfl)
    simp only [Act.put, List.setIfInBounds_toArray, List.set_cons_zero, List.set_cons_succ, List.nil_append, List.cons_append]
  refine Free.E.new (z := #[.int .i64 0, .int .i64 0, .int .i64 0]) (by rfl) rfl (by kernel_rfl) ?_
  simp only [Act.put, List.setIfInBounds_toArray, List.set_cons_zero, List.set_cons_succ, List.nil_append, List.cons_append]
  refine Free.E.init (k := 5) (by rfl) (by rfl) rfl rfl (by rfl) (by decide) (by rfl) (fun _ => rfl) (fun _ => rfl) (by kernel_rfl) rfl rfl (by rfl) ?_
  simp only [List.nil_append, List.cons_append]
  refine Free.E.nil (fun u w1 S hF => ?_)
  have hb1 := hF.below
  obtain ⟨b1_5, hu1_5, hlo1_5, hhi1_5, -, hk1_5⟩ := hF.allocs 5 _ _ rfl
  simp only [Free.final, List.findSome?, reduceIte, Option.getD_some, Option.getD_none, Nat.reduceEqDiff, Value.cells] at hk1_5
  clear hF
  have hc1 := (Free.cells_of hb1).1
  have hf1 := (Free.cells_of hb1).2
  have hz1 := hb1.size
  simp only [hu1_5]
  have hcb1_5 := Free.cell_of_blk hk1_5
  have hfb1_5 := Free.frozen_of_blk hk1_5
  clear hu1_5 hk1_5
  try simp only [World.size_alloc, World.size_setCell, World.size_drew] at hz1 hlo1_5
  (try (have : w.heap.size < w1.heap.size := (by omega)))
  (try (have : w.heap.size < w1.heap.size + 1 := (by omega)))
  (try (have : w.heap.size < w1.heap.size + 1 + 1 := (by omega)))
  (try (have : w.heap.size + 1 < w1.heap.size := (by omega)))
  (try (have : w.heap.size + 1 < w1.heap.size + 1 := (by omega)))
  (try (have : w.heap.size + 1 < w1.heap.size + 1 + 1 := (by omega)))
  (try (have : w.heap.size + 1 + 1 < w1.heap.size := (by omega)))
  (try (have : w.heap.size + 1 + 1 < w1.heap.size + 1 := (by omega)))
  (try (have : w.heap.size + 1 + 1 < w1.heap.size + 1 + 1 := (by omega)))
  (try (have : w.heap.size + 1 + 1 + 1 < w1.heap.size := (by omega)))
  (try (have : w.heap.size + 1 + 1 + 1 < w1.heap.size + 1 := (by omega)))
  (try (have : w.heap.size + 1 + 1 + 1 < w1.heap.size + 1 + 1 := (by omega)))
  simp only [List.drop_succ_cons, List.drop_zero, List.drop_nil]
  go_wp2_with (first | (go_at_call 98; refine (product_any _ _ _ _ _ _ _ (by have := HS.out; omega) (by have := HS.out; omega) (by have := HS.out; omega)).mono ?_; rintro e w2 ⟨rfl, hb2⟩; have hc2 := (Free.cells_of hb2).1; have hf2 := (Free.cells_of hb2).2; have hz2 := hb2.size; (try simp only [World.size_alloc, World.size_setCell, World.size_drew] at hz2); (try (have : w.heap.size < w2.heap.size := (by omega))); (try (have : w.heap.size < w2.heap.size + 1 := (by omega))); (try (have : w.heap.size < w2.heap.size + 1 + 1 := (by omega))); (try (have : w.heap.size + 1 < w2.heap.size := (by omega))); (try (have : w.heap.size + 1 < w2.heap.size + 1 := (by omega))); (try (have : w.heap.size + 1 < w2.heap.size + 1 + 1 := (by omega))); (try (have : w.heap.size + 1 + 1 < w2.heap.size := (by omega))); (try (have : w.heap.size + 1 + 1 < w2.heap.size + 1 := (by omega))); (try (have : w.heap.size + 1 + 1 < w2.heap.size + 1 + 1 := (by omega))); (try (have : w.heap.size + 1 + 1 + 1 < w2.heap.size := (by omega))); (try (have : w.heap.size + 1 + 1 + 1 < w2.heap.size + 1 := (by omega))); (try (have : w.heap.size + 1 + 1 + 1 < w2.heap.size + 1 + 1 := (by omega)))) | (go_at_call 97; refine (sum_any _ _ _ _ (by have := HS.out; omega) (by have := HS.out; omega) (by have := HS.out; omega)).mono ?_; rintro e w3 ⟨rfl, hb3⟩; have hc3 := (Free.cells_of hb3).1; have hf3 := (Free.cells_of hb3).2; have hz3 := hb3.size; (try simp only [World.size_alloc, World.size_setCell, World.size_drew] at hz3); (try (have : w.heap.size < w3.heap.size := (by omega))); (try (have : w.heap.size < w3.heap.size + 1 := (by omega))); (try (have : w.heap.size < w3.heap.size + 1 + 1 := (by omega))); (try (have : w.heap.size + 1 < w3.heap.size := (by omega))); (try (have : w.heap.size + 1 < w3.heap.size + 1 := (by omega))); (try (have : w.heap.size + 1 < w3.heap.size + 1 + 1 := (by omega))); (try (have : w.heap.size + 1 + 1 < w3.heap.size := (by omega))); (try (have : w.heap.size + 1 + 1 < w3.heap.size + 1 := (by omega))); (try (have : w.heap.size + 1 + 1 < w3.heap.size + 1 + 1 := (by omega))); (try (have : w.heap.size + 1 + 1 + 1 < w3.heap.size := (by omega))); (try (have : w.heap.size + 1 + 1 + 1 < w3.heap.size + 1 := (by omega))); (try (have : w.heap.size + 1 + 1 + 1 < w3.heap.size + 1 + 1 := (by omega)))))
  first | (go_ret; exact HR.out _ (by repeat' first | with_reducible exact Below.refl _ _ | with_reducible assumption | with_reducible refine Free.Grow.alloc ?_ _ | with_reducible refine Free.Grow.setCell ?_ (by first | omega | (simp; done) | (simp; omega)) _ | with_reducible refine Free.Grow.drew ?_ | with_reducible refine Free.Grow.trans ?_ (by assumption))) | exact HR.out _ (by repeat' first | with_reducible exact Below.refl _ _ | with_reducible assumption | with_reducible refine Free.Grow.alloc ?_ _ | with_reducible refine Free.Grow.setCell ?_ (by first | omega | (simp; done) | (simp; omega)) _ | with_reducible refine Free.Grow.drew ?_ | with_reducible refine Free.Grow.trans ?_ (by assumption))
end Go.Proofs.Ythpjhpfebjjanaa
