/- Chapter 2: the reference's checks. -/
import Derived.Test.Ythpjhpfebjjanaa02r
set_option linter.unusedSimpArgs false
set_option linter.unusedVariables false
namespace Go.Proofs.Ythpjhpfebjjanaa
open Go.RowKit Go.Ob

theorem bv_get (s : ByteArray) (k : Nat) (h : k < s.size) : bv s.data.toList k = (s[k].toNat : Int) := by
  have hk' : k < s.data.toList.length := by simpa using h
  simp only [bv, List.getD_eq_getElem?_getD, List.getElem?_eq_getElem hk', Option.getD_some, Array.getElem_toList]
  rfl

set_option maxRecDepth 100000 in
set_option maxHeartbeats 4000000 in
theorem rIsName_any (s : ByteArray) (w : World) (hs : s.size ≤ 1000) :
    Calls Try.prog 106 #[.string s] w fun e w' => e = .returned (.bool (nameB s.data.toList)) ∧ w = w' := by
  have hlen : Hid (s.data.toList.length = s.size) := by unfold Hid; simp
  refine Calls.same fun R HR => ?_
  have HN : Hid (∀ b, nameB s.data.toList = b → R (.returned (.bool b)) w) := fun b h => h ▸ HR.out
  clear HR
  by_cases h1 : s.size < 1
  · have h2 : (s.size : Int) < 1 := by omega
    have HF := Lib.hid (HN.out false (by unfold nameB; rw [decide_eq_false]; rintro ⟨a, _⟩; rw [hlen.out] at a; omega))
    go_enter Try.func106, Try.ntmps106
    go_wp2
    first | (go_ret; exact HF.out) | exact HF.out
  · by_cases h3 : 12 < s.size
    · have h2 : (1 : Int) ≤ s.size := by omega
      have h4 : (12 : Int) < s.size := by omega
      have HF := Lib.hid (HN.out false (by unfold nameB; rw [decide_eq_false]; rintro ⟨_, a, _⟩; rw [hlen.out] at a; omega))
      go_enter Try.func106, Try.ntmps106
      go_wp2
      first | (go_ret; exact HF.out) | exact HF.out
    · have h2 : (1 : Int) ≤ s.size := by omega
      have h4 : (s.size : Int) ≤ 12 := by omega
      go_enter Try.func106, Try.ntmps106
      go_wp2
      go_loop [3, 4, 5] (fun i _ _ => ∃ k : Nat, k ≤ s.size ∧ i = .int .i64 k ∧ ∀ j, j < k → okN j (bv s.data.toList j)) (fun i _ _ => s.size - (intOf i).toNat)
      case atStart => exact ⟨0, Nat.zero_le _, rfl, fun _ h => by omega⟩
      case round =>
        obtain ⟨k, hk, rfl, hf⟩ := hrel
        have HF := Lib.hid hf
        clear hf
        by_cases hlt : k < s.size
        · have HV := Lib.hid (bv_get s k hlt)
          have hv1 := (bv_bd s.data.toList k)
          rw [HV.out] at hv1
          obtain ⟨hv0, hv1⟩ := hv1
          have HNo := Lib.hid (fun h : ¬ okN k (bv s.data.toList k) => HN.out false (nameB_no (by rw [hlen.out]; exact hlt) h))
          obtain ⟨bk, hbk⟩ : ∃ b : Bool, ((k : Int) == 0) = b := ⟨_, rfl⟩
          obtain ⟨b45, hb45⟩ : ∃ b : Bool, ((s[k].toNat : Int) != 45) = b := ⟨_, rfl⟩
          cases bk <;> cases b45
          all_goals
            have hk0 := hbk
            have hn45 := hb45
            simp only [beq_iff_eq, bne_iff_ne, beq_eq_false_iff_ne, ne_eq, bne_eq_false_iff_eq] at hk0 hn45
            have HK := Lib.hid hk0
            have H45 := Lib.hid hn45
            clear hk0 hn45
            go_wp2
            all_goals first
              | (go_round
                 case measure => simp [intOf]; omega
                 case rel =>
                   refine ⟨k + 1, by omega, by go_num, fun j hj => ?_⟩
                   by_cases hjk : j = k
                   · subst hjk; rw [HV.out]; have := HK.out; have := H45.out; unfold okN; omega
                   · exact HF.out j (by omega))
              | (first | (go_ret; exact HNo.out (by rw [HV.out]; have := HK.out; have := H45.out; unfold okN; omega)) | exact HNo.out (by rw [HV.out]; have := HK.out; have := H45.out; unfold okN; omega))
              | (exfalso; rename_i hx; simp only [Bool.not_eq_false', decide_eq_true_eq] at hx; omega)
        · have HF2 := Lib.hid (HN.out true (by rw [nameB_end (fun j hj => HF.out j (by rw [hlen.out] at hj; omega)), hlen.out, decide_eq_true]; omega))
          go_wp2
          first | (go_ret; exact HF2.out) | exact HF2.out

end Go.Proofs.Ythpjhpfebjjanaa
