/- The small memory: the body of a round of a range over a function. -/
/- The small memory: a round begins anew: its own environment. -/
import Derived.Test.YtmghmmmfdbafoaaGreatDoorAbD
import Derived.Test.YtmghmmmfdbafoaaGreatDoorAbF
import Derived.Test.YtmghmmmfdbafoaaGreatDoorFreeSelf
import Derived.TacticsIn
import Derived.OrdersIn
import Derived.LoopNIn
import Derived.Test.YtmghmmmfdbafoaaGreatDoorAbN
set_option linter.unusedSimpArgs false
set_option linter.unusedVariables false
section
namespace Go
open Go.RowKit
theorem list_in {lp n : Nat} {P : Program} {ops : Array Oper} {Q : Exit → Act → World → Prop} (hQ : ¬ LetsOut Q) : ∀ (l : List Oper) (a : Act) (w : World), l.all Free.noDefer = true →
    wpList P ops Q l a w → wpListIn (Fence.wide.inRound lp) n P ops Q l a w
  | [], _, _, _, h => h
  | o :: rest, a, w, hd, h => by
    simp only [List.all_cons, Bool.and_eq_true] at hd
    unfold wpList at h
    unfold wpListIn
    split at h
    · rename_i hw
      rw [if_pos hw]
      rcases h with h | ⟨_, h⟩
      · exact Free.op_in (Free.noDefer_spec hd.1) (Oper.wp_mono (fun a w h => list_in hQ rest a w hd.2 h) h)
      · exact absurd h hQ
    · rename_i hw
      rw [if_neg hw]
      exact ⟨fun _ _ => trivial, list_in hQ rest _ w hd.2 h⟩
theorem wpIn_loop_ghost {F : Fence} {n : Nat} {P : Program} {Q : Exit → Act → World → Prop} {a : Act} {w : World} {c : Code} (I : Nat → Act → World → Prop) (n₀ : Nat) (h₀ : I n₀ a w)
    (round : ∀ k a w, I k a w → c.wpIn F n P (Exit.then (fun a' w' => ∃ k', k' < k ∧ I k' a' w') Q) a w) : (Code.loop c).wpIn F n P Q a w := by
  intro b k cs hro hb hr
  have key : ∀ j a w, I j a w →
      ∃ e a' w', Q e a' w' ∧ ArrivesIn (Machine.fenced P F) P (lone (b.atR a (.code c :: .inLoop c :: k)) cs w) b k cs e a' w' := by
    intro j
    induction j using Nat.strongRecOn with
    | _ j ih =>
      intro a w hI
      obtain ⟨e, a₁, w₁, hq, harr⟩ := round j a w hI b (.inLoop c :: k) cs hro hb hr
      cases e with
      | normal =>
        obtain ⟨j', hlt, hI₁⟩ := hq
        obtain ⟨e₂, a₂, w₂, hq₂, harr₂⟩ := ih j' hlt a₁ w₁ hI₁
        exact ⟨e₂, a₂, w₂, hq₂, .of_steps (StepsIn.trans harr (.one (fenced_calm hb hr rfl) stepR_inLoop)) harr₂⟩
      | exit id => exact ⟨_, a₁, w₁, hq, .pass (x := .inLoop c) rfl (fun _ _ => .inl (by simp)) harr⟩
      | goto l => exact ⟨_, a₁, w₁, hq, .pass (x := .inLoop c) rfl (fun _ _ => .inl (by simp)) harr⟩
      | ret => exact ⟨_, a₁, w₁, hq, .pass (x := .inLoop c) rfl (fun _ _ => .inl (by simp)) harr⟩
      | panic ch => exact ⟨_, a₁, w₁, hq, .pass (x := .inLoop c) rfl (fun _ _ => .inl (by simp)) harr⟩
      | outgrown => exact ⟨_, a₁, w₁, hq, .pass (x := .inLoop c) rfl (fun _ _ => .inl (by simp)) harr⟩
  obtain ⟨e, a', w', hq, harr⟩ := key n₀ a w h₀
  exact ⟨e, a', w', hq, .of_steps (.one (fenced_calm hb hr rfl) stepR_loop) harr⟩
namespace Ab
/-- What lets nothing out. -/
def Calm (Q : Post) : Prop := ∀ t m, ¬ Q .outgrown t m
theorem Calm.lift {E : Env} {Q : Post} (h : Calm Q) : ¬ LetsOut (lift E Q) := fun ⟨_, _, _, _, t, m, hq, _⟩ => h t m hq
/-- A walk within a round. -/
def AWR (lp : Nat) (P : Program) (E : Env) (c : Code) (t : T) (m : Mem) (Q : Post) : Prop :=
  Calm Q → ∀ ρ a w, a.defers = E.ds → TRel ρ t a.tmps → St E ρ m w → c.wpIn (Fence.wide.inRound lp) 6 P (lift E Q) a w
section code
variable {lp : Nat} {P : Program} {E : Env} {t : T} {m : Mem} {Q : Post} {c d : Code}
theorem AWR.skip (h : Q .normal t m) : AWR lp P E .skip t m Q := fun _ ρ _ _ hd ht hs => wpIn_skip ⟨hd, ρ, t, m, h, ht, hs⟩
theorem AWR.exit {id : Nat} (h : Q (.exit id) t m) : AWR lp P E (.exit id) t m Q := fun _ ρ _ _ hd ht hs => wpIn_exit ⟨hd, ρ, t, m, h, ht, hs⟩
theorem AWR.ret (h : Q .ret t m) : AWR lp P E .ret t m Q := fun _ ρ _ _ hd ht hs => wpIn_ret ⟨hd, ρ, t, m, h, ht, hs⟩
theorem AWR.seq (h : AWR lp P E c t m (Then (fun t m => AWR lp P E d t m Q) Q)) : AWR lp P E (.seq c d) t m Q := by
  intro hQ ρ a w hd ht hs
  refine wpIn_seq (wpIn_mono (h (fun t m => hQ t m) ρ a w hd ht hs) ?_)
  rintro e a' w' ⟨hd', ρ', t', m', hq, ht', hs'⟩
  cases e with
  | normal => exact hq hQ ρ' a' w' hd' ht' hs'
  | exit id => exact ⟨hd', ρ', t', m', hq, ht', hs'⟩
  | goto l => exact ⟨hd', ρ', t', m', hq, ht', hs'⟩
  | ret => exact ⟨hd', ρ', t', m', hq, ht', hs'⟩
  | panic ch => exact ⟨hd', ρ', t', m', hq, ht', hs'⟩
  | outgrown => exact ⟨hd', ρ', t', m', hq, ht', hs'⟩
theorem AWR.cond {x : Operand} {b : Bool} (hx : t.ev x = .bool b) (h1 : b = true → AWR lp P E c t m Q) (h2 : b = false → AWR lp P E d t m Q) : AWR lp P E (.cond x c d) t m Q :=
  fun hQ ρ a w hd ht hs => wpIn_cond_split (evb ht hx) (fun e => h1 e hQ ρ a w hd ht hs) (fun e => h2 e hQ ρ a w hd ht hs)
theorem AWR.block {id : Nat} (h : AWR lp P E c t m (InB id Q)) : AWR lp P E (.block id c) t m Q := by
  intro hQ ρ a w hd ht hs
  refine wpIn_block (wpIn_mono (h (fun t m => hQ t m) ρ a w hd ht hs) ?_)
  rintro e a' w' ⟨hd', ρ', t', m', hq, ht', hs'⟩
  cases e with
  | exit i =>
    simp only [Exit.inBlock, InB] at hq ⊢
    split
    · rename_i h'; rw [if_pos h'] at hq; exact ⟨hd', ρ', t', m', hq, ht', hs'⟩
    · rename_i h'; rw [if_neg h'] at hq; exact ⟨hd', ρ', t', m', hq, ht', hs'⟩
  | normal => exact ⟨hd', ρ', t', m', hq, ht', hs'⟩
  | goto l => exact ⟨hd', ρ', t', m', hq, ht', hs'⟩
  | ret => exact ⟨hd', ρ', t', m', hq, ht', hs'⟩
  | panic ch => exact ⟨hd', ρ', t', m', hq, ht', hs'⟩
  | outgrown => exact ⟨hd', ρ', t', m', hq, ht', hs'⟩
theorem AWR.loop (I : Nat → T → Mem → Prop) (n₀ : Nat) (h₀ : I n₀ t m)
    (round : ∀ n t m, I n t m → AWR lp P E c t m (Then (fun t' m' => ∃ n' t'' m'', n' < n ∧ Wk E t' m' t'' m'' ∧ I n' t'' m'') Q)) : AWR lp P E (.loop c) t m Q := by
  intro hQ ρ a w hd ht hs
  refine wpIn_loop_ghost (fun n a w => a.defers = E.ds ∧ ∃ ρ t m, I n t m ∧ TRel ρ t a.tmps ∧ St E ρ m w) n₀ ⟨hd, ρ, t, m, h₀, ht, hs⟩ ?_
  rintro n a w ⟨hd, ρ, t, m, hI, ht, hs⟩
  refine wpIn_mono (round n t m hI (fun t m => hQ t m) ρ a w hd ht hs) ?_
  rintro e a' w' ⟨hd', ρ', t', m', hq, ht', hs'⟩
  cases e with
  | normal =>
    obtain ⟨n', t'', m'', hn, hwk, hI'⟩ := hq
    obtain ⟨ρ'', ht'', hs''⟩ := hwk ρ' _ _ ht' hs'
    exact ⟨n', hn, hd', ρ'', t'', m'', hI', ht'', hs''⟩
  | exit id => exact ⟨hd', ρ', t', m', hq, ht', hs'⟩
  | goto l => exact ⟨hd', ρ', t', m', hq, ht', hs'⟩
  | ret => exact ⟨hd', ρ', t', m', hq, ht', hs'⟩
  | panic ch => exact ⟨hd', ρ', t', m', hq, ht', hs'⟩
  | outgrown => exact ⟨hd', ρ', t', m', hq, ht', hs'⟩
theorem AWR.region {id : Nat} {l : List Oper} (hn : l.all Free.noDefer = true) (h : AL P E l.toArray l t m Q) : AWR lp P E (.region id l.toArray false) t m Q :=
  fun hQ ρ a w hd ht hs => wpIn_region_lit (list_in hQ.lift l a w hn (h ρ a w hd ht hs))
theorem AWR.mono {Q' : Post} (h : AWR lp P E c t m Q) (hc : Calm Q) (hq : ∀ e t m, Q e t m → Q' e t m) : AWR lp P E c t m Q' :=
  fun _ ρ a w hd ht hs => wpIn_mono (h hc ρ a w hd ht hs) fun e a' w' ⟨hd', ρ', t', m', hq', ht', hs'⟩ => ⟨hd', ρ', t', m', hq _ _ _ hq', ht', hs'⟩
end code
section
variable {lp : Nat} {P : Program} {E : Env} {t : T} {m : Mem} {Q : Post} {l : List Oper}
end
/-- A loop of few rounds. -/
def ARR (lp : Nat) (P : Program) (E : Env) (c : Code) (Q : Post) : Nat → T → Mem → Prop
  | 0, _, _ => False
  | n + 1, t, m => AWR lp P E c t m (Then (ARR lp P E c Q n) Q)
theorem ARR.rounds {lp : Nat} {P : Program} {E : Env} {Q : Post} {c : Code} (hQ : Calm Q) : ∀ (n : Nat) (t : T) (m : Mem), ARR lp P E c Q n t m → ∀ ρ a w, a.defers = E.ds → TRel ρ t a.tmps → St E ρ m w → c.roundsIn (Fence.wide.inRound lp) 6 P (lift E Q) n a w
  | 0, _, _, h, _, _, _, _, _, _ => h.elim
  | n + 1, t, m, h, ρ, a, w, hd, ht, hs => by
    rw [roundsIn_succ]
    refine wpIn_mono (h (fun t m => hQ t m) ρ a w hd ht hs) ?_
    rintro e a' w' ⟨hd', ρ', t', m', hq, ht', hs'⟩
    cases e with
    | normal => exact ARR.rounds hQ n t' m' hq ρ' a' w' hd' ht' hs'
    | exit id => exact ⟨hd', ρ', t', m', hq, ht', hs'⟩
    | goto l => exact ⟨hd', ρ', t', m', hq, ht', hs'⟩
    | ret => exact ⟨hd', ρ', t', m', hq, ht', hs'⟩
    | panic ch => exact ⟨hd', ρ', t', m', hq, ht', hs'⟩
    | outgrown => exact ⟨hd', ρ', t', m', hq, ht', hs'⟩
theorem AWR.drawF {lp : Nat} {P : Program} {E : Env} {l : List Oper} {Q : Post} {t : T} {m : Mem} {id : Nat} (n : Nat) (bits : Array Nat) (hm : P.follows .mixedOrders = true) (hc : Free.chk l.toArray bits n = true) (hd0 : l.all Free.noDefer = true) (h : AF P E l bits n Q m (l.take n) t m []) : AWR lp P E (.region id l.toArray true) t m Q := by
  intro hQ ρ a w hd ht hs
  obtain ⟨rs, h⟩ := h
  have hc' := Free.Chk.of hc
  have hn : n ≤ l.length := by simpa using hc'.le
  obtain ⟨g0, g1, g2, g3⟩ := splitF (rs := rs) (t0 := t) (l.take n) rs [] 0 rfl rfl (fun j => by simp) h
  have hlen : rs.length = n := by rw [g0]; simp; omega
  have hA : AllF P E l bits n Q m t rs := ⟨hlen, fun j o r ho hr => by
    have hj : j < n := by
      rw [← hlen]
      exact (List.getElem?_eq_some_iff.1 hr).1
    exact g1 j o r (Nat.zero_le _) (by rw [List.getElem?_take_of_lt hj]; exact ho) hr, g2, by simpa [Nat.min_eq_left hn] using g3⟩
  have hext : Ext ρ (ρ.tr m.length) := fun b pl hb => by
    unfold Ren.tr
    rw [if_pos (hs.dom b pl hb)]
    exact hb
  refine wpIn_region_any hm (Free.any_in (by simpa using hd0) hQ.lift _ _ _ _ ?_)
  have := anyF hc' hA hs n (Array.replicate l.toArray.size false) a { w with drawn := w.drawn + 1 } ρ
    ⟨by simp, fun j oj _ hl => (by rw [getD_replicate_false] at hl; cases hl), fun t _ => getD_replicate_false _ _⟩ ?_ (Free.unl_new _ n)
  · rw [show n + (l.toArray.size - n) = l.toArray.size by simp; omega] at this
    exact this
  · have hcu : ∀ b d, cur m rs (Array.replicate l.toArray.size false) b d = (m.at b, m.length) := fun b d => by
      have := cur_past (b := b) (m0 := m) (rs := rs) (listed := Array.replicate l.toArray.size false) (i := 0) (fun j _ hj => by rw [getD_replicate_false] at hj; cases hj) d
      rw [Nat.zero_add] at this
      exact this
    refine ⟨ht.1.symm, hd, hs.os, hs.tape, hs.output, hs.size, hs.same, fun _ _ => rfl, fun b pl hb => .inl (hs.dom b pl hb), fun b blk hb => ?_, fun b blk pl hb => ?_, fun j o r d _ _ hl => (by rw [getD_replicate_false] at hl; cases hl), fun d v _ hv => ht.2 d v hv⟩
    · rw [hcu] at hb ⊢
      obtain ⟨pl, hp, hbr, g⟩ := hs.mem b blk hb
      exact ⟨pl, hp, hbr.ext hext rfl, fun ho b' blk' pl' hne hb' => by rw [hcu] at hb'; exact g ho b' blk' pl' hne hb'⟩
    · rw [hcu] at hb
      exact hs.fresh b blk pl hb
theorem AWR.on {lp : Nat} {P : Program} {E : Env} {t : T} {m : Mem} {Q : Post} {c : Code} (h : AWR lp P E c t m Q) : AWR lp P E c t m Q := h
theorem ARR.out {lp : Nat} {P : Program} {E : Env} {t : T} {m : Mem} {Q : Post} {c : Code} (h : False) : ARR lp P E c Q 0 t m := h
theorem AWR.conds {lp : Nat} {P : Program} {E : Env} {t : T} {m : Mem} {Q : Post} {c e : Code} {d : Nat} {b : Bool} (hx : t.getD d undef = .bool b) (h1 : b = true → AWR lp P E c (t.set d (.bool true)) m Q) (h2 : b = false → AWR lp P E e (t.set d (.bool false)) m Q) : AWR lp P E (.cond (.tmp d) c e) t m Q := by
  refine AWR.cond (x := .tmp d) (b := b) hx (fun h => ?_) (fun h => ?_)
  · subst h; have := h1 rfl; rwa [set_lit hx] at this
  · subst h; have := h2 rfl; rwa [set_lit hx] at this
end Ab
end Go
end

section
namespace Go
open Go.RowKit
namespace Ab
/-- The environment of a round: the world as it lies, the blocks that the walk owns, the first blocks fixed. -/
def rbE (ρ : Ren) (m : Mem) (n1 : Nat) (W : World) : Env where
  W := W
  S := fun x => ∃ b blk pl, m.at b = some blk ∧ blk.own = true ∧ ρ b = some pl ∧ pl.blk = x
  ρ0 := fun b => if b < n1 then ρ b else none
  n0 := n1
  hdom := fun b pl h => by
    split at h
    · assumption
    · cases h
  ds := []
theorem St.rebase {E : Env} {ρ : Ren} {m : Mem} {W : World} {n1 : Nat} (h : St E ρ m W) (hn : n1 ≤ m.length) : St (rbE ρ m n1 W) ρ m W :=
  ⟨rfl, rfl, rfl, Nat.le_refl _, fun _ _ _ => rfl, fun b hb => (if_pos hb).symm, hn, h.dom, h.mem, fun b blk pl h1 h2 h3 => .inr ⟨b, blk, pl, h1, h2, h3, rfl⟩⟩
theorem EW.rebase {N0 : Nat} {W0 : World} {E : Env} {ρ : Ren} {m : Mem} {W : World} {n1 : Nat} (h : EW N0 W0 E) (hs : St E ρ m W) : EW N0 W0 (rbE ρ m n1 W) :=
  ⟨h.at hs, fun x hx ⟨b, blk, pl, h1, h2, h3, h4⟩ => by
    rcases hs.fresh b blk pl h1 h2 h3 with h5 | h5
    · have := h.1.1
      omega
    · exact h.2 x hx (h4 ▸ h5)⟩
theorem St.unbase {E : Env} {ρ ρ' : Ren} {m m' : Mem} {W W' : World} {n1 : Nat} (h : St E ρ m W) (hn0 : E.n0 ≤ n1) (h' : St (rbE ρ m n1 W) ρ' m' W') : St E ρ' m' W' := by
  have hs : ∀ x, (rbE ρ m n1 W).S x → E.W.heap.size ≤ x ∨ E.S x := fun x ⟨b, blk, pl, h1, h2, h3, h4⟩ => h4 ▸ h.fresh b blk pl h1 h2 h3
  refine ⟨h'.os.trans h.os, h'.tape.trans h.tape, h'.output.trans h.output, Nat.le_trans h.size h'.size, fun k hk hS => ?_, fun b hb => ?_, Nat.le_trans hn0 h'.len, h'.dom, h'.mem, fun b blk pl h1 h2 h3 => ?_⟩
  · refine (h'.same k (Nat.lt_of_lt_of_le hk h.size) fun hx => ?_).trans (h.same k hk hS)
    rcases hs k hx with h1 | h1
    · omega
    · exact hS h1
  · have := h'.ext b (Nat.lt_of_lt_of_le hb hn0)
    rw [this]
    show (if b < n1 then ρ b else none) = _
    rw [if_pos (Nat.lt_of_lt_of_le hb hn0), h.ext b hb]
  · rcases h'.fresh b blk pl h1 h2 h3 with h4 | h4
    · exact .inl (Nat.le_trans h.size h4)
    · exact hs _ h4
theorem St.stays {ρ ρ' : Ren} {m m' : Mem} {W W' : World} {n1 x : Nat} (h' : St (rbE ρ m n1 W) ρ' m' W') (hx : x < W.heap.size) (hno : ∀ b blk pl, m.at b = some blk → ρ b = some pl → pl.blk ≠ x) : W'.heap[x]? = W.heap[x]? :=
  h'.same x hx fun ⟨b, blk, pl, h1, _, h3, h4⟩ => hno b blk pl h1 h3 h4
theorem St.first {ρ ρ' : Ren} {m m' : Mem} {W W' : World} {n1 : Nat} (h' : St (rbE ρ m n1 W) ρ' m' W') (b : Nat) (hb : b < n1) : ρ' b = ρ b := (h'.ext b hb).trans (if_pos hb)
theorem rn2_idf (v : Value) : rn2 (fun b => b) v = v := by
  unfold rn2
  split
  · rename_i xs
    congr 1
    apply Array.ext'
    simp only [List.toList_toArray]
    rw [show (rn1 fun b => b) = fun v => v from funext rn1_idf]
    simp
  · exact rn1_idf _
theorem rn3_idf (v : Value) : rn3 (fun b => b) v = v := by
  have h : ∀ xs : Array Value, (xs.toList.map (rn2 fun b => b)).toArray = xs := fun xs => by
    apply Array.ext'
    rw [show (rn2 fun b => b) = fun v => v from funext rn2_idf]
    simp
  unfold rn3
  split
  · rw [h]
  · rw [h, h]
  · exact rn2_idf _
theorem VRel.back {ρ ρ' : Ren} {v v' : Value} {n1 : Nat} (h : VRel ρ v v') (hk : ok3 n1 v = true) (he : ∀ b, b < n1 → ρ' b = ρ b) : VRel ρ' v v' := by
  have h1 : VRel (ρ.via n1 fun b => b) v v' := rn3_to (by rw [rn3_idf]; exact h) hk
  refine h1.ext fun b pl hb => ?_
  unfold Ren.via at hb
  split at hb
  · rename_i hlt
    rw [he b hlt]
    exact hb
  · cases hb
/-- Junk, or a value that names the first blocks alone. -/
def okJ (n : Nat) : Value → Bool
  | .chan (some 0) => true
  | v => ok3 n v
theorem okJ_inv {n : Nat} {v : Value} (h : okJ n v = true) : v = junk ∨ ok3 n v = true := by
  unfold okJ at h
  split at h
  · exact .inl rfl
  · exact .inr h
theorem TRel.back {ρ ρ' : Ren} {t : T} {tmps : Array Value} {n1 : Nat} (h : TRel ρ t tmps) (hk : t.all (okJ n1) = true) (he : ∀ b, b < n1 → ρ' b = ρ b) : TRel ρ' t tmps :=
  ⟨h.1, fun i v hv => by
    obtain ⟨v', h1, h2⟩ := h.2 i v hv
    rcases okJ_inv (List.all_eq_true.1 hk v (List.mem_of_getElem? hv)) with rfl | hk'
    · exact ⟨v', h1, .junk _⟩
    · exact ⟨v', h1, h2.back hk' he⟩⟩
theorem St.put {E : Env} {ρ : Ren} {m : Mem} {A : World} {l : Nat} {o : Obj} (o' : Obj) (h : St E ρ m A) (hl : E.W.heap.size ≤ l) (ho : A.heap[l]? = some o) (hc : o.isCells = false) : St E ρ m (A.putObj l o') := by
  have hb := (Below.refl l A).grown (grownBy_putObj' A l o') (Nat.le_of_lt (Array.getElem?_eq_some_iff.1 ho).1) (fun k e => by cases e; exact Nat.le_refl _)
  have hfar : ∀ x, x ≠ l → (A.putObj l o').heap[x]? = A.heap[x]? := fun x hx => World.putObj_heap_other (by omega)
  refine ⟨hb.os.trans h.os, hb.tape.trans h.tape, hb.output.trans h.output, Nat.le_trans h.size hb.size, fun k hk hS => (hfar k (by omega)).trans (h.same k hk hS), h.ext, h.len, h.dom, fun b blk hbk => ?_, h.fresh⟩
  obtain ⟨pl, hp, ⟨c, ty, fr, hcc, h1, h2, h3⟩, h4⟩ := h.mem b blk hbk
  have hne : pl.blk ≠ l := fun e => by
    rw [e, ho] at hcc
    cases hcc
    cases hc
  exact ⟨pl, hp, ⟨c, ty, fr, (hfar _ hne).trans hcc, h1, h2, h3⟩, h4⟩
theorem St.storeB {E : Env} {ρ : Ren} {m : Mem} {A : World} {B : Nat} (v : Value) (h : St E ρ m A) (hB : E.W.heap.size ≤ B ∨ E.S B) (hno : ∀ b blk pl, m.at b = some blk → ρ b = some pl → pl.blk ≠ B) : St E ρ m (A.setCell ⟨B, 0, none⟩ v) := by
  have hb := (Below.refl B A).setCell (p := ⟨B, 0, none⟩) (Nat.le_refl _) v
  have hfar : ∀ x, x ≠ B → (A.setCell ⟨B, 0, none⟩ v).heap[x]? = A.heap[x]? := fun x hx => by
    simp only [World.setCell, Array.getElem?_modify]
    rw [if_neg (Ne.symm hx)]
  refine ⟨hb.os.trans h.os, hb.tape.trans h.tape, hb.output.trans h.output, Nat.le_trans h.size hb.size, fun k hk hS => (hfar k (fun e => by subst e; rcases hB with h1 | h1 <;> first | omega | exact hS h1)).trans (h.same k hk hS), h.ext, h.len, h.dom, fun b blk hbk => ?_, h.fresh⟩
  obtain ⟨pl, hp, ⟨c, ty, fr, hcc, h1, h2, h3⟩, h4⟩ := h.mem b blk hbk
  exact ⟨pl, hp, ⟨c, ty, fr, (hfar _ (hno b blk pl hbk hp)).trans hcc, h1, h2, h3⟩, h4⟩
theorem TRel.set2 {ρ : Ren} {t : T} {a : Act} {p d : Nat} {v : Value} (h : TRel ρ t a.tmps) (hv : flat v = true) : TRel ρ ((t.set p v).set d v) (Free.setTo a p d v).tmps := by
  have one : ∀ (t : T) (xs : Array Value) (i : Nat), TRel ρ t xs → TRel ρ (t.set i v) (xs.setIfInBounds i v) := fun t xs i h => by
    refine ⟨by simp [h.1], fun j u hu => ?_⟩
    rw [List.getElem?_set] at hu
    rw [Array.getElem?_setIfInBounds]
    split at hu
    · rename_i hij
      rw [if_pos hij]
      split at hu
      · rename_i hlt
        cases hu
        rw [if_pos (by have := h.1; omega)]
        exact ⟨v, rfl, .flat hv⟩
      · cases hu
    · rename_i hij
      rw [if_neg hij]
      exact h.2 j u hu
  exact one _ _ d (one _ _ p h)
/-- How a round ends: in a memory that may say less. -/
def RP (E : Env) (A B : Mem → Prop) : Post := fun e t m => (e = .normal ∧ ∃ t' m', Wk E t m t' m' ∧ A m') ∨ (e = .ret ∧ ∃ t' m', Wk E t m t' m' ∧ B m')
theorem RP.n {E : Env} {A B : Mem → Prop} {t t' : T} {m m' : Mem} (hw : Wk E t m t' m') (h : A m') : RP E A B .normal t m := .inl ⟨rfl, t', m', hw, h⟩
theorem RP.r {E : Env} {A B : Mem → Prop} {t t' : T} {m m' : Mem} (hw : Wk E t m t' m') (h : B m') : RP E A B .ret t m := .inr ⟨rfl, t', m', hw, h⟩
theorem RP.on {E : Env} {A B : Mem → Prop} {e : Exit} {t : T} {m : Mem} (h : RP E A B e t m) : RP E A B e t m := h
theorem RP.calm {E : Env} {A B : Mem → Prop} : Calm (RP E A B) := fun t m h => by rcases h with ⟨h, _⟩ | ⟨h, _⟩ <;> cases h
/-- What a round leaves: the memory, blocks that lie neither in the iterator's variable nor in the loop's marks. -/
def Rnd (E : Env) (ρ : Ren) (n1 B D : Nat) (M : Nat → Mem → Prop) (k : Nat) (W : World) : Prop :=
  ∃ ρ' m, M k m ∧ St E ρ' m W ∧ (∀ b, b < n1 → ρ' b = ρ b) ∧ ∀ b blk pl, m.at b = some blk → ρ' b = some pl → pl.blk ≠ B ∧ pl.blk ≠ D ∧ pl.blk ≠ D + 1
theorem wp_rounds {P : Program} {E : Env} {g : Operand} {p d B : Nat} {assign body : Code} {Q : Exit → Act → World → Prop} {a : Act} {w : World} {gf : Nat} {cs : Array Value} (hg : a.eval g = .func (.func gf) #[] cs)
    (eg : ∀ args w, (callFunc gf args).run P w = .ok (.enter gf args) w) {v : Nat → Value} {N : Nat} (hseq : Free.EachAtS B 7 P gf cs (fun k => #[v k]) N (w.heap.size + 2) w) (hB : B < w.heap.size)
    {ρ : Ren} {t0 : T} {n1 : Nat} (hn1 : E.n0 ≤ n1) (ht : TRel ρ t0 a.tmps) (hk : t0.all (okJ n1) = true) (hEB : E.W.heap.size ≤ B ∨ E.S B) (hEw : E.W.heap.size ≤ w.heap.size) (hv : ∀ k, flat (v k) = true)
    (M Mx : Nat → Mem → Prop) (hM : ∀ k m, M k m → n1 ≤ m.length ∧ ∀ b blk, m.at b = some blk → blk.own = true) (hMx : ∀ k m, Mx k m → ∀ b blk, m.at b = some blk → blk.own = true) (h0 : Rnd E ρ n1 B w.heap.size M 0 w)
    (hassign : ∀ (l k : Nat) (W : World) (K : Act → World → Prop), K (Free.setTo a p d (v k)) W →
      assign.wpIn (Fence.wide.inRound l) 6 P (Exit.then K fun _ _ _ => False) { tmps := a.tmps.setIfInBounds p (v k), defers := [] } W)
    (hbody : ∀ (l k : Nat) (m : Mem) (E' : Env), k < N → M k m → E'.n0 = n1 → (∀ N0 W0, EW N0 W0 E → EW N0 W0 E') → AWR l P E' body ((t0.set p (v k)).set d (v k)) m (RP E' (M (k + 1)) (Mx (k + 1))))
    (hdone : ∀ (D : Nat) (W : World), w.heap.size ≤ D → Rnd E ρ n1 B w.heap.size M N W → W.heap[D]? = some (.deferred (some [])) → Q .normal { a with defers := { target := .collected D, args := #[] } :: a.defers } W)
    (hret : ∀ (D k : Nat) (W : World), w.heap.size ≤ D → k ≤ N → Rnd E ρ n1 B w.heap.size Mx k W → W.heap[D]? = some (.deferred (some [])) → Q .ret { a with defers := { target := .collected D, args := #[] } :: a.defers } W) :
    (Code.rangeFunc g #[p] assign body).wp P Q a w := by
  have bides : ∀ M : Nat → Mem → Prop, Free.Bides w.heap.size (Rnd E ρ n1 B w.heap.size M) := fun M =>
    ⟨fun k A A' ⟨ρ', m, h1, h2, h3, h4⟩ hb => ⟨ρ', m, h1, h2.below hb, h3, h4⟩, fun k A l o o' hl ho hc ⟨ρ', m, h1, h2, h3, h4⟩ => ⟨ρ', m, h1, h2.put o' (Nat.le_trans hEw hl) ho hc, h3, h4⟩⟩
  refine Free.wp_eachS hg eg hseq hB (Rnd E ρ n1 B w.heap.size M) (Rnd E ρ n1 B w.heap.size Mx) (bides M)
    (fun k A u ⟨ρ', m, h1, h2, h3, h4⟩ => ⟨ρ', m, h1, h2.storeB u hEB fun b blk pl hb hp => (h4 b blk pl hb hp).1, h3, h4⟩) (bides Mx) h0 hassign ?_ hdone hret
  intro l k W hW ⟨ρ', m, h1, h2, h3, h4⟩ hkN
  obtain ⟨hlen, hown⟩ := hM k m h1
  have hs := h2.rebase (n1 := n1) hlen
  have ht' : TRel ρ' ((t0.set p (v k)).set d (v k)) (Free.setTo a p d (v k)).tmps := (ht.back hk h3).set2 (hv k)
  refine wpIn_mono (hbody l k m _ hkN h1 rfl (fun N0 W0 hE => hE.rebase h2) RP.calm ρ' (Free.setTo a p d (v k)) W rfl ht' hs) ?_
  rintro e a' W' ⟨-, ρ1, t1, m1, hq, ht1, hs1⟩
  have fin : ∀ ρ'' m'', St (rbE ρ' m n1 W) ρ'' m'' W' → (∀ b blk, m''.at b = some blk → blk.own = true) → (W.heap.size ≤ W'.heap.size ∧ ∀ x, x = B ∨ x = w.heap.size ∨ x = w.heap.size + 1 → W'.heap[x]? = W.heap[x]?) ∧
      St E ρ'' m'' W' ∧ (∀ b, b < n1 → ρ'' b = ρ b) ∧ ∀ b blk pl, m''.at b = some blk → ρ'' b = some pl → pl.blk ≠ B ∧ pl.blk ≠ w.heap.size ∧ pl.blk ≠ w.heap.size + 1 := fun ρ'' m'' hs' ho => by
    refine ⟨⟨hs'.size, fun x hx => ?_⟩, h2.unbase hn1 hs', fun b hb => (hs'.first b hb).trans (h3 b hb), fun b blk pl hb hp => ?_⟩
    · refine hs'.stays (by omega) fun b blk pl hb hp => ?_
      have := h4 b blk pl hb hp
      omega
    · rcases hs'.fresh b blk pl hb (ho b blk hb) hp with h5 | ⟨b', blk', pl', g1, _, g3, g4⟩
      · have h5 : W.heap.size ≤ pl.blk := h5
        omega
      · rw [← g4]
        exact h4 b' blk' pl' g1 g3
  rcases hq with ⟨rfl, t'', m'', hwk, hm⟩ | ⟨rfl, t'', m'', hwk, hm⟩
  · obtain ⟨ρ'', _, hs'⟩ := hwk ρ1 _ _ ht1 hs1
    obtain ⟨⟨hsz, hst⟩, g1, g2, g3⟩ := fin ρ'' m'' hs' (hM _ _ hm).2
    exact ⟨hsz, hst, ρ'', m'', hm, g1, g2, g3⟩
  · obtain ⟨ρ'', _, hs'⟩ := hwk ρ1 _ _ ht1 hs1
    obtain ⟨⟨hsz, hst⟩, g1, g2, g3⟩ := fin ρ'' m'' hs' (hMx _ _ hm)
    exact ⟨fun x hx => hst x (.inr hx), ρ'', m'', hm, g1, g2, g3⟩
/-- A block that is given up. -/
theorem St.drop {E : Env} {ρ : Ren} {m : Mem} {w : World} (b : Nat) (h : St E ρ m w) : St E ρ (m.set b none) w := by
  have hat : ∀ c blk, Mem.at (m.set b none) c = some blk → c ≠ b ∧ m.at c = some blk := fun c blk hc => by
    unfold Mem.at at hc ⊢
    rw [List.getD_eq_getElem?_getD, List.getElem?_set] at hc
    split at hc
    · split at hc <;> cases hc
    · rename_i hne
      refine ⟨fun e => hne e.symm, ?_⟩
      rw [List.getD_eq_getElem?_getD]
      exact hc
  refine ⟨h.os, h.tape, h.output, h.size, h.same, h.ext, by rw [List.length_set]; exact h.len, fun c pl hc => by rw [List.length_set]; exact h.dom c pl hc, fun c blk hc => ?_, fun c blk pl hc => h.fresh c blk pl (hat c blk hc).2⟩
  obtain ⟨pl, h1, h2, h3⟩ := h.mem c blk (hat c blk hc).2
  exact ⟨pl, h1, h2, fun ho b' blk' pl' hne hb' => h3 ho b' blk' pl' hne (hat b' blk' hb').2⟩
end Ab
end Go
end
