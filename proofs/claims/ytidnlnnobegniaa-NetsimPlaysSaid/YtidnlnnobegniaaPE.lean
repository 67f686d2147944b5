import Derived.Test.YtidnlnnobegniaaPD
set_option linter.unusedVariables false
set_option linter.unusedSimpArgs false
namespace Go.Proofs.Ytidnlnnobegniaa
open Go.AM Go.RowKit

theorem bad_bad (k : Nat) (a b : Int) : bad2 k a b = badD k a b := by
  simp [bad2, badN, badD, Bool.or_assoc]

/-- A network's own state, as it may be. -/
structure J (k : Nat) (room : Int) (cs : List Int) (Q : QF) : Prop where
  len : cs.length = k
  ok : okC cs
  room : ∀ a b, ((Q a b).length : Int) ≤ room
  m : ∀ a b m, m ∈ Q a b → m.length ≤ 140737488355328
/-- .. and the document's beside it. -/
structure I (k : Nat) (room : Int) (cs : List Int) (Q : QF) (S : SF) (M : List MSG) (C : Int → Int → Bool) : Prop where
  j : J k room cs Q
  q : ∀ a b, Q a b = (M.filter (selM a b)).map (·.2.2)
  rng : ∀ p, p ∈ M → badD k p.1 p.2.1 = false
  c : ∀ a b, C a b = decide (0 < S a b)

theorem selM_iff {a b : Int} {p : MSG} : selM a b p = true ↔ p.1 = a ∧ p.2.1 = b := by simp [selM]
theorem selM_no {a b : Int} {p : MSG} (h : ¬ (p.1 = a ∧ p.2.1 = b)) : selM a b p = false := by
  rw [← Bool.not_eq_true, selM_iff]; exact h

theorem cnt_cons (x : MSG) (M : List MSG) (a b : Int) : cntM (x :: M) a b = cntM M a b + if selM a b x = true then 1 else 0 := by
  unfold cntM
  rw [List.filter_cons]
  split <;> simp

def sumP (P : List (Int × Int)) (M : List MSG) : Nat := (P.map fun p => cntM M p.1 p.2).sum
theorem sumP_cons (x : MSG) (M : List MSG) : ∀ P : List (Int × Int), sumP P M ≤ sumP P (x :: M) ∧ ((x.1, x.2.1) ∈ P → sumP P M + 1 ≤ sumP P (x :: M))
  | [] => ⟨Nat.le_refl _, fun h => by simp at h⟩
  | p :: P => by
    obtain ⟨h1, h2⟩ := sumP_cons x M P
    have hc := cnt_cons x M p.1 p.2
    unfold sumP at h1 h2 ⊢
    simp only [List.map_cons, List.sum_cons]
    refine ⟨by omega, fun h => ?_⟩
    rcases List.mem_cons.1 h with e | h
    · have : selM p.1 p.2 x = true := by rw [selM_iff, ← e]; exact ⟨rfl, rfl⟩
      rw [if_pos this] at hc
      omega
    · have := h2 h; omega
theorem sumP_ge (P : List (Int × Int)) : ∀ M : List MSG, (∀ x, x ∈ M → (x.1, x.2.1) ∈ P) → M.length ≤ sumP P M
  | [], _ => Nat.zero_le _
  | x :: M, h => by
    have h1 := sumP_ge P M fun y hy => h y (by simp [hy])
    have h2 := (sumP_cons x M P).2 (h x (by simp))
    rw [List.length_cons]; omega
theorem sumP_le (M : List MSG) (R : Nat) : ∀ P : List (Int × Int), (∀ p, p ∈ P → cntM M p.1 p.2 ≤ R) → sumP P M ≤ P.length * R
  | [], _ => by simp [sumP]
  | p :: P, h => by
    have h1 := sumP_le M R P fun q hq => h q (by simp [hq])
    have h2 := h p (by simp)
    unfold sumP at h1 ⊢
    simp only [List.map_cons, List.sum_cons, List.length_cons]
    rw [Nat.add_mul]; omega
def pairsN (k : Nat) : List (Int × Int) := (List.range 32).flatMap fun a : Nat => (List.range 32).map fun b : Nat => ((a : Int), (b : Int))
theorem pairsN_length (k : Nat) : (pairsN k).length = 1024 := by unfold pairsN; decide +kernel
theorem pairsN_mem (k : Nat) {a b : Int} (h1 : 0 ≤ a ∧ a < 32) (h2 : 0 ≤ b ∧ b < 32) : (a, b) ∈ pairsN k := by
  unfold pairsN
  rw [List.mem_flatMap]
  exact ⟨a.toNat, List.mem_range.2 (by omega), List.mem_map.2 ⟨b.toNat, List.mem_range.2 (by omega), by simp; omega⟩⟩

section
variable {k : Nat} {room : Int} {cs : List Int} {Q : QF} {S : SF} {M : List MSG} {C : Int → Int → Bool}
theorem I.cnt (h : I k room cs Q S M C) (a b : Int) : cntM M a b = (Q a b).length := by rw [h.q]; simp [cntM]
theorem I.size (h : I k room cs Q S M C) (hk : k ≤ 32) (hr : room ≤ 4096) : M.length ≤ 8388608 := by
  have h1 := sumP_ge (pairsN k) M fun x hx => by
    obtain ⟨p, q, e1, e2, e3, e4⟩ := badD_no (h.rng x hx)
    exact pairsN_mem k (by omega) (by omega)
  have h2 := sumP_le M 4096 (pairsN k) fun p _ => by
    rw [h.cnt]
    have := h.j.room p.1 p.2; omega
  rw [pairsN_length] at h2
  omega
theorem I.mb (h : I k room cs Q S M C) {p : MSG} (hp : p ∈ M) : p.2.2.length ≤ 140737488355328 := by
  refine h.j.m p.1 p.2.1 _ ?_
  rw [h.q]
  exact List.mem_map.2 ⟨p, List.mem_filter.2 ⟨hp, selM_iff.2 ⟨rfl, rfl⟩⟩, rfl⟩

/-! #### messages sent -/
theorem filter_sent (a b c d : Int) : ∀ ms : List (List Int), ((ms.map fun m => (a, b, m)).filter (selM c d)).map (·.2.2) = if c = a ∧ d = b then ms else []
  | [] => by simp
  | m :: ms => by
    have ih := filter_sent a b c d ms
    rw [List.map_cons, List.filter_cons]
    by_cases h : c = a ∧ d = b
    · have : selM c d ((a, b, m) : MSG) = true := selM_iff.2 ⟨h.1.symm, h.2.symm⟩
      rw [if_pos this, List.map_cons, ih, if_pos h, if_pos h]
    · have : selM c d ((a, b, m) : MSG) = false := selM_no fun e => h ⟨e.1.symm, e.2.symm⟩
      rw [this, if_neg (by simp), ih, if_neg h, if_neg h]
theorem I.more (h : I k room cs Q S M C) {a b : Int} {ms : List (List Int)} (hb : badD k a b = false) (hl : ((Q a b ++ ms).length : Int) ≤ room) (hm : ∀ m, m ∈ ms → m.length ≤ 140737488355328) : I k room cs (updQ Q a b (Q a b ++ ms)) S (M ++ ms.map fun m => (a, b, m)) C := by
  refine ⟨⟨h.j.len, h.j.ok, fun c d => ?_, fun c d m hmm => ?_⟩, fun c d => ?_, fun p hp => ?_, h.c⟩
  · rcases updQ_cases Q a b (Q a b ++ ms) c d with ⟨rfl, rfl, e⟩ | e <;> rw [e]
    · exact hl
    · exact h.j.room c d
  · rcases updQ_cases Q a b (Q a b ++ ms) c d with ⟨rfl, rfl, e⟩ | e <;> rw [e] at hmm
    · rcases List.mem_append.1 hmm with h1 | h1
      · exact h.j.m _ _ m h1
      · exact hm m h1
    · exact h.j.m _ _ m hmm
  · rw [List.filter_append, List.map_append, filter_sent, ← h.q]
    unfold updQ
    split
    · rename_i e; rw [e.1, e.2]
    · simp
  · rcases List.mem_append.1 hp with h1 | h1
    · exact h.rng p h1
    · obtain ⟨m, _, rfl⟩ := List.mem_map.1 h1; exact hb

/-! #### a message taken -/
theorem fnd_spec (a b : Int) : ∀ (M : List MSG) (n k0 : Nat), n < cntM M a b →
    ∃ (j : Nat) (m : List Int), fnd a b M n k0 = ((k0 + j : Nat) : Int) ∧ M[j]? = some (a, b, m) ∧ (M.filter (selM a b))[n]? = some (a, b, m) ∧ (M.eraseIdx j).filter (selM a b) = (M.filter (selM a b)).eraseIdx n ∧ ∀ c d, ¬ (c = a ∧ d = b) → (M.eraseIdx j).filter (selM c d) = M.filter (selM c d)
  | [], n, k0, h => by simp [cntM] at h
  | x :: M, n, k0, h => by
    rw [cnt_cons] at h
    by_cases hs : selM a b x = true
    · obtain ⟨e1, e2⟩ := selM_iff.1 hs
      obtain ⟨f, t, m⟩ := x
      simp only at e1 e2
      subst e1; subst e2
      by_cases h0 : n = 0
      · subst h0
        refine ⟨0, m, ?_, rfl, ?_, ?_, fun c d hcd => ?_⟩
        · rw [fnd, if_pos hs, if_pos (by simp)]; simp
        · rw [List.filter_cons, if_pos hs]; rfl
        · rw [List.filter_cons, if_pos hs]; rfl
        · have : selM c d ((f, t, m) : MSG) = false := selM_no fun e => hcd ⟨e.1.symm, e.2.symm⟩
          rw [List.filter_cons, this]; rfl
      · obtain ⟨n', rfl⟩ : ∃ n', n = n' + 1 := ⟨n - 1, by omega⟩
        rw [if_pos hs] at h
        obtain ⟨j, m', q1, q2, q3, q4, q5⟩ := fnd_spec f t M n' (k0 + 1) (by omega)
        refine ⟨j + 1, m', ?_, by simpa using q2, ?_, ?_, fun c d hcd => ?_⟩
        · rw [fnd, if_pos hs, if_neg (by omega), show ((n' + 1 : Nat) : Int) - 1 = (n' : Int) by omega, q1]
          congr 1; omega
        · rw [List.filter_cons, if_pos hs]; simpa using q3
        · rw [List.eraseIdx_cons_succ, List.filter_cons, if_pos hs, List.filter_cons, if_pos hs, List.eraseIdx_cons_succ, q4]
        · have : selM c d ((f, t, m) : MSG) = false := selM_no fun e => hcd ⟨e.1.symm, e.2.symm⟩
          rw [List.eraseIdx_cons_succ, List.filter_cons, this, List.filter_cons, this]
          simpa using q5 c d hcd
    · have hs : selM a b x = false := by simpa using hs
      rw [hs, if_neg (by simp), Nat.add_zero] at h
      obtain ⟨j, m', q1, q2, q3, q4, q5⟩ := fnd_spec a b M n (k0 + 1) h
      refine ⟨j + 1, m', ?_, by simpa using q2, ?_, ?_, fun c d hcd => ?_⟩
      · rw [fnd, hs, if_neg (by simp), q1]
        congr 1; omega
      · rw [List.filter_cons, hs]; simpa using q3
      · rw [List.eraseIdx_cons_succ, List.filter_cons, hs, List.filter_cons, hs]; simpa using q4
      · rw [List.eraseIdx_cons_succ, List.filter_cons, List.filter_cons, q5 c d hcd]

theorem map_erase {α β : Type} (f : α → β) : ∀ (l : List α) (n : Nat), (l.eraseIdx n).map f = (l.map f).eraseIdx n
  | [], n => by simp
  | a :: l, 0 => rfl
  | a :: l, n + 1 => by simp [map_erase f l n]

/-- What both find. -/
theorem I.find (h : I k room cs Q S M C) {a b n : Int} (ho : outQ Q a b n = false) : ∃ (j : Nat) (m : List Int), ¬ n < 0 ∧ ¬ (cntM M a b : Int) ≤ n ∧ fnd a b M n 0 = j ∧ M[j]? = some (a, b, m) ∧ (Q a b).getD n.toNat [] = m ∧ m ∈ Q a b ∧ I k room cs (updQ Q a b ((Q a b).eraseIdx n.toNat)) S (M.eraseIdx j) C := by
  simp only [outQ, Bool.or_eq_false_iff, decide_eq_false_iff_not] at ho
  have hc := h.cnt a b
  obtain ⟨j, m, q1, q2, q3, q4, q5⟩ := fnd_spec a b M n.toNat 0 (by rw [hc]; omega)
  have hn : ((n.toNat : Nat) : Int) = n := by omega
  rw [hn, Nat.zero_add] at q1
  have hq : (Q a b)[n.toNat]? = some m := by rw [h.q, List.getElem?_map, q3]; rfl
  refine ⟨j, m, ho.1, by rw [hc]; exact ho.2, q1, q2, by rw [List.getD_eq_getElem?_getD, hq]; rfl, List.mem_of_getElem? hq, ⟨h.j.len, h.j.ok, fun c d => ?_, fun c d m' hm => ?_⟩, fun c d => ?_, fun p hp => h.rng p (List.mem_of_mem_eraseIdx hp), h.c⟩
  · rcases updQ_cases Q a b ((Q a b).eraseIdx n.toNat) c d with ⟨rfl, rfl, e⟩ | e <;> rw [e]
    · have := h.j.room c d
      have h2 : ((Q c d).eraseIdx n.toNat).length ≤ (Q c d).length := (List.eraseIdx_sublist _ _).length_le
      omega
    · exact h.j.room c d
  · rcases updQ_cases Q a b ((Q a b).eraseIdx n.toNat) c d with ⟨rfl, rfl, e⟩ | e <;> rw [e] at hm
    · exact h.j.m _ _ m' (List.mem_of_mem_eraseIdx hm)
    · exact h.j.m _ _ m' hm
  · by_cases hcd : c = a ∧ d = b
    · obtain ⟨rfl, rfl⟩ := hcd
      rw [updQ_same, q4, map_erase, ← h.q]
    · rw [q5 c d hcd, ← h.q]
      unfold updQ
      rw [if_neg hcd]

/-! #### cut, healed, lost -/
theorem I.cut (h : I k room cs Q S M C) (a b : Int) : I k room cs (cutQ Q a b 2) (cutS S a b 2) (M.filter (keepC a b)) (cutB C a b) := by
  have hQ : ∀ c d, cutQ Q a b 2 c d = if (c = a ∧ d = b) ∨ (c = b ∧ d = a) then [] else Q c d := by
    intro c d
    simp only [cutQ, updQ]
    by_cases h1 : c = b ∧ d = a
    · rw [if_pos h1, if_pos (.inr h1)]
    · rw [if_neg h1]
      by_cases h2 : c = a ∧ d = b
      · rw [if_pos h2, if_pos (.inl h2)]
      · rw [if_neg h2, if_neg (by rintro (e | e); exact h2 e; exact h1 e)]
  refine ⟨⟨h.j.len, h.j.ok, fun c d => ?_, fun c d m hm => h.j.m c d m (cutQ_sub hm)⟩, fun c d => ?_, fun p hp => h.rng p (List.mem_filter.1 hp).1, fun c d => ?_⟩
  · have := h.j.room c d
    have h2 := cutQ_len Q a b c d
    omega
  · rw [hQ, List.filter_filter]
    split
    · rename_i hcd
      rw [List.filter_eq_nil_iff.2, List.map_nil]
      intro p hp
      rw [Bool.and_eq_true]
      rintro ⟨h1, h2⟩
      obtain ⟨e1, e2⟩ := selM_iff.1 h1
      rcases hcd with ⟨e3, e4⟩ | ⟨e3, e4⟩
      · simp [keepC, e1, e2, e3, e4] at h2
      · simp [keepC, e1, e2, e3, e4] at h2
    · rename_i hcd
      rw [h.q]
      congr 1
      apply List.filter_congr
      intro p hp
      cases hs : selM c d p with
      | false => rfl
      | true =>
        obtain ⟨e1, e2⟩ := selM_iff.1 hs
        have : keepC a b p = true := by
          unfold keepC
          rw [e1, e2]
          by_cases h1 : c = a ∧ d = b
          · exact absurd (.inl h1) hcd
          by_cases h2 : c = b ∧ d = a
          · exact absurd (.inr h2) hcd
          have b1 : ((c == a) && (d == b)) = false := by rw [← Bool.not_eq_true, Bool.and_eq_true, beq_iff_eq, beq_iff_eq]; exact h1
          have b2 : ((c == b) && (d == a)) = false := by rw [← Bool.not_eq_true, Bool.and_eq_true, beq_iff_eq, beq_iff_eq]; exact h2
          rw [b1, b2]; rfl
        rw [this]; rfl
  · unfold cutB
    rw [h.c c d]
    simp only [cutS, updS]
    by_cases h1 : c = b ∧ d = a
    · rw [if_pos h1]
      simp [h1.1, h1.2]
    · rw [if_neg h1]
      by_cases h2 : c = a ∧ d = b
      · rw [if_pos h2]
        simp [h2.1, h2.2]
      · rw [if_neg h2]
        have b1 : (decide (c = a) && decide (d = b)) = false := by rw [← Bool.not_eq_true, Bool.and_eq_true, decide_eq_true_eq, decide_eq_true_eq]; exact h2
        have b2 : (decide (c = b) && decide (d = a)) = false := by rw [← Bool.not_eq_true, Bool.and_eq_true, decide_eq_true_eq, decide_eq_true_eq]; exact h1
        rw [b1, b2, Bool.or_false, Bool.or_false]

theorem keepF_iff (f t : Int) : ∀ (ns : List Int) (b : Bool), ns.foldl (fun k n => (k && (f != n)) && (t != n)) b = true ↔ b = true ∧ f ∉ ns ∧ t ∉ ns
  | [], b => by simp
  | n :: ns, b => by
    rw [List.foldl_cons, keepF_iff f t ns]
    simp only [Bool.and_eq_true, bne_iff_ne, ne_eq, List.mem_cons, not_or]
    constructor
    · rintro ⟨⟨⟨h1, h2⟩, h3⟩, h4, h5⟩; exact ⟨h1, ⟨h2, h4⟩, h3, h5⟩
    · rintro ⟨h1, ⟨h2, h4⟩, h3, h5⟩; exact ⟨⟨⟨h1, h2⟩, h3⟩, h4, h5⟩
theorem I.lose (h : I k room cs Q S M C) (ns : List Int) : I k room cs (loseQ Q ns) S (M.filter (keepL ns)) C := by
  refine ⟨⟨h.j.len, h.j.ok, fun c d => ?_, fun c d m hm => ?_⟩, fun c d => ?_, fun p hp => h.rng p (List.mem_filter.1 hp).1, h.c⟩
  · unfold loseQ
    split
    · have := h.j.room c d
      simp; omega
    · exact h.j.room c d
  · unfold loseQ at hm
    split at hm
    · simp at hm
    · exact h.j.m c d m hm
  · rw [List.filter_filter]
    unfold loseQ
    split
    · rename_i hcd
      rw [List.filter_eq_nil_iff.2, List.map_nil]
      intro p hp
      rw [Bool.and_eq_true]
      rintro ⟨h1, h2⟩
      obtain ⟨e1, e2⟩ := selM_iff.1 h1
      unfold keepL keepF at h2
      obtain ⟨_, h3, h4⟩ := (keepF_iff _ _ _ _).1 h2
      rw [e1] at h3; rw [e2] at h4
      rcases hcd with h5 | h5
      · exact h3 h5
      · exact h4 h5
    · rename_i hcd
      rw [h.q]
      congr 1
      apply List.filter_congr
      intro p hp
      cases hs : selM c d p with
      | false => rfl
      | true =>
        obtain ⟨e1, e2⟩ := selM_iff.1 hs
        have : keepL ns p = true := by
          unfold keepL keepF
          refine (keepF_iff _ _ _ _).2 ⟨rfl, ?_, ?_⟩
          · rw [e1]; exact fun h5 => hcd (.inl h5)
          · rw [e2]; exact fun h5 => hcd (.inr h5)
        rw [this]; rfl
theorem I.heal (h : I k room cs Q S M C) : I k room cs Q (fun _ _ => 0) M (fun _ _ => false) := ⟨h.j, h.q, h.rng, fun a b => by simp⟩
theorem I.adv (h : I k room cs Q S M C) (t : Int) (ns : List Int) : I k room (advR cs t ns).2 Q S M C := ⟨⟨advR_len.trans h.j.len, advR_ok h.j.ok, h.j.room, h.j.m⟩, h.q, h.rng, h.c⟩
end
end Go.Proofs.Ytidnlnnobegniaa
set_option linter.unusedVariables false
set_option linter.unusedSimpArgs false
namespace Go.Proofs.Ytidnlnnobegniaa
open Go.AM Go.RowKit

def argsS (o : OP) : List V1 := [.one (.ptr 100000 0), .one (.vptr 100020 1 0 0), .agg [lI o.k, lI o.a, lI o.b, lI o.n, .t (vvBy o.ms), .t (vInts o.ns)]]
/-- A step, by what it answers and leaves. -/
def Steps (o : OP) (N room : Int) (cs : List Int) (Q : QF) (S : SF) (M : List MSG) (C : Int → Int → Bool) (clk : List Int) (r : Bool) (cs' : List Int) (Q' : QF) (S' : SF) (M' : List MSG) (C' : Int → Int → Bool) (clk' : List Int) : Prop :=
  Does Try.prog 20 (argsS o) (nK 100000 100001 100002 100003 cs room Q .none [] S ++ rK 100020 100021 N room M C clk) (.v (.one (lB r))) (nK 100000 100001 100002 100003 cs' room Q' .none [] S' ++ rK 100020 40 N room M' C' clk')

theorem stepP {k : Nat} {room : Int} {cs : List Int} {Q : QF} {S : SF} {M : List MSG} {C : Int → Int → Bool} {o : OP} (h : I k room cs Q S M C) (hk1 : 1 ≤ k) (hk : k ≤ 32) (hr : 0 ≤ room) (hr2 : room ≤ 4096) (ho : o.ok) :
    ∃ cs' Q' S' M' C', Steps o k room cs Q S M C cs true cs' Q' S' M' C' cs' ∧ I k room cs' Q' S' M' C' := by
  have hlen := h.j.len
  subst hlen
  have hM := h.size hk hr2
  have hbb := bad_bad cs.length o.a o.b
  have hq4 : ∀ a b, (Q a b).length ≤ 4611686018427387903 := fun a b => by have := h.j.room a b; omega
  by_cases e1 : o.k = 1
  · have st := s20a o cs room Q S M C cs e1 ho hr hr2 hk h.j.room hM
    cases hb : badD cs.length o.a o.b with
    | true =>
      have x1 : sendR cs.length room Q S o.a o.b o.ms = (60, Q) := by unfold sendR; rw [hbb, hb]; rfl
      have x2 : sndD cs.length room M C o.a o.b o.ms = (60, M) := by unfold sndD; rw [hb]; rfl
      rw [x1, x2] at st
      exact ⟨cs, Q, S, M, C, st, h⟩
    | false =>
      by_cases hS : 0 < S o.a o.b
      · have x1 : sendR cs.length room Q S o.a o.b o.ms = (0, Q) := by unfold sendR; rw [hbb, hb, if_neg (by simp), if_pos hS]
        have x2 : sndD cs.length room M C o.a o.b o.ms = (0, M) := by unfold sndD; rw [hb, if_neg (by simp), h.c, if_pos (by simpa using hS)]
        rw [x1, x2] at st
        exact ⟨cs, Q, S, M, C, st, h⟩
      · have hc := h.cnt o.a o.b
        by_cases hf : room - (Q o.a o.b).length < (o.ms.length : Int)
        · have x1 : sendR cs.length room Q S o.a o.b o.ms = (61, Q) := by unfold sendR; rw [hbb, hb, if_neg (by simp), if_neg hS, if_pos hf]
          have x2 : sndD cs.length room M C o.a o.b o.ms = (61, M) := by unfold sndD; rw [hb, if_neg (by simp), h.c, if_neg (by simpa using hS), if_pos (by rw [hc]; omega)]
          rw [x1, x2] at st
          exact ⟨cs, Q, S, M, C, st, h⟩
        · have x1 : sendR cs.length room Q S o.a o.b o.ms = (0, updQ Q o.a o.b (Q o.a o.b ++ o.ms)) := by unfold sendR; rw [hbb, hb, if_neg (by simp), if_neg hS, if_neg hf]
          have x2 : sndD cs.length room M C o.a o.b o.ms = (0, M ++ o.ms.map fun m => (o.a, o.b, m)) := by unfold sndD; rw [hb, if_neg (by simp), h.c, if_neg (by simpa using hS), if_neg (by rw [hc]; omega)]
          rw [x1, x2] at st
          exact ⟨cs, _, S, _, C, st, h.more hb (by rw [List.length_append]; omega) ho.m⟩
  -- a message is taken, or not
  have hout : outQ Q o.a o.b o.n = true → o.n < 0 ∨ (cntM M o.a o.b : Int) ≤ o.n := by
    intro hx
    rw [h.cnt]
    simpa [outQ] using hx
  by_cases e2 : o.k = 2
  · cases hb : badD cs.length o.a o.b with
    | true =>
      have k12 := s12e cs room Q S o.a o.b o.n (.inl (by rw [hbb, hb]))
      rw [hbb, hb, if_pos rfl] at k12
      exact ⟨cs, Q, S, M, C, s20b1 o cs room Q S M C cs 60 60 e2 k12 (s29a cs.length room M C cs o.a o.b o.n hb), h⟩
    | false =>
      cases hx : outQ Q o.a o.b o.n with
      | true =>
        have k12 := s12e cs room Q S o.a o.b o.n (.inr hx)
        rw [hbb, hb, if_neg (by simp)] at k12
        exact ⟨cs, Q, S, M, C, s20b1 o cs room Q S M C cs 62 62 e2 k12 (s29b cs.length room M C cs o.a o.b o.n hb hM (hout hx)), h⟩
      | false =>
        obtain ⟨j, m, p1, p2, p3, p4, p5, p6, p7⟩ := h.find hx
        have k12 := s12ok cs room Q S o.a o.b o.n (by rw [hbb, hb]) hx (hq4 _ _)
        rw [p5] at k12
        have x1 : dropR cs.length Q o.a o.b o.n = (0, updQ Q o.a o.b ((Q o.a o.b).eraseIdx o.n.toNat)) := by unfold dropR; rw [hbb, hb, hx]; rfl
        rw [x1] at k12
        have st := s20b4 o cs room Q _ S M _ C cs 0 0 m m e2 k12 (s29c cs.length room M C cs o.a o.b o.n j o.a o.b m hb hM p1 p2 p3 p4) (h.j.m _ _ _ p6)
        rw [sameB_self] at st
        exact ⟨cs, _, S, _, C, st, p7⟩
  by_cases e3 : o.k = 3
  · have k17 := s17 cs room Q S o.a o.b o.n (hq4 _ _)
    cases hb : badD cs.length o.a o.b with
    | true =>
      have x1 : dropR cs.length Q o.a o.b o.n = (60, Q) := by unfold dropR; rw [hbb, hb]; rfl
      rw [x1] at k17
      exact ⟨cs, Q, S, M, C, s20c o cs room Q Q S M M C cs 60 60 _ e3 (s29a cs.length room M C cs o.a o.b o.n hb) k17, h⟩
    | false =>
      cases hx : outQ Q o.a o.b o.n with
      | true =>
        have x1 : dropR cs.length Q o.a o.b o.n = (62, Q) := by unfold dropR; rw [hbb, hb, hx]; rfl
        rw [x1] at k17
        exact ⟨cs, Q, S, M, C, s20c o cs room Q Q S M M C cs 62 62 _ e3 (s29b cs.length room M C cs o.a o.b o.n hb hM (hout hx)) k17, h⟩
      | false =>
        obtain ⟨j, m, p1, p2, p3, p4, p5, p6, p7⟩ := h.find hx
        have x1 : dropR cs.length Q o.a o.b o.n = (0, updQ Q o.a o.b ((Q o.a o.b).eraseIdx o.n.toNat)) := by unfold dropR; rw [hbb, hb, hx]; rfl
        rw [x1] at k17
        exact ⟨cs, _, S, _, C, s20c o cs room Q _ S M _ C cs 0 0 _ e3 (s29c cs.length room M C cs o.a o.b o.n j o.a o.b m hb hM p1 p2 p3 p4) k17, p7⟩
  by_cases e4 : o.k = 4
  · have k18 := s18 cs room Q S o.a o.b o.n hr2 (fun m hm => h.j.m _ _ m hm)
    cases hb : badD cs.length o.a o.b with
    | true =>
      have x1 : repR cs.length room Q o.a o.b o.n = (60, Q) := by unfold repR; rw [hbb, hb]; rfl
      rw [x1] at k18
      exact ⟨cs, Q, S, M, C, s20d o cs room Q Q S M M C cs 60 60 e4 (s30a cs.length room M C cs o.a o.b o.n hb) k18, h⟩
    | false =>
      cases hx : outQ Q o.a o.b o.n with
      | true =>
        have x1 : repR cs.length room Q o.a o.b o.n = (62, Q) := by unfold repR; rw [hbb, hb, hx]; rfl
        rw [x1] at k18
        exact ⟨cs, Q, S, M, C, s20d o cs room Q Q S M M C cs 62 62 e4 (s30b cs.length room M C cs o.a o.b o.n hb hM (hout hx)) k18, h⟩
      | false =>
        obtain ⟨j, m, p1, p2, p3, p4, p5, p6, p7⟩ := h.find hx
        have hc := h.cnt o.a o.b
        by_cases hf : ((Q o.a o.b).length : Int) < room
        · have x1 : repR cs.length room Q o.a o.b o.n = (0, updQ Q o.a o.b (Q o.a o.b ++ [m])) := by unfold repR; rw [hbb, hb, hx, if_neg (by simp), if_neg (by simp), if_pos hf, p5]
          rw [x1] at k18
          have hmore := h.more (ms := [m]) hb (by rw [List.length_append]; simp; omega) (by intro x hx; simp at hx; subst hx; exact h.j.m _ _ _ p6)
          exact ⟨cs, _, S, _, C, s20d o cs room Q _ S M _ C cs 0 0 e4 (s30d cs.length room M C cs o.a o.b o.n j o.a o.b m hb hM p1 p2 (by rw [hc]; omega) p3 p4 (h.j.m _ _ _ p6)) k18, hmore⟩
        · have x1 : repR cs.length room Q o.a o.b o.n = (61, Q) := by unfold repR; rw [hbb, hb, hx, if_neg (by simp), if_neg (by simp), if_neg hf]
          rw [x1] at k18
          exact ⟨cs, Q, S, M, C, s20d o cs room Q Q S M M C cs 61 61 e4 (s30c cs.length room M C cs o.a o.b o.n hb hM p1 p2 (by rw [hc]; omega)) k18, h⟩
  by_cases e5 : o.k = 5
  · have k15 := s15 cs room Q S o.a o.b
    cases hb : badD cs.length o.a o.b with
    | true =>
      have x1 : cutR cs.length Q S o.a o.b = (60, Q, S) := by unfold cutR; rw [hbb, hb]; rfl
      rw [x1] at k15
      exact ⟨cs, Q, S, M, C, s20e o cs room Q Q S S M M C C cs 60 60 e5 (s31a cs.length room M C cs o.a o.b hb) k15, h⟩
    | false =>
      have x1 : cutR cs.length Q S o.a o.b = (0, cutQ Q o.a o.b 2, cutS S o.a o.b 2) := by unfold cutR; rw [hbb, hb]; rfl
      rw [x1] at k15
      exact ⟨cs, _, _, _, _, s20e o cs room Q _ S _ M _ C _ cs 0 0 e5 (s31b cs.length room M C cs o.a o.b hb (by omega) hM) k15, h.cut o.a o.b⟩
  by_cases e6 : o.k = 6
  · exact ⟨cs, Q, _, M, _, s20f o cs room Q S M C cs e6, h.heal⟩
  have hnl : o.ns.length ≤ 4611686018427387903 := by have := ho.ns; omega
  by_cases e7 : o.k = 7
  · have k33 := s33 cs room Q S o.ns hnl
    have k35 := s35 cs.length room M C cs o.ns hM hnl
    have hany : (o.ns.any fun n => badD cs.length n 0) = o.ns.any (badN cs.length) := by
      congr 1; funext n; exact bad_eq _ hk1 n
    cases hb : o.ns.any (badN cs.length) with
    | true =>
      have x1 : loseR cs.length Q o.ns = (60, Q) := by unfold loseR; rw [hb]; rfl
      have x2 : losD cs.length M o.ns = (60, M) := by unfold losD; rw [hany, hb]; rfl
      rw [x1] at k33; rw [x2] at k35
      exact ⟨cs, Q, S, M, C, s20g o cs room Q Q S M M C cs 60 60 e7 ho k35 k33, h⟩
    | false =>
      have x1 : loseR cs.length Q o.ns = (0, loseQ Q o.ns) := by unfold loseR; rw [hb]; rfl
      have x2 : losD cs.length M o.ns = (0, M.filter (keepL o.ns)) := by unfold losD; rw [hany, hb]; rfl
      rw [x1] at k33; rw [x2] at k35
      exact ⟨cs, _, S, _, C, s20g o cs room Q _ S M _ C cs 0 0 e7 ho k35 k33, h.lose o.ns⟩
  by_cases e8 : o.k = 8
  · have k36 := s36 cs o.n o.ns hk1 hk h.j.ok hnl
    have k37 := s37 room M C cs o.n o.ns hk1 hk h.j.ok hnl
    have st := s20h o cs _ room Q S M C cs _ _ _ e8 ho k37 k36
    rw [beq_self_eq_true] at st
    exact ⟨_, Q, S, M, C, st, h.adv o.n o.ns⟩
  · exact ⟨cs, Q, S, M, C, s20z o cs room Q S M C cs (by omega), h⟩

theorem J.upd {k : Nat} {room : Int} {cs : List Int} {Q : QF} (h : J k room cs Q) (a b : Int) {ms : List (List Int)} (hl : (ms.length : Int) ≤ room) (hm : ∀ m, m ∈ ms → m.length ≤ 140737488355328) : J k room cs (updQ Q a b ms) := by
  refine ⟨h.len, h.ok, fun c d => ?_, fun c d m hmm => ?_⟩
  · rcases updQ_cases Q a b ms c d with ⟨_, _, e⟩ | e <;> rw [e]
    · exact hl
    · exact h.room c d
  · rcases updQ_cases Q a b ms c d with ⟨_, _, e⟩ | e <;> rw [e] at hmm
    · exact hm m hmm
    · exact h.m _ _ m hmm
theorem J.send {k : Nat} {room : Int} {cs : List Int} {Q : QF} (h : J k room cs Q) (k' : Nat) (S : SF) (a b : Int) {ms : List (List Int)} (hm : ∀ m, m ∈ ms → m.length ≤ 140737488355328) : J k room cs (sendR k' room Q S a b ms).2 := by
  unfold sendR
  split
  · exact h
  split
  · exact h
  split
  · exact h
  · refine h.upd a b (by rw [List.length_append]; omega) fun m hmm => ?_
    rcases List.mem_append.1 hmm with h1 | h1
    · exact h.m a b m h1
    · exact hm m h1
theorem J.drop {k : Nat} {room : Int} {cs : List Int} {Q : QF} (h : J k room cs Q) (k' : Nat) (a b n : Int) : J k room cs (dropR k' Q a b n).2 := by
  unfold dropR
  split
  · exact h
  split
  · exact h
  · refine h.upd a b ?_ fun m hm => h.m a b m (List.mem_of_mem_eraseIdx hm)
    have := h.room a b
    have h2 : ((Q a b).eraseIdx n.toNat).length ≤ (Q a b).length := (List.eraseIdx_sublist _ _).length_le
    omega
theorem J.rep {k : Nat} {room : Int} {cs : List Int} {Q : QF} (h : J k room cs Q) (k' : Nat) (a b n : Int) : J k room cs (repR k' room Q a b n).2 := by
  unfold repR
  split
  · exact h
  split
  · exact h
  rename_i hx
  obtain ⟨j, m, _, hm, hg⟩ := out_get (by simpa using hx)
  split
  · rename_i hf
    rw [hg]
    refine h.upd a b (by rw [List.length_append]; simp; omega) fun x hx => ?_
    rcases List.mem_append.1 hx with h1 | h1
    · exact h.m a b x h1
    · simp at h1; subst h1; exact h.m a b x (List.mem_of_getElem? hm)
  · exact h
theorem J.cut {k : Nat} {room : Int} {cs : List Int} {Q : QF} (h : J k room cs Q) (k' : Nat) (S : SF) (a b : Int) : J k room cs (cutR k' Q S a b).2.1 := by
  unfold cutR
  split
  · exact h
  · refine ⟨h.len, h.ok, fun c d => ?_, fun c d m hm => h.m c d m (cutQ_sub hm)⟩
    have := h.room c d
    have h2 := cutQ_len Q a b c d
    simp only; omega
theorem J.lose {k : Nat} {room : Int} {cs : List Int} {Q : QF} (h : J k room cs Q) (hr : 0 ≤ room) (k' : Nat) (ns : List Int) : J k room cs (loseR k' Q ns).2 := by
  unfold loseR
  split
  · exact h
  · refine ⟨h.len, h.ok, fun c d => ?_, fun c d m hm => ?_⟩
    · simp only [loseQ]
      split
      · simp; omega
      · exact h.room c d
    · simp only [loseQ] at hm
      split at hm
      · simp at hm
      · exact h.m c d m hm
theorem J.adv {k : Nat} {room : Int} {cs : List Int} {Q : QF} (h : J k room cs Q) (t : Int) (ns : List Int) : J k room (advR cs t ns).2 Q := ⟨advR_len.trans h.len, advR_ok h.ok, h.room, h.m⟩

theorem set_mono (cs : List Int) (q : Nat) (t : Int) (ht : 0 ≤ t) (i : Nat) : cs.getD i 0 ≤ (cs.set q (cs.getD q 0 + t)).getD i 0 := by
  rw [List.getD_eq_getElem?_getD, List.getD_eq_getElem?_getD, List.getD_eq_getElem?_getD, List.getElem?_set]
  by_cases h : q = i
  · subst h
    rw [if_pos rfl]
    split
    · simp only [Option.getD_some]; omega
    · rename_i h2
      rw [List.getElem?_eq_none (by omega)]
      simp
  · rw [if_neg h]; omega
theorem advL_mono {t : Int} (ht : 0 ≤ t) : ∀ {ns cs cs' : List Int}, advL t cs ns = some cs' → ∀ i : Nat, cs.getD i 0 ≤ cs'.getD i 0
  | [], cs, cs', h, i => by simp [advL] at h; rw [h]; omega
  | n :: ns, cs, cs', h, i => by
    rw [advL] at h
    split at h
    · simp at h
    · have h1 := set_mono cs n.toNat t ht i
      have h2 := advL_mono ht h i
      omega
theorem advR_mono (cs : List Int) (t : Int) (ns : List Int) (i : Nat) : cs.getD i 0 ≤ (advR cs t ns).2.getD i 0 := by
  unfold advR
  split
  · simp
  split
  · simp
  split
  · simp
  · rename_i h1 _ _ h2; exact advL_mono (by omega) h2 i

/-- The same beside a document's network without messages: no matter what the step answers. -/
theorem stepB {k : Nat} {room : Int} {cs : List Int} {Q : QF} {S : SF} {o : OP} (h : J k room cs Q) (hk1 : 1 ≤ k) (hk : k ≤ 32) (hr : 0 ≤ room) (hr2 : room ≤ 4096) (ho : o.ok) :
    ∃ r cs' Q' S' M' C' clk', Steps o k room cs Q S [] (fun _ _ => false) (List.replicate k 0) r cs' Q' S' M' C' clk' ∧ J k room cs' Q' ∧ ∀ i : Nat, cs.getD i 0 ≤ cs'.getD i 0 := by
  have hlen := h.len
  subst hlen
  have hM : ([] : List MSG).length ≤ 8388608 := by simp
  have hbb := bad_bad cs.length o.a o.b
  have hq4 : ∀ a b, (Q a b).length ≤ 4611686018427387903 := fun a b => by have := h.room a b; omega
  have hsame : ∀ i : Nat, cs.getD i 0 ≤ cs.getD i 0 := fun i => Int.le_refl _
  have hnil : o.n < 0 ∨ (cntM [] o.a o.b : Int) ≤ o.n := by rw [cntM_nil]; omega
  generalize hclk : List.replicate cs.length (0 : Int) = clk
  have hcl : clk.length = cs.length := by rw [← hclk]; simp
  have hck : okC clk := by
    rw [← hclk]
    intro c hc
    have := List.eq_of_mem_replicate hc
    omega
  -- the document's Deliver and Repeat
  have d29 : ∃ x f, Does Try.prog 29 [.one (.vptr 100020 1 0 0), .one (lI o.a), .one (lI o.b), .one (lI o.n)] (rK 100020 100021 cs.length room [] (fun _ _ => false) clk) (.tup [.one (.t x), .one (lI f)]) (rK 100020 40 cs.length room [] (fun _ _ => false) clk) := by
    cases hb : badD cs.length o.a o.b with
    | true => exact ⟨_, _, s29a cs.length room [] (fun _ _ => false) clk o.a o.b o.n hb⟩
    | false => exact ⟨_, _, s29b cs.length room [] (fun _ _ => false) clk o.a o.b o.n hb hM hnil⟩
  have d30 : ∃ f, Does Try.prog 30 [.one (.vptr 100020 1 0 0), .one (lI o.a), .one (lI o.b), .one (lI o.n)] (rK 100020 100021 cs.length room [] (fun _ _ => false) clk) (.v (.one (lI f))) (rK 100020 40 cs.length room [] (fun _ _ => false) clk) := by
    cases hb : badD cs.length o.a o.b with
    | true => exact ⟨_, s30a cs.length room [] (fun _ _ => false) clk o.a o.b o.n hb⟩
    | false => exact ⟨_, s30b cs.length room [] (fun _ _ => false) clk o.a o.b o.n hb hM hnil⟩
  by_cases e1 : o.k = 1
  · exact ⟨_, cs, _, S, _, _, clk, s20a o cs room Q S [] (fun _ _ => false) clk e1 ho hr hr2 hk h.room hM, h.send _ S o.a o.b ho.m, hsame⟩
  by_cases e2 : o.k = 2
  · cases hb : badD cs.length o.a o.b with
    | true =>
      have k12 := s12e cs room Q S o.a o.b o.n (.inl (by rw [hbb, hb]))
      exact ⟨_, cs, Q, S, _, _, clk, s20b1 o cs room Q S [] (fun _ _ => false) clk _ 60 e2 k12 (s29a cs.length room [] (fun _ _ => false) clk o.a o.b o.n hb), h, hsame⟩
    | false =>
      have k29 := s29b cs.length room [] (fun _ _ => false) clk o.a o.b o.n hb hM hnil
      cases hx : outQ Q o.a o.b o.n with
      | true =>
        have k12 := s12e cs room Q S o.a o.b o.n (.inr hx)
        exact ⟨_, cs, Q, S, _, _, clk, s20b1 o cs room Q S [] (fun _ _ => false) clk _ 62 e2 k12 k29, h, hsame⟩
      | false =>
        have k12 := s12ok cs room Q S o.a o.b o.n (by rw [hbb, hb]) hx (hq4 _ _)
        obtain ⟨j, m, _, hm, hg⟩ := out_get hx
        rw [hg] at k12
        exact ⟨_, cs, _, S, _, _, clk, s20b3 o cs room Q _ S [] (fun _ _ => false) clk 0 62 m e2 k12 k29 (h.m _ _ m (List.mem_of_getElem? hm)), h.drop _ o.a o.b o.n, hsame⟩
  by_cases e3 : o.k = 3
  · obtain ⟨x, f, k29⟩ := d29
    exact ⟨_, cs, _, S, _, _, clk, s20c o cs room Q _ S [] [] (fun _ _ => false) clk _ f x e3 k29 (s17 cs room Q S o.a o.b o.n (hq4 _ _)), h.drop _ o.a o.b o.n, hsame⟩
  by_cases e4 : o.k = 4
  · obtain ⟨f, k30⟩ := d30
    exact ⟨_, cs, _, S, _, _, clk, s20d o cs room Q _ S [] [] (fun _ _ => false) clk _ f e4 k30 (s18 cs room Q S o.a o.b o.n hr2 (fun m hm => h.m _ _ m hm)), h.rep _ o.a o.b o.n, hsame⟩
  by_cases e5 : o.k = 5
  · have k15 := s15 cs room Q S o.a o.b
    cases hb : badD cs.length o.a o.b with
    | true => exact ⟨_, cs, _, _, _, _, clk, s20e o cs room Q _ S _ [] _ (fun _ _ => false) _ clk _ 60 e5 (s31a cs.length room [] (fun _ _ => false) clk o.a o.b hb) k15, h.cut _ S o.a o.b, hsame⟩
    | false => exact ⟨_, cs, _, _, _, _, clk, s20e o cs room Q _ S _ [] _ (fun _ _ => false) _ clk _ 0 e5 (s31b cs.length room [] (fun _ _ => false) clk o.a o.b hb (by omega) hM) k15, h.cut _ S o.a o.b, hsame⟩
  by_cases e6 : o.k = 6
  · exact ⟨_, cs, Q, _, _, _, clk, s20f o cs room Q S [] (fun _ _ => false) clk e6, h, hsame⟩
  have hnl : o.ns.length ≤ 4611686018427387903 := by have := ho.ns; omega
  by_cases e7 : o.k = 7
  · exact ⟨_, cs, _, S, _, _, clk, s20g o cs room Q _ S [] _ (fun _ _ => false) clk _ _ e7 ho (s35 cs.length room [] (fun _ _ => false) clk o.ns hM hnl) (s33 cs room Q S o.ns hnl), h.lose hr _ o.ns, hsame⟩
  by_cases e8 : o.k = 8
  · have k37 := s37 room [] (fun _ _ => false) clk o.n o.ns (by omega) (by omega) hck hnl
    rw [hcl] at k37
    exact ⟨_, _, Q, S, _, _, _, s20h o cs _ room Q S [] (fun _ _ => false) clk _ _ _ e8 ho k37 (s36 cs o.n o.ns hk1 hk h.ok hnl), h.adv o.n o.ns, advR_mono cs o.n o.ns⟩
  · exact ⟨_, cs, Q, S, _, _, clk, s20z o cs room Q S [] (fun _ _ => false) clk (by omega), h, hsame⟩
end Go.Proofs.Ytidnlnnobegniaa
