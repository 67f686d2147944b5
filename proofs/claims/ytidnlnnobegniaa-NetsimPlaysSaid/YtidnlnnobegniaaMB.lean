import Derived.Test.YtidnlnnobegniaaA24
set_option linter.unusedVariables false
set_option linter.unusedSimpArgs false
namespace Go.AM
open Go.RowKit
variable {C : Ctx} {σ : L}

/-! ### M5. Things taken out, things put back -/
theorem fresh_not {κ : Nat} (h : notIn κ (keysL σ) = true) (hB : κ < keyB) : ¬ Mentions (look σ) κ := fun hm => notIn_spec h (keysL_mentions hm hB)

theorem hole_split {hh : QHole} {ks : List Nat} {hm : Option Nat} {x y : Int} (h : (hh = .none ∧ hm = none ∧ ks = []) ∨ ∃ i κm, hh = .msg x y i ∧ hm = some i ∧ ks = [κm]) (ρ : Places) {w : World} {e eb : TypeId} {ms : List (List Int)} {M : MapM} {Y : Nat → Prop} :
    (SlotAt w e eb ms M x y Y (ks.map ρ.v) (hh.at x y) ↔ NestAt w e eb ms hm (valOf M x y) Y (ks.map ρ.v)) ∧ ∀ c d, ¬ (c = x ∧ d = y) → hh.at c d = .own := by
  rcases h with ⟨rfl, rfl, rfl⟩ | ⟨i, κm, rfl, rfl, rfl⟩
  · exact ⟨Iff.rfl, fun _ _ _ => rfl⟩
  · refine ⟨?_, fun c d hcd => QHole.at_msg_ne hcd⟩
    rw [QHole.at_msg]
    exact Iff.rfl

/-- A queue is taken out of the map. -/
theorem Imp.takeQ (κ κr : Nat) (x y : Int) {e eb : TypeId} {Q : QF} {hh : QHole} {ks : List Nat} (hm : Option Nat) (hv : look σ (.vec κ) = some (.o (.qs e eb Q hh) ks)) (hk : (hh = .none ∧ hm = none ∧ ks = []) ∨ ∃ i κm, hh = .msg x y i ∧ hm = some i ∧ ks = [κm])
    (hf : notIn κr (keysL σ) = true) (hB : κr < keyB) : Imp C σ (put (put σ (.vec κ) (.o (.qs e eb Q (.entry x y)) [κr])) (.vec κr) (.o (.nest e eb (Q x y) hm) ks)) := by
  intro a w ⟨G, ρ, hr⟩
  obtain ⟨r, M, Y, f⟩ := hr.vec κ _ hv
  have hmm : Mentions (look σ) κ := .inr ⟨_, _, hv, .inl rfl⟩
  have hfr := fresh_not hf hB
  have hne : ∀ k, Mentions (look σ) k → k ≠ κr := fun k hk e => hfr (e ▸ hk)
  have hκκ : κ ≠ κr := hne κ hmm
  have hksm : ∀ k, k ∈ ks → Mentions (look σ) k := fun k hk => .inr ⟨_, _, hv, .inr hk⟩
  obtain ⟨hsp, hat⟩ := hole_split hk ρ (w := w) (e := e) (eb := eb) (ms := Q x y) (M := M) (Y := Y x y)
  have hN := hsp.1 (f.slot x y)
  obtain ⟨us, hU⟩ := hN
  obtain ⟨A, c, hsl⟩ := own_slice hU.row
  let ρ1 := setX ρ κ (ρ κ) fun n => ρ.X κ n ∧ ¬ Y x y n
  let ρ2 := setX ρ1 κr (valOf M x y) (Y x y)
  have e2v : ∀ k, k ≠ κr → ρ2 k = ρ k := fun k hk => by
    show setX ρ1 κr _ _ k = _
    rw [setX_ne _ _ _ hk]
    by_cases h1 : k = κ
    · subst h1; exact setX_same _ _ _ _
    · exact setX_ne _ _ _ h1
  have e2X : ρ2.X κ = fun n => ρ.X κ n ∧ ¬ Y x y n := by
    show (setX ρ1 κr _ _).X κ = _
    rw [setX_X_ne _ _ _ hκκ]; exact setX_X_same _ _ _ _
  have e2r : ρ2 κr = valOf M x y := setX_same _ _ _ _
  have e2rX : ρ2.X κr = Y x y := setX_X_same _ _ _ _
  have hbn : blk (ρ κ) = none := by rw [f.isM]; rfl
  have ho1 : ∀ b, Owns ρ2 (.vec κ) κ b → ρ.X κ b ∧ ¬ Y x y b := by
    rintro b (h1 | ⟨_, h1⟩)
    · rw [e2v κ hκκ, hbn] at h1; simp at h1
    · rw [e2X] at h1; exact h1
  have ho2 : ∀ b, Owns ρ2 (.vec κr) κr b → Y x y b := by
    rintro b (h1 | ⟨_, h1⟩)
    · rw [e2r] at h1; exact hU.rowB b h1
    · rw [e2rX] at h1; exact h1
  have how : ∀ b, ρ.X κ b → Owns ρ (.vec κ) κ b := fun b hb => .inr ⟨rfl, hb⟩
  have hlook : ∀ l c, look (put (put σ (.vec κ) (.o (.qs e eb Q (.entry x y)) [κr])) (.vec κr) (.o (.nest e eb (Q x y) hm) ks)) l = some c → (l = .vec κr ∧ c = .o (.nest e eb (Q x y) hm) ks) ∨ (l = .vec κ ∧ c = .o (.qs e eb Q (.entry x y)) [κr]) ∨ (look σ l = some c ∧ l ≠ .vec κ ∧ l ≠ .vec κr) := by
    intro l c hl
    rw [look_put, look_put] at hl
    by_cases h1 : l = .vec κr
    · rw [h1, upd_same] at hl; injection hl with hl; exact .inl ⟨h1, hl.symm⟩
    · rw [AM.upd_ne _ _ h1] at hl
      by_cases h2 : l = .vec κ
      · rw [h2, upd_same] at hl; injection hl with hl; exact .inr (.inl ⟨h2, hl.symm⟩)
      · rw [AM.upd_ne _ _ h2] at hl; exact .inr (.inr ⟨hl, h2, h1⟩)
  refine ⟨G, ρ2, hr.trade rfl rfl rfl (Nat.le_refl _) (D := [κ]) (N := [κ, κr]) ?_ (fun _ _ _ => rfl) ?_ (fun k hk => e2v k (hne k hk)) ?_ ?_ ?_ ?_⟩
  · intro k hk; simp at hk; subst hk; exact ⟨_, hv⟩
  · intro l c hl
    rcases hlook l c hl with ⟨rfl, _⟩ | ⟨rfl, _⟩ | ⟨h1, h2, h3⟩
    · exact .inr ⟨κr, by simp, rfl⟩
    · exact .inr ⟨κ, by simp, rfl⟩
    · exact .inl ⟨h1, fun k hk => by simp at hk; subst hk; exact h2⟩
  · intro k hk hnk
    simp at hnk
    show (setX ρ1 κr _ _).X k = _
    rw [setX_X_ne _ _ _ (hne k hk)]
    exact setX_X_ne _ _ _ hnk
  · intro k c hk hc
    rcases hlook _ c hc with ⟨h1, rfl⟩ | ⟨h1, rfl⟩ | ⟨h1, h2, h3⟩
    · simp only [Loc.vec.injEq] at h1; subst h1
      show Tag.rep (.nest e eb (Q x y) hm) w (ρ2 k) (ρ2.X k) (ks.map ρ2.v)
      have : ks.map ρ2.v = ks.map ρ.v := List.map_congr_left fun k' hk' => e2v k' (hne k' (hksm k' hk'))
      rw [e2r, e2rX, this]
      exact ⟨Y x y, ⟨us, hU⟩, fun b hb => .inr hb⟩
    · simp only [Loc.vec.injEq] at h1; subst h1
      show Tag.rep (.qs e eb Q (.entry x y)) w (ρ2 k) (ρ2.X k) ([κr].map ρ2.v)
      rw [e2v k hκκ, e2X]
      refine ⟨r, M, fun c d => if c = x ∧ d = y then fun _ => False else Y c d, f.isM, ⟨f.inX, fun h => (f.sub x y r h).2 rfl⟩, f.map, ?_, ?_, ?_⟩
      · intro c d n hn
        split at hn
        · exact hn.elim
        · rename_i hcd
          obtain ⟨q1, q2⟩ := f.sub c d n hn
          exact ⟨⟨q1, fun h => hcd (f.apart c d x y n hn h)⟩, q2⟩
      · intro c d c' d' n hn hn'
        split at hn
        · exact hn.elim
        · split at hn'
          · exact hn'.elim
          · exact f.apart c d c' d' n hn hn'
      · intro c d
        by_cases hcd : c = x ∧ d = y
        · obtain ⟨rfl, rfl⟩ := hcd
          rw [QHole.at_entry]
          refine ⟨?_, A, _, _, hsl⟩
          simp only [List.map_cons, List.map_nil]
          rw [e2r]
        · rw [QHole.at_entry_ne hcd]
          simp only [if_neg hcd]
          have := f.slot c d
          rw [hat c d hcd] at this
          exact this
    · simp only [List.mem_cons, List.not_mem_nil, or_false] at hk
      rcases hk with rfl | rfl
      · exact absurd rfl h2
      · exact absurd rfl h3
  · intro k c b hk hc hb
    have hlt : ∀ b, ρ.X κ b → b < w.heap.size := fun b hb => (hr.live _ _ κ b hv rfl (how b hb)).2.1
    simp only [List.mem_cons, List.not_mem_nil, or_false] at hk
    rcases hk with rfl | rfl
    · have := (ho1 b hb).1
      exact ⟨hlt b this, .inl ⟨k, by simp, how b this⟩⟩
    · have := (f.sub x y b (ho2 b hb)).1
      exact ⟨hlt b this, .inl ⟨κ, by simp, how b this⟩⟩
  · intro k k' b hk hk' hb hb'
    simp only [List.mem_cons, List.not_mem_nil, or_false] at hk hk'
    rcases hk with rfl | rfl <;> rcases hk' with rfl | rfl
    · rfl
    · exact absurd (ho2 b hb') (ho1 b hb).2
    · exact absurd (ho2 b hb) (ho1 b hb').2
    · rfl

/-- .. and put back. -/
theorem Imp.putQ (κ κr : Nat) {x y : Int} {e eb : TypeId} {Q : QF} {ms : List (List Int)} {hm : Option Nat} {ks : List Nat} (hh : QHole) (hv : look σ (.vec κ) = some (.o (.qs e eb Q (.entry x y)) [κr])) (hv2 : look σ (.vec κr) = some (.o (.nest e eb ms hm) ks))
    (hk : (hh = .none ∧ hm = none ∧ ks = []) ∨ ∃ i κm, hh = .msg x y i ∧ hm = some i ∧ ks = [κm]) : Imp C σ (put (del σ (.vec κr)) (.vec κ) (.o (.qs e eb (updQ Q x y ms) hh) ks)) := by
  intro a w ⟨G, ρ, hr⟩
  obtain ⟨r, M, Y, f⟩ := hr.vec κ _ hv
  obtain ⟨Z, ⟨us, hU⟩, hZ⟩ := hr.vec κr _ hv2
  have hκκ : κ ≠ κr := by rintro rfl; rw [hv] at hv2; simp at hv2
  obtain ⟨hsp, hat⟩ := hole_split hk ρ (w := w) (e := e) (eb := eb) (ms := ms) (M := M) (Y := Z)
  have hs := f.slot x y
  rw [QHole.at_entry] at hs
  obtain ⟨hval, A, n, c, hsl⟩ := hs
  simp only [List.map_cons, List.map_nil, List.cons.injEq, and_true] at hval
  have hbn : blk (ρ κ) = none := by rw [f.isM]; rfl
  have howr : ∀ b, Z b → Owns ρ (.vec κr) κr b := fun b hb => (hZ b hb).imp id fun h => ⟨rfl, h⟩
  have how : ∀ b, ρ.X κ b → Owns ρ (.vec κ) κ b := fun b hb => .inr ⟨rfl, hb⟩
  have hdj : ∀ b, Z b → ¬ ρ.X κ b := fun b h1 h2 => hκκ (hr.inj _ _ _ _ κ κr b hv hv2 rfl rfl (how b h2) (howr b h1))
  let ρ1 := setX ρ κ (ρ κ) fun n => ρ.X κ n ∨ Z n
  have e1v : ∀ k, ρ1 k = ρ k := fun k => by
    by_cases h1 : k = κ
    · subst h1; exact setX_same _ _ _ _
    · exact setX_ne _ _ _ h1
  have e1X : ρ1.X κ = fun n => ρ.X κ n ∨ Z n := setX_X_same _ _ _ _
  have ho1 : ∀ b, Owns ρ1 (.vec κ) κ b → ρ.X κ b ∨ Z b := by
    rintro b (h1 | ⟨_, h1⟩)
    · rw [e1v, hbn] at h1; simp at h1
    · rw [e1X] at h1; exact h1
  have hlook : ∀ l c, look (put (del σ (.vec κr)) (.vec κ) (.o (.qs e eb (updQ Q x y ms) hh) ks)) l = some c → (l = .vec κ ∧ c = .o (.qs e eb (updQ Q x y ms) hh) ks) ∨ (look σ l = some c ∧ l ≠ .vec κ ∧ l ≠ .vec κr) := by
    intro l c hl
    rw [look_put, look_del] at hl
    by_cases h1 : l = .vec κ
    · rw [h1, upd_same] at hl; injection hl with hl; exact .inl ⟨h1, hl.symm⟩
    · rw [AM.upd_ne _ _ h1] at hl
      by_cases h2 : l = .vec κr
      · rw [h2, upd_same] at hl; simp at hl
      · rw [AM.upd_ne _ _ h2] at hl; exact .inr ⟨hl, h1, h2⟩
  refine ⟨G, ρ1, hr.trade rfl rfl rfl (Nat.le_refl _) (D := [κ, κr]) (N := [κ]) ?_ (fun _ _ _ => rfl) ?_ (fun k hk => e1v k) ?_ ?_ ?_ ?_⟩
  · intro k hk
    simp only [List.mem_cons, List.not_mem_nil, or_false] at hk
    rcases hk with rfl | rfl
    · exact ⟨_, hv⟩
    · exact ⟨_, hv2⟩
  · intro l c hl
    rcases hlook l c hl with ⟨rfl, _⟩ | ⟨h1, h2, h3⟩
    · exact .inr ⟨κ, by simp, rfl⟩
    · refine .inl ⟨h1, fun k hk => ?_⟩
      simp only [List.mem_cons, List.not_mem_nil, or_false] at hk
      rcases hk with rfl | rfl
      · exact h2
      · exact h3
  · intro k hk hnk
    simp only [List.mem_cons, List.not_mem_nil, or_false, not_or] at hnk
    exact setX_X_ne _ _ _ hnk.1
  · intro k c hk hc
    simp at hk; subst hk
    rcases hlook _ c hc with ⟨h1, rfl⟩ | ⟨h1, h2, h3⟩
    · show Tag.rep (.qs e eb (updQ Q x y ms) hh) w (ρ1 k) (ρ1.X k) (ks.map ρ1.v)
      have hks : ks.map ρ1.v = ks.map ρ.v := List.map_congr_left fun k' hk' => e1v k'
      rw [e1v, e1X, hks]
      refine ⟨r, M, fun c d => if c = x ∧ d = y then Z else Y c d, f.isM, .inl f.inX, f.map, ?_, ?_, ?_⟩
      · intro c d n hn
        split at hn
        · exact ⟨.inr hn, fun e => hdj n hn (e ▸ f.inX)⟩
        · obtain ⟨q1, q2⟩ := f.sub c d n hn
          exact ⟨.inl q1, q2⟩
      · intro c d c' d' n hn hn'
        split at hn
        · rename_i h1
          split at hn'
          · rename_i h2; rw [h1.1, h1.2, h2.1, h2.2]; exact ⟨rfl, rfl⟩
          · exact absurd (f.sub c' d' n hn').1 (hdj n hn)
        · split at hn'
          · exact absurd (f.sub c d n hn).1 (hdj n hn')
          · exact f.apart c d c' d' n hn hn'
      · intro c d
        by_cases hcd : c = x ∧ d = y
        · obtain ⟨rfl, rfl⟩ := hcd
          have e1 : updQ Q c d ms c d = ms := by simp [updQ]
          simp only [and_self, if_true]
          rw [e1]
          refine hsp.2 ⟨us, ?_⟩
          rw [← hval]; exact hU
        · have e1 : updQ Q x y ms c d = Q c d := by simp [updQ, hcd]
          rw [hat c d hcd, e1]
          simp only [if_neg hcd]
          have := f.slot c d
          rw [QHole.at_entry_ne hcd] at this
          exact this
    · exact absurd rfl h2
  · intro k c b hk hc hb
    simp at hk; subst hk
    rcases ho1 b hb with h1 | h1
    · exact ⟨(hr.live _ _ k b hv rfl (how b h1)).2.1, .inl ⟨k, by simp, how b h1⟩⟩
    · exact ⟨(hr.live _ _ κr b hv2 rfl (howr b h1)).2.1, .inl ⟨κr, by simp, howr b h1⟩⟩
  · intro k k' b hk hk' _ _
    simp at hk hk'; rw [hk, hk']

/-- A row is taken out of a row of rows. -/
theorem Imp.takeM (κ κm i : Nat) {e eb : TypeId} {ms : List (List Int)} {ks : List Nat} (hv : look σ (.vec κ) = some (.o (.nest e eb ms none) ks)) {m : List Int} (hm : ms[i]? = some m) (hf : notIn κm (keysL σ) = true) (hB : κm < keyB) :
    Imp C σ (put (put σ (.vec κ) (.o (.nest e eb ms (some i)) [κm])) (.vec κm) (.r 1 eb (byteRows m))) := by
  intro a w ⟨G, ρ, hr⟩
  obtain ⟨Y, ⟨us, hU⟩, hY⟩ := hr.vec κ _ hv
  have hil : i < ms.length := (List.getElem?_eq_some_iff.1 hm).1
  obtain ⟨u, hu⟩ : ∃ u, us[i]? = some u := ⟨_, List.getElem?_eq_getElem (by rw [hU.len]; exact hil)⟩
  have hmm : Mentions (look σ) κ := .inr ⟨_, _, hv, .inl rfl⟩
  have hfr := fresh_not hf hB
  have hne : ∀ k, Mentions (look σ) k → k ≠ κm := fun k hk e => hfr (e ▸ hk)
  have hκκ : κ ≠ κm := hne κ hmm
  have hown := hU.own i m u hm hu (by simp)
  have hblk := fun b => hU.ownB i u b hu (by simp)
  let ρ1 := setX ρ κ (ρ κ) fun n => Y n ∧ blk u ≠ some n
  let ρ2 := setX ρ1 κm u fun _ => False
  have e2v : ∀ k, k ≠ κm → ρ2 k = ρ k := fun k hk => by
    show setX ρ1 κm _ _ k = _
    rw [setX_ne _ _ _ hk]
    by_cases h1 : k = κ
    · subst h1; exact setX_same _ _ _ _
    · exact setX_ne _ _ _ h1
  have e2X : ρ2.X κ = fun n => Y n ∧ blk u ≠ some n := by
    show (setX ρ1 κm _ _).X κ = _
    rw [setX_X_ne _ _ _ hκκ]; exact setX_X_same _ _ _ _
  have e2m : ρ2 κm = u := setX_same _ _ _ _
  have e2mX : ρ2.X κm = fun _ => False := setX_X_same _ _ _ _
  have ho1 : ∀ b, Owns ρ2 (.vec κ) κ b → Y b ∧ blk u ≠ some b := by
    rintro b (h1 | ⟨_, h1⟩)
    · rw [e2v κ hκκ] at h1
      exact ⟨hU.rowB b h1, fun h2 => (hblk b h2).2 h1⟩
    · rw [e2X] at h1; exact h1
  have ho2 : ∀ b, Owns ρ2 (.vec κm) κm b → blk u = some b := by
    rintro b (h1 | ⟨_, h1⟩)
    · rw [e2m] at h1; exact h1
    · rw [e2mX] at h1; exact h1.elim
  have how : ∀ b, Y b → Owns ρ (.vec κ) κ b := fun b hb => (hY b hb).imp id fun h => ⟨rfl, h⟩
  have hlook : ∀ l c, look (put (put σ (.vec κ) (.o (.nest e eb ms (some i)) [κm])) (.vec κm) (.r 1 eb (byteRows m))) l = some c → (l = .vec κm ∧ c = .r 1 eb (byteRows m)) ∨ (l = .vec κ ∧ c = .o (.nest e eb ms (some i)) [κm]) ∨ (look σ l = some c ∧ l ≠ .vec κ ∧ l ≠ .vec κm) := by
    intro l c hl
    rw [look_put, look_put] at hl
    by_cases h1 : l = .vec κm
    · rw [h1, upd_same] at hl; injection hl with hl; exact .inl ⟨h1, hl.symm⟩
    · rw [AM.upd_ne _ _ h1] at hl
      by_cases h2 : l = .vec κ
      · rw [h2, upd_same] at hl; injection hl with hl; exact .inr (.inl ⟨h2, hl.symm⟩)
      · rw [AM.upd_ne _ _ h2] at hl; exact .inr (.inr ⟨hl, h2, h1⟩)
  refine ⟨G, ρ2, hr.trade rfl rfl rfl (Nat.le_refl _) (D := [κ]) (N := [κ, κm]) ?_ (fun _ _ _ => rfl) ?_ (fun k hk => e2v k (hne k hk)) ?_ ?_ ?_ ?_⟩
  · intro k hk; simp at hk; subst hk; exact ⟨_, hv⟩
  · intro l c hl
    rcases hlook l c hl with ⟨rfl, _⟩ | ⟨rfl, _⟩ | ⟨h1, h2, h3⟩
    · exact .inr ⟨κm, by simp, rfl⟩
    · exact .inr ⟨κ, by simp, rfl⟩
    · exact .inl ⟨h1, fun k hk => by simp at hk; subst hk; exact h2⟩
  · intro k hk hnk
    simp at hnk
    show (setX ρ1 κm _ _).X k = _
    rw [setX_X_ne _ _ _ (hne k hk)]
    exact setX_X_ne _ _ _ hnk
  · intro k c hk hc
    rcases hlook _ c hc with ⟨h1, rfl⟩ | ⟨h1, rfl⟩ | ⟨h1, h2, h3⟩
    · simp only [Loc.vec.injEq] at h1; subst h1
      show VecRep G w (ρ2 k) 1 eb (byteRows m)
      rw [e2m]; exact vec_of_bytes hown
    · simp only [Loc.vec.injEq] at h1; subst h1
      show Tag.rep (.nest e eb ms (some i)) w (ρ2 k) (ρ2.X k) ([κm].map ρ2.v)
      simp only [List.map_cons, List.map_nil]
      rw [e2v k hκκ, e2X, e2m]
      obtain ⟨A, n, c', hs⟩ := hU.slices hu
      refine ⟨fun n => Y n ∧ blk u ≠ some n, ⟨us, ⟨hU.row, fun b hb => ⟨hU.rowB b hb, fun h2 => (hblk b h2).2 hb⟩, fun j m' u' h1 h2 h3 => hU.own j m' u' h1 h2 (by simp), fun j u' b h1 h2 h3 => ?_, fun j hj => ?_, fun j1 j2 u1 u2 b h1 h2 h3 h4 => hU.apart j1 j2 u1 u2 b h1 h2 (by simp) (by simp)⟩⟩, fun b hb => .inr hb⟩
      · obtain ⟨q1, q2⟩ := hU.ownB j u' b h1 (by simp) h3
        exact ⟨⟨q1, fun h4 => h2 (by rw [hU.apart j i u' u b h1 hu (by simp) (by simp) h3 h4])⟩, q2⟩
      · injection hj with hj; subst hj
        exact ⟨hil, u, hu, rfl, A, n, c', hs⟩
    · simp only [List.mem_cons, List.not_mem_nil, or_false] at hk
      rcases hk with rfl | rfl
      · exact absurd rfl h2
      · exact absurd rfl h3
  · intro k c b hk hc hb
    have hlt : ∀ b, Y b → b < w.heap.size := fun b hb => (hr.live _ _ κ b hv rfl (how b hb)).2.1
    simp only [List.mem_cons, List.not_mem_nil, or_false] at hk
    rcases hk with rfl | rfl
    · have := (ho1 b hb).1
      exact ⟨hlt b this, .inl ⟨k, by simp, how b this⟩⟩
    · have := (hblk b (ho2 b hb)).1
      exact ⟨hlt b this, .inl ⟨κ, by simp, how b this⟩⟩
  · intro k k' b hk hk' hb hb'
    simp only [List.mem_cons, List.not_mem_nil, or_false] at hk hk'
    rcases hk with rfl | rfl <;> rcases hk' with rfl | rfl
    · rfl
    · exact absurd (ho2 b hb') (ho1 b hb).2
    · exact absurd (ho2 b hb) (ho1 b hb').2
    · rfl

/-- .. and put back, whatever it holds now. -/
theorem Imp.putM (κ κm i : Nat) {e eb : TypeId} {ms : List (List Int)} {m : List Int} (hv : look σ (.vec κ) = some (.o (.nest e eb ms (some i)) [κm])) (hv2 : look σ (.vec κm) = some (.r 1 eb (byteRows m))) :
    Imp C σ (put (del σ (.vec κm)) (.vec κ) (.o (.nest e eb (ms.set i m) none) [])) := by
  intro a w ⟨G, ρ, hr⟩
  obtain ⟨Y, ⟨us, hU⟩, hY⟩ := hr.vec κ _ hv
  have hbv : VecRep G w (ρ κm) 1 eb (byteRows m) := hr.vec κm _ hv2
  have hbm := bytes_of_vec hbv
  obtain ⟨hil, u, hu, hvs, A, n, c, hs⟩ := hU.hole i rfl
  simp only [List.map_cons, List.map_nil, List.cons.injEq, and_true] at hvs
  have hκκ : κ ≠ κm := by rintro rfl; rw [hv] at hv2; simp at hv2
  have how : ∀ b, Y b → Owns ρ (.vec κ) κ b := fun b hb => (hY b hb).imp id fun h => ⟨rfl, h⟩
  have howm : ∀ b, blk u = some b → Owns ρ (.vec κm) κm b := fun b hb => .inl (by rw [hvs]; exact hb)
  have hdj : ∀ b, blk u = some b → ¬ Owns ρ (.vec κ) κ b := fun b h1 h2 => hκκ (hr.inj _ _ _ _ κ κm b hv hv2 rfl rfl h2 (howm b h1))
  let ρ1 := setX ρ κ (ρ κ) fun n => Y n ∨ blk u = some n
  have e1v : ∀ k, ρ1 k = ρ k := fun k => by
    by_cases h1 : k = κ
    · subst h1; exact setX_same _ _ _ _
    · exact setX_ne _ _ _ h1
  have e1X : ρ1.X κ = fun n => Y n ∨ blk u = some n := setX_X_same _ _ _ _
  have ho1 : ∀ b, Owns ρ1 (.vec κ) κ b → Y b ∨ blk u = some b := by
    rintro b (h1 | ⟨_, h1⟩)
    · rw [e1v] at h1; exact .inl (hU.rowB b h1)
    · rw [e1X] at h1; exact h1
  have hlook : ∀ l c, look (put (del σ (.vec κm)) (.vec κ) (.o (.nest e eb (ms.set i m) none) [])) l = some c → (l = .vec κ ∧ c = .o (.nest e eb (ms.set i m) none) []) ∨ (look σ l = some c ∧ l ≠ .vec κ ∧ l ≠ .vec κm) := by
    intro l c hl
    rw [look_put, look_del] at hl
    by_cases h1 : l = .vec κ
    · rw [h1, upd_same] at hl; injection hl with hl; exact .inl ⟨h1, hl.symm⟩
    · rw [AM.upd_ne _ _ h1] at hl
      by_cases h2 : l = .vec κm
      · rw [h2, upd_same] at hl; simp at hl
      · rw [AM.upd_ne _ _ h2] at hl; exact .inr ⟨hl, h1, h2⟩
  refine ⟨G, ρ1, hr.trade rfl rfl rfl (Nat.le_refl _) (D := [κ, κm]) (N := [κ]) ?_ (fun _ _ _ => rfl) ?_ (fun k hk => e1v k) ?_ ?_ ?_ ?_⟩
  · intro k hk
    simp only [List.mem_cons, List.not_mem_nil, or_false] at hk
    rcases hk with rfl | rfl
    · exact ⟨_, hv⟩
    · exact ⟨_, hv2⟩
  · intro l c hl
    rcases hlook l c hl with ⟨rfl, _⟩ | ⟨h1, h2, h3⟩
    · exact .inr ⟨κ, by simp, rfl⟩
    · refine .inl ⟨h1, fun k hk => ?_⟩
      simp only [List.mem_cons, List.not_mem_nil, or_false] at hk
      rcases hk with rfl | rfl
      · exact h2
      · exact h3
  · intro k hk hnk
    simp only [List.mem_cons, List.not_mem_nil, or_false, not_or] at hnk
    exact setX_X_ne _ _ _ hnk.1
  · intro k c' hk hc
    simp at hk; subst hk
    rcases hlook _ c' hc with ⟨h1, rfl⟩ | ⟨h1, h2, h3⟩
    · show Tag.rep (.nest e eb (ms.set i m) none) w (ρ1 k) (ρ1.X k) []
      rw [e1v, e1X]
      refine ⟨fun n => Y n ∨ blk u = some n, ⟨us, ⟨by rw [List.length_set]; exact hU.row, fun b hb => .inl (hU.rowB b hb), ?_, ?_, by simp, ?_⟩⟩, fun b hb => .inr hb⟩
      · intro j m' u' h1 h2 _
        rw [List.getElem?_set] at h1
        by_cases hij : i = j
        · subst hij
          rw [if_pos rfl, if_pos hil] at h1
          injection h1 with h1; subst h1
          rw [hu] at h2; injection h2 with h2; subst h2
          rw [← hvs]; exact hbm
        · rw [if_neg hij] at h1
          exact hU.own j m' u' h1 h2 (by simpa using hij)
      · intro j u' b h1 _ h3
        by_cases hij : i = j
        · subst hij
          rw [hu] at h1; injection h1 with h1; subst h1
          exact ⟨.inr h3, fun h4 => hdj b h3 (.inl h4)⟩
        · obtain ⟨q1, q2⟩ := hU.ownB j u' b h1 (by simpa using hij) h3
          exact ⟨.inl q1, q2⟩
      · intro j1 j2 u1 u2 b h1 h2 _ _ h3 h4
        have hfar : ∀ j u', us[j]? = some u' → i ≠ j → blk u' = some b → blk u = some b → False := fun j u' q1 q2 q3 q4 =>
          hdj b q4 (how b (hU.ownB j u' b q1 (by simpa using q2) q3).1)
        by_cases hij1 : i = j1 <;> by_cases hij2 : i = j2
        · omega
        · subst hij1; rw [hu] at h1; injection h1 with h1; subst h1; exact (hfar j2 u2 h2 hij2 h4 h3).elim
        · subst hij2; rw [hu] at h2; injection h2 with h2; subst h2; exact (hfar j1 u1 h1 hij1 h3 h4).elim
        · exact hU.apart j1 j2 u1 u2 b h1 h2 (by simpa using hij1) (by simpa using hij2) h3 h4
    · exact absurd rfl h2
  · intro k c' b hk hc hb
    simp at hk; subst hk
    rcases ho1 b hb with h1 | h1
    · exact ⟨(hr.live _ _ k b hv rfl (how b h1)).2.1, .inl ⟨k, by simp, how b h1⟩⟩
    · exact ⟨(hr.live _ _ κm b hv2 rfl (howm b h1)).2.1, .inl ⟨κm, by simp, howm b h1⟩⟩
  · intro k k' b hk hk' _ _
    simp at hk hk'; rw [hk, hk']

/-- A nil slice as a row of rows without elements. -/
theorem Imp.adoptN (n κ : Nat) (e eb : TypeId) (h : notIn κ (keysL σ) = true) (hB : κ < keyB) (hn : look σ (.slot n) = some (.s (sv (.slice none 0 0)))) : Imp C σ (put (put σ (.vec κ) (.o (.nest e eb [] none) [])) (.slot n) (.s (.v (.one (.row κ))))) := by
  intro a w ⟨G, ρ, hr⟩
  have hm := fresh_not h hB
  have h1 := hr.newTag (κ := κ) hm (Grew.refl w) (v := .slice none 0 0) (Y := fun _ => False) (t := .nest e eb [] none) (ks := []) (by simp) ⟨fun _ => False, ⟨[], World.ownsRow_nil _ 0 e 1, by simp [blk], by simp, by simp, by simp, by simp⟩, fun b h => h.elim⟩ (by simp [blk])
  obtain ⟨v, y, e1, e2, e3⟩ := hr.slot n _ hn
  injection e1 with e1
  subst e1
  have := e3.2.lit_inv
  subst this
  have hlt : n < a.tmps.size := (Array.getElem?_eq_some_iff.1 e2).1
  have h2 := h1.put (d := n) (by rw [← hr.ntmps]; exact hlt) (v := .slice none 0 0) (y := .v (.one (.row κ))) ⟨rfl, (setX_same _ _ _ _).symm, ⟨none, 0, 0, setX_same _ _ _ _⟩⟩
  have h3 : a.put (some n) (.slice none 0 0) = a := by
    cases a with
    | mk tmps defers =>
      simp only [Act.put, Act.mk.injEq, and_true]
      simp at e2 hlt
      apply Array.ext
      · simp
      · intro i hi1 hi2
        rw [Array.getElem_setIfInBounds]
        split
        · rename_i he; subst he; rw [Array.getElem?_eq_getElem hlt] at e2; injection e2 with e2; exact e2.symm
        · rfl
  rw [h3] at h2
  exact ⟨G, _, by rw [look_put, look_put]; exact h2⟩
end Go.AM
set_option linter.unusedVariables false
set_option linter.unusedSimpArgs false
namespace Go.AM
open Go.RowKit
variable {C : Ctx} {σ : L}

/-! ### M6. The same, with the state that follows -/
theorem Imp.takeQE (κ κr : Nat) (x y : Int) {e eb : TypeId} {Q : QF} {hh : QHole} {ks : List Nat} (hm : Option Nat) {ms : List (List Int)} {τ : L} (hv : look σ (.vec κ) = some (.o (.qs e eb Q hh) ks)) (hk : (hh = .none ∧ hm = none ∧ ks = []) ∨ ∃ i κm, hh = .msg x y i ∧ hm = some i ∧ ks = [κm])
    (hf : notIn κr (keysL σ) = true) (hB : κr < keyB) (hms : Q x y = ms) (he : put (put σ (.vec κ) (.o (.qs e eb Q (.entry x y)) [κr])) (.vec κr) (.o (.nest e eb ms hm) ks) = τ) : Imp C σ τ := by
  subst hms; exact he ▸ Imp.takeQ κ κr x y hm hv hk hf hB
theorem Imp.putQE (κ κr : Nat) {x y : Int} {e eb : TypeId} {Q Q' : QF} {ms : List (List Int)} {hm : Option Nat} {ks : List Nat} (hh : QHole) {τ : L} (hv : look σ (.vec κ) = some (.o (.qs e eb Q (.entry x y)) [κr])) (hv2 : look σ (.vec κr) = some (.o (.nest e eb ms hm) ks))
    (hk : (hh = .none ∧ hm = none ∧ ks = []) ∨ ∃ i κm, hh = .msg x y i ∧ hm = some i ∧ ks = [κm]) (hQ : updQ Q x y ms = Q') (he : put (del σ (.vec κr)) (.vec κ) (.o (.qs e eb Q' hh) ks) = τ) : Imp C σ τ := by
  subst hQ; exact he ▸ Imp.putQ κ κr hh hv hv2 hk
theorem Imp.takeME (κ κm i : Nat) {e eb : TypeId} {ms : List (List Int)} {ks : List Nat} {m : List Int} {τ : L} (hv : look σ (.vec κ) = some (.o (.nest e eb ms none) ks)) (hm : ms[i]? = some m) (hf : notIn κm (keysL σ) = true) (hB : κm < keyB)
    (he : put (put σ (.vec κ) (.o (.nest e eb ms (some i)) [κm])) (.vec κm) (.r 1 eb (m.map fun n => [.lit (.int .u8 n)])) = τ) : Imp C σ τ := he ▸ Imp.takeM κ κm i hv hm hf hB
theorem Imp.putME (κ κm i : Nat) {e eb : TypeId} {ms ms' : List (List Int)} {m : List Int} {τ : L} (hv : look σ (.vec κ) = some (.o (.nest e eb ms (some i)) [κm])) (hv2 : look σ (.vec κm) = some (.r 1 eb (m.map fun n => [.lit (.int .u8 n)])))
    (hms : ms.set i m = ms') (he : put (del σ (.vec κm)) (.vec κ) (.o (.nest e eb ms' none) []) = τ) : Imp C σ τ := by
  subst hms; exact he ▸ Imp.putM κ κm i hv hv2
theorem Imp.adoptNE (n κ : Nat) (e eb : TypeId) {τ : L} (h : notIn κ (keysL σ) = true) (hB : κ < keyB) (hn : look σ (.slot n) = some (.s (sv (.slice none 0 0)))) (he : put (put σ (.vec κ) (.o (.nest e eb [] none) [])) (.slot n) (.s (.v (.one (.row κ)))) = τ) : Imp C σ τ := he ▸ Imp.adoptN n κ e eb h hB hn

theorem updQ_same (Q : QF) (x y : Int) (ms : List (List Int)) : updQ Q x y ms x y = ms := by simp [updQ]
theorem updQ_upd (Q : QF) (x y : Int) (ms ms' : List (List Int)) : updQ (updQ Q x y ms) x y ms' = updQ Q x y ms' := by
  funext c d; simp only [updQ]; split <;> rfl
theorem updQ_id (Q : QF) (x y : Int) : updQ Q x y (Q x y) = Q := by
  funext c d; simp only [updQ]; split
  · rename_i h; rw [h.1, h.2]
  · rfl

/-! #### a call that looks at rows of the act's own, and brings a row -/
def litRow (rows : List (List T)) : Bool := rows.all (·.all litT)
theorem vec_lit {G G' : Heap} {w : World} {v : Value} {sz : Nat} {e : TypeId} {rows : List (List T)} (hl : litRow rows = true) (h : VecRep G w v sz e rows) : VecRep G' w v sz e rows := by
  obtain ⟨h0, xs, h1, h2⟩ := h
  refine ⟨h0, xs, h1, fun i cells k t hi hk => ?_⟩
  obtain ⟨u, g1, g2, g3⟩ := h2 i cells k t hi hk
  have := List.all_eq_true.1 (List.all_eq_true.1 hl cells (List.mem_of_getElem? hi)) t (List.mem_of_getElem? hk)
  cases t with
  | lit x => have := g3.lit_inv; subst this; exact ⟨u, g1, g2, .lit u⟩
  | _ => simp [litT] at this

theorem fits_lend_own {f : FuncId} {o : Oper} {ys ys' : List V1} {args : List PV} {rd rd2 : List (Loc × Cont)} {sz : Nat} {et : TypeId} {rows : List (List T)} {κ : Nat} (hd : dstB C.N o.dst = true) (he : Enters C σ o f ys rd) (hp : Own C.P f args (.v (.one (.row 0))) sz et rows) (hle : lendL σ ys = some (ys', rd2)) (hs : All2 SubV ys' args) (hl : litRow rows = true) (hk : freshKey σ (dstN o.dst) = some κ) :
    Fits C σ o ⟨rd ++ rd2, [(.vec κ, some (.r sz et rows))] ++ wrD o.dst (.v (.one (.row κ))), [κ]⟩ := by
  obtain ⟨q1, q2⟩ := lendL_rep (C := C) hle
  refine ⟨?_, r_app he.reads q1, fun κ' hκ' => by simp at hκ'; subst hκ'; exact freshKey_spec hk⟩
  intro s a w K Q ⟨G, ρ, hrel⟩ hh hf hK
  obtain ⟨r1, r2⟩ := Reads.app.1 hh
  obtain ⟨vals, hex, hvals⟩ := he.exec hrel r1
  unfold Oper.wp
  rw [hex]
  simp only [Oper.upon]
  refine (hp (whole w) w vals (fun _ _ h => h) (All2.imp2 (R := V1Rep (whole w) noPlaces) (S := SubV) (fun _ _ _ h1 h2 => SubV.rep (ρ' := noPlaces) h2 h1) (q2 hrel r2 hvals) hs)).mono ?_
  rintro e w' ⟨v, rfl, G', ρv, h1, h2, h3, h4, h5, h6, h7⟩
  refine hK _ _ ?_
  have hm : ¬ Mentions s κ := hf κ (by simp)
  have h8 := hrel.newVec (κ := κ) hm h5 (vec_lit (G' := G) hl h6) fun b hb => (h7 b hb).2
  have hv : SVRep G (setAt ρ κ (ρv 0)) v (.v (.one (.row κ))) := by
    obtain ⟨k1, k2, k3⟩ := h1
    exact ⟨k1, by rw [setAt_same]; exact k2, by rw [setAt_same]; exact k3⟩
  cases hdst : o.dst with
  | none => exact ⟨G, _, h8⟩
  | some d => exact ⟨G, _, h8.put (dstB_ok hd d hdst) hv⟩

theorem runD_lend_own {K : L → List Action → Prop} {ds : List (Option Nat)} {P : Program} {f : FuncId} {o : Oper} {ys ys' : List V1} {rd rd2 : List (Loc × Cont)} {args : List PV} {sz : Nat} {et : TypeId} {rows : List (List T)} {κ : Nat} {rest : List Oper} {acts : List Action} (hp : Own P f args (.v (.one (.row 0))) sz et rows) (hc : callB P f = true) (hP : C.P = P)
    (hr : callR C ds σ o = some (f, ys, rd)) (hle : lendL σ ys = some (ys', rd2)) (hs : All2 SubV ys' args) (hl : litRow rows = true) (hk : freshKey σ (dstN o.dst) = some κ)
    (k : RunD C ds rest (applyL σ ([(.vec κ, some (.r sz et rows))] ++ wrD o.dst (.v (.one (.row κ))))) (acts ++ [⟨rd ++ rd2, [(.vec κ, some (.r sz et rows))] ++ wrD o.dst (.v (.one (.row κ))), [κ]⟩]) K) : RunD C ds (o :: rest) σ acts K := by
  subst hP
  obtain ⟨gd, rd', he, hd, hg, rfl⟩ := callR_enters hc hr
  unfold RunD
  refine guardR_sound hg (fits_lend_own hd he hp hle hs hl hk) ?_
  simpa using k
end Go.AM
set_option linter.unusedVariables false
set_option linter.unusedSimpArgs false
namespace Go.AM
open Go.RowKit
variable {C : Ctx} {σ : L}

/-! ### M10. Ranged maps and blocks, as rules -/
theorem wpOp_plain {P : Program} {ops : Array Oper} {Q : Exit → Act → World → Prop} {i : Nat} {K : Act → World → Prop} {a : Act} {w : World} {o : Oper} (ho : ops[i]? = some o) (hg : o.guard = none) (h : o.wp P a w K Q) : wpOp P ops Q i K a w := by
  unfold wpOp
  rw [ho]
  simp only [Region.wanted, hg, if_true]
  exact .inl h

theorem awp_next {R : Exit → L → Prop} {id d0 d1 κi κ clk : Nat} {ops : Array Oper} {o0 o1 : Oper} {x : Operand} {e eb : TypeId} {Q : QF} {B : Int → Int → Option Nat} {seen : List Nat} {cur : Int × Int} (hops : ops = #[o0, o1])
    (h0 : o0.op = .next x false) (g0 : o0.guard = none) (e0 : o0.dst = some d0) (h1 : o1.op = .extract (.tmp d0) 0) (g1 : o1.guard = none) (e1 : o1.dst = some d1) (hd0 : d0 < C.N) (hd1 : d1 < C.N)
    (hx : ev (look σ) x = some (.v (.one (.vptr κi 1 0 0)))) (hv : look σ (.vec κi) = some (.o (.iter clk seen cur) [κ])) (hq : look σ (.vec κ) = some (.o (.qsB e eb Q B clk) []))
    (hend : (∀ a b n, B a b = some n → n ∈ seen) → R .normal (put (put σ (.slot d0) (.s (.tup [.one (.t (.lit (.bool false)))]))) (.slot d1) (.s (sv (.bool false)))))
    (hstep : ∀ a b n, B a b = some n → n ∉ seen → R .normal (put (put (put σ (.vec κi) (.o (.iter clk (seen ++ [n]) (a, b)) [κ])) (.slot d0) (.s (.tup [.one (.t (.lit (.bool true))), .agg [.t (.lit (.int .i64 a)), .t (.lit (.int .i64 b))], .one (.slen (Q a b).length)]))) (.slot d1) (.s (sv (.bool true))))) :
    AWP C (.region id ops false) R σ := by
  intro a w ⟨G, ρ, hr⟩
  subst hops
  refine wp_region ?_
  show wpOps C.P #[o0, o1] _ [0, 1] a w
  rw [wpOps_cons]
  refine wpOp_plain (o := o0) rfl g0 ?_
  obtain ⟨_, b, n', c', q1, q2⟩ := ev_rep hx (evr_self (look σ) x) hr
  obtain ⟨b2, r, f1, f2, f3⟩ := hr.vec κi _ hv
  obtain ⟨r', M, Y, es, f, j1, j2, j3⟩ := hr.vec κ _ hq
  rw [f1] at q1
  simp at q1
  obtain ⟨rfl, rfl, rfl⟩ := q1
  simp only [List.map_cons, List.map_nil, List.cons.injEq, and_true] at f2
  rw [f.isM] at f2
  simp at f2
  subst f2
  have q3 : a.eval x = .pointer (some ⟨b2, 0, none⟩) := by simpa using q2
  -- the second operation
  have hrest : ∀ (τ : L) (a' : Act) (w' : World) (v : V1) (vs : List V1), Rel C (look τ) a' w' → look τ (.slot d0) = some (.s (.tup (v :: vs))) → R .normal (put τ (.slot d1) (.s (.v v))) →
      wpOps C.P #[o0, o1] (fun e a' w' => ∃ σ', R e σ' ∧ Rel C (look σ') a' w') [1] a' w' := by
    intro τ a' w' v vs hr' hs hR
    rw [wpOps_cons]
    refine wpOp_plain (o := o1) rfl g1 ?_
    have hok := ok_extract (C := C) (g := look τ) (o := o1) (x := .tmp d0) (ix := 0) (xs := v :: vs) (y := v) h1 (fun n hn => by rw [e1] at hn; injection hn with hn; subst hn; exact hd1) (by simp [ev, hs]) rfl
    refine hok (look τ) a' w' _ _ hr' (fun l c hl => evr_self (look τ) (.tmp d0) l c hl) (by intro κ hκ; simp at hκ) fun a2 w2 hr2 => ?_
    refine ⟨put τ (.slot d1) (.s (.v v)), hR, ?_⟩
    rw [look_put]
    simpa [wrD, e1, applys] using hr2
  rcases run_next' (P := C.P) (ty := o0.type) f3 j1 (fun y hy => j2.born y hy) with ⟨hall, hrun⟩ | ⟨en, hen, hns, nd, hrun⟩
  · unfold Oper.wp
    have hex : (execOp a.eval o0).run C.P w = .ok (.value (.tuple #[.bool false])) w := by simp [execOp, h0, q3, hrun]
    rw [hex]
    refine hrest (put σ (.slot d0) (.s (.tup [.one (.t (.lit (.bool false)))]))) _ _ (.one (.t (.lit (.bool false)))) [] ?_ (by simp [look_put, upd]) (hend ?_)
    · rw [look_put, e0]
      exact ⟨G, ρ, hr.put hd0 ⟨[.bool false], rfl, .cons ⟨rfl, .lit _⟩ .nil⟩⟩
    · intro a0 b0 n0 hB
      rw [← j3 a0 b0, Option.map_eq_some_iff] at hB
      obtain ⟨⟨val, nb⟩, hM, rfl⟩ := hB
      obtain ⟨en, k1, k2⟩ := j2.all a0 b0 _ hM
      obtain ⟨c2, d2, k3, k4⟩ := j2.key en k1
      rw [k2, pairV_inj] at k3
      obtain ⟨rfl, rfl⟩ := k3
      rw [hM] at k4
      simp only [Option.some.injEq, Prod.mk.injEq] at k4
      have := hall en k1
      rw [← k4.2] at this
      simpa using this
  · obtain ⟨a0, b0, k1, k2⟩ := j2.key en hen
    have hex : (execOp a.eval o0).run C.P w = .ok (.value (.tuple #[.bool true, en.key, en.val])) (setMap { w with drawn := nd } b2 (.mapIter (some r') clk (seen.toArray.push en.born) clk)) := by simp [execOp, h0, q3, hrun]
    unfold Oper.wp
    rw [hex]
    have hB : B a0 b0 = some en.born := by rw [← j3, k2]; rfl
    have hs := f.slot a0 b0
    obtain ⟨A, k, hsl⟩ : ∃ A k, valOf M a0 b0 = .slice A (Q a0 b0).length k := NestAt.slice hs
    have hval : en.val = .slice A (Q a0 b0).length k := by rw [← hsl]; simp [valOf, k2]
    refine hrest (put (put σ (.vec κi) (.o (.iter clk (seen ++ [en.born]) (a0, b0)) [κ])) (.slot d0) (.s (.tup [.one (.t (.lit (.bool true))), .agg [.t (.lit (.int .i64 a0)), .t (.lit (.int .i64 b0))], .one (.slen (Q a0 b0).length)]))) _ _ (.one (.t (.lit (.bool true)))) [.agg [.t (.lit (.int .i64 a0)), .t (.lit (.int .i64 b0))], .one (.slen (Q a0 b0).length)] ?_ (by simp [look_put, upd]) (hstep a0 b0 en.born hB (by simpa using hns))
    have hr0 : RelG C G ρ (look σ) a { w with drawn := nd } := { hr with vec := fun κ x hx => ContRep.same (w := w) (fun _ _ h => h) (fun _ _ => rfl) (hr.vec κ x hx) }
    have hr1 : RelG C G ρ (upd (look σ) (.vec κi) (some (.o (.iter clk (seen ++ [en.born]) (a0, b0)) [κ]))) a (setMap { w with drawn := nd } b2 (.mapIter (some r') clk (seen.toArray.push en.born) clk)) := by
      refine hr0.retag hv (w' := setMap { w with drawn := nd } b2 (.mapIter (some r') clk (seen.toArray.push en.born) clk)) rfl rfl rfl (setMap_size _ _ _) (fun b hb => setMap_other _ _ fun e => hb (.inl (by rw [f1, e]; rfl))) (fun _ _ => rfl) (fun _ _ => rfl) ?_
      refine ⟨b2, r', f1, by simp only [List.map_cons, List.map_nil]; rw [f.isM], ?_⟩
      have : (seen ++ [en.born]).toArray = seen.toArray.push en.born := by simp
      rw [this]
      exact setMap_same (w := { w with drawn := nd }) f3
    have hr2 := hr1.put (d := d0) hd0 (v := .tuple #[.bool true, en.key, en.val]) (y := .tup [.one (.t (.lit (.bool true))), .agg [.t (.lit (.int .i64 a0)), .t (.lit (.int .i64 b0))], .one (.slen (Q a0 b0).length)])
      ⟨[.bool true, en.key, en.val], rfl, .cons ⟨rfl, .lit _⟩ (.cons ⟨[.int .i64 a0, .int .i64 b0], k1, .cons ⟨rfl, .lit _⟩ (.cons ⟨rfl, .lit _⟩ .nil)⟩ (.cons ⟨by rw [hval]; rfl, A, k, hval⟩ .nil))⟩
    rw [look_put, look_put, e0]
    exact ⟨G, ρ, hr2⟩

/-- A network's queues: when each was made. -/
theorem awp_toB {c : Code} {R : Exit → L → Prop} (κ : Nat) {e eb : TypeId} {Q : QF} (hv : look σ (.vec κ) = some (.o (.qs e eb Q .none) []))
    (h : ∀ B clk, (∀ a b, B a b = none → Q a b = []) → (∀ a b n, B a b = some n → n < clk) → (∀ a b a' b' n, B a b = some n → B a' b' = some n → a = a' ∧ b = b') → AWP C c R (put σ (.vec κ) (.o (.qsB e eb Q B clk) []))) : AWP C c R σ := by
  intro a w ⟨G, ρ, hr⟩
  obtain ⟨r, M, Y, f⟩ := hr.vec κ _ hv
  obtain ⟨es, clk, h1, h2⟩ := f.map
  have hget : ∀ x y n, (M x y).map (·.2) = some n → ∃ en, en ∈ es.toList ∧ en.key = pairV x y ∧ en.born = n := by
    intro x y n hB
    rw [Option.map_eq_some_iff] at hB
    obtain ⟨⟨val, nb⟩, hM, rfl⟩ := hB
    obtain ⟨en, k1, k2⟩ := h2.all x y _ hM
    obtain ⟨c2, d2, k3, k4⟩ := h2.key en k1
    have k2' := k2
    rw [k2, pairV_inj] at k3
    obtain ⟨rfl, rfl⟩ := k3
    rw [hM] at k4
    simp only [Option.some.injEq, Prod.mk.injEq] at k4
    exact ⟨en, k1, k2', k4.2.symm⟩
  refine h (fun a b => (M a b).map (·.2)) clk (fun x y hB => ?_) (fun x y n hB => ?_) (fun x y x' y' n hB hB' => ?_) a w ⟨G, ρ, ?_⟩
  · have hs : NestAt w e eb (Q x y) none (valOf M x y) (Y x y) [] := f.slot x y
    simp only [Option.map_eq_none_iff] at hB
    have hval : valOf M x y = .slice none 0 0 := by simp [valOf, hB]
    rw [hval] at hs
    obtain ⟨A, k, e1⟩ := hs.slice
    simp at e1
    exact List.eq_nil_of_length_eq_zero e1.2.1.symm
  · obtain ⟨en, k1, _, k3⟩ := hget x y n hB
    rw [← k3]; exact h2.born en k1
  · obtain ⟨en, k1, k2, k3⟩ := hget x y n hB
    obtain ⟨en', k1', k2', k3'⟩ := hget x' y' n hB'
    have := born_inj (List.pairwise_map.2 h2.bnodup) k1 k1' (by rw [k3, k3'])
    subst this
    rw [k2, pairV_inj] at k2'
    exact k2'
  · rw [look_put]
    exact hr.retag hv rfl rfl rfl rfl (fun _ _ => rfl) (fun _ _ => rfl) (fun _ _ => rfl) ⟨r, M, Y, es, f, h1, h2, fun _ _ => rfl⟩
theorem Imp.fromB (κ : Nat) {e eb : TypeId} {Q : QF} {B : Int → Int → Option Nat} {clk : Nat} {τ : L} (hv : look σ (.vec κ) = some (.o (.qsB e eb Q B clk) [])) (he : put σ (.vec κ) (.o (.qs e eb Q .none) []) = τ) : Imp C σ τ := by
  subst he
  intro a w ⟨G, ρ, hr⟩
  obtain ⟨r, M, Y, es, f, _⟩ := hr.vec κ _ hv
  refine ⟨G, ρ, ?_⟩
  rw [look_put]
  exact hr.retag hv rfl rfl rfl rfl (fun _ _ => rfl) (fun _ _ => rfl) (fun _ _ => rfl) ⟨r, M, Y, f⟩

/-- A block's cells, told otherwise. -/
theorem Imp.memF (κ : Nat) {e : TypeId} {n : Nat} {f : Nat → Value} (f' : Nat → Value) {h : Option Nat} {ks : List Nat} {τ : L} (hv : look σ (.vec κ) = some (.o (.mem e n f h) ks)) (hf : ∀ i, i < n → h ≠ some i → f i = f' i) (he : put σ (.vec κ) (.o (.mem e n f' h) ks) = τ) : Imp C σ τ := by
  subst he
  intro a w ⟨G, ρ, hr⟩
  obtain ⟨b, c, h1, h2⟩ := hr.vec κ _ hv
  refine ⟨G, ρ, ?_⟩
  rw [look_put]
  exact hr.retag hv rfl rfl rfl rfl (fun _ _ => rfl) (fun _ _ => rfl) (fun _ _ => rfl) ⟨b, c, h1, h2.heap, h2.size, fun i hi hne => by rw [← hf i hi hne]; exact h2.cell i hi hne, h2.hole⟩

/-- A cell with a nil slice is given a row of its own. -/
theorem Imp.memHole (κ κl i sz : Nat) (et : TypeId) {e : TypeId} {n : Nat} {f : Nat → Value} {τ : L} (hv : look σ (.vec κ) = some (.o (.mem e n f none) [])) (hi : i < n) (hf : f i = .slice none 0 0) (hn : notIn κl (keysL σ) = true) (hB : κl < keyB)
    (he : put (put σ (.vec κl) (.r sz et [])) (.vec κ) (.o (.mem e n f (some i)) [κl]) = τ) : Imp C σ τ := by
  subst he
  intro a w ⟨G, ρ, hr⟩
  have hm := fresh_not hn hB
  have h1 := hr.newVec (κ := κl) hm (Grew.refl w) (v := .slice none 0 0) (sz := sz) (e := et) (rows := []) ⟨by simp, [], World.ownsRow_nil w 0 et sz, by simp⟩ (by simp [blk])
  have hne : κ ≠ κl := by rintro rfl; exact hm (.inr ⟨_, _, hv, .inl rfl⟩)
  have hv1 : upd (look σ) (.vec κl) (some (.r sz et [])) (.vec κ) = some (.o (.mem e n f none) []) := by rw [upd_ne _ _ (by simpa using hne)]; exact hv
  obtain ⟨b, c, g1, g2⟩ := h1.vec κ _ hv1
  refine ⟨G, setAt ρ κl (.slice none 0 0), ?_⟩
  rw [look_put, look_put]
  refine h1.retag hv1 rfl rfl rfl rfl (fun _ _ => rfl) (fun _ _ => rfl) (fun _ _ => rfl) ⟨b, c, g1, g2.heap, g2.size, fun j hj _ => g2.cell j hj (by simp), fun j hj => ?_⟩
  simp only [Option.some.injEq] at hj
  subst hj
  have := g2.cell i hi (by simp)
  refine ⟨hi, .slice none 0 0, by rw [this.1, hf], ?_, none, 0, 0, rfl⟩
  simp only [List.map_cons, List.map_nil, setAt_same]
end Go.AM
