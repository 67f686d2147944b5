import Derived.Test.YtbohgpdpglfepaaU20
set_option maxHeartbeats 4000000
set_option maxRecDepth 10000
set_option linter.unusedVariables false
set_option linter.unusedSimpArgs false
namespace Go.Proofs.Ytbohgpdpglfepaa
open Go.AM Go.RowKit
attribute [local irreducible] AWP thenL blockL AM.Leaves LeavesO RunD
attribute [local go_sem] runs stepR actF inF frzA frzW lastW act act1 actPick actNil actBin
  actUn actConv actExtract actFieldAddr actField actAlloc keysOf actBox actLoad treesOf actStore actIndex
  actLen actMx srcL actAppend actMake actBuild actBuildSlice boundL actSlice actCall actEqS isStruct
  isSlice actText actCopy litsOf kindsOK fieldsPlain eqAll eqop dstB dstN boolS litB
  litV sv binv unv lits takeC cellsR trees cellsW mxv repl parts
  fillAt fillRows V1.cs mkV ev evr AM.look put del applyL delD wrD
  undefS SV.to V1.to At.to keysL notIn freshKey PV.up PR.up entry entryV evp
  isAt actPtrNil capsL actFunc sameV sameVs pureCtx doc mkVar AM.Loc.key Cont.keys SV.keys
  V1.keys At.keys Cont.sub SV.sub V1.sub At.sub guardR argsL callR Nat.blt_eq Nat.blt Nat.ble
  Nat.beq_eq_true_eq beq_self_eq_true Array.toList List.map List.append_eq List.nil_append List.cons_append List.append_nil List.append_assoc Bool.and_eq_true decide_true decide_false
  decide_eq_true_eq Bool.not_true Bool.not_false reduceCtorEq if_true if_false ite_true ite_false reduceIte AM.Loc.slot.injEq AM.Loc.cell.injEq AM.Loc.vec.injEq
  List.getElem?_cons_zero List.getElem?_cons_succ List.getElem?_nil Option.map_some Option.map_none Option.toList List.flatMap_nil List.flatMap_cons Bool.and_true Bool.true_and Bool.and_false Bool.false_and
  Bool.true_eq_false Bool.false_eq_true Nat.reduceBEq Nat.reduceEqDiff bool_beq_tt bool_beq_ff bool_beq_tf bool_beq_ft List.length_cons List.length_nil List.drop List.take
  List.drop_zero List.take_zero List.all_cons List.all_nil Value.oneCell' Nat.zero_add Nat.reduceAdd Nat.reduceMul Nat.reduceSub Nat.reduceLT Nat.reduceLeDiff Int.reduceLT
  Int.reduceLE Int.reduceEq Int.reduceBEq Int.reduceBNe Int.reduceAdd Int.reduceSub Int.reduceMul Int.reduceNeg Int.reduceToNat Nat.succ_ne_zero List.replicate and_true
  true_and and_false false_and and_self ge_iff_le gt_iff_lt bne_self_eq_false List.zip_cons_cons List.zip_nil_left List.zip List.zipWith Int.natCast_nonneg
  Int.toNat_natCast List.getElem?_map List.length_map sT sI sB sR sP rV AllIn Int.toNat_zero Int.ofNat_zero
  Int.natCast_zero Nat.le_refl List.mapM_cons List.mapM_nil Option.bind_eq_bind Option.bind_some Option.pure_def List.set_cons_zero List.set_cons_succ List.length_set tt2 tt3
  tt4 tt5 tt9 tt12 tt21 tt22 tt23 tt24 tt25 tt36 tt37 tt43
  tt44 tt51 tt52 tt53 tt59 tt67 tt68 tt69 tt74 tt75 tt76 tt77
  tt78 tt79 tt89 tt92 tt95 tt96 tt97 tt98 tt99 tt102 tt103 tt106
  tt107 tt108 tt114 tt115 tt116 tt117 tt118 tt119 tt120 tt122 tt124 tt125
  tt126 tt127 tt130 tt131 tt132 tt133 tt134 tt135 tt137 tt138 tt139 tt147
  tt148 tt149 tt159 tt164 tt165 tt167 tt168 tt169 tt170 tt171 tt190 tt191
  tt194 tt200 tt208 tt212
attribute [local go_sem] vlit bal rInt rBool vInts pInts vvInts vPairs att vAtts vBy cm iv vvBy av lI lB

def inK (κ : Nat) (x : IN) : L := [(.cell κ 0, .c (lI x.r)), (.cell κ 1, .c (lI x.n)), (.cell κ 2, .c (lI x.st)), (.cell κ 3, .c (lI x.p1)), (.cell κ 4, .c (lI x.p2)), (.cell κ 5, .c (lI x.v1)), (.cell κ 6, .c (lI x.v2)), (.cell κ 7, .c (lI x.k)), (.cell κ 8, .c (.t (.lit (.string x.h)))), (.cell κ 9, .c (.t (vBy x.c))), (.cell κ 10, .c (lI x.s)), (.cell κ 11, .c (.t (vInts x.d))), (.cell κ 12, .c (lB x.same))]
attribute [local go_sem] inK

theorem doR_ok {x : IN} (hx : x.ok) {a : AK} (ha : a.ok) : (doR x a).1.ok := by
  obtain ⟨h1, h2⟩ := hx
  obtain ⟨g1, g2, g3⟩ := ha
  unfold doR paR acR coR prR
  repeat' split
  all_goals first
    | exact ⟨h1, h2⟩
    | exact ⟨by simp only [acX]; omega, by simp only [acX]; omega⟩
    | exact ⟨by simp only [paX]; omega, by simp only [paX, mxL, List.length_zipWith]; omega⟩
    | exact ⟨by simp only; omega, by simp only; omega⟩

theorem less_irrefl (a b : Int) : less a b a b = false := by simp [less]
theorem goB_self {x : IN} {b1 b2 : Int} (h : goB x b1 b2 = true) {y : IN} (h1 : y.p1 = b1) (h2 : y.p2 = b2) : goB y b1 b2 = true := by
  simp only [goB, Bool.and_eq_true] at h ⊢
  exact ⟨h.1, by rw [h1, h2, less_irrefl]; rfl⟩

theorem doR_again (x : IN) (a : AK) : doR (doR x a).1 a = doR x a := by
  obtain ⟨w, b1, b2, k, h, c, s, d, s', d'⟩ := a
  by_cases h1 : w = 1
  · have e : ∀ z, doR z ⟨w, b1, b2, k, h, c, s, d, s', d'⟩ = paR z b1 b2 k h c s d s' d' := fun z => by simp [doR, h1]
    rw [e, e]
    unfold paR
    by_cases g : (jaOK [(s, d), (s', d')] && (goB x b1 b2 && asK k s d) && !(x.st == 3) && !(x.st == 2 && vIs x b1 b2)) = true
    · rw [if_pos g]
      by_cases g2 : (x.st == 1 && vIs x b1 b2) = true
      · rw [if_pos g2]
        simp only [if_pos g, if_pos g2]
      · rw [if_neg g2]
        simp only [Bool.and_eq_true] at g
        have e1 : goB (paX x b1 b2 k h c s d (mx2 s s') (mxL d d') (mx2 s s' == s && decide (mxL d d' = d))) b1 b2 = true := goB_self g.1.1.2.1 rfl rfl
        simp [g.1.1.1, g.1.1.2.2, paX, vIs]
        exact e1
    · rw [if_neg g]
      simp only [if_neg g]
  by_cases h2 : w = 2
  · have e : ∀ z, doR z ⟨w, b1, b2, k, h, c, s, d, s', d'⟩ = acR z b1 b2 k h c s d := fun z => by simp [doR, h2]
    rw [e, e]
    unfold acR
    by_cases g : (goB x b1 b2 && asK k s d && !(x.st == 3)) = true
    · have e2 := g
      simp only [Bool.and_eq_true] at g
      have e1 : goB (acX x b1 b2 k h c s d) b1 b2 = true := goB_self g.1.1 rfl rfl
      rw [if_pos e2]
      simp only [e1, g.1.2]
      simp [acX, g.1.1, g.1.2, g.2]
    · rw [if_neg g]
      simp only [if_neg g]
  by_cases h3 : w = 3
  · have e : ∀ z, doR z ⟨w, b1, b2, k, h, c, s, d, s', d'⟩ = coR z k h c s d := fun z => by simp [doR, h3]
    rw [e, e]
    unfold coR
    by_cases g : (asK k s d && !(x.st == 3)) = true
    · rw [if_pos g]
      simp only [Bool.and_eq_true] at g
      simp [g.1]
    · rw [if_neg g]
      simp only [if_neg g]
  by_cases h4 : w = 4
  · have e : ∀ z, doR z ⟨w, b1, b2, k, h, c, s, d, s', d'⟩ = prR z b1 b2 := fun z => by simp [doR, h4]
    rw [e, e]
    unfold prR
    by_cases g : goB x b1 b2 = true
    · rw [if_pos g]
      have e1 : goB { x with p1 := b1, p2 := b2 } b1 b2 = true := goB_self g rfl rfl
      simp [e1, g]
    · rw [if_neg g]
      simp only [if_neg g]
  · have e : ∀ z, doR z ⟨w, b1, b2, k, h, c, s, d, s', d'⟩ = (z, true) := fun z => by simp [doR, h1, h2, h3, h4]
    rw [e, e]

/-- What is promised is not less than what was voted for. -/
def pvOK (x : IN) : Prop := less x.p1 x.p2 x.v1 x.v2 = false
theorem doR_forward {x : IN} (hp : pvOK x) (a : AK) : pvOK (doR x a).1 ∧ less (doR x a).1.p1 (doR x a).1.p2 x.p1 x.p2 = false ∧ less (doR x a).1.v1 (doR x a).1.v2 x.v1 x.v2 = false ∧
    ((x.st == 3) = true → ∃ q1 q2, (doR x a).1 = { x with p1 := q1, p2 := q2 }) ∧ ((x.st == 2) = true → ((doR x a).1.st == 1) = true → less x.v1 x.v2 (doR x a).1.v1 (doR x a).1.v2 = true) := by
  have refl : ∀ y : IN, y = x → pvOK y ∧ less y.p1 y.p2 x.p1 x.p2 = false ∧ less y.v1 y.v2 x.v1 x.v2 = false ∧ ((x.st == 3) = true → ∃ q1 q2, y = { x with p1 := q1, p2 := q2 }) ∧ ((x.st == 2) = true → (y.st == 1) = true → less x.v1 x.v2 y.v1 y.v2 = true) := by
    rintro y rfl
    refine ⟨hp, less_irrefl _ _, less_irrefl _ _, fun _ => ⟨y.p1, y.p2, rfl⟩, fun h1 h2 => ?_⟩
    simp only [beq_iff_eq] at h1 h2
    omega
  obtain ⟨w, b1, b2, k, h, c, s, d, s', d'⟩ := a
  have hge : goB x b1 b2 = true → less b1 b2 x.p1 x.p2 = false ∧ less b1 b2 x.v1 x.v2 = false ∧ (vIs x b1 b2 = false → less x.v1 x.v2 b1 b2 = true) := by
    intro hg
    simp only [goB, Bool.and_eq_true, Bool.not_eq_true'] at hg
    obtain ⟨_, hg⟩ := hg
    simp only [pvOK, less, vIs, Bool.or_eq_false_iff, Bool.and_eq_false_imp, decide_eq_false_iff_not, beq_iff_eq, Bool.or_eq_true, Bool.and_eq_true, decide_eq_true_eq, beq_eq_false_iff_ne] at hg hp ⊢
    refine ⟨hg, ⟨by omega, fun e => by omega⟩, fun e => ?_⟩
    by_cases h1 : x.v1 = b1
    · have := e h1
      have h2 := hg.2
      have h3 := hp.2
      right
      refine ⟨h1, ?_⟩
      by_cases h4 : x.p1 = x.v1
      · have := h3 h4
        have := h2 (by omega)
        omega
      · omega
    · left; omega
  by_cases h1 : w = 1
  · have e : doR x ⟨w, b1, b2, k, h, c, s, d, s', d'⟩ = paR x b1 b2 k h c s d s' d' := by simp [doR, h1]
    rw [e]
    unfold paR
    split
    · rename_i g
      split
      · exact refl _ rfl
      · rename_i g2
        simp only [Bool.and_eq_true, Bool.not_eq_true'] at g
        obtain ⟨⟨⟨g1, g2, g3⟩, g4⟩, g5⟩ := g
        obtain ⟨f1, f2, f3⟩ := hge g2
        refine ⟨less_irrefl _ _, f1, f2, fun h => ?_, fun h _ => f3 ?_⟩
        · rw [h] at g4; simp at g4
        · simpa [h] using g5
    · exact refl _ rfl
  by_cases h2 : w = 2
  · have e : doR x ⟨w, b1, b2, k, h, c, s, d, s', d'⟩ = acR x b1 b2 k h c s d := by simp [doR, h2]
    rw [e]
    unfold acR
    split
    · rename_i g
      simp only [Bool.and_eq_true, Bool.not_eq_true'] at g
      obtain ⟨f1, f2, f3⟩ := hge g.1.1
      refine ⟨less_irrefl _ _, f1, f2, fun h => ?_, fun _ h => ?_⟩
      · rw [h] at g; simp at g
      · simp [acX] at h
    · exact refl _ rfl
  by_cases h3 : w = 3
  · have e : doR x ⟨w, b1, b2, k, h, c, s, d, s', d'⟩ = coR x k h c s d := by simp [doR, h3]
    rw [e]
    unfold coR
    split
    · rename_i g
      simp only [Bool.and_eq_true, Bool.not_eq_true'] at g
      refine ⟨hp, less_irrefl _ _, less_irrefl _ _, fun h => ?_, fun _ h => ?_⟩
      · rw [h] at g; simp at g
      · simp at h
    · exact refl _ rfl
  by_cases h4 : w = 4
  · have e : doR x ⟨w, b1, b2, k, h, c, s, d, s', d'⟩ = prR x b1 b2 := by simp [doR, h4]
    rw [e]
    unfold prR
    split
    · rename_i g
      obtain ⟨f1, f2, f3⟩ := hge g
      refine ⟨f2, f1, less_irrefl _ _, fun _ => ⟨b1, b2, rfl⟩, fun h h' => ?_⟩
      simp only [beq_iff_eq] at h h'
      omega
    · exact refl _ rfl
  · have e : doR x ⟨w, b1, b2, k, h, c, s, d, s', d'⟩ = (x, true) := by simp [doR, h1, h2, h3, h4]
    rw [e]
    exact refl _ rfl

def in0 (r n : Int) : IN := ⟨r, n, 0, 0, 0, 0, 0, 0, ⟨#[]⟩, [], 0, [], false⟩
theorem in0_ok (r n : Int) : (in0 r n).ok := ⟨by simp [in0], by simp [in0]⟩
def vAsk (asks : List AK) : T := .sl 10 (asks.map av)
attribute [local go_sem] vAsk

theorem c17 (r n : Int) (asks : List AK) (hn : asks.length ≤ 4611686018427387903) (ha : ∀ a, a ∈ asks → a.ok) : Pure Try.prog 17 [.agg [.lit (.int .i64 r), .lit (.int .i64 n)], .one (vAsk asks)] (rBool true) := by
  refine pure_of_body Try.func17 rfl (by simp [Try.f17]) ?_; rw [Try.ntmps17, Try.results17]; intro w0 G0
  (repeat' (first | refine thenL_n ?_ | refine thenL_r ?_ | refine thenL_x ?_ | refine blockL_n ?_ | refine blockL_r ?_ | refine blockL_x ?_ | refine blockL_y rfl ?_ | refine awp_seq ?_ | refine awp_block ?_ | refine awp_ret ?_ | refine awp_exit ?_ | refine awp_skip ?_ | exact absurd hcond (by decide) | (first | (refine awp_txt ?_; refine runs_to [] (by simp only [go_sem]; rfl) ?_) | (refine awp_draw mixed ?_; refine runs_to [] (by simp only [go_sem]; rfl) ?_)) | refine runD_nil ⟨by kernel_rfl, ?_⟩ | refine runD_nil ?_ | (refine awp_cond (b := _) (by simp only [go_sem, evB]; rfl) (fun hcond => ?_) (fun hcond => ?_))))
  refine awp_loop (fun p : Nat × IN => [(.slot 5, sP 5)] ++ inK 5 p.2 ++ [(.slot 14, sT (vAsk asks)), (.slot 15, sI asks.length), (.slot 16, sI p.1)]) (fun p => p.1 ≤ asks.length ∧ p.2.ok) (fun p => asks.length - p.1) (0, in0 r n) ⟨Nat.zero_le _, in0_ok r n⟩ (Imp.trans (Imp.coeC 5 9 1 (by simp only [go_sem])) (Imp.trans (Imp.coeC 5 11 1 (by simp only [go_sem])) (by refine Imp.of_in ?_; simp only [go_sem, in0]))) ?_
  rintro ⟨i, x⟩ ⟨hi, hx⟩
  simp only at hi hx
  simp only [inK, List.cons_append, List.nil_append]
  by_cases hlt : (i : Int) < asks.length
  · have hil : i < asks.length := by omega
    have hxi : asks[i]? = some asks[i] := List.getElem?_eq_getElem hil
    have hmem : asks[i] ∈ asks := List.getElem_mem _
    generalize asks[i] = a at hxi hmem
    have hao := ha a hmem
    have hok := doR_ok hx hao
    have hw := up i (by omega)
    have k1 := c76 x hx a hao
    have k2 := c76 (doR x a).1 hok a hao
    rw [doR_again] at k2
    generalize doR x a = y at k1 k2 hok
    obtain ⟨y, b⟩ := y
    simp only at k1 k2 hok
    have kw76 := k1
    have kww76 := k2
    have kw78 := c78 y (by have := hok.d; omega)
    have hbb : (b != b) = false := by simp
    (repeat' (first | refine thenL_n ?_ | refine thenL_r ?_ | refine thenL_x ?_ | refine blockL_n ?_ | refine blockL_r ?_ | refine blockL_x ?_ | refine blockL_y rfl ?_ | refine awp_seq ?_ | refine awp_block ?_ | refine awp_ret ?_ | refine awp_exit ?_ | refine awp_skip ?_ | exact absurd hcond (by decide) | (first | (refine awp_txt ?_; refine runs_to [] (by simp only [go_sem, hlt, hil, hxi, hw, hbb]; rfl) ?_) | (refine awp_draw mixed ?_; refine runs_to [] (by simp only [go_sem, hlt, hil, hxi, hw, hbb]; rfl) ?_)) | refine runD_nil ⟨by kernel_rfl, ?_⟩ | refine runD_nil ?_ | (refine runD_call (kw76) cb76 (by rfl) (by simp only [go_sem, hlt, hil, hxi, hw, hbb]; rfl) (by ((repeat' (first | exact All2.nil | refine All2.cons ?_ ?_ | exact SubV.one (SubT.same _) | exact SubV.one (SubT.nil _) | refine SubV.agg ?_ | exact SubT.same _ | exact SubT.nil _)); first | done | fail)) ?_; refine runs_to [] (by simp only [go_sem, hlt, hil, hxi, hw, hbb]; rfl) ?_) | (refine runD_call (kww76) cb76 (by rfl) (by simp only [go_sem, hlt, hil, hxi, hw, hbb]; rfl) (by ((repeat' (first | exact All2.nil | refine All2.cons ?_ ?_ | exact SubV.one (SubT.same _) | exact SubV.one (SubT.nil _) | refine SubV.agg ?_ | exact SubT.same _ | exact SubT.nil _)); first | done | fail)) ?_; refine runs_to [] (by simp only [go_sem, hlt, hil, hxi, hw, hbb]; rfl) ?_) | (refine runD_call (c75 _) cb75 (by rfl) (by simp only [go_sem, hlt, hil, hxi, hw, hbb]; rfl) (by ((repeat' (first | exact All2.nil | refine All2.cons ?_ ?_ | exact SubV.one (SubT.same _) | exact SubV.one (SubT.nil _) | refine SubV.agg ?_ | exact SubT.same _ | exact SubT.nil _)); first | done | fail)) ?_; refine runs_to [] (by simp only [go_sem, hlt, hil, hxi, hw, hbb]; rfl) ?_) | (refine runD_call (kw78) cb78 (by rfl) (by simp only [go_sem, hlt, hil, hxi, hw, hbb]; rfl) (by ((repeat' (first | exact All2.nil | refine All2.cons ?_ ?_ | exact SubV.one (SubT.same _) | exact SubV.one (SubT.nil _) | refine SubV.agg ?_ | exact SubT.same _ | exact SubT.nil _)); first | done | fail)) ?_; refine runs_to [] (by simp only [go_sem, hlt, hil, hxi, hw, hbb]; rfl) ?_) | (refine awp_cond (b := _) (by simp only [go_sem, evB, hlt, hil, hxi, hw, hbb]; rfl) (fun hcond => ?_) (fun hcond => ?_))))
    refine ⟨(i + 1, y), ⟨by simp only; omega, hok⟩, by simp only; omega, (by refine Imp.of_in ?_; simp only [go_sem])⟩
  · ((repeat' (first | refine thenL_n ?_ | refine thenL_r ?_ | refine thenL_x ?_ | refine blockL_n ?_ | refine blockL_r ?_ | refine blockL_x ?_ | refine blockL_y rfl ?_ | refine awp_seq ?_ | refine awp_block ?_ | refine awp_ret ?_ | refine awp_exit ?_ | refine awp_skip ?_ | exact absurd hcond (by decide) | (first | (refine awp_txt ?_; refine runs_to [] (by simp only [go_sem, hlt]; rfl) ?_) | (refine awp_draw mixed ?_; refine runs_to [] (by simp only [go_sem, hlt]; rfl) ?_)) | refine runD_nil ⟨by kernel_rfl, ?_⟩ | refine runD_nil ?_ | (refine runD_call (c57) cb57 (by rfl) (by simp only [go_sem, hlt]; rfl) (by ((repeat' (first | exact All2.nil | refine All2.cons ?_ ?_ | exact SubV.one (SubT.same _) | exact SubV.one (SubT.nil _) | refine SubV.agg ?_ | exact SubT.same _ | exact SubT.nil _)); first | done | fail)) ?_; refine runs_to [] (by simp only [go_sem, hlt]; rfl) ?_) | (refine awp_cond (b := _) (by simp only [go_sem, evB, hlt]; rfl) (fun hcond => ?_) (fun hcond => ?_)))); all_goals (refine leaves_ok (by first | exact Or.inl rfl | exact Or.inr rfl) (by simp only [go_sem, resAll, resL, packL, vecsOf, freezeAll, freezeL, hlt]; rfl) ?_; (first | refine SubR.v ?_ | refine SubR.tup ?_); ((repeat' (first | exact All2.nil | refine All2.cons ?_ ?_ | exact SubV.one (SubT.same _) | exact SubV.one (SubT.nil _) | refine SubV.agg ?_ | exact SubT.same _ | exact SubT.nil _)); first | done | fail)))
end Go.Proofs.Ytbohgpdpglfepaa
