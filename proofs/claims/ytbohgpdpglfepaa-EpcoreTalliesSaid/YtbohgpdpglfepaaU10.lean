import Derived.Test.YtbohgpdpglfepaaU9
set_option maxHeartbeats 4000000
set_option maxRecDepth 10000
set_option linter.unusedVariables false
set_option linter.unusedSimpArgs false
namespace Go.Proofs.Ytbohgpdpglfepaa
open Go.AM Go.RowKit
attribute [local irreducible] AWP thenL blockL AM.Leaves LeavesO RunD
attribute [local go_sem] runs stepR actF inF frzA frzW lastW act act1 actPick actNil actBin
  actUn actConv actExtract actFieldAddr actField actAlloc keysOf actBox actLoad treesOf actStore actIndex
  actLen actMx srcL actAppend actMake actBuild actBuildSlice boundL actSlice actCall actEqS isStruct
  isSlice actText actCopy litsOf kindsOK fieldsPlain eqAll eqop dstB dstN boolS litB
  litV sv binv unv lits takeC cellsR trees cellsW mxv repl parts
  fillAt fillRows V1.cs mkV ev evr AM.look put del applyL delD wrD
  undefS SV.to V1.to At.to keysL notIn freshKey PV.up PR.up entry entryV evp
  isAt actPtrNil capsL actFunc sameV sameVs pureCtx doc mkVar AM.Loc.key Cont.keys SV.keys
  V1.keys At.keys Cont.sub SV.sub V1.sub At.sub guardR argsL callR Nat.blt_eq Nat.blt Nat.ble
  Nat.beq_eq_true_eq beq_self_eq_true Array.toList List.map List.append_eq List.nil_append List.cons_append List.append_nil List.append_assoc Bool.and_eq_true decide_true decide_false
  decide_eq_true_eq Bool.not_true Bool.not_false reduceCtorEq if_true if_false ite_true ite_false reduceIte AM.Loc.slot.injEq AM.Loc.cell.injEq AM.Loc.vec.injEq
  List.getElem?_cons_zero List.getElem?_cons_succ List.getElem?_nil Option.map_some Option.map_none Option.toList List.flatMap_nil List.flatMap_cons Bool.and_true Bool.true_and Bool.and_false Bool.false_and
  Bool.true_eq_false Bool.false_eq_true Nat.reduceBEq Nat.reduceEqDiff bool_beq_tt bool_beq_ff bool_beq_tf bool_beq_ft List.length_cons List.length_nil List.drop List.take
  List.drop_zero List.take_zero List.all_cons List.all_nil Value.oneCell' Nat.zero_add Nat.reduceAdd Nat.reduceMul Nat.reduceSub Nat.reduceLT Nat.reduceLeDiff Int.reduceLT
  Int.reduceLE Int.reduceEq Int.reduceBEq Int.reduceBNe Int.reduceAdd Int.reduceSub Int.reduceMul Int.reduceNeg Int.reduceToNat Nat.succ_ne_zero List.replicate and_true
  true_and and_false false_and and_self ge_iff_le gt_iff_lt bne_self_eq_false List.zip_cons_cons List.zip_nil_left List.zip List.zipWith Int.natCast_nonneg
  Int.toNat_natCast List.getElem?_map List.length_map sT sI sB sR sP rV AllIn Int.toNat_zero Int.ofNat_zero
  Int.natCast_zero Nat.le_refl List.mapM_cons List.mapM_nil Option.bind_eq_bind Option.bind_some Option.pure_def List.set_cons_zero List.set_cons_succ List.length_set tt2 tt3
  tt4 tt5 tt9 tt12 tt21 tt22 tt23 tt24 tt25 tt36 tt37 tt43
  tt44 tt51 tt52 tt53 tt59 tt67 tt68 tt69 tt74 tt75 tt76 tt77
  tt78 tt79 tt89 tt92 tt95 tt96 tt97 tt98 tt99 tt102 tt103 tt106
  tt107 tt108 tt114 tt115 tt116 tt117 tt118 tt119 tt120 tt122 tt124 tt125
  tt126 tt127 tt130 tt131 tt132 tt133 tt134 tt135 tt137 tt138 tt139 tt147
  tt148 tt149 tt159 tt164 tt165 tt167 tt168 tt169 tt170 tt171 tt190 tt191
  tt194 tt200 tt208 tt212
attribute [local go_sem] vlit bal rInt rBool vInts pInts vvInts vPairs att vAtts lI lB vK tK dK pOne vAn

/-- The attributes, with one's own ahead. -/
def allOf (s : Int) (d : List Int) (ps : List AN) : List At2 := (s, d) :: atsOf ps
def sameOf (first : Bool) (ps : List AN) : Bool := first && ps.all (·.m)
structure ChS (n s : Int) (d : List Int) (first : Bool) (ps : List AN) (late : Bool) (k S : Int) (D : T) : Prop where
  few : (ps.length : Int) + 1 < maj n → k = 0 ∧ S = 0 ∧ D = .lit (.slice none 0 0)
  mix : ¬ (ps.length : Int) + 1 < maj n → sameOf first ps = false → k = 2 ∧ S = jaS (allOf s d ps) ∧ D = vInts (jaD (allOf s d ps))
  fst : ¬ (ps.length : Int) + 1 < maj n → sameOf first ps = true → fast n ≤ (ps.length : Int) + 1 → k = 1 ∧ S = s ∧ D = vInts d
  lat : ¬ (ps.length : Int) + 1 < maj n → sameOf first ps = true → ¬ fast n ≤ (ps.length : Int) + 1 → late = true → k = 2 ∧ S = s ∧ D = vInts d
  wait : ¬ (ps.length : Int) + 1 < maj n → sameOf first ps = true → ¬ fast n ≤ (ps.length : Int) + 1 → late = false → k = 0 ∧ S = 0 ∧ D = .lit (.slice none 0 0)

theorem s67 (n me s : Int) (d : List Int) (first : Bool) (ps : List AN) (late : Bool) (k S : Int) (D : T) (hp : ps.length ≤ 100) (hj : jaOK (allOf s d ps) = true) (h : ChS n s d first ps late k S D) : Does Try.prog 67 [.one (.ptr 100000 0), .one (lB late)] (dK 100000 100001 n me s d first ps) (.tup [.one (lI k), .agg [lI S, .t D]]) (dK 100000 100001 n me s d first ps) := by
  have hwl : IntKind.i64.wrap ((ps.length : Int) + 1) = (ps.length : Int) + 1 := IntWalk.i64_in _ ⟨by omega, by omega⟩
  by_cases h1 : (ps.length : Int) + 1 < maj n
  · obtain ⟨rfl, rfl, rfl⟩ := h.few h1
    refine does_of_body Try.func67 rfl (by simp [Try.f67]) rfl rfl ?_; rw [Try.ntmps67, Try.results67]; intro w0 G0 ρ0
    ((repeat' (first | refine thenL_n ?_ | refine thenL_r ?_ | refine thenL_x ?_ | refine blockL_n ?_ | refine blockL_r ?_ | refine blockL_x ?_ | refine blockL_y rfl ?_ | refine awp_seq ?_ | refine awp_block ?_ | refine awp_ret ?_ | refine awp_exit ?_ | refine awp_skip ?_ | exact absurd hcond (by decide) | (refine awp_txt ?_; refine runs_to [] (by simp only [go_sem, hwl, h1]; rfl) ?_) | (refine awp_draw mixed ?_; refine runs_to [] (by simp only [go_sem, hwl, h1]; rfl) ?_) | refine runD_nil ⟨by kernel_rfl, ?_⟩ | refine runD_nil ?_ | (refine runD_call (c52 _) cb52 (by rfl) (by simp only [go_sem, hwl, h1]; rfl) (by ((repeat' (first | exact All2.nil | refine All2.cons ?_ ?_ | exact SubV.one (SubT.same _) | exact SubV.one (SubT.nil _) | refine SubV.agg ?_ | exact SubT.same _ | exact SubT.nil _)); first | done | fail)) ?_; refine runs_to [] (by simp only [go_sem, hwl, h1]; rfl) ?_) | (refine awp_cond (b := _) (by simp only [go_sem, evB, hwl, h1]; rfl) (fun hcond => ?_) (fun hcond => ?_)))); all_goals (refine leavesD_ok (by first | exact Or.inl rfl | exact Or.inr rfl) (Imp.refl _) (by simp only [go_sem, resAll, resL, hwl, h1]; rfl) (by simp only [packL]; (first | refine SubS.v ?_ | refine SubS.tup ?_); ((repeat' (first | exact All2.nil | refine All2.cons ?_ ?_ | exact SubW.one (SubA.same _) | exact SubW.one (SubA.nil _) | exact SubW.one (SubA.ptr _) | refine SubW.agg ?_ | exact SubA.same _ | exact SubA.nil _ | exact SubA.ptr _)); first | done | fail)) (by simp only [go_sem, hwl, h1]; repeat' (first | exact trivial | refine And.intro rfl ?_))))
  have hmix := h.mix h1
  have hfast := h.fst h1
  have hlate := h.lat h1
  have hwait := h.wait h1
  have k50 := c50 (allOf s d ps) (by simp [allOf, atsOf]; omega) (fun a ha => by have := vecOK_len (attOK_vec (jaOK_mem hj ha)); omega)
  rw [jaR, if_pos hj] at k50
  refine does_of_body Try.func67 rfl (by simp [Try.f67]) rfl rfl ?_; rw [Try.ntmps67, Try.results67]; intro w0 G0 ρ0
  (repeat' (first | refine thenL_n ?_ | refine thenL_r ?_ | refine thenL_x ?_ | refine blockL_n ?_ | refine blockL_r ?_ | refine blockL_x ?_ | refine blockL_y rfl ?_ | refine awp_seq ?_ | refine awp_block ?_ | refine awp_ret ?_ | refine awp_exit ?_ | refine awp_skip ?_ | exact absurd hcond (by decide) | (refine awp_txt ?_; refine runs_to [] (by simp only [go_sem, hwl, h1]; rfl) ?_) | (refine awp_draw mixed ?_; refine runs_to [] (by simp only [go_sem, hwl, h1]; rfl) ?_) | refine runD_nil ⟨by kernel_rfl, ?_⟩ | refine runD_nil ?_ | (refine runD_call (c52 _) cb52 (by rfl) (by simp only [go_sem, hwl, h1]; rfl) (by ((repeat' (first | exact All2.nil | refine All2.cons ?_ ?_ | exact SubV.one (SubT.same _) | exact SubV.one (SubT.nil _) | refine SubV.agg ?_ | exact SubT.same _ | exact SubT.nil _)); first | done | fail)) ?_; refine runs_to [] (by simp only [go_sem, hwl, h1]; rfl) ?_) | (refine awp_cond (b := _) (by simp only [go_sem, evB, hwl, h1]; rfl) (fun hcond => ?_) (fun hcond => ?_))))
  refine awp_loop (fun i : Nat => [(.slot 0, sP 100000), (.slot 1, sB late), (.slot 5, sP 5), (.cell 5 0, .c (.t (.lit (.int .i64 0)))), (.cell 5 1, .c (.t (.lit (.slice none 0 0)))), (.slot 6, sR 28), (.vec 28, .r 2 77 ((allOf s d (ps.take i)).map fun a => [.lit (.int .i64 a.1), vInts a.2])), (.slot 7, sB (sameOf first (ps.take i))), (.slot 8, sI i), (.cell 100000 0, .c (lI n)), (.cell 100000 1, .c (lI me)), (.cell 100000 2, .c (lI s)), (.cell 100000 3, .c (.t (vInts d))), (.cell 100000 4, .c (lB first)), (.cell 100000 5, .c (.row 100001)), (.vec 100001, .r 4 103 (ps.map vAn))]) (fun i => i ≤ ps.length) (fun i => ps.length - i) 0 (Nat.zero_le _) (by refine Imp.of_in ?_; simp only [go_sem, allOf, atsOf, sameOf, List.take_zero, List.map_nil, List.all_nil, Bool.and_true]) ?_
  intro i hi
  by_cases hlt : (i : Int) < ps.length
  · have hil : i < ps.length := by omega
    have hx : ps[i]? = some ps[i] := List.getElem?_eq_getElem hil
    have hts : ps.take (i + 1) = ps.take i ++ [ps[i]] := List.take_succ_eq_append_getElem hil
    generalize ps[i] = a at hx hts
    have hw := up i (by omega)
    have hlen : (allOf s d (ps.take i)).length = i + 1 := by simp [allOf, atsOf]; omega
    have hc1 : i + 1 + 1 ≤ 70368744177664 := by omega
    have hc2 : (i + 1 + 1) * 32 ≤ 140737488355328 := by omega
    have hall : (allOf s d (ps.take (i + 1))).map (fun a => [T.lit (.int .i64 a.1), vInts a.2]) = (allOf s d (ps.take i)).map (fun a => [T.lit (.int .i64 a.1), vInts a.2]) ++ [[T.lit (.int .i64 a.s), vInts a.d]] := by
      rw [hts]; simp [allOf, atsOf]
    have hsm : sameOf first (ps.take (i + 1)) = (sameOf first (ps.take i) && a.m) := by
      rw [hts]; simp [sameOf, Bool.and_assoc]
    simp only [vInts] at hall
    cases hb : sameOf first (ps.take i) with
    | true =>
      rw [hb, Bool.true_and] at hsm
      (repeat' (first | refine thenL_n ?_ | refine thenL_r ?_ | refine thenL_x ?_ | refine blockL_n ?_ | refine blockL_r ?_ | refine blockL_x ?_ | refine blockL_y rfl ?_ | refine awp_seq ?_ | refine awp_block ?_ | refine awp_ret ?_ | refine awp_exit ?_ | refine awp_skip ?_ | exact absurd hcond (by decide) | (refine awp_txt ?_; refine runs_to [51] (by simp only [go_sem, hlt, hil, hx, hw, hlen, hc1, hc2, hb]; rfl) ?_) | (refine awp_draw mixed ?_; refine runs_to [51] (by simp only [go_sem, hlt, hil, hx, hw, hlen, hc1, hc2, hb]; rfl) ?_) | refine runD_nil ⟨by kernel_rfl, ?_⟩ | refine runD_nil ?_ | (refine awp_cond (b := _) (by simp only [go_sem, evB, hlt, hil, hx, hw, hlen, hc1, hc2, hb]; rfl) (fun hcond => ?_) (fun hcond => ?_))))
      refine ⟨i + 1, by omega, by omega, (by refine Imp.back 52 28 (by simp only [go_sem, renL, Loc.ren, Cont.ren, SV.ren, V1.ren, At.ren,  hall, hsm]) (by simp only [go_sem, renL, Loc.ren, Cont.ren, SV.ren, V1.ren, At.ren,  hall, hsm]) (by simp only [go_sem, renL, Loc.ren, Cont.ren, SV.ren, V1.ren, At.ren,  hall, hsm]) (by decide) (by decide) ?_; refine Imp.of_in ?_; simp only [go_sem, renL, Loc.ren, Cont.ren, SV.ren, V1.ren, At.ren,  hall, hsm])⟩
    | false =>
      rw [hb, Bool.false_and] at hsm
      (repeat' (first | refine thenL_n ?_ | refine thenL_r ?_ | refine thenL_x ?_ | refine blockL_n ?_ | refine blockL_r ?_ | refine blockL_x ?_ | refine blockL_y rfl ?_ | refine awp_seq ?_ | refine awp_block ?_ | refine awp_ret ?_ | refine awp_exit ?_ | refine awp_skip ?_ | exact absurd hcond (by decide) | (refine awp_txt ?_; refine runs_to [51] (by simp only [go_sem, hlt, hil, hx, hw, hlen, hc1, hc2, hb]; rfl) ?_) | (refine awp_draw mixed ?_; refine runs_to [51] (by simp only [go_sem, hlt, hil, hx, hw, hlen, hc1, hc2, hb]; rfl) ?_) | refine runD_nil ⟨by kernel_rfl, ?_⟩ | refine runD_nil ?_ | (refine awp_cond (b := _) (by simp only [go_sem, evB, hlt, hil, hx, hw, hlen, hc1, hc2, hb]; rfl) (fun hcond => ?_) (fun hcond => ?_))))
      refine ⟨i + 1, by omega, by omega, (by refine Imp.back 52 28 (by simp only [go_sem, renL, Loc.ren, Cont.ren, SV.ren, V1.ren, At.ren,  hall, hsm]) (by simp only [go_sem, renL, Loc.ren, Cont.ren, SV.ren, V1.ren, At.ren,  hall, hsm]) (by simp only [go_sem, renL, Loc.ren, Cont.ren, SV.ren, V1.ren, At.ren,  hall, hsm]) (by decide) (by decide) ?_; refine Imp.of_in ?_; simp only [go_sem, renL, Loc.ren, Cont.ren, SV.ren, V1.ren, At.ren,  hall, hsm])⟩
  · have hta : ps.take i = ps := by rw [show i = ps.length by omega, List.take_length]
    rw [hta]
    refine awp_freeze 28 (by simp only [go_sem]; rfl) ?_
    cases hb : sameOf first ps with
    | false =>
      obtain ⟨rfl, rfl, rfl⟩ := hmix hb
      ((repeat' (first | refine thenL_n ?_ | refine thenL_r ?_ | refine thenL_x ?_ | refine blockL_n ?_ | refine blockL_r ?_ | refine blockL_x ?_ | refine blockL_y rfl ?_ | refine awp_seq ?_ | refine awp_block ?_ | refine awp_ret ?_ | refine awp_exit ?_ | refine awp_skip ?_ | exact absurd hcond (by decide) | (refine awp_txt ?_; refine runs_to [] (by simp only [go_sem, hlt, hb, freezeL, hwl]; rfl) ?_) | (refine awp_draw mixed ?_; refine runs_to [] (by simp only [go_sem, hlt, hb, freezeL, hwl]; rfl) ?_) | refine runD_nil ⟨by kernel_rfl, ?_⟩ | refine runD_nil ?_ | (refine runD_call (k50) cb50 (by rfl) (by simp only [go_sem, hlt, hb, freezeL, hwl]; rfl) (by ((repeat' (first | exact All2.nil | refine All2.cons ?_ ?_ | exact SubV.one (SubT.same _) | exact SubV.one (SubT.nil _) | refine SubV.agg ?_ | exact SubT.same _ | exact SubT.nil _)); first | done | fail)) ?_; refine runs_to [] (by simp only [go_sem, hlt, hb, freezeL, hwl]; rfl) ?_) | (refine awp_cond (b := _) (by simp only [go_sem, evB, hlt, hb, freezeL, hwl]; rfl) (fun hcond => ?_) (fun hcond => ?_)))); all_goals (refine leavesD_ok (by first | exact Or.inl rfl | exact Or.inr rfl) (Imp.refl _) (by simp only [go_sem, resAll, resL, hlt, hb, freezeL, hwl]; rfl) (by simp only [packL]; (first | refine SubS.v ?_ | refine SubS.tup ?_); ((repeat' (first | exact All2.nil | refine All2.cons ?_ ?_ | exact SubW.one (SubA.same _) | exact SubW.one (SubA.nil _) | exact SubW.one (SubA.ptr _) | refine SubW.agg ?_ | exact SubA.same _ | exact SubA.nil _ | exact SubA.ptr _)); first | done | fail)) (by simp only [go_sem, hlt, hb, freezeL, hwl]; repeat' (first | exact trivial | refine And.intro rfl ?_))))
    | true =>
      by_cases h2 : fast n ≤ (ps.length : Int) + 1
      · obtain ⟨rfl, rfl, rfl⟩ := hfast hb h2
        ((repeat' (first | refine thenL_n ?_ | refine thenL_r ?_ | refine thenL_x ?_ | refine blockL_n ?_ | refine blockL_r ?_ | refine blockL_x ?_ | refine blockL_y rfl ?_ | refine awp_seq ?_ | refine awp_block ?_ | refine awp_ret ?_ | refine awp_exit ?_ | refine awp_skip ?_ | exact absurd hcond (by decide) | (refine awp_txt ?_; refine runs_to [] (by simp only [go_sem, hlt, hb, h2, freezeL, hwl]; rfl) ?_) | (refine awp_draw mixed ?_; refine runs_to [] (by simp only [go_sem, hlt, hb, h2, freezeL, hwl]; rfl) ?_) | refine runD_nil ⟨by kernel_rfl, ?_⟩ | refine runD_nil ?_ | (refine runD_call (c54 _) cb54 (by rfl) (by simp only [go_sem, hlt, hb, h2, freezeL, hwl]; rfl) (by ((repeat' (first | exact All2.nil | refine All2.cons ?_ ?_ | exact SubV.one (SubT.same _) | exact SubV.one (SubT.nil _) | refine SubV.agg ?_ | exact SubT.same _ | exact SubT.nil _)); first | done | fail)) ?_; refine runs_to [] (by simp only [go_sem, hlt, hb, h2, freezeL, hwl]; rfl) ?_) | (refine awp_cond (b := _) (by simp only [go_sem, evB, hlt, hb, h2, freezeL, hwl]; rfl) (fun hcond => ?_) (fun hcond => ?_)))); all_goals (refine leavesD_ok (by first | exact Or.inl rfl | exact Or.inr rfl) (Imp.refl _) (by simp only [go_sem, resAll, resL, hlt, hb, h2, freezeL, hwl]; rfl) (by simp only [packL]; (first | refine SubS.v ?_ | refine SubS.tup ?_); ((repeat' (first | exact All2.nil | refine All2.cons ?_ ?_ | exact SubW.one (SubA.same _) | exact SubW.one (SubA.nil _) | exact SubW.one (SubA.ptr _) | refine SubW.agg ?_ | exact SubA.same _ | exact SubA.nil _ | exact SubA.ptr _)); first | done | fail)) (by simp only [go_sem, hlt, hb, h2, freezeL, hwl]; repeat' (first | exact trivial | refine And.intro rfl ?_))))
      · cases late with
        | true =>
          obtain ⟨rfl, rfl, rfl⟩ := hlate hb h2 rfl
          ((repeat' (first | refine thenL_n ?_ | refine thenL_r ?_ | refine thenL_x ?_ | refine blockL_n ?_ | refine blockL_r ?_ | refine blockL_x ?_ | refine blockL_y rfl ?_ | refine awp_seq ?_ | refine awp_block ?_ | refine awp_ret ?_ | refine awp_exit ?_ | refine awp_skip ?_ | exact absurd hcond (by decide) | (refine awp_txt ?_; refine runs_to [] (by simp only [go_sem, hlt, hb, h2, freezeL, hwl]; rfl) ?_) | (refine awp_draw mixed ?_; refine runs_to [] (by simp only [go_sem, hlt, hb, h2, freezeL, hwl]; rfl) ?_) | refine runD_nil ⟨by kernel_rfl, ?_⟩ | refine runD_nil ?_ | (refine runD_call (c54 _) cb54 (by rfl) (by simp only [go_sem, hlt, hb, h2, freezeL, hwl]; rfl) (by ((repeat' (first | exact All2.nil | refine All2.cons ?_ ?_ | exact SubV.one (SubT.same _) | exact SubV.one (SubT.nil _) | refine SubV.agg ?_ | exact SubT.same _ | exact SubT.nil _)); first | done | fail)) ?_; refine runs_to [] (by simp only [go_sem, hlt, hb, h2, freezeL, hwl]; rfl) ?_) | (refine awp_cond (b := _) (by simp only [go_sem, evB, hlt, hb, h2, freezeL, hwl]; rfl) (fun hcond => ?_) (fun hcond => ?_)))); all_goals (refine leavesD_ok (by first | exact Or.inl rfl | exact Or.inr rfl) (Imp.refl _) (by simp only [go_sem, resAll, resL, hlt, hb, h2, freezeL, hwl]; rfl) (by simp only [packL]; (first | refine SubS.v ?_ | refine SubS.tup ?_); ((repeat' (first | exact All2.nil | refine All2.cons ?_ ?_ | exact SubW.one (SubA.same _) | exact SubW.one (SubA.nil _) | exact SubW.one (SubA.ptr _) | refine SubW.agg ?_ | exact SubA.same _ | exact SubA.nil _ | exact SubA.ptr _)); first | done | fail)) (by simp only [go_sem, hlt, hb, h2, freezeL, hwl]; repeat' (first | exact trivial | refine And.intro rfl ?_))))
        | false =>
          obtain ⟨rfl, rfl, rfl⟩ := hwait hb h2 rfl
          ((repeat' (first | refine thenL_n ?_ | refine thenL_r ?_ | refine thenL_x ?_ | refine blockL_n ?_ | refine blockL_r ?_ | refine blockL_x ?_ | refine blockL_y rfl ?_ | refine awp_seq ?_ | refine awp_block ?_ | refine awp_ret ?_ | refine awp_exit ?_ | refine awp_skip ?_ | exact absurd hcond (by decide) | (refine awp_txt ?_; refine runs_to [] (by simp only [go_sem, hlt, hb, h2, freezeL, hwl]; rfl) ?_) | (refine awp_draw mixed ?_; refine runs_to [] (by simp only [go_sem, hlt, hb, h2, freezeL, hwl]; rfl) ?_) | refine runD_nil ⟨by kernel_rfl, ?_⟩ | refine runD_nil ?_ | (refine runD_call (c54 _) cb54 (by rfl) (by simp only [go_sem, hlt, hb, h2, freezeL, hwl]; rfl) (by ((repeat' (first | exact All2.nil | refine All2.cons ?_ ?_ | exact SubV.one (SubT.same _) | exact SubV.one (SubT.nil _) | refine SubV.agg ?_ | exact SubT.same _ | exact SubT.nil _)); first | done | fail)) ?_; refine runs_to [] (by simp only [go_sem, hlt, hb, h2, freezeL, hwl]; rfl) ?_) | (refine awp_cond (b := _) (by simp only [go_sem, evB, hlt, hb, h2, freezeL, hwl]; rfl) (fun hcond => ?_) (fun hcond => ?_)))); all_goals (refine leavesD_ok (by first | exact Or.inl rfl | exact Or.inr rfl) (Imp.refl _) (by simp only [go_sem, resAll, resL, hlt, hb, h2, freezeL, hwl]; rfl) (by simp only [packL]; (first | refine SubS.v ?_ | refine SubS.tup ?_); ((repeat' (first | exact All2.nil | refine All2.cons ?_ ?_ | exact SubW.one (SubA.same _) | exact SubW.one (SubA.nil _) | exact SubW.one (SubA.ptr _) | refine SubW.agg ?_ | exact SubA.same _ | exact SubA.nil _ | exact SubA.ptr _)); first | done | fail)) (by simp only [go_sem, hlt, hb, h2, freezeL, hwl]; repeat' (first | exact trivial | refine And.intro rfl ?_))))
end Go.Proofs.Ytbohgpdpglfepaa
