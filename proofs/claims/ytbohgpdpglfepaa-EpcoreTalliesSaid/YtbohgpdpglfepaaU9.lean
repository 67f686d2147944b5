import Derived.Test.YtbohgpdpglfepaaU8
set_option maxHeartbeats 4000000
set_option maxRecDepth 10000
set_option linter.unusedVariables false
set_option linter.unusedSimpArgs false
namespace Go.Proofs.Ytbohgpdpglfepaa
open Go.AM Go.RowKit
attribute [local irreducible] AWP thenL blockL AM.Leaves LeavesO RunD
attribute [local go_sem] runs stepR actF inF frzA frzW lastW act act1 actPick actNil actBin
  actUn actConv actExtract actFieldAddr actField actAlloc keysOf actBox actLoad treesOf actStore actIndex
  actLen actMx srcL actAppend actMake actBuild actBuildSlice boundL actSlice actCall actEqS isStruct
  isSlice actText actCopy litsOf kindsOK fieldsPlain eqAll eqop dstB dstN boolS litB
  litV sv binv unv lits takeC cellsR trees cellsW mxv repl parts
  fillAt fillRows V1.cs mkV ev evr AM.look put del applyL delD wrD
  undefS SV.to V1.to At.to keysL notIn freshKey PV.up PR.up entry entryV evp
  isAt actPtrNil capsL actFunc sameV sameVs pureCtx doc mkVar AM.Loc.key Cont.keys SV.keys
  V1.keys At.keys Cont.sub SV.sub V1.sub At.sub guardR argsL callR Nat.blt_eq Nat.blt Nat.ble
  Nat.beq_eq_true_eq beq_self_eq_true Array.toList List.map List.append_eq List.nil_append List.cons_append List.append_nil List.append_assoc Bool.and_eq_true decide_true decide_false
  decide_eq_true_eq Bool.not_true Bool.not_false reduceCtorEq if_true if_false ite_true ite_false reduceIte AM.Loc.slot.injEq AM.Loc.cell.injEq AM.Loc.vec.injEq
  List.getElem?_cons_zero List.getElem?_cons_succ List.getElem?_nil Option.map_some Option.map_none Option.toList List.flatMap_nil List.flatMap_cons Bool.and_true Bool.true_and Bool.and_false Bool.false_and
  Bool.true_eq_false Bool.false_eq_true Nat.reduceBEq Nat.reduceEqDiff bool_beq_tt bool_beq_ff bool_beq_tf bool_beq_ft List.length_cons List.length_nil List.drop List.take
  List.drop_zero List.take_zero List.all_cons List.all_nil Value.oneCell' Nat.zero_add Nat.reduceAdd Nat.reduceMul Nat.reduceSub Nat.reduceLT Nat.reduceLeDiff Int.reduceLT
  Int.reduceLE Int.reduceEq Int.reduceBEq Int.reduceBNe Int.reduceAdd Int.reduceSub Int.reduceMul Int.reduceNeg Int.reduceToNat Nat.succ_ne_zero List.replicate and_true
  true_and and_false false_and and_self ge_iff_le gt_iff_lt bne_self_eq_false List.zip_cons_cons List.zip_nil_left List.zip List.zipWith Int.natCast_nonneg
  Int.toNat_natCast List.getElem?_map List.length_map sT sI sB sR sP rV AllIn Int.toNat_zero Int.ofNat_zero
  Int.natCast_zero Nat.le_refl List.mapM_cons List.mapM_nil Option.bind_eq_bind Option.bind_some Option.pure_def List.set_cons_zero List.set_cons_succ List.length_set tt2 tt3
  tt4 tt5 tt9 tt12 tt21 tt22 tt23 tt24 tt25 tt36 tt37 tt43
  tt44 tt51 tt52 tt53 tt59 tt67 tt68 tt69 tt74 tt75 tt76 tt77
  tt78 tt79 tt89 tt92 tt95 tt96 tt97 tt98 tt99 tt102 tt103 tt106
  tt107 tt108 tt114 tt115 tt116 tt117 tt118 tt119 tt120 tt122 tt124 tt125
  tt126 tt127 tt130 tt131 tt132 tt133 tt134 tt135 tt137 tt138 tt139 tt147
  tt148 tt149 tt159 tt164 tt165 tt167 tt168 tt169 tt170 tt171 tt190 tt191
  tt194 tt200 tt208 tt212
attribute [local go_sem] vlit bal rInt rBool vInts pInts vvInts vPairs att vAtts lI lB vK tK

/-- An answer. -/
structure AN where
  f : Int
  s : Int
  d : List Int
  m : Bool
def vAn (x : AN) : List T := [.lit (.int .i64 x.f), .lit (.int .i64 x.s), vInts x.d, .lit (.bool x.m)]
/-- The document's tally. -/
def dK (κ κ' : Nat) (n me s : Int) (d : List Int) (first : Bool) (ps : List AN) : L := [(.cell κ 0, .c (lI n)), (.cell κ 1, .c (lI me)), (.cell κ 2, .c (lI s)), (.cell κ 3, .c (.t (vInts d))), (.cell κ 4, .c (lB first)), (.cell κ 5, .c (.row κ')), (.vec κ', .r 4 103 (ps.map vAn))]
attribute [local go_sem] dK
def atsOf (ps : List AN) : List At2 := ps.map fun x => (x.s, x.d)

theorem s63 (n me s : Int) (d : List Int) (first : Bool) (ps : List AN) (hd : d.length ≤ 4611686018427387903) : Does Try.prog 63 [.one (.ptr 100000 0)] (dK 100000 100001 n me s d first ps) (.v (.one (lB (goodT n me s d)))) (dK 100000 100001 n me s d first ps) := by
  by_cases h1 : 1 ≤ n ∧ n ≤ 7
  · have hm : decide (0 < maj n) = true := by rw [maj_in h1]; simp; omega
    have hm' : 0 < maj n := by rw [maj_in h1]; omega
    by_cases h2 : 0 ≤ me
    · by_cases h3 : me < n
      · cases h4 : attOK s d with
        | true =>
          have hg : goodT n me s d = decide ((d.length : Int) = n) := by simp [goodT, h1, h2, h3, h4]
          rw [hg]
          refine does_of_body Try.func63 rfl (by simp [Try.f63]) rfl rfl ?_; rw [Try.ntmps63, Try.results63]; intro w0 G0 ρ0
          ((repeat' (first | refine thenL_n ?_ | refine thenL_r ?_ | refine thenL_x ?_ | refine blockL_n ?_ | refine blockL_r ?_ | refine blockL_x ?_ | refine blockL_y rfl ?_ | refine awp_seq ?_ | refine awp_block ?_ | refine awp_ret ?_ | refine awp_exit ?_ | refine awp_skip ?_ | exact absurd hcond (by decide) | (refine awp_txt ?_; refine runs_to [] (by simp only [go_sem, hm', h2, h3, h4]; rfl) ?_) | (refine awp_draw mixed ?_; refine runs_to [] (by simp only [go_sem, hm', h2, h3, h4]; rfl) ?_) | refine runD_nil ⟨by kernel_rfl, ?_⟩ | refine runD_nil ?_ | (refine runD_call (c52 _) cb52 (by rfl) (by simp only [go_sem, hm', h2, h3, h4]; rfl) (by ((repeat' (first | exact All2.nil | refine All2.cons ?_ ?_ | exact SubV.one (SubT.same _) | exact SubV.one (SubT.nil _) | refine SubV.agg ?_ | exact SubT.same _ | exact SubT.nil _)); first | done | fail)) ?_; refine runs_to [] (by simp only [go_sem, hm', h2, h3, h4]; rfl) ?_) | (refine runD_call (c73 _ _ hd) cb73 (by rfl) (by simp only [go_sem, hm', h2, h3, h4]; rfl) (by ((repeat' (first | exact All2.nil | refine All2.cons ?_ ?_ | exact SubV.one (SubT.same _) | exact SubV.one (SubT.nil _) | refine SubV.agg ?_ | exact SubT.same _ | exact SubT.nil _)); first | done | fail)) ?_; refine runs_to [] (by simp only [go_sem, hm', h2, h3, h4]; rfl) ?_) | (refine awp_cond (b := _) (by simp only [go_sem, evB, hm', h2, h3, h4]; rfl) (fun hcond => ?_) (fun hcond => ?_)))); all_goals (refine leavesD_ok (by first | exact Or.inl rfl | exact Or.inr rfl) (Imp.refl _) (by simp only [go_sem, resAll, resL, hm', h2, h3, h4]; rfl) (by simp only [packL]; (first | refine SubS.v ?_ | refine SubS.tup ?_); ((repeat' (first | exact All2.nil | refine All2.cons ?_ ?_ | exact SubW.one (SubA.same _) | exact SubW.one (SubA.nil _) | exact SubW.one (SubA.ptr _) | refine SubW.agg ?_ | exact SubA.same _ | exact SubA.nil _ | exact SubA.ptr _)); first | done | fail)) (by simp only [go_sem, hm', h2, h3, h4]; repeat' (first | exact trivial | refine And.intro rfl ?_))))
        | false =>
          have hg : goodT n me s d = false := by simp [goodT, h4]
          rw [hg]
          refine does_of_body Try.func63 rfl (by simp [Try.f63]) rfl rfl ?_; rw [Try.ntmps63, Try.results63]; intro w0 G0 ρ0
          ((repeat' (first | refine thenL_n ?_ | refine thenL_r ?_ | refine thenL_x ?_ | refine blockL_n ?_ | refine blockL_r ?_ | refine blockL_x ?_ | refine blockL_y rfl ?_ | refine awp_seq ?_ | refine awp_block ?_ | refine awp_ret ?_ | refine awp_exit ?_ | refine awp_skip ?_ | exact absurd hcond (by decide) | (refine awp_txt ?_; refine runs_to [] (by simp only [go_sem, hm', h2, h3, h4]; rfl) ?_) | (refine awp_draw mixed ?_; refine runs_to [] (by simp only [go_sem, hm', h2, h3, h4]; rfl) ?_) | refine runD_nil ⟨by kernel_rfl, ?_⟩ | refine runD_nil ?_ | (refine runD_call (c52 _) cb52 (by rfl) (by simp only [go_sem, hm', h2, h3, h4]; rfl) (by ((repeat' (first | exact All2.nil | refine All2.cons ?_ ?_ | exact SubV.one (SubT.same _) | exact SubV.one (SubT.nil _) | refine SubV.agg ?_ | exact SubT.same _ | exact SubT.nil _)); first | done | fail)) ?_; refine runs_to [] (by simp only [go_sem, hm', h2, h3, h4]; rfl) ?_) | (refine runD_call (c73 _ _ hd) cb73 (by rfl) (by simp only [go_sem, hm', h2, h3, h4]; rfl) (by ((repeat' (first | exact All2.nil | refine All2.cons ?_ ?_ | exact SubV.one (SubT.same _) | exact SubV.one (SubT.nil _) | refine SubV.agg ?_ | exact SubT.same _ | exact SubT.nil _)); first | done | fail)) ?_; refine runs_to [] (by simp only [go_sem, hm', h2, h3, h4]; rfl) ?_) | (refine awp_cond (b := _) (by simp only [go_sem, evB, hm', h2, h3, h4]; rfl) (fun hcond => ?_) (fun hcond => ?_)))); all_goals (refine leavesD_ok (by first | exact Or.inl rfl | exact Or.inr rfl) (Imp.refl _) (by simp only [go_sem, resAll, resL, hm', h2, h3, h4]; rfl) (by simp only [packL]; (first | refine SubS.v ?_ | refine SubS.tup ?_); ((repeat' (first | exact All2.nil | refine All2.cons ?_ ?_ | exact SubW.one (SubA.same _) | exact SubW.one (SubA.nil _) | exact SubW.one (SubA.ptr _) | refine SubW.agg ?_ | exact SubA.same _ | exact SubA.nil _ | exact SubA.ptr _)); first | done | fail)) (by simp only [go_sem, hm', h2, h3, h4]; repeat' (first | exact trivial | refine And.intro rfl ?_))))
      · have hg : goodT n me s d = false := by simp [goodT, h3]
        rw [hg]
        refine does_of_body Try.func63 rfl (by simp [Try.f63]) rfl rfl ?_; rw [Try.ntmps63, Try.results63]; intro w0 G0 ρ0
        ((repeat' (first | refine thenL_n ?_ | refine thenL_r ?_ | refine thenL_x ?_ | refine blockL_n ?_ | refine blockL_r ?_ | refine blockL_x ?_ | refine blockL_y rfl ?_ | refine awp_seq ?_ | refine awp_block ?_ | refine awp_ret ?_ | refine awp_exit ?_ | refine awp_skip ?_ | exact absurd hcond (by decide) | (refine awp_txt ?_; refine runs_to [] (by simp only [go_sem, hm', h2, h3]; rfl) ?_) | (refine awp_draw mixed ?_; refine runs_to [] (by simp only [go_sem, hm', h2, h3]; rfl) ?_) | refine runD_nil ⟨by kernel_rfl, ?_⟩ | refine runD_nil ?_ | (refine runD_call (c52 _) cb52 (by rfl) (by simp only [go_sem, hm', h2, h3]; rfl) (by ((repeat' (first | exact All2.nil | refine All2.cons ?_ ?_ | exact SubV.one (SubT.same _) | exact SubV.one (SubT.nil _) | refine SubV.agg ?_ | exact SubT.same _ | exact SubT.nil _)); first | done | fail)) ?_; refine runs_to [] (by simp only [go_sem, hm', h2, h3]; rfl) ?_) | (refine awp_cond (b := _) (by simp only [go_sem, evB, hm', h2, h3]; rfl) (fun hcond => ?_) (fun hcond => ?_)))); all_goals (refine leavesD_ok (by first | exact Or.inl rfl | exact Or.inr rfl) (Imp.refl _) (by simp only [go_sem, resAll, resL, hm', h2, h3]; rfl) (by simp only [packL]; (first | refine SubS.v ?_ | refine SubS.tup ?_); ((repeat' (first | exact All2.nil | refine All2.cons ?_ ?_ | exact SubW.one (SubA.same _) | exact SubW.one (SubA.nil _) | exact SubW.one (SubA.ptr _) | refine SubW.agg ?_ | exact SubA.same _ | exact SubA.nil _ | exact SubA.ptr _)); first | done | fail)) (by simp only [go_sem, hm', h2, h3]; repeat' (first | exact trivial | refine And.intro rfl ?_))))
    · have hg : goodT n me s d = false := by simp [goodT, h2]
      rw [hg]
      refine does_of_body Try.func63 rfl (by simp [Try.f63]) rfl rfl ?_; rw [Try.ntmps63, Try.results63]; intro w0 G0 ρ0
      ((repeat' (first | refine thenL_n ?_ | refine thenL_r ?_ | refine thenL_x ?_ | refine blockL_n ?_ | refine blockL_r ?_ | refine blockL_x ?_ | refine blockL_y rfl ?_ | refine awp_seq ?_ | refine awp_block ?_ | refine awp_ret ?_ | refine awp_exit ?_ | refine awp_skip ?_ | exact absurd hcond (by decide) | (refine awp_txt ?_; refine runs_to [] (by simp only [go_sem, hm', h2]; rfl) ?_) | (refine awp_draw mixed ?_; refine runs_to [] (by simp only [go_sem, hm', h2]; rfl) ?_) | refine runD_nil ⟨by kernel_rfl, ?_⟩ | refine runD_nil ?_ | (refine runD_call (c52 _) cb52 (by rfl) (by simp only [go_sem, hm', h2]; rfl) (by ((repeat' (first | exact All2.nil | refine All2.cons ?_ ?_ | exact SubV.one (SubT.same _) | exact SubV.one (SubT.nil _) | refine SubV.agg ?_ | exact SubT.same _ | exact SubT.nil _)); first | done | fail)) ?_; refine runs_to [] (by simp only [go_sem, hm', h2]; rfl) ?_) | (refine awp_cond (b := _) (by simp only [go_sem, evB, hm', h2]; rfl) (fun hcond => ?_) (fun hcond => ?_)))); all_goals (refine leavesD_ok (by first | exact Or.inl rfl | exact Or.inr rfl) (Imp.refl _) (by simp only [go_sem, resAll, resL, hm', h2]; rfl) (by simp only [packL]; (first | refine SubS.v ?_ | refine SubS.tup ?_); ((repeat' (first | exact All2.nil | refine All2.cons ?_ ?_ | exact SubW.one (SubA.same _) | exact SubW.one (SubA.nil _) | exact SubW.one (SubA.ptr _) | refine SubW.agg ?_ | exact SubA.same _ | exact SubA.nil _ | exact SubA.ptr _)); first | done | fail)) (by simp only [go_sem, hm', h2]; repeat' (first | exact trivial | refine And.intro rfl ?_))))
  · have hm' : ¬ 0 < maj n := by rw [maj_out h1]; decide
    have hg : goodT n me s d = false := by
      cases h : goodT n me s d with
      | false => rfl
      | true =>
        simp only [goodT, Bool.and_eq_true, decide_eq_true_eq] at h
        exact absurd ⟨h.1.1.1.1.1, h.1.1.1.1.2⟩ h1
    rw [hg]
    refine does_of_body Try.func63 rfl (by simp [Try.f63]) rfl rfl ?_; rw [Try.ntmps63, Try.results63]; intro w0 G0 ρ0
    ((repeat' (first | refine thenL_n ?_ | refine thenL_r ?_ | refine thenL_x ?_ | refine blockL_n ?_ | refine blockL_r ?_ | refine blockL_x ?_ | refine blockL_y rfl ?_ | refine awp_seq ?_ | refine awp_block ?_ | refine awp_ret ?_ | refine awp_exit ?_ | refine awp_skip ?_ | exact absurd hcond (by decide) | (refine awp_txt ?_; refine runs_to [] (by simp only [go_sem, hm']; rfl) ?_) | (refine awp_draw mixed ?_; refine runs_to [] (by simp only [go_sem, hm']; rfl) ?_) | refine runD_nil ⟨by kernel_rfl, ?_⟩ | refine runD_nil ?_ | (refine runD_call (c52 _) cb52 (by rfl) (by simp only [go_sem, hm']; rfl) (by ((repeat' (first | exact All2.nil | refine All2.cons ?_ ?_ | exact SubV.one (SubT.same _) | exact SubV.one (SubT.nil _) | refine SubV.agg ?_ | exact SubT.same _ | exact SubT.nil _)); first | done | fail)) ?_; refine runs_to [] (by simp only [go_sem, hm']; rfl) ?_) | (refine awp_cond (b := _) (by simp only [go_sem, evB, hm']; rfl) (fun hcond => ?_) (fun hcond => ?_)))); all_goals (refine leavesD_ok (by first | exact Or.inl rfl | exact Or.inr rfl) (Imp.refl _) (by simp only [go_sem, resAll, resL, hm']; rfl) (by simp only [packL]; (first | refine SubS.v ?_ | refine SubS.tup ?_); ((repeat' (first | exact All2.nil | refine All2.cons ?_ ?_ | exact SubW.one (SubA.same _) | exact SubW.one (SubA.nil _) | exact SubW.one (SubA.ptr _) | refine SubW.agg ?_ | exact SubA.same _ | exact SubA.nil _ | exact SubA.ptr _)); first | done | fail)) (by simp only [go_sem, hm']; repeat' (first | exact trivial | refine And.intro rfl ?_))))

def pOne (f s : Int) (d : List Int) (m : Bool) : V1 := .agg [lI f, lI s, .t (vInts d), lB m]
attribute [local go_sem] pOne vAn
/-- Is the answer's sender somebody, and its attribute right? -/
def anOK (n me : Int) (x : AN) : Bool := decide (0 ≤ x.f) && decide (x.f < n) && decide (x.f ≠ me) && attOK x.s x.d && decide ((x.d.length : Int) = n)

theorem s65a (n me s : Int) (d : List Int) (first : Bool) (ps : List AN) (x : AN) (hd : x.d.length ≤ 4611686018427387903) (h : anOK n me x = false) : Does Try.prog 65 [.one (.ptr 100000 0), pOne x.f x.s x.d x.m] (dK 100000 100001 n me s d first ps) (.v (.one (lB false))) (dK 100000 42 n me s d first ps) := by
  obtain ⟨f, xs, xd, m⟩ := x
  simp only [anOK] at h hd
  by_cases h1 : f < 0
  · refine does_of_body Try.func65 rfl (by simp [Try.f65]) rfl rfl ?_; rw [Try.ntmps65, Try.results65]; intro w0 G0 ρ0
    refine awp_imp (Imp.takeE 100001 42 (by simp only [go_sem, fixL, Cont.fix, SV.fix, V1.fix, At.fix, cellsT, renL, Loc.ren, Cont.ren, SV.ren, V1.ren, At.ren, freezeL]) (by simp only [go_sem, fixL, Cont.fix, SV.fix, V1.fix, At.fix, cellsT, renL, Loc.ren, Cont.ren, SV.ren, V1.ren, At.ren, freezeL]; rfl) (by decide) (by simp only [go_sem, fixL, Cont.fix, SV.fix, V1.fix, At.fix, cellsT, renL, Loc.ren, Cont.ren, SV.ren, V1.ren, At.ren, freezeL]; rfl)) ?_
    ((repeat' (first | refine thenL_n ?_ | refine thenL_r ?_ | refine thenL_x ?_ | refine blockL_n ?_ | refine blockL_r ?_ | refine blockL_x ?_ | refine blockL_y rfl ?_ | refine awp_seq ?_ | refine awp_block ?_ | refine awp_ret ?_ | refine awp_exit ?_ | refine awp_skip ?_ | exact absurd hcond (by decide) | (refine awp_txt ?_; refine runs_to [] (by simp only [go_sem, h1]; rfl) ?_) | (refine awp_draw mixed ?_; refine runs_to [] (by simp only [go_sem, h1]; rfl) ?_) | refine runD_nil ⟨by kernel_rfl, ?_⟩ | refine runD_nil ?_ | (refine awp_cond (b := _) (by simp only [go_sem, evB, h1]; rfl) (fun hcond => ?_) (fun hcond => ?_)))); all_goals (refine leavesD_ok (by first | exact Or.inl rfl | exact Or.inr rfl) (Imp.refl _) (by simp only [go_sem, resAll, resL, h1]; rfl) (by simp only [packL]; (first | refine SubS.v ?_ | refine SubS.tup ?_); ((repeat' (first | exact All2.nil | refine All2.cons ?_ ?_ | exact SubW.one (SubA.same _) | exact SubW.one (SubA.nil _) | exact SubW.one (SubA.ptr _) | refine SubW.agg ?_ | exact SubA.same _ | exact SubA.nil _ | exact SubA.ptr _)); first | done | fail)) (by simp only [go_sem, h1]; repeat' (first | exact trivial | refine And.intro rfl ?_))))
  by_cases h2 : n ≤ f
  · refine does_of_body Try.func65 rfl (by simp [Try.f65]) rfl rfl ?_; rw [Try.ntmps65, Try.results65]; intro w0 G0 ρ0
    refine awp_imp (Imp.takeE 100001 42 (by simp only [go_sem, fixL, Cont.fix, SV.fix, V1.fix, At.fix, cellsT, renL, Loc.ren, Cont.ren, SV.ren, V1.ren, At.ren, freezeL]) (by simp only [go_sem, fixL, Cont.fix, SV.fix, V1.fix, At.fix, cellsT, renL, Loc.ren, Cont.ren, SV.ren, V1.ren, At.ren, freezeL]; rfl) (by decide) (by simp only [go_sem, fixL, Cont.fix, SV.fix, V1.fix, At.fix, cellsT, renL, Loc.ren, Cont.ren, SV.ren, V1.ren, At.ren, freezeL]; rfl)) ?_
    ((repeat' (first | refine thenL_n ?_ | refine thenL_r ?_ | refine thenL_x ?_ | refine blockL_n ?_ | refine blockL_r ?_ | refine blockL_x ?_ | refine blockL_y rfl ?_ | refine awp_seq ?_ | refine awp_block ?_ | refine awp_ret ?_ | refine awp_exit ?_ | refine awp_skip ?_ | exact absurd hcond (by decide) | (refine awp_txt ?_; refine runs_to [] (by simp only [go_sem, h1, h2]; rfl) ?_) | (refine awp_draw mixed ?_; refine runs_to [] (by simp only [go_sem, h1, h2]; rfl) ?_) | refine runD_nil ⟨by kernel_rfl, ?_⟩ | refine runD_nil ?_ | (refine awp_cond (b := _) (by simp only [go_sem, evB, h1, h2]; rfl) (fun hcond => ?_) (fun hcond => ?_)))); all_goals (refine leavesD_ok (by first | exact Or.inl rfl | exact Or.inr rfl) (Imp.refl _) (by simp only [go_sem, resAll, resL, h1, h2]; rfl) (by simp only [packL]; (first | refine SubS.v ?_ | refine SubS.tup ?_); ((repeat' (first | exact All2.nil | refine All2.cons ?_ ?_ | exact SubW.one (SubA.same _) | exact SubW.one (SubA.nil _) | exact SubW.one (SubA.ptr _) | refine SubW.agg ?_ | exact SubA.same _ | exact SubA.nil _ | exact SubA.ptr _)); first | done | fail)) (by simp only [go_sem, h1, h2]; repeat' (first | exact trivial | refine And.intro rfl ?_))))
  by_cases h3 : f = me
  · have h3' : (f == me) = true := by simp [h3]
    refine does_of_body Try.func65 rfl (by simp [Try.f65]) rfl rfl ?_; rw [Try.ntmps65, Try.results65]; intro w0 G0 ρ0
    refine awp_imp (Imp.takeE 100001 42 (by simp only [go_sem, fixL, Cont.fix, SV.fix, V1.fix, At.fix, cellsT, renL, Loc.ren, Cont.ren, SV.ren, V1.ren, At.ren, freezeL]) (by simp only [go_sem, fixL, Cont.fix, SV.fix, V1.fix, At.fix, cellsT, renL, Loc.ren, Cont.ren, SV.ren, V1.ren, At.ren, freezeL]; rfl) (by decide) (by simp only [go_sem, fixL, Cont.fix, SV.fix, V1.fix, At.fix, cellsT, renL, Loc.ren, Cont.ren, SV.ren, V1.ren, At.ren, freezeL]; rfl)) ?_
    ((repeat' (first | refine thenL_n ?_ | refine thenL_r ?_ | refine thenL_x ?_ | refine blockL_n ?_ | refine blockL_r ?_ | refine blockL_x ?_ | refine blockL_y rfl ?_ | refine awp_seq ?_ | refine awp_block ?_ | refine awp_ret ?_ | refine awp_exit ?_ | refine awp_skip ?_ | exact absurd hcond (by decide) | (refine awp_txt ?_; refine runs_to [] (by simp only [go_sem, h1, h2, h3']; rfl) ?_) | (refine awp_draw mixed ?_; refine runs_to [] (by simp only [go_sem, h1, h2, h3']; rfl) ?_) | refine runD_nil ⟨by kernel_rfl, ?_⟩ | refine runD_nil ?_ | (refine awp_cond (b := _) (by simp only [go_sem, evB, h1, h2, h3']; rfl) (fun hcond => ?_) (fun hcond => ?_)))); all_goals (refine leavesD_ok (by first | exact Or.inl rfl | exact Or.inr rfl) (Imp.refl _) (by simp only [go_sem, resAll, resL, h1, h2, h3']; rfl) (by simp only [packL]; (first | refine SubS.v ?_ | refine SubS.tup ?_); ((repeat' (first | exact All2.nil | refine All2.cons ?_ ?_ | exact SubW.one (SubA.same _) | exact SubW.one (SubA.nil _) | exact SubW.one (SubA.ptr _) | refine SubW.agg ?_ | exact SubA.same _ | exact SubA.nil _ | exact SubA.ptr _)); first | done | fail)) (by simp only [go_sem, h1, h2, h3']; repeat' (first | exact trivial | refine And.intro rfl ?_))))
  have h3' : (f == me) = false := by simp [h3]
  cases h4 : attOK xs xd with
  | false =>
    refine does_of_body Try.func65 rfl (by simp [Try.f65]) rfl rfl ?_; rw [Try.ntmps65, Try.results65]; intro w0 G0 ρ0
    refine awp_imp (Imp.takeE 100001 42 (by simp only [go_sem, fixL, Cont.fix, SV.fix, V1.fix, At.fix, cellsT, renL, Loc.ren, Cont.ren, SV.ren, V1.ren, At.ren, freezeL]) (by simp only [go_sem, fixL, Cont.fix, SV.fix, V1.fix, At.fix, cellsT, renL, Loc.ren, Cont.ren, SV.ren, V1.ren, At.ren, freezeL]; rfl) (by decide) (by simp only [go_sem, fixL, Cont.fix, SV.fix, V1.fix, At.fix, cellsT, renL, Loc.ren, Cont.ren, SV.ren, V1.ren, At.ren, freezeL]; rfl)) ?_
    ((repeat' (first | refine thenL_n ?_ | refine thenL_r ?_ | refine thenL_x ?_ | refine blockL_n ?_ | refine blockL_r ?_ | refine blockL_x ?_ | refine blockL_y rfl ?_ | refine awp_seq ?_ | refine awp_block ?_ | refine awp_ret ?_ | refine awp_exit ?_ | refine awp_skip ?_ | exact absurd hcond (by decide) | (refine awp_txt ?_; refine runs_to [] (by simp only [go_sem, h1, h2, h3', h4]; rfl) ?_) | (refine awp_draw mixed ?_; refine runs_to [] (by simp only [go_sem, h1, h2, h3', h4]; rfl) ?_) | refine runD_nil ⟨by kernel_rfl, ?_⟩ | refine runD_nil ?_ | (refine runD_call (c73 _ _ hd) cb73 (by rfl) (by simp only [go_sem, h1, h2, h3', h4]; rfl) (by ((repeat' (first | exact All2.nil | refine All2.cons ?_ ?_ | exact SubV.one (SubT.same _) | exact SubV.one (SubT.nil _) | refine SubV.agg ?_ | exact SubT.same _ | exact SubT.nil _)); first | done | fail)) ?_; refine runs_to [] (by simp only [go_sem, h1, h2, h3', h4]; rfl) ?_) | (refine awp_cond (b := _) (by simp only [go_sem, evB, h1, h2, h3', h4]; rfl) (fun hcond => ?_) (fun hcond => ?_)))); all_goals (refine leavesD_ok (by first | exact Or.inl rfl | exact Or.inr rfl) (Imp.refl _) (by simp only [go_sem, resAll, resL, h1, h2, h3', h4]; rfl) (by simp only [packL]; (first | refine SubS.v ?_ | refine SubS.tup ?_); ((repeat' (first | exact All2.nil | refine All2.cons ?_ ?_ | exact SubW.one (SubA.same _) | exact SubW.one (SubA.nil _) | exact SubW.one (SubA.ptr _) | refine SubW.agg ?_ | exact SubA.same _ | exact SubA.nil _ | exact SubA.ptr _)); first | done | fail)) (by simp only [go_sem, h1, h2, h3', h4]; repeat' (first | exact trivial | refine And.intro rfl ?_))))
  | true =>
    have h5 : (((xd.length : Nat) : Int) != n) = true := by
      simp only [h4, Bool.and_true, Bool.and_eq_false_imp, Bool.and_eq_true, decide_eq_true_eq] at h
      simp only [bne_iff_ne, ne_eq]
      have := h ⟨⟨by omega, by omega⟩, h3⟩
      simpa using this
    refine does_of_body Try.func65 rfl (by simp [Try.f65]) rfl rfl ?_; rw [Try.ntmps65, Try.results65]; intro w0 G0 ρ0
    refine awp_imp (Imp.takeE 100001 42 (by simp only [go_sem, fixL, Cont.fix, SV.fix, V1.fix, At.fix, cellsT, renL, Loc.ren, Cont.ren, SV.ren, V1.ren, At.ren, freezeL]) (by simp only [go_sem, fixL, Cont.fix, SV.fix, V1.fix, At.fix, cellsT, renL, Loc.ren, Cont.ren, SV.ren, V1.ren, At.ren, freezeL]; rfl) (by decide) (by simp only [go_sem, fixL, Cont.fix, SV.fix, V1.fix, At.fix, cellsT, renL, Loc.ren, Cont.ren, SV.ren, V1.ren, At.ren, freezeL]; rfl)) ?_
    ((repeat' (first | refine thenL_n ?_ | refine thenL_r ?_ | refine thenL_x ?_ | refine blockL_n ?_ | refine blockL_r ?_ | refine blockL_x ?_ | refine blockL_y rfl ?_ | refine awp_seq ?_ | refine awp_block ?_ | refine awp_ret ?_ | refine awp_exit ?_ | refine awp_skip ?_ | exact absurd hcond (by decide) | (refine awp_txt ?_; refine runs_to [] (by simp only [go_sem, h1, h2, h3', h4, h5]; rfl) ?_) | (refine awp_draw mixed ?_; refine runs_to [] (by simp only [go_sem, h1, h2, h3', h4, h5]; rfl) ?_) | refine runD_nil ⟨by kernel_rfl, ?_⟩ | refine runD_nil ?_ | (refine runD_call (c73 _ _ hd) cb73 (by rfl) (by simp only [go_sem, h1, h2, h3', h4, h5]; rfl) (by ((repeat' (first | exact All2.nil | refine All2.cons ?_ ?_ | exact SubV.one (SubT.same _) | exact SubV.one (SubT.nil _) | refine SubV.agg ?_ | exact SubT.same _ | exact SubT.nil _)); first | done | fail)) ?_; refine runs_to [] (by simp only [go_sem, h1, h2, h3', h4, h5]; rfl) ?_) | (refine awp_cond (b := _) (by simp only [go_sem, evB, h1, h2, h3', h4, h5]; rfl) (fun hcond => ?_) (fun hcond => ?_)))); all_goals (refine leavesD_ok (by first | exact Or.inl rfl | exact Or.inr rfl) (Imp.refl _) (by simp only [go_sem, resAll, resL, h1, h2, h3', h4, h5]; rfl) (by simp only [packL]; (first | refine SubS.v ?_ | refine SubS.tup ?_); ((repeat' (first | exact All2.nil | refine All2.cons ?_ ?_ | exact SubW.one (SubA.same _) | exact SubW.one (SubA.nil _) | exact SubW.one (SubA.ptr _) | refine SubW.agg ?_ | exact SubA.same _ | exact SubA.nil _ | exact SubA.ptr _)); first | done | fail)) (by simp only [go_sem, h1, h2, h3', h4, h5]; repeat' (first | exact trivial | refine And.intro rfl ?_))))

theorem s65bc (n me s : Int) (d : List Int) (first : Bool) (ps : List AN) (x : AN) (hd : x.d.length ≤ 4611686018427387903) (hp : ps.length ≤ 100) (h : anOK n me x = true) :
    (x.f ∈ ps.map (·.f) → Does Try.prog 65 [.one (.ptr 100000 0), pOne x.f x.s x.d x.m] (dK 100000 100001 n me s d first ps) (.v (.one (lB false))) (dK 100000 42 n me s d first ps)) ∧
    (x.f ∉ ps.map (·.f) → Does Try.prog 65 [.one (.ptr 100000 0), pOne x.f x.s x.d x.m] (dK 100000 100001 n me s d first ps) (.v (.one (lB true))) (dK 100000 42 n me s d first (ps ++ [x]))) := by
  obtain ⟨f, xs, xd, m⟩ := x
  simp only [anOK, Bool.and_eq_true, decide_eq_true_eq] at h hd ⊢
  obtain ⟨⟨⟨⟨g1, g2⟩, g3⟩, g4⟩, g5⟩ := h
  have h1 : ¬ f < 0 := by omega
  have h2 : ¬ n ≤ f := by omega
  have h3 : (f == me) = false := by simp [g3]
  have h5 : (((xd.length : Nat) : Int) != n) = false := by simp [g5]
  have loop : ∀ (b : Bool) (ps' : List AN), (b = false → f ∈ ps.map (·.f) ∧ ps' = ps) → (b = true → f ∉ ps.map (·.f) ∧ ps' = ps ++ [⟨f, xs, xd, m⟩]) → Does Try.prog 65 [.one (.ptr 100000 0), pOne f xs xd m] (dK 100000 100001 n me s d first ps) (.v (.one (lB b))) (dK 100000 42 n me s d first ps') := by
    intro b ps' hbf hbt
    have hns : noSlots (dK 100000 42 n me s d first ps') = true := rfl
    refine does_of_body Try.func65 rfl (by simp [Try.f65]) rfl rfl ?_; rw [Try.ntmps65, Try.results65]; intro w0 G0 ρ0
    refine awp_imp (Imp.takeE 100001 40 (by simp only [go_sem, fixL, Cont.fix, SV.fix, V1.fix, At.fix, cellsT, renL, Loc.ren, Cont.ren, SV.ren, V1.ren, At.ren, freezeL]) (by simp only [go_sem, fixL, Cont.fix, SV.fix, V1.fix, At.fix, cellsT, renL, Loc.ren, Cont.ren, SV.ren, V1.ren, At.ren, freezeL]; rfl) (by decide) (by simp only [go_sem, fixL, Cont.fix, SV.fix, V1.fix, At.fix, cellsT, renL, Loc.ren, Cont.ren, SV.ren, V1.ren, At.ren, freezeL]; rfl)) ?_
    (repeat' (first | refine thenL_n ?_ | refine thenL_r ?_ | refine thenL_x ?_ | refine blockL_n ?_ | refine blockL_r ?_ | refine blockL_x ?_ | refine blockL_y rfl ?_ | refine awp_seq ?_ | refine awp_block ?_ | refine awp_ret ?_ | refine awp_exit ?_ | refine awp_skip ?_ | exact absurd hcond (by decide) | (refine awp_txt ?_; refine runs_to [] (by simp only [go_sem, h1, h2, h3, g4, h5]; rfl) ?_) | (refine awp_draw mixed ?_; refine runs_to [] (by simp only [go_sem, h1, h2, h3, g4, h5]; rfl) ?_) | refine runD_nil ⟨by kernel_rfl, ?_⟩ | refine runD_nil ?_ | (refine runD_call (c73 _ _ hd) cb73 (by rfl) (by simp only [go_sem, h1, h2, h3, g4, h5]; rfl) (by ((repeat' (first | exact All2.nil | refine All2.cons ?_ ?_ | exact SubV.one (SubT.same _) | exact SubV.one (SubT.nil _) | refine SubV.agg ?_ | exact SubT.same _ | exact SubT.nil _)); first | done | fail)) ?_; refine runs_to [] (by simp only [go_sem, h1, h2, h3, g4, h5]; rfl) ?_) | (refine awp_cond (b := _) (by simp only [go_sem, evB, h1, h2, h3, g4, h5]; rfl) (fun hcond => ?_) (fun hcond => ?_))))
    refine awp_loop (fun i : Nat => [(.slot 0, sP 100000), (.slot 3, sP 3), (.cell 3 0, .c (lI f)), (.cell 3 1, .c (lI xs)), (.cell 3 2, .c (.t (vInts xd))), (.cell 3 3, .c (lB m)), (.cell 100000 0, .c (lI n)), (.cell 100000 1, .c (lI me)), (.cell 100000 2, .c (lI s)), (.cell 100000 3, .c (.t (vInts d))), (.cell 100000 4, .c (lB first)), (.cell 100000 5, .c (.row 40)), (.vec 40, .r 4 103 (ps.map vAn)), (.slot 5, sI i)]) (fun i => i ≤ ps.length ∧ ∀ y, y ∈ ps.take i → y.f ≠ f) (fun i => ps.length - i) 0 ⟨Nat.zero_le _, by simp⟩ (by refine Imp.of_in ?_; simp only [go_sem, renL, Loc.ren, Cont.ren, SV.ren, V1.ren, At.ren]) ?_
    rintro i ⟨hi, hok⟩
    by_cases hlt : (i : Int) < ps.length
    · have hil : i < ps.length := by omega
      have hx : ps[i]? = some ps[i] := List.getElem?_eq_getElem hil
      have hts : ps.take (i + 1) = ps.take i ++ [ps[i]] := List.take_succ_eq_append_getElem hil
      generalize ps[i] = a at hx hts
      have hmem : a ∈ ps := List.mem_of_getElem? hx
      have hw := up i (by omega)
      cases hq : (a.f == f) with
      | true =>
        have hin : f ∈ ps.map (·.f) := List.mem_map.2 ⟨a, hmem, by simpa using hq⟩
        cases b with
        | true => exact absurd hin (hbt rfl).1
        | false =>
          rw [(hbf rfl).2]
          (repeat' (first | refine thenL_n ?_ | refine thenL_r ?_ | refine thenL_x ?_ | refine blockL_n ?_ | refine blockL_r ?_ | refine blockL_x ?_ | refine blockL_y rfl ?_ | refine awp_seq ?_ | refine awp_block ?_ | refine awp_ret ?_ | refine awp_exit ?_ | refine awp_skip ?_ | exact absurd hcond (by decide) | (refine awp_txt ?_; refine runs_to [] (by simp only [go_sem, hlt, hx, hq, hil]; rfl) ?_) | (refine awp_draw mixed ?_; refine runs_to [] (by simp only [go_sem, hlt, hx, hq, hil]; rfl) ?_) | refine runD_nil ⟨by kernel_rfl, ?_⟩ | refine runD_nil ?_ | (refine awp_cond (b := _) (by simp only [go_sem, evB, hlt, hx, hq, hil]; rfl) (fun hcond => ?_) (fun hcond => ?_))))
          refine leavesD_ok (by first | exact Or.inl rfl | exact Or.inr rfl) (Imp.takeE 40 42 (by simp only [go_sem, renL, Loc.ren, Cont.ren, SV.ren, V1.ren, At.ren]) (by simp only [go_sem, renL, Loc.ren, Cont.ren, SV.ren, V1.ren, At.ren]; rfl) (by decide) (by simp only [go_sem, renL, Loc.ren, Cont.ren, SV.ren, V1.ren, At.ren]; rfl)) (by simp only [go_sem, resAll, resL]; rfl) (by simp only [packL]; (first | refine SubS.v ?_ | refine SubS.tup ?_); ((repeat' (first | exact All2.nil | refine All2.cons ?_ ?_ | exact SubW.one (SubA.same _) | exact SubW.one (SubA.nil _) | exact SubW.one (SubA.ptr _) | refine SubW.agg ?_ | exact SubA.same _ | exact SubA.nil _ | exact SubA.ptr _)); first | done | fail)) (by simp only [go_sem]; repeat' (first | exact trivial | refine And.intro rfl ?_))
      | false =>
        (repeat' (first | refine thenL_n ?_ | refine thenL_r ?_ | refine thenL_x ?_ | refine blockL_n ?_ | refine blockL_r ?_ | refine blockL_x ?_ | refine blockL_y rfl ?_ | refine awp_seq ?_ | refine awp_block ?_ | refine awp_ret ?_ | refine awp_exit ?_ | refine awp_skip ?_ | exact absurd hcond (by decide) | (refine awp_txt ?_; refine runs_to [] (by simp only [go_sem, hlt, hx, hq, hw, hil]; rfl) ?_) | (refine awp_draw mixed ?_; refine runs_to [] (by simp only [go_sem, hlt, hx, hq, hw, hil]; rfl) ?_) | refine runD_nil ⟨by kernel_rfl, ?_⟩ | refine runD_nil ?_ | (refine awp_cond (b := _) (by simp only [go_sem, evB, hlt, hx, hq, hw, hil]; rfl) (fun hcond => ?_) (fun hcond => ?_))))
        refine ⟨i + 1, ⟨by omega, fun y hy => ?_⟩, by omega, (by refine Imp.of_in ?_; simp only [go_sem])⟩
        rw [hts] at hy
        rcases List.mem_append.1 hy with hy | hy
        · exact hok y hy
        · simp at hy; subst hy; simpa using hq
    · have hta : ps.take i = ps := by rw [show i = ps.length by omega, List.take_length]
      rw [hta] at hok
      have hnin : f ∉ ps.map (·.f) := fun h => by
        obtain ⟨y, hy, e⟩ := List.mem_map.1 h
        exact hok y hy e
      cases b with
      | false => exact absurd (hbf rfl).1 hnin
      | true =>
        rw [(hbt rfl).2]
        have hc1 : ps.length + 1 ≤ 70368744177664 := by omega
        have hc2 : (ps.length + 1) * 48 ≤ 140737488355328 := by omega
        have hmap : List.map vAn (ps ++ [⟨f, xs, xd, m⟩]) = List.map vAn ps ++ [vAn ⟨f, xs, xd, m⟩] := by simp
        (repeat' (first | refine thenL_n ?_ | refine thenL_r ?_ | refine thenL_x ?_ | refine blockL_n ?_ | refine blockL_r ?_ | refine blockL_x ?_ | refine blockL_y rfl ?_ | refine awp_seq ?_ | refine awp_block ?_ | refine awp_ret ?_ | refine awp_exit ?_ | refine awp_skip ?_ | exact absurd hcond (by decide) | (refine awp_txt ?_; refine runs_to [] (by simp only [go_sem, hlt, hc1, hc2]; rfl) ?_) | (refine awp_draw mixed ?_; refine runs_to [] (by simp only [go_sem, hlt, hc1, hc2]; rfl) ?_) | refine runD_nil ⟨by kernel_rfl, ?_⟩ | refine runD_nil ?_ | (refine awp_cond (b := _) (by simp only [go_sem, evB, hlt, hc1, hc2]; rfl) (fun hcond => ?_) (fun hcond => ?_))))
        refine leavesD_ok (by first | exact Or.inl rfl | exact Or.inr rfl) (Imp.takeE 71 42 (by simp only [go_sem, renL, Loc.ren, Cont.ren, SV.ren, V1.ren, At.ren, hmap]) (by simp only [go_sem, renL, Loc.ren, Cont.ren, SV.ren, V1.ren, At.ren, hmap]; rfl) (by decide) (by simp only [go_sem, renL, Loc.ren, Cont.ren, SV.ren, V1.ren, At.ren, hmap]; rfl)) (by simp only [go_sem, resAll, resL, hmap]; rfl) (by simp only [packL]; (first | refine SubS.v ?_ | refine SubS.tup ?_); ((repeat' (first | exact All2.nil | refine All2.cons ?_ ?_ | exact SubW.one (SubA.same _) | exact SubW.one (SubA.nil _) | exact SubW.one (SubA.ptr _) | refine SubW.agg ?_ | exact SubA.same _ | exact SubA.nil _ | exact SubA.ptr _)); first | done | fail)) (by simp only [go_sem, hmap]; repeat' (first | exact trivial | refine And.intro rfl ?_))
  exact ⟨fun hin => loop false ps (fun _ => ⟨hin, rfl⟩) (by simp), fun hin => loop true _ (by simp) fun _ => ⟨hin, rfl⟩⟩
end Go.Proofs.Ytbohgpdpglfepaa
