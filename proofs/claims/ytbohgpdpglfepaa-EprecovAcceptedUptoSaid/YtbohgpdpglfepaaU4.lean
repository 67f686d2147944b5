import Derived.Test.YtbohgpdpglfepaaU3
set_option maxHeartbeats 4000000
set_option maxRecDepth 10000
set_option linter.unusedVariables false
set_option linter.unusedSimpArgs false
namespace Go.Proofs.Ytbohgpdpglfepaa
open Go.AM Go.RowKit
attribute [local irreducible] AWP thenL blockL AM.Leaves LeavesO RunD
attribute [local go_sem] runs stepR actF inF frzA frzW lastW act act1 actPick actNil actBin
  actUn actConv actExtract actFieldAddr actField actAlloc keysOf actBox actLoad treesOf actStore actIndex
  actLen actMx srcL actAppend actMake actBuild actBuildSlice boundL actSlice actCall actEqS isStruct
  isSlice actText actCopy litsOf kindsOK fieldsPlain eqAll eqop dstB dstN boolS litB
  litV sv binv unv lits takeC cellsR trees cellsW mxv repl parts
  fillAt fillRows V1.cs mkV ev evr AM.look put del applyL delD wrD
  undefS SV.to V1.to At.to keysL notIn freshKey PV.up PR.up entry entryV evp
  isAt actPtrNil capsL actFunc sameV sameVs pureCtx doc mkVar AM.Loc.key Cont.keys SV.keys
  V1.keys At.keys Cont.sub SV.sub V1.sub At.sub guardR argsL callR Nat.blt_eq Nat.blt Nat.ble
  Nat.beq_eq_true_eq beq_self_eq_true Array.toList List.map List.append_eq List.nil_append List.cons_append List.append_nil List.append_assoc Bool.and_eq_true decide_true decide_false
  decide_eq_true_eq Bool.not_true Bool.not_false reduceCtorEq if_true if_false ite_true ite_false reduceIte AM.Loc.slot.injEq AM.Loc.cell.injEq AM.Loc.vec.injEq
  List.getElem?_cons_zero List.getElem?_cons_succ List.getElem?_nil Option.map_some Option.map_none Option.toList List.flatMap_nil List.flatMap_cons Bool.and_true Bool.true_and Bool.and_false Bool.false_and
  Bool.true_eq_false Bool.false_eq_true Nat.reduceBEq Nat.reduceEqDiff bool_beq_tt bool_beq_ff bool_beq_tf bool_beq_ft List.length_cons List.length_nil List.drop List.take
  List.drop_zero List.take_zero List.all_cons List.all_nil Value.oneCell' Nat.zero_add Nat.reduceAdd Nat.reduceMul Nat.reduceSub Nat.reduceLT Nat.reduceLeDiff Int.reduceLT
  Int.reduceLE Int.reduceEq Int.reduceBEq Int.reduceBNe Int.reduceAdd Int.reduceSub Int.reduceMul Int.reduceNeg Int.reduceToNat Nat.succ_ne_zero List.replicate and_true
  true_and and_false false_and and_self ge_iff_le gt_iff_lt bne_self_eq_false List.zip_cons_cons List.zip_nil_left List.zip List.zipWith Int.natCast_nonneg
  Int.toNat_natCast List.getElem?_map List.length_map sT sI sB sR sP rV AllIn Int.toNat_zero Int.ofNat_zero
  Int.natCast_zero Nat.le_refl List.mapM_cons List.mapM_nil Option.bind_eq_bind Option.bind_some Option.pure_def List.set_cons_zero List.set_cons_succ List.length_set tt2 tt3
  tt4 tt5 tt9 tt12 tt21 tt22 tt23 tt24 tt25 tt36 tt37 tt43
  tt44 tt51 tt52 tt53 tt59 tt67 tt68 tt69 tt74 tt75 tt76 tt77
  tt78 tt79 tt89 tt92 tt95 tt96 tt97 tt98 tt99 tt102 tt103 tt106
  tt107 tt108 tt114 tt115 tt116 tt117 tt118 tt119 tt120 tt122 tt124 tt125
  tt126 tt127 tt130 tt131 tt132 tt133 tt134 tt135 tt137 tt138 tt139 tt147
  tt148 tt149 tt159 tt164 tt165 tt167 tt168 tt169 tt170 tt171 tt190 tt191
  tt194 tt200 tt208 tt212
attribute [local go_sem] vlit bal rInt rBool vInts pInts vvInts vPairs att vAtts

def lI (n : Int) : At := .t (.lit (.int .i64 n))
def lB (b : Bool) : At := .t (.lit (.bool b))
def vK (κ κ' : Nat) (n : Int) (who : List Int) : L := [(.cell κ 0, .c (lI n)), (.cell κ 1, .c (.row κ')), (.vec κ', rV 3 who)]
attribute [local go_sem] lI lB vK

theorem c58 (n me : Int) (h : ¬ (1 ≤ n ∧ n ≤ 7 ∧ 0 ≤ me ∧ me < n)) : Pure Try.prog 58 [vlit (.int .i64 n), vlit (.int .i64 me)] (.tup [vlit (.pointer none), vlit (.bool false)]) := by
  by_cases h1 : 1 ≤ n ∧ n ≤ 7
  · have hm : (maj n == 0) = false := by rw [maj_in h1]; simp; omega
    by_cases h2 : me < 0
    · refine pure_of_body Try.func58 rfl (by simp [Try.f58]) ?_; rw [Try.ntmps58, Try.results58]; intro w0 G0
      ((repeat' (first | refine thenL_n ?_ | refine thenL_r ?_ | refine thenL_x ?_ | refine blockL_n ?_ | refine blockL_r ?_ | refine blockL_x ?_ | refine blockL_y rfl ?_ | refine awp_seq ?_ | refine awp_block ?_ | refine awp_ret ?_ | refine awp_exit ?_ | refine awp_skip ?_ | exact absurd hcond (by decide) | (refine awp_txt ?_; refine runs_to [] (by simp only [go_sem, hm, h2]; rfl) ?_) | (refine awp_draw mixed ?_; refine runs_to [] (by simp only [go_sem, hm, h2]; rfl) ?_) | refine runD_nil ⟨by kernel_rfl, ?_⟩ | refine runD_nil ?_ | (refine runD_call (c51 _) cb51 (by rfl) (by simp only [go_sem, hm, h2]; rfl) (by ((repeat' (first | exact All2.nil | refine All2.cons ?_ ?_ | exact SubV.one (SubT.same _) | exact SubV.one (SubT.nil _) | refine SubV.agg ?_ | exact SubT.same _ | exact SubT.nil _)); first | done | fail)) ?_; refine runs_to [] (by simp only [go_sem, hm, h2]; rfl) ?_) | (refine awp_cond (b := _) (by simp only [go_sem, evB, hm, h2]; rfl) (fun hcond => ?_) (fun hcond => ?_)))); all_goals (refine leaves_ok (by first | exact Or.inl rfl | exact Or.inr rfl) (by simp only [go_sem, resAll, resL, packL, vecsOf, freezeAll, freezeL, hm, h2]; rfl) ?_; (first | refine SubR.v ?_ | refine SubR.tup ?_); ((repeat' (first | exact All2.nil | refine All2.cons ?_ ?_ | exact SubV.one (SubT.same _) | exact SubV.one (SubT.nil _) | refine SubV.agg ?_ | exact SubT.same _ | exact SubT.nil _)); first | done | fail)))
    · have h3 : n ≤ me := by omega
      refine pure_of_body Try.func58 rfl (by simp [Try.f58]) ?_; rw [Try.ntmps58, Try.results58]; intro w0 G0
      ((repeat' (first | refine thenL_n ?_ | refine thenL_r ?_ | refine thenL_x ?_ | refine blockL_n ?_ | refine blockL_r ?_ | refine blockL_x ?_ | refine blockL_y rfl ?_ | refine awp_seq ?_ | refine awp_block ?_ | refine awp_ret ?_ | refine awp_exit ?_ | refine awp_skip ?_ | exact absurd hcond (by decide) | (refine awp_txt ?_; refine runs_to [] (by simp only [go_sem, hm, h2, h3]; rfl) ?_) | (refine awp_draw mixed ?_; refine runs_to [] (by simp only [go_sem, hm, h2, h3]; rfl) ?_) | refine runD_nil ⟨by kernel_rfl, ?_⟩ | refine runD_nil ?_ | (refine runD_call (c51 _) cb51 (by rfl) (by simp only [go_sem, hm, h2, h3]; rfl) (by ((repeat' (first | exact All2.nil | refine All2.cons ?_ ?_ | exact SubV.one (SubT.same _) | exact SubV.one (SubT.nil _) | refine SubV.agg ?_ | exact SubT.same _ | exact SubT.nil _)); first | done | fail)) ?_; refine runs_to [] (by simp only [go_sem, hm, h2, h3]; rfl) ?_) | (refine awp_cond (b := _) (by simp only [go_sem, evB, hm, h2, h3]; rfl) (fun hcond => ?_) (fun hcond => ?_)))); all_goals (refine leaves_ok (by first | exact Or.inl rfl | exact Or.inr rfl) (by simp only [go_sem, resAll, resL, packL, vecsOf, freezeAll, freezeL, hm, h2, h3]; rfl) ?_; (first | refine SubR.v ?_ | refine SubR.tup ?_); ((repeat' (first | exact All2.nil | refine All2.cons ?_ ?_ | exact SubV.one (SubT.same _) | exact SubV.one (SubT.nil _) | refine SubV.agg ?_ | exact SubT.same _ | exact SubT.nil _)); first | done | fail)))
  · have hm : (maj n == 0) = true := by rw [maj_out h1]; rfl
    refine pure_of_body Try.func58 rfl (by simp [Try.f58]) ?_; rw [Try.ntmps58, Try.results58]; intro w0 G0
    ((repeat' (first | refine thenL_n ?_ | refine thenL_r ?_ | refine thenL_x ?_ | refine blockL_n ?_ | refine blockL_r ?_ | refine blockL_x ?_ | refine blockL_y rfl ?_ | refine awp_seq ?_ | refine awp_block ?_ | refine awp_ret ?_ | refine awp_exit ?_ | refine awp_skip ?_ | exact absurd hcond (by decide) | (refine awp_txt ?_; refine runs_to [] (by simp only [go_sem, hm]; rfl) ?_) | (refine awp_draw mixed ?_; refine runs_to [] (by simp only [go_sem, hm]; rfl) ?_) | refine runD_nil ⟨by kernel_rfl, ?_⟩ | refine runD_nil ?_ | (refine runD_call (c51 _) cb51 (by rfl) (by simp only [go_sem, hm]; rfl) (by ((repeat' (first | exact All2.nil | refine All2.cons ?_ ?_ | exact SubV.one (SubT.same _) | exact SubV.one (SubT.nil _) | refine SubV.agg ?_ | exact SubT.same _ | exact SubT.nil _)); first | done | fail)) ?_; refine runs_to [] (by simp only [go_sem, hm]; rfl) ?_) | (refine awp_cond (b := _) (by simp only [go_sem, evB, hm]; rfl) (fun hcond => ?_) (fun hcond => ?_)))); all_goals (refine leaves_ok (by first | exact Or.inl rfl | exact Or.inr rfl) (by simp only [go_sem, resAll, resL, packL, vecsOf, freezeAll, freezeL, hm]; rfl) ?_; (first | refine SubR.v ?_ | refine SubR.tup ?_); ((repeat' (first | exact All2.nil | refine All2.cons ?_ ?_ | exact SubV.one (SubT.same _) | exact SubV.one (SubT.nil _) | refine SubV.agg ?_ | exact SubT.same _ | exact SubT.nil _)); first | done | fail)))

theorem s58 (n me : Int) (h1 : 1 ≤ n ∧ n ≤ 7) (h2 : 0 ≤ me) (h3 : me < n) : Does Try.prog 58 [.one (lI n), .one (lI me)] [] (.tup [.one (.ptr 22 0), .one (lB true)]) (vK 22 20 n [me]) := by
  have hm : (maj n == 0) = false := by rw [maj_in h1]; simp; omega
  have h2' : ¬ me < 0 := by omega
  have h3' : ¬ n ≤ me := by omega
  refine does_of_body Try.func58 rfl (by simp [Try.f58]) rfl rfl ?_; rw [Try.ntmps58, Try.results58]; intro w0 G0 ρ0
  ((repeat' (first | refine thenL_n ?_ | refine thenL_r ?_ | refine thenL_x ?_ | refine blockL_n ?_ | refine blockL_r ?_ | refine blockL_x ?_ | refine blockL_y rfl ?_ | refine awp_seq ?_ | refine awp_block ?_ | refine awp_ret ?_ | refine awp_exit ?_ | refine awp_skip ?_ | exact absurd hcond (by decide) | (refine awp_txt ?_; refine runs_to [] (by simp only [go_sem, hm, h2', h3']; rfl) ?_) | (refine awp_draw mixed ?_; refine runs_to [] (by simp only [go_sem, hm, h2', h3']; rfl) ?_) | refine runD_nil ⟨by kernel_rfl, ?_⟩ | refine runD_nil ?_ | (refine runD_call (c51 _) cb51 (by rfl) (by simp only [go_sem, hm, h2', h3']; rfl) (by ((repeat' (first | exact All2.nil | refine All2.cons ?_ ?_ | exact SubV.one (SubT.same _) | exact SubV.one (SubT.nil _) | refine SubV.agg ?_ | exact SubT.same _ | exact SubT.nil _)); first | done | fail)) ?_; refine runs_to [] (by simp only [go_sem, hm, h2', h3']; rfl) ?_) | (refine awp_cond (b := _) (by simp only [go_sem, evB, hm, h2', h3']; rfl) (fun hcond => ?_) (fun hcond => ?_)))); all_goals (refine leavesD_ok (by first | exact Or.inl rfl | exact Or.inr rfl) (Imp.refl _) (by simp only [go_sem, resAll, resL, hm, h2', h3']; rfl) (by simp only [packL]; (first | refine SubS.v ?_ | refine SubS.tup ?_); ((repeat' (first | exact All2.nil | refine All2.cons ?_ ?_ | exact SubW.one (SubA.same _) | exact SubW.one (SubA.nil _) | exact SubW.one (SubA.ptr _) | refine SubW.agg ?_ | exact SubA.same _ | exact SubA.nil _ | exact SubA.ptr _)); first | done | fail)) (by simp only [go_sem, hm, h2', h3']; repeat' (first | exact trivial | refine And.intro rfl ?_))))

theorem foldS {α β : Type} (f : β → α → β) (b : β) (ps : List α) (i : Nat) (h : i < ps.length) : (ps.take (i + 1)).foldl f b = f ((ps.take i).foldl f b) ps[i] := by
  rw [List.take_succ_eq_append_getElem h, List.foldl_append]; rfl

/-- One more vote. -/
def add1 (n : Int) (who : List Int) (r : Int) : List Int := if 0 ≤ r ∧ r < n ∧ r ∉ who then who ++ [r] else who
def addW (n : Int) (who l : List Int) : List Int := l.foldl (add1 n) who
theorem addW_len (n : Int) : ∀ (l who : List Int), who.length ≤ (addW n who l).length ∧ (addW n who l).length ≤ who.length + l.length
  | [], who => by simp [addW]
  | r :: l, who => by
    have := addW_len n l (add1 n who r)
    have h2 : who.length ≤ (add1 n who r).length ∧ (add1 n who r).length ≤ who.length + 1 := by
      unfold add1; split <;> simp
    simp only [addW, List.foldl_cons, List.length_cons] at this ⊢
    omega

theorem s60 (n : Int) (who : List Int) : Does Try.prog 60 [.one (.ptr 100000 0)] (vK 100000 100001 n who) (.v (.one (lI who.length))) (vK 100000 100001 n who) := by
  refine does_of_body Try.func60 rfl (by simp [Try.f60]) rfl rfl ?_; rw [Try.ntmps60, Try.results60]; intro w0 G0 ρ0
  ((repeat' (first | refine thenL_n ?_ | refine thenL_r ?_ | refine thenL_x ?_ | refine blockL_n ?_ | refine blockL_r ?_ | refine blockL_x ?_ | refine blockL_y rfl ?_ | refine awp_seq ?_ | refine awp_block ?_ | refine awp_ret ?_ | refine awp_exit ?_ | refine awp_skip ?_ | exact absurd hcond (by decide) | (refine awp_txt ?_; refine runs_to [] (by simp only [go_sem]; rfl) ?_) | (refine awp_draw mixed ?_; refine runs_to [] (by simp only [go_sem]; rfl) ?_) | refine runD_nil ⟨by kernel_rfl, ?_⟩ | refine runD_nil ?_ | (refine awp_cond (b := _) (by simp only [go_sem, evB]; rfl) (fun hcond => ?_) (fun hcond => ?_)))); all_goals (refine leavesD_ok (by first | exact Or.inl rfl | exact Or.inr rfl) (Imp.refl _) (by simp only [go_sem, resAll, resL]; rfl) (by simp only [packL]; (first | refine SubS.v ?_ | refine SubS.tup ?_); ((repeat' (first | exact All2.nil | refine All2.cons ?_ ?_ | exact SubW.one (SubA.same _) | exact SubW.one (SubA.nil _) | exact SubW.one (SubA.ptr _) | refine SubW.agg ?_ | exact SubA.same _ | exact SubA.nil _ | exact SubA.ptr _)); first | done | fail)) (by simp only [go_sem]; repeat' (first | exact trivial | refine And.intro rfl ?_))))

theorem s61 (n : Int) (who : List Int) : Does Try.prog 61 [.one (.ptr 100000 0)] (vK 100000 100001 n who) (.v (.one (lB (decide (maj n ≤ who.length))))) (vK 100000 100001 n who) := by
  refine does_of_body Try.func61 rfl (by simp [Try.f61]) rfl rfl ?_; rw [Try.ntmps61, Try.results61]; intro w0 G0 ρ0
  ((repeat' (first | refine thenL_n ?_ | refine thenL_r ?_ | refine thenL_x ?_ | refine blockL_n ?_ | refine blockL_r ?_ | refine blockL_x ?_ | refine blockL_y rfl ?_ | refine awp_seq ?_ | refine awp_block ?_ | refine awp_ret ?_ | refine awp_exit ?_ | refine awp_skip ?_ | exact absurd hcond (by decide) | (refine awp_txt ?_; refine runs_to [] (by simp only [go_sem]; rfl) ?_) | (refine awp_draw mixed ?_; refine runs_to [] (by simp only [go_sem]; rfl) ?_) | refine runD_nil ⟨by kernel_rfl, ?_⟩ | refine runD_nil ?_ | (refine runD_call (c51 _) cb51 (by rfl) (by simp only [go_sem]; rfl) (by ((repeat' (first | exact All2.nil | refine All2.cons ?_ ?_ | exact SubV.one (SubT.same _) | exact SubV.one (SubT.nil _) | refine SubV.agg ?_ | exact SubT.same _ | exact SubT.nil _)); first | done | fail)) ?_; refine runs_to [] (by simp only [go_sem]; rfl) ?_) | (refine awp_cond (b := _) (by simp only [go_sem, evB]; rfl) (fun hcond => ?_) (fun hcond => ?_)))); all_goals (refine leavesD_ok (by first | exact Or.inl rfl | exact Or.inr rfl) (Imp.refl _) (by simp only [go_sem, resAll, resL]; rfl) (by simp only [packL]; (first | refine SubS.v ?_ | refine SubS.tup ?_); ((repeat' (first | exact All2.nil | refine All2.cons ?_ ?_ | exact SubW.one (SubA.same _) | exact SubW.one (SubA.nil _) | exact SubW.one (SubA.ptr _) | refine SubW.agg ?_ | exact SubA.same _ | exact SubA.nil _ | exact SubA.ptr _)); first | done | fail)) (by simp only [go_sem]; repeat' (first | exact trivial | refine And.intro rfl ?_))))

theorem s59 (n : Int) (who l : List Int) (hl : l.length * 8 ≤ 140737488351232) (hw : who.length ≤ 100) : Does Try.prog 59 [.one (.ptr 100000 0), .one (.t (vInts l))] (vK 100000 100001 n who) (.v (.one (lI ((addW n who l).length - who.length)))) (vK 100000 40 n (addW n who l)) := by
  have hl2 : l.length ≤ 4611686018427387903 := by omega
  refine does_of_body Try.func59 rfl (by simp [Try.f59]) rfl rfl ?_; rw [Try.ntmps59, Try.results59]; intro w0 G0 ρ0
  refine awp_imp (Imp.take 100001 40 (c := rV 3 who) (by simp only [go_sem]) (by simp only [go_sem]) (by decide) (Imp.refl _)) ?_
  (repeat' (first | refine thenL_n ?_ | refine thenL_r ?_ | refine thenL_x ?_ | refine blockL_n ?_ | refine blockL_r ?_ | refine blockL_x ?_ | refine blockL_y rfl ?_ | refine awp_seq ?_ | refine awp_block ?_ | refine awp_ret ?_ | refine awp_exit ?_ | refine awp_skip ?_ | exact absurd hcond (by decide) | (refine awp_txt ?_; refine runs_to [] (by simp only [go_sem, renL, Loc.ren, Cont.ren, SV.ren, V1.ren, At.ren]; rfl) ?_) | (refine awp_draw mixed ?_; refine runs_to [] (by simp only [go_sem, renL, Loc.ren, Cont.ren, SV.ren, V1.ren, At.ren]; rfl) ?_) | refine runD_nil ⟨by kernel_rfl, ?_⟩ | refine runD_nil ?_ | (refine awp_cond (b := _) (by simp only [go_sem, evB, renL, Loc.ren, Cont.ren, SV.ren, V1.ren, At.ren]; rfl) (fun hcond => ?_) (fun hcond => ?_))))
  refine awp_loop (fun i : Nat => [(.slot 0, sP 100000), (.cell 100000 0, .c (lI n)), (.cell 100000 1, .c (.row 40)), (.vec 40, rV 3 (addW n who (l.take i))), (.slot 5, sI ((addW n who (l.take i)).length - who.length)), (.slot 8, sT (vInts l)), (.slot 9, sI l.length), (.slot 10, sI i)]) (fun i => i ≤ l.length) (fun i => l.length - i) 0 (Nat.zero_le _) (by refine Imp.of_in ?_; simp only [go_sem, addW, List.foldl_nil, Int.sub_self, renL, Loc.ren, Cont.ren, SV.ren, V1.ren, At.ren]) ?_
  intro i hi
  have hal := addW_len n (l.take i) who
  have htl : (l.take i).length ≤ i := by rw [List.length_take]; omega
  by_cases hlt : (i : Int) < l.length
  · have hx : l[i]? = some l[i] := List.getElem?_eq_getElem (by omega)
    have hfin : addW n who (l.take (i + 1)) = add1 n (addW n who (l.take i)) l[i] := foldS (add1 n) who l i (by omega)
    have hwi := up i (by omega)
    generalize l[i] = r at hx hfin
    by_cases h1 : 0 ≤ r
    · by_cases h2 : r < n
      · have hal2 : (addW n who (l.take i)).length ≤ 4611686018427387903 := by omega
        have hc1 : (addW n who (l.take i)).length + 1 ≤ 140737488355328 := by omega
        have hc2 : ((addW n who (l.take i)).length + 1) * 8 ≤ 140737488355328 := by omega
        have hwr : IntKind.i64.wrap (((addW n who (l.take i)).length : Int) - who.length + 1) = ((addW n who (l.take i)).length : Int) - who.length + 1 := IntWalk.i64_in _ ⟨by omega, by omega⟩
        generalize addW n who (l.take i) = z at hfin hal hal2 hc1 hc2 hwr
        by_cases h3 : r ∈ z
        · have h3' : decide (r ∈ z) = true := by simp [h3]
          have hz : add1 n z r = z := by rw [add1, if_neg (by simp [h3])]
          rw [hz] at hfin
          (repeat' (first | refine thenL_n ?_ | refine thenL_r ?_ | refine thenL_x ?_ | refine blockL_n ?_ | refine blockL_r ?_ | refine blockL_x ?_ | refine blockL_y rfl ?_ | refine awp_seq ?_ | refine awp_block ?_ | refine awp_ret ?_ | refine awp_exit ?_ | refine awp_skip ?_ | exact absurd hcond (by decide) | (refine awp_txt ?_; refine runs_to [] (by simp only [go_sem, hlt, hx, h1, h2, h3', hwi]; rfl) ?_) | (refine awp_draw mixed ?_; refine runs_to [] (by simp only [go_sem, hlt, hx, h1, h2, h3', hwi]; rfl) ?_) | refine runD_nil ⟨by kernel_rfl, ?_⟩ | refine runD_nil ?_ | (refine runD_lend (c95 z r hal2) cb95 (by rfl) (.inl (by simp only [go_sem, hlt, hx, h1, h2, h3', hwi]; rfl)) (by simp only [go_sem, lendL, lendV, lendA, lendAs, hlt, hx, h1, h2, h3', hwi]; rfl) (by ((repeat' (first | exact All2.nil | refine All2.cons ?_ ?_ | exact SubV.one (SubT.same _) | exact SubV.one (SubT.nil _) | refine SubV.agg ?_ | exact SubT.same _ | exact SubT.nil _)); first | done | fail)) (by rfl) ?_; refine runs_to [] (by simp only [go_sem, hlt, hx, h1, h2, h3', hwi]; rfl) ?_) | (refine awp_cond (b := _) (by simp only [go_sem, evB, hlt, hx, h1, h2, h3', hwi]; rfl) (fun hcond => ?_) (fun hcond => ?_))))
          refine ⟨i + 1, by omega, by omega, (by refine Imp.of_in ?_; simp only [go_sem, hfin])⟩
        · have h3' : decide (r ∈ z) = false := by simp [h3]
          have hz : add1 n z r = z ++ [r] := by rw [add1, if_pos ⟨h1, h2, h3⟩]
          rw [hz] at hfin
          have hlen : (((z ++ [r]).length : Nat) : Int) - who.length = (z.length : Int) - who.length + 1 := by simp; omega
          have hmap : List.map (fun n => [T.lit (.int .i64 n)]) (z ++ [r]) = List.map (fun n => [T.lit (.int .i64 n)]) z ++ [[T.lit (.int .i64 r)]] := by simp
          (repeat' (first | refine thenL_n ?_ | refine thenL_r ?_ | refine thenL_x ?_ | refine blockL_n ?_ | refine blockL_r ?_ | refine blockL_x ?_ | refine blockL_y rfl ?_ | refine awp_seq ?_ | refine awp_block ?_ | refine awp_ret ?_ | refine awp_exit ?_ | refine awp_skip ?_ | exact absurd hcond (by decide) | (refine awp_txt ?_; refine runs_to [39] (by simp only [go_sem, hlt, hx, h1, h2, h3', hwi, hc1, hc2, hwr]; rfl) ?_) | (refine awp_draw mixed ?_; refine runs_to [39] (by simp only [go_sem, hlt, hx, h1, h2, h3', hwi, hc1, hc2, hwr]; rfl) ?_) | refine runD_nil ⟨by kernel_rfl, ?_⟩ | refine runD_nil ?_ | (refine runD_lend (c95 z r hal2) cb95 (by rfl) (.inl (by simp only [go_sem, hlt, hx, h1, h2, h3', hwi, hc1, hc2, hwr]; rfl)) (by simp only [go_sem, lendL, lendV, lendA, lendAs, hlt, hx, h1, h2, h3', hwi, hc1, hc2, hwr]; rfl) (by ((repeat' (first | exact All2.nil | refine All2.cons ?_ ?_ | exact SubV.one (SubT.same _) | exact SubV.one (SubT.nil _) | refine SubV.agg ?_ | exact SubT.same _ | exact SubT.nil _)); first | done | fail)) (by rfl) ?_; refine runs_to [] (by simp only [go_sem, hlt, hx, h1, h2, h3', hwi, hc1, hc2, hwr]; rfl) ?_) | (refine awp_cond (b := _) (by simp only [go_sem, evB, hlt, hx, h1, h2, h3', hwi, hc1, hc2, hwr]; rfl) (fun hcond => ?_) (fun hcond => ?_))))
          refine ⟨i + 1, by omega, by omega, (by refine Imp.back 1040 40 (by simp only [go_sem, renL, Loc.ren, Cont.ren, SV.ren, V1.ren, At.ren,  hfin, hlen, hmap]) (by simp only [go_sem, renL, Loc.ren, Cont.ren, SV.ren, V1.ren, At.ren,  hfin, hlen, hmap]) (by simp only [go_sem, renL, Loc.ren, Cont.ren, SV.ren, V1.ren, At.ren,  hfin, hlen, hmap]) (by decide) (by decide) ?_; refine Imp.of_in ?_; simp only [go_sem, renL, Loc.ren, Cont.ren, SV.ren, V1.ren, At.ren,  hfin, hlen, hmap])⟩
      · have hz : add1 n (addW n who (l.take i)) r = addW n who (l.take i) := by rw [add1, if_neg (by omega)]
        rw [hz] at hfin
        (repeat' (first | refine thenL_n ?_ | refine thenL_r ?_ | refine thenL_x ?_ | refine blockL_n ?_ | refine blockL_r ?_ | refine blockL_x ?_ | refine blockL_y rfl ?_ | refine awp_seq ?_ | refine awp_block ?_ | refine awp_ret ?_ | refine awp_exit ?_ | refine awp_skip ?_ | exact absurd hcond (by decide) | (refine awp_txt ?_; refine runs_to [] (by simp only [go_sem, hlt, hx, h1, h2, hwi]; rfl) ?_) | (refine awp_draw mixed ?_; refine runs_to [] (by simp only [go_sem, hlt, hx, h1, h2, hwi]; rfl) ?_) | refine runD_nil ⟨by kernel_rfl, ?_⟩ | refine runD_nil ?_ | (refine awp_cond (b := _) (by simp only [go_sem, evB, hlt, hx, h1, h2, hwi]; rfl) (fun hcond => ?_) (fun hcond => ?_))))
        refine ⟨i + 1, by omega, by omega, (by refine Imp.of_in ?_; simp only [go_sem, hfin])⟩
    · have hz : add1 n (addW n who (l.take i)) r = addW n who (l.take i) := by rw [add1, if_neg (by omega)]
      rw [hz] at hfin
      (repeat' (first | refine thenL_n ?_ | refine thenL_r ?_ | refine thenL_x ?_ | refine blockL_n ?_ | refine blockL_r ?_ | refine blockL_x ?_ | refine blockL_y rfl ?_ | refine awp_seq ?_ | refine awp_block ?_ | refine awp_ret ?_ | refine awp_exit ?_ | refine awp_skip ?_ | exact absurd hcond (by decide) | (refine awp_txt ?_; refine runs_to [] (by simp only [go_sem, hlt, hx, h1, hwi]; rfl) ?_) | (refine awp_draw mixed ?_; refine runs_to [] (by simp only [go_sem, hlt, hx, h1, hwi]; rfl) ?_) | refine runD_nil ⟨by kernel_rfl, ?_⟩ | refine runD_nil ?_ | (refine awp_cond (b := _) (by simp only [go_sem, evB, hlt, hx, h1, hwi]; rfl) (fun hcond => ?_) (fun hcond => ?_))))
      refine ⟨i + 1, by omega, by omega, (by refine Imp.of_in ?_; simp only [go_sem, hfin])⟩
  · have hfin : l.take i = l := by rw [show i = l.length by omega, List.take_length]
    rw [hfin]
    ((repeat' (first | refine thenL_n ?_ | refine thenL_r ?_ | refine thenL_x ?_ | refine blockL_n ?_ | refine blockL_r ?_ | refine blockL_x ?_ | refine blockL_y rfl ?_ | refine awp_seq ?_ | refine awp_block ?_ | refine awp_ret ?_ | refine awp_exit ?_ | refine awp_skip ?_ | exact absurd hcond (by decide) | (refine awp_txt ?_; refine runs_to [] (by simp only [go_sem, hlt]; rfl) ?_) | (refine awp_draw mixed ?_; refine runs_to [] (by simp only [go_sem, hlt]; rfl) ?_) | refine runD_nil ⟨by kernel_rfl, ?_⟩ | refine runD_nil ?_ | (refine awp_cond (b := _) (by simp only [go_sem, evB, hlt]; rfl) (fun hcond => ?_) (fun hcond => ?_)))); all_goals (refine leavesD_ok (by first | exact Or.inl rfl | exact Or.inr rfl) (Imp.refl _) (by simp only [go_sem, resAll, resL, hlt]; rfl) (by simp only [packL]; (first | refine SubS.v ?_ | refine SubS.tup ?_); ((repeat' (first | exact All2.nil | refine All2.cons ?_ ?_ | exact SubW.one (SubA.same _) | exact SubW.one (SubA.nil _) | exact SubW.one (SubA.ptr _) | refine SubW.agg ?_ | exact SubA.same _ | exact SubA.nil _ | exact SubA.ptr _)); first | done | fail)) (by simp only [go_sem, hlt]; repeat' (first | exact trivial | refine And.intro rfl ?_))))
end Go.Proofs.Ytbohgpdpglfepaa
