import Derived.Test.YtbohgpdpglfepaaU6
set_option maxHeartbeats 4000000
set_option maxRecDepth 10000
set_option linter.unusedVariables false
set_option linter.unusedSimpArgs false
namespace Go.Proofs.Ytbohgpdpglfepaa
open Go.AM Go.RowKit
attribute [local irreducible] AWP thenL blockL AM.Leaves LeavesO RunD
attribute [local go_sem] runs stepR actF inF frzA frzW lastW act act1 actPick actNil actBin
  actUn actConv actExtract actFieldAddr actField actAlloc keysOf actBox actLoad treesOf actStore actIndex
  actLen actMx srcL actAppend actMake actBuild actBuildSlice boundL actSlice actCall actEqS isStruct
  isSlice actText actCopy litsOf kindsOK fieldsPlain eqAll eqop dstB dstN boolS litB
  litV sv binv unv lits takeC cellsR trees cellsW mxv repl parts
  fillAt fillRows V1.cs mkV ev evr AM.look put del applyL delD wrD
  undefS SV.to V1.to At.to keysL notIn freshKey PV.up PR.up entry entryV evp
  isAt actPtrNil capsL actFunc sameV sameVs pureCtx doc mkVar AM.Loc.key Cont.keys SV.keys
  V1.keys At.keys Cont.sub SV.sub V1.sub At.sub guardR argsL callR Nat.blt_eq Nat.blt Nat.ble
  Nat.beq_eq_true_eq beq_self_eq_true Array.toList List.map List.append_eq List.nil_append List.cons_append List.append_nil List.append_assoc Bool.and_eq_true decide_true decide_false
  decide_eq_true_eq Bool.not_true Bool.not_false reduceCtorEq if_true if_false ite_true ite_false reduceIte AM.Loc.slot.injEq AM.Loc.cell.injEq AM.Loc.vec.injEq
  List.getElem?_cons_zero List.getElem?_cons_succ List.getElem?_nil Option.map_some Option.map_none Option.toList List.flatMap_nil List.flatMap_cons Bool.and_true Bool.true_and Bool.and_false Bool.false_and
  Bool.true_eq_false Bool.false_eq_true Nat.reduceBEq Nat.reduceEqDiff bool_beq_tt bool_beq_ff bool_beq_tf bool_beq_ft List.length_cons List.length_nil List.drop List.take
  List.drop_zero List.take_zero List.all_cons List.all_nil Value.oneCell' Nat.zero_add Nat.reduceAdd Nat.reduceMul Nat.reduceSub Nat.reduceLT Nat.reduceLeDiff Int.reduceLT
  Int.reduceLE Int.reduceEq Int.reduceBEq Int.reduceBNe Int.reduceAdd Int.reduceSub Int.reduceMul Int.reduceNeg Int.reduceToNat Nat.succ_ne_zero List.replicate and_true
  true_and and_false false_and and_self ge_iff_le gt_iff_lt bne_self_eq_false List.zip_cons_cons List.zip_nil_left List.zip List.zipWith Int.natCast_nonneg
  Int.toNat_natCast List.getElem?_map List.length_map sT sI sB sR sP rV AllIn Int.toNat_zero Int.ofNat_zero
  Int.natCast_zero Nat.le_refl List.mapM_cons List.mapM_nil Option.bind_eq_bind Option.bind_some Option.pure_def List.set_cons_zero List.set_cons_succ List.length_set tt2 tt3
  tt4 tt5 tt9 tt12 tt21 tt22 tt23 tt24 tt25 tt36 tt37 tt43
  tt44 tt51 tt52 tt53 tt59 tt67 tt68 tt69 tt74 tt75 tt76 tt77
  tt78 tt79 tt89 tt92 tt95 tt96 tt97 tt98 tt99 tt102 tt103 tt106
  tt107 tt108 tt114 tt115 tt116 tt117 tt118 tt119 tt120 tt122 tt124 tt125
  tt126 tt127 tt130 tt131 tt132 tt133 tt134 tt135 tt137 tt138 tt139 tt147
  tt148 tt149 tt159 tt164 tt165 tt167 tt168 tt169 tt170 tt171 tt190 tt191
  tt194 tt200 tt208 tt212
attribute [local go_sem] vlit bal rInt rBool vInts pInts vvInts vPairs att vAtts lI lB vK tK

/-- Who has voted, one by one. -/
def whoR (W : List Int) : List (List T) := [[.lit (.bool (decide (0 ∈ W)))], [.lit (.bool (decide (1 ∈ W)))], [.lit (.bool (decide (2 ∈ W)))], [.lit (.bool (decide (3 ∈ W)))], [.lit (.bool (decide (4 ∈ W)))], [.lit (.bool (decide (5 ∈ W)))], [.lit (.bool (decide (6 ∈ W)))]]
def b1 (b : Bool) : Nat := if b then 1 else 0
def cnt (W : List Int) : Nat := b1 (decide (0 ∈ W)) + b1 (decide (1 ∈ W)) + b1 (decide (2 ∈ W)) + b1 (decide (3 ∈ W)) + b1 (decide (4 ∈ W)) + b1 (decide (5 ∈ W)) + b1 (decide (6 ∈ W))
theorem b1_le (b : Bool) : b1 b ≤ 1 := by cases b <;> decide
theorem cnt_le (W : List Int) : cnt W ≤ 7 := by
  have := b1_le (decide (0 ∈ W)); have := b1_le (decide (1 ∈ W)); have := b1_le (decide (2 ∈ W)); have := b1_le (decide (3 ∈ W)); have := b1_le (decide (4 ∈ W)); have := b1_le (decide (5 ∈ W)); have := b1_le (decide (6 ∈ W))
  unfold cnt; omega
theorem seven {r : Int} (h0 : 0 ≤ r) (h1 : r < 7) : r = 0 ∨ r = 1 ∨ r = 2 ∨ r = 3 ∨ r = 4 ∨ r = 5 ∨ r = 6 := by omega
theorem cnt_add {W : List Int} {r : Int} (h0 : 0 ≤ r) (h1 : r < 7) (h : r ∉ W) : cnt (W ++ [r]) = cnt W + 1 := by
  rcases seven h0 h1 with rfl | rfl | rfl | rfl | rfl | rfl | rfl <;> simp [cnt, b1, h] <;> omega
theorem whoR_get {W : List Int} {r : Int} (h0 : 0 ≤ r) (h1 : r < 7) : (whoR W)[r.toNat]? = some [.lit (.bool (decide (r ∈ W)))] := by
  rcases seven h0 h1 with rfl | rfl | rfl | rfl | rfl | rfl | rfl <;> rfl
theorem whoR_set {W : List Int} {r : Int} (h0 : 0 ≤ r) (h1 : r < 7) : (whoR W).set r.toNat [.lit (.bool true)] = whoR (W ++ [r]) := by
  rcases seven h0 h1 with rfl | rfl | rfl | rfl | rfl | rfl | rfl <;> simp [whoR]
theorem whoR_len (W : List Int) : (whoR W).length = 7 := rfl

def VI (n : Int) (W : List Int) : Prop := W.length = cnt W
theorem VI_add1 {n : Int} {W : List Int} (hn : n ≤ 7) (h : VI n W) (r : Int) : VI n (add1 n W r) := by
  by_cases hr : 0 ≤ r ∧ r < n ∧ r ∉ W
  · rw [add1_yes hr]
    unfold VI at h ⊢
    rw [cnt_add hr.1 (by omega) hr.2.2, ← h]; simp
  · rw [add1_no hr]; exact h
theorem VI_addW {n : Int} (hn : n ≤ 7) : ∀ (l W : List Int), VI n W → VI n (addW n W l)
  | [], W, h => h
  | r :: l, W, h => VI_addW hn l _ (VI_add1 hn h r)
theorem VI_one {n me : Int} (h0 : 0 ≤ me) (h1 : me < 7) : VI n [me] := by
  have := cnt_add (W := []) h0 h1 (by simp)
  unfold VI
  simp only [List.nil_append] at this
  rw [this]; rfl

def st10 (n me : Int) (fr : List (List Int)) (i : Nat) (W : List Int) : L := [(.slot 0, sI n), (.slot 1, sI me), (.slot 2, sT (vvInts fr)), (.slot 7, sP 19), (.cell 19 0, .c (lI n)), (.cell 19 1, .c (.row 90)), (.vec 90, rV 3 W), (.slot 9, .s (.v (.one (.vptr 9 1 0 0)))), (.vec 9, .r 1 92 (whoR W)), (.slot 10, sI W.length), (.slot 54, sT (vvInts fr)), (.slot 55, sI fr.length), (.slot 56, sI i)]

theorem c10 (n me : Int) (fr : List (List Int)) (hfl : fr.length * 24 ≤ 140737488351232) (hfb : ∀ l, l ∈ fr → l.length * 8 ≤ 140737488351232) : Pure Try.prog 10 [vlit (.int .i64 n), vlit (.int .i64 me), .one (vvInts fr)] (rBool true) := by
  by_cases hg : 1 ≤ n ∧ n ≤ 7 ∧ 0 ≤ me ∧ me < n
  · obtain ⟨g1, g2, g3, g4⟩ := hg
    have kw58 := s58 n me ⟨g1, g2⟩ g3 g4
    have h1 : ¬ n < 1 := by omega
    have h2 : ¬ 7 < n := by omega
    have h3 : ¬ me < 0 := by omega
    have h4 : ¬ n ≤ me := by omega
    have h7 : me < 7 := by omega
    have h7' : me < ((7 : Nat) : Int) := h7
    have hml : me.toNat < 7 := by omega
    have hi0 := whoR_get (W := []) g3 h7
    have hi1 := whoR_set (W := []) g3 h7
    simp only [whoR, List.not_mem_nil, decide_false, List.nil_append] at hi0 hi1
    have hwe : whoR [me] = [[.lit (.bool (decide (0 ∈ [me])))], [.lit (.bool (decide (1 ∈ [me])))], [.lit (.bool (decide (2 ∈ [me])))], [.lit (.bool (decide (3 ∈ [me])))], [.lit (.bool (decide (4 ∈ [me])))], [.lit (.bool (decide (5 ∈ [me])))], [.lit (.bool (decide (6 ∈ [me])))]] := rfl
    rw [← hwe] at hi1
    refine pure_of_body Try.func10 rfl (by simp [Try.f10]) ?_; rw [Try.ntmps10, Try.results10]; intro w0 G0
    (repeat' (first | refine thenL_n ?_ | refine thenL_r ?_ | refine thenL_x ?_ | refine blockL_n ?_ | refine blockL_r ?_ | refine blockL_x ?_ | refine blockL_y rfl ?_ | refine awp_seq ?_ | refine awp_block ?_ | refine awp_ret ?_ | refine awp_exit ?_ | refine awp_skip ?_ | exact absurd hcond (by decide) | (refine awp_txt ?_; refine runs_to [] (by simp only [go_sem, h1, h2, h3, h4, g3, h7', hml, hi0, hi1]; rfl) ?_) | (refine awp_draw mixed ?_; refine runs_to [] (by simp only [go_sem, h1, h2, h3, h4, g3, h7', hml, hi0, hi1]; rfl) ?_) | refine runD_nil ⟨by kernel_rfl, ?_⟩ | refine runD_nil ?_ | (refine runD_does [] [22, 20] (kw58) cb58 (by rfl) (.inl (by simp only [go_sem, h1, h2, h3, h4, g3, h7', hml, hi0, hi1]; rfl)) (by simp only [go_sem, ren, dels, adds, rn, At.rn, V1.rn, SV.rn, Cont.rn, Loc.rn, news, vals2, keys2, namesB, locKeys, injOn, noSlots, List.all, List.any, h1, h2, h3, h4, g3, h7', hml, hi0, hi1]; rfl) (by first | kernel_rfl | rfl) (by simp only [go_sem, ren, dels, adds, rn, At.rn, V1.rn, SV.rn, Cont.rn, Loc.rn, news, vals2, keys2, namesB, locKeys, injOn, noSlots, List.all, List.any, h1, h2, h3, h4, g3, h7', hml, hi0, hi1]; ((repeat' (first | exact All2.nil | refine All2.cons ?_ ?_ | exact SubW.one (SubA.same _) | exact SubW.one (SubA.nil _) | exact SubW.one (SubA.ptr _) | refine SubW.agg ?_ | exact SubA.same _ | exact SubA.nil _ | exact SubA.ptr _)); first | done | fail)) (by simp only [go_sem, ren, dels, adds, rn, At.rn, V1.rn, SV.rn, Cont.rn, Loc.rn, news, vals2, keys2, namesB, locKeys, injOn, noSlots, List.all, List.any, h1, h2, h3, h4, g3, h7', hml, hi0, hi1]; repeat' (first | exact trivial | refine And.intro rfl ?_)) (by simp only [go_sem, ren, dels, adds, rn, At.rn, V1.rn, SV.rn, Cont.rn, Loc.rn, news, vals2, keys2, namesB, locKeys, injOn, noSlots, List.all, List.any, h1, h2, h3, h4, g3, h7', hml, hi0, hi1]; repeat' (first | exact trivial | refine And.intro rfl ?_)) ?_; simp only [go_sem, ren, dels, adds, rn, At.rn, V1.rn, SV.rn, Cont.rn, Loc.rn, news, vals2, keys2, namesB, locKeys, injOn, noSlots, List.all, List.any, h1, h2, h3, h4, g3, h7', hml, hi0, hi1]; refine runs_to [] (by simp only [go_sem, h1, h2, h3, h4, g3, h7', hml, hi0, hi1]; rfl) ?_) | (refine awp_cond (b := _) (by simp only [go_sem, evB, h1, h2, h3, h4, g3, h7', hml, hi0, hi1]; rfl) (fun hcond => ?_) (fun hcond => ?_))))
    refine awp_imp (Imp.takeE 3019 90 (by simp only [go_sem, fixL, Cont.fix, SV.fix, V1.fix, At.fix, cellsT, renL, Loc.ren, Cont.ren, SV.ren, V1.ren, At.ren, freezeL]) (by simp only [go_sem, fixL, Cont.fix, SV.fix, V1.fix, At.fix, cellsT, renL, Loc.ren, Cont.ren, SV.ren, V1.ren, At.ren, freezeL]; rfl) (by decide) (by simp only [go_sem, fixL, Cont.fix, SV.fix, V1.fix, At.fix, cellsT, renL, Loc.ren, Cont.ren, SV.ren, V1.ren, At.ren, freezeL]; rfl)) ?_
    have hone : ((1 : Nat) : Int) = 1 := rfl
    refine awp_loop (fun p : Nat × List Int => st10 n me fr p.1 p.2) (fun p => p.1 ≤ fr.length ∧ VI n p.2) (fun p => fr.length - p.1) (0, [me]) ⟨Nat.zero_le _, VI_one g3 h7⟩ (by refine Imp.of_in ?_; simp only [go_sem, st10, hone]) ?_
    rintro ⟨i, W⟩ ⟨hi, hV⟩
    simp only at hi hV
    have hWl : W.length ≤ 7 := by rw [hV]; exact cnt_le W
    simp only [st10]
    by_cases hlt : (i : Int) < fr.length
    · have hx : fr[i]? = some fr[i] := List.getElem?_eq_getElem (by omega)
      have hlb := hfb fr[i] (List.getElem_mem _)
      have hw := up i (by omega)
      generalize fr[i] = l at hx hlb
      (repeat' (first | refine thenL_n ?_ | refine thenL_r ?_ | refine thenL_x ?_ | refine blockL_n ?_ | refine blockL_r ?_ | refine blockL_x ?_ | refine blockL_y rfl ?_ | refine awp_seq ?_ | refine awp_block ?_ | refine awp_ret ?_ | refine awp_exit ?_ | refine awp_skip ?_ | exact absurd hcond (by decide) | (refine awp_txt ?_; refine runs_to [] (by simp only [go_sem, hlt, hx]; rfl) ?_) | (refine awp_draw mixed ?_; refine runs_to [] (by simp only [go_sem, hlt, hx]; rfl) ?_) | refine runD_nil ⟨by kernel_rfl, ?_⟩ | refine runD_nil ?_ | (refine awp_cond (b := _) (by simp only [go_sem, evB, hlt, hx]; rfl) (fun hcond => ?_) (fun hcond => ?_))))
      refine awp_loop (fun j : Nat => [(.slot 0, sI n), (.slot 1, sI me), (.slot 2, sT (vvInts fr)), (.slot 7, sP 19), (.cell 19 0, .c (lI n)), (.cell 19 1, .c (.row 90)), (.vec 90, rV 3 W), (.slot 9, .s (.v (.one (.vptr 9 1 0 0)))), (.vec 9, .r 1 92 (whoR (addW n W (l.take j)))), (.slot 10, sI W.length), (.slot 54, sT (vvInts fr)), (.slot 55, sI fr.length), (.slot 56, sI i), (.slot 12, sT (vInts l)), (.slot 13, sI ((addW n W (l.take j)).length - W.length)), (.slot 60, sT (vInts l)), (.slot 61, sI l.length), (.slot 62, sI j)]) (fun j => j ≤ l.length) (fun j => l.length - j) 0 (Nat.zero_le _) (by refine Imp.of_in ?_; simp only [go_sem, addW, List.foldl_nil, Int.sub_self]) ?_
      intro j hj
      by_cases hlt2 : (j : Int) < l.length
      · have hx2 : l[j]? = some l[j] := List.getElem?_eq_getElem (by omega)
        have hfin : addW n W (l.take (j + 1)) = add1 n (addW n W (l.take j)) l[j] := foldS (add1 n) W l j (by omega)
        have hVj := VI_addW g2 (l.take j) W hV
        have hw2 := up j (by omega)
        generalize l[j] = r at hx2 hfin
        generalize addW n W (l.take j) = z at hfin hVj
        have hzl : z.length ≤ 7 := by rw [hVj]; exact cnt_le z
        by_cases q1 : 0 ≤ r
        · by_cases q2 : r < n
          · have q3 : r < 7 := by omega
            have q3' : r < ((7 : Nat) : Int) := q3
            have q4 : r.toNat < 7 := by omega
            have hget := whoR_get (W := z) q1 q3
            have hset := whoR_set (W := z) q1 q3
            have hzlen := whoR_len z
            by_cases q5 : r ∈ z
            · have q5' : decide (r ∈ z) = true := by simp [q5]
              have hz : add1 n z r = z := add1_no (by simp [q5])
              rw [hz] at hfin
              (repeat' (first | refine thenL_n ?_ | refine thenL_r ?_ | refine thenL_x ?_ | refine blockL_n ?_ | refine blockL_r ?_ | refine blockL_x ?_ | refine blockL_y rfl ?_ | refine awp_seq ?_ | refine awp_block ?_ | refine awp_ret ?_ | refine awp_exit ?_ | refine awp_skip ?_ | exact absurd hcond (by decide) | (refine awp_txt ?_; refine runs_to [] (by simp only [go_sem, hlt2, hx2, q1, q2, q3', q4, hget, hzlen, q5', hw2]; rfl) ?_) | (refine awp_draw mixed ?_; refine runs_to [] (by simp only [go_sem, hlt2, hx2, q1, q2, q3', q4, hget, hzlen, q5', hw2]; rfl) ?_) | refine runD_nil ⟨by kernel_rfl, ?_⟩ | refine runD_nil ?_ | (refine awp_cond (b := _) (by simp only [go_sem, evB, hlt2, hx2, q1, q2, q3', q4, hget, hzlen, q5', hw2]; rfl) (fun hcond => ?_) (fun hcond => ?_))))
              refine ⟨j + 1, by omega, by omega, (by refine Imp.of_in ?_; simp only [go_sem, hfin])⟩
            · have q5' : decide (r ∈ z) = false := by simp [q5]
              have hz : add1 n z r = z ++ [r] := add1_yes ⟨q1, q2, q5⟩
              rw [hz] at hfin
              have hwr : IntKind.i64.wrap ((z.length : Int) - W.length + 1) = (((z ++ [r]).length : Nat) : Int) - W.length := by
                rw [IntWalk.i64_in _ ⟨by omega, by omega⟩]; simp; omega
              (repeat' (first | refine thenL_n ?_ | refine thenL_r ?_ | refine thenL_x ?_ | refine blockL_n ?_ | refine blockL_r ?_ | refine blockL_x ?_ | refine blockL_y rfl ?_ | refine awp_seq ?_ | refine awp_block ?_ | refine awp_ret ?_ | refine awp_exit ?_ | refine awp_skip ?_ | exact absurd hcond (by decide) | (refine awp_txt ?_; refine runs_to [] (by simp only [go_sem, hlt2, hx2, q1, q2, q3', q4, hget, hzlen, q5', hw2, hset, hwr]; rfl) ?_) | (refine awp_draw mixed ?_; refine runs_to [] (by simp only [go_sem, hlt2, hx2, q1, q2, q3', q4, hget, hzlen, q5', hw2, hset, hwr]; rfl) ?_) | refine runD_nil ⟨by kernel_rfl, ?_⟩ | refine runD_nil ?_ | (refine awp_cond (b := _) (by simp only [go_sem, evB, hlt2, hx2, q1, q2, q3', q4, hget, hzlen, q5', hw2, hset, hwr]; rfl) (fun hcond => ?_) (fun hcond => ?_))))
              refine ⟨j + 1, by omega, by omega, (by refine Imp.of_in ?_; simp only [go_sem, hfin])⟩
          · have hz : add1 n z r = z := add1_no (by omega)
            rw [hz] at hfin
            (repeat' (first | refine thenL_n ?_ | refine thenL_r ?_ | refine thenL_x ?_ | refine blockL_n ?_ | refine blockL_r ?_ | refine blockL_x ?_ | refine blockL_y rfl ?_ | refine awp_seq ?_ | refine awp_block ?_ | refine awp_ret ?_ | refine awp_exit ?_ | refine awp_skip ?_ | exact absurd hcond (by decide) | (refine awp_txt ?_; refine runs_to [] (by simp only [go_sem, hlt2, hx2, q1, q2, hw2]; rfl) ?_) | (refine awp_draw mixed ?_; refine runs_to [] (by simp only [go_sem, hlt2, hx2, q1, q2, hw2]; rfl) ?_) | refine runD_nil ⟨by kernel_rfl, ?_⟩ | refine runD_nil ?_ | (refine awp_cond (b := _) (by simp only [go_sem, evB, hlt2, hx2, q1, q2, hw2]; rfl) (fun hcond => ?_) (fun hcond => ?_))))
            refine ⟨j + 1, by omega, by omega, (by refine Imp.of_in ?_; simp only [go_sem, hfin])⟩
        · have hz : add1 n z r = z := add1_no (by omega)
          rw [hz] at hfin
          (repeat' (first | refine thenL_n ?_ | refine thenL_r ?_ | refine thenL_x ?_ | refine blockL_n ?_ | refine blockL_r ?_ | refine blockL_x ?_ | refine blockL_y rfl ?_ | refine awp_seq ?_ | refine awp_block ?_ | refine awp_ret ?_ | refine awp_exit ?_ | refine awp_skip ?_ | exact absurd hcond (by decide) | (refine awp_txt ?_; refine runs_to [] (by simp only [go_sem, hlt2, hx2, q1, hw2]; rfl) ?_) | (refine awp_draw mixed ?_; refine runs_to [] (by simp only [go_sem, hlt2, hx2, q1, hw2]; rfl) ?_) | refine runD_nil ⟨by kernel_rfl, ?_⟩ | refine runD_nil ?_ | (refine awp_cond (b := _) (by simp only [go_sem, evB, hlt2, hx2, q1, hw2]; rfl) (fun hcond => ?_) (fun hcond => ?_))))
          refine ⟨j + 1, by omega, by omega, (by refine Imp.of_in ?_; simp only [go_sem, hfin])⟩
      · have hta : l.take j = l := by rw [show j = l.length by omega, List.take_length]
        rw [hta]
        have kw59 := s59 n W l hlb (by omega)
        have hVn := VI_addW g2 l W hV
        have kw60 := s60 n (addW n W l)
        have kw61 := s61 n (addW n W l)
        have kw32 := c32 l hlb
        generalize addW n W l = z at kw59 kw60 kw61 hVn
        have hzl : z.length ≤ 7 := by rw [hVn]; exact cnt_le z
        have hsum : IntKind.i64.wrap ((W.length : Int) + ((z.length : Int) - W.length)) = z.length := by
          rw [IntWalk.i64_in _ ⟨by omega, by omega⟩]; omega
        have hmul : IntKind.i64.wrap (2 * (z.length : Int)) = 2 * (z.length : Int) := IntWalk.i64_in _ ⟨by omega, by omega⟩
        have hen : decide (maj n ≤ (z.length : Int)) = decide (n < 2 * (z.length : Int)) := by
          rw [maj_in ⟨g1, g2⟩]
          by_cases h : n < 2 * (z.length : Int)
          · simp [h]; omega
          · simp [h]; omega
        (repeat' (first | refine thenL_n ?_ | refine thenL_r ?_ | refine thenL_x ?_ | refine blockL_n ?_ | refine blockL_r ?_ | refine blockL_x ?_ | refine blockL_y rfl ?_ | refine awp_seq ?_ | refine awp_block ?_ | refine awp_ret ?_ | refine awp_exit ?_ | refine awp_skip ?_ | exact absurd hcond (by decide) | (refine awp_txt ?_; refine runs_to [] (by simp only [go_sem, hlt2, hx, hsum, hmul, hen, hw]; rfl) ?_) | (refine awp_draw mixed ?_; refine runs_to [] (by simp only [go_sem, hlt2, hx, hsum, hmul, hen, hw]; rfl) ?_) | refine runD_nil ⟨by kernel_rfl, ?_⟩ | refine runD_nil ?_ | (refine runD_call (kw32) cb32 (by rfl) (by simp only [go_sem, hlt2, hx, hsum, hmul, hen, hw]; rfl) (by ((repeat' (first | exact All2.nil | refine All2.cons ?_ ?_ | exact SubV.one (SubT.same _) | exact SubV.one (SubT.nil _) | refine SubV.agg ?_ | exact SubT.same _ | exact SubT.nil _)); first | done | fail)) ?_; refine runs_to [] (by simp only [go_sem, hlt2, hx, hsum, hmul, hen, hw]; rfl) ?_) | (refine runD_does [(100000, 19), (100001, 90)] [40] (kw59) cb59 (by rfl) (.inl (by simp only [go_sem, hlt2, hx, hsum, hmul, hen, hw]; rfl)) (by simp only [go_sem, ren, dels, adds, rn, At.rn, V1.rn, SV.rn, Cont.rn, Loc.rn, news, vals2, keys2, namesB, locKeys, injOn, noSlots, List.all, List.any, hlt2, hx, hsum, hmul, hen, hw]; rfl) (by first | kernel_rfl | rfl) (by simp only [go_sem, ren, dels, adds, rn, At.rn, V1.rn, SV.rn, Cont.rn, Loc.rn, news, vals2, keys2, namesB, locKeys, injOn, noSlots, List.all, List.any, hlt2, hx, hsum, hmul, hen, hw]; ((repeat' (first | exact All2.nil | refine All2.cons ?_ ?_ | exact SubW.one (SubA.same _) | exact SubW.one (SubA.nil _) | exact SubW.one (SubA.ptr _) | refine SubW.agg ?_ | exact SubA.same _ | exact SubA.nil _ | exact SubA.ptr _)); first | done | fail)) (by simp only [go_sem, ren, dels, adds, rn, At.rn, V1.rn, SV.rn, Cont.rn, Loc.rn, news, vals2, keys2, namesB, locKeys, injOn, noSlots, List.all, List.any, hlt2, hx, hsum, hmul, hen, hw]; repeat' (first | exact trivial | refine And.intro rfl ?_)) (by simp only [go_sem, ren, dels, adds, rn, At.rn, V1.rn, SV.rn, Cont.rn, Loc.rn, news, vals2, keys2, namesB, locKeys, injOn, noSlots, List.all, List.any, hlt2, hx, hsum, hmul, hen, hw]; repeat' (first | exact trivial | refine And.intro rfl ?_)) ?_; simp only [go_sem, ren, dels, adds, rn, At.rn, V1.rn, SV.rn, Cont.rn, Loc.rn, news, vals2, keys2, namesB, locKeys, injOn, noSlots, List.all, List.any, hlt2, hx, hsum, hmul, hen, hw]; refine runs_to [] (by simp only [go_sem, hlt2, hx, hsum, hmul, hen, hw]; rfl) ?_) | (refine runD_looks [(100000, 19), (100001, 1090)] (kw60) cb60 (by rfl) (.inl (by simp only [go_sem, hlt2, hx, hsum, hmul, hen, hw]; rfl)) (by first | kernel_rfl | rfl) (by simp only [go_sem, ren, dels, adds, rn, At.rn, V1.rn, SV.rn, Cont.rn, Loc.rn, news, vals2, keys2, namesB, locKeys, injOn, noSlots, List.all, List.any, hlt2, hx, hsum, hmul, hen, hw]; ((repeat' (first | exact All2.nil | refine All2.cons ?_ ?_ | exact SubW.one (SubA.same _) | exact SubW.one (SubA.nil _) | exact SubW.one (SubA.ptr _) | refine SubW.agg ?_ | exact SubA.same _ | exact SubA.nil _ | exact SubA.ptr _)); first | done | fail)) (by simp only [go_sem, ren, dels, adds, rn, At.rn, V1.rn, SV.rn, Cont.rn, Loc.rn, news, vals2, keys2, namesB, locKeys, injOn, noSlots, List.all, List.any, hlt2, hx, hsum, hmul, hen, hw]; repeat' (first | exact trivial | refine And.intro rfl ?_)) (by simp only [go_sem, ren, dels, adds, rn, At.rn, V1.rn, SV.rn, Cont.rn, Loc.rn, news, vals2, keys2, namesB, locKeys, injOn, noSlots, List.all, List.any, hlt2, hx, hsum, hmul, hen, hw]; repeat' (first | exact trivial | refine And.intro rfl ?_)) ?_; simp only [go_sem, ren, dels, adds, rn, At.rn, V1.rn, SV.rn, Cont.rn, Loc.rn, news, vals2, keys2, namesB, locKeys, injOn, noSlots, List.all, List.any, hlt2, hx, hsum, hmul, hen, hw]; refine runs_to [] (by simp only [go_sem, hlt2, hx, hsum, hmul, hen, hw]; rfl) ?_) | (refine runD_looks [(100000, 19), (100001, 1090)] (kw61) cb61 (by rfl) (.inl (by simp only [go_sem, hlt2, hx, hsum, hmul, hen, hw]; rfl)) (by first | kernel_rfl | rfl) (by simp only [go_sem, ren, dels, adds, rn, At.rn, V1.rn, SV.rn, Cont.rn, Loc.rn, news, vals2, keys2, namesB, locKeys, injOn, noSlots, List.all, List.any, hlt2, hx, hsum, hmul, hen, hw]; ((repeat' (first | exact All2.nil | refine All2.cons ?_ ?_ | exact SubW.one (SubA.same _) | exact SubW.one (SubA.nil _) | exact SubW.one (SubA.ptr _) | refine SubW.agg ?_ | exact SubA.same _ | exact SubA.nil _ | exact SubA.ptr _)); first | done | fail)) (by simp only [go_sem, ren, dels, adds, rn, At.rn, V1.rn, SV.rn, Cont.rn, Loc.rn, news, vals2, keys2, namesB, locKeys, injOn, noSlots, List.all, List.any, hlt2, hx, hsum, hmul, hen, hw]; repeat' (first | exact trivial | refine And.intro rfl ?_)) (by simp only [go_sem, ren, dels, adds, rn, At.rn, V1.rn, SV.rn, Cont.rn, Loc.rn, news, vals2, keys2, namesB, locKeys, injOn, noSlots, List.all, List.any, hlt2, hx, hsum, hmul, hen, hw]; repeat' (first | exact trivial | refine And.intro rfl ?_)) ?_; simp only [go_sem, ren, dels, adds, rn, At.rn, V1.rn, SV.rn, Cont.rn, Loc.rn, news, vals2, keys2, namesB, locKeys, injOn, noSlots, List.all, List.any, hlt2, hx, hsum, hmul, hen, hw]; refine runs_to [] (by simp only [go_sem, hlt2, hx, hsum, hmul, hen, hw]; rfl) ?_) | (refine awp_cond (b := _) (by simp only [go_sem, evB, hlt2, hx, hsum, hmul, hen, hw]; rfl) (fun hcond => ?_) (fun hcond => ?_))))
        refine ⟨(i + 1, z), ⟨by simp only; omega, hVn⟩, by simp only; omega, (by refine Imp.back 1090 90 (by simp only [go_sem, renL, Loc.ren, Cont.ren, SV.ren, V1.ren, At.ren,  st10]) (by simp only [go_sem, renL, Loc.ren, Cont.ren, SV.ren, V1.ren, At.ren,  st10]) (by simp only [go_sem, renL, Loc.ren, Cont.ren, SV.ren, V1.ren, At.ren,  st10]) (by decide) (by decide) ?_; refine Imp.of_in ?_; simp only [go_sem, renL, Loc.ren, Cont.ren, SV.ren, V1.ren, At.ren,  st10])⟩
    · ((repeat' (first | refine thenL_n ?_ | refine thenL_r ?_ | refine thenL_x ?_ | refine blockL_n ?_ | refine blockL_r ?_ | refine blockL_x ?_ | refine blockL_y rfl ?_ | refine awp_seq ?_ | refine awp_block ?_ | refine awp_ret ?_ | refine awp_exit ?_ | refine awp_skip ?_ | exact absurd hcond (by decide) | (refine awp_txt ?_; refine runs_to [] (by simp only [go_sem, hlt]; rfl) ?_) | (refine awp_draw mixed ?_; refine runs_to [] (by simp only [go_sem, hlt]; rfl) ?_) | refine runD_nil ⟨by kernel_rfl, ?_⟩ | refine runD_nil ?_ | (refine runD_call (c57) cb57 (by rfl) (by simp only [go_sem, hlt]; rfl) (by ((repeat' (first | exact All2.nil | refine All2.cons ?_ ?_ | exact SubV.one (SubT.same _) | exact SubV.one (SubT.nil _) | refine SubV.agg ?_ | exact SubT.same _ | exact SubT.nil _)); first | done | fail)) ?_; refine runs_to [] (by simp only [go_sem, hlt]; rfl) ?_) | (refine awp_cond (b := _) (by simp only [go_sem, evB, hlt]; rfl) (fun hcond => ?_) (fun hcond => ?_)))); all_goals (refine leaves_ok (by first | exact Or.inl rfl | exact Or.inr rfl) (by simp only [go_sem, resAll, resL, packL, vecsOf, freezeAll, freezeL, hlt]; rfl) ?_; (first | refine SubR.v ?_ | refine SubR.tup ?_); ((repeat' (first | exact All2.nil | refine All2.cons ?_ ?_ | exact SubV.one (SubT.same _) | exact SubV.one (SubT.nil _) | refine SubV.agg ?_ | exact SubT.same _ | exact SubT.nil _)); first | done | fail)))
  · have kww58 := c58 n me hg
    by_cases h1 : n < 1
    · refine pure_of_body Try.func10 rfl (by simp [Try.f10]) ?_; rw [Try.ntmps10, Try.results10]; intro w0 G0
      ((repeat' (first | refine thenL_n ?_ | refine thenL_r ?_ | refine thenL_x ?_ | refine blockL_n ?_ | refine blockL_r ?_ | refine blockL_x ?_ | refine blockL_y rfl ?_ | refine awp_seq ?_ | refine awp_block ?_ | refine awp_ret ?_ | refine awp_exit ?_ | refine awp_skip ?_ | exact absurd hcond (by decide) | (refine awp_txt ?_; refine runs_to [] (by simp only [go_sem, h1]; rfl) ?_) | (refine awp_draw mixed ?_; refine runs_to [] (by simp only [go_sem, h1]; rfl) ?_) | refine runD_nil ⟨by kernel_rfl, ?_⟩ | refine runD_nil ?_ | (refine runD_call (kww58) cb58 (by rfl) (by simp only [go_sem, h1]; rfl) (by ((repeat' (first | exact All2.nil | refine All2.cons ?_ ?_ | exact SubV.one (SubT.same _) | exact SubV.one (SubT.nil _) | refine SubV.agg ?_ | exact SubT.same _ | exact SubT.nil _)); first | done | fail)) ?_; refine runs_to [] (by simp only [go_sem, h1]; rfl) ?_) | (refine runD_call (c57) cb57 (by rfl) (by simp only [go_sem, h1]; rfl) (by ((repeat' (first | exact All2.nil | refine All2.cons ?_ ?_ | exact SubV.one (SubT.same _) | exact SubV.one (SubT.nil _) | refine SubV.agg ?_ | exact SubT.same _ | exact SubT.nil _)); first | done | fail)) ?_; refine runs_to [] (by simp only [go_sem, h1]; rfl) ?_) | (refine awp_cond (b := _) (by simp only [go_sem, evB, h1]; rfl) (fun hcond => ?_) (fun hcond => ?_)))); all_goals (refine leaves_ok (by first | exact Or.inl rfl | exact Or.inr rfl) (by simp only [go_sem, resAll, resL, packL, vecsOf, freezeAll, freezeL, h1]; rfl) ?_; (first | refine SubR.v ?_ | refine SubR.tup ?_); ((repeat' (first | exact All2.nil | refine All2.cons ?_ ?_ | exact SubV.one (SubT.same _) | exact SubV.one (SubT.nil _) | refine SubV.agg ?_ | exact SubT.same _ | exact SubT.nil _)); first | done | fail)))
    by_cases h2 : 7 < n
    · refine pure_of_body Try.func10 rfl (by simp [Try.f10]) ?_; rw [Try.ntmps10, Try.results10]; intro w0 G0
      ((repeat' (first | refine thenL_n ?_ | refine thenL_r ?_ | refine thenL_x ?_ | refine blockL_n ?_ | refine blockL_r ?_ | refine blockL_x ?_ | refine blockL_y rfl ?_ | refine awp_seq ?_ | refine awp_block ?_ | refine awp_ret ?_ | refine awp_exit ?_ | refine awp_skip ?_ | exact absurd hcond (by decide) | (refine awp_txt ?_; refine runs_to [] (by simp only [go_sem, h1, h2]; rfl) ?_) | (refine awp_draw mixed ?_; refine runs_to [] (by simp only [go_sem, h1, h2]; rfl) ?_) | refine runD_nil ⟨by kernel_rfl, ?_⟩ | refine runD_nil ?_ | (refine runD_call (kww58) cb58 (by rfl) (by simp only [go_sem, h1, h2]; rfl) (by ((repeat' (first | exact All2.nil | refine All2.cons ?_ ?_ | exact SubV.one (SubT.same _) | exact SubV.one (SubT.nil _) | refine SubV.agg ?_ | exact SubT.same _ | exact SubT.nil _)); first | done | fail)) ?_; refine runs_to [] (by simp only [go_sem, h1, h2]; rfl) ?_) | (refine runD_call (c57) cb57 (by rfl) (by simp only [go_sem, h1, h2]; rfl) (by ((repeat' (first | exact All2.nil | refine All2.cons ?_ ?_ | exact SubV.one (SubT.same _) | exact SubV.one (SubT.nil _) | refine SubV.agg ?_ | exact SubT.same _ | exact SubT.nil _)); first | done | fail)) ?_; refine runs_to [] (by simp only [go_sem, h1, h2]; rfl) ?_) | (refine awp_cond (b := _) (by simp only [go_sem, evB, h1, h2]; rfl) (fun hcond => ?_) (fun hcond => ?_)))); all_goals (refine leaves_ok (by first | exact Or.inl rfl | exact Or.inr rfl) (by simp only [go_sem, resAll, resL, packL, vecsOf, freezeAll, freezeL, h1, h2]; rfl) ?_; (first | refine SubR.v ?_ | refine SubR.tup ?_); ((repeat' (first | exact All2.nil | refine All2.cons ?_ ?_ | exact SubV.one (SubT.same _) | exact SubV.one (SubT.nil _) | refine SubV.agg ?_ | exact SubT.same _ | exact SubT.nil _)); first | done | fail)))
    by_cases h3 : me < 0
    · refine pure_of_body Try.func10 rfl (by simp [Try.f10]) ?_; rw [Try.ntmps10, Try.results10]; intro w0 G0
      ((repeat' (first | refine thenL_n ?_ | refine thenL_r ?_ | refine thenL_x ?_ | refine blockL_n ?_ | refine blockL_r ?_ | refine blockL_x ?_ | refine blockL_y rfl ?_ | refine awp_seq ?_ | refine awp_block ?_ | refine awp_ret ?_ | refine awp_exit ?_ | refine awp_skip ?_ | exact absurd hcond (by decide) | (refine awp_txt ?_; refine runs_to [] (by simp only [go_sem, h1, h2, h3]; rfl) ?_) | (refine awp_draw mixed ?_; refine runs_to [] (by simp only [go_sem, h1, h2, h3]; rfl) ?_) | refine runD_nil ⟨by kernel_rfl, ?_⟩ | refine runD_nil ?_ | (refine runD_call (kww58) cb58 (by rfl) (by simp only [go_sem, h1, h2, h3]; rfl) (by ((repeat' (first | exact All2.nil | refine All2.cons ?_ ?_ | exact SubV.one (SubT.same _) | exact SubV.one (SubT.nil _) | refine SubV.agg ?_ | exact SubT.same _ | exact SubT.nil _)); first | done | fail)) ?_; refine runs_to [] (by simp only [go_sem, h1, h2, h3]; rfl) ?_) | (refine runD_call (c57) cb57 (by rfl) (by simp only [go_sem, h1, h2, h3]; rfl) (by ((repeat' (first | exact All2.nil | refine All2.cons ?_ ?_ | exact SubV.one (SubT.same _) | exact SubV.one (SubT.nil _) | refine SubV.agg ?_ | exact SubT.same _ | exact SubT.nil _)); first | done | fail)) ?_; refine runs_to [] (by simp only [go_sem, h1, h2, h3]; rfl) ?_) | (refine awp_cond (b := _) (by simp only [go_sem, evB, h1, h2, h3]; rfl) (fun hcond => ?_) (fun hcond => ?_)))); all_goals (refine leaves_ok (by first | exact Or.inl rfl | exact Or.inr rfl) (by simp only [go_sem, resAll, resL, packL, vecsOf, freezeAll, freezeL, h1, h2, h3]; rfl) ?_; (first | refine SubR.v ?_ | refine SubR.tup ?_); ((repeat' (first | exact All2.nil | refine All2.cons ?_ ?_ | exact SubV.one (SubT.same _) | exact SubV.one (SubT.nil _) | refine SubV.agg ?_ | exact SubT.same _ | exact SubT.nil _)); first | done | fail)))
    have h4 : n ≤ me := by omega
    refine pure_of_body Try.func10 rfl (by simp [Try.f10]) ?_; rw [Try.ntmps10, Try.results10]; intro w0 G0
    ((repeat' (first | refine thenL_n ?_ | refine thenL_r ?_ | refine thenL_x ?_ | refine blockL_n ?_ | refine blockL_r ?_ | refine blockL_x ?_ | refine blockL_y rfl ?_ | refine awp_seq ?_ | refine awp_block ?_ | refine awp_ret ?_ | refine awp_exit ?_ | refine awp_skip ?_ | exact absurd hcond (by decide) | (refine awp_txt ?_; refine runs_to [] (by simp only [go_sem, h1, h2, h3, h4]; rfl) ?_) | (refine awp_draw mixed ?_; refine runs_to [] (by simp only [go_sem, h1, h2, h3, h4]; rfl) ?_) | refine runD_nil ⟨by kernel_rfl, ?_⟩ | refine runD_nil ?_ | (refine runD_call (kww58) cb58 (by rfl) (by simp only [go_sem, h1, h2, h3, h4]; rfl) (by ((repeat' (first | exact All2.nil | refine All2.cons ?_ ?_ | exact SubV.one (SubT.same _) | exact SubV.one (SubT.nil _) | refine SubV.agg ?_ | exact SubT.same _ | exact SubT.nil _)); first | done | fail)) ?_; refine runs_to [] (by simp only [go_sem, h1, h2, h3, h4]; rfl) ?_) | (refine runD_call (c57) cb57 (by rfl) (by simp only [go_sem, h1, h2, h3, h4]; rfl) (by ((repeat' (first | exact All2.nil | refine All2.cons ?_ ?_ | exact SubV.one (SubT.same _) | exact SubV.one (SubT.nil _) | refine SubV.agg ?_ | exact SubT.same _ | exact SubT.nil _)); first | done | fail)) ?_; refine runs_to [] (by simp only [go_sem, h1, h2, h3, h4]; rfl) ?_) | (refine awp_cond (b := _) (by simp only [go_sem, evB, h1, h2, h3, h4]; rfl) (fun hcond => ?_) (fun hcond => ?_)))); all_goals (refine leaves_ok (by first | exact Or.inl rfl | exact Or.inr rfl) (by simp only [go_sem, resAll, resL, packL, vecsOf, freezeAll, freezeL, h1, h2, h3, h4]; rfl) ?_; (first | refine SubR.v ?_ | refine SubR.tup ?_); ((repeat' (first | exact All2.nil | refine All2.cons ?_ ?_ | exact SubV.one (SubT.same _) | exact SubV.one (SubT.nil _) | refine SubV.agg ?_ | exact SubT.same _ | exact SubT.nil _)); first | done | fail)))
end Go.Proofs.Ytbohgpdpglfepaa
