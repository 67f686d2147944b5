import Derived.Test.YtbohgpdpglfepaaU1
import Derived.Test.YtbohgpdpglfepaaT16
set_option maxHeartbeats 4000000
set_option maxRecDepth 10000
set_option linter.unusedVariables false
set_option linter.unusedSimpArgs false
namespace Go.Proofs.Ytbohgpdpglfepaa
open Go.AM Go.RowKit
attribute [local irreducible] AWP thenL blockL AM.Leaves LeavesO RunD
attribute [local go_sem] runs stepR actF inF frzA frzW lastW act act1 actPick actNil actBin
  actUn actConv actExtract actFieldAddr actField actAlloc keysOf actBox actLoad treesOf actStore actIndex
  actLen actMx srcL actAppend actMake actBuild actBuildSlice boundL actSlice actCall actEqS isStruct
  isSlice actText actCopy litsOf kindsOK fieldsPlain eqAll eqop dstB dstN boolS litB
  litV sv binv unv lits takeC cellsR trees cellsW mxv repl parts
  fillAt fillRows V1.cs mkV ev evr AM.look put del applyL delD wrD
  undefS SV.to V1.to At.to keysL notIn freshKey PV.up PR.up entry entryV evp
  isAt actPtrNil capsL actFunc sameV sameVs pureCtx doc mkVar AM.Loc.key Cont.keys SV.keys
  V1.keys At.keys Cont.sub SV.sub V1.sub At.sub guardR argsL callR Nat.blt_eq Nat.blt Nat.ble
  Nat.beq_eq_true_eq beq_self_eq_true Array.toList List.map List.append_eq List.nil_append List.cons_append List.append_nil List.append_assoc Bool.and_eq_true decide_true decide_false
  decide_eq_true_eq Bool.not_true Bool.not_false reduceCtorEq if_true if_false ite_true ite_false reduceIte AM.Loc.slot.injEq AM.Loc.cell.injEq AM.Loc.vec.injEq
  List.getElem?_cons_zero List.getElem?_cons_succ List.getElem?_nil Option.map_some Option.map_none Option.toList List.flatMap_nil List.flatMap_cons Bool.and_true Bool.true_and Bool.and_false Bool.false_and
  Bool.true_eq_false Bool.false_eq_true Nat.reduceBEq Nat.reduceEqDiff bool_beq_tt bool_beq_ff bool_beq_tf bool_beq_ft List.length_cons List.length_nil List.drop List.take
  List.drop_zero List.take_zero List.all_cons List.all_nil Value.oneCell' Nat.zero_add Nat.reduceAdd Nat.reduceMul Nat.reduceSub Nat.reduceLT Nat.reduceLeDiff Int.reduceLT
  Int.reduceLE Int.reduceEq Int.reduceBEq Int.reduceBNe Int.reduceAdd Int.reduceSub Int.reduceMul Int.reduceNeg Int.reduceToNat Nat.succ_ne_zero List.replicate and_true
  true_and and_false false_and and_self ge_iff_le gt_iff_lt bne_self_eq_false List.zip_cons_cons List.zip_nil_left List.zip List.zipWith Int.natCast_nonneg
  Int.toNat_natCast List.getElem?_map List.length_map sT sI sB sR sP rV AllIn Int.toNat_zero Int.ofNat_zero
  Int.natCast_zero Nat.le_refl List.mapM_cons List.mapM_nil Option.bind_eq_bind Option.bind_some Option.pure_def List.set_cons_zero List.set_cons_succ List.length_set tt2 tt3
  tt4 tt5 tt9 tt12 tt21 tt22 tt23 tt24 tt25 tt36 tt37 tt43
  tt44 tt51 tt52 tt53 tt59 tt67 tt68 tt69 tt74 tt75 tt76 tt77
  tt78 tt79 tt89 tt92 tt95 tt96 tt97 tt98 tt99 tt102 tt103 tt106
  tt107 tt108 tt114 tt115 tt116 tt117 tt118 tt119 tt120 tt122 tt124 tt125
  tt126 tt127 tt130 tt131 tt132 tt133 tt134 tt135 tt137 tt138 tt139 tt147
  tt148 tt149 tt159 tt164 tt165 tt167 tt168 tt169 tt170 tt171 tt190 tt191
  tt194 tt200 tt208 tt212
attribute [local go_sem] vlit bal rInt rBool vInts pInts vvInts vPairs att

abbrev At2 := Int × List Int
def vAtts (ats : List At2) : T := .sl 2 (ats.map fun a => [.lit (.int .i64 a.1), vInts a.2])
attribute [local go_sem] vAtts
def jaOK : List At2 → Bool
  | [] => false
  | a :: ats => attOK a.1 a.2 && ats.all fun b => attOK b.1 b.2 && decide (b.2.length = a.2.length)
def jaS : List At2 → Int
  | [] => 0
  | a :: ats => (ats.map (·.1)).foldl mx2 a.1
def jaD (ats : List At2) : List Int := joinV (ats.map (·.2))
def jaR (ats : List At2) : PR := if jaOK ats then .tup [att (jaS ats) (jaD ats), vlit (.bool true)] else .tup [.agg [.lit (.int .i64 0), .lit (.slice none 0 0)], vlit (.bool false)]

theorem attOK_vec {s : Int} {d : List Int} (h : attOK s d = true) : vecOK d = true := by
  simp only [attOK, Bool.and_eq_true] at h; exact h.2
theorem vecOK_len {d : List Int} (h : vecOK d = true) : 1 ≤ d.length ∧ d.length ≤ 7 := by
  simp only [vecOK, Bool.and_eq_true, decide_eq_true_eq] at h; exact h.1
theorem vecOK_ne {d : List Int} (h : vecOK d = true) : d ≠ [] := by
  have := vecOK_len h; rintro rfl; simp at this
theorem jaS_snoc {l : List At2} (h : l ≠ []) (x : At2) : jaS (l ++ [x]) = mx2 (jaS l) x.1 := by
  cases l with
  | nil => exact absurd rfl h
  | cons a l => simp [jaS, List.foldl_append]
theorem jaD_snoc {l : List At2} (h : l ≠ []) (x : At2) : jaD (l ++ [x]) = mxL (jaD l) x.2 := by
  cases l with
  | nil => exact absurd rfl h
  | cons a l => simp [jaD, joinV, List.foldl_append]
theorem jaD_len : ∀ {l : List At2} {a : At2} {r : List At2}, l = a :: r → jaOK l = true → (jaD l).length = a.2.length := by
  rintro l a r rfl h
  simp only [jaOK, Bool.and_eq_true, List.all_eq_true, decide_eq_true_eq] at h
  simp only [jaD, List.map_cons, joinV]
  exact fold_length _ _ fun v hv => by
    obtain ⟨b, hb, rfl⟩ := List.mem_map.1 hv
    exact (h.2 b hb).2
theorem vecOK_fold : ∀ (vs : List (List Int)) (v : List Int), vecOK v = true → (∀ w, w ∈ vs → vecOK w = true ∧ w.length = v.length) → vecOK (vs.foldl mxL v) = true
  | [], v, h, _ => h
  | w :: vs, v, h, hw => by
    have h1 := hw w (by simp)
    have hl := mxL_length v w h1.2
    exact vecOK_fold vs _ (vecOK_mxL v w h1.2 h h1.1) fun u hu => by rw [hl]; exact hw u (by simp [hu])
theorem jaD_vec {l : List At2} (h : jaOK l = true) : vecOK (jaD l) = true := by
  cases l with
  | nil => simp [jaOK] at h
  | cons a l =>
    simp only [jaOK, Bool.and_eq_true, List.all_eq_true, decide_eq_true_eq] at h
    simp only [jaD, List.map_cons, joinV]
    exact vecOK_fold _ _ (attOK_vec h.1) fun w hw => by
      obtain ⟨b, hb, rfl⟩ := List.mem_map.1 hw
      exact ⟨attOK_vec (h.2 b hb).1, (h.2 b hb).2⟩
theorem jaOK_snoc {l : List At2} (h : jaOK l = true) (x : At2) : jaOK (l ++ [x]) = (attOK x.1 x.2 && decide (x.2.length = (jaD l).length)) := by
  cases l with
  | nil => simp [jaOK] at h
  | cons a l =>
    rw [jaD_len rfl h]
    simp only [jaOK, Bool.and_eq_true] at h
    simp only [List.cons_append, jaOK, List.all_append, h.1, h.2, Bool.true_and]
    simp
theorem jaOK_take {l : List At2} (h : jaOK l = true) {k : Nat} (hk : 1 ≤ k) : jaOK (l.take k) = true := by
  cases l with
  | nil => simp [jaOK] at h
  | cons a l =>
    obtain ⟨k, rfl⟩ : ∃ j, k = j + 1 := ⟨k - 1, by omega⟩
    simp only [jaOK, Bool.and_eq_true, List.all_eq_true] at h
    simp only [List.take_succ_cons, jaOK, Bool.and_eq_true, List.all_eq_true]
    exact ⟨h.1, fun b hb => h.2 b (List.mem_of_mem_take hb)⟩
theorem jaOK_mem {l : List At2} (h : jaOK l = true) {x : At2} (hx : x ∈ l) : attOK x.1 x.2 = true := by
  cases l with
  | nil => simp at hx
  | cons a l =>
    simp only [jaOK, Bool.and_eq_true, List.all_eq_true] at h
    rcases List.mem_cons.1 hx with rfl | hx
    · exact h.1
    · exact (h.2 x hx).1

def st49 (ats : List At2) : Nat → L
  | 0 => [(.slot 0, sT (vAtts ats)), (.slot 2, sP 2), (.cell 2 0, .c (.t (.lit (.int .i64 0)))), (.cell 2 1, .c (.t (.lit (.slice none 0 0)))), (.slot 4, sP 4), (.cell 4 0, .c (.t (.lit (.int .i64 0)))), (.cell 4 1, .c (.t (.lit (.slice none 0 0)))), (.slot 9, sT (vAtts ats)), (.slot 10, sI ats.length), (.slot 11, sI 0)]
  | i + 1 => [(.slot 0, sT (vAtts ats)), (.slot 2, sP 2), (.cell 2 0, .c (.t (.lit (.int .i64 0)))), (.cell 2 1, .c (.t (.lit (.slice none 0 0)))), (.slot 4, sP 4), (.cell 4 0, .c (.t (.lit (.int .i64 (jaS (ats.take (i + 1))))))), (.cell 4 1, .c (.t (vInts (jaD (ats.take (i + 1)))))), (.slot 9, sT (vAtts ats)), (.slot 10, sI ats.length), (.slot 11, sI ((i + 1 : Nat) : Int))]

theorem c49 (ats : List At2) (hl : ats.length ≤ 4611686018427387903) : Pure Try.prog 49 [.one (vAtts ats)] (jaR ats) := by
  have hfail : jaOK ats = false → jaR ats = .tup [.agg [.lit (.int .i64 0), .lit (.slice none 0 0)], vlit (.bool false)] := fun h => by rw [jaR, if_neg (by simp [h])]
  have hbad : ∀ i, 1 ≤ i → jaOK (ats.take i) = false → jaOK ats = false := fun i hi h => by
    by_cases h2 : jaOK ats = true
    · rw [jaOK_take h2 hi] at h; simp at h
    · simpa using h2
  refine pure_of_body Try.func49 rfl (by simp [Try.f49]) ?_; rw [Try.ntmps49, Try.results49]; intro w0 G0
  (repeat' (first | refine thenL_n ?_ | refine thenL_r ?_ | refine thenL_x ?_ | refine blockL_n ?_ | refine blockL_r ?_ | refine blockL_x ?_ | refine blockL_y rfl ?_ | refine awp_seq ?_ | refine awp_block ?_ | refine awp_ret ?_ | refine awp_exit ?_ | refine awp_skip ?_ | exact absurd hcond (by decide) | (refine awp_txt ?_; refine runs_to [] (by simp only [go_sem]; rfl) ?_) | (refine awp_draw mixed ?_; refine runs_to [] (by simp only [go_sem]; rfl) ?_) | refine runD_nil ⟨by kernel_rfl, ?_⟩ | refine runD_nil ?_ | (refine awp_cond (b := _) (by simp only [go_sem, evB]; rfl) (fun hcond => ?_) (fun hcond => ?_))))
  refine awp_loop (st49 ats) (fun i => i ≤ ats.length ∧ (1 ≤ i → jaOK (ats.take i) = true)) (fun i => ats.length - i) 0 ⟨Nat.zero_le _, by omega⟩ (by refine Imp.of_in ?_; simp only [go_sem, st49]) ?_
  rintro i ⟨hi, hok⟩
  by_cases hlt : (i : Int) < ats.length
  · have hil : i < ats.length := by omega
    have hx : ats[i]? = some ats[i] := List.getElem?_eq_getElem hil
    have hts : ats.take (i + 1) = ats.take i ++ [ats[i]] := List.take_succ_eq_append_getElem hil
    generalize ats[i] = a at hx hts
    have hmem : a ∈ ats := List.mem_of_getElem? hx
    have hw := up i (by omega)
    cases i with
    | zero =>
      simp only [st49]
      have hlt0 : (0 : Int) < ats.length := hlt
      have hx0 : ats[0]? = some a := hx
      have ht1 : ats.take 1 = [a] := by rw [hts]; rfl
      cases h1 : attOK a.1 a.2 with
      | true =>
        have hv := attOK_vec h1
        have hvl := vecOK_len hv
        have hS : jaS (ats.take 1) = a.1 := by rw [ht1]; rfl
        have hD : jaD (ats.take 1) = a.2 := by rw [ht1]; rfl
        have hw0 : IntKind.i64.wrap 1 = 1 := rfl
        have hc1 : ((0 + 1 : Nat) : Int) = 1 := rfl
        (repeat' (first | refine thenL_n ?_ | refine thenL_r ?_ | refine thenL_x ?_ | refine blockL_n ?_ | refine blockL_r ?_ | refine blockL_x ?_ | refine blockL_y rfl ?_ | refine awp_seq ?_ | refine awp_block ?_ | refine awp_ret ?_ | refine awp_exit ?_ | refine awp_skip ?_ | exact absurd hcond (by decide) | (refine awp_txt ?_; refine runs_to [] (by simp only [go_sem, hlt0, hx0, h1, hw0]; rfl) ?_) | (refine awp_draw mixed ?_; refine runs_to [] (by simp only [go_sem, hlt0, hx0, h1, hw0]; rfl) ?_) | refine runD_nil ⟨by kernel_rfl, ?_⟩ | refine runD_nil ?_ | (refine runD_call (c93 _ _) cb93 (by rfl) (by simp only [go_sem, hlt0, hx0, h1, hw0]; rfl) (by ((repeat' (first | exact All2.nil | refine All2.cons ?_ ?_ | exact SubV.one (SubT.same _) | exact SubV.one (SubT.nil _) | refine SubV.agg ?_ | exact SubT.same _ | exact SubT.nil _)); first | done | fail)) ?_; refine runs_to [] (by simp only [go_sem, hlt0, hx0, h1, hw0]; rfl) ?_) | (refine runD_call (c94 a.1 a.2 (by omega)) cb94 (by rfl) (by simp only [go_sem, hlt0, hx0, h1, hw0]; rfl) (by ((repeat' (first | exact All2.nil | refine All2.cons ?_ ?_ | exact SubV.one (SubT.same _) | exact SubV.one (SubT.nil _) | refine SubV.agg ?_ | exact SubT.same _ | exact SubT.nil _)); first | done | fail)) ?_; refine runs_to [] (by simp only [go_sem, hlt0, hx0, h1, hw0]; rfl) ?_) | (refine awp_cond (b := _) (by simp only [go_sem, evB, hlt0, hx0, h1, hw0]; rfl) (fun hcond => ?_) (fun hcond => ?_))))
        refine ⟨1, ⟨by omega, fun _ => by rw [ht1]; simp [jaOK, h1]⟩, by omega, (by refine Imp.of_in ?_; simp only [go_sem, st49, hS, hD, hc1])⟩
      | false =>
        rw [hfail (hbad 1 (by omega) (by rw [ht1]; simp [jaOK, h1]))]
        ((repeat' (first | refine thenL_n ?_ | refine thenL_r ?_ | refine thenL_x ?_ | refine blockL_n ?_ | refine blockL_r ?_ | refine blockL_x ?_ | refine blockL_y rfl ?_ | refine awp_seq ?_ | refine awp_block ?_ | refine awp_ret ?_ | refine awp_exit ?_ | refine awp_skip ?_ | exact absurd hcond (by decide) | (refine awp_txt ?_; refine runs_to [] (by simp only [go_sem, hlt0, hx0, h1]; rfl) ?_) | (refine awp_draw mixed ?_; refine runs_to [] (by simp only [go_sem, hlt0, hx0, h1]; rfl) ?_) | refine runD_nil ⟨by kernel_rfl, ?_⟩ | refine runD_nil ?_ | (refine runD_call (c93 _ _) cb93 (by rfl) (by simp only [go_sem, hlt0, hx0, h1]; rfl) (by ((repeat' (first | exact All2.nil | refine All2.cons ?_ ?_ | exact SubV.one (SubT.same _) | exact SubV.one (SubT.nil _) | refine SubV.agg ?_ | exact SubT.same _ | exact SubT.nil _)); first | done | fail)) ?_; refine runs_to [] (by simp only [go_sem, hlt0, hx0, h1]; rfl) ?_) | (refine awp_cond (b := _) (by simp only [go_sem, evB, hlt0, hx0, h1]; rfl) (fun hcond => ?_) (fun hcond => ?_)))); all_goals (refine leaves_ok (by first | exact Or.inl rfl | exact Or.inr rfl) (by simp only [go_sem, resAll, resL, packL, vecsOf, freezeAll, freezeL, hlt0, hx0, h1]; rfl) ?_; (first | refine SubR.v ?_ | refine SubR.tup ?_); ((repeat' (first | exact All2.nil | refine All2.cons ?_ ?_ | exact SubV.one (SubT.same _) | exact SubV.one (SubT.nil _) | refine SubV.agg ?_ | exact SubT.same _ | exact SubT.nil _)); first | done | fail)))
    | succ i =>
      have hok := hok (by omega)
      have hne : ats.take (i + 1) ≠ [] := by intro e; rw [e] at hok; simp [jaOK] at hok
      have hz : (((i + 1 : Nat) : Int) == 0) = false := by simp; omega
      have hsn := jaOK_snoc hok a
      rw [← hts] at hsn
      have hDv := jaD_vec hok
      simp only [st49]
      cases h1 : attOK a.1 a.2 with
      | true =>
        have hv := attOK_vec h1
        by_cases h2 : a.2.length = (jaD (ats.take (i + 1))).length
        · have kw28 : Pure Try.prog 28 [.one (vvInts [jaD (ats.take (i + 1)), a.2])] (.tup [pInts (mxL (jaD (ats.take (i + 1))) a.2), vlit (.int .i64 0)]) := by
            have := c28 [jaD (ats.take (i + 1)), a.2] (by simp)
            rwa [joinR, if_pos (by simp [joinOK, hDv, hv, h2])] at this
          have hS : jaS (ats.take (i + 1 + 1)) = mx2 (jaS (ats.take (i + 1))) a.1 := by rw [hts, jaS_snoc hne]
          have hD : jaD (ats.take (i + 1 + 1)) = mxL (jaD (ats.take (i + 1))) a.2 := by rw [hts, jaD_snoc hne]
          (repeat' (first | refine thenL_n ?_ | refine thenL_r ?_ | refine thenL_x ?_ | refine blockL_n ?_ | refine blockL_r ?_ | refine blockL_x ?_ | refine blockL_y rfl ?_ | refine awp_seq ?_ | refine awp_block ?_ | refine awp_ret ?_ | refine awp_exit ?_ | refine awp_skip ?_ | exact absurd hcond (by decide) | (refine awp_txt ?_; refine runs_to [29] (by simp only [go_sem, hlt, hx, h1, hz, hw]; rfl) ?_) | (refine awp_draw mixed ?_; refine runs_to [29] (by simp only [go_sem, hlt, hx, h1, hz, hw]; rfl) ?_) | refine runD_nil ⟨by kernel_rfl, ?_⟩ | refine runD_nil ?_ | (refine runD_call (c93 _ _) cb93 (by rfl) (by simp only [go_sem, hlt, hx, h1, hz, hw]; rfl) (by ((repeat' (first | exact All2.nil | refine All2.cons ?_ ?_ | exact SubV.one (SubT.same _) | exact SubV.one (SubT.nil _) | refine SubV.agg ?_ | exact SubT.same _ | exact SubT.nil _)); first | done | fail)) ?_; refine runs_to [] (by simp only [go_sem, hlt, hx, h1, hz, hw]; rfl) ?_) | (refine runD_call (kw28) cb28 (by rfl) (by simp only [go_sem, hlt, hx, h1, hz, hw]; rfl) (by ((repeat' (first | exact All2.nil | refine All2.cons ?_ ?_ | exact SubV.one (SubT.same _) | exact SubV.one (SubT.nil _) | refine SubV.agg ?_ | exact SubT.same _ | exact SubT.nil _)); first | done | fail)) ?_; refine runs_to [] (by simp only [go_sem, hlt, hx, h1, hz, hw]; rfl) ?_) | (refine awp_cond (b := _) (by simp only [go_sem, evB, hlt, hx, h1, hz, hw]; rfl) (fun hcond => ?_) (fun hcond => ?_))))
          refine ⟨i + 1 + 1, ⟨by omega, fun _ => by rw [hsn, h1, h2]; simp⟩, by omega, (by refine Imp.of_in ?_; simp only [go_sem, st49, hS, hD, mx2])⟩
        · have kw28 : Pure Try.prog 28 [.one (vvInts [jaD (ats.take (i + 1)), a.2])] (.tup [vlit (.slice none 0 0), vlit (.int .i64 90)]) := by
            have := c28 [jaD (ats.take (i + 1)), a.2] (by simp)
            rwa [joinR, if_neg (by simp [joinOK, h2])] at this
          rw [hfail (hbad (i + 1 + 1) (by omega) (by rw [hsn]; simp [h2]))]
          ((repeat' (first | refine thenL_n ?_ | refine thenL_r ?_ | refine thenL_x ?_ | refine blockL_n ?_ | refine blockL_r ?_ | refine blockL_x ?_ | refine blockL_y rfl ?_ | refine awp_seq ?_ | refine awp_block ?_ | refine awp_ret ?_ | refine awp_exit ?_ | refine awp_skip ?_ | exact absurd hcond (by decide) | (refine awp_txt ?_; refine runs_to [29] (by simp only [go_sem, hlt, hx, h1, hz]; rfl) ?_) | (refine awp_draw mixed ?_; refine runs_to [29] (by simp only [go_sem, hlt, hx, h1, hz]; rfl) ?_) | refine runD_nil ⟨by kernel_rfl, ?_⟩ | refine runD_nil ?_ | (refine runD_call (c93 _ _) cb93 (by rfl) (by simp only [go_sem, hlt, hx, h1, hz]; rfl) (by ((repeat' (first | exact All2.nil | refine All2.cons ?_ ?_ | exact SubV.one (SubT.same _) | exact SubV.one (SubT.nil _) | refine SubV.agg ?_ | exact SubT.same _ | exact SubT.nil _)); first | done | fail)) ?_; refine runs_to [] (by simp only [go_sem, hlt, hx, h1, hz]; rfl) ?_) | (refine runD_call (kw28) cb28 (by rfl) (by simp only [go_sem, hlt, hx, h1, hz]; rfl) (by ((repeat' (first | exact All2.nil | refine All2.cons ?_ ?_ | exact SubV.one (SubT.same _) | exact SubV.one (SubT.nil _) | refine SubV.agg ?_ | exact SubT.same _ | exact SubT.nil _)); first | done | fail)) ?_; refine runs_to [] (by simp only [go_sem, hlt, hx, h1, hz]; rfl) ?_) | (refine awp_cond (b := _) (by simp only [go_sem, evB, hlt, hx, h1, hz]; rfl) (fun hcond => ?_) (fun hcond => ?_)))); all_goals (refine leaves_ok (by first | exact Or.inl rfl | exact Or.inr rfl) (by simp only [go_sem, resAll, resL, packL, vecsOf, freezeAll, freezeL, hlt, hx, h1, hz]; rfl) ?_; (first | refine SubR.v ?_ | refine SubR.tup ?_); ((repeat' (first | exact All2.nil | refine All2.cons ?_ ?_ | exact SubV.one (SubT.same _) | exact SubV.one (SubT.nil _) | refine SubV.agg ?_ | exact SubT.same _ | exact SubT.nil _)); first | done | fail)))
      | false =>
        rw [hfail (hbad (i + 1 + 1) (by omega) (by rw [hsn]; simp [h1]))]
        ((repeat' (first | refine thenL_n ?_ | refine thenL_r ?_ | refine thenL_x ?_ | refine blockL_n ?_ | refine blockL_r ?_ | refine blockL_x ?_ | refine blockL_y rfl ?_ | refine awp_seq ?_ | refine awp_block ?_ | refine awp_ret ?_ | refine awp_exit ?_ | refine awp_skip ?_ | exact absurd hcond (by decide) | (refine awp_txt ?_; refine runs_to [] (by simp only [go_sem, hlt, hx, h1]; rfl) ?_) | (refine awp_draw mixed ?_; refine runs_to [] (by simp only [go_sem, hlt, hx, h1]; rfl) ?_) | refine runD_nil ⟨by kernel_rfl, ?_⟩ | refine runD_nil ?_ | (refine runD_call (c93 _ _) cb93 (by rfl) (by simp only [go_sem, hlt, hx, h1]; rfl) (by ((repeat' (first | exact All2.nil | refine All2.cons ?_ ?_ | exact SubV.one (SubT.same _) | exact SubV.one (SubT.nil _) | refine SubV.agg ?_ | exact SubT.same _ | exact SubT.nil _)); first | done | fail)) ?_; refine runs_to [] (by simp only [go_sem, hlt, hx, h1]; rfl) ?_) | (refine awp_cond (b := _) (by simp only [go_sem, evB, hlt, hx, h1]; rfl) (fun hcond => ?_) (fun hcond => ?_)))); all_goals (refine leaves_ok (by first | exact Or.inl rfl | exact Or.inr rfl) (by simp only [go_sem, resAll, resL, packL, vecsOf, freezeAll, freezeL, hlt, hx, h1]; rfl) ?_; (first | refine SubR.v ?_ | refine SubR.tup ?_); ((repeat' (first | exact All2.nil | refine All2.cons ?_ ?_ | exact SubV.one (SubT.same _) | exact SubV.one (SubT.nil _) | refine SubV.agg ?_ | exact SubT.same _ | exact SubT.nil _)); first | done | fail)))
  · have hii : i = ats.length := by omega
    have hta : ats.take ats.length = ats := List.take_length
    cases i with
    | zero =>
      have hnil : ats = [] := List.eq_nil_of_length_eq_zero hii.symm
      subst hnil
      simp only [st49]
      have : jaR [] = .tup [.agg [.lit (.int .i64 0), .lit (.slice none 0 0)], vlit (.bool false)] := rfl
      rw [this]
      ((repeat' (first | refine thenL_n ?_ | refine thenL_r ?_ | refine thenL_x ?_ | refine blockL_n ?_ | refine blockL_r ?_ | refine blockL_x ?_ | refine blockL_y rfl ?_ | refine awp_seq ?_ | refine awp_block ?_ | refine awp_ret ?_ | refine awp_exit ?_ | refine awp_skip ?_ | exact absurd hcond (by decide) | (refine awp_txt ?_; refine runs_to [] (by simp only [go_sem, Int.lt_irrefl]; rfl) ?_) | (refine awp_draw mixed ?_; refine runs_to [] (by simp only [go_sem, Int.lt_irrefl]; rfl) ?_) | refine runD_nil ⟨by kernel_rfl, ?_⟩ | refine runD_nil ?_ | (refine awp_cond (b := _) (by simp only [go_sem, evB, Int.lt_irrefl]; rfl) (fun hcond => ?_) (fun hcond => ?_)))); all_goals (refine leaves_ok (by first | exact Or.inl rfl | exact Or.inr rfl) (by simp only [go_sem, resAll, resL, packL, vecsOf, freezeAll, freezeL, Int.lt_irrefl]; rfl) ?_; (first | refine SubR.v ?_ | refine SubR.tup ?_); ((repeat' (first | exact All2.nil | refine All2.cons ?_ ?_ | exact SubV.one (SubT.same _) | exact SubV.one (SubT.nil _) | refine SubV.agg ?_ | exact SubT.same _ | exact SubT.nil _)); first | done | fail)))
    | succ i =>
      have hok := hok (by omega)
      have hti : ats.take (i + 1) = ats := by rw [hii, hta]
      rw [hti] at hok
      rw [jaR, if_pos hok]
      have hpos : (0 : Int) < ats.length := by omega
      simp only [st49, hti]
      ((repeat' (first | refine thenL_n ?_ | refine thenL_r ?_ | refine thenL_x ?_ | refine blockL_n ?_ | refine blockL_r ?_ | refine blockL_x ?_ | refine blockL_y rfl ?_ | refine awp_seq ?_ | refine awp_block ?_ | refine awp_ret ?_ | refine awp_exit ?_ | refine awp_skip ?_ | exact absurd hcond (by decide) | (refine awp_txt ?_; refine runs_to [] (by simp only [go_sem, hlt, hpos]; rfl) ?_) | (refine awp_draw mixed ?_; refine runs_to [] (by simp only [go_sem, hlt, hpos]; rfl) ?_) | refine runD_nil ⟨by kernel_rfl, ?_⟩ | refine runD_nil ?_ | (refine awp_cond (b := _) (by simp only [go_sem, evB, hlt, hpos]; rfl) (fun hcond => ?_) (fun hcond => ?_)))); all_goals (refine leaves_ok (by first | exact Or.inl rfl | exact Or.inr rfl) (by simp only [go_sem, resAll, resL, packL, vecsOf, freezeAll, freezeL, hlt, hpos]; rfl) ?_; (first | refine SubR.v ?_ | refine SubR.tup ?_); ((repeat' (first | exact All2.nil | refine All2.cons ?_ ?_ | exact SubV.one (SubT.same _) | exact SubV.one (SubT.nil _) | refine SubV.agg ?_ | exact SubT.same _ | exact SubT.nil _)); first | done | fail)))
end Go.Proofs.Ytbohgpdpglfepaa
