import Derived.Test.YtbohgpdpglfepaaU10
set_option maxHeartbeats 4000000
set_option maxRecDepth 10000
set_option linter.unusedVariables false
set_option linter.unusedSimpArgs false
namespace Go.Proofs.Ytbohgpdpglfepaa
open Go.AM Go.RowKit
attribute [local irreducible] AWP thenL blockL AM.Leaves LeavesO RunD
attribute [local go_sem] runs stepR actF inF frzA frzW lastW act act1 actPick actNil actBin
  actUn actConv actExtract actFieldAddr actField actAlloc keysOf actBox actLoad treesOf actStore actIndex
  actLen actMx srcL actAppend actMake actBuild actBuildSlice boundL actSlice actCall actEqS isStruct
  isSlice actText actCopy litsOf kindsOK fieldsPlain eqAll eqop dstB dstN boolS litB
  litV sv binv unv lits takeC cellsR trees cellsW mxv repl parts
  fillAt fillRows V1.cs mkV ev evr AM.look put del applyL delD wrD
  undefS SV.to V1.to At.to keysL notIn freshKey PV.up PR.up entry entryV evp
  isAt actPtrNil capsL actFunc sameV sameVs pureCtx doc mkVar AM.Loc.key Cont.keys SV.keys
  V1.keys At.keys Cont.sub SV.sub V1.sub At.sub guardR argsL callR Nat.blt_eq Nat.blt Nat.ble
  Nat.beq_eq_true_eq beq_self_eq_true Array.toList List.map List.append_eq List.nil_append List.cons_append List.append_nil List.append_assoc Bool.and_eq_true decide_true decide_false
  decide_eq_true_eq Bool.not_true Bool.not_false reduceCtorEq if_true if_false ite_true ite_false reduceIte AM.Loc.slot.injEq AM.Loc.cell.injEq AM.Loc.vec.injEq
  List.getElem?_cons_zero List.getElem?_cons_succ List.getElem?_nil Option.map_some Option.map_none Option.toList List.flatMap_nil List.flatMap_cons Bool.and_true Bool.true_and Bool.and_false Bool.false_and
  Bool.true_eq_false Bool.false_eq_true Nat.reduceBEq Nat.reduceEqDiff bool_beq_tt bool_beq_ff bool_beq_tf bool_beq_ft List.length_cons List.length_nil List.drop List.take
  List.drop_zero List.take_zero List.all_cons List.all_nil Value.oneCell' Nat.zero_add Nat.reduceAdd Nat.reduceMul Nat.reduceSub Nat.reduceLT Nat.reduceLeDiff Int.reduceLT
  Int.reduceLE Int.reduceEq Int.reduceBEq Int.reduceBNe Int.reduceAdd Int.reduceSub Int.reduceMul Int.reduceNeg Int.reduceToNat Nat.succ_ne_zero List.replicate and_true
  true_and and_false false_and and_self ge_iff_le gt_iff_lt bne_self_eq_false List.zip_cons_cons List.zip_nil_left List.zip List.zipWith Int.natCast_nonneg
  Int.toNat_natCast List.getElem?_map List.length_map sT sI sB sR sP rV AllIn Int.toNat_zero Int.ofNat_zero
  Int.natCast_zero Nat.le_refl List.mapM_cons List.mapM_nil Option.bind_eq_bind Option.bind_some Option.pure_def List.set_cons_zero List.set_cons_succ List.length_set tt2 tt3
  tt4 tt5 tt9 tt12 tt21 tt22 tt23 tt24 tt25 tt36 tt37 tt43
  tt44 tt51 tt52 tt53 tt59 tt67 tt68 tt69 tt74 tt75 tt76 tt77
  tt78 tt79 tt89 tt92 tt95 tt96 tt97 tt98 tt99 tt102 tt103 tt106
  tt107 tt108 tt114 tt115 tt116 tt117 tt118 tt119 tt120 tt122 tt124 tt125
  tt126 tt127 tt130 tt131 tt132 tt133 tt134 tt135 tt137 tt138 tt139 tt147
  tt148 tt149 tt159 tt164 tt165 tt167 tt168 tt169 tt170 tt171 tt190 tt191
  tt194 tt200 tt208 tt212
attribute [local go_sem] vlit bal rInt rBool vInts pInts vvInts vPairs att vAtts lI lB vK tK dK pOne vAn

theorem s56 (s : Int) (d : List Int) : Does Try.prog 56 [.agg [lI s, .row 100000]] [(.vec 100000, rV 3 d)] (.v (.agg [lI s, .row 100000])) [(.vec 100000, rV 3 d)] := by
  refine does_of_body Try.func56 rfl (by simp [Try.f56]) rfl rfl ?_; rw [Try.ntmps56, Try.results56]; intro w0 G0 ρ0
  ((repeat' (first | refine thenL_n ?_ | refine thenL_r ?_ | refine thenL_x ?_ | refine blockL_n ?_ | refine blockL_r ?_ | refine blockL_x ?_ | refine blockL_y rfl ?_ | refine awp_seq ?_ | refine awp_block ?_ | refine awp_ret ?_ | refine awp_exit ?_ | refine awp_skip ?_ | exact absurd hcond (by decide) | (refine awp_txt ?_; refine runs_to [] (by simp only [go_sem]; rfl) ?_) | (refine awp_draw mixed ?_; refine runs_to [] (by simp only [go_sem]; rfl) ?_) | refine runD_nil ⟨by kernel_rfl, ?_⟩ | refine runD_nil ?_ | (refine awp_cond (b := _) (by simp only [go_sem, evB]; rfl) (fun hcond => ?_) (fun hcond => ?_)))); all_goals (refine leavesD_ok (by first | exact Or.inl rfl | exact Or.inr rfl) (Imp.refl _) (by simp only [go_sem, resAll, resL]; rfl) (by simp only [packL]; (first | refine SubS.v ?_ | refine SubS.tup ?_); ((repeat' (first | exact All2.nil | refine All2.cons ?_ ?_ | exact SubW.one (SubA.same _) | exact SubW.one (SubA.nil _) | exact SubW.one (SubA.ptr _) | refine SubW.agg ?_ | exact SubA.same _ | exact SubA.nil _ | exact SubA.ptr _)); first | done | fail)) (by simp only [go_sem]; repeat' (first | exact trivial | refine And.intro rfl ?_))))

theorem mx2_rng {B a b : Int} (ha : 0 ≤ a ∧ a < B) (hb : 0 ≤ b ∧ b < B) : 0 ≤ mx2 a b ∧ mx2 a b < B := by
  unfold mx2; split <;> assumption
theorem foldl_rng {B : Int} : ∀ (l : List Int) (a : Int), (0 ≤ a ∧ a < B) → (∀ b, b ∈ l → 0 ≤ b ∧ b < B) → 0 ≤ l.foldl mx2 a ∧ l.foldl mx2 a < B
  | [], a, ha, _ => ha
  | b :: l, a, ha, hl => foldl_rng l _ (mx2_rng ha (hl b (by simp))) fun c hc => hl c (by simp [hc])
theorem ja_attOK {l : List At2} (h : jaOK l = true) : attOK (jaS l) (jaD l) = true := by
  have hv := jaD_vec h
  cases l with
  | nil => simp [jaOK] at h
  | cons a l =>
    have hr : ∀ x, x ∈ a :: l → 0 ≤ x.1 ∧ x.1 < 4611686018427387903 := fun x hx => by
      have := jaOK_mem h hx
      simp only [attOK, Bool.and_eq_true, decide_eq_true_eq] at this
      exact this.1
    have := foldl_rng (B := 4611686018427387903) (l.map (·.1)) a.1 (hr a (by simp)) fun b hb => by
      obtain ⟨x, hx, rfl⟩ := List.mem_map.1 hb
      exact hr x (by simp [hx])
    have h1 := decide_eq_true this.1
    have h2 := decide_eq_true this.2
    simp only [attOK, jaS, hv, Bool.and_true]
    rw [Bool.and_eq_true]
    exact ⟨h1, h2⟩
theorem jaOK_two {S x : Int} {D y : List Int} (h : attOK S D = true) : jaOK [(S, D), (x, y)] = (attOK x y && decide (y.length = D.length)) := by
  simp [jaOK, h]

def whoOf (me : Int) (ps : List AN) : List Int := me :: ps.map (·.f)
def agOf (ps : List AN) : Bool := ps.all (·.m)
abbrev tOf (n me s : Int) (d : List Int) (first : Bool) (ps : List AN) : TY := ⟨n, whoOf me ps, first, s, d, jaS (allOf s d ps), jaD (allOf s d ps), agOf ps⟩
/-- What holds of the answers that were taken. -/
structure Tk (n me s : Int) (d : List Int) (ps : List AN) : Prop where
  vi : VI n (whoOf me ps)
  ja : jaOK (allOf s d ps) = true
theorem Tk.len {n me s : Int} {d : List Int} {ps : List AN} (h : Tk n me s d ps) : ps.length ≤ 6 := by
  have := h.vi
  unfold VI at this
  have h2 := cnt_le (whoOf me ps)
  simp only [whoOf, List.length_cons, List.length_map] at this
  simp only [whoOf] at h2
  omega
theorem Tk.whoLen {n me s : Int} {d : List Int} {ps : List AN} (h : Tk n me s d ps) : (whoOf me ps).length ≤ 100 := by
  have := h.len
  simp [whoOf]; omega
theorem Tk.dlen {n me s : Int} {d : List Int} {ps : List AN} (h : Tk n me s d ps) : (jaD (allOf s d ps)).length = d.length := jaD_len rfl h.ja
theorem allOf_snoc (s : Int) (d : List Int) (ps : List AN) (x : AN) : allOf s d (ps ++ [x]) = allOf s d ps ++ [(x.s, x.d)] := by simp [allOf, atsOf]
theorem allOf_ne (s : Int) (d : List Int) (ps : List AN) : allOf s d ps ≠ [] := by simp [allOf]

/-- One more answer. -/
theorem oneMore {n me s : Int} {d : List Int} {first : Bool} {ps : List AN} {x : AN} (hn : 1 ≤ n ∧ n ≤ 7) (hd : (d.length : Int) = n) (h : Tk n me s d ps) (hb : x.d.length ≤ 4611686018427387903) :
    ∃ ok ps', Tk n me s d ps' ∧
      Does Try.prog 64 [.one (.ptr 100000 0), .one (lI x.f), .agg [lI x.s, .t (vInts x.d)], .one (lB x.m)] (tK 100000 100001 (tOf n me s d first ps)) (.v (.one (lB ok))) (tK 100000 29 (tOf n me s d first ps')) ∧
      Does Try.prog 65 [.one (.ptr 100000 0), pOne x.f x.s x.d x.m] (dK 100000 100001 n me s d first ps) (.v (.one (lB ok))) (dK 100000 42 n me s d first ps') := by
  have hA := ja_attOK h.ja
  have hj := jaOK_two (x := x.s) (y := x.d) hA
  rw [h.dlen] at hj
  have hlen := h.len
  by_cases h1 : anOK n me x = true
  · have h2 := h1
    simp only [anOK, Bool.and_eq_true, decide_eq_true_eq] at h2
    obtain ⟨⟨⟨⟨g1, g2⟩, g3⟩, g4⟩, g5⟩ := h2
    have g6 : x.d.length = d.length := by omega
    rw [g4, g6] at hj
    simp only [decide_true, Bool.and_self] at hj
    obtain ⟨k1, k2⟩ := s65bc n me s d first ps x hb (by omega) h1
    by_cases h3 : x.f ∈ ps.map (·.f)
    · exact ⟨false, ps, h, s64b (tOf n me s d first ps) x.f x.s x.d x.m h.whoLen hj (by simp only [whoOf, List.mem_cons]; simp [h3]), k1 h3⟩
    · have hw : x.f ∉ whoOf me ps := by simp only [whoOf, List.mem_cons, not_or]; exact ⟨g3, h3⟩
      have hwho : whoOf me (ps ++ [x]) = whoOf me ps ++ [x.f] := by simp [whoOf]
      refine ⟨true, ps ++ [x], ⟨?_, ?_⟩, ?_, k2 h3⟩
      · rw [hwho]
        have := VI_add1 hn.2 h.vi x.f
        rwa [add1_yes ⟨g1, g2, hw⟩] at this
      · rw [allOf_snoc, jaOK_snoc h.ja, h.dlen, g4, g6]; simp
      · have := s64c (tOf n me s d first ps) x.f x.s x.d x.m h.whoLen hj ⟨g1, g2, hw⟩
        have e : tOf n me s d first (ps ++ [x]) = { (tOf n me s d first ps) with who := (tOf n me s d first ps).who ++ [x.f], S := mx2 (tOf n me s d first ps).S x.s, D := mxL (tOf n me s d first ps).D x.d, ag := (tOf n me s d first ps).ag && x.m } := by
          simp only [tOf, hwho, allOf_snoc, jaS_snoc (allOf_ne s d ps), jaD_snoc (allOf_ne s d ps)]
          simp [agOf]
        rw [e]
        exact this
  · have h1 : anOK n me x = false := by simpa using h1
    refine ⟨false, ps, h, ?_, s65a n me s d first ps x hb h1⟩
    cases h2 : jaOK [(jaS (allOf s d ps), jaD (allOf s d ps)), (x.s, x.d)] with
    | false => exact s64a (tOf n me s d first ps) x.f x.s x.d x.m h2
    | true =>
      rw [hj] at h2
      simp only [Bool.and_eq_true, decide_eq_true_eq] at h2
      refine s64b (tOf n me s d first ps) x.f x.s x.d x.m h.whoLen (by simp only [tOf]; rw [hj]; simp [h2]) ?_
      rintro ⟨g1, g2, g3⟩
      simp only [whoOf, List.mem_cons, not_or] at g3
      simp only [anOK, g1, g2, h2.1, decide_true, Bool.and_true, Bool.true_and] at h1
      have : (x.d.length : Int) = n := by omega
      simp [this] at h1
      exact g3.1 h1

/-- What is chosen: nothing, or something in three ways. -/
theorem choose {n me s : Int} {d : List Int} {first : Bool} {ps : List AN} (late : Bool) (hn : 1 ≤ n ∧ n ≤ 7) (hv : vecOK d = true) (h : Tk n me s d ps) :
    (Does Try.prog 66 [.one (.ptr 100000 0), .one (lB late)] (tK 100000 100001 (tOf n me s d first ps)) (.v (.agg [lI 0, lI 0, .t (.lit (.slice none 0 0))])) (tK 100000 100001 (tOf n me s d first ps)) ∧
      Does Try.prog 67 [.one (.ptr 100000 0), .one (lB late)] (dK 100000 100001 n me s d first ps) (.tup [.one (lI 0), .agg [lI 0, .t (.lit (.slice none 0 0))]]) (dK 100000 100001 n me s d first ps)) ∨
    ∃ k S D, D.length ≤ 7 ∧
      Does Try.prog 67 [.one (.ptr 100000 0), .one (lB late)] (dK 100000 100001 n me s d first ps) (.tup [.one (lI k), .agg [lI S, .t (vInts D)]]) (dK 100000 100001 n me s d first ps) ∧
      (Does Try.prog 66 [.one (.ptr 100000 0), .one (lB late)] (tK 100000 100001 (tOf n me s d first ps)) (.v (.agg [lI k, lI S, .row 29])) (tK 100000 100001 (tOf n me s d first ps) ++ [(.vec 29, rV 3 D)]) ∨
       Does Try.prog 66 [.one (.ptr 100000 0), .one (lB late)] (tK 100000 100001 (tOf n me s d first ps)) (.v (.agg [lI k, lI S, .row 47])) (tK 100000 100001 (tOf n me s d first ps) ++ [(.vec 47, rV 3 D)]) ∨
       Does Try.prog 66 [.one (.ptr 100000 0), .one (lB late)] (tK 100000 100001 (tOf n me s d first ps)) (.v (.agg [lI k, lI S, .row 55])) (tK 100000 100001 (tOf n me s d first ps) ++ [(.vec 55, rV 3 D)])) := by
  have hlen := h.len
  have hwl : ((whoOf me ps).length : Int) = (ps.length : Int) + 1 := by simp [whoOf]
  have hsm : ((tOf n me s d first ps).first && (tOf n me s d first ps).ag) = sameOf first ps := rfl
  have hDv := jaD_vec h.ja
  have hD7 := vecOK_len hDv
  have hd7 := vecOK_len hv
  have k67 := fun k S D => s67 n me s d first ps late k S D (by omega) h.ja
  by_cases h1 : (ps.length : Int) + 1 < maj n
  · left
    exact ⟨s66a _ late fun h2 => by simp only [tOf] at h2; omega, k67 _ _ _ ⟨fun _ => ⟨rfl, rfl, rfl⟩, fun h2 => absurd h1 h2, fun h2 => absurd h1 h2, fun h2 => absurd h1 h2, fun h2 => absurd h1 h2⟩⟩
  have h1' : maj n ≤ ((tOf n me s d first ps).who.length : Int) := by simp only [tOf]; omega
  cases h2 : sameOf first ps with
  | false =>
    right
    exact ⟨2, _, _, hD7.2, k67 _ _ _ ⟨fun h3 => absurd h3 h1, fun _ _ => ⟨rfl, rfl, rfl⟩, fun _ h3 => by simp [h2] at h3, fun _ h3 => by simp [h2] at h3, fun _ h3 => by simp [h2] at h3⟩, .inl (s66b _ late h1' (by rw [hsm]; exact h2) (vecOK_ne hDv) (by simp only [tOf]; omega))⟩
  | true =>
    by_cases h3 : fast n ≤ (ps.length : Int) + 1
    · right
      exact ⟨1, s, d, hd7.2, k67 _ _ _ ⟨fun h3 => absurd h3 h1, fun _ h3 => by simp [h2] at h3, fun _ _ _ => ⟨rfl, rfl, rfl⟩, fun _ _ h4 => absurd h3 h4, fun _ _ h4 => absurd h3 h4⟩, .inr (.inl (s66c _ late h1' (by rw [hsm]; exact h2) (by simp only [tOf]; omega) (vecOK_ne hv) (by simp only [tOf]; omega)))⟩
    · have h3' : ¬ fast n ≤ ((tOf n me s d first ps).who.length : Int) := by simp only [tOf]; omega
      cases late with
      | true =>
        right
        exact ⟨2, s, d, hd7.2, k67 _ _ _ ⟨fun h3 => absurd h3 h1, fun _ h3 => by simp [h2] at h3, fun _ _ h4 => absurd h4 h3, fun _ _ _ _ => ⟨rfl, rfl, rfl⟩, fun _ _ _ h4 => by simp at h4⟩, .inr (.inr (s66d _ h1' (by rw [hsm]; exact h2) h3' (vecOK_ne hv) (by simp only [tOf]; omega)))⟩
      | false =>
        left
        rw [← hsm] at h2
        simp only [Bool.and_eq_true] at h2
        exact ⟨s66a _ false fun _ => ⟨h2.1, h2.2, h3', rfl⟩, k67 _ _ _ ⟨fun h3 => absurd h3 h1, fun _ h4 => by rw [← hsm] at h4; simp [h2] at h4, fun _ _ h4 => absurd h4 h3, fun _ _ _ h4 => by simp at h4, fun _ _ _ _ => ⟨rfl, rfl, rfl⟩⟩⟩
end Go.Proofs.Ytbohgpdpglfepaa
