import Derived.Test.YtbohgpdpglfepaaV4
import Derived.Test.YtbohgpdpglfepaaU8
set_option maxHeartbeats 4000000
set_option maxRecDepth 10000
set_option linter.unusedVariables false
set_option linter.unusedSimpArgs false
namespace Go.Proofs.Ytbohgpdpglfepaa
open Go.AM Go.RowKit
attribute [local irreducible] AWP thenL blockL AM.Leaves LeavesO RunD
attribute [local go_sem] runs stepR actF inF frzA frzW lastW act act1 actPick actNil actBin
  actUn actConv actExtract actFieldAddr actField actAlloc keysOf actBox actLoad treesOf actStore actIndex
  actLen actMx srcL actAppend actMake actBuild actBuildSlice boundL actSlice actCall actEqS isStruct
  isSlice actText actCopy litsOf kindsOK fieldsPlain eqAll eqop dstB dstN boolS litB
  litV sv binv unv lits takeC cellsR trees cellsW mxv repl parts
  fillAt fillRows V1.cs mkV ev evr AM.look put del applyL delD wrD
  undefS SV.to V1.to At.to keysL notIn freshKey PV.up PR.up entry entryV evp
  isAt actPtrNil capsL actFunc sameV sameVs pureCtx doc mkVar AM.Loc.key Cont.keys SV.keys
  V1.keys At.keys Cont.sub SV.sub V1.sub At.sub guardR argsL callR Nat.blt_eq Nat.blt Nat.ble
  Nat.beq_eq_true_eq beq_self_eq_true Array.toList List.map List.append_eq List.nil_append List.cons_append List.append_nil List.append_assoc Bool.and_eq_true decide_true decide_false
  decide_eq_true_eq Bool.not_true Bool.not_false reduceCtorEq if_true if_false ite_true ite_false reduceIte AM.Loc.slot.injEq AM.Loc.cell.injEq AM.Loc.vec.injEq
  List.getElem?_cons_zero List.getElem?_cons_succ List.getElem?_nil Option.map_some Option.map_none Option.toList List.flatMap_nil List.flatMap_cons Bool.and_true Bool.true_and Bool.and_false Bool.false_and
  Bool.true_eq_false Bool.false_eq_true Nat.reduceBEq Nat.reduceEqDiff bool_beq_tt bool_beq_ff bool_beq_tf bool_beq_ft List.length_cons List.length_nil List.drop List.take
  List.drop_zero List.take_zero List.all_cons List.all_nil Value.oneCell' Nat.zero_add Nat.reduceAdd Nat.reduceMul Nat.reduceSub Nat.reduceLT Nat.reduceLeDiff Int.reduceLT
  Int.reduceLE Int.reduceEq Int.reduceBEq Int.reduceBNe Int.reduceAdd Int.reduceSub Int.reduceMul Int.reduceNeg Int.reduceToNat Nat.succ_ne_zero List.replicate and_true
  true_and and_false false_and and_self ge_iff_le gt_iff_lt bne_self_eq_false List.zip_cons_cons List.zip_nil_left List.zip List.zipWith Int.natCast_nonneg
  Int.toNat_natCast List.getElem?_map List.length_map sT sI sB sR sP rV AllIn Int.toNat_zero Int.ofNat_zero
  Int.natCast_zero Nat.le_refl List.mapM_cons List.mapM_nil Option.bind_eq_bind Option.bind_some Option.pure_def List.set_cons_zero List.set_cons_succ List.length_set tt2 tt3
  tt4 tt5 tt9 tt12 tt21 tt22 tt23 tt24 tt25 tt36 tt37 tt43
  tt44 tt51 tt52 tt53 tt59 tt67 tt68 tt69 tt74 tt75 tt76 tt77
  tt78 tt79 tt89 tt92 tt95 tt96 tt97 tt98 tt99 tt102 tt103 tt106
  tt107 tt108 tt114 tt115 tt116 tt117 tt118 tt119 tt120 tt122 tt124 tt125
  tt126 tt127 tt130 tt131 tt132 tt133 tt134 tt135 tt137 tt138 tt139 tt147
  tt148 tt149 tt159 tt164 tt165 tt167 tt168 tt169 tt170 tt171 tt190 tt191
  tt194 tt200 tt208 tt212
attribute [local go_sem] vlit bal rInt rBool vInts pInts vvInts vPairs att vAtts vBy cm iv vvBy lI lB rpL vRp rK plL

def mkR (known : Int) (X : IN) (r : Int) : RP := if r = known then ⟨r, X⟩ else ⟨r, in00⟩
theorem mkR_f (known : Int) (X : IN) (r : Int) : (mkR known X r).f = r := by
  unfold mkR; split <;> rfl
theorem mkR_x {known : Int} {X : IN} {r : Int} : (mkR known X r).x = X ∨ (mkR known X r).x = in00 := by
  unfold mkR; split
  · exact .inl rfl
  · exact .inr rfl

theorem kn_mk {n known : Int} {X : IN} (hX : riOK n X = true) : ∀ (l acc : List Int), (acc ++ l).Nodup → (∀ r, r ∈ l → 0 ≤ r ∧ r < n) → (l.map (mkR known X)).foldl (addK n) (acc.map (mkR known X)) = (acc ++ l).map (mkR known X)
  | [], acc, _, _ => by simp
  | r :: l, acc, hd, hr => by
    have h0 := hr r (by simp)
    have hri : riOK n (mkR known X r).x = true := by
      rcases mkR_x (known := known) (X := X) (r := r) with h | h
      · rw [h]; exact hX
      · rw [h]; rfl
    have hany : (acc.map (mkR known X)).any (fun q => q.f == (mkR known X r).f) = false := by
      rw [List.any_eq_false]
      intro q hq
      obtain ⟨r', hr', rfl⟩ := List.mem_map.1 hq
      rw [mkR_f, mkR_f]
      simp only [beq_iff_eq]
      rintro rfl
      rw [List.nodup_append] at hd
      exact hd.2.2 _ hr' _ (by simp) rfl
    have h1 : addK n (acc.map (mkR known X)) (mkR known X r) = (acc ++ [r]).map (mkR known X) := by
      unfold addK
      rw [if_pos]
      · simp
      · rw [hri, hany, mkR_f]; simp [h0]
    rw [List.map_cons, List.foldl_cons, h1, kn_mk hX l (acc ++ [r]) (by simpa using hd) fun r' h' => hr r' (by simp [h'])]
    simp

theorem add1_in {n : Int} {W : List Int} {r q : Int} (h : q ∈ add1 n W r) : q ∈ W ∨ (0 ≤ q ∧ q < n) := by
  unfold add1 at h
  split at h
  · rename_i hc
    rcases List.mem_append.1 h with h | h
    · exact .inl h
    · simp at h; subst h; exact .inr ⟨hc.1, hc.2.1⟩
  · exact .inl h
theorem add1_nodup {n : Int} {W : List Int} {r : Int} (h : W.Nodup) : (add1 n W r).Nodup := by
  unfold add1
  split
  · rename_i hc
    rw [List.nodup_append]
    refine ⟨h, by simp, fun a ha b hb => ?_⟩
    simp at hb; subst hb
    rintro rfl
    exact hc.2.2 ha
  · exact h
theorem addW_in {n : Int} : ∀ (l W : List Int), (∀ q, q ∈ W → 0 ≤ q ∧ q < n) → ∀ q, q ∈ addW n W l → 0 ≤ q ∧ q < n
  | [], W, h, q, hq => h q hq
  | r :: l, W, h, q, hq => addW_in l (add1 n W r) (fun q' hq' => by
      rcases add1_in hq' with h1 | h1
      · exact h q' h1
      · exact h1) q hq
theorem addW_nodup {n : Int} : ∀ (l W : List Int), W.Nodup → (addW n W l).Nodup
  | [], W, h => h
  | r :: l, W, h => addW_nodup l _ (add1_nodup h)

theorem pk_none {p : RP → Bool} : ∀ {l : List RP} (b : Option RP), (∀ q, q ∈ l → p q = false) → l.foldl (pk1 p) b = b
  | [], b, _ => rfl
  | r :: l, b, h => by
    rw [List.foldl_cons, pk1_no (h r (by simp)), pk_none b fun q hq => h q (by simp [hq])]
theorem pk_only {p : RP → Bool} {K : RP} (hp : p K = true) : ∀ {l : List RP} (b : Option RP), (b = none ∨ b = some K) → (b = some K ∨ K ∈ l) → (∀ q, q ∈ l → p q = true → q = K) → l.foldl (pk1 p) b = some K
  | [], b, _, h, _ => by simpa using h
  | r :: l, b, hb, h, ha => by
    rw [List.foldl_cons]
    have ha2 : ∀ q, q ∈ l → p q = true → q = K := fun q hq => ha q (by simp [hq])
    cases hr : p r with
    | false =>
      rw [pk1_no hr]
      refine pk_only hp b hb ?_ ha2
      rcases h with h | h
      · exact .inl h
      · rcases List.mem_cons.1 h with rfl | h
        · rw [hp] at hr; simp at hr
        · exact .inr h
    | true =>
      have := ha r (by simp) hr
      subst this
      have e : pk1 p b r = some r := by
        rcases hb with rfl | rfl
        · exact pk1_first hr
        · exact pk1_ge hr (by simp [less])
      rw [e]
      exact pk_only hp (some r) (.inr rfl) (.inl rfl) ha2

section
variable {n leader known : Int} {X : IN} {ks : List Int} (hn : 1 ≤ n ∧ n ≤ 7 ∧ 0 ≤ leader ∧ leader < n) (hX : riOK n X = true) (hst : X.st = 1) (hnd : ks.Nodup) (hin : ∀ r, r ∈ ks → 0 ≤ r ∧ r < n)
include hn hX hst hnd hin

theorem nob_dc : dc n leader (ks.map (mkR known X)) = if (ks.length : Int) < maj n then pl0 else
    match wt n leader (ks.map (mkR known X)) with
      | some q => plan 2 q.x
      | none => match pk (fun q => q.x.st == 1) (ks.map (mkR known X)) with
        | some q => plan 3 q.x
        | none => ⟨2, 0, ⟨#[]⟩, [], 0, List.replicate n.toNat 0⟩ := by
  have hk : kn n (ks.map (mkR known X)) = ks.map (mkR known X) := kn_mk hX ks [] (by simpa using hnd) hin
  have hall : ∀ s : Int, (s = 2 ∨ s = 3) → ∀ q, q ∈ ks.map (mkR known X) → (q.x.st == s) = false := by
    intro s hs q hq
    obtain ⟨r, _, rfl⟩ := List.mem_map.1 hq
    rcases mkR_x (known := known) (X := X) (r := r) with h | h
    · rw [h, hst]; simp; omega
    · rw [h]; simp only [in00, beq_eq_false_iff_ne]; omega
  unfold dc
  rw [if_pos hn, hk]
  unfold dcK
  rw [idx_no _ _ (hall 3 (.inr rfl)), if_neg (by omega), List.length_map]
  split
  · rfl
  · have : pk (fun q => q.x.st == 2) (ks.map (mkR known X)) = none := pk_none none (hall 2 (.inl rfl))
    rw [this]
    rfl

theorem nob1 (h : 2 * (ks.length : Int) ≤ n) : (dc n leader (ks.map (mkR known X))) = pl0 := by
  rw [nob_dc hn hX hst hnd hin, if_pos]
  rw [maj_in ⟨hn.1, hn.2.1⟩]; omega
theorem nob2 (h : ¬ 2 * (ks.length : Int) ≤ n) (hk : known ∉ ks) : (dc n leader (ks.map (mkR known X))) = ⟨2, 0, ⟨#[]⟩, [], 0, List.replicate n.toNat 0⟩ := by
  rw [nob_dc hn hX hst hnd hin, if_neg (by rw [maj_in ⟨hn.1, hn.2.1⟩]; omega)]
  have hall : ∀ q, q ∈ ks.map (mkR known X) → q.x = in00 := by
    intro q hq
    obtain ⟨r, hr, rfl⟩ := List.mem_map.1 hq
    unfold mkR
    rw [if_neg (by rintro rfl; exact hk hr)]
  have hw : (ks.map (mkR known X)).filter wit = [] := by
    rw [List.filter_eq_nil_iff]
    intro q hq
    simp [wit, hall q hq, in00]
  have h1 : wt n leader (ks.map (mkR known X)) = none := by
    unfold wt
    rw [hw, if_pos (.inl rfl)]
  have h2 : pk (fun q => q.x.st == 1) (ks.map (mkR known X)) = none := pk_none none fun q hq => by simp [hall q hq, in00]
  rw [h1, h2]
theorem nob3 (h : ¬ 2 * (ks.length : Int) ≤ n) (hk : known ∈ ks) : (X.same = true ∧ dc n leader (ks.map (mkR known X)) = ⟨2, X.k, X.h, X.c, X.s, X.d⟩) ∨ dc n leader (ks.map (mkR known X)) = ⟨3, X.k, X.h, X.c, 0, []⟩ := by
  rw [nob_dc hn hX hst hnd hin, if_neg (by rw [maj_in ⟨hn.1, hn.2.1⟩]; omega)]
  have hK : (⟨known, X⟩ : RP) ∈ ks.map (mkR known X) := List.mem_map.2 ⟨known, hk, if_pos rfl⟩
  have hone : ∀ q, q ∈ ks.map (mkR known X) → (q.x.st == 1) = true → q = ⟨known, X⟩ := by
    intro q hq h1
    obtain ⟨r, hr, rfl⟩ := List.mem_map.1 hq
    unfold mkR at h1 ⊢
    split at h1
    · rename_i e; rw [if_pos e, e]
    · simp [in00] at h1
  cases hw : wt n leader (ks.map (mkR known X)) with
  | some q =>
    left
    unfold wt at hw
    split at hw
    · simp at hw
    · have hm := List.mem_filter.1 (List.mem_of_getElem? hw)
      have hwq := hm.2
      have he := hone q hm.1 (by
        simp only [wit, Bool.and_eq_true] at hwq; exact hwq.1.1)
      subst he
      simp only [wit, Bool.and_eq_true] at hwq
      exact ⟨hwq.1.2, rfl⟩
  | none =>
    right
    have : pk (fun q => q.x.st == 1) (ks.map (mkR known X)) = some ⟨known, X⟩ := pk_only (by simp [hst]) none (.inl rfl) (.inr hK) hone
    rw [this]
    rfl
end

def st14 (n leader known k : Int) (h : ByteArray) (c : List Int) (s : Int) (d : List Int) (same : Bool) (X : IN) (who : List Int) (i : Nat) (W : List Int) : L := [(.slot 3, sI n), (.slot 4, sI leader), (.slot 6, sI known), (.slot 7, sP 7), (.cell 7 0, .c (lI k)), (.cell 7 1, .c (.t (.lit (.string h)))), (.cell 7 2, .c (.t (vBy c))), (.slot 8, sP 8), (.cell 8 0, .c (lI s)), (.cell 8 1, .c (.t (vInts d))), (.slot 9, sB same), (.slot 10, sR 40), (.vec 40, .r 14 135 ((W.map (mkR known X)).map rpL)), (.slot 11, sI W.length), (.slot 12, sB (decide (known ∈ W))), (.slot 13, .s (.v (.one (.vptr 13 1 0 0)))), (.vec 13, .r 1 92 (whoR W)), (.slot 70, sT (vInts who)), (.slot 71, sI who.length), (.slot 72, sI i)]

theorem c14 (n leader known k : Int) (h : ByteArray) (c : List Int) (s : Int) (d : List Int) (same : Bool) (who : List Int) (hwl : who.length * 8 ≤ 140737488351232) (hd : d.length * 8 ≤ 140737488351232) (hc : c.length ≤ 140737488351232) : Pure Try.prog 14 [.agg [.lit (.int .i64 n), .lit (.int .i64 leader), vInts who, .lit (.int .i64 known), .lit (.int .i64 k), .lit (.string h), vBy c, .lit (.int .i64 s), vInts d, .lit (.bool same)]] (rBool true) := by
  have hd2 : d.length ≤ 4611686018427387903 := by omega
  by_cases g1 : n < 1
  · refine pure_of_body Try.func14 rfl (by simp [Try.f14]) ?_; rw [Try.ntmps14, Try.results14]; intro w0 G0
    ((repeat' (first | refine thenL_n ?_ | refine thenL_r ?_ | refine thenL_x ?_ | refine blockL_n ?_ | refine blockL_r ?_ | refine blockL_x ?_ | refine blockL_y rfl ?_ | refine awp_seq ?_ | refine awp_block ?_ | refine awp_ret ?_ | refine awp_exit ?_ | refine awp_skip ?_ | exact absurd hcond (by decide) | (first | (refine awp_txt ?_; refine runs_to [] (by simp only [go_sem, g1]; rfl) ?_) | (refine awp_draw mixed ?_; refine runs_to [] (by simp only [go_sem, g1]; rfl) ?_)) | refine runD_nil ⟨by kernel_rfl, ?_⟩ | refine runD_nil ?_ | (refine runD_call (c72) cb72 (by rfl) (by simp only [go_sem, g1]; rfl) (by ((repeat' (first | exact All2.nil | refine All2.cons ?_ ?_ | exact SubV.one (SubT.same _) | exact SubV.one (SubT.nil _) | refine SubV.agg ?_ | exact SubT.same _ | exact SubT.nil _)); first | done | fail)) ?_; refine runs_to [] (by simp only [go_sem, g1]; rfl) ?_) | (refine awp_cond (b := _) (by simp only [go_sem, evB, g1]; rfl) (fun hcond => ?_) (fun hcond => ?_)))); all_goals (refine leaves_ok (by first | exact Or.inl rfl | exact Or.inr rfl) (by simp only [go_sem, resAll, resL, packL, vecsOf, freezeAll, freezeL, g1]; rfl) ?_; (first | refine SubR.v ?_ | refine SubR.tup ?_); ((repeat' (first | exact All2.nil | refine All2.cons ?_ ?_ | exact SubV.one (SubT.same _) | exact SubV.one (SubT.nil _) | refine SubV.agg ?_ | exact SubT.same _ | exact SubT.nil _)); first | done | fail)))
  by_cases g2 : 7 < n
  · refine pure_of_body Try.func14 rfl (by simp [Try.f14]) ?_; rw [Try.ntmps14, Try.results14]; intro w0 G0
    ((repeat' (first | refine thenL_n ?_ | refine thenL_r ?_ | refine thenL_x ?_ | refine blockL_n ?_ | refine blockL_r ?_ | refine blockL_x ?_ | refine blockL_y rfl ?_ | refine awp_seq ?_ | refine awp_block ?_ | refine awp_ret ?_ | refine awp_exit ?_ | refine awp_skip ?_ | exact absurd hcond (by decide) | (first | (refine awp_txt ?_; refine runs_to [] (by simp only [go_sem, g1, g2]; rfl) ?_) | (refine awp_draw mixed ?_; refine runs_to [] (by simp only [go_sem, g1, g2]; rfl) ?_)) | refine runD_nil ⟨by kernel_rfl, ?_⟩ | refine runD_nil ?_ | (refine runD_call (c72) cb72 (by rfl) (by simp only [go_sem, g1, g2]; rfl) (by ((repeat' (first | exact All2.nil | refine All2.cons ?_ ?_ | exact SubV.one (SubT.same _) | exact SubV.one (SubT.nil _) | refine SubV.agg ?_ | exact SubT.same _ | exact SubT.nil _)); first | done | fail)) ?_; refine runs_to [] (by simp only [go_sem, g1, g2]; rfl) ?_) | (refine awp_cond (b := _) (by simp only [go_sem, evB, g1, g2]; rfl) (fun hcond => ?_) (fun hcond => ?_)))); all_goals (refine leaves_ok (by first | exact Or.inl rfl | exact Or.inr rfl) (by simp only [go_sem, resAll, resL, packL, vecsOf, freezeAll, freezeL, g1, g2]; rfl) ?_; (first | refine SubR.v ?_ | refine SubR.tup ?_); ((repeat' (first | exact All2.nil | refine All2.cons ?_ ?_ | exact SubV.one (SubT.same _) | exact SubV.one (SubT.nil _) | refine SubV.agg ?_ | exact SubT.same _ | exact SubT.nil _)); first | done | fail)))
  by_cases g3 : leader < 0
  · refine pure_of_body Try.func14 rfl (by simp [Try.f14]) ?_; rw [Try.ntmps14, Try.results14]; intro w0 G0
    ((repeat' (first | refine thenL_n ?_ | refine thenL_r ?_ | refine thenL_x ?_ | refine blockL_n ?_ | refine blockL_r ?_ | refine blockL_x ?_ | refine blockL_y rfl ?_ | refine awp_seq ?_ | refine awp_block ?_ | refine awp_ret ?_ | refine awp_exit ?_ | refine awp_skip ?_ | exact absurd hcond (by decide) | (first | (refine awp_txt ?_; refine runs_to [] (by simp only [go_sem, g1, g2, g3]; rfl) ?_) | (refine awp_draw mixed ?_; refine runs_to [] (by simp only [go_sem, g1, g2, g3]; rfl) ?_)) | refine runD_nil ⟨by kernel_rfl, ?_⟩ | refine runD_nil ?_ | (refine runD_call (c72) cb72 (by rfl) (by simp only [go_sem, g1, g2, g3]; rfl) (by ((repeat' (first | exact All2.nil | refine All2.cons ?_ ?_ | exact SubV.one (SubT.same _) | exact SubV.one (SubT.nil _) | refine SubV.agg ?_ | exact SubT.same _ | exact SubT.nil _)); first | done | fail)) ?_; refine runs_to [] (by simp only [go_sem, g1, g2, g3]; rfl) ?_) | (refine awp_cond (b := _) (by simp only [go_sem, evB, g1, g2, g3]; rfl) (fun hcond => ?_) (fun hcond => ?_)))); all_goals (refine leaves_ok (by first | exact Or.inl rfl | exact Or.inr rfl) (by simp only [go_sem, resAll, resL, packL, vecsOf, freezeAll, freezeL, g1, g2, g3]; rfl) ?_; (first | refine SubR.v ?_ | refine SubR.tup ?_); ((repeat' (first | exact All2.nil | refine All2.cons ?_ ?_ | exact SubV.one (SubT.same _) | exact SubV.one (SubT.nil _) | refine SubV.agg ?_ | exact SubT.same _ | exact SubT.nil _)); first | done | fail)))
  by_cases g4 : n ≤ leader
  · refine pure_of_body Try.func14 rfl (by simp [Try.f14]) ?_; rw [Try.ntmps14, Try.results14]; intro w0 G0
    ((repeat' (first | refine thenL_n ?_ | refine thenL_r ?_ | refine thenL_x ?_ | refine blockL_n ?_ | refine blockL_r ?_ | refine blockL_x ?_ | refine blockL_y rfl ?_ | refine awp_seq ?_ | refine awp_block ?_ | refine awp_ret ?_ | refine awp_exit ?_ | refine awp_skip ?_ | exact absurd hcond (by decide) | (first | (refine awp_txt ?_; refine runs_to [] (by simp only [go_sem, g1, g2, g3, g4]; rfl) ?_) | (refine awp_draw mixed ?_; refine runs_to [] (by simp only [go_sem, g1, g2, g3, g4]; rfl) ?_)) | refine runD_nil ⟨by kernel_rfl, ?_⟩ | refine runD_nil ?_ | (refine runD_call (c72) cb72 (by rfl) (by simp only [go_sem, g1, g2, g3, g4]; rfl) (by ((repeat' (first | exact All2.nil | refine All2.cons ?_ ?_ | exact SubV.one (SubT.same _) | exact SubV.one (SubT.nil _) | refine SubV.agg ?_ | exact SubT.same _ | exact SubT.nil _)); first | done | fail)) ?_; refine runs_to [] (by simp only [go_sem, g1, g2, g3, g4]; rfl) ?_) | (refine awp_cond (b := _) (by simp only [go_sem, evB, g1, g2, g3, g4]; rfl) (fun hcond => ?_) (fun hcond => ?_)))); all_goals (refine leaves_ok (by first | exact Or.inl rfl | exact Or.inr rfl) (by simp only [go_sem, resAll, resL, packL, vecsOf, freezeAll, freezeL, g1, g2, g3, g4]; rfl) ?_; (first | refine SubR.v ?_ | refine SubR.tup ?_); ((repeat' (first | exact All2.nil | refine All2.cons ?_ ?_ | exact SubV.one (SubT.same _) | exact SubV.one (SubT.nil _) | refine SubV.agg ?_ | exact SubT.same _ | exact SubT.nil _)); first | done | fail)))
  cases g5 : attOK s d with
  | false =>
    refine pure_of_body Try.func14 rfl (by simp [Try.f14]) ?_; rw [Try.ntmps14, Try.results14]; intro w0 G0
    ((repeat' (first | refine thenL_n ?_ | refine thenL_r ?_ | refine thenL_x ?_ | refine blockL_n ?_ | refine blockL_r ?_ | refine blockL_x ?_ | refine blockL_y rfl ?_ | refine awp_seq ?_ | refine awp_block ?_ | refine awp_ret ?_ | refine awp_exit ?_ | refine awp_skip ?_ | exact absurd hcond (by decide) | (first | (refine awp_txt ?_; refine runs_to [] (by simp only [go_sem, g1, g2, g3, g4, g5]; rfl) ?_) | (refine awp_draw mixed ?_; refine runs_to [] (by simp only [go_sem, g1, g2, g3, g4, g5]; rfl) ?_)) | refine runD_nil ⟨by kernel_rfl, ?_⟩ | refine runD_nil ?_ | (refine runD_call (c73 s d hd2) cb73 (by rfl) (by simp only [go_sem, g1, g2, g3, g4, g5]; rfl) (by ((repeat' (first | exact All2.nil | refine All2.cons ?_ ?_ | exact SubV.one (SubT.same _) | exact SubV.one (SubT.nil _) | refine SubV.agg ?_ | exact SubT.same _ | exact SubT.nil _)); first | done | fail)) ?_; refine runs_to [] (by simp only [go_sem, g1, g2, g3, g4, g5]; rfl) ?_) | (refine runD_call (c72) cb72 (by rfl) (by simp only [go_sem, g1, g2, g3, g4, g5]; rfl) (by ((repeat' (first | exact All2.nil | refine All2.cons ?_ ?_ | exact SubV.one (SubT.same _) | exact SubV.one (SubT.nil _) | refine SubV.agg ?_ | exact SubT.same _ | exact SubT.nil _)); first | done | fail)) ?_; refine runs_to [] (by simp only [go_sem, g1, g2, g3, g4, g5]; rfl) ?_) | (refine awp_cond (b := _) (by simp only [go_sem, evB, g1, g2, g3, g4, g5]; rfl) (fun hcond => ?_) (fun hcond => ?_)))); all_goals (refine leaves_ok (by first | exact Or.inl rfl | exact Or.inr rfl) (by simp only [go_sem, resAll, resL, packL, vecsOf, freezeAll, freezeL, g1, g2, g3, g4, g5]; rfl) ?_; (first | refine SubR.v ?_ | refine SubR.tup ?_); ((repeat' (first | exact All2.nil | refine All2.cons ?_ ?_ | exact SubV.one (SubT.same _) | exact SubV.one (SubT.nil _) | refine SubV.agg ?_ | exact SubT.same _ | exact SubT.nil _)); first | done | fail)))
  | true =>
  by_cases g6 : (d.length : Int) = n
  case neg =>
    have g6' : (((d.length : Nat) : Int) != n) = true := by simpa using g6
    refine pure_of_body Try.func14 rfl (by simp [Try.f14]) ?_; rw [Try.ntmps14, Try.results14]; intro w0 G0
    ((repeat' (first | refine thenL_n ?_ | refine thenL_r ?_ | refine thenL_x ?_ | refine blockL_n ?_ | refine blockL_r ?_ | refine blockL_x ?_ | refine blockL_y rfl ?_ | refine awp_seq ?_ | refine awp_block ?_ | refine awp_ret ?_ | refine awp_exit ?_ | refine awp_skip ?_ | exact absurd hcond (by decide) | (first | (refine awp_txt ?_; refine runs_to [] (by simp only [go_sem, g1, g2, g3, g4, g5, g6']; rfl) ?_) | (refine awp_draw mixed ?_; refine runs_to [] (by simp only [go_sem, g1, g2, g3, g4, g5, g6']; rfl) ?_)) | refine runD_nil ⟨by kernel_rfl, ?_⟩ | refine runD_nil ?_ | (refine runD_call (c73 s d hd2) cb73 (by rfl) (by simp only [go_sem, g1, g2, g3, g4, g5, g6']; rfl) (by ((repeat' (first | exact All2.nil | refine All2.cons ?_ ?_ | exact SubV.one (SubT.same _) | exact SubV.one (SubT.nil _) | refine SubV.agg ?_ | exact SubT.same _ | exact SubT.nil _)); first | done | fail)) ?_; refine runs_to [] (by simp only [go_sem, g1, g2, g3, g4, g5, g6']; rfl) ?_) | (refine runD_call (c72) cb72 (by rfl) (by simp only [go_sem, g1, g2, g3, g4, g5, g6']; rfl) (by ((repeat' (first | exact All2.nil | refine All2.cons ?_ ?_ | exact SubV.one (SubT.same _) | exact SubV.one (SubT.nil _) | refine SubV.agg ?_ | exact SubT.same _ | exact SubT.nil _)); first | done | fail)) ?_; refine runs_to [] (by simp only [go_sem, g1, g2, g3, g4, g5, g6']; rfl) ?_) | (refine awp_cond (b := _) (by simp only [go_sem, evB, g1, g2, g3, g4, g5, g6']; rfl) (fun hcond => ?_) (fun hcond => ?_)))); all_goals (refine leaves_ok (by first | exact Or.inl rfl | exact Or.inr rfl) (by simp only [go_sem, resAll, resL, packL, vecsOf, freezeAll, freezeL, g1, g2, g3, g4, g5, g6']; rfl) ?_; (first | refine SubR.v ?_ | refine SubR.tup ?_); ((repeat' (first | exact All2.nil | refine All2.cons ?_ ?_ | exact SubV.one (SubT.same _) | exact SubV.one (SubT.nil _) | refine SubV.agg ?_ | exact SubT.same _ | exact SubT.nil _)); first | done | fail)))
  have g6' : (((d.length : Nat) : Int) != n) = false := by simpa using g6
  by_cases g7 : k < 0
  · refine pure_of_body Try.func14 rfl (by simp [Try.f14]) ?_; rw [Try.ntmps14, Try.results14]; intro w0 G0
    ((repeat' (first | refine thenL_n ?_ | refine thenL_r ?_ | refine thenL_x ?_ | refine blockL_n ?_ | refine blockL_r ?_ | refine blockL_x ?_ | refine blockL_y rfl ?_ | refine awp_seq ?_ | refine awp_block ?_ | refine awp_ret ?_ | refine awp_exit ?_ | refine awp_skip ?_ | exact absurd hcond (by decide) | (first | (refine awp_txt ?_; refine runs_to [] (by simp only [go_sem, g1, g2, g3, g4, g5, g6', g7]; rfl) ?_) | (refine awp_draw mixed ?_; refine runs_to [] (by simp only [go_sem, g1, g2, g3, g4, g5, g6', g7]; rfl) ?_)) | refine runD_nil ⟨by kernel_rfl, ?_⟩ | refine runD_nil ?_ | (refine runD_call (c73 s d hd2) cb73 (by rfl) (by simp only [go_sem, g1, g2, g3, g4, g5, g6', g7]; rfl) (by ((repeat' (first | exact All2.nil | refine All2.cons ?_ ?_ | exact SubV.one (SubT.same _) | exact SubV.one (SubT.nil _) | refine SubV.agg ?_ | exact SubT.same _ | exact SubT.nil _)); first | done | fail)) ?_; refine runs_to [] (by simp only [go_sem, g1, g2, g3, g4, g5, g6', g7]; rfl) ?_) | (refine runD_call (c72) cb72 (by rfl) (by simp only [go_sem, g1, g2, g3, g4, g5, g6', g7]; rfl) (by ((repeat' (first | exact All2.nil | refine All2.cons ?_ ?_ | exact SubV.one (SubT.same _) | exact SubV.one (SubT.nil _) | refine SubV.agg ?_ | exact SubT.same _ | exact SubT.nil _)); first | done | fail)) ?_; refine runs_to [] (by simp only [go_sem, g1, g2, g3, g4, g5, g6', g7]; rfl) ?_) | (refine awp_cond (b := _) (by simp only [go_sem, evB, g1, g2, g3, g4, g5, g6', g7]; rfl) (fun hcond => ?_) (fun hcond => ?_)))); all_goals (refine leaves_ok (by first | exact Or.inl rfl | exact Or.inr rfl) (by simp only [go_sem, resAll, resL, packL, vecsOf, freezeAll, freezeL, g1, g2, g3, g4, g5, g6', g7]; rfl) ?_; (first | refine SubR.v ?_ | refine SubR.tup ?_); ((repeat' (first | exact All2.nil | refine All2.cons ?_ ?_ | exact SubV.one (SubT.same _) | exact SubV.one (SubT.nil _) | refine SubV.agg ?_ | exact SubT.same _ | exact SubT.nil _)); first | done | fail)))
  by_cases g8 : 2 < k
  · refine pure_of_body Try.func14 rfl (by simp [Try.f14]) ?_; rw [Try.ntmps14, Try.results14]; intro w0 G0
    ((repeat' (first | refine thenL_n ?_ | refine thenL_r ?_ | refine thenL_x ?_ | refine blockL_n ?_ | refine blockL_r ?_ | refine blockL_x ?_ | refine blockL_y rfl ?_ | refine awp_seq ?_ | refine awp_block ?_ | refine awp_ret ?_ | refine awp_exit ?_ | refine awp_skip ?_ | exact absurd hcond (by decide) | (first | (refine awp_txt ?_; refine runs_to [] (by simp only [go_sem, g1, g2, g3, g4, g5, g6', g7, g8]; rfl) ?_) | (refine awp_draw mixed ?_; refine runs_to [] (by simp only [go_sem, g1, g2, g3, g4, g5, g6', g7, g8]; rfl) ?_)) | refine runD_nil ⟨by kernel_rfl, ?_⟩ | refine runD_nil ?_ | (refine runD_call (c73 s d hd2) cb73 (by rfl) (by simp only [go_sem, g1, g2, g3, g4, g5, g6', g7, g8]; rfl) (by ((repeat' (first | exact All2.nil | refine All2.cons ?_ ?_ | exact SubV.one (SubT.same _) | exact SubV.one (SubT.nil _) | refine SubV.agg ?_ | exact SubT.same _ | exact SubT.nil _)); first | done | fail)) ?_; refine runs_to [] (by simp only [go_sem, g1, g2, g3, g4, g5, g6', g7, g8]; rfl) ?_) | (refine runD_call (c72) cb72 (by rfl) (by simp only [go_sem, g1, g2, g3, g4, g5, g6', g7, g8]; rfl) (by ((repeat' (first | exact All2.nil | refine All2.cons ?_ ?_ | exact SubV.one (SubT.same _) | exact SubV.one (SubT.nil _) | refine SubV.agg ?_ | exact SubT.same _ | exact SubT.nil _)); first | done | fail)) ?_; refine runs_to [] (by simp only [go_sem, g1, g2, g3, g4, g5, g6', g7, g8]; rfl) ?_) | (refine awp_cond (b := _) (by simp only [go_sem, evB, g1, g2, g3, g4, g5, g6', g7, g8]; rfl) (fun hcond => ?_) (fun hcond => ?_)))); all_goals (refine leaves_ok (by first | exact Or.inl rfl | exact Or.inr rfl) (by simp only [go_sem, resAll, resL, packL, vecsOf, freezeAll, freezeL, g1, g2, g3, g4, g5, g6', g7, g8]; rfl) ?_; (first | refine SubR.v ?_ | refine SubR.tup ?_); ((repeat' (first | exact All2.nil | refine All2.cons ?_ ?_ | exact SubV.one (SubT.same _) | exact SubV.one (SubT.nil _) | refine SubV.agg ?_ | exact SubT.same _ | exact SubT.nil _)); first | done | fail)))
  obtain ⟨X, hXe⟩ : ∃ X : IN, X = ⟨0, 0, 1, 0, 0, 0, leader, k, h, c, s, d, same⟩ := ⟨_, rfl⟩
  have hXr : riOK n X = true := by subst hXe; simp [riOK, g5, g6, kOK]; omega
  have hXst : X.st = 1 := by rw [hXe]
  have hXv : X.v1 = 0 := by rw [hXe]
  have hXok : X.ok := by subst hXe; exact ⟨by simp only; omega, hd⟩
  have hnn : 1 ≤ n ∧ n ≤ 7 ∧ 0 ≤ leader ∧ leader < n := by omega
  refine pure_of_body Try.func14 rfl (by simp [Try.f14]) ?_; rw [Try.ntmps14, Try.results14]; intro w0 G0
  (repeat' (first | refine thenL_n ?_ | refine thenL_r ?_ | refine thenL_x ?_ | refine blockL_n ?_ | refine blockL_r ?_ | refine blockL_x ?_ | refine blockL_y rfl ?_ | refine awp_seq ?_ | refine awp_block ?_ | refine awp_ret ?_ | refine awp_exit ?_ | refine awp_skip ?_ | exact absurd hcond (by decide) | (first | (refine awp_txt ?_; refine runs_to [] (by simp only [go_sem, g1, g2, g3, g4, g5, g6', g7, g8]; rfl) ?_) | (refine awp_draw mixed ?_; refine runs_to [] (by simp only [go_sem, g1, g2, g3, g4, g5, g6', g7, g8]; rfl) ?_)) | refine runD_nil ⟨by kernel_rfl, ?_⟩ | refine runD_nil ?_ | (refine runD_call (c73 s d hd2) cb73 (by rfl) (by simp only [go_sem, g1, g2, g3, g4, g5, g6', g7, g8]; rfl) (by ((repeat' (first | exact All2.nil | refine All2.cons ?_ ?_ | exact SubV.one (SubT.same _) | exact SubV.one (SubT.nil _) | refine SubV.agg ?_ | exact SubT.same _ | exact SubT.nil _)); first | done | fail)) ?_; refine runs_to [] (by simp only [go_sem, g1, g2, g3, g4, g5, g6', g7, g8]; rfl) ?_) | (refine awp_cond (b := _) (by simp only [go_sem, evB, g1, g2, g3, g4, g5, g6', g7, g8]; rfl) (fun hcond => ?_) (fun hcond => ?_))))
  refine awp_loop (fun p : Nat × List Int => st14 n leader known k h c s d same X who p.1 p.2) (fun p => p.1 ≤ who.length ∧ VI n p.2 ∧ p.2 = addW n [] (who.take p.1)) (fun p => who.length - p.1) (0, []) ⟨Nat.zero_le _, rfl, rfl⟩ (Imp.trans (Imp.adopt 10 40 14 135 (by simp only [go_sem]) (by decide) (by simp only [go_sem])) (by refine Imp.of_in ?_; simp only [go_sem, st14, whoR, List.map_nil, List.not_mem_nil, Int.natCast_zero])) ?_
  rintro ⟨i, W⟩ ⟨hi, hV, hW⟩
  simp only at hi hV hW
  have hWl : W.length ≤ 7 := by rw [hV]; exact cnt_le W
  simp only [st14]
  by_cases hlt : (i : Int) < who.length
  · have hil : i < who.length := by omega
    have hx : who[i]? = some who[i] := List.getElem?_eq_getElem hil
    have hfin : addW n [] (who.take (i + 1)) = add1 n (addW n [] (who.take i)) who[i] := foldS (add1 n) [] who i hil
    rw [← hW] at hfin
    have hw := up i (by omega)
    generalize who[i] = r at hx hfin
    by_cases q1 : r < 0
    · have hz : add1 n W r = W := add1_no (by omega)
      rw [hz] at hfin
      (repeat' (first | refine thenL_n ?_ | refine thenL_r ?_ | refine thenL_x ?_ | refine blockL_n ?_ | refine blockL_r ?_ | refine blockL_x ?_ | refine blockL_y rfl ?_ | refine awp_seq ?_ | refine awp_block ?_ | refine awp_ret ?_ | refine awp_exit ?_ | refine awp_skip ?_ | exact absurd hcond (by decide) | (first | (refine awp_txt ?_; refine runs_to [] (by simp only [go_sem, hlt, hil, hx, hw, q1]; rfl) ?_) | (refine awp_draw mixed ?_; refine runs_to [] (by simp only [go_sem, hlt, hil, hx, hw, q1]; rfl) ?_)) | refine runD_nil ⟨by kernel_rfl, ?_⟩ | refine runD_nil ?_ | (refine awp_cond (b := _) (by simp only [go_sem, evB, hlt, hil, hx, hw, q1]; rfl) (fun hcond => ?_) (fun hcond => ?_))))
      exact ⟨(i + 1, W), ⟨by simp only; omega, hV, hfin.symm⟩, by simp only; omega, (by refine Imp.of_in ?_; simp only [go_sem, st14])⟩
    by_cases q2 : n ≤ r
    · have hz : add1 n W r = W := add1_no (by omega)
      rw [hz] at hfin
      (repeat' (first | refine thenL_n ?_ | refine thenL_r ?_ | refine thenL_x ?_ | refine blockL_n ?_ | refine blockL_r ?_ | refine blockL_x ?_ | refine blockL_y rfl ?_ | refine awp_seq ?_ | refine awp_block ?_ | refine awp_ret ?_ | refine awp_exit ?_ | refine awp_skip ?_ | exact absurd hcond (by decide) | (first | (refine awp_txt ?_; refine runs_to [] (by simp only [go_sem, hlt, hil, hx, hw, q1, q2]; rfl) ?_) | (refine awp_draw mixed ?_; refine runs_to [] (by simp only [go_sem, hlt, hil, hx, hw, q1, q2]; rfl) ?_)) | refine runD_nil ⟨by kernel_rfl, ?_⟩ | refine runD_nil ?_ | (refine awp_cond (b := _) (by simp only [go_sem, evB, hlt, hil, hx, hw, q1, q2]; rfl) (fun hcond => ?_) (fun hcond => ?_))))
      exact ⟨(i + 1, W), ⟨by simp only; omega, hV, hfin.symm⟩, by simp only; omega, (by refine Imp.of_in ?_; simp only [go_sem, st14])⟩
    have p1 : 0 ≤ r := by omega
    have p3 : r < 7 := by omega
    have p3' : r < ((7 : Nat) : Int) := p3
    have p4 : r.toNat < 7 := by omega
    have hget := whoR_get (W := W) p1 p3
    have hset := whoR_set (W := W) p1 p3
    have hzlen := whoR_len W
    by_cases q5 : r ∈ W
    · have q5' : decide (r ∈ W) = true := by simp [q5]
      have hz : add1 n W r = W := add1_no (by simp [q5])
      rw [hz] at hfin
      (repeat' (first | refine thenL_n ?_ | refine thenL_r ?_ | refine thenL_x ?_ | refine blockL_n ?_ | refine blockL_r ?_ | refine blockL_x ?_ | refine blockL_y rfl ?_ | refine awp_seq ?_ | refine awp_block ?_ | refine awp_ret ?_ | refine awp_exit ?_ | refine awp_skip ?_ | exact absurd hcond (by decide) | (first | (refine awp_txt ?_; refine runs_to [] (by simp only [go_sem, hlt, hil, hx, hw, q1, q2, p1, p3', p4, hget, hzlen, q5']; rfl) ?_) | (refine awp_draw mixed ?_; refine runs_to [] (by simp only [go_sem, hlt, hil, hx, hw, q1, q2, p1, p3', p4, hget, hzlen, q5']; rfl) ?_)) | refine runD_nil ⟨by kernel_rfl, ?_⟩ | refine runD_nil ?_ | (refine awp_cond (b := _) (by simp only [go_sem, evB, hlt, hil, hx, hw, q1, q2, p1, p3', p4, hget, hzlen, q5']; rfl) (fun hcond => ?_) (fun hcond => ?_))))
      exact ⟨(i + 1, W), ⟨by simp only; omega, hV, hfin.symm⟩, by simp only; omega, (by refine Imp.of_in ?_; simp only [go_sem, st14])⟩
    · have q5' : decide (r ∈ W) = false := by simp [q5]
      have hz : add1 n W r = W ++ [r] := add1_yes ⟨by omega, by omega, q5⟩
      rw [hz] at hfin
      have hV2 : VI n (W ++ [r]) := by rw [← hz]; exact VI_add1 hnn.2.1 hV r
      have hwc : IntKind.i64.wrap ((W.length : Int) + 1) = (((W ++ [r]).length : Nat) : Int) := by
        rw [IntWalk.i64_in _ ⟨by omega, by omega⟩]; simp
      have hc1 : (W.map (mkR known X)).length + 1 ≤ 140737488355328 := by rw [List.length_map]; omega
      have hc2 : ((W.map (mkR known X)).length + 1) * 152 ≤ 140737488355328 := by rw [List.length_map]; omega
      rw [List.length_map] at hc1 hc2
      by_cases q6 : r = known
      · have q6' : (r == known) = true := by simp [q6]
        have hmem : decide (known ∈ W ++ [r]) = true := by simp [q6]
        have hmap : List.map rpL (List.map (mkR known X) (W ++ [r])) = List.map rpL (List.map (mkR known X) W) ++ [rpL ⟨r, X⟩] := by
          have : mkR known X r = ⟨r, X⟩ := if_pos q6
          simp [this]
        subst hXe
        simp only [rpL, vBy, vInts] at hmap
        (repeat' (first | refine thenL_n ?_ | refine thenL_r ?_ | refine thenL_x ?_ | refine blockL_n ?_ | refine blockL_r ?_ | refine blockL_x ?_ | refine blockL_y rfl ?_ | refine awp_seq ?_ | refine awp_block ?_ | refine awp_ret ?_ | refine awp_exit ?_ | refine awp_skip ?_ | exact absurd hcond (by decide) | ((fail_if_success (refine isReg 15 ?_)); first | (refine awp_txt ?_; refine runs_to [] (by simp only [go_sem, hlt, hil, hx, q1, q2, p1, p3', p4, hget, hzlen, q5', hset, hwc]; rfl) ?_) | (refine awp_draw mixed ?_; refine runs_to [] (by simp only [go_sem, hlt, hil, hx, q1, q2, p1, p3', p4, hget, hzlen, q5', hset, hwc]; rfl) ?_)) | refine runD_nil ⟨by kernel_rfl, ?_⟩ | refine runD_nil ?_ | (refine awp_cond (b := _) (by simp only [go_sem, evB, hlt, hil, hx, q1, q2, p1, p3', p4, hget, hzlen, q5', hset, hwc]; rfl) (fun hcond => ?_) (fun hcond => ?_))))
        refine awp_imp (Imp.coeC 16 10 1 (by simp only [go_sem])) ?_
        refine awp_imp (Imp.coeC 16 12 1 (by simp only [go_sem])) ?_
        (repeat' (first | refine thenL_n ?_ | refine thenL_r ?_ | refine thenL_x ?_ | refine blockL_n ?_ | refine blockL_r ?_ | refine blockL_x ?_ | refine blockL_y rfl ?_ | refine awp_seq ?_ | refine awp_block ?_ | refine awp_ret ?_ | refine awp_exit ?_ | refine awp_skip ?_ | exact absurd hcond (by decide) | (first | (refine awp_txt ?_; refine runs_to [] (by simp only [go_sem, hw, q6', hc1, hc2]; rfl) ?_) | (refine awp_draw mixed ?_; refine runs_to [] (by simp only [go_sem, hw, q6', hc1, hc2]; rfl) ?_)) | refine runD_nil ⟨by kernel_rfl, ?_⟩ | refine runD_nil ?_ | (refine runD_call (c74 s d hd) cb74 (by rfl) (by simp only [go_sem, hw, q6', hc1, hc2]; rfl) (by ((repeat' (first | exact All2.nil | refine All2.cons ?_ ?_ | exact SubV.one (SubT.same _) | exact SubV.one (SubT.nil _) | refine SubV.agg ?_ | exact SubT.same _ | exact SubT.nil _)); first | done | fail)) ?_; refine runs_to [] (by simp only [go_sem, hw, q6', hc1, hc2]; rfl) ?_) | (refine awp_cond (b := _) (by simp only [go_sem, evB, hw, q6', hc1, hc2]; rfl) (fun hcond => ?_) (fun hcond => ?_))))
        exact ⟨(i + 1, W ++ [r]), ⟨by simp only; omega, hV2, hfin.symm⟩, by simp only; omega, (by refine Imp.back 108 40 (by simp only [go_sem, renL, Loc.ren, Cont.ren, SV.ren, V1.ren, At.ren,  st14, hmem, hmap]) (by simp only [go_sem, renL, Loc.ren, Cont.ren, SV.ren, V1.ren, At.ren,  st14, hmem, hmap]) (by simp only [go_sem, renL, Loc.ren, Cont.ren, SV.ren, V1.ren, At.ren,  st14, hmem, hmap]) (by decide) (by decide) ?_; refine Imp.of_in ?_; simp only [go_sem, renL, Loc.ren, Cont.ren, SV.ren, V1.ren, At.ren,  st14, hmem, hmap])⟩
      · have q6' : (r == known) = false := by simp [q6]
        have hmem : decide (known ∈ W ++ [r]) = decide (known ∈ W) := by
          have : known ≠ r := fun e => q6 e.symm
          simp [this]
        have hmap : List.map rpL (List.map (mkR known X) (W ++ [r])) = List.map rpL (List.map (mkR known X) W) ++ [rpL ⟨r, in00⟩] := by
          have : mkR known X r = ⟨r, in00⟩ := if_neg q6
          simp [this]
        simp only [rpL, vBy, vInts, in00, List.map_nil] at hmap
        (repeat' (first | refine thenL_n ?_ | refine thenL_r ?_ | refine thenL_x ?_ | refine blockL_n ?_ | refine blockL_r ?_ | refine blockL_x ?_ | refine blockL_y rfl ?_ | refine awp_seq ?_ | refine awp_block ?_ | refine awp_ret ?_ | refine awp_exit ?_ | refine awp_skip ?_ | exact absurd hcond (by decide) | ((fail_if_success (refine isReg 15 ?_)); first | (refine awp_txt ?_; refine runs_to [] (by simp only [go_sem, hlt, hil, hx, q1, q2, p1, p3', p4, hget, hzlen, q5', hset, hwc]; rfl) ?_) | (refine awp_draw mixed ?_; refine runs_to [] (by simp only [go_sem, hlt, hil, hx, q1, q2, p1, p3', p4, hget, hzlen, q5', hset, hwc]; rfl) ?_)) | refine runD_nil ⟨by kernel_rfl, ?_⟩ | refine runD_nil ?_ | (refine awp_cond (b := _) (by simp only [go_sem, evB, hlt, hil, hx, q1, q2, p1, p3', p4, hget, hzlen, q5', hset, hwc]; rfl) (fun hcond => ?_) (fun hcond => ?_))))
        refine awp_imp (Imp.coeC 16 10 1 (by simp only [go_sem])) ?_
        refine awp_imp (Imp.coeC 16 12 1 (by simp only [go_sem])) ?_
        (repeat' (first | refine thenL_n ?_ | refine thenL_r ?_ | refine thenL_x ?_ | refine blockL_n ?_ | refine blockL_r ?_ | refine blockL_x ?_ | refine blockL_y rfl ?_ | refine awp_seq ?_ | refine awp_block ?_ | refine awp_ret ?_ | refine awp_exit ?_ | refine awp_skip ?_ | exact absurd hcond (by decide) | (first | (refine awp_txt ?_; refine runs_to [] (by simp only [go_sem, hw, q6', hc1, hc2]; rfl) ?_) | (refine awp_draw mixed ?_; refine runs_to [] (by simp only [go_sem, hw, q6', hc1, hc2]; rfl) ?_)) | refine runD_nil ⟨by kernel_rfl, ?_⟩ | refine runD_nil ?_ | (refine awp_cond (b := _) (by simp only [go_sem, evB, hw, q6', hc1, hc2]; rfl) (fun hcond => ?_) (fun hcond => ?_))))
        exact ⟨(i + 1, W ++ [r]), ⟨by simp only; omega, hV2, hfin.symm⟩, by simp only; omega, (by refine Imp.back 108 40 (by simp only [go_sem, renL, Loc.ren, Cont.ren, SV.ren, V1.ren, At.ren,  st14, hmem, hmap]) (by simp only [go_sem, renL, Loc.ren, Cont.ren, SV.ren, V1.ren, At.ren,  st14, hmem, hmap]) (by simp only [go_sem, renL, Loc.ren, Cont.ren, SV.ren, V1.ren, At.ren,  st14, hmem, hmap]) (by decide) (by decide) ?_; refine Imp.of_in ?_; simp only [go_sem, renL, Loc.ren, Cont.ren, SV.ren, V1.ren, At.ren,  st14, hmem, hmap])⟩
  · have hta : who.take i = who := by rw [show i = who.length by omega, List.take_length]
    rw [hta] at hW
    have hin : ∀ r, r ∈ W → 0 ≤ r ∧ r < n := by rw [hW]; exact addW_in who [] (by simp)
    have hnd : W.Nodup := by rw [hW]; exact addW_nodup who [] (by simp)
    have hlx : ∀ q, q ∈ W.map (mkR known X) → q.x.ok := by
      intro q hq
      obtain ⟨r, _, rfl⟩ := List.mem_map.1 hq
      rcases mkR_x (known := known) (X := X) (r := r) with h | h
      · rw [h]; exact hXok
      · rw [h]; exact in00_ok
    have k68 := c68 n leader (W.map (mkR known X)) (by rw [List.length_map]; omega) hlx
    have hmul : IntKind.i64.wrap (2 * (W.length : Int)) = 2 * (W.length : Int) := IntWalk.i64_in _ ⟨by omega, by omega⟩
    refine awp_imp (Imp.freezeE 40 (by simp only [go_sem, fixL, Cont.fix, SV.fix, V1.fix, At.fix, cellsT, renL, Loc.ren, Cont.ren, SV.ren, V1.ren, At.ren, freezeL]; rfl) (by simp only [go_sem, fixL, Cont.fix, SV.fix, V1.fix, At.fix, cellsT, renL, Loc.ren, Cont.ren, SV.ren, V1.ren, At.ren, freezeL]; rfl)) ?_
    by_cases e1 : 2 * (W.length : Int) ≤ n
    · rw [nob1 hnn hXr hXst hnd hin e1] at k68
      generalize List.map (mkR known X) W = z at k68 ⊢
      ((repeat' (first | refine thenL_n ?_ | refine thenL_r ?_ | refine thenL_x ?_ | refine blockL_n ?_ | refine blockL_r ?_ | refine blockL_x ?_ | refine blockL_y rfl ?_ | refine awp_seq ?_ | refine awp_block ?_ | refine awp_ret ?_ | refine awp_exit ?_ | refine awp_skip ?_ | exact absurd hcond (by decide) | (first | (refine awp_txt ?_; refine runs_to [] (by simp only [go_sem, hlt, hmul, e1, pl0]; rfl) ?_) | (refine awp_draw mixed ?_; refine runs_to [] (by simp only [go_sem, hlt, hmul, e1, pl0]; rfl) ?_)) | refine runD_nil ⟨by kernel_rfl, ?_⟩ | refine runD_nil ?_ | (refine runD_call (k68) cb68 (by rfl) (by simp only [go_sem, hlt, hmul, e1, pl0]; rfl) (by ((repeat' (first | exact All2.nil | refine All2.cons ?_ ?_ | exact SubV.one (SubT.same _) | exact SubV.one (SubT.nil _) | refine SubV.agg ?_ | exact SubT.same _ | exact SubT.nil _)); first | done | fail)) ?_; refine runs_to [] (by simp only [go_sem, hlt, hmul, e1, pl0]; rfl) ?_) | (refine runD_call (c72) cb72 (by rfl) (by simp only [go_sem, hlt, hmul, e1, pl0]; rfl) (by ((repeat' (first | exact All2.nil | refine All2.cons ?_ ?_ | exact SubV.one (SubT.same _) | exact SubV.one (SubT.nil _) | refine SubV.agg ?_ | exact SubT.same _ | exact SubT.nil _)); first | done | fail)) ?_; refine runs_to [] (by simp only [go_sem, hlt, hmul, e1, pl0]; rfl) ?_) | (refine awp_cond (b := _) (by simp only [go_sem, evB, hlt, hmul, e1, pl0]; rfl) (fun hcond => ?_) (fun hcond => ?_)))); all_goals (refine leaves_ok (by first | exact Or.inl rfl | exact Or.inr rfl) (by simp only [go_sem, resAll, resL, packL, vecsOf, freezeAll, freezeL, hlt, hmul, e1, pl0]; rfl) ?_; (first | refine SubR.v ?_ | refine SubR.tup ?_); ((repeat' (first | exact All2.nil | refine All2.cons ?_ ?_ | exact SubV.one (SubT.same _) | exact SubV.one (SubT.nil _) | refine SubV.agg ?_ | exact SubT.same _ | exact SubT.nil _)); first | done | fail)))
    by_cases e2 : known ∈ W
    · have e2' : decide (known ∈ W) = true := by simp [e2]
      have kw55 := c55 s s d d hd2
      simp only [beq_self_eq_true, decide_true, Bool.and_self] at kw55
      rcases nob3 hnn hXr hXst hnd hin e1 e2 with ⟨e3, e4⟩ | e4
      · rw [e4] at k68
        subst hXe
        simp only at e3
        subst e3
        generalize List.map (mkR known _) W = z at k68 ⊢
        ((repeat' (first | refine thenL_n ?_ | refine thenL_r ?_ | refine thenL_x ?_ | refine blockL_n ?_ | refine blockL_r ?_ | refine blockL_x ?_ | refine blockL_y rfl ?_ | refine awp_seq ?_ | refine awp_block ?_ | refine awp_ret ?_ | refine awp_exit ?_ | refine awp_skip ?_ | exact absurd hcond (by decide) | (first | (refine awp_txt ?_; refine runs_to [] (by simp only [go_sem, hlt, hmul, e1, e2']; rfl) ?_) | (refine awp_draw mixed ?_; refine runs_to [] (by simp only [go_sem, hlt, hmul, e1, e2']; rfl) ?_)) | refine runD_nil ⟨by kernel_rfl, ?_⟩ | refine runD_nil ?_ | (refine runD_call (k68) cb68 (by rfl) (by simp only [go_sem, hlt, hmul, e1, e2']; rfl) (by ((repeat' (first | exact All2.nil | refine All2.cons ?_ ?_ | exact SubV.one (SubT.same _) | exact SubV.one (SubT.nil _) | refine SubV.agg ?_ | exact SubT.same _ | exact SubT.nil _)); first | done | fail)) ?_; refine runs_to [] (by simp only [go_sem, hlt, hmul, e1, e2']; rfl) ?_) | (refine runD_call (c71 _ _) cb71 (by rfl) (by simp only [go_sem, hlt, hmul, e1, e2']; rfl) (by ((repeat' (first | exact All2.nil | refine All2.cons ?_ ?_ | exact SubV.one (SubT.same _) | exact SubV.one (SubT.nil _) | refine SubV.agg ?_ | exact SubT.same _ | exact SubT.nil _)); first | done | fail)) ?_; refine runs_to [] (by simp only [go_sem, hlt, hmul, e1, e2']; rfl) ?_) | (refine runD_call (kw55) cb55 (by rfl) (by simp only [go_sem, hlt, hmul, e1, e2']; rfl) (by ((repeat' (first | exact All2.nil | refine All2.cons ?_ ?_ | exact SubV.one (SubT.same _) | exact SubV.one (SubT.nil _) | refine SubV.agg ?_ | exact SubT.same _ | exact SubT.nil _)); first | done | fail)) ?_; refine runs_to [] (by simp only [go_sem, hlt, hmul, e1, e2']; rfl) ?_) | (refine runD_call (c70 _ _ _) cb70 (by rfl) (by simp only [go_sem, hlt, hmul, e1, e2']; rfl) (by ((repeat' (first | exact All2.nil | refine All2.cons ?_ ?_ | exact SubV.one (SubT.same _) | exact SubV.one (SubT.nil _) | refine SubV.agg ?_ | exact SubT.same _ | exact SubT.nil _)); first | done | fail)) ?_; refine runs_to [] (by simp only [go_sem, hlt, hmul, e1, e2']; rfl) ?_) | (refine runD_call (c72) cb72 (by rfl) (by simp only [go_sem, hlt, hmul, e1, e2']; rfl) (by ((repeat' (first | exact All2.nil | refine All2.cons ?_ ?_ | exact SubV.one (SubT.same _) | exact SubV.one (SubT.nil _) | refine SubV.agg ?_ | exact SubT.same _ | exact SubT.nil _)); first | done | fail)) ?_; refine runs_to [] (by simp only [go_sem, hlt, hmul, e1, e2']; rfl) ?_) | (refine awp_cond (b := _) (by simp only [go_sem, evB, hlt, hmul, e1, e2']; rfl) (fun hcond => ?_) (fun hcond => ?_)))); all_goals (refine leaves_ok (by first | exact Or.inl rfl | exact Or.inr rfl) (by simp only [go_sem, resAll, resL, packL, vecsOf, freezeAll, freezeL, hlt, hmul, e1, e2']; rfl) ?_; (first | refine SubR.v ?_ | refine SubR.tup ?_); ((repeat' (first | exact All2.nil | refine All2.cons ?_ ?_ | exact SubV.one (SubT.same _) | exact SubV.one (SubT.nil _) | refine SubV.agg ?_ | exact SubT.same _ | exact SubT.nil _)); first | done | fail)))
      · rw [e4] at k68
        subst hXe
        generalize List.map (mkR known _) W = z at k68 ⊢
        ((repeat' (first | refine thenL_n ?_ | refine thenL_r ?_ | refine thenL_x ?_ | refine blockL_n ?_ | refine blockL_r ?_ | refine blockL_x ?_ | refine blockL_y rfl ?_ | refine awp_seq ?_ | refine awp_block ?_ | refine awp_ret ?_ | refine awp_exit ?_ | refine awp_skip ?_ | exact absurd hcond (by decide) | (first | (refine awp_txt ?_; refine runs_to [] (by simp only [go_sem, hlt, hmul, e1, e2']; rfl) ?_) | (refine awp_draw mixed ?_; refine runs_to [] (by simp only [go_sem, hlt, hmul, e1, e2']; rfl) ?_)) | refine runD_nil ⟨by kernel_rfl, ?_⟩ | refine runD_nil ?_ | (refine runD_call (k68) cb68 (by rfl) (by simp only [go_sem, hlt, hmul, e1, e2']; rfl) (by ((repeat' (first | exact All2.nil | refine All2.cons ?_ ?_ | exact SubV.one (SubT.same _) | exact SubV.one (SubT.nil _) | refine SubV.agg ?_ | exact SubT.same _ | exact SubT.nil _)); first | done | fail)) ?_; refine runs_to [] (by simp only [go_sem, hlt, hmul, e1, e2']; rfl) ?_) | (refine runD_call (c70 _ _ _) cb70 (by rfl) (by simp only [go_sem, hlt, hmul, e1, e2']; rfl) (by ((repeat' (first | exact All2.nil | refine All2.cons ?_ ?_ | exact SubV.one (SubT.same _) | exact SubV.one (SubT.nil _) | refine SubV.agg ?_ | exact SubT.same _ | exact SubT.nil _)); first | done | fail)) ?_; refine runs_to [] (by simp only [go_sem, hlt, hmul, e1, e2']; rfl) ?_) | (refine runD_call (c72) cb72 (by rfl) (by simp only [go_sem, hlt, hmul, e1, e2']; rfl) (by ((repeat' (first | exact All2.nil | refine All2.cons ?_ ?_ | exact SubV.one (SubT.same _) | exact SubV.one (SubT.nil _) | refine SubV.agg ?_ | exact SubT.same _ | exact SubT.nil _)); first | done | fail)) ?_; refine runs_to [] (by simp only [go_sem, hlt, hmul, e1, e2']; rfl) ?_) | (refine awp_cond (b := _) (by simp only [go_sem, evB, hlt, hmul, e1, e2']; rfl) (fun hcond => ?_) (fun hcond => ?_)))); all_goals (refine leaves_ok (by first | exact Or.inl rfl | exact Or.inr rfl) (by simp only [go_sem, resAll, resL, packL, vecsOf, freezeAll, freezeL, hlt, hmul, e1, e2']; rfl) ?_; (first | refine SubR.v ?_ | refine SubR.tup ?_); ((repeat' (first | exact All2.nil | refine All2.cons ?_ ?_ | exact SubV.one (SubT.same _) | exact SubV.one (SubT.nil _) | refine SubV.agg ?_ | exact SubT.same _ | exact SubT.nil _)); first | done | fail)))
    · have e2' : decide (known ∈ W) = false := by simp [e2]
      rw [nob2 hnn hXr hXst hnd hin e1 e2] at k68
      generalize List.map (mkR known X) W = z at k68 ⊢
      generalize List.replicate n.toNat (0 : Int) = y at k68
      ((repeat' (first | refine thenL_n ?_ | refine thenL_r ?_ | refine thenL_x ?_ | refine blockL_n ?_ | refine blockL_r ?_ | refine blockL_x ?_ | refine blockL_y rfl ?_ | refine awp_seq ?_ | refine awp_block ?_ | refine awp_ret ?_ | refine awp_exit ?_ | refine awp_skip ?_ | exact absurd hcond (by decide) | (first | (refine awp_txt ?_; refine runs_to [] (by simp only [go_sem, hlt, hmul, e1, e2']; rfl) ?_) | (refine awp_draw mixed ?_; refine runs_to [] (by simp only [go_sem, hlt, hmul, e1, e2']; rfl) ?_)) | refine runD_nil ⟨by kernel_rfl, ?_⟩ | refine runD_nil ?_ | (refine runD_call (k68) cb68 (by rfl) (by simp only [go_sem, hlt, hmul, e1, e2']; rfl) (by ((repeat' (first | exact All2.nil | refine All2.cons ?_ ?_ | exact SubV.one (SubT.same _) | exact SubV.one (SubT.nil _) | refine SubV.agg ?_ | exact SubT.same _ | exact SubT.nil _)); first | done | fail)) ?_; refine runs_to [] (by simp only [go_sem, hlt, hmul, e1, e2']; rfl) ?_) | (refine runD_call (c72) cb72 (by rfl) (by simp only [go_sem, hlt, hmul, e1, e2']; rfl) (by ((repeat' (first | exact All2.nil | refine All2.cons ?_ ?_ | exact SubV.one (SubT.same _) | exact SubV.one (SubT.nil _) | refine SubV.agg ?_ | exact SubT.same _ | exact SubT.nil _)); first | done | fail)) ?_; refine runs_to [] (by simp only [go_sem, hlt, hmul, e1, e2']; rfl) ?_) | (refine awp_cond (b := _) (by simp only [go_sem, evB, hlt, hmul, e1, e2']; rfl) (fun hcond => ?_) (fun hcond => ?_)))); all_goals (refine leaves_ok (by first | exact Or.inl rfl | exact Or.inr rfl) (by simp only [go_sem, resAll, resL, packL, vecsOf, freezeAll, freezeL, hlt, hmul, e1, e2']; rfl) ?_; (first | refine SubR.v ?_ | refine SubR.tup ?_); ((repeat' (first | exact All2.nil | refine All2.cons ?_ ?_ | exact SubV.one (SubT.same _) | exact SubV.one (SubT.nil _) | refine SubV.agg ?_ | exact SubT.same _ | exact SubT.nil _)); first | done | fail)))
end Go.Proofs.Ytbohgpdpglfepaa
