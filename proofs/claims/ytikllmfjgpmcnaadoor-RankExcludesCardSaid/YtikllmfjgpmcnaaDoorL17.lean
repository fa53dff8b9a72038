/-
  Contracts of functions of the program: each returns what a plain function says, for every input within the bounds named. Conditions: the bounds.
-/
import Derived.Test.YtikllmfjgpmcnaaDoorRows
import Derived.Test.YtikllmfjgpmcnaaDoorL16
import Derived.Test.YtikllmfjgpmcnaaDoorLaw14B
namespace Go.Proofs.YtikllmfjgpmcnaaDoor
open Go Go.Sep
set_option linter.unusedSimpArgs false
set_option linter.unusedVariables false

open Go.Plain



theorem c_law14_RankExcludes (kind : Int) (l : List ((List UInt8) × Int)) (lv : Value) (value : List UInt8) (hl : l.length ≤ 9223372036854775807) : Con Tryd.prog 7 #[.int .i64 (kind), lv, str (value)] [.imm (.list (.pair .str (.int .i64))) (lv) (l)] (fun _ : Unit => .bool (true)) (fun _ => []) := by
  refine con_of_J (args := [.int .i64 (kind), lv, str (value)]) (n := 99) Tryd.func7 rfl (Nat.le_of_ble_eq_true rfl) rfl (fun w0 I0 m0 => ?_)
  show J _ [(0, .int .i64 (kind)), (1, lv), (2, str (value))] [.imm (.list (.pair .str (.int .i64))) (lv) (l)] _
  refine jc_seq ?_
  refine jc_region ?_
  refine jo_pure rfl (pr_assign rfl) ?_
  refine jo_nil ?_
  refine jq_then ?_
  refine jc_seq ?_
  refine jc_seq ?_
  refine jc_region ?_
  refine jo_pure rfl (pr_move rfl) ?_
  refine jo_callp cal_19 (c_keep_Prefs l lv (by first | omega | exact hml | exact hmm | exact hmw | exact hvv | (have := hkm _ (getD_mem (dd := ([], 0)) h3); omega) | (simp only [List.length_append, List.length_cons, List.length_nil]; omega))) ⟨rfl, trivial⟩ rfl (⟨⟨rfl, .head _⟩, trivial⟩) (fun _ => ?_)
  refine jo_pure rfl (pr_not rfl) ?_
  refine jo_pure rfl (pr_move rfl) ?_
  refine jo_gpure (j := 3) (want := false) rfl rfl rfl rfl (fun hg => pr_move rfl) ?_
  refine jo_gpure (j := 3) (want := false) rfl rfl rfl rfl (fun hg => pr_slen (evg rfl hg) Tryd.underlying9) ?_
  refine jo_gpure (j := 3) (want := false) rfl rfl rfl rfl (fun hg => pr_gtrN (m := value.length) (n := 100) (evg rfl hg) rfl) ?_
  refine jo_pure rfl (pr_pick_or rfl rfl rfl) ?_
  refine jo_pure rfl (pr_move rfl) ?_
  refine jo_gpure (j := 8) (want := false) rfl rfl rfl rfl (fun hg => pr_move rfl) ?_
  refine jo_gpure (j := 8) (want := false) rfl rfl rfl rfl (fun hg => pr_lss (n := 1) (evg rfl hg) rfl) ?_
  refine jo_pure rfl (pr_pick_or rfl rfl rfl) ?_
  refine jo_pure rfl (pr_move rfl) ?_
  refine jo_gpure (j := 12) (want := false) rfl rfl rfl rfl (fun hg => pr_move rfl) ?_
  refine jo_gpure (j := 12) (want := false) rfl rfl rfl rfl (fun hg => pr_gtr (n := 4) (evg rfl hg) rfl) ?_
  refine jo_pure rfl (pr_pick_or rfl rfl rfl) ?_
  refine jo_nil ?_
  refine jq_then ?_
  refine jc_cond rfl (fun h1b => ?_) (fun h1b => ?_)
  · have h1 := (fun q => Or.imp (fun q => Or.imp (fun q => Or.imp (fun q => id (bt_not q)) of_decide_eq_true (bt_or q)) of_decide_eq_true (bt_or q)) of_decide_eq_true (bt_or q)) h1b
    refine jc_seq ?_
    refine jc_region ?_
    refine jo_pure rfl (pr_assign rfl) ?_
    refine jo_nil ?_
    refine jq_then ?_
    refine jc_ret ?_
    refine jq_then_ret ?_
    refine j_drop ?_
    exact jq_ret1 rfl () rfl (show (.bool (true) : Value) = (.bool (true)) from rfl) (fun _ h => h)
  · have h1 := (fun q => And.imp (fun q => And.imp (fun q => And.imp (fun q => id (bf_not q)) of_decide_eq_false (bf_or q)) of_decide_eq_false (bf_or q)) of_decide_eq_false (bf_or q)) h1b
    have hkeep : keepR l = true := by have := h1; simp at this; exact this.1.1.1
    have hlen := keepR_len hkeep
    have hkm := keepR_mem hkeep
    have hvl : value.length ≤ 100 := by have := h1; simp at this; exact this.1.1.2
    refine jc_skip ?_
    refine jq_then ?_
    refine jc_seq ?_
    refine jc_region ?_
    refine jo_pure rfl (pr_move rfl) ?_
    refine jo_pure rfl (pr_move rfl) ?_
    refine jo_pure rfl (pr_move rfl) ?_
    refine jo_callp cal_25 (c_ref10_Match kind value value (by first | omega | exact hml | exact hmm | exact hmw | exact hvv | (have := hkm _ (getD_mem (dd := ([], 0)) h3); omega) | (simp only [List.length_append, List.length_cons, List.length_nil]; omega)) (by first | omega | exact hml | exact hmm | exact hmw | exact hvv | (have := hkm _ (getD_mem (dd := ([], 0)) h3); omega) | (simp only [List.length_append, List.length_cons, List.length_nil]; omega))) ⟨rfl, rfl, rfl, trivial⟩ rfl (trivial) (fun _ => ?_)
    refine jo_pure rfl (pr_assign rfl) ?_
    refine jo_nil ?_
    refine jq_then ?_
    refine jc_seq ?_
    refine jc_seq ?_
    refine jc_region ?_
    refine jo_pure rfl (pr_move rfl) ?_
    refine jo_pure rfl (pr_lss (n := 0) rfl rfl) ?_
    refine jo_nil ?_
    refine jq_then ?_
    refine jc_cond rfl (fun h2b => ?_) (fun h2b => ?_)
    · have h2 := of_decide_eq_true h2b
      refine jc_seq ?_
      refine jc_region ?_
      refine jo_pure rfl (pr_assign rfl) ?_
      refine jo_nil ?_
      refine jq_then ?_
      refine jc_ret ?_
      refine jq_then_ret ?_
      refine j_drop ?_
      exact jq_ret1 rfl () rfl (show (.bool (true) : Value) = (.bool (true)) from rfl) (fun _ h => h)
    · have h2 := of_decide_eq_false h2b
      refine jc_skip ?_
      refine jq_then ?_
      refine jc_seq ?_
      refine jc_region ?_
      refine jo_pure rfl (pr_assign rfl) ?_
      refine jo_nil ?_
      refine jq_then ?_
      refine jc_seq ?_
      refine jc_seq ?_
      refine jc_region ?_
      refine jo_pure rfl (pr_assign rfl) ?_
      refine jo_nil ?_
      refine jq_then ?_
      refine jc_block ?_
      refine j_nil_row 45 (.pair .str (.int .i64)) ?_
      refine jc_loop3 (fun (i : Nat) (w : Value) (acc : List (List UInt8 × Int)) => [(0, .int .i64 (kind)), (1, lv), (2, str (value)), (7, .int .i64 (matchK kind value value)), (8, w), (9, .int .i64 ((i : Nat) : Int))]) (fun (i : Nat) (w : Value) (acc : List (List UInt8 × Int)) => [.row (w) 45 (.pair .str (.int .i64)) (acc), .imm (.list (.pair .str (.int .i64))) (lv) (l)]) (fun (i : Nat) (w : Value) (acc : List (List UInt8 × Int)) => i ≤ l.length ∧ acc.length ≤ i ∧ ∀ p ∈ acc, p.1.length ≤ 1000 ∧ matchK kind p.1 value < matchK kind value value) (fun (i : Nat) (w : Value) (acc : List (List UInt8 × Int)) => l.length - i) 0 (.slice none 0 0) [] (⟨Nat.zero_le _, Nat.le_refl _, fun p hp => by simp at hp⟩) (⟨rfl, rfl, rfl, rfl, rfl, rfl, trivial⟩) (fun _ h => h) (fun i w acc hinv => ?_)
      refine jc_seq ?_
      refine jc_seq ?_
      refine jc_region ?_
      refine jo_pure rfl (pr_move rfl) ?_
      refine jo_pure rfl (pr_move rfl) ?_
      refine jo_pure rfl (pr_len_imm rfl (.tail _ (.head _)) Tryd.underlying25) ?_
      refine jo_pure rfl (pr_lssN (m := i) (n := l.length) rfl rfl) ?_
      refine jo_nil ?_
      refine jq_then ?_
      refine jc_cond rfl (fun h3b => ?_) (fun h3b => ?_)
      · have h3 := of_decide_eq_true h3b
        refine jc_skip ?_
        refine jq_then ?_
        refine jc_seq ?_
        refine jc_block ?_
        refine jc_seq ?_
        refine jc_region ?_
        refine jo_pure rfl (pr_move rfl) ?_
        refine jo_pure rfl (pr_move rfl) ?_
        refine jo_pure rfl (pr_move rfl) ?_
        refine jo_pure rfl (pr_idx_imm (i := i) rfl (.tail _ (.head _)) rfl Tryd.underlying25 ty_45 (by omega)) ?_
        refine jo_pure rfl (pr_fieldAddr_imm (i := i) rfl (.tail _ (.head _)) Tryd.underlying45 rfl ty_9 rfl rfl (by omega)) ?_
        refine jo_pure rfl (pr_load_off_imm (i := i) (o := 0) (dd := ([], 0)) (str ((l.getD i ([], 0)).1)) rfl (.tail _ (.head _)) ty_9 rfl (by decide) rfl (by omega) rfl) ?_
        refine jo_pure rfl (pr_move rfl) ?_
        refine jo_callp cal_25 (c_ref10_Match kind ((l.getD i ([], 0)).1) value (by first | omega | exact hml | exact hmm | exact hmw | exact hvv | (have := hkm _ (getD_mem (dd := ([], 0)) h3); omega) | (simp only [List.length_append, List.length_cons, List.length_nil]; omega)) (by first | omega | exact hml | exact hmm | exact hmw | exact hvv | (have := hkm _ (getD_mem (dd := ([], 0)) h3); omega) | (simp only [List.length_append, List.length_cons, List.length_nil]; omega))) ⟨rfl, rfl, rfl, trivial⟩ rfl (trivial) (fun _ => ?_)
        refine jo_pure rfl (pr_move rfl) ?_
        refine jo_pure rfl (pr_lss rfl rfl) ?_
        refine jo_nil ?_
        refine jq_then ?_
        refine jc_cond rfl (fun h4b => ?_) (fun h4b => ?_)
        · have h4 := of_decide_eq_true h4b
          refine jc_region ?_
          refine jo_pure rfl (pr_move rfl) ?_
          refine jo_pure rfl (pr_move rfl) ?_
          refine jo_pure rfl (pr_move rfl) ?_
          refine jo_pure rfl (pr_idx_imm (i := i) rfl (.tail _ (.head _)) rfl Tryd.underlying25 ty_45 (by omega)) ?_
          refine jo_pure rfl (pr_load_elem_imm (i := i) (.agg #[str ((l.getD i ([], 0)).1), .int .i64 ((l.getD i ([], 0)).2)]) rfl (.tail _ (.head _)) ty_45 rfl rfl (by omega) rfl) ?_
          refine jo_buildSlice (t := (.pair .str (.int .i64))) [(l.getD i ([], 0))] [.agg #[str ((l.getD i ([], 0)).1), .int .i64 ((l.getD i ([], 0)).2)]] (fun a hf => by simp only [List.zipIdx_cons, List.zipIdx_nil, List.map_toArray, List.map_cons, List.map_nil, hf.ev (show ev _ (.tmp 54) = some (.agg #[str ((l.getD i ([], 0)).1), .int .i64 ((l.getD i ([], 0)).2)]) from rfl)]) rfl Tryd.underlying25 ty_45 rfl rfl rfl rfl rfl (fun g1 => ?_)
          refine j_pull1 ?_
          refine jo_append rfl rfl Tryd.underlying25 ty_45 rfl (by first | omega | (simp only [List.length_append, List.length_cons, List.length_nil, maxLen]; omega)) (by first | omega | (simp only [List.length_append, List.length_cons, List.length_nil, maxLen]; omega)) rfl (fun v1 => ?_)
          refine jo_pure rfl (pr_assign rfl) ?_
          refine jo_nil ?_
          refine jq_in_normal ?_
          refine jq_then ?_
          refine jc_region ?_
          refine jo_pure rfl (pr_move rfl) ?_
          refine jo_pure rfl (pr_addN (m := i) (n := 1) rfl rfl (by omega)) ?_
          refine jo_pure rfl (pr_assign rfl) ?_
          refine jo_nil ?_
          refine j_pull1 ?_
          refine j_pull1 ?_
          refine jq_round' ((i + 1), v1, (acc ++ [(l.getD i ([], 0))])) (by (try dsimp only); exact (⟨by omega, by simp; omega, fun p hp => by rcases List.mem_append.1 hp with hp | hp; exact hinv.2.2 p hp; obtain rfl := List.mem_singleton.1 hp; have := hkm _ (getD_mem (dd := ([], 0)) h3); exact ⟨by omega, h4⟩⟩)) (by (try dsimp only); exact (by omega)) ⟨rfl, rfl, rfl, rfl, rfl, rfl, trivial⟩ (fun _ h => h)
        · have h4 := of_decide_eq_false h4b
          refine jc_skip ?_
          refine jq_in_normal ?_
          refine jq_then ?_
          refine jc_region ?_
          refine jo_pure rfl (pr_move rfl) ?_
          refine jo_pure rfl (pr_addN (m := i) (n := 1) rfl rfl (by omega)) ?_
          refine jo_pure rfl (pr_assign rfl) ?_
          refine jo_nil ?_
          refine j_pull1 ?_
          refine j_pull1 ?_
          refine jq_round' ((i + 1), w, acc) (by (try dsimp only); exact (⟨by omega, by omega, hinv.2.2⟩)) (by (try dsimp only); exact (by omega)) ⟨rfl, rfl, rfl, rfl, rfl, rfl, trivial⟩ (fun _ h => h)
      · have h3 := of_decide_eq_false h3b
        have hls : ∀ p ∈ acc, matchK kind p.1 value < matchK kind value value := fun p hp => (hinv.2.2 p hp).2
        have h0 : 0 ≤ matchK kind value value := by omega
        have hmm : ∀ x ∈ (([] ++ acc) ++ [(value, ((0 : Nat) : Int))] : List Prf), x.1.length ≤ 1000000 := fun x hx => by simp only [List.nil_append, List.mem_append, List.mem_singleton] at hx; rcases hx with hx | rfl; (have := (hinv.2.2 x hx).1; omega); (dsimp only; omega)
        have hmw : ∀ x ∈ ([(value, ((0 : Nat) : Int))] ++ acc : List Prf), x.1.length ≤ 1000000 := fun x hx => by simp only [List.mem_append, List.mem_singleton] at hx; rcases hx with rfl | hx; (dsimp only; omega); (have := (hinv.2.2 x hx).1; omega)
        have hml : ∀ x ∈ l, x.1.length ≤ 1000000 := fun x hx => by have := hkm x hx; omega
        have hvv : ∀ x ∈ [value], x.length ≤ 1000000 := fun x hx => by obtain rfl := List.mem_singleton.1 hx; omega
        have em := ex_m hls h0
        have ew := ex_w hls h0
        have er := ex_r hls h0
        refine jc_exit ?_
        refine jq_then_exit ?_
        refine jq_then_exit ?_
        refine jq_in_hit ?_
        refine jq_then ?_
        refine jc_seq ?_
        refine jc_region ?_
        refine jo_pure rfl (pr_move rfl) ?_
        refine j_nil_row 45 (.pair .str (.int .i64)) ?_
        refine j_pull1 ?_
        refine j_pub_row ?_
        refine j_pull1 ?_
        refine jo_append_imm rfl rfl (.head _) Tryd.underlying25 ty_45 rfl (by first | omega | (simp only [List.length_append, List.length_cons, List.length_nil, maxLen]; omega)) (by first | omega | (simp only [List.length_append, List.length_cons, List.length_nil, maxLen]; omega)) rfl (fun v2 => ?_)
        refine jo_pure rfl (pr_move rfl) ?_
        refine jo_pure rfl (pr_build [(0, str (value))] [str (value), .int .i64 ((0 : Nat) : Int)] (fun a hf => by simp only [List.map_toArray, List.map_cons, List.map_nil, hf.ev (show ev _ (.tmp 59) = some (str (value)) from rfl)]) (by kernel_rfl)) ?_
        refine jo_buildSlice (t := (.pair .str (.int .i64))) [(value, ((0 : Nat) : Int))] [.agg #[str (value), .int .i64 ((0 : Nat) : Int)]] (fun a hf => by simp only [List.zipIdx_cons, List.zipIdx_nil, List.map_toArray, List.map_cons, List.map_nil, hf.ev (show ev _ (.tmp 60) = some (.agg #[str (value), .int .i64 ((0 : Nat) : Int)]) from rfl)]) rfl Tryd.underlying25 ty_45 rfl rfl rfl rfl rfl (fun g2 => ?_)
        refine j_pull1 ?_
        refine jo_append rfl rfl Tryd.underlying25 ty_45 rfl (by first | omega | (simp only [List.length_append, List.length_cons, List.length_nil, maxLen]; omega)) (by first | omega | (simp only [List.length_append, List.length_cons, List.length_nil, maxLen]; omega)) rfl (fun v3 => ?_)
        refine jo_pure rfl (pr_assign rfl) ?_
        refine jo_nil ?_
        refine jq_then ?_
        refine jc_seq ?_
        refine jc_region ?_
        refine jo_pure rfl (pr_move rfl) ?_
        refine jo_pure rfl (pr_build [(0, str (value))] [str (value), .int .i64 ((0 : Nat) : Int)] (fun a hf => by simp only [List.map_toArray, List.map_cons, List.map_nil, hf.ev (show ev _ (.tmp 63) = some (str (value)) from rfl)]) (by kernel_rfl)) ?_
        refine jo_buildSlice (t := (.pair .str (.int .i64))) [(value, ((0 : Nat) : Int))] [.agg #[str (value), .int .i64 ((0 : Nat) : Int)]] (fun a hf => by simp only [List.zipIdx_cons, List.zipIdx_nil, List.map_toArray, List.map_cons, List.map_nil, hf.ev (show ev _ (.tmp 64) = some (.agg #[str (value), .int .i64 ((0 : Nat) : Int)]) from rfl)]) rfl Tryd.underlying25 ty_45 rfl rfl rfl rfl rfl (fun g3 => ?_)
        refine jo_pure rfl (pr_move rfl) ?_
        refine j_row_of_rowg ?_
        refine jo_append_imm rfl rfl (.tail _ (.head _)) Tryd.underlying25 ty_45 rfl (by first | omega | (simp only [List.length_append, List.length_cons, List.length_nil, maxLen]; omega)) (by first | omega | (simp only [List.length_append, List.length_cons, List.length_nil, maxLen]; omega)) rfl (fun v4 => ?_)
        refine jo_pure rfl (pr_assign rfl) ?_
        refine jo_nil ?_
        refine jq_then ?_
        refine jc_seq ?_
        refine jc_region ?_
        refine jo_pure rfl (pr_move rfl) ?_
        refine jo_pure rfl (pr_move rfl) ?_
        refine jo_pure rfl (pr_move rfl) ?_
        refine j_pull1 ?_
        refine j_pub_row ?_
        refine jo_callp cal_20 (c_rank_Quality kind (([] ++ acc) ++ [(value, ((0 : Nat) : Int))]) v3 true value (by first | omega | exact hml | exact hmm | exact hmw | exact hvv | (have := hkm _ (getD_mem (dd := ([], 0)) h3); omega) | (simp only [List.length_append, List.length_cons, List.length_nil]; omega)) (by first | omega | exact hml | exact hmm | exact hmw | exact hvv | (have := hkm _ (getD_mem (dd := ([], 0)) h3); omega) | (simp only [List.length_append, List.length_cons, List.length_nil]; omega)) (by first | omega | exact hml | exact hmm | exact hmw | exact hvv | (have := hkm _ (getD_mem (dd := ([], 0)) h3); omega) | (simp only [List.length_append, List.length_cons, List.length_nil]; omega))) ⟨rfl, rfl, rfl, rfl, trivial⟩ rfl (⟨⟨rfl, .head _⟩, trivial⟩) (fun _ => ?_)
        refine jo_pure rfl (pr_eql (n := 0) rfl rfl) ?_
        refine jo_pure rfl (pr_move rfl) ?_
        have ht1 : (decide ((qualF kind (([] ++ acc) ++ [(value, ((0 : Nat) : Int))]) true value : Int) = 0)) = true := by first | (rw [em]; rfl) | (rw [ew]; rfl) | (rw [qual_no rfl]; rfl) | (rw [er]; rfl) | rfl
        refine jo_run (j := 5) (want := true) rfl rfl (ht1) ?_
        refine jo_pure rfl (pr_move rfl) ?_
        refine jo_run (j := 5) (want := true) rfl rfl (ht1) ?_
        refine jo_pure rfl (pr_move rfl) ?_
        refine jo_run (j := 5) (want := true) rfl rfl (ht1) ?_
        refine jo_pure rfl (pr_move rfl) ?_
        refine jo_run (j := 5) (want := true) rfl rfl (ht1) ?_
        refine j_pull1 ?_
        refine j_pub_row ?_
        refine jo_callp cal_20 (c_rank_Quality kind ([(value, ((0 : Nat) : Int))] ++ acc) v4 true value (by first | omega | exact hml | exact hmm | exact hmw | exact hvv | (have := hkm _ (getD_mem (dd := ([], 0)) h3); omega) | (simp only [List.length_append, List.length_cons, List.length_nil]; omega)) (by first | omega | exact hml | exact hmm | exact hmw | exact hvv | (have := hkm _ (getD_mem (dd := ([], 0)) h3); omega) | (simp only [List.length_append, List.length_cons, List.length_nil]; omega)) (by first | omega | exact hml | exact hmm | exact hmw | exact hvv | (have := hkm _ (getD_mem (dd := ([], 0)) h3); omega) | (simp only [List.length_append, List.length_cons, List.length_nil]; omega))) ⟨rfl, rfl, rfl, rfl, trivial⟩ rfl (⟨⟨rfl, .head _⟩, trivial⟩) (fun _ => ?_)
        refine jo_run (j := 5) (want := true) rfl rfl (ht1) ?_
        refine jo_pure rfl (pr_eql (n := 0) rfl rfl) ?_
        refine jo_pure rfl (pr_pick_t rfl (ht1) rfl) ?_
        refine jo_pure rfl (pr_move rfl) ?_
        have ht2 : (decide ((qualF kind ([(value, ((0 : Nat) : Int))] ++ acc) true value : Int) = 0)) = true := by first | (rw [em]; rfl) | (rw [ew]; rfl) | (rw [qual_no rfl]; rfl) | (rw [er]; rfl) | rfl
        refine jo_run (j := 12) (want := true) rfl rfl (ht2) ?_
        refine jo_pure rfl (pr_move rfl) ?_
        refine jo_run (j := 12) (want := true) rfl rfl (ht2) ?_
        refine jo_pure rfl (pr_move rfl) ?_
        refine jo_run (j := 12) (want := true) rfl rfl (ht2) ?_
        refine jo_pure rfl (pr_move rfl) ?_
        refine jo_run (j := 12) (want := true) rfl rfl (ht2) ?_
        refine jo_callp cal_20 (c_rank_Quality kind l lv false value (by first | omega | exact hml | exact hmm | exact hmw | exact hvv | (have := hkm _ (getD_mem (dd := ([], 0)) h3); omega) | (simp only [List.length_append, List.length_cons, List.length_nil]; omega)) (by first | omega | exact hml | exact hmm | exact hmw | exact hvv | (have := hkm _ (getD_mem (dd := ([], 0)) h3); omega) | (simp only [List.length_append, List.length_cons, List.length_nil]; omega)) (by first | omega | exact hml | exact hmm | exact hmw | exact hvv | (have := hkm _ (getD_mem (dd := ([], 0)) h3); omega) | (simp only [List.length_append, List.length_cons, List.length_nil]; omega))) ⟨rfl, rfl, rfl, rfl, trivial⟩ rfl (⟨⟨rfl, .tail _ (.tail _ (.tail _ (.head _)))⟩, trivial⟩) (fun _ => ?_)
        refine jo_run (j := 12) (want := true) rfl rfl (ht2) ?_
        refine jo_pure rfl (pr_eql (n := 1000) rfl rfl) ?_
        refine jo_pure rfl (pr_pick_t rfl (ht2) rfl) ?_
        refine jo_pure rfl (pr_move rfl) ?_
        have ht3 : (decide ((qualF kind l false value : Int) = 1000)) = true := by first | (rw [em]; rfl) | (rw [ew]; rfl) | (rw [qual_no rfl]; rfl) | (rw [er]; rfl) | rfl
        refine jo_run (j := 19) (want := true) rfl rfl (ht3) ?_
        refine jo_pure rfl (pr_move rfl) ?_
        refine jo_run (j := 19) (want := true) rfl rfl (ht3) ?_
        refine jo_pure rfl (pr_move rfl) ?_
        refine jo_run (j := 19) (want := true) rfl rfl (ht3) ?_
        refine jo_pure rfl (pr_move rfl) ?_
        refine jo_run (j := 19) (want := true) rfl rfl (ht3) ?_
        refine jo_buildSlice (t := .str) [value] [str (value)] (fun a hf => by simp only [List.zipIdx_cons, List.zipIdx_nil, List.map_toArray, List.map_cons, List.map_nil, hf.ev (show ev _ (.tmp 90) = some (str (value)) from rfl)]) rfl Tryd.underlying22 ty_9 rfl rfl rfl rfl rfl (fun g4 => ?_)
        refine jo_run (j := 19) (want := true) rfl rfl (ht3) ?_
        refine j_pub_rowg ?_
        refine jo_callp cal_24 (c_rank_Rank kind (([] ++ acc) ++ [(value, ((0 : Nat) : Int))]) v3 true [value] (.slice (some ⟨g4, 0, none⟩) ([value]).length (([value]).length)) (by first | omega | exact hml | exact hmm | exact hmw | exact hvv | (have := hkm _ (getD_mem (dd := ([], 0)) h3); omega) | (simp only [List.length_append, List.length_cons, List.length_nil]; omega)) (by first | omega | exact hml | exact hmm | exact hmw | exact hvv | (have := hkm _ (getD_mem (dd := ([], 0)) h3); omega) | (simp only [List.length_append, List.length_cons, List.length_nil]; omega)) (by first | omega | exact hml | exact hmm | exact hmw | exact hvv | (have := hkm _ (getD_mem (dd := ([], 0)) h3); omega) | (simp only [List.length_append, List.length_cons, List.length_nil]; omega)) (by first | omega | exact hml | exact hmm | exact hmw | exact hvv | (have := hkm _ (getD_mem (dd := ([], 0)) h3); omega) | (simp only [List.length_append, List.length_cons, List.length_nil]; omega))) ⟨rfl, rfl, rfl, rfl, trivial⟩ rfl (⟨⟨rfl, .tail _ (.tail _ (.head _))⟩, ⟨⟨rfl, .head _⟩, trivial⟩⟩) (fun r1 => ?_)
        show J _ _ [.row (r1) 9 .str ((rankG kind (([] ++ acc) ++ [(value, ((0 : Nat) : Int))]) true [value]).1), .imm (.list .str) (.slice (some ⟨g4, 0, none⟩) ([value]).length (([value]).length)) ([value]), .imm (.list (.pair .str (.int .i64))) (v4) ([(value, ((0 : Nat) : Int))] ++ acc), .imm (.list (.pair .str (.int .i64))) (v3) (([] ++ acc) ++ [(value, ((0 : Nat) : Int))]), .imm (.list (.pair .str (.int .i64))) (w) (acc), .imm (.list (.pair .str (.int .i64))) (lv) (l)] _
        refine jo_run (j := 19) (want := true) rfl rfl (ht3) ?_
        refine jo_pure rfl (pr_len_row rfl (.head _) Tryd.underlying22) ?_
        refine jo_run (j := 19) (want := true) rfl rfl (ht3) ?_
        refine jo_pure rfl (pr_eqlN (m := ((rankG kind (([] ++ acc) ++ [(value, ((0 : Nat) : Int))]) true [value]).1).length) (n := 0) rfl rfl) ?_
        refine jo_pure rfl (pr_pick_t rfl (ht3) rfl) ?_
        refine jo_pure rfl (pr_move rfl) ?_
        have ht4 : (decide ((((rankG kind (([] ++ acc) ++ [(value, ((0 : Nat) : Int))]) true [value]).1).length : Nat) = 0)) = true := by first | (rw [em]; rfl) | (rw [ew]; rfl) | (rw [qual_no rfl]; rfl) | (rw [er]; rfl) | rfl
        refine jo_run (j := 28) (want := true) rfl rfl (ht4) ?_
        refine jo_callp cal_22 (c_law14_awake) trivial rfl (trivial) (fun _ => ?_)
        refine jo_pure rfl (pr_pick_t rfl (ht4) rfl) ?_
        refine jo_pure rfl (pr_assign rfl) ?_
        refine jo_nil ?_
        refine jq_then ?_
        refine jc_ret ?_
        refine j_drop ?_
        refine j_drop ?_
        refine j_drop ?_
        refine j_drop ?_
        refine j_drop ?_
        refine j_drop ?_
        exact jq_ret1 rfl () rfl (show (.bool (true) : Value) = (.bool (true)) from rfl) (fun _ h => h)
end Go.Proofs.YtikllmfjgpmcnaaDoor
