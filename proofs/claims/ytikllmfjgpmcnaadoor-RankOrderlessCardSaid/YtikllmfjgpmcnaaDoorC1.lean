/-
  Contracts of functions of the program: each returns what a plain function says, for every input within the bounds named. Conditions: the bounds.
-/
import Derived.Test.YtikllmfjgpmcnaaDoorRows
import Derived.Test.YtikllmfjgpmcnaaDoorSepI
import Derived.Test.YtikllmfjgpmcnaaDoorLaw03
namespace Go.Proofs.YtikllmfjgpmcnaaDoor
open Go Go.Sep
set_option linter.unusedSimpArgs false
set_option linter.unusedVariables false

open Go.Plain

theorem cal_76 : Cal Tryd.prog 76 := cal_of Tryd.func76 (by kernel_rfl) rfl
theorem cal_97 : Cal Tryd.prog 97 := cal_of Tryd.func97 (by kernel_rfl) rfl

theorem c_ascii_part (c : UInt8)  : Con Tryd.prog 97 #[byte (c)] [] (fun _ : Unit => .bool (tokB c)) (fun _ => []) := by
  refine con_of_J (args := [byte (c)]) (n := 42) Tryd.func97 rfl (Nat.le_of_ble_eq_true rfl) rfl (fun w0 I0 m0 => ?_)
  show J _ [(0, byte (c))] [] _
  refine jc_seq ?_
  refine jc_region ?_
  refine jo_pure rfl (pr_assign rfl) ?_
  refine jo_nil ?_
  refine jq_then ?_
  refine jc_seq ?_
  refine jc_seq ?_
  refine jc_region ?_
  refine jo_pure rfl (pr_move rfl) ?_
  refine jo_nil ?_
  refine jq_then ?_
  refine jc_block ?_
  refine jc_seq ?_
  refine jc_seq ?_
  refine jc_region ?_
  refine jo_pure rfl (pr_beql (n := 33) rfl rfl) ?_
  refine jo_pure rfl (pr_assign rfl) ?_
  refine jo_nil ?_
  refine jq_then ?_
  refine jc_cond rfl (fun h1b => ?_) (fun h1b => ?_)
  · have h1 := of_decide_eq_true h1b
    refine jc_skip ?_
    refine jq_then ?_
    refine jc_true rfl (h1b) ?_
    refine jc_seq ?_
    refine jc_region ?_
    refine jo_pure rfl (pr_assign rfl) ?_
    refine jo_nil ?_
    refine jq_then ?_
    refine jc_ret ?_
    refine jq_in_ret ?_
    refine jq_then_ret ?_
    exact jq_ret1 rfl () rfl (show (.bool (tokB c) : Value) = (.bool (true)) from congrArg Value.bool (by simp only [tokB, signs, List.any_cons, List.any_nil, eq_comm (b := c)]; simp [*])) (fun _ h => h)
  · have h1 := of_decide_eq_false h1b
    refine jc_seq ?_
    refine jc_region ?_
    refine jo_pure rfl (pr_beql (n := 35) rfl rfl) ?_
    refine jo_pure rfl (pr_assign rfl) ?_
    refine jo_nil ?_
    refine jq_then ?_
    refine jc_cond rfl (fun h2b => ?_) (fun h2b => ?_)
    · have h2 := of_decide_eq_true h2b
      refine jc_skip ?_
      refine jq_then ?_
      refine jc_true rfl (h2b) ?_
      refine jc_seq ?_
      refine jc_region ?_
      refine jo_pure rfl (pr_assign rfl) ?_
      refine jo_nil ?_
      refine jq_then ?_
      refine jc_ret ?_
      refine jq_in_ret ?_
      refine jq_then_ret ?_
      exact jq_ret1 rfl () rfl (show (.bool (tokB c) : Value) = (.bool (true)) from congrArg Value.bool (by simp only [tokB, signs, List.any_cons, List.any_nil, eq_comm (b := c)]; simp [*])) (fun _ h => h)
    · have h2 := of_decide_eq_false h2b
      refine jc_seq ?_
      refine jc_region ?_
      refine jo_pure rfl (pr_beql (n := 36) rfl rfl) ?_
      refine jo_pure rfl (pr_assign rfl) ?_
      refine jo_nil ?_
      refine jq_then ?_
      refine jc_cond rfl (fun h3b => ?_) (fun h3b => ?_)
      · have h3 := of_decide_eq_true h3b
        refine jc_skip ?_
        refine jq_then ?_
        refine jc_true rfl (h3b) ?_
        refine jc_seq ?_
        refine jc_region ?_
        refine jo_pure rfl (pr_assign rfl) ?_
        refine jo_nil ?_
        refine jq_then ?_
        refine jc_ret ?_
        refine jq_in_ret ?_
        refine jq_then_ret ?_
        exact jq_ret1 rfl () rfl (show (.bool (tokB c) : Value) = (.bool (true)) from congrArg Value.bool (by simp only [tokB, signs, List.any_cons, List.any_nil, eq_comm (b := c)]; simp [*])) (fun _ h => h)
      · have h3 := of_decide_eq_false h3b
        refine jc_seq ?_
        refine jc_region ?_
        refine jo_pure rfl (pr_beql (n := 37) rfl rfl) ?_
        refine jo_pure rfl (pr_assign rfl) ?_
        refine jo_nil ?_
        refine jq_then ?_
        refine jc_cond rfl (fun h4b => ?_) (fun h4b => ?_)
        · have h4 := of_decide_eq_true h4b
          refine jc_skip ?_
          refine jq_then ?_
          refine jc_true rfl (h4b) ?_
          refine jc_seq ?_
          refine jc_region ?_
          refine jo_pure rfl (pr_assign rfl) ?_
          refine jo_nil ?_
          refine jq_then ?_
          refine jc_ret ?_
          refine jq_in_ret ?_
          refine jq_then_ret ?_
          exact jq_ret1 rfl () rfl (show (.bool (tokB c) : Value) = (.bool (true)) from congrArg Value.bool (by simp only [tokB, signs, List.any_cons, List.any_nil, eq_comm (b := c)]; simp [*])) (fun _ h => h)
        · have h4 := of_decide_eq_false h4b
          refine jc_seq ?_
          refine jc_region ?_
          refine jo_pure rfl (pr_beql (n := 38) rfl rfl) ?_
          refine jo_pure rfl (pr_assign rfl) ?_
          refine jo_nil ?_
          refine jq_then ?_
          refine jc_cond rfl (fun h5b => ?_) (fun h5b => ?_)
          · have h5 := of_decide_eq_true h5b
            refine jc_skip ?_
            refine jq_then ?_
            refine jc_true rfl (h5b) ?_
            refine jc_seq ?_
            refine jc_region ?_
            refine jo_pure rfl (pr_assign rfl) ?_
            refine jo_nil ?_
            refine jq_then ?_
            refine jc_ret ?_
            refine jq_in_ret ?_
            refine jq_then_ret ?_
            exact jq_ret1 rfl () rfl (show (.bool (tokB c) : Value) = (.bool (true)) from congrArg Value.bool (by simp only [tokB, signs, List.any_cons, List.any_nil, eq_comm (b := c)]; simp [*])) (fun _ h => h)
          · have h5 := of_decide_eq_false h5b
            refine jc_seq ?_
            refine jc_region ?_
            refine jo_pure rfl (pr_beql (n := 39) rfl rfl) ?_
            refine jo_pure rfl (pr_assign rfl) ?_
            refine jo_nil ?_
            refine jq_then ?_
            refine jc_cond rfl (fun h6b => ?_) (fun h6b => ?_)
            · have h6 := of_decide_eq_true h6b
              refine jc_skip ?_
              refine jq_then ?_
              refine jc_true rfl (h6b) ?_
              refine jc_seq ?_
              refine jc_region ?_
              refine jo_pure rfl (pr_assign rfl) ?_
              refine jo_nil ?_
              refine jq_then ?_
              refine jc_ret ?_
              refine jq_in_ret ?_
              refine jq_then_ret ?_
              exact jq_ret1 rfl () rfl (show (.bool (tokB c) : Value) = (.bool (true)) from congrArg Value.bool (by simp only [tokB, signs, List.any_cons, List.any_nil, eq_comm (b := c)]; simp [*])) (fun _ h => h)
            · have h6 := of_decide_eq_false h6b
              refine jc_seq ?_
              refine jc_region ?_
              refine jo_pure rfl (pr_beql (n := 42) rfl rfl) ?_
              refine jo_pure rfl (pr_assign rfl) ?_
              refine jo_nil ?_
              refine jq_then ?_
              refine jc_cond rfl (fun h7b => ?_) (fun h7b => ?_)
              · have h7 := of_decide_eq_true h7b
                refine jc_skip ?_
                refine jq_then ?_
                refine jc_true rfl (h7b) ?_
                refine jc_seq ?_
                refine jc_region ?_
                refine jo_pure rfl (pr_assign rfl) ?_
                refine jo_nil ?_
                refine jq_then ?_
                refine jc_ret ?_
                refine jq_in_ret ?_
                refine jq_then_ret ?_
                exact jq_ret1 rfl () rfl (show (.bool (tokB c) : Value) = (.bool (true)) from congrArg Value.bool (by simp only [tokB, signs, List.any_cons, List.any_nil, eq_comm (b := c)]; simp [*])) (fun _ h => h)
              · have h7 := of_decide_eq_false h7b
                refine jc_seq ?_
                refine jc_region ?_
                refine jo_pure rfl (pr_beql (n := 43) rfl rfl) ?_
                refine jo_pure rfl (pr_assign rfl) ?_
                refine jo_nil ?_
                refine jq_then ?_
                refine jc_cond rfl (fun h8b => ?_) (fun h8b => ?_)
                · have h8 := of_decide_eq_true h8b
                  refine jc_skip ?_
                  refine jq_then ?_
                  refine jc_true rfl (h8b) ?_
                  refine jc_seq ?_
                  refine jc_region ?_
                  refine jo_pure rfl (pr_assign rfl) ?_
                  refine jo_nil ?_
                  refine jq_then ?_
                  refine jc_ret ?_
                  refine jq_in_ret ?_
                  refine jq_then_ret ?_
                  exact jq_ret1 rfl () rfl (show (.bool (tokB c) : Value) = (.bool (true)) from congrArg Value.bool (by simp only [tokB, signs, List.any_cons, List.any_nil, eq_comm (b := c)]; simp [*])) (fun _ h => h)
                · have h8 := of_decide_eq_false h8b
                  refine jc_seq ?_
                  refine jc_region ?_
                  refine jo_pure rfl (pr_beql (n := 45) rfl rfl) ?_
                  refine jo_pure rfl (pr_assign rfl) ?_
                  refine jo_nil ?_
                  refine jq_then ?_
                  refine jc_cond rfl (fun h9b => ?_) (fun h9b => ?_)
                  · have h9 := of_decide_eq_true h9b
                    refine jc_skip ?_
                    refine jq_then ?_
                    refine jc_true rfl (h9b) ?_
                    refine jc_seq ?_
                    refine jc_region ?_
                    refine jo_pure rfl (pr_assign rfl) ?_
                    refine jo_nil ?_
                    refine jq_then ?_
                    refine jc_ret ?_
                    refine jq_in_ret ?_
                    refine jq_then_ret ?_
                    exact jq_ret1 rfl () rfl (show (.bool (tokB c) : Value) = (.bool (true)) from congrArg Value.bool (by simp only [tokB, signs, List.any_cons, List.any_nil, eq_comm (b := c)]; simp [*])) (fun _ h => h)
                  · have h9 := of_decide_eq_false h9b
                    refine jc_seq ?_
                    refine jc_region ?_
                    refine jo_pure rfl (pr_beql (n := 46) rfl rfl) ?_
                    refine jo_pure rfl (pr_assign rfl) ?_
                    refine jo_nil ?_
                    refine jq_then ?_
                    refine jc_cond rfl (fun h10b => ?_) (fun h10b => ?_)
                    · have h10 := of_decide_eq_true h10b
                      refine jc_skip ?_
                      refine jq_then ?_
                      refine jc_true rfl (h10b) ?_
                      refine jc_seq ?_
                      refine jc_region ?_
                      refine jo_pure rfl (pr_assign rfl) ?_
                      refine jo_nil ?_
                      refine jq_then ?_
                      refine jc_ret ?_
                      refine jq_in_ret ?_
                      refine jq_then_ret ?_
                      exact jq_ret1 rfl () rfl (show (.bool (tokB c) : Value) = (.bool (true)) from congrArg Value.bool (by simp only [tokB, signs, List.any_cons, List.any_nil, eq_comm (b := c)]; simp [*])) (fun _ h => h)
                    · have h10 := of_decide_eq_false h10b
                      refine jc_seq ?_
                      refine jc_region ?_
                      refine jo_pure rfl (pr_beql (n := 94) rfl rfl) ?_
                      refine jo_pure rfl (pr_assign rfl) ?_
                      refine jo_nil ?_
                      refine jq_then ?_
                      refine jc_cond rfl (fun h11b => ?_) (fun h11b => ?_)
                      · have h11 := of_decide_eq_true h11b
                        refine jc_skip ?_
                        refine jq_then ?_
                        refine jc_true rfl (h11b) ?_
                        refine jc_seq ?_
                        refine jc_region ?_
                        refine jo_pure rfl (pr_assign rfl) ?_
                        refine jo_nil ?_
                        refine jq_then ?_
                        refine jc_ret ?_
                        refine jq_in_ret ?_
                        refine jq_then_ret ?_
                        exact jq_ret1 rfl () rfl (show (.bool (tokB c) : Value) = (.bool (true)) from congrArg Value.bool (by simp only [tokB, signs, List.any_cons, List.any_nil, eq_comm (b := c)]; simp [*])) (fun _ h => h)
                      · have h11 := of_decide_eq_false h11b
                        refine jc_seq ?_
                        refine jc_region ?_
                        refine jo_pure rfl (pr_beql (n := 95) rfl rfl) ?_
                        refine jo_pure rfl (pr_assign rfl) ?_
                        refine jo_nil ?_
                        refine jq_then ?_
                        refine jc_cond rfl (fun h12b => ?_) (fun h12b => ?_)
                        · have h12 := of_decide_eq_true h12b
                          refine jc_skip ?_
                          refine jq_then ?_
                          refine jc_true rfl (h12b) ?_
                          refine jc_seq ?_
                          refine jc_region ?_
                          refine jo_pure rfl (pr_assign rfl) ?_
                          refine jo_nil ?_
                          refine jq_then ?_
                          refine jc_ret ?_
                          refine jq_in_ret ?_
                          refine jq_then_ret ?_
                          exact jq_ret1 rfl () rfl (show (.bool (tokB c) : Value) = (.bool (true)) from congrArg Value.bool (by simp only [tokB, signs, List.any_cons, List.any_nil, eq_comm (b := c)]; simp [*])) (fun _ h => h)
                        · have h12 := of_decide_eq_false h12b
                          refine jc_seq ?_
                          refine jc_region ?_
                          refine jo_pure rfl (pr_beql (n := 96) rfl rfl) ?_
                          refine jo_pure rfl (pr_assign rfl) ?_
                          refine jo_nil ?_
                          refine jq_then ?_
                          refine jc_cond rfl (fun h13b => ?_) (fun h13b => ?_)
                          · have h13 := of_decide_eq_true h13b
                            refine jc_skip ?_
                            refine jq_then ?_
                            refine jc_true rfl (h13b) ?_
                            refine jc_seq ?_
                            refine jc_region ?_
                            refine jo_pure rfl (pr_assign rfl) ?_
                            refine jo_nil ?_
                            refine jq_then ?_
                            refine jc_ret ?_
                            refine jq_in_ret ?_
                            refine jq_then_ret ?_
                            exact jq_ret1 rfl () rfl (show (.bool (tokB c) : Value) = (.bool (true)) from congrArg Value.bool (by simp only [tokB, signs, List.any_cons, List.any_nil, eq_comm (b := c)]; simp [*])) (fun _ h => h)
                          · have h13 := of_decide_eq_false h13b
                            refine jc_seq ?_
                            refine jc_region ?_
                            refine jo_pure rfl (pr_beql (n := 124) rfl rfl) ?_
                            refine jo_pure rfl (pr_assign rfl) ?_
                            refine jo_nil ?_
                            refine jq_then ?_
                            refine jc_cond rfl (fun h14b => ?_) (fun h14b => ?_)
                            · have h14 := of_decide_eq_true h14b
                              refine jc_skip ?_
                              refine jq_then ?_
                              refine jc_true rfl (h14b) ?_
                              refine jc_seq ?_
                              refine jc_region ?_
                              refine jo_pure rfl (pr_assign rfl) ?_
                              refine jo_nil ?_
                              refine jq_then ?_
                              refine jc_ret ?_
                              refine jq_in_ret ?_
                              refine jq_then_ret ?_
                              exact jq_ret1 rfl () rfl (show (.bool (tokB c) : Value) = (.bool (true)) from congrArg Value.bool (by simp only [tokB, signs, List.any_cons, List.any_nil, eq_comm (b := c)]; simp [*])) (fun _ h => h)
                            · have h14 := of_decide_eq_false h14b
                              refine jc_region ?_
                              refine jo_pure rfl (pr_beql (n := 126) rfl rfl) ?_
                              refine jo_pure rfl (pr_assign rfl) ?_
                              refine jo_nil ?_
                              refine jq_then ?_
                              refine jc_cond rfl (fun h15b => ?_) (fun h15b => ?_)
                              · have h15 := of_decide_eq_true h15b
                                refine jc_seq ?_
                                refine jc_region ?_
                                refine jo_pure rfl (pr_assign rfl) ?_
                                refine jo_nil ?_
                                refine jq_then ?_
                                refine jc_ret ?_
                                refine jq_in_ret ?_
                                refine jq_then_ret ?_
                                exact jq_ret1 rfl () rfl (show (.bool (tokB c) : Value) = (.bool (true)) from congrArg Value.bool (by simp only [tokB, signs, List.any_cons, List.any_nil, eq_comm (b := c)]; simp [*])) (fun _ h => h)
                              · have h15 := of_decide_eq_false h15b
                                refine jc_skip ?_
                                refine jq_in_normal ?_
                                refine jq_then ?_
                                refine jc_seq ?_
                                refine jc_region ?_
                                refine jo_pure rfl (pr_move rfl) ?_
                                refine jo_pure rfl (pr_bgeq (n := 48) rfl rfl) ?_
                                refine jo_pure rfl (pr_move rfl) ?_
                                refine jo_gpure (j := 2) (want := true) rfl rfl rfl rfl (fun hg => pr_move rfl) ?_
                                refine jo_gpure (j := 2) (want := true) rfl rfl rfl rfl (fun hg => pr_bleq (n := 57) (evg rfl hg) rfl) ?_
                                refine jo_pure rfl (pr_pick_and rfl rfl rfl) ?_
                                refine jo_pure rfl (pr_move rfl) ?_
                                refine jo_gpure (j := 6) (want := false) rfl rfl rfl rfl (fun hg => pr_move rfl) ?_
                                refine jo_gpure (j := 6) (want := false) rfl rfl rfl rfl (fun hg => pr_bgeq (n := 65) (evg rfl hg) rfl) ?_
                                refine jo_gpure (j := 6) (want := false) rfl rfl rfl rfl (fun hg => pr_move (evg rfl hg)) ?_
                                refine jo_gpure2 (j := 9) (want := true) rfl rfl rfl rfl (fun hg => pr_move rfl) ?_
                                refine jo_gpure2 (j := 9) (want := true) rfl rfl rfl rfl (fun hg => pr_bleq (n := 90) (evg rfl hg) rfl) ?_
                                refine jo_gpure (j := 6) (want := false) rfl rfl rfl rfl (fun hg => pr_pick_and (evg rfl hg) (evg2 rfl hg) rfl) ?_
                                refine jo_pure rfl (pr_pick_or rfl rfl rfl) ?_
                                refine jo_pure rfl (pr_move rfl) ?_
                                refine jo_gpure (j := 14) (want := false) rfl rfl rfl rfl (fun hg => pr_move rfl) ?_
                                refine jo_gpure (j := 14) (want := false) rfl rfl rfl rfl (fun hg => pr_bgeq (n := 97) (evg rfl hg) rfl) ?_
                                refine jo_gpure (j := 14) (want := false) rfl rfl rfl rfl (fun hg => pr_move (evg rfl hg)) ?_
                                refine jo_gpure2 (j := 17) (want := true) rfl rfl rfl rfl (fun hg => pr_move rfl) ?_
                                refine jo_gpure2 (j := 17) (want := true) rfl rfl rfl rfl (fun hg => pr_bleq (n := 122) (evg rfl hg) rfl) ?_
                                refine jo_gpure (j := 14) (want := false) rfl rfl rfl rfl (fun hg => pr_pick_and (evg rfl hg) (evg2 rfl hg) rfl) ?_
                                refine jo_pure rfl (pr_pick_or rfl rfl rfl) ?_
                                refine jo_pure rfl (pr_assign rfl) ?_
                                refine jo_nil ?_
                                refine jq_then ?_
                                refine jc_ret ?_
                                exact jq_ret1 rfl () rfl (show (.bool (tokB c) : Value) = (.bool ((((decide ((48 : UInt8) ≤ c) && decide ((c : UInt8) ≤ 57)) || (decide ((65 : UInt8) ≤ c) && decide ((c : UInt8) ≤ 90))) || (decide ((97 : UInt8) ≤ c) && decide ((c : UInt8) ≤ 122))))) from congrArg Value.bool (by simp only [tokB, signs, List.any_cons, List.any_nil, eq_comm (b := c)]; simp [*])) (fun _ h => h)

theorem c_ref01_TokenByte (c : UInt8)  : Con Tryd.prog 76 #[byte (c)] [] (fun _ : Unit => .bool (tokB c)) (fun _ => []) := by
  refine con_of_J (args := [byte (c)]) (n := 34) Tryd.func76 rfl (Nat.le_of_ble_eq_true rfl) rfl (fun w0 I0 m0 => ?_)
  show J _ [(0, byte (c))] [] _
  refine jc_seq ?_
  refine jc_region ?_
  refine jo_pure rfl (pr_assign rfl) ?_
  refine jo_nil ?_
  refine jq_then ?_
  refine jc_seq ?_
  refine jc_seq ?_
  refine jc_region ?_
  refine jo_pure rfl (pr_move rfl) ?_
  refine jo_pure rfl (pr_bgeq (n := 97) rfl rfl) ?_
  refine jo_pure rfl (pr_move rfl) ?_
  refine jo_gpure (j := 2) (want := true) rfl rfl rfl rfl (fun hg => pr_move rfl) ?_
  refine jo_gpure (j := 2) (want := true) rfl rfl rfl rfl (fun hg => pr_bleq (n := 122) (evg rfl hg) rfl) ?_
  refine jo_pure rfl (pr_pick_and rfl rfl rfl) ?_
  refine jo_pure rfl (pr_move rfl) ?_
  refine jo_gpure (j := 6) (want := false) rfl rfl rfl rfl (fun hg => pr_move rfl) ?_
  refine jo_gpure (j := 6) (want := false) rfl rfl rfl rfl (fun hg => pr_bgeq (n := 65) (evg rfl hg) rfl) ?_
  refine jo_gpure (j := 6) (want := false) rfl rfl rfl rfl (fun hg => pr_move (evg rfl hg)) ?_
  refine jo_gpure2 (j := 9) (want := true) rfl rfl rfl rfl (fun hg => pr_move rfl) ?_
  refine jo_gpure2 (j := 9) (want := true) rfl rfl rfl rfl (fun hg => pr_bleq (n := 90) (evg rfl hg) rfl) ?_
  refine jo_gpure (j := 6) (want := false) rfl rfl rfl rfl (fun hg => pr_pick_and (evg rfl hg) (evg2 rfl hg) rfl) ?_
  refine jo_pure rfl (pr_pick_or rfl rfl rfl) ?_
  refine jo_pure rfl (pr_move rfl) ?_
  refine jo_gpure (j := 14) (want := false) rfl rfl rfl rfl (fun hg => pr_move rfl) ?_
  refine jo_gpure (j := 14) (want := false) rfl rfl rfl rfl (fun hg => pr_bgeq (n := 48) (evg rfl hg) rfl) ?_
  refine jo_gpure (j := 14) (want := false) rfl rfl rfl rfl (fun hg => pr_move (evg rfl hg)) ?_
  refine jo_gpure2 (j := 17) (want := true) rfl rfl rfl rfl (fun hg => pr_move rfl) ?_
  refine jo_gpure2 (j := 17) (want := true) rfl rfl rfl rfl (fun hg => pr_bleq (n := 57) (evg rfl hg) rfl) ?_
  refine jo_gpure (j := 14) (want := false) rfl rfl rfl rfl (fun hg => pr_pick_and (evg rfl hg) (evg2 rfl hg) rfl) ?_
  refine jo_pure rfl (pr_pick_or rfl rfl rfl) ?_
  refine jo_nil ?_
  refine jq_then ?_
  refine jc_cond rfl (fun h1b => ?_) (fun h1b => ?_)
  · have h1 := (fun q => Or.imp (fun q => Or.imp (fun q => And.imp of_decide_eq_true of_decide_eq_true (bt_and q)) (fun q => And.imp of_decide_eq_true of_decide_eq_true (bt_and q)) (bt_or q)) (fun q => And.imp of_decide_eq_true of_decide_eq_true (bt_and q)) (bt_or q)) h1b
    refine jc_seq ?_
    refine jc_region ?_
    refine jo_pure rfl (pr_assign rfl) ?_
    refine jo_nil ?_
    refine jq_then ?_
    refine jc_ret ?_
    refine jq_then_ret ?_
    exact jq_ret1 rfl () rfl (show (.bool (tokB c) : Value) = (.bool (true)) from congrArg Value.bool (by rw [← tokB_alt]; simp only [Bool.or_eq_true, Bool.and_eq_true, decide_eq_true_eq] at h1 ⊢; first | (rw [eq_comm]; simp [h1]) | simp [h1])) (fun _ h => h)
  · have h1 := (fun q => And.imp (fun q => And.imp (fun q => Or.imp of_decide_eq_false of_decide_eq_false (bf_and q)) (fun q => Or.imp of_decide_eq_false of_decide_eq_false (bf_and q)) (bf_or q)) (fun q => Or.imp of_decide_eq_false of_decide_eq_false (bf_and q)) (bf_or q)) h1b
    refine jc_skip ?_
    refine jq_then ?_
    refine jc_seq ?_
    refine jc_seq ?_
    refine jc_region ?_
    refine jo_pure rfl (pr_assign rfl) ?_
    refine jo_nil ?_
    refine jq_then ?_
    refine jc_block ?_
    refine jc_loop (fun (i : Nat) => [(0, byte (c)), (4, byte (c)), (5, .bool (decide ((97 : UInt8) ≤ c))), (6, .bool (decide ((97 : UInt8) ≤ c))), (9, .bool ((decide ((97 : UInt8) ≤ c) && decide ((c : UInt8) ≤ 122)))), (10, .bool ((decide ((97 : UInt8) ≤ c) && decide ((c : UInt8) ≤ 122)))), (17, .bool (((decide ((97 : UInt8) ≤ c) && decide ((c : UInt8) ≤ 122)) || (decide ((65 : UInt8) ≤ c) && decide ((c : UInt8) ≤ 90))))), (18, .bool (((decide ((97 : UInt8) ≤ c) && decide ((c : UInt8) ≤ 122)) || (decide ((65 : UInt8) ≤ c) && decide ((c : UInt8) ≤ 90))))), (25, .bool ((((decide ((97 : UInt8) ≤ c) && decide ((c : UInt8) ≤ 122)) || (decide ((65 : UInt8) ≤ c) && decide ((c : UInt8) ≤ 90))) || (decide ((48 : UInt8) ≤ c) && decide ((c : UInt8) ≤ 57))))), (3, .int .i64 ((i : Nat) : Int))]) (fun (i : Nat) => []) (fun (i : Nat) => i ≤ 15 ∧ (signs.take i).any (fun x => decide (x = c)) = false) (fun (i : Nat) => 15 - i) 0 (⟨Nat.zero_le _, rfl⟩) ⟨rfl, rfl, rfl, rfl, rfl, rfl, rfl, rfl, rfl, rfl, trivial⟩ (fun _ h => h) (fun i hinv => ?_)
    refine jc_seq ?_
    refine jc_seq ?_
    refine jc_region ?_
    refine jo_pure rfl (pr_move rfl) ?_
    refine jo_pure rfl (pr_lssN (m := i) (n := 15) rfl rfl) ?_
    refine jo_nil ?_
    refine jq_then ?_
    refine jc_cond rfl (fun h2b => ?_) (fun h2b => ?_)
    · have h2 := of_decide_eq_true h2b
      refine jc_skip ?_
      refine jq_then ?_
      refine jc_seq ?_
      refine jc_block ?_
      refine jc_seq ?_
      refine jc_region ?_
      refine jo_pure rfl (pr_move rfl) ?_
      refine jo_pure rfl (pr_sindex (i := i) rfl rfl Tryd.underlying9 (by simp; omega)) ?_
      refine jo_pure rfl (pr_move rfl) ?_
      refine jo_pure rfl (pr_beql rfl rfl) ?_
      refine jo_nil ?_
      refine jq_then ?_
      refine jc_cond rfl (fun h3b => ?_) (fun h3b => ?_)
      · have h3 := of_decide_eq_true h3b
        refine jc_seq ?_
        refine jc_region ?_
        refine jo_pure rfl (pr_assign rfl) ?_
        refine jo_nil ?_
        refine jq_then ?_
        refine jc_ret ?_
        refine jq_in_ret ?_
        refine jq_then_ret ?_
        refine jq_then_ret ?_
        refine jq_in_ret ?_
        refine jq_then_ret ?_
        exact jq_ret1 rfl () rfl (show (.bool (tokB c) : Value) = (.bool (true)) from congrArg Value.bool (by rw [eq_comm, ← tokB_alt, any_hit (s := signs) (dd := 0) h2 (decide_eq_true h3), Bool.or_true])) (fun _ h => h)
      · have h3 := of_decide_eq_false h3b
        refine jc_skip ?_
        refine jq_in_normal ?_
        refine jq_then ?_
        refine jc_region ?_
        refine jo_pure rfl (pr_move rfl) ?_
        refine jo_pure rfl (pr_addN (m := i) (n := 1) rfl rfl (by omega)) ?_
        refine jo_pure rfl (pr_assign rfl) ?_
        refine jo_nil ?_
        refine jq_round' (i + 1) (⟨by omega, any_step (dd := 0) h2 hinv.2 (decide_eq_false h3)⟩) (by omega) ⟨rfl, rfl, rfl, rfl, rfl, rfl, rfl, rfl, rfl, rfl, trivial⟩ (fun _ h => h)
    · have h2 := of_decide_eq_false h2b
      refine jc_exit ?_
      refine jq_then_exit ?_
      refine jq_then_exit ?_
      refine jq_in_hit ?_
      refine jq_then ?_
      refine jc_seq ?_
      refine jc_region ?_
      refine jo_pure rfl (pr_assign rfl) ?_
      refine jo_nil ?_
      refine jq_then ?_
      refine jc_ret ?_
      exact jq_ret1 rfl () rfl (show (.bool (tokB c) : Value) = (.bool (false)) from congrArg Value.bool (by rw [eq_comm, ← tokB_alt, any_end (s := signs) (by simpa [signs] using h2) hinv.2, Bool.or_false]; simpa using h1b)) (fun _ h => h)

theorem c_ascii_Token (s : List UInt8) (hs : s.length ≤ 1000000) : Con Tryd.prog 64 #[str (s)] [] (fun _ : Unit => .bool (token s)) (fun _ => []) := by
  refine con_of_J (args := [str (s)]) (n := 17) Tryd.func64 rfl (Nat.le_of_ble_eq_true rfl) rfl (fun w0 I0 m0 => ?_)
  show J _ [(0, str (s))] [] _
  refine jc_seq ?_
  refine jc_region ?_
  refine jo_pure rfl (pr_assign rfl) ?_
  refine jo_nil ?_
  refine jq_then ?_
  refine jc_seq ?_
  refine jc_seq ?_
  refine jc_region ?_
  refine jo_pure rfl (pr_move rfl) ?_
  refine jo_pure rfl (pr_slen rfl Tryd.underlying9) ?_
  refine jo_pure rfl (pr_move rfl) ?_
  refine jo_nil ?_
  refine jq_then ?_
  refine jc_block ?_
  refine jc_loop (fun (i : Nat) => [(0, str (s)), (4, str (s)), (5, .int .i64 ((s.length : Nat) : Int)), (6, .int .i64 ((i : Nat) : Int))]) (fun (i : Nat) => []) (fun (i : Nat) => i ≤ s.length ∧ (s.take i).all tokB = true) (fun (i : Nat) => s.length - i) 0 (⟨Nat.zero_le _, rfl⟩) ⟨rfl, rfl, rfl, rfl, trivial⟩ (fun _ h => h) (fun i hinv => ?_)
  refine jc_seq ?_
  refine jc_region ?_
  refine jo_pure rfl (pr_lssN (m := i) (n := s.length) rfl rfl) ?_
  refine jo_nil ?_
  refine jq_then ?_
  refine jc_seq ?_
  refine jc_cond rfl (fun h1b => ?_) (fun h1b => ?_)
  · have h1 := of_decide_eq_true h1b
    refine jc_skip ?_
    refine jq_then ?_
    refine jc_seq ?_
    refine jc_block ?_
    refine jc_seq ?_
    refine jc_region ?_
    refine jo_pure rfl (pr_move rfl) ?_
    refine jo_pure rfl (pr_assign rfl) ?_
    refine jo_nil ?_
    refine jq_then ?_
    refine jc_seq ?_
    refine jc_region ?_
    refine jo_pure rfl (pr_move rfl) ?_
    refine jo_pure rfl (pr_move rfl) ?_
    refine jo_pure rfl (pr_sindex (i := i) rfl rfl Tryd.underlying9 (by omega)) ?_
    refine jo_callp cal_97 (c_ascii_part (s.getD i 0)) ⟨rfl, trivial⟩ rfl (trivial) (fun _ => ?_)
    refine jo_pure rfl (pr_not rfl) ?_
    refine jo_nil ?_
    refine jq_then ?_
    refine jc_cond rfl (fun h2b => ?_) (fun h2b => ?_)
    · have h2 := (fun q => id (bt_not q)) h2b
      refine jc_seq ?_
      refine jc_region ?_
      refine jo_pure rfl (pr_assign rfl) ?_
      refine jo_nil ?_
      refine jq_then ?_
      refine jc_ret ?_
      refine jq_in_ret ?_
      refine jq_then_ret ?_
      refine jq_then_ret ?_
      refine jq_in_ret ?_
      refine jq_then_ret ?_
      exact jq_ret1 rfl () rfl (show (.bool (token s) : Value) = (.bool (false)) from congrArg Value.bool (by rw [token, all_miss (dd := 0) h1 (by simpa using h2)]; rfl)) (fun _ h => h)
    · have h2 := (fun q => id (bf_not q)) h2b
      refine jc_skip ?_
      refine jq_in_normal ?_
      refine jq_then ?_
      refine jc_region ?_
      refine jo_pure rfl (pr_addN (m := i) (n := 1) rfl rfl (by omega)) ?_
      refine jo_pure rfl (pr_move rfl) ?_
      refine jo_nil ?_
      refine jq_round' (i + 1) (⟨by omega, all_step (dd := 0) h1 hinv.2 (by simpa using h2)⟩) (by omega) ⟨rfl, rfl, rfl, rfl, trivial⟩ (fun _ h => h)
  · have h1 := of_decide_eq_false h1b
    refine jc_exit ?_
    refine jq_then_exit ?_
    refine jq_then_exit ?_
    refine jq_in_hit ?_
    refine jq_then ?_
    refine jc_seq ?_
    refine jc_region ?_
    refine jo_pure rfl (pr_move rfl) ?_
    refine jo_pure rfl (pr_sneq rfl rfl) ?_
    refine jo_pure rfl (pr_assign rfl) ?_
    refine jo_nil ?_
    refine jq_then ?_
    refine jc_ret ?_
    exact jq_ret1 rfl () rfl (show (.bool (token s) : Value) = (.bool ((!decide ((s : List UInt8) = [])))) from congrArg Value.bool (by rw [token, all_end (by omega) hinv.2]; rfl)) (fun _ h => h)

theorem c_ref01_Token (s : List UInt8) (hs : s.length ≤ 1000000) : Con Tryd.prog 44 #[str (s)] [] (fun _ : Unit => .bool (token s)) (fun _ => []) := by
  refine con_of_J (args := [str (s)]) (n := 17) Tryd.func44 rfl (Nat.le_of_ble_eq_true rfl) rfl (fun w0 I0 m0 => ?_)
  show J _ [(0, str (s))] [] _
  refine jc_seq ?_
  refine jc_region ?_
  refine jo_pure rfl (pr_assign rfl) ?_
  refine jo_nil ?_
  refine jq_then ?_
  refine jc_seq ?_
  refine jc_seq ?_
  refine jc_region ?_
  refine jo_pure rfl (pr_assign rfl) ?_
  refine jo_nil ?_
  refine jq_then ?_
  refine jc_block ?_
  refine jc_loop (fun (i : Nat) => [(0, str (s)), (3, .int .i64 ((i : Nat) : Int))]) (fun (i : Nat) => []) (fun (i : Nat) => i ≤ s.length ∧ (s.take i).all tokB = true) (fun (i : Nat) => s.length - i) 0 (⟨Nat.zero_le _, rfl⟩) ⟨rfl, rfl, trivial⟩ (fun _ h => h) (fun i hinv => ?_)
  refine jc_seq ?_
  refine jc_seq ?_
  refine jc_region ?_
  refine jo_pure rfl (pr_move rfl) ?_
  refine jo_pure rfl (pr_move rfl) ?_
  refine jo_pure rfl (pr_slen rfl Tryd.underlying9) ?_
  refine jo_pure rfl (pr_lssN (m := i) (n := s.length) rfl rfl) ?_
  refine jo_nil ?_
  refine jq_then ?_
  refine jc_cond rfl (fun h1b => ?_) (fun h1b => ?_)
  · have h1 := of_decide_eq_true h1b
    refine jc_skip ?_
    refine jq_then ?_
    refine jc_seq ?_
    refine jc_block ?_
    refine jc_seq ?_
    refine jc_region ?_
    refine jo_pure rfl (pr_move rfl) ?_
    refine jo_pure rfl (pr_move rfl) ?_
    refine jo_pure rfl (pr_sindex (i := i) rfl rfl Tryd.underlying9 (by omega)) ?_
    refine jo_callp cal_76 (c_ref01_TokenByte (s.getD i 0)) ⟨rfl, trivial⟩ rfl (trivial) (fun _ => ?_)
    refine jo_pure rfl (pr_not rfl) ?_
    refine jo_nil ?_
    refine jq_then ?_
    refine jc_cond rfl (fun h2b => ?_) (fun h2b => ?_)
    · have h2 := (fun q => id (bt_not q)) h2b
      refine jc_seq ?_
      refine jc_region ?_
      refine jo_pure rfl (pr_assign rfl) ?_
      refine jo_nil ?_
      refine jq_then ?_
      refine jc_ret ?_
      refine jq_in_ret ?_
      refine jq_then_ret ?_
      refine jq_then_ret ?_
      refine jq_in_ret ?_
      refine jq_then_ret ?_
      exact jq_ret1 rfl () rfl (show (.bool (token s) : Value) = (.bool (false)) from congrArg Value.bool (by rw [token, all_miss (dd := 0) h1 (by simpa using h2)]; rfl)) (fun _ h => h)
    · have h2 := (fun q => id (bf_not q)) h2b
      refine jc_skip ?_
      refine jq_in_normal ?_
      refine jq_then ?_
      refine jc_region ?_
      refine jo_pure rfl (pr_move rfl) ?_
      refine jo_pure rfl (pr_addN (m := i) (n := 1) rfl rfl (by omega)) ?_
      refine jo_pure rfl (pr_assign rfl) ?_
      refine jo_nil ?_
      refine jq_round' (i + 1) (⟨by omega, all_step (dd := 0) h1 hinv.2 (by simpa using h2)⟩) (by omega) ⟨rfl, rfl, trivial⟩ (fun _ h => h)
  · have h1 := of_decide_eq_false h1b
    refine jc_exit ?_
    refine jq_then_exit ?_
    refine jq_then_exit ?_
    refine jq_in_hit ?_
    refine jq_then ?_
    refine jc_seq ?_
    refine jc_region ?_
    refine jo_pure rfl (pr_move rfl) ?_
    refine jo_pure rfl (pr_sneq rfl rfl) ?_
    refine jo_pure rfl (pr_assign rfl) ?_
    refine jo_nil ?_
    refine jq_then ?_
    refine jc_ret ?_
    exact jq_ret1 rfl () rfl (show (.bool (token s) : Value) = (.bool ((!decide ((s : List UInt8) = [])))) from congrArg Value.bool (by rw [token, all_end (by omega) hinv.2]; rfl)) (fun _ h => h)

theorem c_ref01_textByte (c : UInt8)  : Con Tryd.prog 120 #[byte (c)] [] (fun _ : Unit => .bool (textB c)) (fun _ => []) := by
  refine con_of_J (args := [byte (c)]) (n := 17) Tryd.func120 rfl (Nat.le_of_ble_eq_true rfl) rfl (fun w0 I0 m0 => ?_)
  show J _ [(0, byte (c))] [] _
  refine jc_seq ?_
  refine jc_region ?_
  refine jo_pure rfl (pr_assign rfl) ?_
  refine jo_nil ?_
  refine jq_then ?_
  refine jc_seq ?_
  refine jc_region ?_
  refine jo_pure rfl (pr_move rfl) ?_
  refine jo_pure rfl (pr_beql (n := 9) rfl rfl) ?_
  refine jo_pure rfl (pr_move rfl) ?_
  refine jo_gpure (j := 2) (want := false) rfl rfl rfl rfl (fun hg => pr_move rfl) ?_
  refine jo_gpure (j := 2) (want := false) rfl rfl rfl rfl (fun hg => pr_bgeq (n := 32) (evg rfl hg) rfl) ?_
  refine jo_gpure (j := 2) (want := false) rfl rfl rfl rfl (fun hg => pr_move (evg rfl hg)) ?_
  refine jo_gpure2 (j := 5) (want := true) rfl rfl rfl rfl (fun hg => pr_move rfl) ?_
  refine jo_gpure2 (j := 5) (want := true) rfl rfl rfl rfl (fun hg => pr_bleq (n := 126) (evg rfl hg) rfl) ?_
  refine jo_gpure (j := 2) (want := false) rfl rfl rfl rfl (fun hg => pr_pick_and (evg rfl hg) (evg2 rfl hg) rfl) ?_
  refine jo_pure rfl (pr_pick_or rfl rfl rfl) ?_
  refine jo_pure rfl (pr_move rfl) ?_
  refine jo_gpure (j := 10) (want := false) rfl rfl rfl rfl (fun hg => pr_move rfl) ?_
  refine jo_gpure (j := 10) (want := false) rfl rfl rfl rfl (fun hg => pr_bgeq (n := 128) (evg rfl hg) rfl) ?_
  refine jo_pure rfl (pr_pick_or rfl rfl rfl) ?_
  refine jo_pure rfl (pr_assign rfl) ?_
  refine jo_nil ?_
  refine jq_then ?_
  refine jc_ret ?_
  exact jq_ret1 rfl () rfl (show (.bool (textB c) : Value) = (.bool (((decide ((c : UInt8) = 9) || (decide ((32 : UInt8) ≤ c) && decide ((c : UInt8) ≤ 126))) || decide ((128 : UInt8) ≤ c)))) from congrArg Value.bool (by simp [textB])) (fun _ h => h)

theorem c_ascii_Text (s : List UInt8) (hs : s.length ≤ 1000000) : Con Tryd.prog 129 #[str (s)] [] (fun _ : Unit => .bool (text s)) (fun _ => []) := by
  refine con_of_J (args := [str (s)]) (n := 26) Tryd.func129 rfl (Nat.le_of_ble_eq_true rfl) rfl (fun w0 I0 m0 => ?_)
  show J _ [(0, str (s))] [] _
  refine jc_seq ?_
  refine jc_region ?_
  refine jo_pure rfl (pr_assign rfl) ?_
  refine jo_nil ?_
  refine jq_then ?_
  refine jc_seq ?_
  refine jc_seq ?_
  refine jc_region ?_
  refine jo_pure rfl (pr_move rfl) ?_
  refine jo_pure rfl (pr_slen rfl Tryd.underlying9) ?_
  refine jo_pure rfl (pr_move rfl) ?_
  refine jo_nil ?_
  refine jq_then ?_
  refine jc_block ?_
  refine jc_loop (fun (i : Nat) => [(0, str (s)), (4, str (s)), (5, .int .i64 ((s.length : Nat) : Int)), (6, .int .i64 ((i : Nat) : Int))]) (fun (i : Nat) => []) (fun (i : Nat) => i ≤ s.length ∧ (s.take i).all textB = true) (fun (i : Nat) => s.length - i) 0 (⟨Nat.zero_le _, rfl⟩) ⟨rfl, rfl, rfl, rfl, trivial⟩ (fun _ h => h) (fun i hinv => ?_)
  refine jc_seq ?_
  refine jc_region ?_
  refine jo_pure rfl (pr_lssN (m := i) (n := s.length) rfl rfl) ?_
  refine jo_nil ?_
  refine jq_then ?_
  refine jc_seq ?_
  refine jc_cond rfl (fun h1b => ?_) (fun h1b => ?_)
  · have h1 := of_decide_eq_true h1b
    refine jc_skip ?_
    refine jq_then ?_
    refine jc_seq ?_
    refine jc_block ?_
    refine jc_seq ?_
    refine jc_region ?_
    refine jo_pure rfl (pr_move rfl) ?_
    refine jo_pure rfl (pr_assign rfl) ?_
    refine jo_nil ?_
    refine jq_then ?_
    refine jc_seq ?_
    refine jc_region ?_
    refine jo_pure rfl (pr_move rfl) ?_
    refine jo_pure rfl (pr_move rfl) ?_
    refine jo_pure rfl (pr_sindex (i := i) rfl rfl Tryd.underlying9 (by omega)) ?_
    refine jo_pure rfl (pr_blss (n := 32) rfl rfl) ?_
    refine jo_pure rfl (pr_move rfl) ?_
    refine jo_gpure (j := 4) (want := true) rfl rfl rfl rfl (fun hg => pr_move rfl) ?_
    refine jo_gpure (j := 4) (want := true) rfl rfl rfl rfl (fun hg => pr_move rfl) ?_
    refine jo_gpure (j := 4) (want := true) rfl rfl rfl rfl (fun hg => pr_sindex (i := i) (evg rfl hg) (evg rfl hg) Tryd.underlying9 (by omega)) ?_
    refine jo_gpure (j := 4) (want := true) rfl rfl rfl rfl (fun hg => pr_bneq (n := 9) (evg rfl hg) rfl) ?_
    refine jo_pure rfl (pr_pick_and rfl rfl rfl) ?_
    refine jo_pure rfl (pr_move rfl) ?_
    refine jo_gpure (j := 10) (want := false) rfl rfl rfl rfl (fun hg => pr_move rfl) ?_
    refine jo_gpure (j := 10) (want := false) rfl rfl rfl rfl (fun hg => pr_move rfl) ?_
    refine jo_gpure (j := 10) (want := false) rfl rfl rfl rfl (fun hg => pr_sindex (i := i) (evg rfl hg) (evg rfl hg) Tryd.underlying9 (by omega)) ?_
    refine jo_gpure (j := 10) (want := false) rfl rfl rfl rfl (fun hg => pr_beql (n := 127) (evg rfl hg) rfl) ?_
    refine jo_pure rfl (pr_pick_or rfl rfl rfl) ?_
    refine jo_nil ?_
    refine jq_then ?_
    refine jc_cond rfl (fun h2b => ?_) (fun h2b => ?_)
    · have h2 := (fun q => Or.imp (fun q => And.imp of_decide_eq_true (fun q => of_decide_eq_false (bt_not q)) (bt_and q)) of_decide_eq_true (bt_or q)) h2b
      refine jc_seq ?_
      refine jc_region ?_
      refine jo_pure rfl (pr_assign rfl) ?_
      refine jo_nil ?_
      refine jq_then ?_
      refine jc_ret ?_
      refine jq_in_ret ?_
      refine jq_then_ret ?_
      refine jq_then_ret ?_
      refine jq_in_ret ?_
      refine jq_then_ret ?_
      exact jq_ret1 rfl () rfl (show (.bool (text s) : Value) = (.bool (false)) from congrArg Value.bool (by rw [text, all_miss (dd := 0) h1 (by rw [textB_alt] at h2b; simpa using h2b)])) (fun _ h => h)
    · have h2 := (fun q => And.imp (fun q => Or.imp of_decide_eq_false (fun q => of_decide_eq_true (bf_not q)) (bf_and q)) of_decide_eq_false (bf_or q)) h2b
      refine jc_skip ?_
      refine jq_in_normal ?_
      refine jq_then ?_
      refine jc_region ?_
      refine jo_pure rfl (pr_addN (m := i) (n := 1) rfl rfl (by omega)) ?_
      refine jo_pure rfl (pr_move rfl) ?_
      refine jo_nil ?_
      refine jq_round' (i + 1) (⟨by omega, all_step (dd := 0) h1 hinv.2 (by rw [textB_alt] at h2b; simpa using h2b)⟩) (by omega) ⟨rfl, rfl, rfl, rfl, trivial⟩ (fun _ h => h)
  · have h1 := of_decide_eq_false h1b
    refine jc_exit ?_
    refine jq_then_exit ?_
    refine jq_then_exit ?_
    refine jq_in_hit ?_
    refine jq_then ?_
    refine jc_seq ?_
    refine jc_region ?_
    refine jo_pure rfl (pr_assign rfl) ?_
    refine jo_nil ?_
    refine jq_then ?_
    refine jc_ret ?_
    exact jq_ret1 rfl () rfl (show (.bool (text s) : Value) = (.bool (true)) from congrArg Value.bool (by rw [text, all_end (by omega) hinv.2])) (fun _ h => h)
end Go.Proofs.YtikllmfjgpmcnaaDoor
