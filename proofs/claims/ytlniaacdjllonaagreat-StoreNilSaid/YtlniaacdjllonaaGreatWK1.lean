/-
 Contracts of functions of the program: each returns what a plain function says, for every input within the bounds named. Conditions: the bounds.
-/
import Derived.Test.YtlniaacdjllonaaGreatRows
import Derived.Test.YtlniaacdjllonaaGreatWSep2
import Derived.Test.YtlniaacdjllonaaGreatWLawA
import Derived.Test.YtlniaacdjllonaaGreatWExt
namespace Go.Proofs.YtlniaacdjllonaaGreat
open Go Go.Sep
set_option linter.unusedSimpArgs false
set_option linter.unusedVariables false

open Go.Plain

theorem mixed : Tryz.prog.follows .mixedOrders = true := by kernel_rfl
theorem cal_53 : Cal Tryz.prog 53 := cal_of Tryz.func53 (by kernel_rfl) rfl
theorem cal_68 : Cal Tryz.prog 68 := cal_of Tryz.func68 (by kernel_rfl) rfl
theorem cal_69 : Cal Tryz.prog 69 := cal_of Tryz.func69 (by kernel_rfl) rfl
theorem cal_85 : Cal Tryz.prog 85 := cal_of Tryz.func85 (by kernel_rfl) rfl
theorem cal_146 : Cal Tryz.prog 146 := cal_of Tryz.func146 (by kernel_rfl) rfl
theorem cal_147 : Cal Tryz.prog 147 := cal_of Tryz.func147 (by kernel_rfl) rfl
theorem cal_148 : Cal Tryz.prog 148 := cal_of Tryz.func148 (by kernel_rfl) rfl
theorem cal_149 : Cal Tryz.prog 149 := cal_of Tryz.func149 (by kernel_rfl) rfl
theorem cal_150 : Cal Tryz.prog 150 := cal_of Tryz.func150 (by kernel_rfl) rfl
theorem cal_151 : Cal Tryz.prog 151 := cal_of Tryz.func151 (by kernel_rfl) rfl
theorem cal_152 : Cal Tryz.prog 152 := cal_of Tryz.func152 (by kernel_rfl) rfl
theorem cal_153 : Cal Tryz.prog 153 := cal_of Tryz.func153 (by kernel_rfl) rfl
theorem cal_156 : Cal Tryz.prog 156 := cal_of Tryz.func156 (by kernel_rfl) rfl
theorem cal_157 : Cal Tryz.prog 157 := cal_of Tryz.func157 (by kernel_rfl) rfl
theorem cal_158 : Cal Tryz.prog 158 := cal_of Tryz.func158 (by kernel_rfl) rfl
theorem cal_161 : Cal Tryz.prog 161 := cal_of Tryz.func161 (by kernel_rfl) rfl
theorem cal_162 : Cal Tryz.prog 162 := cal_of Tryz.func162 (by kernel_rfl) rfl
theorem cal_166 : Cal Tryz.prog 166 := cal_of Tryz.func166 (by kernel_rfl) rfl
theorem ty_4 : TyF Tryz.prog 4 false 1 1 (some (.bool (false))) := ⟨by kernel_rfl, by kernel_rfl⟩
theorem ty_5 : TyF Tryz.prog 5 false 1 1 (some (byte (0))) := ⟨by kernel_rfl, by kernel_rfl⟩
theorem ty_9 : TyF Tryz.prog 9 false 1 16 (some (str ([]))) := ⟨by kernel_rfl, by kernel_rfl⟩
theorem ty_80 : TyF Tryz.prog 80 true 2 32 (some (.agg #[str ([]), str ([])])) := ⟨by kernel_rfl, by kernel_rfl⟩
theorem ty_121 : TyF Tryz.prog 121 true 2 32 (some (.agg #[str ([]), str ([])])) := ⟨by kernel_rfl, by kernel_rfl⟩
theorem ty_161 : TyF Tryz.prog 161 true 256 256 (some (.agg #[.bool (false), .bool (false), .bool (false), .bool (false), .bool (false), .bool (false), .bool (false), .bool (false), .bool (false), .bool (false), .bool (false), .bool (false), .bool (false), .bool (false), .bool (false), .bool (false), .bool (false), .bool (false), .bool (false), .bool (false), .bool (false), .bool (false), .bool (false), .bool (false), .bool (false), .bool (false), .bool (false), .bool (false), .bool (false), .bool (false), .bool (false), .bool (false), .bool (false), .bool (false), .bool (false), .bool (false), .bool (false), .bool (false), .bool (false), .bool (false), .bool (false), .bool (false), .bool (false), .bool (false), .bool (false), .bool (false), .bool (false), .bool (false), .bool (false), .bool (false), .bool (false), .bool (false), .bool (false), .bool (false), .bool (false), .bool (false), .bool (false), .bool (false), .bool (false), .bool (false), .bool (false), .bool (false), .bool (false), .bool (false), .bool (false), .bool (false), .bool (false), .bool (false), .bool (false), .bool (false), .bool (false), .bool (false), .bool (false), .bool (false), .bool (false), .bool (false), .bool (false), .bool (false), .bool (false), .bool (false), .bool (false), .bool (false), .bool (false), .bool (false), .bool (false), .bool (false), .bool (false), .bool (false), .bool (false), .bool (false), .bool (false), .bool (false), .bool (false), .bool (false), .bool (false), .bool (false), .bool (false), .bool (false), .bool (false), .bool (false), .bool (false), .bool (false), .bool (false), .bool (false), .bool (false), .bool (false), .bool (false), .bool (false), .bool (false), .bool (false), .bool (false), .bool (false), .bool (false), .bool (false), .bool (false), .bool (false), .bool (false), .bool (false), .bool (false), .bool (false), .bool (false), .bool (false), .bool (false), .bool (false), .bool (false), .bool (false), .bool (false), .bool (false), .bool (false), .bool (false), .bool (false), .bool (false), .bool (false), .bool (false), .bool (false), .bool (false), .bool (false), .bool (false), .bool (false), .bool (false), .bool (false), .bool (false), .bool (false), .bool (false), .bool (false), .bool (false), .bool (false), .bool (false), .bool (false), .bool (false), .bool (false), .bool (false), .bool (false), .bool (false), .bool (false), .bool (false), .bool (false), .bool (false), .bool (false), .bool (false), .bool (false), .bool (false), .bool (false), .bool (false), .bool (false), .bool (false), .bool (false), .bool (false), .bool (false), .bool (false), .bool (false), .bool (false), .bool (false), .bool (false), .bool (false), .bool (false), .bool (false), .bool (false), .bool (false), .bool (false), .bool (false), .bool (false), .bool (false), .bool (false), .bool (false), .bool (false), .bool (false), .bool (false), .bool (false), .bool (false), .bool (false), .bool (false), .bool (false), .bool (false), .bool (false), .bool (false), .bool (false), .bool (false), .bool (false), .bool (false), .bool (false), .bool (false), .bool (false), .bool (false), .bool (false), .bool (false), .bool (false), .bool (false), .bool (false), .bool (false), .bool (false), .bool (false), .bool (false), .bool (false), .bool (false), .bool (false), .bool (false), .bool (false), .bool (false), .bool (false), .bool (false), .bool (false), .bool (false), .bool (false), .bool (false), .bool (false), .bool (false), .bool (false), .bool (false), .bool (false), .bool (false), .bool (false), .bool (false), .bool (false), .bool (false), .bool (false), .bool (false), .bool (false), .bool (false), .bool (false), .bool (false), .bool (false), .bool (false), .bool (false), .bool (false), .bool (false), .bool (false), .bool (false), .bool (false), .bool (false), .bool (false), .bool (false), .bool (false), .bool (false), .bool (false), .bool (false)])) := ⟨by kernel_rfl, by kernel_rfl⟩

theorem c_ascii_part (c : UInt8)  : Con Tryz.prog 85 #[byte (c)] [] (fun _ : Unit => .bool (tokB c)) (fun _ => []) := by
 refine con_of_J (args := [byte (c)]) (n := 42) Tryz.func85 rfl (Nat.le_of_ble_eq_true rfl) rfl (fun w0 I0 m0 => ?_)
 refine jc_seq (jc_region (jo_pure rfl (pr_assign rfl) (jo_nil (jq_then (jc_seq (jc_seq (jc_region (jo_pure rfl (pr_move rfl) (jo_nil (jq_then (jc_block (jc_seq (jc_seq (jc_region (jo_pure rfl (pr_beql (n := 33) rfl rfl) ?_)))))))))))))))
 refine jo_pure rfl (pr_assign rfl) (jo_nil (jq_then ?_))
 refine jc_cond rfl (fun h1b => ?_) (fun h1b => ?_)
 ·have h1 := of_decide_eq_true h1b
  refine jc_skip (jq_then (jc_true rfl (h1b) ?_))
  refine jc_seq (jc_region (jo_pure rfl (pr_assign rfl) (jo_nil (jq_then (jc_ret (jq_in_ret ?_))))))
  refine jq_then_ret ?_
  exact jq_ret1 rfl () rfl (show (.bool (tokB c) : Value) = (.bool (true)) from congrArg Value.bool (by simp only [tokB, signs, List.any_cons, List.any_nil, eq_comm (b := c)]; simp [*])) (fun _ h => h)
 ·have h1 := of_decide_eq_false h1b
  refine jc_seq (jc_region (jo_pure rfl (pr_beql (n := 35) rfl rfl) ?_))
  refine jo_pure rfl (pr_assign rfl) (jo_nil (jq_then ?_))
  refine jc_cond rfl (fun h2b => ?_) (fun h2b => ?_)
  ·have h2 := of_decide_eq_true h2b
   refine jc_skip (jq_then (jc_true rfl (h2b) ?_))
   refine jc_seq (jc_region (jo_pure rfl (pr_assign rfl) (jo_nil (jq_then (jc_ret (jq_in_ret ?_))))))
   refine jq_then_ret ?_
   exact jq_ret1 rfl () rfl (show (.bool (tokB c) : Value) = (.bool (true)) from congrArg Value.bool (by simp only [tokB, signs, List.any_cons, List.any_nil, eq_comm (b := c)]; simp [*])) (fun _ h => h)
  ·have h2 := of_decide_eq_false h2b
   refine jc_seq (jc_region (jo_pure rfl (pr_beql (n := 36) rfl rfl) ?_))
   refine jo_pure rfl (pr_assign rfl) (jo_nil (jq_then ?_))
   refine jc_cond rfl (fun h3b => ?_) (fun h3b => ?_)
   ·have h3 := of_decide_eq_true h3b
    refine jc_skip (jq_then (jc_true rfl (h3b) ?_))
    refine jc_seq (jc_region (jo_pure rfl (pr_assign rfl) (jo_nil (jq_then (jc_ret (jq_in_ret ?_))))))
    refine jq_then_ret ?_
    exact jq_ret1 rfl () rfl (show (.bool (tokB c) : Value) = (.bool (true)) from congrArg Value.bool (by simp only [tokB, signs, List.any_cons, List.any_nil, eq_comm (b := c)]; simp [*])) (fun _ h => h)
   ·have h3 := of_decide_eq_false h3b
    refine jc_seq (jc_region (jo_pure rfl (pr_beql (n := 37) rfl rfl) ?_))
    refine jo_pure rfl (pr_assign rfl) (jo_nil (jq_then ?_))
    refine jc_cond rfl (fun h4b => ?_) (fun h4b => ?_)
    ·have h4 := of_decide_eq_true h4b
     refine jc_skip (jq_then (jc_true rfl (h4b) ?_))
     refine jc_seq (jc_region (jo_pure rfl (pr_assign rfl) (jo_nil (jq_then (jc_ret (jq_in_ret ?_))))))
     refine jq_then_ret ?_
     exact jq_ret1 rfl () rfl (show (.bool (tokB c) : Value) = (.bool (true)) from congrArg Value.bool (by simp only [tokB, signs, List.any_cons, List.any_nil, eq_comm (b := c)]; simp [*])) (fun _ h => h)
    ·have h4 := of_decide_eq_false h4b
     refine jc_seq (jc_region (jo_pure rfl (pr_beql (n := 38) rfl rfl) ?_))
     refine jo_pure rfl (pr_assign rfl) (jo_nil (jq_then ?_))
     refine jc_cond rfl (fun h5b => ?_) (fun h5b => ?_)
     ·have h5 := of_decide_eq_true h5b
      refine jc_skip (jq_then (jc_true rfl (h5b) ?_))
      refine jc_seq (jc_region (jo_pure rfl (pr_assign rfl) (jo_nil (jq_then (jc_ret (jq_in_ret ?_))))))
      refine jq_then_ret ?_
      exact jq_ret1 rfl () rfl (show (.bool (tokB c) : Value) = (.bool (true)) from congrArg Value.bool (by simp only [tokB, signs, List.any_cons, List.any_nil, eq_comm (b := c)]; simp [*])) (fun _ h => h)
     ·have h5 := of_decide_eq_false h5b
      refine jc_seq (jc_region (jo_pure rfl (pr_beql (n := 39) rfl rfl) ?_))
      refine jo_pure rfl (pr_assign rfl) (jo_nil (jq_then ?_))
      refine jc_cond rfl (fun h6b => ?_) (fun h6b => ?_)
      ·have h6 := of_decide_eq_true h6b
       refine jc_skip (jq_then (jc_true rfl (h6b) ?_))
       refine jc_seq (jc_region (jo_pure rfl (pr_assign rfl) (jo_nil (jq_then (jc_ret (jq_in_ret ?_))))))
       refine jq_then_ret ?_
       exact jq_ret1 rfl () rfl (show (.bool (tokB c) : Value) = (.bool (true)) from congrArg Value.bool (by simp only [tokB, signs, List.any_cons, List.any_nil, eq_comm (b := c)]; simp [*])) (fun _ h => h)
      ·have h6 := of_decide_eq_false h6b
       refine jc_seq (jc_region (jo_pure rfl (pr_beql (n := 42) rfl rfl) ?_))
       refine jo_pure rfl (pr_assign rfl) (jo_nil (jq_then ?_))
       refine jc_cond rfl (fun h7b => ?_) (fun h7b => ?_)
       ·have h7 := of_decide_eq_true h7b
        refine jc_skip (jq_then (jc_true rfl (h7b) ?_))
        refine jc_seq (jc_region (jo_pure rfl (pr_assign rfl) (jo_nil (jq_then (jc_ret (jq_in_ret ?_))))))
        refine jq_then_ret ?_
        exact jq_ret1 rfl () rfl (show (.bool (tokB c) : Value) = (.bool (true)) from congrArg Value.bool (by simp only [tokB, signs, List.any_cons, List.any_nil, eq_comm (b := c)]; simp [*])) (fun _ h => h)
       ·have h7 := of_decide_eq_false h7b
        refine jc_seq (jc_region (jo_pure rfl (pr_beql (n := 43) rfl rfl) ?_))
        refine jo_pure rfl (pr_assign rfl) (jo_nil (jq_then ?_))
        refine jc_cond rfl (fun h8b => ?_) (fun h8b => ?_)
        ·have h8 := of_decide_eq_true h8b
         refine jc_skip (jq_then (jc_true rfl (h8b) ?_))
         refine jc_seq (jc_region (jo_pure rfl (pr_assign rfl) (jo_nil (jq_then (jc_ret (jq_in_ret ?_))))))
         refine jq_then_ret ?_
         exact jq_ret1 rfl () rfl (show (.bool (tokB c) : Value) = (.bool (true)) from congrArg Value.bool (by simp only [tokB, signs, List.any_cons, List.any_nil, eq_comm (b := c)]; simp [*])) (fun _ h => h)
        ·have h8 := of_decide_eq_false h8b
         refine jc_seq (jc_region (jo_pure rfl (pr_beql (n := 45) rfl rfl) ?_))
         refine jo_pure rfl (pr_assign rfl) (jo_nil (jq_then ?_))
         refine jc_cond rfl (fun h9b => ?_) (fun h9b => ?_)
         ·have h9 := of_decide_eq_true h9b
          refine jc_skip (jq_then (jc_true rfl (h9b) ?_))
          refine jc_seq (jc_region (jo_pure rfl (pr_assign rfl) (jo_nil (jq_then (jc_ret (jq_in_ret ?_))))))
          refine jq_then_ret ?_
          exact jq_ret1 rfl () rfl (show (.bool (tokB c) : Value) = (.bool (true)) from congrArg Value.bool (by simp only [tokB, signs, List.any_cons, List.any_nil, eq_comm (b := c)]; simp [*])) (fun _ h => h)
         ·have h9 := of_decide_eq_false h9b
          refine jc_seq (jc_region (jo_pure rfl (pr_beql (n := 46) rfl rfl) ?_))
          refine jo_pure rfl (pr_assign rfl) (jo_nil (jq_then ?_))
          refine jc_cond rfl (fun h10b => ?_) (fun h10b => ?_)
          ·have h10 := of_decide_eq_true h10b
           refine jc_skip (jq_then (jc_true rfl (h10b) ?_))
           refine jc_seq (jc_region (jo_pure rfl (pr_assign rfl) (jo_nil (jq_then (jc_ret (jq_in_ret ?_))))))
           refine jq_then_ret ?_
           exact jq_ret1 rfl () rfl (show (.bool (tokB c) : Value) = (.bool (true)) from congrArg Value.bool (by simp only [tokB, signs, List.any_cons, List.any_nil, eq_comm (b := c)]; simp [*])) (fun _ h => h)
          ·have h10 := of_decide_eq_false h10b
           refine jc_seq (jc_region (jo_pure rfl (pr_beql (n := 94) rfl rfl) ?_))
           refine jo_pure rfl (pr_assign rfl) (jo_nil (jq_then ?_))
           refine jc_cond rfl (fun h11b => ?_) (fun h11b => ?_)
           ·have h11 := of_decide_eq_true h11b
            refine jc_skip (jq_then (jc_true rfl (h11b) ?_))
            refine jc_seq (jc_region (jo_pure rfl (pr_assign rfl) (jo_nil (jq_then (jc_ret (jq_in_ret ?_))))))
            refine jq_then_ret ?_
            exact jq_ret1 rfl () rfl (show (.bool (tokB c) : Value) = (.bool (true)) from congrArg Value.bool (by simp only [tokB, signs, List.any_cons, List.any_nil, eq_comm (b := c)]; simp [*])) (fun _ h => h)
           ·have h11 := of_decide_eq_false h11b
            refine jc_seq (jc_region (jo_pure rfl (pr_beql (n := 95) rfl rfl) ?_))
            refine jo_pure rfl (pr_assign rfl) (jo_nil (jq_then ?_))
            refine jc_cond rfl (fun h12b => ?_) (fun h12b => ?_)
            ·have h12 := of_decide_eq_true h12b
             refine jc_skip (jq_then (jc_true rfl (h12b) ?_))
             refine jc_seq (jc_region (jo_pure rfl (pr_assign rfl) (jo_nil (jq_then (jc_ret (jq_in_ret ?_))))))
             refine jq_then_ret ?_
             exact jq_ret1 rfl () rfl (show (.bool (tokB c) : Value) = (.bool (true)) from congrArg Value.bool (by simp only [tokB, signs, List.any_cons, List.any_nil, eq_comm (b := c)]; simp [*])) (fun _ h => h)
            ·have h12 := of_decide_eq_false h12b
             refine jc_seq (jc_region (jo_pure rfl (pr_beql (n := 96) rfl rfl) ?_))
             refine jo_pure rfl (pr_assign rfl) (jo_nil (jq_then ?_))
             refine jc_cond rfl (fun h13b => ?_) (fun h13b => ?_)
             ·have h13 := of_decide_eq_true h13b
              refine jc_skip (jq_then (jc_true rfl (h13b) ?_))
              refine jc_seq (jc_region (jo_pure rfl (pr_assign rfl) (jo_nil (jq_then (jc_ret (jq_in_ret ?_))))))
              refine jq_then_ret ?_
              exact jq_ret1 rfl () rfl (show (.bool (tokB c) : Value) = (.bool (true)) from congrArg Value.bool (by simp only [tokB, signs, List.any_cons, List.any_nil, eq_comm (b := c)]; simp [*])) (fun _ h => h)
             ·have h13 := of_decide_eq_false h13b
              refine jc_seq (jc_region (jo_pure rfl (pr_beql (n := 124) rfl rfl) ?_))
              refine jo_pure rfl (pr_assign rfl) (jo_nil (jq_then ?_))
              refine jc_cond rfl (fun h14b => ?_) (fun h14b => ?_)
              ·have h14 := of_decide_eq_true h14b
               refine jc_skip (jq_then (jc_true rfl (h14b) ?_))
               refine jc_seq (jc_region (jo_pure rfl (pr_assign rfl) (jo_nil (jq_then (jc_ret (jq_in_ret ?_))))))
               refine jq_then_ret ?_
               exact jq_ret1 rfl () rfl (show (.bool (tokB c) : Value) = (.bool (true)) from congrArg Value.bool (by simp only [tokB, signs, List.any_cons, List.any_nil, eq_comm (b := c)]; simp [*])) (fun _ h => h)
              ·have h14 := of_decide_eq_false h14b
               refine jc_region (jo_pure rfl (pr_beql (n := 126) rfl rfl) ?_)
               refine jo_pure rfl (pr_assign rfl) (jo_nil (jq_then ?_))
               refine jc_cond rfl (fun h15b => ?_) (fun h15b => ?_)
               ·have h15 := of_decide_eq_true h15b
                refine jc_seq (jc_region (jo_pure rfl (pr_assign rfl) (jo_nil (jq_then (jc_ret (jq_in_ret ?_))))))
                refine jq_then_ret ?_
                exact jq_ret1 rfl () rfl (show (.bool (tokB c) : Value) = (.bool (true)) from congrArg Value.bool (by simp only [tokB, signs, List.any_cons, List.any_nil, eq_comm (b := c)]; simp [*])) (fun _ h => h)
               ·have h15 := of_decide_eq_false h15b
                refine jc_skip (jq_in_normal (jq_then (jc_seq (jc_region (jo_pure rfl (pr_move rfl) (jo_pure rfl (pr_bgeq (n := 48) rfl rfl) ?_))))))
                refine jo_pure rfl (pr_move rfl) (jo_gpure (j := 2) (want := true) rfl rfl rfl rfl (fun hg=>pr_move rfl) (jo_gpure (j := 2) (want := true) rfl rfl rfl rfl (fun hg=>pr_bleq (n := 57) (evg rfl hg) rfl) ?_))
                refine jo_pure rfl (pr_pick_and rfl rfl rfl) ?_
                refine jo_pure rfl (pr_move rfl) (jo_gpure (j := 6) (want := false) rfl rfl rfl rfl (fun hg=>pr_move rfl) (jo_gpure (j := 6) (want := false) rfl rfl rfl rfl (fun hg=>pr_bgeq (n := 65) (evg rfl hg) rfl) ?_))
                refine jo_gpure (j := 6) (want := false) rfl rfl rfl rfl (fun hg=>pr_move (evg rfl hg)) ?_
                refine jo_gpure2 (j := 9) (want := true) rfl rfl rfl rfl (fun hg=>pr_move rfl) ?_
                refine jo_gpure2 (j := 9) (want := true) rfl rfl rfl rfl (fun hg=>pr_bleq (n := 90) (evg rfl hg) rfl) ?_
                refine jo_gpure (j := 6) (want := false) rfl rfl rfl rfl (fun hg=>pr_pick_and (evg rfl hg) (evg2 rfl hg) rfl) ?_
                refine jo_pure rfl (pr_pick_or rfl rfl rfl) ?_
                refine jo_pure rfl (pr_move rfl) (jo_gpure (j := 14) (want := false) rfl rfl rfl rfl (fun hg=>pr_move rfl) (jo_gpure (j := 14) (want := false) rfl rfl rfl rfl (fun hg=>pr_bgeq (n := 97) (evg rfl hg) rfl) ?_))
                refine jo_gpure (j := 14) (want := false) rfl rfl rfl rfl (fun hg=>pr_move (evg rfl hg)) ?_
                refine jo_gpure2 (j := 17) (want := true) rfl rfl rfl rfl (fun hg=>pr_move rfl) ?_
                refine jo_gpure2 (j := 17) (want := true) rfl rfl rfl rfl (fun hg=>pr_bleq (n := 122) (evg rfl hg) rfl) ?_
                refine jo_gpure (j := 14) (want := false) rfl rfl rfl rfl (fun hg=>pr_pick_and (evg rfl hg) (evg2 rfl hg) rfl) ?_
                refine jo_pure rfl (pr_pick_or rfl rfl rfl) ?_
                refine jo_pure rfl (pr_assign rfl) (jo_nil (jq_then (jc_ret ?_)))
                exact jq_ret1 rfl () rfl (show (.bool (tokB c) : Value) = (.bool ((((decide ((48 : UInt8) ≤ c) && decide ((c : UInt8) ≤ 57)) || (decide ((65 : UInt8) ≤ c) && decide ((c : UInt8) ≤ 90))) || (decide ((97 : UInt8) ≤ c) && decide ((c : UInt8) ≤ 122))))) from congrArg Value.bool (by simp only [tokB, signs, List.any_cons, List.any_nil, eq_comm (b := c)]; simp [*])) (fun _ h => h)

theorem c_ascii_Token (s : Str) (hs : s.length ≤ 1000000) : Con Tryz.prog 68 #[str (s)] [] (fun _ : Unit => .bool (token s)) (fun _ => []) := by
 refine con_of_J (args := [str (s)]) (n := 17) Tryz.func68 rfl (Nat.le_of_ble_eq_true rfl) rfl (fun w0 I0 m0 => ?_)
 refine jc_seq (jc_region (jo_pure rfl (pr_assign rfl) (jo_nil (jq_then (jc_seq (jc_seq (jc_region (jo_pure rfl (pr_move rfl) (jo_pure rfl (pr_slen rfl Tryz.underlying9) ?_)))))))))
 refine jo_pure rfl (pr_move rfl) (jo_nil (jq_then (jc_block ?_)))
 refine jc_loop (fun (i : Nat) => [(0, str (s)), (4, str (s)), (5, .int .i64 ((s.length : Nat) : Int)), (6, .int .i64 ((i : Nat) : Int))]) (fun (i : Nat) => []) (fun (i : Nat) => i ≤ s.length ∧ (s.take i).all tokB = true) (fun (i : Nat) => s.length - i) 0 (⟨Nat.zero_le _, rfl⟩) ⟨rfl, rfl, rfl, rfl, trivial⟩ (fun _ h => h) (fun i hinv => ?_)
 refine jc_seq (jc_region (jo_pure rfl (pr_lssN (m := i) (n := s.length) rfl rfl) ?_))
 refine jo_nil (jq_then (jc_seq ?_))
 refine jc_cond rfl (fun h1b => ?_) (fun h1b => ?_)
 ·have h1 := of_decide_eq_true h1b
  refine jc_skip (jq_then (jc_seq (jc_block (jc_seq (jc_region (jo_pure rfl (pr_move rfl) (jo_pure rfl (pr_assign rfl) (jo_nil (jq_then (jc_seq (jc_region (jo_pure rfl (pr_move rfl) (jo_pure rfl (pr_move rfl) (jo_pure rfl (pr_sindex (i := i) rfl rfl Tryz.underlying9 (by omega)) ?_))))))))))))))
  refine jo_callp cal_85 (c_ascii_part (s.getD i 0)) ⟨rfl, trivial⟩ rfl (trivial) (fun _ => ?_)
  refine jo_pure rfl (pr_not rfl) ?_
  refine jo_nil (jq_then ?_)
  refine jc_cond rfl (fun h2b => ?_) (fun h2b => ?_)
  ·have h2 := (fun q => id (bt_not q)) h2b
   refine jc_seq (jc_region (jo_pure rfl (pr_assign rfl) (jo_nil (jq_then (jc_ret (jq_in_ret ?_))))))
   refine jq_then_ret (jq_then_ret (jq_in_ret ?_))
   refine jq_then_ret ?_
   exact jq_ret1 rfl () rfl (show (.bool (token s) : Value) = (.bool (false)) from congrArg Value.bool (by rw [token, all_miss (dd := 0) h1 (by simpa using h2)]; rfl)) (fun _ h => h)
  ·have h2 := (fun q => id (bf_not q)) h2b
   refine jc_skip (jq_in_normal (jq_then (jc_region (jo_pure rfl (pr_addN (m := i) (n := 1) rfl rfl (by omega)) ?_))))
   refine jo_pure rfl (pr_move rfl) (jo_nil ?_)
   refine jq_round' (i + 1) (⟨by omega, all_step (dd := 0) h1 hinv.2 (by simpa using h2)⟩) (by omega) ⟨rfl, rfl, rfl, rfl, trivial⟩ (fun _ h => h)
 ·have h1 := of_decide_eq_false h1b
  refine jc_exit ?_
  refine jq_then_exit ?_
  refine jq_then_exit ?_
  refine jq_in_hit ?_
  refine jq_then (jc_seq (jc_region (jo_pure rfl (pr_move rfl) (jo_pure rfl (pr_sneq rfl rfl) (jo_pure rfl (pr_assign rfl) (jo_nil (jq_then (jc_ret ?_))))))))
  exact jq_ret1 rfl () rfl (show (.bool (token s) : Value) = (.bool ((!decide ((s : Str) = [])))) from congrArg Value.bool (by rw [token, all_end (by omega) hinv.2]; rfl)) (fun _ h => h)

theorem c_ascii_Text (s : Str) (hs : s.length ≤ 1000000) : Con Tryz.prog 161 #[str (s)] [] (fun _ : Unit => .bool (text s)) (fun _ => []) := by
 refine con_of_J (args := [str (s)]) (n := 26) Tryz.func161 rfl (Nat.le_of_ble_eq_true rfl) rfl (fun w0 I0 m0 => ?_)
 refine jc_seq (jc_region (jo_pure rfl (pr_assign rfl) (jo_nil (jq_then (jc_seq (jc_seq (jc_region (jo_pure rfl (pr_move rfl) (jo_pure rfl (pr_slen rfl Tryz.underlying9) ?_)))))))))
 refine jo_pure rfl (pr_move rfl) (jo_nil (jq_then (jc_block ?_)))
 refine jc_loop (fun (i : Nat) => [(0, str (s)), (4, str (s)), (5, .int .i64 ((s.length : Nat) : Int)), (6, .int .i64 ((i : Nat) : Int))]) (fun (i : Nat) => []) (fun (i : Nat) => i ≤ s.length ∧ (s.take i).all textB = true) (fun (i : Nat) => s.length - i) 0 (⟨Nat.zero_le _, rfl⟩) ⟨rfl, rfl, rfl, rfl, trivial⟩ (fun _ h => h) (fun i hinv => ?_)
 refine jc_seq (jc_region (jo_pure rfl (pr_lssN (m := i) (n := s.length) rfl rfl) ?_))
 refine jo_nil (jq_then (jc_seq ?_))
 refine jc_cond rfl (fun h1b => ?_) (fun h1b => ?_)
 ·have h1 := of_decide_eq_true h1b
  refine jc_skip (jq_then (jc_seq (jc_block (jc_seq (jc_region (jo_pure rfl (pr_move rfl) (jo_pure rfl (pr_assign rfl) (jo_nil (jq_then (jc_seq (jc_region (jo_pure rfl (pr_move rfl) (jo_pure rfl (pr_move rfl) (jo_pure rfl (pr_sindex (i := i) rfl rfl Tryz.underlying9 (by omega)) ?_))))))))))))))
  refine jo_pure rfl (pr_blss (n := 32) rfl rfl) ?_
  refine jo_pure rfl (pr_move rfl) (jo_gpure (j := 4) (want := true) rfl rfl rfl rfl (fun hg=>pr_move rfl) (jo_gpure (j := 4) (want := true) rfl rfl rfl rfl (fun hg=>pr_move rfl) (jo_gpure (j := 4) (want := true) rfl rfl rfl rfl (fun hg=>pr_sindex (i := i) (evg rfl hg) (evg rfl hg) Tryz.underlying9 (by omega)) ?_)))
  refine jo_gpure (j := 4) (want := true) rfl rfl rfl rfl (fun hg=>pr_bneq (n := 9) (evg rfl hg) rfl) ?_
  refine jo_pure rfl (pr_pick_and rfl rfl rfl) ?_
  refine jo_pure rfl (pr_move rfl) (jo_gpure (j := 10) (want := false) rfl rfl rfl rfl (fun hg=>pr_move rfl) (jo_gpure (j := 10) (want := false) rfl rfl rfl rfl (fun hg=>pr_move rfl) (jo_gpure (j := 10) (want := false) rfl rfl rfl rfl (fun hg=>pr_sindex (i := i) (evg rfl hg) (evg rfl hg) Tryz.underlying9 (by omega)) ?_)))
  refine jo_gpure (j := 10) (want := false) rfl rfl rfl rfl (fun hg=>pr_beql (n := 127) (evg rfl hg) rfl) ?_
  refine jo_pure rfl (pr_pick_or rfl rfl rfl) ?_
  refine jo_nil (jq_then ?_)
  refine jc_cond rfl (fun h2b => ?_) (fun h2b => ?_)
  ·have h2 := (fun q => Or.imp (fun q => And.imp of_decide_eq_true (fun q => of_decide_eq_false (bt_not q)) (bt_and q)) of_decide_eq_true (bt_or q)) h2b
   refine jc_seq (jc_region (jo_pure rfl (pr_assign rfl) (jo_nil (jq_then (jc_ret (jq_in_ret ?_))))))
   refine jq_then_ret (jq_then_ret (jq_in_ret ?_))
   refine jq_then_ret ?_
   exact jq_ret1 rfl () rfl (show (.bool (text s) : Value) = (.bool (false)) from congrArg Value.bool (by rw [text, all_miss (dd := 0) h1 (by rw [textB_alt] at h2b; simpa using h2b)])) (fun _ h => h)
  ·have h2 := (fun q => And.imp (fun q => Or.imp of_decide_eq_false (fun q => of_decide_eq_true (bf_not q)) (bf_and q)) of_decide_eq_false (bf_or q)) h2b
   refine jc_skip (jq_in_normal (jq_then (jc_region (jo_pure rfl (pr_addN (m := i) (n := 1) rfl rfl (by omega)) ?_))))
   refine jo_pure rfl (pr_move rfl) (jo_nil ?_)
   refine jq_round' (i + 1) (⟨by omega, all_step (dd := 0) h1 hinv.2 (by rw [textB_alt] at h2b; simpa using h2b)⟩) (by omega) ⟨rfl, rfl, rfl, rfl, trivial⟩ (fun _ h => h)
 ·have h1 := of_decide_eq_false h1b
  refine jc_exit ?_
  refine jq_then_exit ?_
  refine jq_then_exit ?_
  refine jq_in_hit ?_
  refine jq_then (jc_seq (jc_region (jo_pure rfl (pr_assign rfl) (jo_nil (jq_then (jc_ret ?_))))))
  exact jq_ret1 rfl () rfl (show (.bool (text s) : Value) = (.bool (true)) from congrArg Value.bool (by rw [text, all_end (by omega) hinv.2])) (fun _ h => h)

theorem c_asciiSet_contains (set : List (Bool)) (setg : Nat) (c : UInt8) (hl : set.length = 256) : Con Tryz.prog 166 #[.pointer (some ⟨setg, 0, none⟩), byte (c)] [.ibox setg 161 ((set).flatMap (enc .bool))] (fun _ : Unit => .bool (set.getD c.toNat false)) (fun _ => []) := by
 refine con_of_J (args := [.pointer (some ⟨setg, 0, none⟩), byte (c)]) (n := 10) Tryz.func166 rfl (Nat.le_of_ble_eq_true rfl) rfl (fun w0 I0 m0 => ?_)
 refine jc_seq (jc_region (jo_pure rfl (pr_assign rfl) (jo_nil (jq_then (jc_seq (jc_region (jo_pure rfl (pr_move rfl) (jo_pure rfl (pr_move rfl) (jo_pure rfl (pr_nilCheck rfl) (jo_pure rfl (pr_idx_arr (i := c.toNat) (c.toNat) rfl rfl Tryz.underlying161 ty_4 (by have := c.toNat_lt; omega) (by first | rfl | (simp only [Nat.zero_add, Nat.mul_one]))) ?_))))))))))
 refine jo_pure rfl (pr_load_iarr (i := c.toNat) (.bool (set.getD c.toNat false)) rfl ty_4 rfl (.head _) (by have := c.toNat_lt; omega) (by first | rfl | exact Nat.mul_one _) rfl) ?_
 refine jo_pure rfl (pr_assign rfl) (jo_nil (jq_then (jc_ret (j_drop ?_))))
 exact jq_ret1 rfl () rfl (show (.bool (set.getD c.toNat false) : Value) = (.bool (set.getD c.toNat false)) from rfl) (fun _ h => h)

theorem c_strings_makeASCIISet (s : Str) (hs : s.length ≤ 1000000) (hc : s.all (fun c => decide (c < 128)) = true) : Con Tryz.prog 156 #[str (s)] [] (fun _ : Unit => .tuple #[.agg ((setOf s).flatMap (enc .bool)).toArray, .bool (true)]) (fun _ => []) := by
 refine con_of_J (args := [str (s)]) (n := 21) Tryz.func156 rfl (Nat.le_of_ble_eq_true rfl) rfl (fun w0 I0 m0 => ?_)
 refine jc_seq (jc_region ?_)
 refine jo_alloc_arr (t := .bool) ty_161 (List.replicate 256 false) (by kernel_rfl) rfl (by rw [List.length_replicate]; simp [maxLen]) rfl (fun b1 => ?_)
 refine jo_pure rfl (pr_assign rfl) (jo_nil (jq_then (jc_seq (jc_seq (jc_region (jo_pure rfl (pr_assign rfl) (jo_nil (jq_then (jc_block ?_)))))))))
 refine jc_loop (fun (i : Nat) => [(0, str (s)), (2, .pointer (some ⟨b1, 0, none⟩)), (4, .int .i64 ((i : Nat) : Int))]) (fun (i : Nat) => [.rowg b1 ((List.replicate 256 false).length) 161 .bool (setOf (s.take i))]) (fun (i : Nat) => i ≤ s.length) (fun (i : Nat) => s.length - i) 0 (Nat.zero_le _) ⟨rfl, rfl, rfl, trivial⟩ (fun _ h => h) (fun i hinv => ?_)
 refine jc_seq (jc_seq (jc_region (jo_pure rfl (pr_move rfl) (jo_pure rfl (pr_move rfl) (jo_pure rfl (pr_slen rfl Tryz.underlying9) ?_)))))
 refine jo_pure rfl (pr_lssN (m := i) (n := s.length) rfl rfl) ?_
 refine jo_nil (jq_then ?_)
 refine jc_cond rfl (fun h1b => ?_) (fun h1b => ?_)
 ·have h1 := of_decide_eq_true h1b
  refine jc_skip (jq_then (jc_seq (jc_block (jc_seq (jc_region (jo_pure rfl (pr_move rfl) (jo_pure rfl (pr_move rfl) (jo_pure rfl (pr_sindex (i := i) rfl rfl Tryz.underlying9 (by omega)) ?_))))))))
  refine jo_pure rfl (pr_assign rfl) (jo_nil (jq_then (jc_seq (jc_seq (jc_region (jo_pure rfl (pr_move rfl) (jo_pure rfl (pr_bgeq (n := 128) rfl rfl) ?_)))))))
  refine jo_nil (jq_then ?_)
  refine jc_cond rfl (fun h2b => ?_) (fun h2b => ?_)
  ·have h2 := of_decide_eq_true h2b
   exact absurd h2 (by rw [getD_get h1]; simpa using List.all_eq_true.1 hc _ (List.getElem_mem h1))
  ·have h2 := of_decide_eq_false h2b
   refine jc_skip (jq_then (jc_region (jo_pure rfl (pr_move rfl) (jo_pure rfl (pr_idx_arr (i := (s.getD i 0).toNat) ((s.getD i 0).toNat) rfl rfl Tryz.underlying161 ty_4 (by have := (s.getD i 0).toNat_lt; omega) (by first | rfl | (simp only [Nat.zero_add, Nat.mul_one]))) ?_))))
   refine jo_store_g (i := (s.getD i 0).toNat) (true) rfl rfl ty_4 rfl (by rw [setOf_len]; have := (s.getD i 0).toNat_lt; omega) (by first | rfl | exact Nat.mul_one _) rfl ?_
   refine jo_nil (jq_in_normal (jq_then (jc_region (jo_pure rfl (pr_move rfl) (jo_pure rfl (pr_addN (m := i) (n := 1) rfl rfl (by omega)) ?_)))))
   refine jo_pure rfl (pr_assign rfl) (jo_nil ?_)
   refine jq_round' (i + 1) (by omega) (by omega) ⟨rfl, rfl, rfl, trivial⟩ (fun _ h => by rw [← setOf_step (by omega)]; exact h)
 ·have h1 := of_decide_eq_false h1b
  refine jc_exit ?_
  refine jq_then_exit ?_
  refine jq_then_exit ?_
  refine jq_in_hit ?_
  refine jq_then (jc_seq (jc_region (jo_pure rfl (pr_load_arr rfl ty_161 rfl (.head _) (by first | rfl | exact (setOf_len _).trans List.length_replicate.symm) (by first | (rw [setOf_len]; rfl) | (rw [List.length_replicate]; rfl))) ?_)))
  refine jo_store_arr (ys := setOf (s.take i)) rfl rfl ty_161 rfl (by first | rfl | exact (setOf_len _).trans List.length_replicate.symm) (by first | rfl | exact (setOf_len _).trans List.length_replicate.symm) (by first | (rw [setOf_len]; rfl) | (rw [List.length_replicate]; rfl)) ?_
  refine jo_pure rfl (pr_assign rfl) (jo_nil (jq_then (jc_ret ?_)))
  exact jq_rets (rs := [.cell 2 161, .tmp 3]) (vs := [.agg ((setOf (s.take i)).flatMap (enc .bool)).toArray, .bool (true)]) rfl () ⟨resV_arr (t := .bool) rfl ty_161 rfl (.head _) (by first | rfl | exact (setOf_len _).trans List.length_replicate.symm) (by first | (rw [setOf_len]; rfl) | (rw [List.length_replicate]; rfl)), resV_tmp rfl, trivial⟩ rfl (show (.tuple #[.agg ((setOf s).flatMap (enc .bool)).toArray, .bool (true)] : Value) = (.tuple #[.agg ((setOf (s.take i)).flatMap (enc .bool)).toArray, .bool (true)]) from by rw [List.take_of_length_le (by omega)]) (fun w h => (fun h => h) (Mem.front (As := []) h))

theorem c_strings_trimLeftASCII (s : Str) (set : List (Bool)) (setg : Nat) (hs : s.length ≤ 1000000) (hl : set.length = 256) : Con Tryz.prog 157 #[str (s), .pointer (some ⟨setg, 0, none⟩)] [.ibox setg 161 ((set).flatMap (enc .bool))] (fun _ : Unit => str (trimL (fun x : UInt8 => set.getD x.toNat false) s)) (fun _ => []) := by
 refine con_of_J (args := [str (s), .pointer (some ⟨setg, 0, none⟩)]) (n := 16) Tryz.func157 rfl (Nat.le_of_ble_eq_true rfl) rfl (fun w0 I0 m0 => ?_)
 refine jc_seq (jc_region (jo_pure rfl (pr_assign rfl) (jo_nil (jq_then (jc_seq (jc_block ?_))))))
 refine jc_loop (fun (t : Str) => [(0, str (t)), (1, .pointer (some ⟨setg, 0, none⟩)), (4, str ([]))]) (fun (t : Str) => [.ibox setg 161 ((set).flatMap (enc .bool))]) (fun (t : Str) => trimL (fun x : UInt8 => set.getD x.toNat false) t = trimL (fun x : UInt8 => set.getD x.toNat false) s ∧ t.length ≤ s.length) (fun (t : Str) => t.length) s (⟨rfl, Nat.le_refl _⟩) ⟨rfl, rfl, rfl, trivial⟩ (fun _ h => h) (fun t hinv => ?_)
 refine jc_seq (jc_seq (jc_region (jo_pure rfl (pr_move rfl) (jo_pure rfl (pr_slen rfl Tryz.underlying9) ?_))))
 refine jo_pure rfl (pr_gtrN (m := t.length) (n := 0) rfl rfl) ?_
 refine jo_nil (jq_then ?_)
 refine jc_cond rfl (fun h1b => ?_) (fun h1b => ?_)
 ·have h1 := of_decide_eq_true h1b
  refine jc_skip (jq_then (jc_block (jc_seq (jc_seq (jc_region (jo_pure rfl (pr_move rfl) (jo_pure rfl (pr_move rfl) (jo_pure rfl (pr_sindex (i := 0) rfl rfl Tryz.underlying9 (by omega)) ?_))))))))
  refine jo_callp cal_166 (c_asciiSet_contains set setg (t.getD 0 0) (by omega)) ⟨rfl, rfl, trivial⟩ rfl (⟨⟨rfl, .head _⟩, trivial⟩) (fun _ => ?_)
  refine jo_pure rfl (pr_not rfl) ?_
  refine jo_nil (jq_then ?_)
  refine jc_cond rfl (fun h2b => ?_) (fun h2b => ?_)
  ·have h2 := (fun q => id (bt_not q)) h2b
   refine jc_exit ?_
   refine jq_then_exit ?_
   refine jq_in_miss rfl ?_
   refine jq_then_exit ?_
   refine jq_in_hit ?_
   refine jq_then (jc_seq (jc_region (jo_pure rfl (pr_move rfl) (jo_pure rfl (pr_assign rfl) (jo_nil (jq_then (jc_ret (j_drop ?_))))))))
   exact jq_ret1 rfl () rfl (show (str (trimL (fun x : UInt8 => set.getD x.toNat false) s) : Value) = (str (t)) from congrArg str (by rw [← hinv.1, trimL_end (p := (fun x : UInt8 => set.getD x.toNat false)) (s := t) (.inr (by simpa using h2))])) (fun _ h => h)
  ·have h2 := (fun q => id (bf_not q)) h2b
   refine jc_skip (jq_then (jc_region (jo_pure rfl (pr_move rfl) (jo_pure rfl (pr_sslice_lo (i := 1) rfl rfl Tryz.underlying9 (by omega)) ?_))))
   refine jo_pure rfl (pr_assign rfl) (jo_nil (jq_in_normal ?_))
   refine jq_round' (t.drop 1) (⟨(trimL_step h1 (by simpa using h2)).trans hinv.1, by simp; omega⟩) (by simp; omega) ⟨rfl, rfl, rfl, trivial⟩ (fun _ h => h)
 ·have h1 := of_decide_eq_false h1b
  refine jc_exit ?_
  refine jq_then_exit ?_
  refine jq_then_exit ?_
  refine jq_in_hit ?_
  refine jq_then (jc_seq (jc_region (jo_pure rfl (pr_move rfl) (jo_pure rfl (pr_assign rfl) (jo_nil (jq_then (jc_ret (j_drop ?_))))))))
  exact jq_ret1 rfl () rfl (show (str (trimL (fun x : UInt8 => set.getD x.toNat false) s) : Value) = (str (t)) from congrArg str (by rw [← hinv.1, trimL_end (p := (fun x : UInt8 => set.getD x.toNat false)) (s := t) (.inl (by omega))])) (fun _ h => h)

theorem c_strings_trimRightASCII (s : Str) (set : List (Bool)) (setg : Nat) (hs : s.length ≤ 1000000) (hl : set.length = 256) : Con Tryz.prog 158 #[str (s), .pointer (some ⟨setg, 0, none⟩)] [.ibox setg 161 ((set).flatMap (enc .bool))] (fun _ : Unit => str (trimR (fun x : UInt8 => set.getD x.toNat false) s)) (fun _ => []) := by
 refine con_of_J (args := [str (s), .pointer (some ⟨setg, 0, none⟩)]) (n := 22) Tryz.func158 rfl (Nat.le_of_ble_eq_true rfl) rfl (fun w0 I0 m0 => ?_)
 refine jc_seq (jc_region (jo_pure rfl (pr_assign rfl) (jo_nil (jq_then (jc_seq (jc_block ?_))))))
 refine jc_loop (fun (t : Str) => [(0, str (t)), (1, .pointer (some ⟨setg, 0, none⟩)), (4, str ([]))]) (fun (t : Str) => [.ibox setg 161 ((set).flatMap (enc .bool))]) (fun (t : Str) => trimR (fun x : UInt8 => set.getD x.toNat false) t = trimR (fun x : UInt8 => set.getD x.toNat false) s ∧ t.length ≤ s.length) (fun (t : Str) => t.length) s (⟨rfl, Nat.le_refl _⟩) ⟨rfl, rfl, rfl, trivial⟩ (fun _ h => h) (fun t hinv => ?_)
 refine jc_seq (jc_seq (jc_region (jo_pure rfl (pr_move rfl) (jo_pure rfl (pr_slen rfl Tryz.underlying9) ?_))))
 refine jo_pure rfl (pr_gtrN (m := t.length) (n := 0) rfl rfl) ?_
 refine jo_nil (jq_then ?_)
 refine jc_cond rfl (fun h1b => ?_) (fun h1b => ?_)
 ·have h1 := of_decide_eq_true h1b
  refine jc_skip (jq_then (jc_block (jc_seq (jc_seq (jc_region (jo_pure rfl (pr_move rfl) (jo_pure rfl (pr_move rfl) (jo_pure rfl (pr_move rfl) (jo_pure rfl (pr_slen rfl Tryz.underlying9) ?_)))))))))
  refine jo_pure rfl (pr_subN (m := t.length) (n := 1) rfl rfl (by omega) (by omega)) ?_
  refine jo_pure rfl (pr_sindex (i := t.length - 1) rfl rfl Tryz.underlying9 (by omega)) ?_
  refine jo_callp cal_166 (c_asciiSet_contains set setg (t.getD (t.length - 1) 0) (by omega)) ⟨rfl, rfl, trivial⟩ rfl (⟨⟨rfl, .head _⟩, trivial⟩) (fun _ => ?_)
  refine jo_pure rfl (pr_not rfl) ?_
  refine jo_nil (jq_then ?_)
  refine jc_cond rfl (fun h2b => ?_) (fun h2b => ?_)
  ·have h2 := (fun q => id (bt_not q)) h2b
   refine jc_exit ?_
   refine jq_then_exit ?_
   refine jq_in_miss rfl ?_
   refine jq_then_exit ?_
   refine jq_in_hit ?_
   refine jq_then (jc_seq (jc_region (jo_pure rfl (pr_move rfl) (jo_pure rfl (pr_assign rfl) (jo_nil (jq_then (jc_ret (j_drop ?_))))))))
   exact jq_ret1 rfl () rfl (show (str (trimR (fun x : UInt8 => set.getD x.toNat false) s) : Value) = (str (t)) from congrArg str (by rw [← hinv.1, trimR_end (p := (fun x : UInt8 => set.getD x.toNat false)) (s := t) (.inr (by simpa using h2))])) (fun _ h => h)
  ·have h2 := (fun q => id (bf_not q)) h2b
   refine jc_skip (jq_then (jc_region (jo_pure rfl (pr_move rfl) (jo_pure rfl (pr_move rfl) (jo_pure rfl (pr_slen rfl Tryz.underlying9) ?_)))))
   refine jo_pure rfl (pr_subN (m := t.length) (n := 1) rfl rfl (by omega) (by omega)) ?_
   refine jo_pure rfl (pr_sslice_hi (j := t.length - 1) rfl rfl Tryz.underlying9 (by omega)) ?_
   refine jo_pure rfl (pr_assign rfl) (jo_nil (jq_in_normal ?_))
   refine jq_round' (t.take (t.length - 1)) (⟨(trimR_step h1 (by simpa using h2)).trans hinv.1, by simp; omega⟩) (by simp; omega) ⟨rfl, rfl, rfl, trivial⟩ (fun _ h => h)
 ·have h1 := of_decide_eq_false h1b
  refine jc_exit ?_
  refine jq_then_exit ?_
  refine jq_then_exit ?_
  refine jq_in_hit ?_
  refine jq_then (jc_seq (jc_region (jo_pure rfl (pr_move rfl) (jo_pure rfl (pr_assign rfl) (jo_nil (jq_then (jc_ret (j_drop ?_))))))))
  exact jq_ret1 rfl () rfl (show (str (trimR (fun x : UInt8 => set.getD x.toNat false) s) : Value) = (str (t)) from congrArg str (by rw [← hinv.1, trimR_end (p := (fun x : UInt8 => set.getD x.toNat false)) (s := t) (.inl (by omega))])) (fun _ h => h)

theorem c_strings_Trim (s : Str) (cut : Str) (hs : s.length ≤ 1000000) (hcut : cut = [32, 9]) : Con Tryz.prog 151 #[str (s), str (cut)] [] (fun _ : Unit => str (trim s)) (fun _ => []) := by
 refine con_of_J (args := [str (s), str (cut)]) (n := 43) Tryz.func151 rfl (Nat.le_of_ble_eq_true rfl) rfl (fun w0 I0 m0 => ?_)
 refine jc_seq (jc_region (jo_pure rfl (pr_assign rfl) (jo_nil (jq_then (jc_seq (jc_seq (jc_region (jo_pure rfl (pr_move rfl) (jo_pure rfl (pr_seql rfl rfl) (jo_pure rfl (pr_move rfl) (jo_gpure (j := 2) (want := false) rfl rfl rfl rfl (fun hg=>pr_move rfl) (jo_gpure (j := 2) (want := false) rfl rfl rfl rfl (fun hg=>pr_seql (evg rfl hg) rfl) ?_))))))))))))
 refine jo_pure rfl (pr_pick_or rfl rfl rfl) ?_
 refine jo_nil (jq_then ?_)
 refine jc_cond rfl (fun h1b => ?_) (fun h1b => ?_)
 ·have h1 := (fun q => Or.imp of_decide_eq_true of_decide_eq_true (bt_or q)) h1b
  refine jc_seq (jc_region (jo_pure rfl (pr_move rfl) (jo_pure rfl (pr_assign rfl) (jo_nil (jq_then (jc_ret (jq_then_ret ?_)))))))
  exact jq_ret1 rfl () rfl (show (str (trim s) : Value) = (str (s)) from congrArg str (by rcases h1 with h1 | h1; rw [h1]; rfl; rw [hcut] at h1; cases h1)) (fun _ h => h)
 ·have h1 := (fun q => And.imp of_decide_eq_false of_decide_eq_false (bf_or q)) h1b
  refine jc_skip (jq_then (jc_seq (jc_seq (jc_region (jo_pure rfl (pr_move rfl) (jo_pure rfl (pr_slen rfl Tryz.underlying9) ?_))))))
  refine jo_pure rfl (pr_eqlN (m := cut.length) (n := 1) rfl rfl) ?_
  refine jo_pure rfl (pr_move rfl) (jo_gpure (j := 3) (want := true) rfl rfl rfl rfl (fun hg=>pr_move rfl) (jo_gpure (j := 3) (want := true) rfl rfl rfl rfl (fun hg=>pr_sindex (i := 0) (evg rfl hg) rfl Tryz.underlying9 (by rw [hcut]; decide)) ?_))
  refine jo_gpure (j := 3) (want := true) rfl rfl rfl rfl (fun hg=>pr_blss (n := 128) (evg rfl hg) rfl) ?_
  refine jo_pure rfl (pr_pick_and rfl rfl rfl) ?_
  refine jo_nil (jq_then ?_)
  refine jc_cond rfl (fun h2b => ?_) (fun h2b => ?_)
  ·have h2 := (fun q => And.imp of_decide_eq_true of_decide_eq_true (bt_and q)) h2b
   exact absurd h2.1 (by rw [hcut]; decide)
  ·have h2 := (fun q => Or.imp of_decide_eq_false of_decide_eq_false (bf_and q)) h2b
   refine jc_skip (jq_then (jc_seq (jc_seq (jc_region (jo_pure rfl (pr_move rfl) ?_)))))
   refine jo_callp cal_156 (c_strings_makeASCIISet cut (by rw [hcut]; decide) (by rw [hcut]; decide)) ⟨rfl, trivial⟩ rfl (trivial) (fun _ => ?_)
   refine jo_pure rfl (pr_move rfl) (jo_pure rfl (pr_extract rfl rfl) (jo_pure rfl (pr_extract rfl rfl) ?_))
   refine jo_alloc_arr (t := .bool) ty_161 (List.replicate 256 false) (by kernel_rfl) rfl (by rw [List.length_replicate]; simp [maxLen]) rfl (fun b1 => ?_)
   refine jo_store_arr (ys := setOf cut) rfl rfl ty_161 rfl (by first | rfl | exact (setOf_len _).trans List.length_replicate.symm) (by first | rfl | exact (setOf_len _).trans List.length_replicate.symm) (by first | (rw [setOf_len]; rfl) | (rw [List.length_replicate]; rfl)) ?_
   refine jo_pure rfl (pr_assign rfl) (jo_nil (jq_then (jc_seq (jc_region (jo_pure rfl (pr_move rfl) (jo_nil (jq_then (jc_true rfl (rfl) ?_))))))))
   refine jc_seq (jc_region (jo_pure rfl (pr_move rfl) (j_pub_arr rfl (by exact (setOf_len _).trans List.length_replicate.symm) ?_)))
   refine jo_callp cal_158 (c_strings_trimRightASCII s (setOf cut) b1 (hs) (setOf_len _)) ⟨rfl, rfl, trivial⟩ rfl (⟨⟨rfl, .head _⟩, trivial⟩) (fun _ => ?_)
   refine jo_callp cal_157 (c_strings_trimLeftASCII (trimR (fun x : UInt8 => (setOf cut).getD x.toNat false) s) (setOf cut) b1 (Nat.le_trans (trimR_length _) hs) (setOf_len _)) ⟨rfl, rfl, trivial⟩ rfl (⟨⟨rfl, .head _⟩, trivial⟩) (fun _ => ?_)
   refine jo_pure rfl (pr_assign rfl) (jo_nil (jq_then (jc_ret (jq_then_ret (j_drop ?_)))))
   exact jq_ret1 rfl () rfl (show (str (trim s) : Value) = (str (trimL (fun x : UInt8 => (setOf cut).getD x.toNat false) (trimR (fun x : UInt8 => (setOf cut).getD x.toNat false) s))) from congrArg str (by rw [trim, show blankB = (fun x : UInt8 => (setOf cut).getD x.toNat false) from funext fun c => by rw [hcut, setOf_blank]])) (fun _ h => h)

theorem c_ascii_Trim (s : Str) (hs : s.length ≤ 1000000) : Con Tryz.prog 148 #[str (s)] [] (fun _ : Unit => str (trim s)) (fun _ => []) := by
 refine con_of_J (args := [str (s)]) (n := 5) Tryz.func148 rfl (Nat.le_of_ble_eq_true rfl) rfl (fun w0 I0 m0 => ?_)
 refine jc_seq (jc_region (jo_pure rfl (pr_assign rfl) (jo_nil (jq_then (jc_seq (jc_region (jo_pure rfl (pr_move rfl) ?_)))))))
 refine jo_callp cal_151 (c_strings_Trim s [32, 9] (by first | omega | rfl) (by first | omega | rfl)) ⟨rfl, rfl, trivial⟩ rfl (trivial) (fun _ => ?_)
 refine jo_pure rfl (pr_assign rfl) (jo_nil (jq_then (jc_ret ?_)))
 exact jq_ret1 rfl () rfl (show (str (trim s) : Value) = (str (trim s)) from rfl) (fun _ h => h)

theorem c_internal_stringslite_IndexByte (s : Str) (c : UInt8)  : Con Tryz.prog 162 #[str (s), byte (c)] [] (fun _ : Unit => .int .i64 (idx s c)) (fun _ => []) := by
 refine con_of_J (args := [str (s), byte (c)]) (n := 8) Tryz.func162 rfl (Nat.le_of_ble_eq_true rfl) rfl (fun w0 I0 m0 => ?_)
 refine jc_seq (jc_region (jo_pure rfl (pr_assign rfl) (jo_nil (jq_then (jc_seq (jc_region (jo_pure rfl (pr_move rfl) (jo_pure rfl (pr_move rfl) (jo_pure rfl (pr_ext (vs := [str (s), byte (c)]) Tryz.func170 (by kernel_rfl) rfl (by kernel_rfl) (by kernel_rfl) ⟨rfl, rfl, trivial⟩ (fun w => run_indexByte s c w)) ?_)))))))))
 refine jo_pure rfl (pr_assign rfl) (jo_nil (jq_then (jc_ret ?_)))
 exact jq_ret1 rfl () rfl (show (.int .i64 (idx s c) : Value) = (.int .i64 (idx s c)) from rfl) (fun _ h => h)

theorem c_internal_stringslite_Index (s : Str) (sep : Str) (c : UInt8) (hsep : sep = [c]) (hs : s.length ≤ 1000000) : Con Tryz.prog 153 #[str (s), str (sep)] [] (fun _ : Unit => .int .i64 (idx s c)) (fun _ => []) := by
 refine con_of_J (args := [str (s), str (sep)]) (n := 143) Tryz.func153 rfl (Nat.le_of_ble_eq_true rfl) rfl (fun w0 I0 m0 => ?_)
 refine jc_seq (jc_region (jo_pure rfl (pr_assign rfl) (jo_nil (jq_then (jc_seq (jc_region (jo_pure rfl (pr_move rfl) (jo_pure rfl (pr_slen rfl Tryz.underlying9) ?_))))))))
 refine jo_pure rfl (pr_assign rfl) (jo_nil (jq_then (jc_seq (jc_block (jc_seq (jc_region (jo_pure rfl (pr_move rfl) (jo_pure rfl (pr_eqlN (m := sep.length) (n := 0) rfl rfl) ?_))))))))
 refine jo_pure rfl (pr_move rfl) (jo_gpure (j := 2) (want := false) rfl rfl rfl rfl (fun hg=>pr_move rfl) (jo_gpure (j := 2) (want := false) rfl rfl rfl rfl (fun hg=>pr_move rfl) (jo_gpure (j := 2) (want := false) rfl rfl rfl rfl (fun hg=>pr_seql (evg rfl hg) (evg rfl hg)) ?_)))
 refine jo_pure rfl (pr_pick_or rfl rfl rfl) ?_
 refine jo_pure rfl (pr_assign rfl) (jo_nil (jq_then ?_))
 refine jc_cond rfl (fun h1b => ?_) (fun h1b => ?_)
 ·have h1 := (fun q => Or.imp of_decide_eq_true of_decide_eq_true (bt_or q)) h1b
  refine jc_seq (jc_region (jo_pure rfl (pr_assign rfl) (jo_nil (jq_then (jc_ret (jq_in_ret ?_))))))
  refine jq_then_ret ?_
  exact jq_ret1 rfl () rfl (show (.int .i64 (idx s c) : Value) = (.int .i64 ((0 : Nat) : Int)) from congrArg (Value.int .i64) (by rcases h1 with h1 | h1; (rw [hsep] at h1; cases h1); (rw [← h1, hsep, pos_self]; rfl))) (fun _ h => h)
 ·have h1 := (fun q => And.imp of_decide_eq_false of_decide_eq_false (bf_or q)) h1b
  refine jc_seq (jc_region (jo_pure rfl (pr_move rfl) (jo_pure rfl (pr_eqlN (m := sep.length) (n := 1) rfl rfl) ?_)))
  refine jo_pure rfl (pr_assign rfl) (jo_nil (jq_then ?_))
  refine jc_cond rfl (fun h2b => ?_) (fun h2b => ?_)
  ·have h2 := of_decide_eq_true h2b
   refine jc_seq (jc_region (jo_pure rfl (pr_move rfl) (jo_pure rfl (pr_move rfl) (jo_pure rfl (pr_sindex (i := 0) rfl rfl Tryz.underlying9 (by rw [hsep]; exact Nat.one_pos)) ?_))))
   refine jo_callp cal_162 (c_internal_stringslite_IndexByte s (sep.getD 0 0)) ⟨rfl, rfl, trivial⟩ rfl (trivial) (fun _ => ?_)
   refine jo_pure rfl (pr_assign rfl) (jo_nil (jq_then (jc_ret (jq_in_ret ?_))))
   refine jq_then_ret ?_
   exact jq_ret1 rfl () rfl (show (.int .i64 (idx s c) : Value) = (.int .i64 (idx s (sep.getD 0 0))) from congrArg (Value.int .i64) (by rw [hsep]; rfl)) (fun _ h => h)
  ·have h2 := of_decide_eq_false h2b
   exact absurd (by rw [hsep]; rfl) h2

theorem c_internal_stringslite_Cut (s : Str) (sep : Str) (c : UInt8) (hsep : sep = [c]) (hs : s.length ≤ 1000000) : Con Tryz.prog 150 #[str (s), str (sep)] [] (fun _ : Unit => .tuple #[str (s.take (pos s c)), str (s.drop (pos s c + 1)), .bool (decide (pos s c < s.length))]) (fun _ => []) := by
 refine con_of_J (args := [str (s), str (sep)]) (n := 23) Tryz.func150 rfl (Nat.le_of_ble_eq_true rfl) rfl (fun w0 I0 m0 => ?_)
 refine jc_seq (jc_region (jo_pure rfl (pr_assign rfl) (jo_pure rfl (pr_assign rfl) (jo_pure rfl (pr_assign rfl) (jo_nil (jq_then (jc_seq (jc_seq (jc_region (jo_pure rfl (pr_move rfl) (jo_pure rfl (pr_move rfl) ?_)))))))))))
 refine jo_callp cal_153 (c_internal_stringslite_Index s sep c (hsep) (by omega)) ⟨rfl, rfl, trivial⟩ rfl (trivial) (fun _ => ?_)
 refine jo_pure rfl (pr_assign rfl) (jo_nil (jq_then (jc_seq (jc_region (jo_pure rfl (pr_move rfl) (jo_pure rfl (pr_geq (n := 0) rfl rfl) ?_))))))
 refine jo_nil (jq_then ?_)
 refine jc_cond rfl (fun h1b => ?_) (fun h1b => ?_)
 ·have h1 := of_decide_eq_true h1b
  have hp := (idx_nonneg h1).2
  have hl : sep.length = 1 := by rw [hsep]; rfl
  rw [show (idx s c : Int) = ((pos s c : Nat) : Int) from (idx_nonneg h1).1]
  refine jc_seq (jc_draws mixed (by kernel_rfl) (jd_pure rfl (pr_move rfl) ?_))
  refine jd_pure rfl (pr_move rfl) ?_
  refine jd_pure rfl (pr_sslice_hi (j := pos s c) rfl rfl Tryz.underlying9 (by have := pos_le s c; omega)) ?_
  refine jd_pure rfl (pr_move rfl) ?_
  refine jd_pure rfl (pr_move rfl) ?_
  refine jd_pure rfl (pr_move rfl) ?_
  refine jd_pure rfl (pr_slen rfl Tryz.underlying9) ?_
  refine jd_pure rfl (pr_addN (m := pos s c) (n := sep.length) rfl rfl (by omega)) ?_
  refine jd_pure rfl (pr_sslice_lo (i := (pos s c) + sep.length) rfl rfl Tryz.underlying9 (by have := pos_le s c; omega)) ?_
  refine jd_pure rfl (pr_assign rfl) ?_
  refine jd_pure rfl (pr_assign rfl) ?_
  refine jd_pure rfl (pr_assign rfl) ?_
  refine jd_nil ?_
  refine jq_then (jc_ret (jq_then_ret ?_))
  exact jq_rets (rs := [.tmp 4, .tmp 5, .tmp 6]) (vs := [str (s.take (pos s c)), str (s.drop ((pos s c) + sep.length)), .bool (true)]) rfl () ⟨resV_tmp rfl, resV_tmp rfl, resV_tmp rfl, trivial⟩ rfl (show (.tuple #[str (s.take (pos s c)), str (s.drop (pos s c + 1)), .bool (decide (pos s c < s.length))] : Value) = (.tuple #[str (s.take (pos s c)), str (s.drop ((pos s c) + sep.length)), .bool (true)]) from by rw [hl, decide_eq_true hp]) (fun _ h => h)
 ·have h1 := of_decide_eq_false h1b
  refine jc_skip (jq_then (jc_seq (jc_region (jo_pure rfl (pr_move rfl) (jo_pure rfl (pr_assign rfl) (jo_pure rfl (pr_assign rfl) (jo_pure rfl (pr_assign rfl) (jo_nil (jq_then (jc_ret ?_))))))))))
  exact jq_rets (rs := [.tmp 4, .tmp 5, .tmp 6]) (vs := [str (s), str ([]), .bool (false)]) rfl () ⟨resV_tmp rfl, resV_tmp rfl, resV_tmp rfl, trivial⟩ rfl (show (.tuple #[str (s.take (pos s c)), str (s.drop (pos s c + 1)), .bool (decide (pos s c < s.length))] : Value) = (.tuple #[str (s), str ([]), .bool (false)]) from by rw [pos_none h1, List.take_length, List.drop_of_length_le (by omega), decide_eq_false (by omega)]) (fun _ h => h)

theorem c_strings_Cut (s : Str) (sep : Str) (c : UInt8) (hsep : sep = [c]) (hs : s.length ≤ 1000000) : Con Tryz.prog 146 #[str (s), str (sep)] [] (fun _ : Unit => .tuple #[str (s.take (pos s c)), str (s.drop (pos s c + 1)), .bool (decide (pos s c < s.length))]) (fun _ => []) := by
 refine con_of_J (args := [str (s), str (sep)]) (n := 13) Tryz.func146 rfl (Nat.le_of_ble_eq_true rfl) rfl (fun w0 I0 m0 => ?_)
 refine jc_seq (jc_region (jo_pure rfl (pr_assign rfl) (jo_pure rfl (pr_assign rfl) (jo_pure rfl (pr_assign rfl) (jo_nil (jq_then (jc_seq (jc_region (jo_pure rfl (pr_move rfl) (jo_pure rfl (pr_move rfl) ?_))))))))))
 refine jo_callp cal_150 (c_internal_stringslite_Cut s sep c (hsep) (by omega)) ⟨rfl, rfl, trivial⟩ rfl (trivial) (fun _ => ?_)
 refine jo_pure rfl (pr_extract rfl rfl) ?_
 refine jo_pure rfl (pr_extract rfl rfl) ?_
 refine jo_pure rfl (pr_extract rfl rfl) ?_
 refine jo_pure rfl (pr_assign rfl) (jo_pure rfl (pr_assign rfl) (jo_pure rfl (pr_assign rfl) (jo_nil (jq_then (jc_ret ?_)))))
 exact jq_rets (rs := [.tmp 4, .tmp 5, .tmp 6]) (vs := [str (s.take (pos s c)), str (s.drop (pos s c + 1)), .bool (decide (pos s c < s.length))]) rfl () ⟨resV_tmp rfl, resV_tmp rfl, resV_tmp rfl, trivial⟩ rfl (show (.tuple #[str (s.take (pos s c)), str (s.drop (pos s c + 1)), .bool (decide (pos s c < s.length))] : Value) = (.tuple #[str (s.take (pos s c)), str (s.drop (pos s c + 1)), .bool (decide (pos s c < s.length))]) from rfl) (fun _ h => h)

theorem c_ascii_Lower (s : Str) (hs : s.length ≤ 1000000) : Con Tryz.prog 69 #[str (s)] [] (fun _ : Unit => str (lower s)) (fun _ => []) := by
 refine con_of_J (args := [str (s)]) (n := 30) Tryz.func69 rfl (Nat.le_of_ble_eq_true rfl) rfl (fun w0 I0 m0 => ?_)
 refine jc_seq (jc_region (jo_pure rfl (pr_assign rfl) (jo_nil (jq_then (jc_seq (jc_region (jo_pure rfl (pr_move rfl) ?_)))))))
 refine jo_s2b rfl Tryz.underlying9 Tryz.underlying103 Tryz.underlying5 rfl (by omega) (fun g1 cap1 => ?_)
 refine jo_pure rfl (pr_assign rfl) (jo_nil (jq_then (jc_seq (jc_seq (jc_region (jo_pure rfl (pr_move rfl) (jo_pure rfl (pr_len rfl Tryz.underlying103) ?_)))))))
 refine jo_pure rfl (pr_move rfl) (jo_nil (jq_then (jc_block ?_)))
 refine jc_loop (fun (i : Nat) => [(0, str (s)), (2, str ([])), (6, str (s)), (7, .slice (some ⟨g1, 0, none⟩) (s.length) (cap1)), (3, .slice (some ⟨g1, 0, none⟩) (s.length) (cap1)), (8, .slice (some ⟨g1, 0, none⟩) (s.length) (cap1)), (9, .int .i64 ((s.length : Nat) : Int)), (10, .int .i64 ((i : Nat) : Int))]) (fun (i : Nat) => [.rowm g1 (cap1) 5 .u8 (lowerTo s i)]) (fun (i : Nat) => i ≤ s.length) (fun (i : Nat) => s.length - i) 0 (Nat.zero_le _) ⟨rfl, rfl, rfl, rfl, rfl, rfl, rfl, rfl, trivial⟩ (fun _ h => by rw [lowerTo_zero]; exact h) (fun i hinv => ?_)
 refine jc_seq (jc_region (jo_pure rfl (pr_lssN (m := i) (n := s.length) rfl rfl) ?_))
 refine jo_nil (jq_then (jc_seq ?_))
 refine jc_cond rfl (fun h1b => ?_) (fun h1b => ?_)
 ·have h1 := of_decide_eq_true h1b
  refine jc_skip (jq_then (jc_seq (jc_block (jc_seq (jc_region (jo_pure rfl (pr_move rfl) (jo_pure rfl (pr_idx (i := i) (i) rfl rfl Tryz.underlying103 ty_5 (by omega) (by first | rfl | (simp only [Nat.zero_add, Nat.mul_one]))) ?_)))))))
  refine jo_pure rfl (pr_load_rowD (byte ((lowerTo s i).getD i 0)) true rfl ty_5 rfl rfl (.head _) (by rw [lowerTo_len]; omega) (by first | rfl | exact Nat.mul_one _) rfl) ?_
  refine jo_pure rfl (pr_assign rfl) (jo_pure rfl (pr_assign rfl) (jo_nil (jq_then (jc_seq (jc_region (jo_pure rfl (pr_move rfl) (jo_pure rfl (pr_bgeq (n := 65) rfl rfl) ?_)))))))
  refine jo_pure rfl (pr_move rfl) (jo_gpure (j := 2) (want := true) rfl rfl rfl rfl (fun hg=>pr_move rfl) (jo_gpure (j := 2) (want := true) rfl rfl rfl rfl (fun hg=>pr_bleq (n := 90) (evg rfl hg) rfl) ?_))
  refine jo_pure rfl (pr_pick_and rfl rfl rfl) ?_
  refine jo_nil (jq_then ?_)
  refine jc_cond rfl (fun h2b => ?_) (fun h2b => ?_)
  ·have h2 := (fun q => And.imp of_decide_eq_true of_decide_eq_true (bt_and q)) h2b
   refine jc_region (jo_pure rfl (pr_move rfl) (jo_pure rfl (pr_move rfl) (jo_pure rfl (pr_move rfl) (jo_pure rfl (pr_badd (n := 97) rfl rfl) ?_))))
   refine jo_pure rfl (pr_bsub (n := 65) rfl rfl) ?_
   refine jo_pure rfl (pr_idx (i := i) (i) rfl rfl Tryz.underlying103 ty_5 (by omega) (by first | rfl | (simp only [Nat.zero_add, Nat.mul_one]))) ?_
   refine jo_store_m (i := i) ((((lowerTo s i).getD i 0) + 97) - 65) rfl rfl ty_5 rfl (by rw [lowerTo_len]; omega) (by first | rfl | exact Nat.mul_one _) rfl ?_
   refine jo_nil (jq_in_normal (jq_then (jc_region (jo_pure rfl (pr_addN (m := i) (n := 1) rfl rfl (by omega)) ?_))))
   refine jo_pure rfl (pr_move rfl) (jo_nil ?_)
   refine jq_round' (i + 1) (by omega) (by omega) ⟨rfl, rfl, rfl, rfl, rfl, rfl, rfl, rfl, trivial⟩ (fun _ h => by rw [← lowerTo_hit' s i (by omega) h2.1 h2.2 _ (add97 _)]; exact h)
  ·have h2 := (fun q => Or.imp of_decide_eq_false of_decide_eq_false (bf_and q)) h2b
   refine jc_skip (jq_in_normal (jq_then (jc_region (jo_pure rfl (pr_addN (m := i) (n := 1) rfl rfl (by omega)) ?_))))
   refine jo_pure rfl (pr_move rfl) (jo_nil ?_)
   refine jq_round' (i + 1) (by omega) (by omega) ⟨rfl, rfl, rfl, rfl, rfl, rfl, rfl, rfl, trivial⟩ (fun _ h => by rw [lowerTo_miss' s i (by omega) h2]; exact h)
 ·have h1 := of_decide_eq_false h1b
  refine jc_exit ?_
  refine jq_then_exit ?_
  refine jq_then_exit ?_
  refine jq_in_hit ?_
  refine jq_then (jc_seq (jc_region (jo_pure rfl (pr_move rfl) (jo_pure rfl (pr_b2s_m (E := 5) rfl (by rw [lowerTo_len]) (.head _) Tryz.underlying103 Tryz.underlying5 Tryz.underlying9) ?_))))
  refine jo_pure rfl (pr_assign rfl) (jo_nil (jq_then (jc_ret (j_drop ?_))))
  exact jq_ret1 rfl () rfl (show (str (lower s) : Value) = (str (lowerTo s i)) from by rw [lowerTo_end s i (by omega)]) (fun _ h => h)

theorem c_keep_Fields (l : List (Str × Str)) (lv : Value) (hl : l.length ≤ 9223372036854775807) : Con Tryz.prog 58 #[lv] [.imm (.list (.pair .str .str)) (lv) (l)] (fun _ : Unit => .bool (keepF l)) (fun _ => []) := by
 refine con_of_J (args := [lv]) (n := 33) Tryz.func58 rfl (Nat.le_of_ble_eq_true rfl) rfl (fun w0 I0 m0 => ?_)
 refine jc_seq (jc_region (jo_pure rfl (pr_assign rfl) (jo_nil (jq_then (jc_seq (jc_seq (jc_region (jo_pure rfl (pr_assign rfl) (jo_nil (jq_then (jc_block ?_)))))))))))
 refine jc_loop (fun (i : Nat) => [(0, lv), (3, .int .i64 ((i : Nat) : Int))]) (fun (i : Nat) => [.imm (.list (.pair .str .str)) (lv) (l)]) (fun (i : Nat) => i ≤ 71 ∧ (l.take i).all okF = true) (fun (i : Nat) => 71 - i) 0 (⟨Nat.zero_le _, rfl⟩) ⟨rfl, rfl, trivial⟩ (fun _ h => h) (fun i hinv => ?_)
 refine jc_seq (jc_seq (jc_region (jo_pure rfl (pr_move rfl) (jo_pure rfl (pr_move rfl) (jo_pure rfl (pr_len_imm rfl (.head _) Tryz.underlying38) ?_)))))
 refine jo_pure rfl (pr_lssN (m := i) (n := l.length) rfl rfl) ?_
 refine jo_pure rfl (pr_move rfl) (jo_gpure (j := 4) (want := true) rfl rfl rfl rfl (fun hg=>pr_move rfl) (jo_gpure (j := 4) (want := true) rfl rfl rfl rfl (fun hg=>pr_lssN (m := i) (n := 71) (evg rfl hg) rfl) ?_))
 refine jo_pure rfl (pr_pick_and rfl rfl rfl) ?_
 refine jo_nil (jq_then ?_)
 refine jc_cond rfl (fun h1b => ?_) (fun h1b => ?_)
 ·have h1 := (fun q => And.imp of_decide_eq_true of_decide_eq_true (bt_and q)) h1b
  refine jc_skip (jq_then (jc_seq (jc_block (jc_seq (jc_region (jo_pure rfl (pr_move rfl) (jo_pure rfl (pr_move rfl) (jo_pure rfl (pr_idx_imm (i := i) rfl (.head _) rfl Tryz.underlying38 ty_80 (by omega)) ?_))))))))
  refine jo_pure rfl (pr_fieldAddr_imm (i := i) rfl (.head _) Tryz.underlying80 rfl ty_9 rfl rfl (by omega)) ?_
  refine jo_pure rfl (pr_load_off_imm (i := i) (o := 0) (dd := ([], [])) (str ((l.getD i ([], [])).1)) rfl (.head _) ty_9 rfl (by decide) rfl (by omega) rfl) ?_
  refine jo_pure rfl (pr_slen rfl Tryz.underlying9) ?_
  refine jo_pure rfl (pr_gtrN (m := ((l.getD i ([], [])).1).length) (n := 300) rfl rfl) ?_
  refine jo_pure rfl (pr_move rfl) (jo_gpure (j := 7) (want := false) rfl rfl rfl rfl (fun hg=>pr_move rfl) (jo_gpure (j := 7) (want := false) rfl rfl rfl rfl (fun hg=>pr_move rfl) (jo_gpure (j := 7) (want := false) rfl rfl rfl rfl (fun hg=>pr_idx_imm (i := i) (evg rfl hg) (.head _) (evg rfl hg) Tryz.underlying38 ty_80 (by omega)) ?_)))
  refine jo_gpure (j := 7) (want := false) rfl rfl rfl rfl (fun hg=>pr_fieldAddr_imm (i := i) (evg rfl hg) (.head _) Tryz.underlying80 rfl ty_9 rfl rfl (by omega)) ?_
  refine jo_gpure (j := 7) (want := false) rfl rfl rfl rfl (fun hg=>pr_load_off_imm (i := i) (o := 1) (dd := ([], [])) (str ((l.getD i ([], [])).2)) (evg rfl hg) (.head _) ty_9 rfl (by decide) rfl (by omega) rfl) ?_
  refine jo_gpure (j := 7) (want := false) rfl rfl rfl rfl (fun hg=>pr_slen (evg rfl hg) Tryz.underlying9) ?_
  refine jo_gpure (j := 7) (want := false) rfl rfl rfl rfl (fun hg=>pr_gtrN (m := ((l.getD i ([], [])).2).length) (n := 300) (evg rfl hg) rfl) ?_
  refine jo_pure rfl (pr_pick_or rfl rfl rfl) ?_
  refine jo_nil (jq_then ?_)
  refine jc_cond rfl (fun h2b => ?_) (fun h2b => ?_)
  ·have h2 := (fun q => Or.imp of_decide_eq_true of_decide_eq_true (bt_or q)) h2b
   refine jc_seq (jc_region (jo_pure rfl (pr_assign rfl) (jo_nil (jq_then (jc_ret (jq_in_ret ?_))))))
   refine jq_then_ret (jq_then_ret (jq_in_ret ?_))
   refine jq_then_ret (j_drop ?_)
   exact jq_ret1 rfl () rfl (show (.bool (keepF l) : Value) = (.bool (false)) from congrArg Value.bool (by rw [keepF, keep_miss (dd := ([], [])) h1.2 h1.1 (by unfold okF; rw [h2b]; rfl)]; rfl)) (fun _ h => h)
  ·have h2 := (fun q => And.imp of_decide_eq_false of_decide_eq_false (bf_or q)) h2b
   refine jc_skip (jq_in_normal (jq_then (jc_region (jo_pure rfl (pr_move rfl) (jo_pure rfl (pr_addN (m := i) (n := 1) rfl rfl (by omega)) ?_)))))
   refine jo_pure rfl (pr_assign rfl) (jo_nil ?_)
   refine jq_round' (i + 1) (⟨by omega, all_step (dd := ([], [])) h1.1 hinv.2 (by simp [okF] at h2 ⊢; omega)⟩) (by omega) ⟨rfl, rfl, trivial⟩ (fun _ h => h)
 ·have h1 := (fun q => Or.imp of_decide_eq_false of_decide_eq_false (bf_and q)) h1b
  refine jc_exit ?_
  refine jq_then_exit ?_
  refine jq_then_exit ?_
  refine jq_in_hit ?_
  refine jq_then (jc_seq (jc_region (jo_pure rfl (pr_move rfl) (jo_pure rfl (pr_len_imm rfl (.head _) Tryz.underlying38) ?_))))
  refine jo_pure rfl (pr_leqN (m := l.length) (n := 70) rfl rfl) ?_
  refine jo_pure rfl (pr_assign rfl) (jo_nil (jq_then (jc_ret (j_drop ?_))))
  exact jq_ret1 rfl () rfl (show (.bool (keepF l) : Value) = (.bool (decide ((l.length : Nat) ≤ 70))) from congrArg Value.bool (by rw [keepF, keep_end hinv.1 h1 hinv.2]; rfl)) (fun _ h => h)

theorem c_ref10_SameStrings (a : List Str) (av : Value) (b : List Str) (bv : Value) (hl : a.length ≤ 9223372036854775807) : Con Tryz.prog 53 #[av, bv] [.imm (.list .str) (av) (a), .imm (.list .str) (bv) (b)] (fun _ : Unit => .bool (decide (a = b))) (fun _ => []) := by
 refine con_of_J (args := [av, bv]) (n := 26) Tryz.func53 rfl (Nat.le_of_ble_eq_true rfl) rfl (fun w0 I0 m0 => ?_)
 refine jc_seq (jc_region (jo_pure rfl (pr_assign rfl) (jo_nil (jq_then (jc_seq (jc_seq (jc_region (jo_pure rfl (pr_move rfl) (jo_pure rfl (pr_len_imm rfl (.head _) Tryz.underlying28) ?_)))))))))
 refine jo_pure rfl (pr_move rfl) (jo_pure rfl (pr_len_imm rfl (.tail _ (.head _)) Tryz.underlying28) ?_)
 refine jo_pure rfl (pr_neqN (m := a.length) (n := b.length) rfl rfl) ?_
 refine jo_nil (jq_then ?_)
 refine jc_cond rfl (fun h1b => ?_) (fun h1b => ?_)
 ·have h1 := (fun q => of_decide_eq_false (bt_not q)) h1b
  refine jc_seq (jc_region (jo_pure rfl (pr_assign rfl) (jo_nil (jq_then (jc_ret (jq_then_ret (j_drop (j_drop ?_))))))))
  exact jq_ret1 rfl () rfl (show (.bool (decide (a = b)) : Value) = (.bool (false)) from congrArg Value.bool (decide_eq_false (fun e => by rw [e] at h1; simp at h1))) (fun _ h => h)
 ·have h1 := (fun q => of_decide_eq_true (bf_not q)) h1b
  have hlen : a.length = b.length := by simpa using h1
  refine jc_skip (jq_then (jc_seq (jc_seq (jc_region (jo_pure rfl (pr_assign rfl) (jo_nil (jq_then (jc_block ?_))))))))
  refine jc_loop (fun (i : Nat) => [(0, av), (1, bv), (6, av), (7, .int .i64 ((a.length : Nat) : Int)), (8, bv), (9, .int .i64 ((b.length : Nat) : Int)), (10, .bool ((!decide ((a.length : Nat) = b.length)))), (5, .int .i64 ((i : Nat) : Int))]) (fun (i : Nat) => [.imm (.list .str) (av) (a), .imm (.list .str) (bv) (b)]) (fun (i : Nat) => i ≤ a.length ∧ a.take i = b.take i) (fun (i : Nat) => a.length - i) 0 (⟨Nat.zero_le _, rfl⟩) ⟨rfl, rfl, rfl, rfl, rfl, rfl, rfl, rfl, trivial⟩ (fun _ h => h) (fun i hinv => ?_)
  refine jc_seq (jc_seq (jc_region (jo_pure rfl (pr_move rfl) (jo_pure rfl (pr_move rfl) (jo_pure rfl (pr_len_imm rfl (.head _) Tryz.underlying28) ?_)))))
  refine jo_pure rfl (pr_lssN (m := i) (n := a.length) rfl rfl) ?_
  refine jo_nil (jq_then ?_)
  refine jc_cond rfl (fun h2b => ?_) (fun h2b => ?_)
  ·have h2 := of_decide_eq_true h2b
   refine jc_skip (jq_then (jc_seq (jc_block (jc_seq (jc_draws mixed (by kernel_rfl) (jd_pure rfl (pr_move rfl) ?_))))))
   refine jd_pure rfl (pr_move rfl) ?_
   refine jd_pure rfl (pr_idx_imm (i := i) rfl (.head _) rfl Tryz.underlying28 ty_9 (by omega)) ?_
   refine jd_pure rfl (pr_load_elem_imm (i := i) (str (a.getD i [])) rfl (.head _) ty_9 rfl rfl (by omega) rfl) ?_
   refine jd_pure rfl (pr_move rfl) ?_
   refine jd_pure rfl (pr_move rfl) ?_
   refine jd_pure rfl (pr_idx_imm (i := i) rfl (.tail _ (.head _)) rfl Tryz.underlying28 ty_9 (by omega)) ?_
   refine jd_pure rfl (pr_load_elem_imm (i := i) (str (b.getD i [])) rfl (.tail _ (.head _)) ty_9 rfl rfl (by omega) rfl) ?_
   refine jd_pure rfl (pr_sneq rfl rfl) ?_
   refine jd_nil ?_
   refine jq_then ?_
   refine jc_cond rfl (fun h3b => ?_) (fun h3b => ?_)
   ·have h3 := (fun q => of_decide_eq_false (bt_not q)) h3b
    refine jc_seq (jc_region (jo_pure rfl (pr_assign rfl) (jo_nil (jq_then (jc_ret (jq_in_ret ?_))))))
    refine jq_then_ret (jq_then_ret (jq_in_ret ?_))
    refine jq_then_ret (j_drop (j_drop ?_))
    exact jq_ret1 rfl () rfl (show (.bool (decide (a = b)) : Value) = (.bool (false)) from congrArg Value.bool (decide_eq_false (fun e => by rw [e] at h3; simp at h3))) (fun _ h => h)
   ·have h3 := (fun q => of_decide_eq_true (bf_not q)) h3b
    refine jc_skip (jq_in_normal (jq_then (jc_region (jo_pure rfl (pr_move rfl) (jo_pure rfl (pr_addN (m := i) (n := 1) rfl rfl (by omega)) ?_)))))
    refine jo_pure rfl (pr_assign rfl) (jo_nil (j_pull1 (j_pull1 ?_)))
    refine jq_round' (i + 1) (⟨by omega, take_eq_step (dd := []) h2 (by omega) hinv.2 (by simpa using h3)⟩) (by omega) ⟨rfl, rfl, rfl, rfl, rfl, rfl, rfl, rfl, trivial⟩ (fun _ h => h)
  ·have h2 := of_decide_eq_false h2b
   refine jc_exit ?_
   refine jq_then_exit ?_
   refine jq_then_exit ?_
   refine jq_in_hit ?_
   refine jq_then (jc_seq (jc_region (jo_pure rfl (pr_assign rfl) (jo_nil (jq_then (jc_ret (j_drop (j_drop ?_))))))))
   exact jq_ret1 rfl () rfl (show (.bool (decide (a = b)) : Value) = (.bool (true)) from congrArg Value.bool (decide_eq_true (by have := hinv.2; rwa [List.take_of_length_le (by omega), List.take_of_length_le (by omega)] at this))) (fun _ h => h)

theorem c_keep_SameStrings (a : List Str) (av : Value) (b : List Str) (bv : Value) (hl : a.length ≤ 9223372036854775807) : Con Tryz.prog 25 #[av, bv] [.imm (.list .str) (av) (a), .imm (.list .str) (bv) (b)] (fun _ : Unit => .bool (decide (a = b))) (fun _ => []) := by
 refine con_of_J (args := [av, bv]) (n := 8) Tryz.func25 rfl (Nat.le_of_ble_eq_true rfl) rfl (fun w0 I0 m0 => ?_)
 refine jc_seq (jc_region (jo_pure rfl (pr_assign rfl) (jo_nil (jq_then (jc_seq (jc_region (jo_pure rfl (pr_move rfl) (jo_pure rfl (pr_move rfl) ?_))))))))
 refine jo_callp cal_53 (c_ref10_SameStrings a av b bv (by omega)) ⟨rfl, rfl, trivial⟩ rfl (⟨⟨rfl, .head _⟩, ⟨⟨rfl, .tail _ (.head _)⟩, trivial⟩⟩) (fun _ => ?_)
 refine jo_pure rfl (pr_assign rfl) (jo_nil (jq_then (jc_ret (j_drop (j_drop ?_)))))
 exact jq_ret1 rfl () rfl (show (.bool (decide (a = b)) : Value) = (.bool (decide (a = b))) from rfl) (fun _ h => h)

theorem c_param_cut (s : Str) (hs : s.length ≤ 1000000) : Con Tryz.prog 147 #[str (s)] [] (fun r1 : Value => r1) (fun r1 => [.row r1 9 .str (cutF s 59)]) := by
 refine con_of_J (args := [str (s)]) (n := 54) Tryz.func147 rfl (Nat.le_of_ble_eq_true rfl) rfl (fun w0 I0 m0 => ?_)
 refine jc_seq (jc_region (jo_pure rfl (pr_assign rfl) (jo_nil (jq_then (jc_seq (jc_region (jo_pure rfl (pr_assign rfl) (jo_nil (jq_then (jc_seq (jc_region (jo_pure rfl (pr_assign rfl) (jo_pure rfl (pr_assign rfl) (jo_nil (jq_then (jc_seq (jc_seq (jc_region (jo_pure rfl (pr_assign rfl) (jo_nil (jq_then (jc_block (j_nil_row 9 .str ?_)))))))))))))))))))))))
 refine jc_loop5 (fun (i : Nat) (fr : Nat) (q : Bool) (v : Value) (acc : List Str) => [(0, str (s)), (3, v), (4, .bool (q)), (5, .int .i64 ((fr : Nat) : Int)), (6, .int .i64 ((i : Nat) : Int))]) (fun (i : Nat) (fr : Nat) (q : Bool) (v : Value) (acc : List Str) => [.row (v) 9 .str (acc)]) (fun (i : Nat) (fr : Nat) (q : Bool) (v : Value) (acc : List Str) => acc ++ cutGo 59 (stq q) ((s.take i).drop fr) (s.drop i) = cutF s 59 ∧ fr ≤ i ∧ i ≤ s.length + 1 ∧ fr ≤ s.length ∧ acc.length ≤ fr) (fun (i : Nat) (fr : Nat) (q : Bool) (v : Value) (acc : List Str) => s.length + 1 - i) 0 0 false (.slice none 0 0) [] (⟨rfl, Nat.le_refl _, by omega, Nat.zero_le _, Nat.le_refl _⟩) (⟨rfl, rfl, rfl, rfl, rfl, trivial⟩) (fun _ h => h) (fun i fr q v acc hinv => ?_)
 refine jc_seq (jc_seq (jc_region (jo_pure rfl (pr_move rfl) (jo_pure rfl (pr_move rfl) (jo_pure rfl (pr_slen rfl Tryz.underlying9) ?_)))))
 refine jo_pure rfl (pr_lssN (m := i) (n := s.length) rfl rfl) ?_
 refine jo_nil (jq_then ?_)
 refine jc_cond rfl (fun h1b => ?_) (fun h1b => ?_)
 ·have h1 := of_decide_eq_true h1b
  refine jc_skip (jq_then (jc_seq (jc_block (jc_block (jc_seq (jc_region (jo_pure rfl (pr_move rfl) (jo_pure rfl (pr_move rfl) (jo_gpure (j := 1) (want := true) rfl rfl rfl rfl (fun hg=>pr_move rfl) (jo_gpure (j := 1) (want := true) rfl rfl rfl rfl (fun hg=>pr_move rfl) (jo_gpure (j := 1) (want := true) rfl rfl rfl rfl (fun hg=>pr_sindex (i := i) (evg rfl hg) (evg rfl hg) Tryz.underlying9 (by omega)) ?_)))))))))))
  refine jo_gpure (j := 1) (want := true) rfl rfl rfl rfl (fun hg=>pr_beql (n := 92) (evg rfl hg) rfl) ?_
  refine jo_pure rfl (pr_pick_and rfl rfl rfl) ?_
  refine jo_pure rfl (pr_assign rfl) (jo_nil (jq_then ?_))
  refine jc_cond rfl (fun h2b => ?_) (fun h2b => ?_)
  ·have h2 := (fun q => And.imp id of_decide_eq_true (bt_and q)) h2b
   refine jc_region (jo_pure rfl (pr_move rfl) (jo_pure rfl (pr_addN (m := i) (n := 1) rfl rfl (by omega)) ?_))
   refine jo_pure rfl (pr_assign rfl) (jo_nil (jq_in_normal (jq_in_normal (jq_then (jc_region (jo_pure rfl (pr_move rfl) (jo_pure rfl (pr_addN (m := i + 1) (n := 1) rfl rfl (by omega)) ?_)))))))
   refine jo_pure rfl (pr_assign rfl) (jo_nil ?_)
   refine jq_round' (((i + 1) + 1), fr, q, v, acc) (by (try dsimp only); exact (⟨cut_esc h1 hinv.2.1 h2.1 h2.2 hinv.1, by omega, by omega, by omega, by omega⟩)) (by (try dsimp only); exact (by omega)) ⟨rfl, rfl, rfl, rfl, rfl, trivial⟩ (fun _ h => h)
  ·have h2 := (fun q => Or.imp id of_decide_eq_false (bf_and q)) h2b
   refine jc_seq (jc_region (jo_pure rfl (pr_move rfl) (jo_pure rfl (pr_move rfl) (jo_pure rfl (pr_sindex (i := i) rfl rfl Tryz.underlying9 (by omega)) ?_))))
   refine jo_pure rfl (pr_beql (n := 34) rfl rfl) ?_
   refine jo_pure rfl (pr_assign rfl) (jo_nil (jq_then ?_))
   refine jc_cond rfl (fun h3b => ?_) (fun h3b => ?_)
   ·have h3 := of_decide_eq_true h3b
    refine jc_region (jo_pure rfl (pr_move rfl) (jo_pure rfl (pr_not rfl) (jo_pure rfl (pr_assign rfl) (jo_nil (jq_in_normal (jq_in_normal (jq_then (jc_region (jo_pure rfl (pr_move rfl) (jo_pure rfl (pr_addN (m := i) (n := 1) rfl rfl (by omega)) ?_))))))))))
    refine jo_pure rfl (pr_assign rfl) (jo_nil ?_)
    refine jq_round' ((i + 1), fr, (!q), v, acc) (by (try dsimp only); exact (⟨cut_quote h1 hinv.2.1 h3 hinv.1, by omega, by omega, by omega, by omega⟩)) (by (try dsimp only); exact (by omega)) ⟨rfl, rfl, rfl, rfl, rfl, trivial⟩ (fun _ h => h)
   ·have h3 := of_decide_eq_false h3b
    refine jc_seq (jc_region (jo_pure rfl (pr_move rfl) (jo_pure rfl (pr_move rfl) (jo_pure rfl (pr_sindex (i := i) rfl rfl Tryz.underlying9 (by omega)) ?_))))
    refine jo_pure rfl (pr_beql (n := 59) rfl rfl) ?_
    refine jo_pure rfl (pr_move rfl) (jo_gpure (j := 4) (want := true) rfl rfl rfl rfl (fun hg=>pr_move rfl) (jo_gpure (j := 4) (want := true) rfl rfl rfl rfl (fun hg=>pr_not (evg rfl hg)) (jo_pure rfl (pr_pick_and rfl rfl rfl) (jo_pure rfl (pr_assign rfl) (jo_nil (jq_then ?_))))))
    refine jc_cond rfl (fun h4b => ?_) (fun h4b => ?_)
    ·have h4 := (fun q => And.imp of_decide_eq_true (fun q => id (bt_not q)) (bt_and q)) h4b
     refine jc_seq (jc_region (jo_pure rfl (pr_move rfl) (jo_pure rfl (pr_move rfl) (jo_pure rfl (pr_move rfl) (jo_pure rfl (pr_move rfl) (jo_pure rfl (pr_sslice (i := fr) (j := i) rfl rfl rfl Tryz.underlying9 (by omega) (by omega)) ?_))))))
     refine jo_buildSlice (t := .str) [(s.take i).drop fr] [str ((s.take i).drop fr)] (fun a hf => by simp only [List.zipIdx_cons, List.zipIdx_nil, List.map_toArray, List.map_cons, List.map_nil, hf.ev (show ev _ (.tmp 43) = some (str ((s.take i).drop fr)) from rfl)] <;> rfl) rfl Tryz.underlying28 ty_9 rfl rfl rfl rfl rfl (fun g1 => ?_)
     refine j_pull1 ?_
     refine jo_append rfl rfl Tryz.underlying28 ty_9 rfl (by simp only [List.length_append, List.length_cons, List.length_nil, maxLen]; omega) (by simp only [List.length_append, List.length_cons, List.length_nil]; omega) rfl (fun v1 => ?_)
     refine jo_pure rfl (pr_assign rfl) (jo_nil (jq_then (jc_region (jo_pure rfl (pr_move rfl) (jo_pure rfl (pr_addN (m := i) (n := 1) rfl rfl (by omega)) ?_)))))
     refine jo_pure rfl (pr_assign rfl) (jo_nil (jq_in_normal (jq_in_normal (jq_then (jc_region (jo_pure rfl (pr_move rfl) (jo_pure rfl (pr_addN (m := i) (n := 1) rfl rfl (by omega)) ?_)))))))
     refine jo_pure rfl (pr_assign rfl) (jo_nil ?_)
     refine jq_round' ((i + 1), (i + 1), q, v1, (acc ++ [(s.take i).drop fr])) (by (try dsimp only); exact (⟨cut_sep h1 h4.2 h4.1 h3 hinv.1, by omega, by omega, by omega, by simp; omega⟩)) (by (try dsimp only); exact (by omega)) ⟨rfl, rfl, rfl, rfl, rfl, trivial⟩ (fun _ h => h)
    ·have h4 := (fun q => Or.imp of_decide_eq_false (fun q => id (bf_not q)) (bf_and q)) h4b
     refine jc_skip (jq_in_normal (jq_in_normal (jq_then (jc_region (jo_pure rfl (pr_move rfl) (jo_pure rfl (pr_addN (m := i) (n := 1) rfl rfl (by omega)) ?_))))))
     refine jo_pure rfl (pr_assign rfl) (jo_nil ?_)
     refine jq_round' ((i + 1), fr, q, v, acc) (by (try dsimp only); exact (⟨cut_plain h1 hinv.2.1 (h2.imp id id) h3 (h4.imp id id) hinv.1, by omega, by omega, by omega, by omega⟩)) (by (try dsimp only); exact (by omega)) ⟨rfl, rfl, rfl, rfl, rfl, trivial⟩ (fun _ h => h)
 ·have h1 := of_decide_eq_false h1b
  refine jc_exit ?_
  refine jq_then_exit ?_
  refine jq_then_exit ?_
  refine jq_in_hit ?_
  refine jq_then (jc_seq (jc_region (jo_pure rfl (pr_move rfl) (jo_pure rfl (pr_move rfl) (jo_pure rfl (pr_move rfl) (jo_pure rfl (pr_sslice_lo (i := fr) rfl rfl Tryz.underlying9 (by omega)) ?_))))))
  refine jo_buildSlice (t := .str) [s.drop fr] [str (s.drop fr)] (fun a hf => by simp only [List.zipIdx_cons, List.zipIdx_nil, List.map_toArray, List.map_cons, List.map_nil, hf.ev (show ev _ (.tmp 51) = some (str (s.drop fr)) from rfl)] <;> rfl) rfl Tryz.underlying28 ty_9 rfl rfl rfl rfl rfl (fun g2 => ?_)
  refine j_pull1 ?_
  refine jo_append rfl rfl Tryz.underlying28 ty_9 rfl (by simp only [List.length_append, List.length_cons, List.length_nil, maxLen]; omega) (by simp only [List.length_append, List.length_cons, List.length_nil]; omega) rfl (fun v2 => ?_)
  refine jo_pure rfl (pr_assign rfl) (jo_nil (jq_then (jc_ret ?_)))
  exact jq_ret1 rfl v2 rfl (show (v2 : Value) = (v2) from rfl) (fun _ h => by rw [cut_end (by omega) hinv.1] at h; exact h)

theorem c_ascii_Unquote (s : Str) (hs : s.length ≤ 1000000) : Con Tryz.prog 152 #[str (s)] [] (fun _ : Unit => .tuple #[str ((unq s).1), .bool ((unq s).2)]) (fun _ => []) := by
 refine con_of_J (args := [str (s)]) (n := 64) Tryz.func152 rfl (Nat.le_of_ble_eq_true rfl) rfl (fun w0 I0 m0 => ?_)
 refine jc_seq (jc_region (jo_pure rfl (pr_assign rfl) (jo_pure rfl (pr_assign rfl) (jo_nil (jq_then (jc_seq (jc_seq (jc_region (jo_pure rfl (pr_move rfl) (jo_pure rfl (pr_slen rfl Tryz.underlying9) ?_))))))))))
 refine jo_pure rfl (pr_lssN (m := s.length) (n := 2) rfl rfl) ?_
 refine jo_pure rfl (pr_move rfl) (jo_gpure (j := 3) (want := false) rfl rfl rfl rfl (fun hg=>pr_move rfl) (jo_gpure (j := 3) (want := false) rfl rfl rfl rfl (fun hg=>pr_sindex (i := 0) (evg rfl hg) rfl Tryz.underlying9 (by first | omega | (simp at hg; omega))) ?_))
 refine jo_gpure (j := 3) (want := false) rfl rfl rfl rfl (fun hg=>pr_bneq (n := 34) (evg rfl hg) rfl) ?_
 refine jo_pure rfl (pr_pick_or rfl rfl rfl) ?_
 refine jo_pure rfl (pr_move rfl) (jo_gpure (j := 8) (want := false) rfl rfl rfl rfl (fun hg=>pr_move rfl) (jo_gpure (j := 8) (want := false) rfl rfl rfl rfl (fun hg=>pr_move rfl) (jo_gpure (j := 8) (want := false) rfl rfl rfl rfl (fun hg=>pr_slen (evg rfl hg) Tryz.underlying9) ?_)))
 refine jo_gpure (j := 8) (want := false) rfl rfl rfl rfl (fun hg=>pr_subN (m := s.length) (n := 1) (evg rfl hg) rfl (by first | omega | (simp at hg; omega)) (by first | omega | (simp at hg; omega))) ?_
 refine jo_gpure (j := 8) (want := false) rfl rfl rfl rfl (fun hg=>pr_sindex (i := s.length - 1) (evg rfl hg) (evg rfl hg) Tryz.underlying9 (by first | omega | (simp at hg; omega))) ?_
 refine jo_gpure (j := 8) (want := false) rfl rfl rfl rfl (fun hg=>pr_bneq (n := 34) (evg rfl hg) rfl) ?_
 refine jo_pure rfl (pr_pick_or rfl rfl rfl) ?_
 refine jo_pure rfl (pr_move rfl) (jo_gpure (j := 16) (want := false) rfl rfl rfl rfl (fun hg=>pr_move rfl) (jo_gpure (j := 16) (want := false) rfl rfl rfl rfl (fun hg=>pr_move rfl) (jo_gpure (j := 16) (want := false) rfl rfl rfl rfl (fun hg=>pr_slen (evg rfl hg) Tryz.underlying9) ?_)))
 refine jo_gpure (j := 16) (want := false) rfl rfl rfl rfl (fun hg=>pr_subN (m := s.length) (n := 1) (evg rfl hg) rfl (by first | omega | (simp at hg; omega)) (by first | omega | (simp at hg; omega))) ?_
 refine jo_gpure (j := 16) (want := false) rfl rfl rfl rfl (fun hg=>pr_sslice (i := 1) (j := s.length - 1) (evg rfl hg) rfl (evg rfl hg) Tryz.underlying9 (by first | omega | (simp at hg; omega)) (by first | omega | (simp at hg; omega))) ?_
 refine jo_gcall (j := 16) (want := false) rfl rfl rfl cal_161 (fun hg => c_ascii_Text ((s.take (s.length - 1)).drop 1) (by first | omega | (simp at hg; simp; omega))) (fun hg => ⟨evg rfl hg, trivial⟩) rfl (fun _ => trivial) ?_
 refine jo_gpure (j := 16) (want := false) rfl rfl rfl rfl (fun hg=>pr_not (evg rfl hg)) ?_
 refine jo_pure rfl (pr_pick_or rfl rfl rfl) ?_
 refine jo_nil (jq_then ?_)
 refine jc_cond rfl (fun h1b => ?_) (fun h1b => ?_)
 ·have h1 := (fun q => Or.imp (fun q => Or.imp (fun q => Or.imp of_decide_eq_true (fun q => of_decide_eq_false (bt_not q)) (bt_or q)) (fun q => of_decide_eq_false (bt_not q)) (bt_or q)) (fun q => id (bt_not q)) (bt_or q)) h1b
  refine jc_seq (jc_region (jo_pure rfl (pr_assign rfl) (jo_pure rfl (pr_assign rfl) (jo_nil (jq_then (jc_ret (jq_then_ret ?_)))))))
  exact jq_rets (rs := [.tmp 2, .tmp 3]) (vs := [str ([]), .bool (false)]) rfl () ⟨resV_tmp rfl, resV_tmp rfl, trivial⟩ rfl (show (.tuple #[str ((unq s).1), .bool ((unq s).2)] : Value) = (.tuple #[str ([]), .bool (false)]) from by rcases h1 with h1 | h1; rw [unq_no (or_assoc.1 h1)]; rw [unq_nt h1]) (fun _ h => h)
 ·have h1 := (fun q => And.imp (fun q => And.imp (fun q => And.imp of_decide_eq_false (fun q => of_decide_eq_true (bf_not q)) (bf_or q)) (fun q => of_decide_eq_true (bf_not q)) (bf_or q)) (fun q => id (bf_not q)) (bf_or q)) h1b
  have hs2 : 2 ≤ s.length := by have := h1.1.1.1; omega
  have hs34 : s.getD 0 0 = 34 := h1.1.1.2
  have hse : s.getD (s.length - 1) 0 = 34 := h1.1.2
  have htx : (inner s).all textB = true := h1.2
  have hj : ((s.take (s.length - 1)).drop 1).length ≤ s.length := inner_length s
  refine jc_skip (jq_then (jc_seq (jc_region (jo_pure rfl (pr_move rfl) (jo_pure rfl (pr_move rfl) (jo_pure rfl (pr_slen rfl Tryz.underlying9) ?_))))))
  refine jo_pure rfl (pr_subN (m := s.length) (n := 1) rfl rfl (by first | omega | (simp at hg; omega)) (by first | omega | (simp at hg; omega))) ?_
  refine jo_pure rfl (pr_sslice (i := 1) (j := s.length - 1) rfl rfl rfl Tryz.underlying9 (by first | omega | (simp at hg; omega)) (by first | omega | (simp at hg; omega))) ?_
  refine jo_pure rfl (pr_assign rfl) (jo_nil (jq_then (jc_seq (jc_region (jo_pure rfl (pr_assign rfl) (jo_nil (jq_then (jc_seq (jc_seq (jc_region (jo_pure rfl (pr_assign rfl) (jo_nil (jq_then (jc_block (j_nil_row 5 .u8 ?_)))))))))))))))
  refine jc_loop3 (fun (i : Nat) (v : Value) (acc : Str) => [(4, str ((s.take (s.length - 1)).drop 1)), (5, v), (6, .int .i64 ((i : Nat) : Int))]) (fun (i : Nat) (v : Value) (acc : Str) => [.row (v) 5 .u8 (acc)]) (fun (i : Nat) (v : Value) (acc : Str) => i ≤ ((s.take (s.length - 1)).drop 1).length ∧ acc.length ≤ i ∧ unqGo acc ((inner s).drop i) = unqGo [] (inner s)) (fun (i : Nat) (v : Value) (acc : Str) => ((s.take (s.length - 1)).drop 1).length - i) 0 (.slice none 0 0) [] (⟨Nat.zero_le _, Nat.le_refl _, rfl⟩) (⟨rfl, rfl, rfl, trivial⟩) (fun _ h => h) (fun i v acc hinv => ?_)
  refine jc_seq (jc_seq (jc_region (jo_pure rfl (pr_move rfl) (jo_pure rfl (pr_move rfl) (jo_pure rfl (pr_slen rfl Tryz.underlying9) ?_)))))
  refine jo_pure rfl (pr_lssN (m := i) (n := ((s.take (s.length - 1)).drop 1).length) rfl rfl) ?_
  refine jo_nil (jq_then ?_)
  refine jc_cond rfl (fun h2b => ?_) (fun h2b => ?_)
  ·have h2 := of_decide_eq_true h2b
   refine jc_skip (jq_then (jc_seq (jc_block (jc_seq (jc_seq (jc_region (jo_pure rfl (pr_move rfl) (jo_pure rfl (pr_move rfl) (jo_pure rfl (pr_sindex (i := i) rfl rfl Tryz.underlying9 (by first | omega | (simp at hg; omega))) ?_)))))))))
   refine jo_nil (jq_then (jc_block (jc_seq (jc_region (jo_pure rfl (pr_beql (n := 34) rfl rfl) ?_)))))
   refine jo_pure rfl (pr_assign rfl) (jo_nil (jq_then ?_))
   refine jc_cond rfl (fun h3b => ?_) (fun h3b => ?_)
   ·have h3 := of_decide_eq_true h3b
    refine jc_seq (jc_region (jo_pure rfl (pr_assign rfl) (jo_pure rfl (pr_assign rfl) (jo_nil (jq_then (jc_ret (jq_in_ret ?_)))))))
    refine jq_then_ret (jq_in_ret ?_)
    refine jq_then_ret (jq_then_ret (jq_in_ret ?_))
    refine jq_then_ret (j_drop ?_)
    exact jq_rets (rs := [.tmp 2, .tmp 3]) (vs := [str ([]), .bool (false)]) rfl () ⟨resV_tmp rfl, resV_tmp rfl, trivial⟩ rfl (show (.tuple #[str ((unq s).1), .bool ((unq s).2)] : Value) = (.tuple #[str ([]), .bool (false)]) from by rw [unq_yes hs2 hs34 hse (unq_quote h2 h3 hinv.2.2)] <;> rfl) (fun _ h => h)
   ·have h3 := of_decide_eq_false h3b
    refine jc_seq (jc_region (jo_pure rfl (pr_beql (n := 92) rfl rfl) ?_))
    refine jo_pure rfl (pr_assign rfl) (jo_nil (jq_then ?_))
    refine jc_cond rfl (fun h4b => ?_) (fun h4b => ?_)
    ·have h4 := of_decide_eq_true h4b
     refine jc_seq (jc_region (jo_pure rfl (pr_move rfl) (jo_pure rfl (pr_addN (m := i) (n := 1) rfl rfl (by omega)) ?_)))
     refine jo_pure rfl (pr_assign rfl) (jo_nil (jq_then (jc_seq (jc_region (jo_pure rfl (pr_move rfl) (jo_pure rfl (pr_move rfl) (jo_pure rfl (pr_slen rfl Tryz.underlying9) ?_)))))))
     refine jo_pure rfl (pr_eqlN (m := i + 1) (n := ((s.take (s.length - 1)).drop 1).length) rfl rfl) ?_
     refine jo_nil (jq_then ?_)
     refine jc_cond rfl (fun h5b => ?_) (fun h5b => ?_)
     ·have h5 := of_decide_eq_true h5b
      refine jc_seq (jc_region (jo_pure rfl (pr_assign rfl) (jo_pure rfl (pr_assign rfl) (jo_nil (jq_then (jc_ret (jq_in_ret ?_)))))))
      refine jq_then_ret (jq_in_ret ?_)
      refine jq_then_ret (jq_then_ret (jq_in_ret ?_))
      refine jq_then_ret (j_drop ?_)
      exact jq_rets (rs := [.tmp 2, .tmp 3]) (vs := [str ([]), .bool (false)]) rfl () ⟨resV_tmp rfl, resV_tmp rfl, trivial⟩ rfl (show (.tuple #[str ((unq s).1), .bool ((unq s).2)] : Value) = (.tuple #[str ([]), .bool (false)]) from by rw [unq_yes hs2 hs34 hse (unq_esc_end h2 h4 h5 hinv.2.2)] <;> rfl) (fun _ h => h)
     ·have h5 := of_decide_eq_false h5b
      refine jc_skip (jq_in_normal (jq_then (jc_region (jo_pure rfl (pr_move rfl) (jo_pure rfl (pr_move rfl) (jo_pure rfl (pr_move rfl) (jo_pure rfl (pr_sindex (i := i + 1) rfl rfl Tryz.underlying9 (by first | omega | (simp at hg; omega))) ?_)))))))
      refine jo_buildSlice (t := .u8) [((s.take (s.length - 1)).drop 1).getD (i + 1) 0] [byte (((s.take (s.length - 1)).drop 1).getD (i + 1) 0)] (fun a hf => by simp only [List.zipIdx_cons, List.zipIdx_nil, List.map_toArray, List.map_cons, List.map_nil, hf.ev (show ev _ (.tmp 59) = some (byte (((s.take (s.length - 1)).drop 1).getD (i + 1) 0)) from rfl)] <;> rfl) rfl Tryz.underlying103 ty_5 rfl rfl rfl rfl rfl (fun g1 => ?_)
      refine j_pull1 ?_
      refine jo_append rfl rfl Tryz.underlying103 ty_5 rfl (by simp only [List.length_append, List.length_cons, List.length_nil, maxLen]; omega) (by simp only [List.length_append, List.length_cons, List.length_nil]; omega) rfl (fun v1 => ?_)
      refine jo_pure rfl (pr_assign rfl) (jo_nil (jq_in_normal (jq_then (jc_region (jo_pure rfl (pr_move rfl) (jo_pure rfl (pr_addN (m := i + 1) (n := 1) rfl rfl (by omega)) ?_))))))
      refine jo_pure rfl (pr_assign rfl) (jo_nil ?_)
      refine jq_round' (((i + 1) + 1), v1, (acc ++ [((s.take (s.length - 1)).drop 1).getD (i + 1) 0])) (by (try dsimp only); exact (⟨by omega, by simp; omega, unq_esc (t := inner s) (by have : (inner s).length = ((s.take (s.length - 1)).drop 1).length := rfl; omega) h4 (text_get htx (by have : (inner s).length = ((s.take (s.length - 1)).drop 1).length := rfl; omega)) hinv.2.2⟩)) (by (try dsimp only); exact (by omega)) ⟨rfl, rfl, rfl, trivial⟩ (fun _ h => h)
    ·have h4 := of_decide_eq_false h4b
     refine jc_skip (jq_in_normal (jq_then (jc_region (jo_pure rfl (pr_move rfl) (jo_pure rfl (pr_move rfl) (jo_pure rfl (pr_move rfl) (jo_pure rfl (pr_sindex (i := i) rfl rfl Tryz.underlying9 (by first | omega | (simp at hg; omega))) ?_)))))))
     refine jo_buildSlice (t := .u8) [((s.take (s.length - 1)).drop 1).getD i 0] [byte (((s.take (s.length - 1)).drop 1).getD i 0)] (fun a hf => by simp only [List.zipIdx_cons, List.zipIdx_nil, List.map_toArray, List.map_cons, List.map_nil, hf.ev (show ev _ (.tmp 59) = some (byte (((s.take (s.length - 1)).drop 1).getD i 0)) from rfl)] <;> rfl) rfl Tryz.underlying103 ty_5 rfl rfl rfl rfl rfl (fun g2 => ?_)
     refine j_pull1 ?_
     refine jo_append rfl rfl Tryz.underlying103 ty_5 rfl (by simp only [List.length_append, List.length_cons, List.length_nil, maxLen]; omega) (by simp only [List.length_append, List.length_cons, List.length_nil]; omega) rfl (fun v2 => ?_)
     refine jo_pure rfl (pr_assign rfl) (jo_nil (jq_in_normal (jq_then (jc_region (jo_pure rfl (pr_move rfl) (jo_pure rfl (pr_addN (m := i) (n := 1) rfl rfl (by omega)) ?_))))))
     refine jo_pure rfl (pr_assign rfl) (jo_nil ?_)
     refine jq_round' ((i + 1), v2, (acc ++ [((s.take (s.length - 1)).drop 1).getD i 0])) (by (try dsimp only); exact (⟨by omega, by simp; omega, unq_plain h2 h3 h4 (text_get htx h2) hinv.2.2⟩)) (by (try dsimp only); exact (by omega)) ⟨rfl, rfl, rfl, trivial⟩ (fun _ h => h)
  ·have h2 := of_decide_eq_false h2b
   refine jc_exit ?_
   refine jq_then_exit ?_
   refine jq_then_exit ?_
   refine jq_in_hit ?_
   refine jq_then (jc_seq (jc_region (jo_pure rfl (pr_move rfl) (jo_pure rfl (pr_b2s_row (E := 5) rfl (.head _) Tryz.underlying103 Tryz.underlying5 Tryz.underlying9) ?_))))
   refine jo_pure rfl (pr_assign rfl) (jo_pure rfl (pr_assign rfl) (jo_nil (jq_then (jc_ret (j_drop ?_)))))
   exact jq_rets (rs := [.tmp 2, .tmp 3]) (vs := [str (acc), .bool (true)]) rfl () ⟨resV_tmp rfl, resV_tmp rfl, trivial⟩ rfl (show (.tuple #[str ((unq s).1), .bool ((unq s).2)] : Value) = (.tuple #[str (acc), .bool (true)]) from by rw [unq_yes hs2 hs34 hse (unq_end (t := inner s) (by have : (inner s).length = ((s.take (s.length - 1)).drop 1).length := rfl; omega) hinv.2.2)] <;> rfl) (fun _ h => h)

theorem c_param_one (s : Str) (hs : s.length ≤ 1000000) : Con Tryz.prog 149 #[str (s)] [] (fun _ : Unit => .tuple #[str ((oneP s).1), str ((oneP s).2.1), .bool ((oneP s).2.2)]) (fun _ => []) := by
 refine con_of_J (args := [str (s)]) (n := 33) Tryz.func149 rfl (Nat.le_of_ble_eq_true rfl) rfl (fun w0 I0 m0 => ?_)
 refine jc_seq (jc_region (jo_pure rfl (pr_assign rfl) (jo_pure rfl (pr_assign rfl) (jo_pure rfl (pr_assign rfl) (jo_nil (jq_then (jc_seq (jc_region (jo_pure rfl (pr_move rfl) ?_)))))))))
 refine jo_callp cal_146 (c_strings_Cut s [61] 61 (rfl) (by first | omega | (simp only [List.length_take, List.length_drop]; omega))) ⟨rfl, rfl, trivial⟩ rfl (trivial) (fun _ => ?_)
 refine jo_pure rfl (pr_move rfl) (jo_pure rfl (pr_extract rfl rfl) (jo_pure rfl (pr_extract rfl rfl) (jo_pure rfl (pr_extract rfl rfl) (jo_pure rfl (pr_assign rfl) (jo_pure rfl (pr_assign rfl) (jo_pure rfl (pr_assign rfl) (jo_nil (jq_then (jc_seq (jc_seq (jc_region (jo_pure rfl (pr_move rfl) (jo_pure rfl (pr_not rfl) (jo_pure rfl (pr_move rfl) (jo_gpure (j := 2) (want := false) rfl rfl rfl rfl (fun hg=>pr_move rfl) (jo_gcall (j := 2) (want := false) rfl rfl rfl cal_68 (fun hg => c_ascii_Token (s.take (pos s 61)) (by first | omega | (simp only [List.length_take, List.length_drop]; omega))) (fun hg => ⟨evg rfl hg, trivial⟩) rfl (fun _ => trivial) ?_))))))))))))))))
 refine jo_gpure (j := 2) (want := false) rfl rfl rfl rfl (fun hg=>pr_not (evg rfl hg)) ?_
 refine jo_pure rfl (pr_pick_or rfl rfl rfl) ?_
 refine jo_nil (jq_then ?_)
 refine jc_cond rfl (fun h1b => ?_) (fun h1b => ?_)
 ·have h1 := (fun q => Or.imp (fun q => id (bt_not q)) (fun q => id (bt_not q)) (bt_or q)) h1b
  refine jc_seq (jc_region (jo_pure rfl (pr_assign rfl) (jo_pure rfl (pr_assign rfl) (jo_pure rfl (pr_assign rfl) (jo_nil (jq_then (jc_ret (jq_then_ret ?_))))))))
  exact jq_rets (rs := [.tmp 2, .tmp 3, .tmp 4]) (vs := [str ([]), str ([]), .bool (false)]) rfl () ⟨resV_tmp rfl, resV_tmp rfl, resV_tmp rfl, trivial⟩ rfl (show (.tuple #[str ((oneP s).1), str ((oneP s).2.1), .bool ((oneP s).2.2)] : Value) = (.tuple #[str ([]), str ([]), .bool (false)]) from by rcases h1 with h1 | h1; rw [one_no (of_decide_eq_false h1)]; rw [one_bad h1]) (fun _ h => h)
 ·have h1 := (fun q => And.imp (fun q => id (bf_not q)) (fun q => id (bf_not q)) (bf_or q)) h1b
  refine jc_skip (jq_then (jc_seq (jc_seq (jc_region (jo_pure rfl (pr_move rfl) ?_)))))
  refine jo_callp cal_68 (c_ascii_Token (s.drop (pos s 61 + 1)) (by first | omega | (simp only [List.length_take, List.length_drop]; omega))) ⟨rfl, trivial⟩ rfl (trivial) (fun _ => ?_)
  refine jo_pure rfl (pr_not rfl) ?_
  refine jo_nil (jq_then ?_)
  refine jc_cond rfl (fun h2b => ?_) (fun h2b => ?_)
  ·have h2 := (fun q => id (bt_not q)) h2b
   refine jc_region (jo_pure rfl (pr_move rfl) ?_)
   refine jo_callp cal_152 (c_ascii_Unquote (s.drop (pos s 61 + 1)) (by first | omega | (simp only [List.length_take, List.length_drop]; omega))) ⟨rfl, trivial⟩ rfl (trivial) (fun _ => ?_)
   refine jo_pure rfl (pr_move rfl) (jo_pure rfl (pr_extract rfl rfl) (jo_pure rfl (pr_extract rfl rfl) (jo_pure rfl (pr_assign rfl) (jo_pure rfl (pr_assign rfl) (jo_nil (jq_then (jc_seq (jc_region (jo_pure rfl (pr_move rfl) ?_)))))))))
   refine jo_callp cal_69 (c_ascii_Lower (s.take (pos s 61)) (by first | omega | (simp only [List.length_take, List.length_drop]; omega))) ⟨rfl, trivial⟩ rfl (trivial) (fun _ => ?_)
   refine jo_pure rfl (pr_move rfl) (jo_pure rfl (pr_move rfl) (jo_pure rfl (pr_assign rfl) (jo_pure rfl (pr_assign rfl) (jo_pure rfl (pr_assign rfl) (jo_nil (jq_then (jc_ret ?_)))))))
   exact jq_rets (rs := [.tmp 2, .tmp 3, .tmp 4]) (vs := [str (lower (s.take (pos s 61))), str ((unq (s.drop (pos s 61 + 1))).1), .bool ((unq (s.drop (pos s 61 + 1))).2)]) rfl () ⟨resV_tmp rfl, resV_tmp rfl, resV_tmp rfl, trivial⟩ rfl (show (.tuple #[str ((oneP s).1), str ((oneP s).2.1), .bool ((oneP s).2.2)] : Value) = (.tuple #[str (lower (s.take (pos s 61))), str ((unq (s.drop (pos s 61 + 1))).1), .bool ((unq (s.drop (pos s 61 + 1))).2)]) from by rw [one_unq (of_decide_eq_true h1.1) h1.2 h2]) (fun _ h => h)
  ·have h2 := (fun q => id (bf_not q)) h2b
   refine jc_skip (jq_then (jc_seq (jc_region (jo_pure rfl (pr_move rfl) ?_))))
   refine jo_callp cal_69 (c_ascii_Lower (s.take (pos s 61)) (by first | omega | (simp only [List.length_take, List.length_drop]; omega))) ⟨rfl, trivial⟩ rfl (trivial) (fun _ => ?_)
   refine jo_pure rfl (pr_move rfl) (jo_pure rfl (pr_move rfl) (jo_pure rfl (pr_assign rfl) (jo_pure rfl (pr_assign rfl) (jo_pure rfl (pr_assign rfl) (jo_nil (jq_then (jc_ret ?_)))))))
   exact jq_rets (rs := [.tmp 2, .tmp 3, .tmp 4]) (vs := [str (lower (s.take (pos s 61))), str (s.drop (pos s 61 + 1)), .bool (decide (pos s 61 < s.length))]) rfl () ⟨resV_tmp rfl, resV_tmp rfl, resV_tmp rfl, trivial⟩ rfl (show (.tuple #[str ((oneP s).1), str ((oneP s).2.1), .bool ((oneP s).2.2)] : Value) = (.tuple #[str (lower (s.take (pos s 61))), str (s.drop (pos s 61 + 1)), .bool (decide (pos s 61 < s.length))]) from by rw [one_tok (of_decide_eq_true h1.1) h1.2 h2, h1.1]) (fun _ h => h)

theorem c_param_Parse (s : Str) (hs : s.length ≤ 1000000) : Con Tryz.prog 145 #[str (s)] [] (fun r1 : Value => .tuple #[str ((parseP s).1), r1, .bool ((parseP s).2.2)]) (fun r1 => [.row r1 121 (.pair .str .str) ((parseP s).2.1)]) := by
 refine con_of_J (args := [str (s)]) (n := 49) Tryz.func145 rfl (Nat.le_of_ble_eq_true rfl) rfl (fun w0 I0 m0 => ?_)
 refine jc_seq (jc_region (jo_pure rfl (pr_assign rfl) (jo_pure rfl (pr_assign rfl) (jo_pure rfl (pr_assign rfl) (jo_nil (jq_then (jc_seq (jc_region (jo_pure rfl (pr_move rfl) ?_)))))))))
 refine jo_callp cal_147 (c_param_cut s (by first | omega | (have := getD_len (i := 0) (cutF_mem s 59); omega) | (have := getD_len (i := i) hX; omega) | (have := getD_len (i := i) hX; have := trim_length ((((cutF s 59).take (cutF s 59).length).drop 1).getD i []); omega))) ⟨rfl, trivial⟩ rfl (trivial) (fun r1 => ?_)
 refine jo_pure rfl (pr_assign rfl) (jo_nil (jq_then (jc_seq (jc_region (jo_pure rfl (pr_move rfl) (jo_pure rfl (pr_idx_row (i := 0) rfl (.head _) rfl Tryz.underlying28 ty_9 (by first | omega | exact cutF_pos s 59)) ?_))))))
 refine jo_pure rfl (pr_load_elem_row (i := 0) (str ((cutF s 59).getD 0 [])) rfl (.head _) ty_9 rfl rfl (by first | omega | exact cutF_pos s 59) rfl) ?_
 refine jo_callp cal_148 (c_ascii_Trim ((cutF s 59).getD 0 []) (by first | omega | (have := getD_len (i := 0) (cutF_mem s 59); omega) | (have := getD_len (i := i) hX; omega) | (have := getD_len (i := i) hX; have := trim_length ((((cutF s 59).take (cutF s 59).length).drop 1).getD i []); omega))) ⟨rfl, trivial⟩ rfl (trivial) (fun _ => ?_)
 refine jo_pure rfl (pr_assign rfl) (jo_nil (jq_then (jc_seq (jc_seq (jc_region (jo_pure rfl (pr_move rfl) (jo_pure rfl (pr_seql rfl rfl) (jo_nil (jq_then ?_)))))))))
 refine jc_cond rfl (fun h1b => ?_) (fun h1b => ?_)
 ·have h1 := of_decide_eq_true h1b
  refine jc_seq (jc_region (jo_pure rfl (pr_assign rfl) (jo_pure rfl (pr_assign rfl) (jo_pure rfl (pr_assign rfl) (jo_nil (jq_then (jc_ret (jq_then_ret (j_nil_row 121 (.pair .str .str) ?_)))))))))
  refine j_pull1 (j_drop ?_)
  exact jq_rets (rs := [.tmp 2, .tmp 3, .tmp 4]) (vs := [str ([]), .slice none 0 0, .bool (false)]) rfl (.slice none 0 0) ⟨resV_tmp rfl, resV_tmp rfl, resV_tmp rfl, trivial⟩ rfl (show (.tuple #[str ((parseP s).1), (.slice none 0 0), .bool ((parseP s).2.2)] : Value) = (.tuple #[str ([]), .slice none 0 0, .bool (false)]) from by rw [parse_blank h1]) (fun _ h => by rw [parse_blank h1]; exact h)
 ·have h1 := of_decide_eq_false h1b
  have hX : ∀ x ∈ ((cutF s 59).take (cutF s 59).length).drop 1, x.length ≤ s.length := fun x hx => cutF_mem s 59 x (List.mem_of_mem_take (List.mem_of_mem_drop hx))
  have hXl : (((cutF s 59).take (cutF s 59).length).drop 1).length ≤ s.length + 1 := by have := cutF_length s 59; simp only [List.length_drop, List.length_take]; omega
  refine jc_skip (jq_then (jc_seq (jc_region (jo_pure rfl (pr_assign rfl) (jo_nil (jq_then (jc_seq (jc_seq (jc_region (jo_pure rfl (pr_move rfl) (j_pub_row (j_resl (l := 1) (h := (cutF s 59).length) (.head _) (by have := cutF_pos s 59; omega) (by omega) ?_))))))))))))
  refine jo_pure rfl (pr_slice_imm (l := 1) (h := (cutF s 59).length) rfl (.tail _ (.head _)) Tryz.underlying28 ty_9 ⟨_, rfl⟩ rfl (by have := cutF_pos s 59; omega) (by omega)) ?_
  refine jo_pure rfl (pr_len_imm rfl (.head _) Tryz.underlying28) ?_
  refine jo_pure rfl (pr_move rfl) (jo_nil (jq_then (jc_block (j_nil_row 121 (.pair .str .str) ?_))))
  refine jc_loop3 (fun (i : Nat) (v : Value) (acc : List Prm) => [(6, str (trim ((cutF s 59).getD 0 []))), (7, v), (22, resl (r1) (1) ((cutF s 59).length) 1), (23, .int .i64 (((((cutF s 59).take ((cutF s 59).length)).drop 1).length : Nat) : Int)), (24, .int .i64 ((i : Nat) : Int))]) (fun (i : Nat) (v : Value) (acc : List Prm) => [.row (v) 121 (.pair .str .str) (acc), .imm (.list .str) (resl (r1) (1) ((cutF s 59).length) 1) (((cutF s 59).take ((cutF s 59).length)).drop 1), .imm (.list .str) (r1) (cutF s 59)]) (fun (i : Nat) (v : Value) (acc : List Prm) => i ≤ (((cutF s 59).take (cutF s 59).length).drop 1).length ∧ acc.length ≤ i ∧ parsGo acc ((((cutF s 59).take (cutF s 59).length).drop 1).drop i) = parsGo [] ((cutF s 59).drop 1)) (fun (i : Nat) (v : Value) (acc : List Prm) => (((cutF s 59).take (cutF s 59).length).drop 1).length - i) 0 (.slice none 0 0) [] (⟨Nat.zero_le _, Nat.le_refl _, by rw [List.drop_zero, take_over (Nat.le_refl _)]⟩) (⟨rfl, rfl, rfl, rfl, rfl, trivial⟩) (fun _ h => h) (fun i v acc hinv => ?_)
  refine jc_seq (jc_region (jo_pure rfl (pr_lssN (m := i) (n := (((cutF s 59).take ((cutF s 59).length)).drop 1).length) rfl rfl) ?_))
  refine jo_nil (jq_then (jc_seq ?_))
  refine jc_cond rfl (fun h2b => ?_) (fun h2b => ?_)
  ·have h2 := of_decide_eq_true h2b
   refine jc_skip (jq_then (jc_seq (jc_block (jc_seq (jc_region (jo_pure rfl (pr_idx_imm (i := i) rfl (.tail _ (.head _)) rfl Tryz.underlying28 ty_9 (by first | omega | exact cutF_pos s 59)) ?_))))))
   refine jo_pure rfl (pr_load_elem_imm (i := i) (str ((((cutF s 59).take ((cutF s 59).length)).drop 1).getD i [])) rfl (.tail _ (.head _)) ty_9 rfl rfl (by first | omega | exact cutF_pos s 59) rfl) ?_
   refine jo_pure rfl (pr_assign rfl) (jo_nil (jq_then (jc_seq (jc_region (jo_pure rfl (pr_move rfl) ?_)))))
   refine jo_callp cal_148 (c_ascii_Trim ((((cutF s 59).take ((cutF s 59).length)).drop 1).getD i []) (by first | omega | (have := getD_len (i := 0) (cutF_mem s 59); omega) | (have := getD_len (i := i) hX; omega) | (have := getD_len (i := i) hX; have := trim_length ((((cutF s 59).take (cutF s 59).length).drop 1).getD i []); omega))) ⟨rfl, trivial⟩ rfl (trivial) (fun _ => ?_)
   refine jo_pure rfl (pr_assign rfl) (jo_nil (jq_then (jc_seq (jc_seq (jc_region (jo_pure rfl (pr_move rfl) (jo_pure rfl (pr_seql rfl rfl) (jo_nil (jq_then ?_)))))))))
   refine jc_cond rfl (fun h3b => ?_) (fun h3b => ?_)
   ·have h3 := of_decide_eq_true h3b
    refine jc_exit ?_
    refine jq_then_exit ?_
    refine jq_in_hit ?_
    refine jq_then (jc_region (jo_pure rfl (pr_addN (m := i) (n := 1) rfl rfl (by omega)) ?_))
    refine jo_pure rfl (pr_move rfl) (jo_nil (j_pull2 (j_pull2 (j_pull2 ?_))))
    refine jq_round' ((i + 1), v, acc) (by (try dsimp only); exact (⟨by omega, by omega, pars_skip h2 h3 hinv.2.2⟩)) (by (try dsimp only); exact (by omega)) ⟨rfl, rfl, rfl, rfl, rfl, trivial⟩ (fun _ h => h)
   ·have h3 := of_decide_eq_false h3b
    refine jc_skip (jq_then (jc_seq (jc_region (jo_pure rfl (pr_move rfl) ?_))))
    refine jo_callp cal_149 (c_param_one (trim ((((cutF s 59).take ((cutF s 59).length)).drop 1).getD i [])) (by first | omega | (have := getD_len (i := 0) (cutF_mem s 59); omega) | (have := getD_len (i := i) hX; omega) | (have := getD_len (i := i) hX; have := trim_length ((((cutF s 59).take (cutF s 59).length).drop 1).getD i []); omega))) ⟨rfl, trivial⟩ rfl (trivial) (fun _ => ?_)
    refine jo_pure rfl (pr_move rfl) (jo_pure rfl (pr_extract rfl rfl) (jo_pure rfl (pr_extract rfl rfl) (jo_pure rfl (pr_extract rfl rfl) (jo_pure rfl (pr_assign rfl) (jo_pure rfl (pr_assign rfl) (jo_pure rfl (pr_assign rfl) (jo_nil (jq_then (jc_seq (jc_seq (jc_region (jo_pure rfl (pr_move rfl) (jo_pure rfl (pr_not rfl) (jo_nil (jq_then ?_)))))))))))))))
    refine jc_cond rfl (fun h4b => ?_) (fun h4b => ?_)
    ·have h4 := (fun q => id (bt_not q)) h4b
     refine jc_seq (jc_region (jo_pure rfl (pr_assign rfl) (jo_pure rfl (pr_assign rfl) (jo_pure rfl (pr_assign rfl) (jo_nil (jq_then (jc_ret (jq_then_ret (jq_in_ret ?_)))))))))
     refine jq_then_ret (jq_then_ret (jq_in_ret ?_))
     refine jq_then_ret (j_nil_row 121 (.pair .str .str) ?_)
     refine j_pull1 (j_drop (j_pull1 (j_drop (j_pull1 (j_drop ?_)))))
     exact jq_rets (rs := [.tmp 2, .tmp 3, .tmp 4]) (vs := [str ([]), .slice none 0 0, .bool (false)]) rfl (.slice none 0 0) ⟨resV_tmp rfl, resV_tmp rfl, resV_tmp rfl, trivial⟩ rfl (show (.tuple #[str ((parseP s).1), (.slice none 0 0), .bool ((parseP s).2.2)] : Value) = (.tuple #[str ([]), .slice none 0 0, .bool (false)]) from by rw [parse_none h1 (pars_bad h2 h3 h4 hinv.2.2)]) (fun _ h => by rw [parse_none h1 (pars_bad h2 h3 h4 hinv.2.2)]; exact h)
    ·have h4 := (fun q => id (bf_not q)) h4b
     refine jc_skip (jq_then (jc_region (jo_pure rfl (pr_move rfl) (jo_pure rfl (pr_move rfl) (jo_pure rfl (pr_move rfl) (jo_pure rfl (pr_build [(0, str ((oneP (trim ((((cutF s 59).take ((cutF s 59).length)).drop 1).getD i []))).1)), (1, str ((oneP (trim ((((cutF s 59).take ((cutF s 59).length)).drop 1).getD i []))).2.1))] [str ((oneP (trim ((((cutF s 59).take ((cutF s 59).length)).drop 1).getD i []))).1), str ((oneP (trim ((((cutF s 59).take ((cutF s 59).length)).drop 1).getD i []))).2.1)] (fun a hf => by simp only [List.map_toArray, List.map_cons, List.map_nil, hf.ev (show ev _ (.tmp 41) = some (str ((oneP (trim ((((cutF s 59).take ((cutF s 59).length)).drop 1).getD i []))).1)) from rfl), hf.ev (show ev _ (.tmp 42) = some (str ((oneP (trim ((((cutF s 59).take ((cutF s 59).length)).drop 1).getD i []))).2.1)) from rfl)]) (by kernel_rfl)) ?_))))))
     refine jo_buildSlice (t := (.pair .str .str)) [((oneP (trim ((((cutF s 59).take ((cutF s 59).length)).drop 1).getD i []))).1, (oneP (trim ((((cutF s 59).take ((cutF s 59).length)).drop 1).getD i []))).2.1)] [.agg #[str ((oneP (trim ((((cutF s 59).take ((cutF s 59).length)).drop 1).getD i []))).1), str ((oneP (trim ((((cutF s 59).take ((cutF s 59).length)).drop 1).getD i []))).2.1)]] (fun a hf => by simp only [List.zipIdx_cons, List.zipIdx_nil, List.map_toArray, List.map_cons, List.map_nil, hf.ev (show ev _ (.tmp 43) = some (.agg #[str ((oneP (trim ((((cutF s 59).take ((cutF s 59).length)).drop 1).getD i []))).1), str ((oneP (trim ((((cutF s 59).take ((cutF s 59).length)).drop 1).getD i []))).2.1)]) from rfl)] <;> rfl) rfl Tryz.underlying116 ty_121 rfl rfl rfl rfl rfl (fun g1 => ?_)
     refine j_pull1 ?_
     refine jo_append rfl rfl Tryz.underlying116 ty_121 rfl (by simp only [List.length_append, List.length_cons, List.length_nil, maxLen]; omega) (by simp only [List.length_append, List.length_cons, List.length_nil]; omega) rfl (fun v1 => ?_)
     refine jo_pure rfl (pr_assign rfl) (jo_nil (jq_in_normal (jq_then (jc_region (jo_pure rfl (pr_addN (m := i) (n := 1) rfl rfl (by omega)) ?_)))))
     refine jo_pure rfl (pr_move rfl) (jo_nil (j_pull2 (j_pull2 (j_pull2 ?_))))
     refine jq_round' ((i + 1), v1, (acc ++ [((oneP (trim ((((cutF s 59).take ((cutF s 59).length)).drop 1).getD i []))).1, (oneP (trim ((((cutF s 59).take ((cutF s 59).length)).drop 1).getD i []))).2.1)])) (by (try dsimp only); exact (⟨by omega, by simp; omega, pars_ok h2 h3 h4 hinv.2.2⟩)) (by (try dsimp only); exact (by omega)) ⟨rfl, rfl, rfl, rfl, rfl, trivial⟩ (fun _ h => h)
  ·have h2 := of_decide_eq_false h2b
   refine jc_exit ?_
   refine jq_then_exit ?_
   refine jq_then_exit ?_
   refine jq_in_hit ?_
   refine jq_then (jc_seq (jc_region (jo_pure rfl (pr_move rfl) (jo_pure rfl (pr_move rfl) (jo_pure rfl (pr_assign rfl) (jo_pure rfl (pr_assign rfl) (jo_pure rfl (pr_assign rfl) (jo_nil (jq_then (jc_ret (j_pull1 (j_drop (j_pull1 (j_drop ?_))))))))))))))
   exact jq_rets (rs := [.tmp 2, .tmp 3, .tmp 4]) (vs := [str (trim ((cutF s 59).getD 0 [])), v, .bool (true)]) rfl v ⟨resV_tmp rfl, resV_tmp rfl, resV_tmp rfl, trivial⟩ rfl (show (.tuple #[str ((parseP s).1), v, .bool ((parseP s).2.2)] : Value) = (.tuple #[str (trim ((cutF s 59).getD 0 [])), v, .bool (true)]) from by rw [parse_some h1 (pars_end (by omega) hinv.2.2)]) (fun _ h => by rw [parse_some h1 (pars_end (by omega) hinv.2.2)]; exact h)

end Go.Proofs.YtlniaacdjllonaaGreat
