/-
  Plain laws of writing parameters, and of reading back what was written. No program in sight.
-/
import Derived.Test.YtikllmfjgpmcnaaDoorLaw09
namespace Go.Plain
set_option linter.unusedSimpArgs false
set_option linter.unusedVariables false

section
variable {l : List Prm} {value acc : Str} {i : Nat}
theorem format_step (h : i < l.length) (e : acc = value ++ (l.take i).flatMap (fun p => 59 :: pieceP p)) : value ++ (l.take (i + 1)).flatMap (fun p => 59 :: pieceP p) = acc ++ 59 :: pieceP (l.getD i ([], [])) := by
  rw [flatMap_step (dd := ([], [])) h, ← List.append_assoc, ← e]
theorem format_tok (h : i < l.length) (e : acc = value ++ (l.take i).flatMap (fun p => 59 :: pieceP p)) (ht : token (l.getD i ([], [])).2 = true) : (acc ++ (([59] ++ (l.getD i ([], [])).1) ++ [61])) ++ (l.getD i ([], [])).2 = value ++ (l.take (i + 1)).flatMap (fun p => 59 :: pieceP p) := by
  rw [format_step h e]; revert ht; generalize l.getD i ([], []) = p; intro ht; simp [pieceP, wr, ht]
theorem format_quo (h : i < l.length) (e : acc = value ++ (l.take i).flatMap (fun p => 59 :: pieceP p)) (ht : token (l.getD i ([], [])).2 = false) : (acc ++ (([59] ++ (l.getD i ([], [])).1) ++ [61])) ++ quote (l.getD i ([], [])).2 = value ++ (l.take (i + 1)).flatMap (fun p => 59 :: pieceP p) := by
  rw [format_step h e]; revert ht; generalize l.getD i ([], []) = p; intro ht; simp [pieceP, wr, ht]
theorem format_tok2 (h : i < l.length) (e : acc = value ++ (l.take i).flatMap (fun p => 59 :: pieceP p)) (ht : token (l.getD i ([], [])).2 = true) : acc ++ ((([59] ++ (l.getD i ([], [])).1) ++ [61]) ++ (l.getD i ([], [])).2) = value ++ (l.take (i + 1)).flatMap (fun p => 59 :: pieceP p) := by
  rw [← format_tok h e ht]; simp
theorem format_quo2 (h : i < l.length) (e : acc = value ++ (l.take i).flatMap (fun p => 59 :: pieceP p)) (ht : token (l.getD i ([], [])).2 = false) : acc ++ ((([59] ++ (l.getD i ([], [])).1) ++ [61]) ++ quote (l.getD i ([], [])).2) = value ++ (l.take (i + 1)).flatMap (fun p => 59 :: pieceP p) := by
  rw [← format_quo h e ht]; simp
end
end Go.Plain
