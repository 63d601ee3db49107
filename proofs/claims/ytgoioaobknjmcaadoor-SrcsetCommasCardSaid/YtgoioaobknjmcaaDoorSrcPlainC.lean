/- Plain laws: the words of a text, one behind the other. -/
import Derived.Test.YtgoioaobknjmcaaDoorSrcC
import Derived.Test.YtgoioaobknjmcaaDoorSrcPlainB
namespace Go.Proofs.YtgoioaobknjmcaaDoor
theorem words_tail (l : Bs) : ∀ (acc : Bs) (c : UInt8), spB c = true → wordsA acc (l ++ [c]) = wordsA acc l := by
  induction l with
  | nil =>
    intro acc c h
    show (if spB c = true then (if acc = [] then wordsA [] [] else acc :: wordsA [] []) else wordsA (acc ++ [c]) []) = (if acc = [] then [] else [acc])
    rw [if_pos h]
    split <;> rfl
  | cons d l ih =>
    intro acc c h
    rw [List.cons_append, wordsA, wordsA, ih _ c h, ih _ c h]
theorem words_rtrim (l : Bs) : wordsL (rtrim l) = wordsL l := by
  suffices H : ∀ m : Bs, wordsL (rtrim m.reverse) = wordsL m.reverse by simpa using H l.reverse
  intro m
  induction m with
  | nil => rfl
  | cons c m ih =>
    rw [List.reverse_cons]
    cases h : spB c
    · rw [rtrim_no _ _ h]
    · rw [rtrim_sp _ _ h, ih]; unfold wordsL; rw [words_tail _ _ _ h]
theorem words_skip (l : Bs) : wordsL (l.dropWhile spB) = wordsL l := by
  induction l with
  | nil => rfl
  | cons c l ih =>
    cases h : spB c
    · rw [List.dropWhile_cons_of_neg (by simp [h])]
    · rw [List.dropWhile_cons_of_pos h, ih, words_sp _ _ h]
theorem words_trim (l : Bs) : wordsL (trimL l) = wordsL l := by
  unfold trimL; rw [words_rtrim, words_skip]
theorem words_round {c : UInt8} {r : Bs} (h : spB c = false) : wordsL (c :: r) = (c :: r).takeWhile (fun c => !spB c) :: wordsL ((c :: r).dropWhile (fun c => !spB c)) := by
  have hu : ((c :: r).takeWhile (fun c => !spB c)).all (fun c => !spB c) = true := List.all_takeWhile
  have hn : (c :: r).takeWhile (fun c => !spB c) ≠ [] := by rw [List.takeWhile_cons_of_pos (by simp [h])]; simp
  conv => lhs; rw [← List.takeWhile_append_dropWhile (p := fun c => !spB c) (l := c :: r)]
  have e : wordsL ((c :: r).takeWhile (fun c => !spB c) ++ (c :: r).dropWhile (fun c => !spB c)) = wordsA ((c :: r).takeWhile (fun c => !spB c)) ((c :: r).dropWhile (fun c => !spB c)) := by
    unfold wordsL
    rw [words_run _ [] _ hu, List.nil_append]
  rw [e]
  have hd := List.head?_dropWhile_not (fun c => !spB c) (c :: r)
  generalize (c :: r).takeWhile (fun c => !spB c) = u at *
  generalize (c :: r).dropWhile (fun c => !spB c) = t at *
  cases t with
  | nil => rw [wordsA, if_neg hn]; rfl
  | cons d t =>
    have hs : spB d = true := by simpa using hd
    rw [wordsA, if_pos hs, if_neg hn, words_sp _ _ hs]; rfl
end Go.Proofs.YtgoioaobknjmcaaDoor
