/- The words of the dump's head: the text's characters are read once, as a list, so that no closed fact of a row decodes the string. -/
import Derived.Test.YtnjgcacnfobmiaaRows
import Derived.KernelRfl
import Derived.JoinedOf
namespace Go.Proofs.Ytnjgcacnfobmiaa
open Go
set_option maxRecDepth 100000

theorem wordsSigns_word : ∀ (a r : List Char), a.all (fun c => c != ' ') = true → wordsSigns (a ++ ' ' :: r) = a :: wordsSigns r
  | [], r, _ => rfl
  | c :: a, r, h => by
    rw [List.all_cons, Bool.and_eq_true] at h
    have ih := wordsSigns_word a r h.2
    have hc : c ≠ ' ' := by simpa using h.1
    rw [List.cons_append, wordsSigns]
    · rw [ih]
    · exact hc

def ioR : List Char := ['a', 't', ' ', 'l', 'o', 'o', 'p', '.', 'e', 'x', 'a', 'm', 'p', 'l', 'e', '/', 'g', '0', '1', '2', '3', '1', '/', 'l', 'a', 'w', 's', '.', 'F', 'n', 'E', 'x', 'a', 'c', 't', 'F', 'l', 'a', 't', 'G', 'a', 't', 'h', 'e', 'r', ' ', 'l', 'o', 'o', 'p', '.', 'e', 'x', 'a', 'm', 'p', 'l', 'e', '/', 'g', '0', '1', '2', '3', '1', '/', 'l', 'a', 'w', 's', '.', 'F', 'n', 'E', 'x', 'a', 'c', 't', 'P', 'e', 'a', 'k', 'O', 'f', 'T', 'r', 'a', 'c', 'e', ' ', 'l', 'o', 'o', 'p', '.', 'e', 'x', 'a', 'm', 'p', 'l', 'e', '/', 'g', '0', '1', '2', '3', '1', '/', 'l', 'a', 'w', 's', '.', 'F', 'n', 'E', 'x', 'a', 'c', 't', 'P', 'e', 'e', 'l', 'T', 'r', 'a', 'c', 'e', ' ', 'l', 'o', 'o', 'p', '.', 'e', 'x', 'a', 'm', 'p', 'l', 'e', '/', 'g', '0', '1', '2', '3', '1', '/', 'l', 'a', 'w', 's', '.', 'F', 'n', 'E', 'x', 'a', 'c', 't', 'E', 'c', 'h', 'o', 'e', 's', 'O', 'f', ' ', 'l', 'o', 'o', 'p', '.', 'e', 'x', 'a', 'm', 'p', 'l', 'e', '/', 'g', '0', '1', '2', '3', '1', '/', 'l', 'a', 'w', 's', '.', 'F', 'n', 'E', 'x', 'a', 'c', 't', 'S', 'p', 'e', 'c', 't', 'r', 'u', 'm', 'A', 't', ' ', 'l', 'o', 'o', 'p', '.', 'e', 'x', 'a', 'm', 'p', 'l', 'e', '/', 'g', '0', '1', '2', '3', '1', '/', 'l', 'a', 'w', 's', '.', 'F', 'n', 'E', 'x', 'a', 'c', 't', 'S', 'p', 'e', 'c', 't', 'r', 'u', 'm', 'O', 'f', 'T', 'r', 'a', 'c', 'e', ' ', 'l', 'o', 'o', 'p', '.', 'e', 'x', 'a', 'm', 'p', 'l', 'e', '/', 'g', '0', '1', '2', '3', '1', '/', 'l', 'a', 'w', 's', '.', 'F', 'n', 'E', 'x', 'a', 'c', 't', 'K', 'e', 'e', 'p', 'P', 'l', 'a', 'c', 'e', 's', ' ', 'l', 'o', 'o', 'p', '.', 'e', 'x', 'a', 'm', 'p', 'l', 'e', '/', 'g', '0', '1', '2', '3', '1', '/', 'l', 'a', 'w', 's', '.', 'F', 'n', 'E', 'x', 'a', 'c', 't', 'S', 'h', 'i', 'f', 't', 's', 'O', 'f', ' ', 'l', 'o', 'o', 'p', '.', 'e', 'x', 'a', 'm', 'p', 'l', 'e', '/', 'g', '0', '1', '2', '3', '1', '/', 'l', 'a', 'w', 's', '.', 'F', 'n', 'E', 'x', 'a', 'c', 't', 'S', 'h', 'i', 'f', 't', 'G', 'a', 't', 'h', 'e', 'r', ' ', 'l', 'o', 'o', 'p', '.', 'e', 'x', 'a', 'm', 'p', 'l', 'e', '/', 'g', '0', '1', '2', '3', '1', '/', 'l', 'a', 'w', 's', '.', 'F', 'n', 'E', 'x', 'a', 'c', 't', 'S', 'o', 'r', 't', 'G', 'a', 't', 'h', 'e', 'r', ' ', 'l', 'o', 'o', 'p', '.', 'e', 'x', 'a', 'm', 'p', 'l', 'e', '/', 'g', '0', '1', '2', '3', '1', '/', 'l', 'a', 'w', 's', '.', 'F', 'n', 'E', 'x', 'a', 'c', 't', 'R', 'a', 'y', 'T', 'o', ' ', 'l', 'o', 'o', 'p', '.', 'e', 'x', 'a', 'm', 'p', 'l', 'e', '/', 'g', '0', '1', '2', '3', '1', '/', 'l', 'a', 'w', 's', '.', 'F', 'n', 'E', 'x', 'a', 'c', 't', 'E', 'c', 'h', 'o', 'R', 'a', 'y', ' ', 'l', 'o', 'o', 'p', '.', 'e', 'x', 'a', 'm', 'p', 'l', 'e', '/', 'g', '0', '1', '2', '3', '1', '/', 'l', 'a', 'w', 's', '.', 'F', 'n', 'E', 'x', 'a', 'c', 't', 'S', 'h', 'o', 'o', 't', 'R', 'a', 'y', ' ', 'l', 'o', 'o', 'p', '.', 'e', 'x', 'a', 'm', 'p', 'l', 'e', '/', 'g', '0', '1', '2', '3', '1', '/', 'l', 'a', 'w', 's', '.', 'F', 'n', 'E', 'x', 'a', 'c', 't', 'H', 'e', 'a', 'd', 'T', 'i', 'm', 'e', ' ', 'l', 'o', 'o', 'p', '.', 'e', 'x', 'a', 'm', 'p', 'l', 'e', '/', 'g', '0', '1', '2', '3', '1', '/', 'l', 'a', 'w', 's', '.', 'F', 'n', 'E', 'x', 'a', 'c', 't', 'F', 'i', 'r', 's', 't', 'T', 'i', 'm', 'e', ' ', 'l', 'o', 'o', 'p', '.', 'e', 'x', 'a', 'm', 'p', 'l', 'e', '/', 'g', '0', '1', '2', '3', '1', '/', 'l', 'a', 'w', 's', '.', 'F', 'n', 'E', 'x', 'a', 'c', 't', 'R', 'e', 'f', 'l', 'e', 'c', 't', 'A', 'n', 'g', 'l', 'e', ' ', 'l', 'o', 'o', 'p', '.', 'e', 'x', 'a', 'm', 'p', 'l', 'e', '/', 'g', '0', '1', '2', '3', '1', '/', 'l', 'a', 'w', 's', '.', 'F', 'n', 'E', 'x', 'a', 'c', 't', 'P', 'a', 's', 's', 'A', 'n', 'g', 'l', 'e']
def ioS : List Char := ['4', 'd', '4', '6', 'e', '9', 'a', 'e', '2', '0', '3', 'c', '2', '5', '3', 'f', 'e', '6', '8', 'c', '3', 'a', '0', 'e', 'c', '3', '2', '8', '7', 'e', '0', '5', '8', '9', 'e', 'e', '2', 'c', 'b', 'c', '6', 'd', '0', '2', '1', 'b', '7', '3', 'b', '8', '5', '8', 'a', '0', '2', '8', 'd', '3', '8', '5', 'a', 'c', 'f', 'f']
theorem io : Try.prog.initOrder = String.ofList (['h', 'a', 'r', 'n', 'e', 's', 's'] ++ ' ' :: (ioS ++ ' ' :: (['c', 'u', 't'] ++ ' ' :: ioR))) := by kernel_rfl
theorem isSum : isSumSigns ioS = true := by decide +kernel
theorem behind_words (r : List (List Char)) : behindMainWord (['h', 'a', 'r', 'n', 'e', 's', 's'] :: ioS :: r) = r := by
  have h : ((['h', 'a', 'r', 'n', 'e', 's', 's'] == "harness".toList || ['h', 'a', 'r', 'n', 'e', 's', 's'] == "ownmain".toList) && isSumSigns ioS) = true := by rw [isSum]; decide +kernel
  simp only [behindMainWord, h, if_true]
theorem words : behindMainWord (wordsSigns Try.prog.initOrder.toList) = ['c', 'u', 't'] :: wordsSigns ioR := by
  rw [io, String.toList_ofList, wordsSigns_word _ _ (by decide +kernel), wordsSigns_word _ _ (by decide +kernel), wordsSigns_word _ _ (by decide +kernel), behind_words]
theorem headLifts : Try.prog.headLifts = [] := by
  unfold Program.headLifts
  rw [words]
  generalize wordsSigns ioR = r
  kernel_rfl
theorem liftsFinal : Try.prog.liftsFinal = false := by
  unfold Program.liftsFinal
  rw [headLifts, words]
  generalize wordsSigns ioR = r
  kernel_rfl
theorem make_law (P : Program) (r : List (List Char)) (h : behindMainWord (wordsSigns P.initOrder.toList) = ['c', 'u', 't'] :: r) : P.make = some .cut := by
  have h1 : (['c', 'u', 't'] == "gc".toList || ['c', 'u', 't'] == "spec".toList) = false := by decide +kernel
  have h2 : (['c', 'u', 't'] == "cut".toList) = true := by decide +kernel
  simp only [Program.make, h, h1, h2, Bool.true_or, if_true, Bool.false_eq_true, if_false]
theorem make : Try.prog.make = some .cut := make_law _ _ words
theorem laysLater : Try.prog.laysLater = false := by kernel_rfl
theorem bearsReflect : Try.prog.bearsReflect = false := by kernel_rfl
theorem doorRows : Try.prog.doorRows = [] := by kernel_rfl
theorem mayEnter_law (P : Program) (r : List (List Char)) (h : behindMainWord (wordsSigns P.initOrder.toList) = ['c', 'u', 't'] :: r) (h1 : P.laysLater = false) (h2 : P.bearsReflect = false) (h3 : P.doorRows = []) : P.mayEnter = true := by
  have hs : stripLifts liftWords (['c', 'u', 't'] :: r) = ([], ['c', 'u', 't'] :: r) := by
    have e : ∀ (o : List String), o.all (fun x => !(['c', 'u', 't'] == x.toList)) = true → stripLifts o (['c', 'u', 't'] :: r) = ([], ['c', 'u', 't'] :: r) := by
      intro o
      induction o with
      | nil => intro _; rfl
      | cons x xs ih =>
        intro hx
        rw [List.all_cons, Bool.and_eq_true] at hx
        have hx1 : (['c', 'u', 't'] == x.toList) = false := by simpa using hx.1
        rw [stripLifts, if_neg (by rw [hx1]; decide)]
        exact ih hx.2
    exact e _ (by decide +kernel)
  have hd : P.doorFits [] = true := by simp [Program.doorFits, h3]
  have hk : (['c', 'u', 't'] == "cut".toList) = true := by decide +kernel
  have hk' : "cut".toList = ['c', 'u', 't'] := by decide +kernel
  simp only [Program.mayEnter, h, hs, h1, h2, hd, hk', List.head?_cons, Bool.not_false, Bool.or_true, Bool.and_true, Bool.true_and, beq_self_eq_true]
  simp
theorem mayEnter : Try.prog.mayEnter = true := mayEnter_law _ _ words laysLater bearsReflect doorRows
end Go.Proofs.Ytnjgcacnfobmiaa
