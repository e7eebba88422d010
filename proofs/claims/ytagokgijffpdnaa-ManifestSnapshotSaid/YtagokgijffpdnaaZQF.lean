import Derived.Test.YtagokgijffpdnaaZQ2
import Derived.Test.YtagokgijffpdnaaZQC
namespace Go.Proofs.YtagokgijffpdnaaQ
open Go.Proofs.YtagokgijffpdnaaW.PrintWords
set_option linter.unusedVariables false
set_option linter.unusedSimpArgs false
def le4 (n : Int) : List Int := [n % 256, n / 256 % 256, n / 65536 % 256, n / 16777216 % 256]
theorem le4_len (n : Int) : (le4 n).length = 4 := rfl
def num4 (l : List Int) : Int := rd l 0 + 256 * rd l 1 + 65536 * rd l 2 + 16777216 * rd l 3
inductive Fr where
  | part
  | bad
  | whole (t r : List Int)
def frI (l : List Int) : Fr :=
  if l.length < 4 then .part
  else if 1048576 < num4 l then .bad
  else if (l.length : Int) < num4 l + 8 then .part
  else if num4 (l.drop (4 + (num4 l).toNat)) = ((crc ((l.drop 4).take (num4 l).toNat) : Nat) : Int) then .whole ((l.drop 4).take (num4 l).toNat) (l.drop (8 + (num4 l).toNat))
  else .bad
end Go.Proofs.YtagokgijffpdnaaQ
