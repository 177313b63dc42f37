/- The table of StepNames (chapter 02): no program in sight. -/
import Derived.Test.YtcnbfpmognijcaaDoorPure7
namespace Galley
open Go

def tab : List (ByteArray × ByteArray × Nat) :=
  [(⟨#[97, 195, 169]⟩, ⟨#[97, 195, 169]⟩, 0), (⟨#[195, 97]⟩, ⟨#[239, 191, 189, 97]⟩, 1), (⟨#[226, 130, 172, 130]⟩, ⟨#[226, 130, 172, 239, 191, 189]⟩, 1),
   (⟨#[226, 130]⟩, ⟨#[239, 191, 189, 239, 191, 189]⟩, 2), (⟨#[239, 191, 189, 239]⟩, ⟨#[239, 191, 189, 239, 191, 189]⟩, 1), (⟨#[237, 160, 128]⟩, ⟨#[239, 191, 189, 239, 191, 189, 239, 191, 189]⟩, 3),
   (⟨#[192, 128]⟩, ⟨#[239, 191, 189, 239, 191, 189]⟩, 2), (⟨#[244, 144, 128, 128]⟩, ⟨#[239, 191, 189, 239, 191, 189, 239, 191, 189, 239, 191, 189]⟩, 4),
   (⟨#[240, 159, 152, 240, 159, 152, 128]⟩, ⟨#[239, 191, 189, 239, 191, 189, 239, 191, 189, 240, 159, 152, 128]⟩, 3)]
/-- how many steps are not whole -/
def badN (s : ByteArray) : Nat := (posL s).countP fun p => !whole s p
theorem tab_says : tab.all (fun x => x.1.size ≤ 16 && badN x.1 == x.2.2 && decide (runesBytes (runesL x.1) = x.2.1)) = true := by decide +kernel
end Galley
