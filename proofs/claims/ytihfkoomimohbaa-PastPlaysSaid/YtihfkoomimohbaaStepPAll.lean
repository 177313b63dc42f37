/- The statements' step (pair): any call. -/
import Derived.Test.YtihfkoomimohbaaStepPDo
import Derived.Test.YtihfkoomimohbaaStepPB
import Derived.Test.YtihfkoomimohbaaStepPU
import Derived.Test.YtihfkoomimohbaaStepPR
import Derived.Test.YtihfkoomimohbaaStepPBad
namespace Go.Proofs.Ytihfkoomimohbaa
open Go.RowKit Past17

theorem step_any_pair (w : World) (base b : Nat) (m : Pst Int) (A1 : Option Addr) (c1 : Nat) (A2 : Option Addr) (c2 : Nat) (op : Bool) (word : ByteArray) (frm : Int) (done : Bool) (s : Int) (wd : ByteArray) (k : Int)
    (hP : Ppair.Past w base b (mapP pf m)) (hR : RAt w m (.agg #[.bool false, .int .i64 m.st, .int .i64 m.most, .slice A1 m.back.length c1, .slice A2 m.again.length c2, .bool op, .string word, .int .i64 frm, .bool done])) :
    Calls Try.prog 33 #[.pointer (some ⟨b, 0, none⟩), .agg #[.bool false, .int .i64 m.st, .int .i64 m.most, .slice A1 m.back.length c1, .slice A2 m.again.length c2, .bool op, .string word, .int .i64 frm, .bool done], .agg #[.int .i64 k, .int .i64 s, .string wd], .func (.func 14) #[] #[]] w
      fun e w' => ∃ vm' m', e = .returned (.tuple #[vm', .bool true]) ∧ Ppair.Past w' base b (mapP pf m') ∧ RAt w' m' vm' ∧ Ppair.Spares w w' ∧ Below base w w' := by
  by_cases e1 : k = 1
  · subst e1; exact step_do_pair w base b m A1 c1 A2 c2 op word frm done s wd hP hR
  by_cases e2 : k = 2
  · subst e2
    rcases undoA_cases m with ⟨x, hx⟩ | ⟨n, hx, hn⟩
    · exact step_undo_some_pair w base b m A1 c1 A2 c2 op word frm done s wd x hx hP hR
    · exact step_undo_none_pair w base b m A1 c1 A2 c2 op word frm done s wd n hn hx hP hR
  by_cases e3 : k = 3
  · subst e3
    rcases redoA_cases m with ⟨x, hx⟩ | ⟨n, hx, hn⟩
    · exact step_redo_some_pair w base b m A1 c1 A2 c2 op word frm done s wd x hx hP hR
    · exact step_redo_none_pair w base b m A1 c1 A2 c2 op word frm done s wd n hn hx hP hR
  by_cases e4 : k = 4
  · subst e4; exact step_begin_pair w base b m A1 c1 A2 c2 op word frm done s wd hP hR
  by_cases e5 : k = 5
  · subst e5; exact step_end_pair w base b m A1 c1 A2 c2 op word frm done s wd hP hR
  by_cases e6 : k = 6
  · subst e6; exact step_forget_pair w base b m A1 c1 A2 c2 op word frm done s wd hP hR
  exact step_none_pair w base b m A1 c1 A2 c2 op word frm done s wd k e1 e2 e3 e4 e5 e6 hP hR
theorem bad_any_pair (w : World) (s : Int) (wd : ByteArray) (k : Int) :
    Calls Try.prog 33 #[.pointer none, .agg #[.bool true, .int .i64 0, .int .i64 0, .slice none 0 0, .slice none 0 0, .bool false, .string ⟨#[]⟩, .int .i64 0, .bool false], .agg #[.int .i64 k, .int .i64 s, .string wd], .func (.func 14) #[] #[]] w
      fun e w' => e = .returned (.tuple #[.agg #[.bool true, .int .i64 0, .int .i64 0, .slice none 0 0, .slice none 0 0, .bool false, .string ⟨#[]⟩, .int .i64 0, .bool false], .bool true]) ∧ Below w.heap.size w w' := by
  by_cases e1 : k = 1
  · subst e1; exact bad_do_pair w s wd
  by_cases e2 : k = 2
  · subst e2; exact bad_undo_pair w s wd
  by_cases e3 : k = 3
  · subst e3; exact bad_redo_pair w s wd
  by_cases e4 : k = 4
  · subst e4; exact bad_begin_pair w s wd
  by_cases e5 : k = 5
  · subst e5; exact bad_end_pair w s wd
  by_cases e6 : k = 6
  · subst e6; exact bad_forget_pair w s wd
  exact bad_none_pair w s wd k e1 e2 e3 e4 e5 e6
end Go.Proofs.Ytihfkoomimohbaa
