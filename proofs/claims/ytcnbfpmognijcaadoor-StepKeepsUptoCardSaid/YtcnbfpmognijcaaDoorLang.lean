/- The walk of StepLanguage. -/
import Derived.Test.YtcnbfpmognijcaaDoorLangLast
namespace Go.Proofs.YtcnbfpmognijcaaDoor
open Go.RowKit Galley Go.Proofs.YtcnbfpmognijcaaDoorW.PrintWords

/-- the place of the round, the step's cells -/
theorem at_round (s : ByteArray) (pre : List Nat) (pos : Nat) (h : posL s = pre ++ posAt s pos) (hp : pos < s.size) : (posL s)[pre.length]? = some pos ∧ pre.length < (posL s).length := by
  rw [h, posAt_step s pos hp]
  simp

set_option maxRecDepth 100000 in
set_option maxHeartbeats 1000000 in
theorem lang_walk (A : Option Addr) (c : Nat) (s : ByteArray) (w : World) (hg : BadLies w) (hb : Byt w A c s) (hs : s.size ≤ 1073741824) :
    Calls Tryd.prog 5 #[.slice A s.size c] w fun e w' => e = .returned (.bool true) ∧ Below w.heap.size w w' := by
  have hlt := hg.lt
  have HG := Lib.hid hg
  have HY := Lib.hid hb
  clear hg hb
  go_enter Tryd.func5, Tryd.ntmps5
  go_wp2_with fail
  refine (fixed_calls _ HG.out).mono ?_
  rintro e w0 ⟨rfl, h0⟩
  have H0 := Lib.hid h0
  clear h0
  go_wp2_with fail
  refine (All_calls _ _ _ _ (HY.out.below H0.out)).mono ?_
  rintro e w1 ⟨rfl, rfl⟩
  have H1 : Hid (Below w.heap.size w (w0.alloc (.cells #[.string s] 9))) := H0.out.alloc H0.out.size _
  have hc1 : (w0.alloc (.cells #[.string s] 9)).cell? ⟨w0.heap.size, 0, none⟩ = some (.string s) := by simp
  have HC1 := Lib.hid hc1
  clear hc1
  go_wp2_with fail
  refine (gone_all _ s hs _ HC1.out (HG.out.below H1.out hlt)).mono ?_
  rintro e W1 ⟨A1, c1, A2, c2, rfl, hG, h2⟩
  have H2 := Lib.hid (H1.out.trans (h2.mono H1.out.size))
  have HGv := Lib.hid hG
  have hstr := (HY.out.below H2.out).str
  clear hG h2 H1 HC1 H0
  go_wp2_with fail
  go_loopw [5] (fun i wr => ∃ (pre : List Nat) (pos : Nat), i = .int .i64 pre.length ∧ posL s = pre ++ posAt s pos ∧ wr = W1.iter s pos) (fun _ wr => strLeft s W1.heap.size wr)
  case atStart => exact ⟨[], 0, rfl, (posAt_zero s).symm, rfl⟩
  case round =>
    obtain ⟨pre, pos, rfl, hpre, rfl⟩ := hrel
    have hpl : pre.length ≤ (posL s).length := by rw [hpre]; simp
    have hps := posL_length s
    have HP := Lib.hid hpre
    clear hpre
    by_cases hp : pos < s.size
    · obtain ⟨hk, hkl⟩ := at_round s pre pos HP.out hp
      obtain ⟨g1, rfl, k1⟩ := HGv.out.places _ _ hk
      obtain ⟨g2, rfl, k2, _, _⟩ := HGv.out.steps _ _ hk
      have k1' := cell_stays (w' := W1.iter s (pos + width s pos)) ((Below.refl _ W1).alloc (Nat.le_refl _) _) k1
      have k2' := cell_stays (w' := W1.iter s (pos + width s pos)) ((Below.refl _ W1).alloc (Nat.le_refl _) _) k2
      have hnx := fun ty => run_next_any (P := Tryd.prog) W1 s pos ty hp
      rw [decode_eq s pos hp] at hnx
      clear k1 k2 hk
      go_wp2_with fail
      go_roundw
      case rel =>
        refine ⟨pre ++ [pos], pos + width s pos, by simp, ?_, rfl⟩
        rw [HP.out, posAt_step s pos hp]; simp
      case measure =>
        have := width_pos s pos
        rw [strLeft_at (World.iter_heap W1 s (pos + width s pos)), strLeft_at (World.iter_heap W1 s pos)]; omega
    · have hnx := fun ty => run_next_end (P := Tryd.prog) W1 s pos ty hp
      have hk : pre.length = (posL s).length := by rw [HP.out, posAt_end s pos hp]; simp
      have H3 : Hid (Below w.heap.size w (W1.iter s pos)) := H2.out.alloc H2.out.size _
      clear HP
      rw [hk]
      go_wp2_with (go_at_call 13; (with_reducible refine (runes_calls _ _ _ _ (HY.out.below H3.out) (by omega)).mono ?_); rintro e w4 ⟨v, rfl, hR, hB⟩; have hR' := Lib.hid hR; have H4 := Lib.hid (H3.out.trans (hB.mono H3.out.size)); clear hR hB H3)
      obtain ⟨Av, cv, rfl, hRv⟩ := runs_of_R hR'.out
      have hD4 : Below w4.heap.size w4 w4.drew := (Below.refl _ _).drew
      have HY4 := Lib.hid ((HY.out.below H4.out).below hD4)
      have HR4 := Lib.hid (Kd.R_below hR'.out hD4)
      clear hRv hD4
      refine Code.wp_mono (Q := fun e a w9 => match e with | .normal => a.eval (.tmp 2) = .bool true ∧ a.defers = [] ∧ Below w4.heap.size w4 w9 | _ => False) ?_ (lang_last A A1 Av c c1 cv _ s w4 _ _ hs HY4.out HR4.out (fun a w' h1 h2 h3 => ⟨h1, h2, h3⟩) (fun _ _ _ => rfl))
      intro e a w9 h
      cases e with
      | normal =>
        obtain ⟨ha, hd, hb9⟩ := h
        rename_i a0
        refine a0 _ _ ?_
        go_wp2_with fail
        refine bodyPost_ret (v := .bool true) (by simp [results, Tryd.results5]; simpa [Act.eval] using ha) hd ⟨rfl, H4.out.trans (hb9.mono H4.out.size)⟩
      | _ => exact h.elim
end Go.Proofs.YtcnbfpmognijcaaDoor
