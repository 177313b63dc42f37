/- The walk of PastMemory. -/
import Derived.Test.YtihfkoomimohbaaKept
import Derived.Test.YtihfkoomimohbaaMany
namespace Go.Proofs.Ytihfkoomimohbaa
open Go.RowKit Past17 Go.Many

def posM (q : Nat) : Nat := if q = 0 then 18 else if q = 1 then 19 else q - 4
def idxM (i : Nat) : Nat := if i < 18 then i + 4 else i - 18
def chrM (i : Nat) : Value := .string (Utf8.encode (65 + (i : Int)))
/-- what row q holds when the first k lists have been overwritten -/
def FM (back again : List ByteArray) (k q : Nat) (xs : List Value) : Prop :=
  (q = 2 → xs = back.map Value.string) ∧ (q = 3 → xs = again.map Value.string) ∧ (q ≠ 2 → q ≠ 3 → xs.length ≤ 4096 ∧ (posM q < k → ∀ s ∈ xs, s = chrM (posM q)))
theorem own_strs {w : World} {base n c : Nat} {A : Option Addr} {L : List ByteArray} (h : w.ownsRow base 9 1 (.slice A n c) (L.map Value.string).length (L.map Value.string)) : Strs w A L := by
  rw [List.length_map] at h
  rcases h.2 with ⟨e, hn⟩ | ⟨g, cap, cur, e, _⟩
  · intro j s hj
    have := (List.getElem?_eq_some_iff.1 hj).1
    omega
  · cases e
    intro j s hj
    have h1 := h.cells (g := g) rfl j (.string s) (by rw [List.getElem?_map, hj]; rfl)
    rw [add_zero_none] at h1
    exact ⟨g, rfl, h1⟩
theorem StrRow.own {w : World} {base : Nat} {v : Value} {L : List ByteArray} (h : StrRow w base v L) : w.ownsRow base 9 1 v (L.map Value.string).length (L.map Value.string) := by rw [List.length_map]; exact h
theorem rw_but {e e' : TypeId} {w w' : World} {base : Nat} {us : List Value} {F : Nat → List Value → Prop} (h : Rw e w base us F) (hb : But e' w w') (hne : e ≠ e') : Rw e w' base us F := fun i v hi => by
  obtain ⟨xs, h1, h2⟩ := h i v hi
  exact ⟨xs, but_row hb hne h1, h2⟩
theorem pos_idx (k : Nat) (h : k < 20) : posM (idxM k) = k ∧ idxM k ≠ 2 ∧ idxM k ≠ 3 ∧ idxM k < 22 := by unfold posM idxM; split <;> (split <;> (try split) <;> omega)
theorem idx_pos (q : Nat) (h : q < 22) (h2 : q ≠ 2) (h3 : q ≠ 3) : idxM (posM q) = q := by unfold posM idxM; split <;> (try split) <;> (try split) <;> omega
theorem infoStrs : (Try.prog.info? 37).map (fun i => (i.zero, i.size, i.bytes)) = some (some (.slice none 0 0), 1, 24) := by kernel_rfl

set_option maxRecDepth 100000 in
set_option maxHeartbeats 4000000 in
theorem memory_walk (most : Int) (A : Option Addr) (c n : Nat) (w : World) (hA : OpsAt w A n) : Calls Try.prog 8 #[.int .i64 most, .slice A n c] w fun e w' => e = .returned (.bool true) ∧ Below w.heap.size w w' := by
  obtain ⟨r0, hr0, hr1, hr2, hr3⟩ := Pint.info_parts infoStr
  obtain ⟨q0, hq0, hq1, hq2, hq3⟩ := Pint.info_parts infoStrs
  have HA := Lib.hid hA
  clear hA
  go_enter Try.func8, Try.ntmps8
  go_wp2_with fail
  refine (fixed_calls w).mono ?_
  rintro e w1 ⟨rfl, L1⟩
  replace L1 := Lib.hid L1
  go_wp2_with fail
  by_cases hb : most < 0 ∨ 4096 < most
  · refine (play_bad 0 most A c n w1 hb).mono ?_
    rintro e w2 ⟨rfl, rfl⟩
    by_cases h1 : most < 0
    · clear hb
      go_wp2_with fail
      go_ret
      exact ⟨rfl, L1.out⟩
    · have h2 : 4096 < most := hb.resolve_left h1
      clear hb
      go_wp2_with fail
      go_ret
      exact ⟨rfl, L1.out⟩
  obtain ⟨M, rfl⟩ : ∃ M : Nat, most = M := ⟨most.toNat, by omega⟩
  have hM : M ≤ 4096 := by omega
  clear hb
  refine (play_good 0 M A c n w1 hM (HA.out.below L1.out)).mono ?_
  rintro e w2 ⟨m0, rfl, P2, hm0, L2⟩
  obtain ⟨b, hbb⟩ : ∃ b, b = w1.heap.size := ⟨_, rfl⟩
  rw [← hbb] at P2 L2 ⊢
  replace P2 := Lib.hid P2
  replace L2 := Lib.hid (L1.out.trans (L2.mono (by rw [hbb]; exact L1.out.size)))
  have hwb : Hid (w.heap.size ≤ b) := by rw [hbb]; exact L1.out.size
  clear hbb
  have hok := P2.out.ok
  have hlen := hok.len
  rw [hm0] at hlen
  have hb2 : m0.back.length ≤ 4096 := by omega
  have ha2 : m0.again.length ≤ 4096 := by omega
  clear hok hm0
  go_wp2_with fail
  refine (Pint.Words_calls w2 b b m0 P2.out).mono ?_
  rintro e w3 ⟨vB, vA, rfl, rowB, rowA, dis, L3⟩
  have U1 : Apart [vB, vA] := fun i j v u g hi hj hv hu => by
    match i, j, hi, hj with
    | 0, 0, _, _ => rfl
    | 1, 1, _, _ => rfl
    | 0, 1, hi, hj => simp at hi hj; subst hi hj; exact absurd hu (dis g hv)
    | 1, 0, hi, hj => simp at hi hj; subst hi hj; exact absurd hv (dis g hu)
    | i + 2, _, hi, _ => simp at hi
    | 0, j + 2, _, hj => simp at hj
    | 1, j + 2, _, hj => simp at hj
  have W1 : Rw 9 w3 w2.heap.size [vB, vA] (FM (wordsP m0.back) (wordsP m0.again) 0) := fun i v hi => by
    match i, hi with
    | 0, hi => simp at hi; subst hi; exact ⟨_, rowB.own, fun e => by omega, fun e => by omega, fun _ _ => ⟨by rw [List.length_map, wordsP_length]; exact hb2, fun e => by omega⟩⟩
    | 1, hi => simp at hi; subst hi; exact ⟨_, rowA.own, fun e => by omega, fun e => by omega, fun _ _ => ⟨by rw [List.length_map, wordsP_length]; exact ha2, fun e => by omega⟩⟩
    | i + 2, hi => simp at hi
  obtain ⟨AB, cB, rfl, RB, _⟩ := rowB.reads'
  obtain ⟨AQ, cQ, rfl, RQ, _⟩ := rowA.reads'
  have P3 := Lib.hid (P2.out.below L3)
  have K3 := Lib.hid L3
  replace L3 := Lib.hid (L2.out.trans (L3.mono L2.out.size))
  replace RB := Lib.hid RB
  replace RQ := Lib.hid RQ
  replace U1 := Lib.hid U1
  replace W1 := Lib.hid W1
  have hz3 : w2.heap.size ≤ w3.heap.size := K3.out.size
  clear rowB rowA dis
  go_wp2_with (at_builtin; first
    | (refine wpList_append_strs _ rfl (.tmp 41) (.tmp 42) 37 rfl w2.heap.size r0 Try.underlying37 hr0 hr1 hr2 hr3 w3.heap.size 0 0 [] (by simp [Act.eval]) (World.ownsRow_made w3 #[] 0 hz3 (by unfold maxLen; omega) rfl) _ AB m0.back.length cB (wordsP m0.back) (by simp [Act.eval]) (RB.out.below ((Below.refl _ w3).alloc (Nat.le_refl _) _)) (wordsP_length _).symm (by omega) (by simp; omega) ?_; intro g1 cap1 x1 hown1 hgrow1 hg1; have y1 : w3.heap.size < x1.heap.size := (by have := hgrow1.size; simp at this; omega); have y1' : Below w3.heap.size w3 x1 := (((Below.refl _ w3).alloc (Nat.le_refl _) _).grown hgrow1 (by simp) (fun k e => by cases e; exact Nat.le_refl _)))
    | (refine wpList_append_strs _ rfl (.tmp 44) (.tmp 45) 37 rfl w2.heap.size r0 Try.underlying37 hr0 hr1 hr2 hr3 x1.heap.size 0 0 [] (by simp [Act.eval]) (World.ownsRow_made x1 #[] 0 (by omega) (by unfold maxLen; omega) rfl) _ AQ m0.again.length cQ (wordsP m0.again) (by simp [Act.eval]) ((RQ.out.below y1').below ((Below.refl _ x1).alloc (Nat.le_refl _) _)) (wordsP_length _).symm (by omega) (by simp; omega) ?_; intro g2 cap2 x2 hown2 hgrow2 hg2))
  obtain ⟨kb, hkb⟩ : ∃ kb : Value, kb = .slice (some ⟨g1, 0, none⟩) m0.back.length cap1 := ⟨_, rfl⟩
  obtain ⟨ka, hka⟩ : ∃ ka : Value, ka = .slice (some ⟨g2, 0, none⟩) m0.again.length cap2 := ⟨_, rfl⟩
  have kR : x1.ownsRow w2.heap.size 9 1 kb ((wordsP m0.back).map Value.string).length ((wordsP m0.back).map Value.string) := by
    rw [List.length_map, wordsP_length, hkb]; simpa using hown1
  have kQ : x2.ownsRow w2.heap.size 9 1 ka ((wordsP m0.again).map Value.string).length ((wordsP m0.again).map Value.string) := by
    rw [List.length_map, wordsP_length, hka]; simpa using hown2
  have Y2 : Below x1.heap.size x1 x2 := (((Below.refl _ x1).alloc (Nat.le_refl _) _).grown hgrow2 (by simp) (fun k e => by cases e; exact Nat.le_refl _))
  have V1 := (W1.out.below y1').snoc kR (show FM _ _ 0 2 _ from ⟨fun _ => rfl, fun e => by omega, fun e => absurd rfl e⟩)
  have V2 := (V1.below Y2).snoc kQ (show FM _ _ 0 3 _ from ⟨fun e => by omega, fun _ => rfl, fun _ e => absurd rfl e⟩)
  have U2 := U1.out.snoc (S := w3.heap.size) W1.out.under (v := kb) (fun g e => by
    have e' : g1 = g := by rw [hkb] at e; simpa [Value.ownBlock] using e
    have hs : (w3.alloc (.cells #[] 9)).heap.size = w3.heap.size + 1 := by simp
    rcases hg1 with h | h <;> omega)
  have U3 := U2.snoc (S := x1.heap.size) V1.under (v := ka) (fun g e => by
    have e' : g2 = g := by rw [hka] at e; simpa [Value.ownBlock] using e
    have hs : (x1.alloc (.cells #[] 9)).heap.size = x1.heap.size + 1 := by simp
    rcases hg2 with h | h <;> omega)
  have P4 := Lib.hid ((P3.out.below y1').below Y2)
  have L4 := Lib.hid ((L3.out.trans (y1'.mono L3.out.size)).trans (Y2.mono (Nat.le_trans L3.out.size y1'.size)))
  have hz4 : w2.heap.size ≤ x2.heap.size := by have := Y2.size; omega
  replace V2 := Lib.hid V2
  replace U3 := Lib.hid U3
  have HKB := Lib.hid hkb
  have HKA := Lib.hid hka
  rw [← hkb, ← hka]
  clear kR kQ Y2 V1 U2 hown1 hown2 hgrow1 hgrow2 hg1 hg2 y1 y1' hkb hka
  go_loopw [10, 11] (fun v i wr => ∃ (k : Nat) (ys : List Value), i = .int .i64 k ∧ k ≤ 9 ∧ ys.length = 2 * k ∧ Rw 9 wr w2.heap.size ([.slice AB m0.back.length cB, .slice AQ m0.again.length cQ] ++ [kb] ++ [ka] ++ ys) (FM (wordsP m0.back) (wordsP m0.again) 0) ∧ Apart ([.slice AB m0.back.length cB, .slice AQ m0.again.length cQ] ++ [kb] ++ [ka] ++ ys) ∧ wr.ownsRow w2.heap.size 37 1 v (2 * k) ys ∧ Pint.Past wr b b m0 ∧ w2.heap.size ≤ wr.heap.size ∧ Below w.heap.size w wr) (fun _ i _ => 9 - (intOf i).toNat)
  case atStart => exact ⟨0, [], rfl, Nat.zero_le _, rfl, by rw [List.append_nil]; exact V2.out, by rw [List.append_nil]; exact U3.out, World.ownsRow_nil _ _ _ _, P4.out, hz4, L4.out⟩
  case round =>
    obtain ⟨k, ys, rfl, hk, hys, hV, hU, hA, hP, hz, hL⟩ := hrel
    replace hV := Lib.hid hV
    replace hU := Lib.hid hU
    replace hA := Lib.hid hA
    replace hP := Lib.hid hP
    replace hL := Lib.hid hL
    by_cases hkl : k < 9
    · go_wp2_with fail
      refine (Pint.Words_calls wr b b m0 hP.out).mono ?_
      rintro e x5 ⟨vX, vY, rfl, rowX, rowY, dis, K5⟩
      have V5 := hV.out.below K5
      have U5 := hU.out.snoc (S := wr.heap.size) hV.out.under (v := vX) (fun g e => (World.ownsRow.lt rowX g e).1)
      have U6 := U5.snoc2 (v := vY) (fun i u g hi hu hg => by
        rcases Nat.lt_or_ge i ([Value.slice AB m0.back.length cB, .slice AQ m0.again.length cQ] ++ [kb] ++ [ka] ++ ys).length with hl | hl
        · rw [List.getElem?_append_left hl] at hi
          have h1 := hV.out.under i u g hi hu
          have h2 := (World.ownsRow.lt rowY g hg).1
          omega
        · rw [List.getElem?_append_right hl] at hi
          have hi2 := List.mem_of_getElem? hi
          rw [List.mem_singleton.1 hi2] at hu
          exact dis g hu hg)
      have hl4 : ([Value.slice AB m0.back.length cB, .slice AQ m0.again.length cQ] ++ [kb] ++ [ka] ++ ys).length = 4 + 2 * k := by simp [hys]; omega
      have V6 := (V5.snoc (rowX.mono hz).own (by rw [hl4]; exact ⟨fun e => by omega, fun e => by omega, fun _ _ => ⟨by rw [List.length_map, wordsP_length]; exact hb2, fun e => by omega⟩⟩)  ).snoc (rowY.mono hz).own (by rw [List.length_append, hl4, List.length_singleton]; exact ⟨fun e => by omega, fun e => by omega, fun _ _ => ⟨by rw [List.length_map, wordsP_length]; exact ha2, fun e => by omega⟩⟩)
      have SB : Strs x5 (some ⟨g1, 0, none⟩) (wordsP m0.back) := by
        obtain ⟨xs, h1, h2⟩ := V5 2 kb (by simp)
        rw [h2.1 rfl, HKB.out] at h1
        exact own_strs h1
      have SQ : Strs x5 (some ⟨g2, 0, none⟩) (wordsP m0.again) := by
        obtain ⟨xs, h1, h2⟩ := V5 3 ka (by simp)
        rw [h2.2.1 rfl, HKA.out] at h1
        exact own_strs h1
      obtain ⟨AX, cX, rfl, RX, _⟩ := rowX.reads'
      obtain ⟨AY, cY, rfl, RY, _⟩ := rowY.reads'
      have hA5 := but_row (But.of_below K5) (e := 3) (by decide) hA.out
      have P5 := Lib.hid (hP.out.below K5)
      have L5 := Lib.hid (hL.out.trans (K5.mono hL.out.size))
      have z5 := K5.size
      replace V6 := Lib.hid V6
      replace U6 := Lib.hid U6
      replace SB := Lib.hid SB
      replace SQ := Lib.hid SQ
      replace RX := Lib.hid RX
      replace RY := Lib.hid RY
      replace hA5 := Lib.hid hA5
      clear rowX rowY dis V5 U5 hl4 K5
      have hkb := HKB.out
      have hka := HKA.out
      subst hkb hka
      go_wp2_with fail
      refine (same_words' x5 AX (some ⟨g1, 0, none⟩) cX cap1 _ _ (wordsP m0.back) (wordsP_length _).symm (wordsP_length _).symm RX.out.strs SB.out (by rw [wordsP_length]; omega)).mono ?_
      rintro e x6 ⟨rfl, K6⟩
      replace K6 := Lib.hid K6
      go_wp2_with fail
      refine (same_words' x6 AY (some ⟨g2, 0, none⟩) cY cap2 _ _ (wordsP m0.again) (wordsP_length _).symm (wordsP_length _).symm (RY.out.below K6.out).strs (SQ.out.below K6.out) (by rw [wordsP_length]; omega)).mono ?_
      rintro e x7 ⟨rfl, K7⟩
      have K57 : Below x5.heap.size x5 x7 := K6.out.trans (K7.mono K6.out.size)
      have V7 := Lib.hid (V6.out.below K57)
      have A7 := Lib.hid (but_row (But.of_below K57) (e := 3) (by decide) hA5.out)
      have P7 := Lib.hid (P5.out.below K57)
      have L7 := Lib.hid (L5.out.trans (K57.mono L5.out.size))
      have z7 := K57.size
      clear K6 K7 K57 V6 hA5 P5 L5 SB SQ RX RY
      go_wp2_with (at_builtin; refine wpList_append_own_at _ rfl (.tmp 66) (.tmp 69) 49 rfl w2.heap.size 37 q0 (.slice none 0 0) 1 24 Try.underlying49 hq0 hq1 hq2 hq3 rfl (by decide) _ _ ys rfl (A7.out.alloc _) ⟨x7.heap.size, 0, none⟩ 2 2 [.slice AX m0.back.length cX, .slice AY m0.again.length cY] rfl rfl (World.news_of_block (World.alloc_heap_new x7 _)) (by simp [Value.oneCell']) (by unfold maxLen; omega) (by omega) (by simp; omega) ?_; intro v' x8 hown' hgrow _ _)
      have B8 : But 37 x7 x8 := (But.of_below ((Below.refl _ x7).alloc (Nat.le_refl _) _)).trans (But.of_grown hgrow (fun g e => by obtain ⟨_, _, cs, h⟩ := own_here (A7.out.alloc (.cells #[.slice AX m0.back.length cX, .slice AY m0.again.length cY] 37)) e; exact ⟨cs, _, h⟩))
      have L8 : Below w.heap.size w x8 := (L7.out.alloc L7.out.size _).grown hgrow (by have := L7.out.size; simp; omega) (fun g e => by have := (own_here A7.out e).1; have := L2.out.size; omega)
      have z8 : x7.heap.size ≤ x8.heap.size := by have := hgrow.size; simp at this; omega
      have P8 := Lib.hid (but_past B8 (by decide) (by decide) (by decide) P7.out)
      have V8 := Lib.hid (rw_but V7.out B8 (by decide))
      replace L8 := Lib.hid L8
      replace hown' := Lib.hid hown'
      clear hgrow B8
      go_roundw
      case rel =>
        refine ⟨k + 1, ys ++ [.slice AX m0.back.length cX, .slice AY m0.again.length cY], by go_num, by omega, by simp [hys]; omega, ?_, ?_, hown'.out, P8.out, by omega, L8.out⟩
        · have := V8.out
          simpa [List.append_assoc] using this
        · have := U6.out
          simpa [List.append_assoc] using this
      case measure => simp [intOf]; omega
    · obtain rfl : k = 9 := by omega
      obtain ⟨wo, hwo⟩ : ∃ wo, wo = wr := ⟨_, rfl⟩
      subst hwo
      obtain ⟨us, hus⟩ : ∃ us : List Value, us = [.slice AB m0.back.length cB, .slice AQ m0.again.length cQ] ++ [kb] ++ [ka] ++ ys := ⟨_, rfl⟩
      rw [← hus] at hV hU
      obtain ⟨vs, hvs⟩ : ∃ vs : List Value, vs = ys ++ [.slice AB m0.back.length cB, .slice AQ m0.again.length cQ] := ⟨_, rfl⟩
      have hul : us.length = 22 := by rw [hus]; simp [hys]
      have hvl : vs.length = 20 := by rw [hvs]; simp [hys]
      have u2 : us[2]? = some kb := by rw [hus]; simp
      have u3 : us[3]? = some ka := by rw [hus]; simp
      have hget : ∀ i, i < 20 → ∃ v, vs[i]? = some v ∧ us[idxM i]? = some v := fun i hi => by
        by_cases h18 : i < 18
        · refine ⟨ys[i]'(by omega), ?_, ?_⟩
          · rw [hvs, List.getElem?_append_left (by omega)]; exact List.getElem?_eq_getElem _
          · rw [hus, show idxM i = i + 4 by unfold idxM; rw [if_pos h18], List.getElem?_append_right (by simp)]
            simp
        · rcases (by omega : i = 18 ∨ i = 19) with rfl | rfl
          · exact ⟨_, by rw [hvs, List.getElem?_append_right (by omega), hys]; rfl, by rw [hus]; rfl⟩
          · exact ⟨_, by rw [hvs, List.getElem?_append_right (by omega), hys]; rfl, by rw [hus]; rfl⟩
      replace hget := Lib.hid hget
      replace u2 := Lib.hid u2
      replace u3 := Lib.hid u3
      have HVS := Lib.hid hvs
      clear hvs hus hys
      go_wp2_with (at_builtin; refine wpList_append_own_at _ rfl (.tmp 71) (.tmp 74) 49 rfl w2.heap.size 37 q0 (.slice none 0 0) 1 24 Try.underlying49 hq0 hq1 hq2 hq3 rfl (by decide) _ _ ys rfl (hA.out.alloc _) ⟨wo.heap.size, 0, none⟩ 2 2 [.slice AB m0.back.length cB, .slice AQ m0.again.length cQ] rfl rfl (World.news_of_block (World.alloc_heap_new wo _)) (by simp [Value.oneCell']) (by unfold maxLen; omega) (by omega) (by simp; omega) ?_; intro v' x9 hown' hgrow _ _; obtain ⟨gA, capA, rfl, _, _⟩ := hown'.form (by omega))
      have B9 : But 37 wo x9 := (But.of_below ((Below.refl _ wo).alloc (Nat.le_refl _) _)).trans (But.of_grown hgrow (fun g e => by obtain ⟨_, _, cs, h⟩ := own_here (hA.out.alloc (.cells #[.slice AB m0.back.length cB, .slice AQ m0.again.length cQ] 37)) e; exact ⟨cs, _, h⟩))
      have L9 : Below w.heap.size w x9 := (hL.out.alloc hL.out.size _).grown hgrow (by have := hL.out.size; simp; omega) (fun g e => by have := (own_here hA.out e).1; have := L2.out.size; omega)
      have z9 : wo.heap.size ≤ x9.heap.size := by have := hgrow.size; simp at this; omega
      have P9 := Lib.hid (but_past B9 (by decide) (by decide) (by decide) hP.out)
      have V9 := Lib.hid (rw_but hV.out B9 (by decide))
      have A9 : Hid (x9.ownsRow w2.heap.size 37 1 (.slice (some ⟨gA, 0, none⟩) 20 capA) 20 vs) := by rw [HVS.out]; exact hown'
      have UN := Lib.hid V9.out.under
      replace L9 := Lib.hid L9
      clear hown' hgrow B9 hV hA hP hL
      have z92 : w2.heap.size ≤ x9.heap.size := by omega
      go_loopw [78] (fun i wr => ∃ k : Nat, i = .int .i64 k ∧ k ≤ 20 ∧ Rw 9 wr w2.heap.size us (FM (wordsP m0.back) (wordsP m0.again) k) ∧ wr.ownsRow w2.heap.size 37 1 (.slice (some ⟨gA, 0, none⟩) 20 capA) 20 vs ∧ Pint.Past wr b b m0 ∧ x9.heap.size ≤ wr.heap.size ∧ Below w.heap.size w wr) (fun i _ => 20 - (intOf i).toNat)
      case atStart => exact ⟨0, rfl, Nat.zero_le _, V9.out, A9.out, P9.out, Nat.le_refl _, L9.out⟩
      case round =>
        obtain ⟨k, rfl, hk, hV, hA, hP, hz2, hL⟩ := hrel
        replace hV := Lib.hid hV
        replace hA := Lib.hid hA
        replace hP := Lib.hid hP
        replace hL := Lib.hid hL
        by_cases hkl : k < 20
        · obtain ⟨vk, i1, i2⟩ := hget.out k hkl
          obtain ⟨pk1, pk2, pk3, pk4⟩ := pos_idx k hkl
          obtain ⟨xs, hx, hF⟩ := hV.out _ vk i2
          obtain ⟨Ak, ck, rfl, hAk⟩ := own_slice hx
          have hn4 := (hF.2.2 pk2 pk3).1
          obtain ⟨n0, hn0⟩ : ∃ n0, n0 = xs.length := ⟨_, rfl⟩
          rw [← hn0] at i1 i2 hn4
          have cA := (own_cell hA.out i1).1
          have I2 := Lib.hid i2
          have HAK := Lib.hid hAk
          have PK := Lib.hid pk1
          have PK2 := Lib.hid pk2
          have PK3 := Lib.hid pk3
          clear hx hF hn0 xs hAk i1 i2 pk1 pk2 pk3
          obtain ⟨wp, hwp⟩ : ∃ wp, wp = wr := ⟨_, rfl⟩
          subst hwp
          go_wp2_with fail
          go_loopw [85] (fun i wr => ∃ j : Nat, i = .int .i64 j ∧ j ≤ n0 ∧ Rw 9 wr w2.heap.size us (fun q xs => FM (wordsP m0.back) (wordsP m0.again) k q xs ∧ (q = idxM k → xs.length = n0 ∧ ∀ t, t < j → xs[t]? = some (chrM k))) ∧ wr.ownsRow w2.heap.size 37 1 (.slice (some ⟨gA, 0, none⟩) 20 capA) 20 vs ∧ Pint.Past wr b b m0 ∧ x9.heap.size ≤ wr.heap.size ∧ Below w.heap.size w wr) (fun i _ => n0 - (intOf i).toNat)
          case atStart =>
            refine ⟨0, rfl, Nat.zero_le _, fun i v hi => ?_, hA.out, hP.out, hz2, hL.out⟩
            obtain ⟨xs, h1, h2⟩ := hV.out i v hi
            refine ⟨xs, h1, h2, fun e => ⟨?_, fun t ht => by omega⟩⟩
            subst e
            rw [I2.out] at hi
            cases hi
            exact own_len h1
          case round =>
            obtain ⟨j, rfl, hj, yV, yA, yP, yz, yL⟩ := hrel
            replace yV := Lib.hid yV
            replace yA := Lib.hid yA
            replace yP := Lib.hid yP
            replace yL := Lib.hid yL
            by_cases hjl : j < n0
            · obtain ⟨xs, hx, hF, hq⟩ := yV.out _ _ I2.out
              have hln := (hq rfl).1
              rw [hln] at hx
              obtain ⟨g, rfl⟩ : ∃ g, Ak = some ⟨g, 0, none⟩ := by
                rcases HAK.out with h | h
                · subst h
                  rcases hx.2 with ⟨_, h0⟩ | ⟨_, _, _, e, _⟩
                  · omega
                  · cases e
                · exact h
              obtain ⟨c1, f1⟩ := own_cell hx (List.getElem?_eq_getElem (show j < xs.length by omega))
              obtain ⟨y, hy⟩ : ∃ y, xs[j]'(by omega) = y := ⟨_, rfl⟩
              rw [hy] at c1
              obtain ⟨W2, hW2⟩ : ∃ W2, W2 = wr.setCell ⟨g, j, none⟩ (chrM k) := ⟨_, rfl⟩
              have hgr : wr.grownBy W2 (some g) := by rw [hW2]; exact grown_set wr g j _
              obtain ⟨gb, gl, gcs, gc⟩ := own_here hx (g := g) rfl
              have hbut : But 9 wr W2 := But.of_grown hgr (fun g' e => by cases e; exact ⟨gcs, _, gc⟩)
              have V2 := Lib.hid (yV.out.one (G := fun q xs => FM (wordsP m0.back) (wordsP m0.again) k q xs ∧ (q = idxM k → xs.length = n0 ∧ ∀ t, t < j + 1 → xs[t]? = some (chrM k))) hU.out I2.out rfl hgr
                ⟨xs.set j (chrM k), by rw [hW2, List.length_set, hln]; exact own_set hx, ⟨fun e => absurd e PK2.out, fun e => absurd e PK3.out, fun _ _ => ⟨by rw [List.length_set]; omega, fun e => by rw [PK.out] at e; omega⟩⟩, fun _ => ⟨by rw [List.length_set]; exact hln, fun t ht => by
                  rw [List.getElem?_set]
                  by_cases e : j = t
                  · rw [if_pos e, if_pos (by omega)]
                  · rw [if_neg e]; exact (hq rfl).2 t (by omega)⟩⟩ (fun i xs hi h => ⟨h.1, fun e => absurd e hi⟩))
              have A2 := Lib.hid (but_row hbut (by decide) yA.out)
              have P2' := Lib.hid (but_past hbut (by decide) (by decide) (by decide) yP.out)
              have L2' := Lib.hid (yL.out.grown hgr yL.out.size (fun k e => by cases e; have := L2.out.size; omega))
              have zz : x9.heap.size ≤ W2.heap.size := by rw [hW2, World.size_setCell]; exact yz
              have HW2 := Lib.hid hW2
              clear hx hF hq hy hW2 hgr gb gl gc hbut
              go_wp2_with fail
              rw [show wr.setCell ⟨g, j, none⟩ (.string (Utf8.encode (65 + (k : Int)))) = W2 from HW2.out.symm]
              go_roundw
              case rel => exact ⟨j + 1, by go_num, by omega, V2.out, A2.out, P2'.out, zz, L2'.out⟩
              case measure => simp [intOf]; omega
            · obtain rfl : j = n0 := by omega
              have V3 : Rw 9 wr w2.heap.size us (FM (wordsP m0.back) (wordsP m0.again) (k + 1)) := yV.out.imp (fun q xs hq h => ⟨h.1.1, h.1.2.1, fun e2 e3 => ⟨(h.1.2.2 e2 e3).1, fun e s hs => by
                rcases (by omega : posM q < k ∨ posM q = k) with h1 | h1
                · exact (h.1.2.2 e2 e3).2 h1 s hs
                · have hqk : q = idxM k := by rw [← h1]; exact (idx_pos q (by omega) e2 e3).symm
                  obtain ⟨hl, hall⟩ := h.2 hqk
                  obtain ⟨t, ht, hst⟩ := List.getElem_of_mem hs
                  have := hall t (by omega)
                  rw [List.getElem?_eq_getElem ht, hst] at this
                  rw [h1]
                  exact Option.some.inj this⟩⟩)
              replace V3 := Lib.hid V3
              clear yV
              obtain ⟨wq, hwq⟩ : ∃ wq, wq = wr := ⟨_, rfl⟩
              subst hwq
              go_wp2_with fail
              go_loopw [15, 17] (fun v i wr => ∃ (t : Nat) (xs : List Value), i = .int .i64 t ∧ t ≤ 8 ∧ wr.ownsRow w2.heap.size 9 1 v (j + t) xs ∧ ((∃ g cap, Value.slice Ak j ck = .slice (some ⟨g, 0, none⟩) j cap ∧ v = .slice (some ⟨g, 0, none⟩) (j + t) cap) ∨ (∀ g, v.ownBlock = some g → x9.heap.size ≤ g)) ∧ Rw 9 wr w2.heap.size us (FM (wordsP m0.back) (wordsP m0.again) (k + 1)) ∧ wr.ownsRow w2.heap.size 37 1 (.slice (some ⟨gA, 0, none⟩) 20 capA) 20 vs ∧ Pint.Past wr b b m0 ∧ x9.heap.size ≤ wr.heap.size ∧ Below w.heap.size w wr) (fun _ i _ => 8 - (intOf i).toNat)
              case atStart =>
                obtain ⟨xs, h1, _⟩ := V3.out _ _ I2.out
                rw [own_len h1] at h1
                refine ⟨0, xs, rfl, Nat.zero_le _, h1, ?_, V3.out, yA.out, yP.out, yz, yL.out⟩
                rcases HAK.out with h | ⟨g, h⟩
                · subst h; exact .inr (fun g e => by cases e)
                · subst h; exact .inl ⟨g, ck, rfl, rfl⟩
              case round =>
                obtain ⟨t, xs, rfl, ht, tR, tC, tV, tA, tP, tz, tL⟩ := hrel
                replace tR := Lib.hid tR
                replace tC := Lib.hid tC
                replace tV := Lib.hid tV
                replace tA := Lib.hid tA
                replace tP := Lib.hid tP
                replace tL := Lib.hid tL
                by_cases htl : t < 8
                · go_wp2_with (at_builtin; refine wpList_append_two _ rfl (.tmp 100) (.tmp 101) 37 rfl w2.heap.size 9 r0 (.string ⟨#[]⟩) 16 Try.underlying37 hr0 hr1 hr2 hr3 rfl _ (j + t) xs rfl (tR.out.alloc _) (.string ⟨#[103, 114, 111, 119, 110]⟩) wr.heap.size rfl (Pint.of_cells (World.alloc_heap_new wr _) 0 _ rfl) rfl (by omega) (by decide) (by simp; omega) ?_; intro v' x10 hown' hcase)
                  have D1 : Below wr.heap.size wr (wr.alloc (.cells #[.string ⟨#[103, 114, 111, 119, 110]⟩] 9)) := (Below.refl _ wr).alloc (Nat.le_refl _) _
                  have tV1 := tV.out.below D1
                  have tR1 := tR.out.alloc (.cells #[.string ⟨#[103, 114, 111, 119, 110]⟩] 9)
                  have zx : wr.heap.size ≤ (wr.alloc (.cells #[.string ⟨#[103, 114, 111, 119, 110]⟩] 9)).heap.size := D1.size
                  obtain ⟨Wx, hWx⟩ : ∃ Wx, Wx = wr.alloc (.cells #[.string ⟨#[103, 114, 111, 119, 110]⟩] 9) := ⟨_, rfl⟩
                  rw [← hWx] at D1 tV1 tR1 zx hcase
                  have key : But 9 Wx x10 ∧ Wx.heap.size ≤ x10.heap.size ∧ Below w.heap.size w x10 ∧ Rw 9 x10 w2.heap.size us (FM (wordsP m0.back) (wordsP m0.again) (k + 1)) ∧ ((∃ g cap, Value.slice Ak j ck = .slice (some ⟨g, 0, none⟩) j cap ∧ v' = .slice (some ⟨g, 0, none⟩) (j + (t + 1)) cap) ∨ (∀ g, v'.ownBlock = some g → x9.heap.size ≤ g)) := by
                    have tL1 : Below w.heap.size w Wx := tL.out.trans (D1.mono tL.out.size)
                    have l2 := L2.out.size
                    rcases hcase with ⟨g, cap, hv, hv', hg⟩ | ⟨hg, g, cap, hv', hge⟩
                    · subst hv hv'
                      obtain ⟨gb, gl, gcs, gc⟩ := own_here tR1 (g := g) rfl
                      refine ⟨But.of_grown hg (fun g' e => by cases e; exact ⟨gcs, _, gc⟩), hg.size, tL1.grown hg tL1.size (fun k' e => by cases e; omega), ?_, ?_⟩
                      · rcases tC.out with ⟨g0, cap0, hk0, hv0⟩ | hfar
                        · cases hv0
                          have hi0 := I2.out
                          rw [hk0] at hi0
                          obtain ⟨xsk, hxk, hFk⟩ := tV1 _ _ hi0
                          have hlk := own_len hxk
                          rw [hlk] at hxk
                          refine tV1.one hU.out hi0 rfl hg ⟨xsk, ?_, hFk⟩ (fun _ _ _ h => h)
                          have h1 := own_prefix hown' (show j ≤ j + t + 1 by omega)
                          have h2 := own_same tR1 hxk (by omega)
                          have hxl : xs.length = j + t := by have := tR1.1; omega
                          rw [List.take_append_of_le_length (by omega), h2] at h1
                          rw [hlk]; exact h1
                        · exact tV1.far hg (fun i v g' hi hv e => by
                            cases e
                            have h1 := UN.out i v g hi hv
                            have h2 := hfar g rfl
                            omega)
                      · rcases tC.out with ⟨g0, cap0, hk0, hv0⟩ | hfar
                        · cases hv0; exact .inl ⟨g, cap, hk0, rfl⟩
                        · exact .inr (fun g' e => by cases e; exact hfar g rfl)
                    · subst hv'
                      exact ⟨But.of_grown hg (fun g' e => by cases e), hg.size, tL1.grown hg tL1.size (fun k' e => by cases e), tV1.far hg (fun _ _ _ _ _ e => by cases e), .inr (fun g' e => by
                        have e' : g = g' := by simpa [Value.ownBlock] using e
                        omega)⟩
                  obtain ⟨e1, e2, e3, e4, e5⟩ := key
                  have bx : But 9 wr x10 := (But.of_below D1).trans e1
                  have A11 := Lib.hid (but_row bx (by decide) tA.out)
                  have P11 := Lib.hid (but_past bx (by decide) (by decide) (by decide) tP.out)
                  have R11 : Hid (x10.ownsRow w2.heap.size 9 1 v' (j + (t + 1)) (xs ++ [.string ⟨#[103, 114, 111, 119, 110]⟩])) := hown'
                  have zz2 : x9.heap.size ≤ x10.heap.size := by omega
                  replace e3 := Lib.hid e3
                  replace e4 := Lib.hid e4
                  replace e5 := Lib.hid e5
                  clear hcase hown' D1 tV1 tR1 hWx e1 bx
                  go_roundw
                  case rel =>
                    refine ⟨v', .int .i64 ((t : Int) + 1), .int .i64 t, .bool true, .int .i64 t, .int .i64 ((t : Int) + 1), u15, .slice (some ⟨wr.heap.size, 0, none⟩) 1 1, v', ⟨t + 1, _, by go_num, by omega, R11.out, e5.out, e4.out, A11.out, P11.out, zz2, e3.out⟩, ?_⟩
                    rw [show decide ((k : Int) < 20) = true from decide_eq_true (by omega)]
                  case measure => simp [intOf]; omega
                · obtain rfl : t = 8 := by omega
                  go_wp2_with fail
                  go_roundw
                  case rel => exact ⟨k + 1, by go_num, by omega, tV.out, tA.out, tP.out, tz, tL.out⟩
                  case measure => simp [intOf]; omega
        · obtain rfl : k = 20 := by omega
          obtain ⟨wz, hwz⟩ : ∃ wz, wz = wr := ⟨_, rfl⟩
          subst hwz
          have hkb := HKB.out
          have hka := HKA.out
          subst hkb hka
          go_wp2_with fail
          go_loopw [106] (fun i wr => ∃ k : Nat, i = .int .i64 k ∧ k ≤ 20 ∧ wr = wz) (fun i _ => 20 - (intOf i).toNat)
          case atStart => exact ⟨0, rfl, Nat.zero_le _, rfl⟩
          case round =>
            obtain ⟨k, rfl, hk, rfl⟩ := hrel
            by_cases hkl : k < 20
            · obtain ⟨vk, i1, i2⟩ := hget.out k hkl
              obtain ⟨pk1, pk2, pk3, pk4⟩ := pos_idx k hkl
              obtain ⟨xs, hx, hF⟩ := hV.out _ vk i2
              obtain ⟨Ak, ck, rfl, hAk⟩ := own_slice hx
              have hn4 := (hF.2.2 pk2 pk3).1
              have hall := (hF.2.2 pk2 pk3).2 (by omega)
              rw [pk1] at hall
              obtain ⟨n0, hn0⟩ : ∃ n0, n0 = xs.length := ⟨_, rfl⟩
              rw [← hn0] at i1 hn4 hx
              have cA := (own_cell hA.out i1).1
              have HX := Lib.hid hx
              have HAL := Lib.hid hall
              have HAK := Lib.hid hAk
              have HN := Lib.hid hn0
              clear hx hF hn0 hAk hall i1 i2 pk1 pk2 pk3 pk4
              go_wp2_with fail
              go_loopw [113] (fun i wr' => ∃ j : Nat, i = .int .i64 j ∧ j ≤ n0 ∧ wr' = wr) (fun i _ => n0 - (intOf i).toNat)
              case atStart => exact ⟨0, rfl, Nat.zero_le _, rfl⟩
              case round =>
                obtain ⟨j, rfl, hj, rfl⟩ := hrel
                by_cases hjl : j < n0
                · obtain ⟨g, rfl⟩ : ∃ g, Ak = some ⟨g, 0, none⟩ := by
                    rcases HAK.out with h | h
                    · subst h
                      rcases HX.out.2 with ⟨_, h0⟩ | ⟨_, _, _, e, _⟩
                      · omega
                      · cases e
                    · exact h
                  have hjx : j < xs.length := by have := HN.out; omega
                  obtain ⟨c1, _⟩ := own_cell HX.out (List.getElem?_eq_getElem hjx)
                  rw [HAL.out _ (List.getElem_mem hjx)] at c1
                  unfold chrM at c1
                  go_wp2_with fail
                  go_roundw
                  case rel => exact ⟨j + 1, by go_num, by omega, by simp⟩
                  case measure => simp [intOf]; omega
                · obtain rfl : j = n0 := by omega
                  go_wp2_with fail
                  go_roundw
                  case rel => exact ⟨k + 1, by go_num, by omega, by simp⟩
                  case measure => simp [intOf]; omega
            · obtain rfl : k = 20 := by omega
              have SB : Strs wr (some ⟨g1, 0, none⟩) (wordsP m0.back) := by
                obtain ⟨xs, h1, h2⟩ := hV.out 2 _ u2.out
                rw [h2.1 rfl] at h1
                exact own_strs h1
              have SQ : Strs wr (some ⟨g2, 0, none⟩) (wordsP m0.again) := by
                obtain ⟨xs, h1, h2⟩ := hV.out 3 _ u3.out
                rw [h2.2.1 rfl] at h1
                exact own_strs h1
              replace SB := Lib.hid SB
              replace SQ := Lib.hid SQ
              go_wp2_with fail
              refine (Pint.Words_calls wr b b m0 hP.out).mono ?_
              rintro e y5 ⟨vX, vY, rfl, rowX, rowY, _, K5⟩
              obtain ⟨AX, cX, rfl, RX, _⟩ := rowX.reads'
              obtain ⟨AY, cY, rfl, RY, _⟩ := rowY.reads'
              replace RX := Lib.hid RX
              replace RY := Lib.hid RY
              have SB5 := Lib.hid (SB.out.below K5)
              have SQ5 := Lib.hid (SQ.out.below K5)
              have L5 := Lib.hid (hL.out.trans (K5.mono hL.out.size))
              clear rowX rowY K5
              go_wp2_with fail
              refine (same_words' y5 AX (some ⟨g1, 0, none⟩) cX cap1 _ _ (wordsP m0.back) (wordsP_length _).symm (wordsP_length _).symm RX.out.strs SB5.out (by rw [wordsP_length]; omega)).mono ?_
              rintro e y6 ⟨rfl, K6⟩
              replace K6 := Lib.hid K6
              go_wp2_with fail
              refine (same_words' y6 AY (some ⟨g2, 0, none⟩) cY cap2 _ _ (wordsP m0.again) (wordsP_length _).symm (wordsP_length _).symm (RY.out.below K6.out).strs (SQ5.out.below K6.out) (by rw [wordsP_length]; omega)).mono ?_
              rintro e y7 ⟨rfl, K7⟩
              have L7 := Lib.hid (L5.out.trans ((K6.out.trans (K7.mono K6.out.size)).mono L5.out.size))
              go_wp2_with fail
              go_ret
              exact ⟨rfl, L7.out⟩
end Go.Proofs.Ytihfkoomimohbaa
