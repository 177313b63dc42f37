/- Rows of strings, more: they stay; appended to; cut. -/
import Derived.Test.YtihfkoomimohbaaPlay
import Derived.Test.YtihfkoomimohbaaQ2
import Derived.Maps.AppendAt
import Derived.OwnWalk
namespace Go.Proofs.Ytihfkoomimohbaa
open Go.RowKit Past17

theorem StrRow.spares {w w' : World} {base : Nat} {v : Value} {L : List ByteArray} (h : StrRow w base v L) (hs : Pint.Spares w w') : StrRow w' base v L := by
  refine ⟨h.1, ?_⟩
  rcases h.2 with hn | ⟨g, cap, cur, rfl, hb, hg, rest⟩
  · exact .inl hn
  · exact .inr ⟨g, cap, cur, rfl, hb, hs g _ _ _ hg (by decide) (by decide) (by decide), rest⟩
theorem StrRow.reads' {w : World} {base : Nat} {v : Value} {l : List (Int × ByteArray)} (h : StrRow w base v (wordsP l)) : ∃ A c, v = .slice A l.length c ∧ StrRow w base (.slice A l.length c) (wordsP l) ∧ (A = none → c = 0) := by
  rcases h.2 with ⟨e, hn⟩ | ⟨g, cap, cur, e, _⟩
  · rw [wordsP_length] at hn
    refine ⟨none, 0, by rw [e, hn], by rw [hn, ← e]; exact h, fun _ => rfl⟩
  · rw [wordsP_length] at e
    exact ⟨_, _, e, by rw [← e]; exact h, fun e => by cases e⟩
theorem StrRow.strs {w : World} {base : Nat} {A : Option Addr} {n c : Nat} {L : List ByteArray} (h : StrRow w base (.slice A n c) L) : Strs w A L := by
  obtain ⟨A', c', e, hs⟩ := h.reads
  cases e; exact hs
theorem Strs.take {w : World} {A : Option Addr} {L : List ByteArray} (h : Strs w A L) (k : Nat) : Strs w A (L.take k) := fun j s hj => by
  refine h j s ?_
  rw [List.getElem?_take] at hj
  split at hj
  · exact hj
  · cases hj
theorem same_words' (w : World) (A1 A2 : Option Addr) (c1 c2 n1 n2 : Nat) (L : List ByteArray) (e1 : n1 = L.length) (e2 : n2 = L.length) (h1 : Strs w A1 L) (h2 : Strs w A2 L) (hn : L.length ≤ 1073741824) :
    Calls Try.prog 21 #[.slice A1 n1 c1, .slice A2 n2 c2] w fun e w' => e = .returned (.bool true) ∧ Below w.heap.size w w' := by
  subst e1 e2; exact same_words w A1 A2 c1 c2 L h1 h2 hn

theorem cap_le {w : World} {base : Nat} {e : TypeId} {size n g cap : Nat} {xs : List Value} (h : w.ownsRow base e size (.slice (some ⟨g, 0, none⟩) n cap) n xs) : n ≤ cap := by
  rcases h.2 with ⟨e', _⟩ | ⟨g', cap', cur, e', _, _, hle, _⟩
  · cases e'
  · cases e'; exact hle
theorem wpList_append_strs {P : Program} (w : World) {ops : Array Oper} {rest : List Oper} {o : Oper} {a : Act} {Q : Exit → Act → World → Prop} (hgd : o.guard = none) (s x : Operand) (t : TypeId)
    (ho : o.op = .call { callee := .builtin .append, args := #[s, x], argTypes := #[t, t] })
    (base : Nat) (i : TypeInfo) (ht : P.underlying t = some (.slice 9)) (hi : P.info? 9 = some i) (hz : i.zero = some (.string ⟨#[]⟩)) (hsize : i.size = 1) (hby : i.bytes = 16)
    (gv n cap : Nat) (xs : List Value) (hs : a.eval s = .slice (some ⟨gv, 0, none⟩) n cap) (hown : w.ownsRow base 9 1 (.slice (some ⟨gv, 0, none⟩) n cap) n xs)
    (xb : Nat) (A : Option Addr) (m c : Nat) (L : List ByteArray) (hx : a.eval x = .slice A m c) (hL : StrRow w xb (.slice A m c) L) (hm : m = L.length) (hn : n + m ≤ 1073741824) (hbase : base ≤ w.heap.size)
    (h : ∀ g cap' w', w'.ownsRow base 9 1 (.slice (some ⟨g, 0, none⟩) (n + m) cap') (n + m) (xs ++ L.map Value.string) → w.grownBy w' (some gv) → (g = gv ∨ g = w.heap.size) → wpList P ops Q rest (a.put o.dst (.slice (some ⟨g, 0, none⟩) (n + m) cap')) w') : wpList P ops Q (o :: rest) a w := by
  cases A with
  | none =>
    have hc : m = 0 ∧ c = 0 := by
      rcases hL.2 with ⟨e, _⟩ | ⟨g, cap, cur, e, _⟩
      · cases e; exact ⟨rfl, rfl⟩
      · cases e
    obtain ⟨rfl, rfl⟩ := hc
    have hnil : L = [] := List.eq_nil_of_length_eq_zero hm.symm
    subst hnil
    refine wpList_plain hgd fun K hK' => ?_
    have hrun := run_append_owned_none (P := P) w base t o.type 9 i 1 ht hi _ n xs hown
    unfold Oper.wp
    simp [execOp, ho, resolve, invoke, builtin, hs, hx, hrun, Result.andThen]
    exact hK' _ _ (h gv cap w (by simpa using hown) (World.grownBy.refl _ _) (.inl rfl))
  | some ad =>
    obtain ⟨g, rfl⟩ : ∃ g, ad = ⟨g, 0, none⟩ := by
      rcases hL.2 with ⟨e, _⟩ | ⟨g, cap, cur, e, _⟩
      · cases e
      · cases e; exact ⟨g, rfl⟩
    refine wpList_append_own_at w hgd s x t ho base 9 i (.string ⟨#[]⟩) 1 16 ht hi hz hsize hby rfl (by decide) _ n xs hs hown ⟨g, 0, none⟩ m c (L.map Value.string) hx (by simp [hm]) (fun j u hj => hL.cells (g := g) rfl j u hj)
      (fun u hu => by obtain ⟨b, _, rfl⟩ := List.mem_map.1 hu; rfl) (by unfold maxLen; omega) (by omega) hbase ?_
    intro v' w' hown' hgrow _ hat
    rcases hown'.2 with ⟨rfl, _⟩ | ⟨g', cap', cur, rfl, _⟩
    · rcases hat with e | e <;> cases e
    · refine h g' cap' w' hown' hgrow ?_
      rcases hat with e | e
      · cases e; exact .inl rfl
      · cases e; exact .inr rfl
end Go.Proofs.Ytihfkoomimohbaa
