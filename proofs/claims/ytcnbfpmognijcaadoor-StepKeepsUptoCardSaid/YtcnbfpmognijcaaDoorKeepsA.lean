/- StepKeeps: the room: bytes copied, three behind. -/
import Derived.Test.YtcnbfpmognijcaaDoorWalkB
import Derived.Test.YtcnbfpmognijcaaDoorMany
import Derived.OwnWalk
namespace Go.Proofs.YtcnbfpmognijcaaDoor
open Go.RowKit Go.Shelf Galley Go.Proofs.YtcnbfpmognijcaaDoorW.PrintWords

def byteV (s : ByteArray) : List Value := (bytesOf s).map (Value.int .u8)
theorem byteV_length (s : ByteArray) : (byteV s).length = s.size := by unfold byteV; rw [List.length_map, bytesOf_length]
theorem byteV_one (s : ByteArray) : ∀ u ∈ byteV s, u.oneCell' = true := by
  intro u hu
  obtain ⟨_, _, rfl⟩ := List.mem_map.1 hu
  rfl
theorem Byt.cells {w : World} {A : Option Addr} {c : Nat} {s : ByteArray} (h : Byt w A c s) : ∀ ad, A = some ad → ∀ j u, (byteV s)[j]? = some u → w.cell? (ad.add j) = some u := by
  intro ad e j u hj
  subst e
  have h1 := Kd.reads_of_C (enc := Value.int .u8) (d := (0 : Int)) (h1 := fun _ => rfl) h.reads
  have hlt := (List.getElem?_eq_some_iff.1 hj).1
  rw [byteV_length] at hlt
  obtain ⟨_, _, h2⟩ := h1
  obtain ⟨x, hx, h3⟩ := h2 (by rw [bytesOf_length]; omega)
  cases hx
  rw [h3 j (by rw [bytesOf_length]; exact hlt)]
  unfold byteV at hj
  rw [List.getElem?_map] at hj
  obtain ⟨z, hz, rfl⟩ := Option.map_eq_some_iff.1 hj
  simp [List.getD, hz]
theorem Byt.nil {w : World} {c : Nat} {s : ByteArray} (h : Byt w none c s) : s.size = 0 := by
  have h1 := Kd.reads_of_C (enc := Value.int .u8) (d := (0 : Int)) (h1 := fun _ => rfl) h.reads
  rcases Nat.eq_zero_or_pos s.size with h0 | h0
  · exact h0
  · obtain ⟨x, hx, _⟩ := h1.2.2 (by rw [bytesOf_length]; exact h0)
    cases hx
/-- room's bytes, all of them or the first ones -/
theorem byt_room {w : World} {base g n cap : Nat} {s r : ByteArray} (h : w.ownsRow base 5 1 (.slice (some ⟨g, 0, none⟩) n cap) n (byteV s ++ byteV r)) (hs : s.size ≤ 140737488355328) : Byt w (some ⟨g, 0, none⟩) cap s := by
  rcases h.2 with ⟨e, _⟩ | ⟨g', cap', cur, e, _, hg, hn, _, hz, ht⟩
  · cases e
  · cases e
    have hl := h.1
    rw [List.length_append, byteV_length, byteV_length] at hl
    refine byt_new s hg (by omega) hs ?_
    have h2 := congrArg (List.take s.size) ht
    rw [List.take_take, Nat.min_eq_left (by omega), List.take_append_of_le_length (by rw [byteV_length]; exact Nat.le_refl _)] at h2
    exact h2.trans (List.take_of_length_le (by rw [byteV_length]; exact Nat.le_refl _))
def tri : ByteArray := ⟨#[91, 92, 93]⟩
theorem byteV_append (s r : ByteArray) : byteV (s ++ r) = byteV s ++ byteV r := by
  unfold byteV bytesOf
  rw [ByteArray.data_append, Array.toList_append, List.map_append, List.map_append]
theorem room_str {w : World} {base g n cap : Nat} {s r : ByteArray} (h : w.ownsRow base 5 1 (.slice (some ⟨g, 0, none⟩) n cap) n (byteV s ++ byteV r)) (hs : (s ++ r).size ≤ 140737488355328) :
    (convert 22 9 (.slice (some ⟨g, 0, none⟩) n cap)).run Tryd.prog w = .ok (.string (s ++ r)) w := by
  have hn : n = (s ++ r).size := by
    have := h.1
    rw [← byteV_append, byteV_length] at this
    omega
  have h' : w.ownsRow base 5 1 (.slice (some ⟨g, 0, none⟩) n cap) n (byteV (s ++ r) ++ byteV ⟨#[]⟩) := by
    rw [byteV_append, show byteV (⟨#[]⟩ : ByteArray) = [] from rfl, List.append_nil]; exact h
  have hb := byt_room h' hs
  have := hb.str
  rwa [← hn] at this
theorem wpList_append_bytes {P : Program} (w : World) {ops : Array Oper} {rest : List Oper} {o : Oper} {a : Act} {Q : Exit → Act → World → Prop}
    (hg : o.guard = none) (s x : Operand) (t : TypeId) (hop : o.op = Op.call { callee := Callee.builtin Builtin.append, args := #[s, x], argTypes := #[t, t] })
    (base : Nat) (e : TypeId) (i : TypeInfo) (h1 : P.underlying t = some (.slice e)) (h2 : P.info? e = some i) (h4 : i.size = 1)
    (g k cap : Nat) (xs : List Value) (hs : a.eval s = .slice (some ⟨g, 0, none⟩) k cap) (hown : w.ownsRow base e 1 (.slice (some ⟨g, 0, none⟩) k cap) k xs) (A : Option Addr) (c m : Nat) (b : ByteArray) (hx : a.eval x = .slice A m c) (hm : m = b.size) (hn : A = none → m = 0)
    (hc : ∀ ad, A = some ad → ∀ j u, (byteV b)[j]? = some u → w.cell? (ad.add j) = some u) (b1 : k + m ≤ cap)
    (hK : ∀ w', w'.ownsRow base e 1 (.slice (some ⟨g, 0, none⟩) (k + m) cap) (k + m) (xs ++ byteV b) → w.grownBy w' (some g) → wpList P ops Q rest (a.put o.dst (.slice (some ⟨g, 0, none⟩) (k + m) cap)) w') :
    wpList P ops Q (o :: rest) a w := by
  cases A with
  | some ad => exact wpList_append_fits w hg s x t hop base e i 1 h1 h2 h4 g k cap xs hs hown ad m c (byteV b) hx (by rw [byteV_length]; omega) (hc ad rfl) (byteV_one b) b1 hK
  | none =>
    have hm0 := hn rfl
    subst hm0
    have hnews : byteV b = [] := List.eq_nil_of_length_eq_zero (by rw [byteV_length]; omega)
    refine wpList_plain hg fun K hK' => ?_
    have hle : k ≤ cap := b1
    have hrun : (Builtin.append_ #[t, t] o.type #[.slice (some ⟨g, 0, none⟩) k cap, .slice none 0 c]).run P w = .ok (.slice (some ⟨g, 0, none⟩) k cap) w := by
      simp [Builtin.append_, run_underlying h1, sizeOf, typeInfo, h2, Builtin.lenOf, Builtin.firstCells, hle, storeCells]
    unfold Oper.wp
    simp [execOp, hop, resolve, invoke, builtin, hs, hx, hrun, Result.andThen]
    exact hK' _ _ (by have := hK w (by rw [hnews]; simpa using hown) (World.grownBy.refl _ _); simpa using this)
end Go.Proofs.YtcnbfpmognijcaaDoor
