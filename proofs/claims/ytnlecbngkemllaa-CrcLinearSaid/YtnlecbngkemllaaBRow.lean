/- A row of bytes that a conversion made (its block bears a mark behind the row): what it reads, and how it is written. -/
import Derived.Test.YtnlecbngkemllaaOf
namespace Go.Proofs.Ytnlecbngkemllaa.P
open Go.RowKit Go.Proofs.YtnlecbngkemllaaW.PrintWords Go.Proofs.YtnlecbngkemllaaW.PrintLast Go.Proofs.YtnlecbngkemllaaW.PrintMore

/-- Block g of w begins with the bytes l, and its mark lies behind them. -/
def BRow (w : World) (g : Nat) (l : List Int) : Prop :=
  ∃ cur : Array Value, w.heap[g]? = some (.cells cur 5 (cur.size, cur.size + 1)) ∧ l.length ≤ cur.size ∧ cur.toList.take l.length = l.map (.int .u8)

theorem BRow.cell {w : World} {g : Nat} {l : List Int} (h : BRow w g l) (i : Nat) (hi : i < l.length) : w.cell? ⟨g, i, none⟩ = some (.int .u8 (l.getD i 0)) := by
  obtain ⟨cur, hb, hs, ht⟩ := h
  have hc : w.cell? ⟨g, i, none⟩ = cur[i]? := cell_of_row w g i cur 5 _ hb
  have e : cur.toList[i]? = (cur.toList.take l.length)[i]? := by rw [List.getElem?_take, if_pos hi]
  rw [hc, ← Array.getElem?_toList, e, ht, List.getElem?_map, List.getD_eq_getElem?_getD, List.getElem?_eq_getElem hi]
  rfl
theorem BRow.frozen {w : World} {g : Nat} {l : List Int} (h : BRow w g l) (i : Nat) (hi : i < l.length) : w.frozen? ⟨g, i, none⟩ = false := by
  obtain ⟨cur, hb, hs, ht⟩ := h
  simp only [World.frozen?, hb, Bool.and_eq_false_iff, decide_eq_false_iff_not]
  left; omega
theorem BRow.set {w : World} {g : Nat} {l : List Int} (h : BRow w g l) (i : Nat) (x : Int) : BRow (w.setCell ⟨g, i, none⟩ (.int .u8 x)) g (l.set i x) := by
  obtain ⟨cur, hb, hs, ht⟩ := h
  refine ⟨cur.setIfInBounds i (.int .u8 x), ?_, by simpa using hs, ?_⟩
  · simp only [World.setCell, Array.getElem?_modify, if_true, hb, Option.map_some]
    simp
  · rw [Array.toList_setIfInBounds, List.length_set, List.take_set, ht, List.map_set]
theorem BRow.drewN {w : World} {g : Nat} {l : List Int} (h : BRow w g l) (n : Nat) : BRow (w.drewN n) g l := h
theorem BRow.drew {w : World} {g : Nat} {l : List Int} (h : BRow w g l) : BRow w.drew g l := h
theorem BRow.below {w w' : World} {g : Nat} {l : List Int} (h : BRow w g l) (hb : Below w.heap.size w w') : BRow w' g l := by
  obtain ⟨cur, h1, h2⟩ := h
  exact ⟨cur, (hb.block g (blk_lt h1)).trans h1, h2⟩
theorem BRow.made (w : World) (s : ByteArray) : BRow (Lib.bytesWorld w 5 s) w.heap.size (bytesOf s) := by
  refine ⟨_, Lib.bytesWorld_at_new w 5 s, ?_, ?_⟩
  · rw [bytesOf_length]; simp [Lib.bytesCells]
  · rw [bytesOf_length]
    simp [Lib.bytesCells, bytesOf]
theorem BRow.str {w : World} {g : Nat} {l : List Int} (h : BRow w g l) (cap : Nat) :
    (convert 35 9 (.slice (some ⟨g, 0, none⟩) l.length cap)).run Try.prog w = .ok (.string (strOfNums l)) w :=
  run_convert_bytes_arg (P := Try.prog) w 35 5 Try.underlying35 Try.underlying5 g 0 l.length cap l rfl (fun i hi => by rw [Nat.zero_add]; exact h.cell i hi) 9 Try.underlying9
end Go.Proofs.Ytnlecbngkemllaa.P
