/- A whole block written anew. -/
import Derived.Test.YtpfkiohknpeifaaGreatBox
import Derived.Laws.Rows
import Derived.Laws.Tables
namespace Go.Proofs.YtpfkiohknpeifaaGreat
open Go Go.RowKit
section
variable {w w0 : World} {g k : Nat} {t : TypeId} {cs cs' : Array Value} {B : Nat}
theorem Blk.row (h : Blk w g t cs) : Blk (w.setRow g cs') g t cs' := setRow_heap w g cs cs' t (0, 0) h
theorem Blk.rowFar (h : Blk w k t cs) (hne : k ≠ g) : Blk (w.setRow g cs') k t cs := (setRow_other w g k cs' hne).trans h
theorem below_row (h : Below B w0 w) (hg : B ≤ g) : Below B w0 (w.setRow g cs') := ⟨h.os, h.tape, h.output, by simp; exact h.size, fun k hk => (setRow_other w g k cs' (by omega)).trans (h.block k hk)⟩
theorem Sl.rowFar {size : Nat} {A : Option Addr} {rs : List (List Value)} (h : Sl w B size A rs) (hp : ∀ ad, A = some ad → ad.block ≠ g) : Sl (w.setRow g cs') B size A rs :=
  ⟨h.len, fun hn => by
    obtain ⟨ad, e, hb, hc⟩ := h.at_ hn
    exact ⟨ad, e, hb, fun k r hr j u' hu => (World.cell?_of_block (setRow_other w g _ cs' (by rw [block_of_add]; exact hp ad e))).trans (hc k r hr j u' hu)⟩⟩
theorem Hold.row {l : List (Nat × TypeId × Array Value)} (h : Hold w0 w l) (hf : ∀ b ∈ l, b.1 ≠ g) (hB : w0.heap.size ≤ g) : Hold w0 (w.setRow g cs') l := ⟨fun x hx => (h.all x hx).rowFar (hf x hx), below_row h.b hB⟩
theorem rowX (h : Blk w g t cs) (cs' : Array Value) {n : Nat} (hs : w.heap.size = n) (hb : Below B w0 w) (hB : B ≤ g) : ∃ W, w.setRow g cs' = W ∧ W.heap.size = n ∧ Blk W g t cs' ∧ Below B w0 W :=
  ⟨_, rfl, by simp [hs], h.row, below_row hb hB⟩
theorem Blk.rowTo {W : World} (h : Blk w k t cs) (e : w.setRow g cs' = W) (hne : k ≠ g) : Blk W k t cs := e ▸ h.rowFar hne
theorem Sl.rowTo {W : World} {size : Nat} {A : Option Addr} {rs : List (List Value)} (h : Sl w B size A rs) (e : w.setRow g cs' = W) (hp : ∀ ad, A = some ad → ad.block ≠ g) : Sl W B size A rs := e ▸ h.rowFar hp
end
theorem wpList_load_rowG {P : Program} {ops : Array Oper} {rest : List Oper} {o : Oper} {a : Act} {w : World} {Q : Exit → Act → World → Prop} (ty : TypeId) (x : Operand) (ho : o.op = .load ty x) (hw : Region.wanted o (yielded ops a.tmps) = true)
    (g : Nat) (hx : a.eval x = .pointer (some ⟨g, 0, none⟩)) (t : TypeId) (cs : Array Value) (fr : Nat × Nat) (d : TypeDesc) (hg : w.heap[g]? = some (.cells cs t fr))
    (hu : P.underlying ty = some d) (hd : (match d with | .struct _ | .array _ _ => true | _ => false) = true) (hi : (P.info? ty).map (·.size) = some cs.size)
    (h : wpList P ops Q rest (a.put o.dst (.agg cs)) w) : wpList P ops Q (o :: rest) a w := by
  simp only [wpList, hw, if_true]
  refine .inl ?_
  cases d with
  | struct f => exact wp_load_row ty x ho g hx t cs fr _ hg hu rfl hi h
  | array n e => exact wp_load_row ty x ho g hx t cs fr _ hg hu rfl hi h
  | _ => cases hd
theorem load_blk {w : World} {g : Nat} {t ty : TypeId} {cs : Array Value} (d : TypeDesc) (hd : (match d with | .struct _ | .array _ _ => true | _ => false) = true) (h : Blk w g t cs) (hu : Tryz.prog.underlying ty = some d) (hi : (Tryz.prog.info? ty).map (·.size) = some cs.size) :
    (loadVar ty ⟨g, 0, none⟩).run Tryz.prog w = .ok (.agg cs) w := by
  cases d with
  | struct f => exact run_loadVar_row w g t ty cs (0, 0) _ h hu rfl hi
  | array n e => exact run_loadVar_row w g t ty cs (0, 0) _ h hu rfl hi
  | _ => cases hd
end Go.Proofs.YtpfkiohknpeifaaGreat
