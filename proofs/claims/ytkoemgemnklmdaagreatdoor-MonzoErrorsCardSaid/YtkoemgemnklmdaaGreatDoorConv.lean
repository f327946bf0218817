/- Conversions between strings and bytes, at any program. -/
import Derived.Test.YtkoemgemnklmdaaGreatDoorMem
import Derived.Lib.ConvBytes
import Derived.Laws.IdiomStrings
namespace Go.Proofs.YtkoemgemnklmdaaGreatDoor
open Go.RowKit

/-- The cells of bytes. -/
def bs (l : List UInt8) : List Value := l.map fun b => Value.int .u8 ((b.toNat : Nat) : Int)
theorem bs_length (l : List UInt8) : (bs l).length = l.length := by simp [bs]
theorem bs_one (l : List UInt8) : ∀ u ∈ bs l, u.oneCell' = true := by intro u hu; obtain ⟨n, _, rfl⟩ := List.mem_map.1 hu; rfl
theorem bs_append (a b : List UInt8) : bs (a ++ b) = bs a ++ bs b := by simp [bs]

theorem Row.b_at {w : World} {B n k : Nat} {A : Option Addr} {l : List UInt8} (h : Row w B 1 A n (bs l)) (hk : k < n) :
    ∃ ad, A = some ad ∧ ad.block < B ∧ w.cell? (ad.add k) = some (.int .u8 (((l[k]?.getD 0).toNat : Nat) : Int)) := by
  have hl : k < l.length := by have := h.len; rw [bs_length] at this; omega
  obtain ⟨ad, e, hb, hc⟩ := h.get k (.int .u8 ((l[k].toNat : Nat) : Int)) (by unfold bs; rw [List.getElem?_map, List.getElem?_eq_getElem hl]; rfl)
  exact ⟨ad, e, hb, by rw [hc, List.getElem?_eq_getElem hl]; rfl⟩

theorem bytes_below (w : World) (e : TypeId) (s : ByteArray) : Below w.heap.size w (Lib.bytesWorld w e s) :=
  ⟨rfl, rfl, rfl, by simp [Lib.bytesWorld, World.freeze, World.alloc, World.drew, -World.alloc_eq, -World.drew_eq], fun k hk => Lib.bytesWorld_at_old w e s k hk⟩

theorem bytes_row (w : World) (e : TypeId) (s : ByteArray) : Row (Lib.bytesWorld w e s) (w.heap.size + 1) 1 (some ⟨w.heap.size, 0, Option.none⟩) s.size (bs s.data.toList) := by
  refine ⟨by rw [bs_length]; simp, fun k u hu => ⟨_, rfl, by simp, ?_⟩⟩
  have hk : k < s.data.toList.length := by have := (List.getElem?_eq_some_iff.1 hu).1; rw [bs_length] at this; exact this
  rw [show (⟨w.heap.size, 0, Option.none⟩ : Addr).add k = ⟨w.heap.size, k, Option.none⟩ by unfold Addr.add; split <;> simp_all]
  rw [cell_of_row _ _ k _ _ _ (Lib.bytesWorld_at_new w e s), ← hu]
  unfold Lib.bytesCells bs
  rw [Array.getElem?_append_left (by simpa using hk)]
  simp

/-- '[]byte(s)' at a plain region's list. -/
theorem wpList_bytes {P : Program} (w : World) {ops : Array Oper} {rest : List Oper} {o : Oper} {a : Act} {Q : Exit → Act → World → Prop}
    (hg : o.guard = Option.none) (x : Operand) (src dst : TypeId) (hop : o.op = Op.convert src dst x) (e : TypeId) (hs : P.underlying src = some .string) (hd : P.underlying dst = some (.slice e)) (he : P.underlying e = some (.int .u8))
    (s : ByteArray) (hx : a.eval x = .string s) (l : List UInt8) (hl : s.data.toList = l)
    (hK : ∀ cap w', Below w.heap.size w w' → Row w' (w.heap.size + 1) 1 (some ⟨w.heap.size, 0, Option.none⟩) l.length (bs l) →
      wpList P ops Q rest (a.put o.dst (.slice (some ⟨w.heap.size, 0, Option.none⟩) l.length cap)) w') : wpList P ops Q (o :: rest) a w := by
  subst hl
  have hsz : s.data.toList.length = s.size := by simp
  refine wpList_plain hg fun K hK' => ?_
  have hrun := Lib.run_convert_string_bytes (P := P) w src dst e s hs hd he
  unfold Oper.wp
  simp [execOp, hop, hx, hrun, Result.andThen]
  have hr := bytes_row w e s
  rw [hsz] at hK
  exact hK' _ _ (hK _ _ (bytes_below w e s) hr)

/-- 'string(b)' at a plain region's list. -/
theorem wpList_string {P : Program} (w : World) {ops : Array Oper} {rest : List Oper} {o : Oper} {a : Act} {Q : Exit → Act → World → Prop}
    (hg : o.guard = Option.none) (x : Operand) (src dst : TypeId) (hop : o.op = Op.convert src dst x) (e : TypeId) (hs : P.underlying src = some (.slice e)) (he : P.underlying e = some (.int .u8)) (hd : P.underlying dst = some .string)
    (B : Nat) (A : Option Addr) (n c : Nat) (l : List UInt8) (hx : a.eval x = .slice A n c) (hr : Row w B 1 A n (bs l)) (h0 : 0 < n)
    (hK : wpList P ops Q rest (a.put o.dst (.string ⟨l.toArray⟩)) w) : wpList P ops Q (o :: rest) a w := by
  refine wpList_plain hg fun K hK' => ?_
  have hl : l.length = n := by have := hr.len; rw [bs_length] at this; omega
  obtain ⟨ad, rfl, _, _⟩ := hr.b_at h0
  subst hl
  have hrun := run_convert_bytes_back (P := P) w src dst e ad c l hs he hd (fun j hj => by
    obtain ⟨ad', e1, _, hc⟩ := hr.b_at (k := j) hj
    injection e1 with e1
    subst e1
    rw [hc, List.getElem?_eq_getElem hj]; rfl)
  unfold Oper.wp
  simp [execOp, hop, hx, hrun, Result.andThen]
  exact hK' _ _ hK

end Go.Proofs.YtkoemgemnklmdaaGreatDoor
