/- lexer: word, number, bracket. -/
import Derived.Test.YtagfnnongamneaaGreatDoorLex1G
import Derived.Test.YtagfnnongamneaaGreatDoorTokG
namespace Go.Proofs.YtagfnnongamneaaGreatDoor
open Go.RowKit Go.Lib

/-- The cells of a result that lies in memory. -/
theorem cells_below {w w' : World} {cs : Array Value} {t : TypeId} (hb : Below (w.heap.size + 1) (w.alloc (.cells cs t)) w') (k : Nat) : w'.cell? ⟨w.heap.size, k, Option.none⟩ = cs[k]? ∧ w'.frozen? ⟨w.heap.size, k, Option.none⟩ = false := by
  refine ⟨?_, ?_⟩
  · rw [hb.cell (p := ⟨w.heap.size, k, Option.none⟩) (by simp), World.cell?_alloc_new]
  · rw [hb.frozen (p := ⟨w.heap.size, k, Option.none⟩) (by simp), World.frozen?_alloc_new]
theorem size_below {w w' : World} {o : Obj} (hb : Below (w.heap.size + 1) (w.alloc o) w') : w.heap.size < w'.heap.size := by have := hb.size; simp at this; omega

/-- The zero token. -/
def zeroTok : Array Value := #[.int .i64 0, .string ⟨#[]⟩, .string ⟨#[]⟩, .string ⟨#[]⟩, .slice Option.none 0 0, .int .i64 0, .int .i64 0]
theorem tok_below {w w' : World} {a0 a1 a2 a3 a4 a5 a6 : Value} {t : TypeId} (hb : Below (w.heap.size + 1) (w.alloc (.cells #[a0, a1, a2, a3, a4, a5, a6] t)) w') :
    (w'.cell? ⟨w.heap.size, 0, Option.none⟩ = some a0 ∧ w'.cell? ⟨w.heap.size, 1, Option.none⟩ = some a1 ∧ w'.cell? ⟨w.heap.size, 2, Option.none⟩ = some a2 ∧ w'.cell? ⟨w.heap.size, 3, Option.none⟩ = some a3 ∧ w'.cell? ⟨w.heap.size, 4, Option.none⟩ = some a4 ∧ w'.cell? ⟨w.heap.size, 5, Option.none⟩ = some a5 ∧ w'.cell? ⟨w.heap.size, 6, Option.none⟩ = some a6) ∧
    (w'.frozen? ⟨w.heap.size, 0, Option.none⟩ = false ∧ w'.frozen? ⟨w.heap.size, 1, Option.none⟩ = false ∧ w'.frozen? ⟨w.heap.size, 2, Option.none⟩ = false ∧ w'.frozen? ⟨w.heap.size, 3, Option.none⟩ = false ∧ w'.frozen? ⟨w.heap.size, 4, Option.none⟩ = false ∧ w'.frozen? ⟨w.heap.size, 5, Option.none⟩ = false ∧ w'.frozen? ⟨w.heap.size, 6, Option.none⟩ = false) ∧ w.heap.size < w'.heap.size :=
  ⟨⟨(cells_below hb 0).1, (cells_below hb 1).1, (cells_below hb 2).1, (cells_below hb 3).1, (cells_below hb 4).1, (cells_below hb 5).1, (cells_below hb 6).1⟩, ⟨(cells_below hb 0).2, (cells_below hb 1).2, (cells_below hb 2).2, (cells_below hb 3).2, (cells_below hb 4).2, (cells_below hb 5).2, (cells_below hb 6).2⟩, size_below hb⟩

theorem below7 {w w2 : World} (h : Below w.heap.size w w2) (a0 a1 a2 a3 a4 a5 a6 : Value) :
    Below w.heap.size w (((((((w2.setCell ⟨w.heap.size, 0, Option.none⟩ a0).setCell ⟨w.heap.size, 1, Option.none⟩ a1).setCell ⟨w.heap.size, 2, Option.none⟩ a2).setCell ⟨w.heap.size, 3, Option.none⟩ a3).setCell ⟨w.heap.size, 4, Option.none⟩ a4).setCell ⟨w.heap.size, 5, Option.none⟩ a5).setCell ⟨w.heap.size, 6, Option.none⟩ a6) :=
  ((((((h.setCell (Nat.le_refl _) _).setCell (Nat.le_refl _) _).setCell (Nat.le_refl _) _).setCell (Nat.le_refl _) _).setCell (Nat.le_refl _) _).setCell (Nat.le_refl _) _).setCell (Nat.le_refl _) _

/-- A token as a value, without its place. -/
def tokAgg (kd : Int) (t n d : List UInt8) (rv : Value) : Value := .agg #[.int .i64 kd, .string ⟨t.toArray⟩, .string ⟨n.toArray⟩, .string ⟨d.toArray⟩, rv, .int .i64 0, .int .i64 0]
def tok0 : Value := tokAgg 0 [] [] [] (.slice Option.none 0 0)

/-- What a reader of a token returns, with its length ('next', 'number') or without ('word', 'bracket'). -/
def NextPost (w' : World) : Nrd → Ending → Prop
  | .bad er, e => e = .returned (.tuple #[tok0, .int .i64 0, .int .i64 er])
  | .good kd t n d x m, e => ∃ rv, e = .returned (.tuple #[tokAgg kd t n d rv, .int .i64 m, .int .i64 0]) ∧ TRow w' rv x
def TokPost (w' : World) : Nrd → Ending → Prop
  | .bad er, e => e = .returned (.tuple #[tok0, .int .i64 er])
  | .good kd t n d x _, e => ∃ rv, e = .returned (.tuple #[tokAgg kd t n d rv, .int .i64 0]) ∧ TRow w' rv x

set_option maxRecDepth 100000 in
set_option maxHeartbeats 1000000 in
theorem word_any (s : List UInt8) (w : World) (hl : s.length ≤ 1000000) :
    Calls Tryz.prog 88 #[.string ⟨s.toArray⟩] w fun e w' => TokPost w' (wordRead s) e ∧ Below w.heap.size w w' := by
  have HL := Lib.hid (fun W => length_part s W hl)
  have hle := runLen_le partB s
  unfold wordRead
  generalize runLen partB s = n at *
  have hx : (⟨s.toArray⟩ : ByteArray).extract 0 n = ⟨(s.take n).toArray⟩ := ba_ext (by rw [ext_eq]; simp)
  by_cases h : 32 < n
  · rw [if_pos h]
    go_enter Tryz.func88, Tryz.ntmps88
    go_wp2_with fail
    refine (HL.out _).mono ?_
    rintro e w1 ⟨rfl, rfl⟩
    go_wp2_with fail
    refine bodyPost_ret (v := .tuple #[.agg #[.int .i64 0, .string ⟨#[]⟩, .string ⟨#[]⟩, .string ⟨#[]⟩, .slice Option.none 0 0, .int .i64 0, .int .i64 0], .int .i64 8]) (by simp [results, Tryz.results88, go_sem]) rfl ⟨rfl, ?_⟩
    exact (Below.refl _ _).alloc (Nat.le_refl _) _
  · rw [if_neg h]
    go_enter Tryz.func88, Tryz.ntmps88
    go_wp2_with fail
    refine (HL.out _).mono ?_
    rintro e w1 ⟨rfl, rfl⟩
    go_wp2_with fail
    refine bodyPost_ret (v := .tuple #[.agg #[.int .i64 1, .string ⟨(s.take n).toArray⟩, .string ⟨#[]⟩, .string ⟨#[]⟩, .slice Option.none 0 0, .int .i64 0, .int .i64 0], .int .i64 0]) (by simp [results, Tryz.results88, go_sem]) rfl ⟨⟨_, rfl, TRow.nil _ _ _ (by unfold maxLen; omega)⟩, ?_⟩
    exact (Below.refl _ _).alloc (Nat.le_refl _) _

end Go.Proofs.YtagfnnongamneaaGreatDoor
