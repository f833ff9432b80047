import Derived.Test.YtldembadjgibjaaGreatDoorAh
set_option linter.unusedVariables false
namespace Go.Proofs.YtldembadjgibjaaGreatDoor
open Go.RowKit Go.K Go.PlainAid Go.Lib
set_option maxRecDepth 100000 in
theorem ti0 (w : World) : (Instr.index 50 (.agg tabC.toArray) (.int .i64 0)).run Tryz.prog w = .ok (.agg #[.string (S [98, 97, 99, 107, 103, 114, 111, 117, 110, 100]), .int .i64 1, .string (S [116, 114, 97, 110, 115, 112, 97, 114, 101, 110, 116])]) w := by kernel_rfl
set_option maxRecDepth 100000 in
theorem ti1 (w : World) : (Instr.index 50 (.agg tabC.toArray) (.int .i64 1)).run Tryz.prog w = .ok (.agg #[.string (S [98, 111, 114, 100, 101, 114, 45, 98, 111, 116, 116, 111, 109, 45, 119, 105, 100, 116, 104]), .int .i64 34, .string (S [])]) w := by kernel_rfl
set_option maxRecDepth 100000 in
theorem ti2 (w : World) : (Instr.index 50 (.agg tabC.toArray) (.int .i64 2)).run Tryz.prog w = .ok (.agg #[.string (S [98, 111, 114, 100, 101, 114, 45, 99, 111, 108, 111, 114]), .int .i64 1, .string (S [])]) w := by kernel_rfl
set_option maxRecDepth 100000 in
theorem ti3 (w : World) : (Instr.index 50 (.agg tabC.toArray) (.int .i64 3)).run Tryz.prog w = .ok (.agg #[.string (S [98, 111, 114, 100, 101, 114, 45, 108, 101, 102, 116, 45, 119, 105, 100, 116, 104]), .int .i64 34, .string (S [])]) w := by kernel_rfl
set_option maxRecDepth 100000 in
theorem ti4 (w : World) : (Instr.index 50 (.agg tabC.toArray) (.int .i64 4)).run Tryz.prog w = .ok (.agg #[.string (S [98, 111, 114, 100, 101, 114, 45, 114, 105, 103, 104, 116, 45, 119, 105, 100, 116, 104]), .int .i64 34, .string (S [])]) w := by kernel_rfl
set_option maxRecDepth 100000 in
theorem ti5 (w : World) : (Instr.index 50 (.agg tabC.toArray) (.int .i64 5)).run Tryz.prog w = .ok (.agg #[.string (S [98, 111, 114, 100, 101, 114, 45, 116, 111, 112, 45, 119, 105, 100, 116, 104]), .int .i64 34, .string (S [])]) w := by kernel_rfl
set_option maxRecDepth 100000 in
theorem ti6 (w : World) : (Instr.index 50 (.agg tabC.toArray) (.int .i64 6)).run Tryz.prog w = .ok (.agg #[.string (S [99, 111, 108, 111, 114]), .int .i64 1, .string (S [])]) w := by kernel_rfl
set_option maxRecDepth 100000 in
theorem ti7 (w : World) : (Instr.index 50 (.agg tabC.toArray) (.int .i64 7)).run Tryz.prog w = .ok (.agg #[.string (S [100, 105, 115, 112, 108, 97, 121]), .int .i64 0, .string (S [98, 108, 111, 99, 107, 32, 102, 108, 101, 120, 32, 105, 110, 108, 105, 110, 101, 32, 105, 110, 108, 105, 110, 101, 45, 98, 108, 111, 99, 107, 32, 108, 105, 115, 116, 45, 105, 116, 101, 109, 32, 110, 111, 110, 101, 32, 116, 97, 98, 108, 101, 32, 116, 97, 98, 108, 101, 45, 99, 101, 108, 108, 32, 116, 97, 98, 108, 101, 45, 114, 111, 119, 32, 116, 97, 98, 108, 101, 45, 114, 111, 119, 45, 103, 114, 111, 117, 112])]) w := by kernel_rfl
set_option maxRecDepth 100000 in
theorem ti8 (w : World) : (Instr.index 50 (.agg tabC.toArray) (.int .i64 8)).run Tryz.prog w = .ok (.agg #[.string (S [102, 108, 101, 120, 45, 98, 97, 115, 105, 115]), .int .i64 38, .string (S [97, 117, 116, 111])]) w := by kernel_rfl
set_option maxRecDepth 100000 in
theorem ti9 (w : World) : (Instr.index 50 (.agg tabC.toArray) (.int .i64 9)).run Tryz.prog w = .ok (.agg #[.string (S [102, 108, 101, 120, 45, 100, 105, 114, 101, 99, 116, 105, 111, 110]), .int .i64 0, .string (S [99, 111, 108, 117, 109, 110, 32, 114, 111, 119])]) w := by kernel_rfl
set_option maxRecDepth 100000 in
theorem ti10 (w : World) : (Instr.index 50 (.agg tabC.toArray) (.int .i64 10)).run Tryz.prog w = .ok (.agg #[.string (S [102, 108, 101, 120, 45, 103, 114, 111, 119]), .int .i64 40, .string (S [])]) w := by kernel_rfl
set_option maxRecDepth 100000 in
theorem ti11 (w : World) : (Instr.index 50 (.agg tabC.toArray) (.int .i64 11)).run Tryz.prog w = .ok (.agg #[.string (S [102, 108, 101, 120, 45, 115, 104, 114, 105, 110, 107]), .int .i64 40, .string (S [])]) w := by kernel_rfl
set_option maxRecDepth 100000 in
theorem ti12 (w : World) : (Instr.index 50 (.agg tabC.toArray) (.int .i64 12)).run Tryz.prog w = .ok (.agg #[.string (S [102, 108, 101, 120, 45, 119, 114, 97, 112]), .int .i64 0, .string (S [110, 111, 119, 114, 97, 112, 32, 119, 114, 97, 112])]) w := by kernel_rfl
set_option maxRecDepth 100000 in
theorem ti13 (w : World) : (Instr.index 50 (.agg tabC.toArray) (.int .i64 13)).run Tryz.prog w = .ok (.agg #[.string (S [102, 111, 110, 116, 45, 115, 105, 122, 101]), .int .i64 38, .string (S [])]) w := by kernel_rfl
set_option maxRecDepth 100000 in
theorem ti14 (w : World) : (Instr.index 50 (.agg tabC.toArray) (.int .i64 14)).run Tryz.prog w = .ok (.agg #[.string (S [104, 101, 105, 103, 104, 116]), .int .i64 38, .string (S [97, 117, 116, 111])]) w := by kernel_rfl
set_option maxRecDepth 100000 in
theorem ti15 (w : World) : (Instr.index 50 (.agg tabC.toArray) (.int .i64 15)).run Tryz.prog w = .ok (.agg #[.string (S [108, 101, 102, 116]), .int .i64 6, .string (S [97, 117, 116, 111])]) w := by kernel_rfl
set_option maxRecDepth 100000 in
theorem ti16 (w : World) : (Instr.index 50 (.agg tabC.toArray) (.int .i64 16)).run Tryz.prog w = .ok (.agg #[.string (S [108, 105, 110, 101, 45, 104, 101, 105, 103, 104, 116]), .int .i64 46, .string (S [110, 111, 114, 109, 97, 108])]) w := by kernel_rfl
set_option maxRecDepth 100000 in
theorem ti17 (w : World) : (Instr.index 50 (.agg tabC.toArray) (.int .i64 17)).run Tryz.prog w = .ok (.agg #[.string (S [109, 97, 114, 103, 105, 110, 45, 98, 111, 116, 116, 111, 109]), .int .i64 6, .string (S [97, 117, 116, 111])]) w := by kernel_rfl
set_option maxRecDepth 100000 in
theorem ti18 (w : World) : (Instr.index 50 (.agg tabC.toArray) (.int .i64 18)).run Tryz.prog w = .ok (.agg #[.string (S [109, 97, 114, 103, 105, 110, 45, 108, 101, 102, 116]), .int .i64 6, .string (S [97, 117, 116, 111])]) w := by kernel_rfl
set_option maxRecDepth 100000 in
theorem ti19 (w : World) : (Instr.index 50 (.agg tabC.toArray) (.int .i64 19)).run Tryz.prog w = .ok (.agg #[.string (S [109, 97, 114, 103, 105, 110, 45, 114, 105, 103, 104, 116]), .int .i64 6, .string (S [97, 117, 116, 111])]) w := by kernel_rfl
set_option maxRecDepth 100000 in
theorem ti20 (w : World) : (Instr.index 50 (.agg tabC.toArray) (.int .i64 20)).run Tryz.prog w = .ok (.agg #[.string (S [109, 97, 114, 103, 105, 110, 45, 116, 111, 112]), .int .i64 6, .string (S [97, 117, 116, 111])]) w := by kernel_rfl
set_option maxRecDepth 100000 in
theorem ti21 (w : World) : (Instr.index 50 (.agg tabC.toArray) (.int .i64 21)).run Tryz.prog w = .ok (.agg #[.string (S [109, 97, 120, 45, 119, 105, 100, 116, 104]), .int .i64 38, .string (S [110, 111, 110, 101])]) w := by kernel_rfl
set_option maxRecDepth 100000 in
theorem ti22 (w : World) : (Instr.index 50 (.agg tabC.toArray) (.int .i64 22)).run Tryz.prog w = .ok (.agg #[.string (S [109, 105, 110, 45, 119, 105, 100, 116, 104]), .int .i64 38, .string (S [])]) w := by kernel_rfl
set_option maxRecDepth 100000 in
theorem ti23 (w : World) : (Instr.index 50 (.agg tabC.toArray) (.int .i64 23)).run Tryz.prog w = .ok (.agg #[.string (S [111, 114, 100, 101, 114]), .int .i64 24, .string (S [])]) w := by kernel_rfl
set_option maxRecDepth 100000 in
theorem ti24 (w : World) : (Instr.index 50 (.agg tabC.toArray) (.int .i64 24)).run Tryz.prog w = .ok (.agg #[.string (S [111, 118, 101, 114, 102, 108, 111, 119]), .int .i64 0, .string (S [104, 105, 100, 100, 101, 110, 32, 115, 99, 114, 111, 108, 108, 32, 118, 105, 115, 105, 98, 108, 101])]) w := by kernel_rfl
set_option maxRecDepth 100000 in
theorem ti25 (w : World) : (Instr.index 50 (.agg tabC.toArray) (.int .i64 25)).run Tryz.prog w = .ok (.agg #[.string (S [112, 97, 100, 100, 105, 110, 103, 45, 98, 111, 116, 116, 111, 109]), .int .i64 38, .string (S [])]) w := by kernel_rfl
set_option maxRecDepth 100000 in
theorem ti26 (w : World) : (Instr.index 50 (.agg tabC.toArray) (.int .i64 26)).run Tryz.prog w = .ok (.agg #[.string (S [112, 97, 100, 100, 105, 110, 103, 45, 108, 101, 102, 116]), .int .i64 38, .string (S [])]) w := by kernel_rfl
set_option maxRecDepth 100000 in
theorem ti27 (w : World) : (Instr.index 50 (.agg tabC.toArray) (.int .i64 27)).run Tryz.prog w = .ok (.agg #[.string (S [112, 97, 100, 100, 105, 110, 103, 45, 114, 105, 103, 104, 116]), .int .i64 38, .string (S [])]) w := by kernel_rfl
set_option maxRecDepth 100000 in
theorem ti28 (w : World) : (Instr.index 50 (.agg tabC.toArray) (.int .i64 28)).run Tryz.prog w = .ok (.agg #[.string (S [112, 97, 100, 100, 105, 110, 103, 45, 116, 111, 112]), .int .i64 38, .string (S [])]) w := by kernel_rfl
set_option maxRecDepth 100000 in
theorem ti29 (w : World) : (Instr.index 50 (.agg tabC.toArray) (.int .i64 29)).run Tryz.prog w = .ok (.agg #[.string (S [112, 111, 115, 105, 116, 105, 111, 110]), .int .i64 0, .string (S [97, 98, 115, 111, 108, 117, 116, 101, 32, 114, 101, 108, 97, 116, 105, 118, 101, 32, 115, 116, 97, 116, 105, 99])]) w := by kernel_rfl
set_option maxRecDepth 100000 in
theorem ti30 (w : World) : (Instr.index 50 (.agg tabC.toArray) (.int .i64 30)).run Tryz.prog w = .ok (.agg #[.string (S [116, 101, 120, 116, 45, 97, 108, 105, 103, 110]), .int .i64 0, .string (S [99, 101, 110, 116, 101, 114, 32, 108, 101, 102, 116, 32, 114, 105, 103, 104, 116])]) w := by kernel_rfl
set_option maxRecDepth 100000 in
theorem ti31 (w : World) : (Instr.index 50 (.agg tabC.toArray) (.int .i64 31)).run Tryz.prog w = .ok (.agg #[.string (S [116, 111, 112]), .int .i64 6, .string (S [97, 117, 116, 111])]) w := by kernel_rfl
set_option maxRecDepth 100000 in
theorem ti32 (w : World) : (Instr.index 50 (.agg tabC.toArray) (.int .i64 32)).run Tryz.prog w = .ok (.agg #[.string (S [118, 101, 114, 116, 105, 99, 97, 108, 45, 97, 108, 105, 103, 110]), .int .i64 0, .string (S [98, 111, 116, 116, 111, 109, 32, 109, 105, 100, 100, 108, 101, 32, 116, 111, 112])]) w := by kernel_rfl
set_option maxRecDepth 100000 in
theorem ti33 (w : World) : (Instr.index 50 (.agg tabC.toArray) (.int .i64 33)).run Tryz.prog w = .ok (.agg #[.string (S [118, 105, 115, 105, 98, 105, 108, 105, 116, 121]), .int .i64 0, .string (S [104, 105, 100, 100, 101, 110, 32, 118, 105, 115, 105, 98, 108, 101])]) w := by kernel_rfl
set_option maxRecDepth 100000 in
theorem ti34 (w : World) : (Instr.index 50 (.agg tabC.toArray) (.int .i64 34)).run Tryz.prog w = .ok (.agg #[.string (S [119, 104, 105, 116, 101, 45, 115, 112, 97, 99, 101]), .int .i64 0, .string (S [110, 111, 114, 109, 97, 108, 32, 110, 111, 119, 114, 97, 112, 32, 112, 114, 101])]) w := by kernel_rfl
set_option maxRecDepth 100000 in
theorem ti35 (w : World) : (Instr.index 50 (.agg tabC.toArray) (.int .i64 35)).run Tryz.prog w = .ok (.agg #[.string (S [119, 105, 100, 116, 104]), .int .i64 38, .string (S [97, 117, 116, 111])]) w := by kernel_rfl
set_option maxRecDepth 100000 in
theorem ti36 (w : World) : (Instr.index 50 (.agg tabC.toArray) (.int .i64 36)).run Tryz.prog w = .ok (.agg #[.string (S [122, 45, 105, 110, 100, 101, 120]), .int .i64 24, .string (S [97, 117, 116, 111])]) w := by kernel_rfl
theorem tab_index (w : World) : ∀ (k : Nat) (x : List UInt8 × Int × List UInt8), tabE[k]? = some x → (Instr.index 50 (.agg tabC.toArray) (.int .i64 (k : Nat))).run Tryz.prog w = .ok (.agg #[.string (S x.1), .int .i64 x.2.1, .string (S x.2.2)]) w
  | 0, x, h => by cases h; exact ti0 w
  | 1, x, h => by cases h; exact ti1 w
  | 2, x, h => by cases h; exact ti2 w
  | 3, x, h => by cases h; exact ti3 w
  | 4, x, h => by cases h; exact ti4 w
  | 5, x, h => by cases h; exact ti5 w
  | 6, x, h => by cases h; exact ti6 w
  | 7, x, h => by cases h; exact ti7 w
  | 8, x, h => by cases h; exact ti8 w
  | 9, x, h => by cases h; exact ti9 w
  | 10, x, h => by cases h; exact ti10 w
  | 11, x, h => by cases h; exact ti11 w
  | 12, x, h => by cases h; exact ti12 w
  | 13, x, h => by cases h; exact ti13 w
  | 14, x, h => by cases h; exact ti14 w
  | 15, x, h => by cases h; exact ti15 w
  | 16, x, h => by cases h; exact ti16 w
  | 17, x, h => by cases h; exact ti17 w
  | 18, x, h => by cases h; exact ti18 w
  | 19, x, h => by cases h; exact ti19 w
  | 20, x, h => by cases h; exact ti20 w
  | 21, x, h => by cases h; exact ti21 w
  | 22, x, h => by cases h; exact ti22 w
  | 23, x, h => by cases h; exact ti23 w
  | 24, x, h => by cases h; exact ti24 w
  | 25, x, h => by cases h; exact ti25 w
  | 26, x, h => by cases h; exact ti26 w
  | 27, x, h => by cases h; exact ti27 w
  | 28, x, h => by cases h; exact ti28 w
  | 29, x, h => by cases h; exact ti29 w
  | 30, x, h => by cases h; exact ti30 w
  | 31, x, h => by cases h; exact ti31 w
  | 32, x, h => by cases h; exact ti32 w
  | 33, x, h => by cases h; exact ti33 w
  | 34, x, h => by cases h; exact ti34 w
  | 35, x, h => by cases h; exact ti35 w
  | 36, x, h => by cases h; exact ti36 w
  | k + 37, x, h => by exact absurd h (by rw [List.getElem?_eq_none (by simp [tabE])]; simp)
end Go.Proofs.YtldembadjgibjaaGreatDoor
