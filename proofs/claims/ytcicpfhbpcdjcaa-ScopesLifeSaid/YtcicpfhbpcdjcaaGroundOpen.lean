/- How the arguments of ground's laws are opened: bytes, and things that are done. -/
import Derived.Test.YtcicpfhbpcdjcaaGroundI
import Derived.Deep.Strs
namespace Go.Proofs.Ytcicpfhbpcdjcaa
open Go.RowKit Go.ChangeShapes Go.WideShapes

def byteCells (b : Int) : List Value := [.int .u8 b]
def ByteOk (b : Int) : Prop := 0 ≤ b ∧ b ≤ 255
theorem byte_of_trod {H : Type} {enc : TypeId × Value → H} {w : World} {base : Nat} {spare : Nat → Bool} {held : Bool} (n : Nat) (cs : List Value) (y : DataW H × List MemPlace)
    (h : DataW.trod enc Try.prog w base spare held n 5 cs = some y) : ∃ a, cs = byteCells a ∧ ByteOk a := by
  obtain ⟨z, hz, _, hw⟩ := DataW.trod_int Try.underlying5 h
  exact ⟨z, hz, wf_u8 hw⟩
theorem bytes_len (l : List Int) : (l.flatMap byteCells).length = l.length := by
  have := flat_length byteCells 1 (fun _ => rfl) l
  omega
theorem bytes_at {w : World} {A : Option Addr} {l : List Int} (h : Cells w A (l.flatMap byteCells)) (h0 : 0 < l.length) : ∃ b off, A = some ⟨b, off, none⟩ ∧ b < w.heap.size ∧
    ∀ k x, l[k]? = some x → w.cell? ⟨b, off + k, none⟩ = some (.int .u8 x) := by
  obtain ⟨b, off, e, hb, hc⟩ := Cells.at_ h (by rw [bytes_len]; omega)
  refine ⟨b, off, e, hb, fun k x hk => ?_⟩
  have h1 := hc (k * 1 + 0) (.int .u8 x) (by rw [flat_get byteCells 1 (fun _ => rfl) l k 0 (by omega), hk]; rfl)
  simpa using h1

abbrev GOp := Int × Int × Int
def gopCells (o : GOp) : List Value := [.int .u8 o.1, .int .i64 o.2.1, .int .i64 o.2.2]
def GOpOk (o : GOp) : Prop := (0 ≤ o.1 ∧ o.1 ≤ 255) ∧ (-9223372036854775808 ≤ o.2.1 ∧ o.2.1 ≤ 9223372036854775807) ∧ (-9223372036854775808 ≤ o.2.2 ∧ o.2.2 ≤ 9223372036854775807)
theorem gops_len (l : List GOp) : (l.flatMap gopCells).length = l.length * 3 := flat_length gopCells 3 (fun _ => rfl) l
theorem gops_at {w : World} {A : Option Addr} {l : List GOp} (h : Cells w A (l.flatMap gopCells)) (h0 : 0 < l.length) : ∃ b off, A = some ⟨b, off, none⟩ ∧ b < w.heap.size ∧
    ∀ k x, l[k]? = some x → w.cell? ⟨b, off + k * 3, none⟩ = some (.int .u8 x.1) ∧ w.cell? ⟨b, off + k * 3 + 1, none⟩ = some (.int .i64 x.2.1) ∧ w.cell? ⟨b, off + k * 3 + 2, none⟩ = some (.int .i64 x.2.2) := by
  obtain ⟨b, off, e, hb, hc⟩ := Cells.at_ h (by rw [gops_len]; omega)
  refine ⟨b, off, e, hb, fun k x hk => ?_⟩
  have h1 := hc (k * 3 + 0) (.int .u8 x.1) (by rw [flat_get gopCells 3 (fun _ => rfl) l k 0 (by omega), hk]; rfl)
  have h2 := hc (k * 3 + 1) (.int .i64 x.2.1) (by rw [flat_get gopCells 3 (fun _ => rfl) l k 1 (by omega), hk]; rfl)
  have h3 := hc (k * 3 + 2) (.int .i64 x.2.2) (by rw [flat_get gopCells 3 (fun _ => rfl) l k 2 (by omega), hk]; rfl)
  exact ⟨by simpa using h1, by rw [Nat.add_assoc]; exact h2, by rw [Nat.add_assoc]; exact h3⟩
set_option maxRecDepth 100000 in
theorem gop_of_trod {H : Type} {enc : TypeId × Value → H} {w : World} {base : Nat} {spare : Nat → Bool} {held : Bool} (n : Nat) (cs : List Value) (y : DataW H × List MemPlace)
    (h : DataW.trod enc Try.prog w base spare held n 35 cs = some y) : ∃ a, cs = gopCells a ∧ GOpOk a := by
  obtain ⟨y0, y1, y2, m, _, hl, h0, h1, h2⟩ := Go.Deep.trod_struct3 Try.underlying35 h
  have hl3 : cs.length = 3 := hl.trans (by kernel_rfl)
  match cs, hl3 with
  | [c0, c1, c2], _ =>
    have k0 : Try.prog.cellsOf 5 = 1 := by kernel_rfl
    have k1 : Try.prog.cellsOf 3 = 1 := by kernel_rfl
    rw [k0] at h0
    rw [k1] at h1
    rw [k1] at h2
    obtain ⟨a, ha, _, hwa⟩ := DataW.trod_int Try.underlying5 h0
    obtain ⟨b, hb, _, hwb⟩ := DataW.trod_int Try.underlying3 h1
    obtain ⟨c, hc, _, hwc⟩ := DataW.trod_int Try.underlying3 h2
    simp at ha hb hc
    subst ha; subst hb; subst hc
    exact ⟨(a, b, c), rfl, wf_u8 hwa, wf_int hwb, wf_int hwc⟩

end Go.Proofs.Ytcicpfhbpcdjcaa
