/- A list of fields, as it comes in. -/
import Derived.Test.YtldemgejcehhlaaAiL
import Derived.Test.YtldemgejcehhlaaP02Back2
set_option linter.unusedVariables false
namespace Go.AI
open Go
theorem fds_of {P : Program} : ∀ (es : List (List PV)), (∀ x, x ∈ es → PWL P [.int .i64, .int .i64, .int .i64] x) → ∃ l : List Fd, es = l.map encFd ∧ ∀ x, x ∈ l → I64 x.2.1
  | [], _ => ⟨[], rfl, fun x hx => by cases hx⟩
  | e :: es, h => by
    obtain ⟨l, rfl, hl⟩ := fds_of es (fun x hx => h x (List.mem_cons_of_mem _ hx))
    obtain ⟨p1, q1, rfl, h1, r1⟩ := (h e (List.mem_cons_self ..)).cons
    obtain ⟨p2, q2, rfl, h2, r2⟩ := r1.cons
    obtain ⟨p3, q3, rfl, h3, r3⟩ := r2.cons
    obtain rfl := r3.nil
    obtain ⟨k, rfl, _⟩ := h1.i64_of
    obtain ⟨v, rfl, hv⟩ := h2.i64_of
    obtain ⟨n, rfl, _⟩ := h3.i64_of
    exact ⟨(k, v, n) :: l, rfl, fun x hx => by
      rcases List.mem_cons.1 hx with rfl | hx
      · exact hv
      · exact hl x hx⟩
end Go.AI
