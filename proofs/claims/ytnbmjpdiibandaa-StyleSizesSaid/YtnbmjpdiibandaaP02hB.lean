/- Bytes behind a writer; a writer whose last byte is full. -/
import Derived.Test.YtnbmjpdiibandaaP02g
set_option linter.unusedVariables false
set_option linter.unusedSimpArgs false
set_option maxRecDepth 100000
namespace Go.AI
open Go Go.Proofs

theorem putBytes_ans {s t : List UInt8} (h : s.length + t.length ≤ 1099511627776) (f : Int) : Ans (fun k => call k f_bits_PutBytes [.s s, .i f, .s t] []) ([.s (s ++ t), .i 0], []) :=
  Ans.succ (fun k => u_bits_PutBytes k s f t) (.yes (by simpa using h) (.pure _))
theorem putAlign_ans (s : List UInt8) (f : Int) : Ans (fun k => call k f_bits_PutAlign [.s s, .i f] []) ([.s s, .i 0], []) :=
  Ans.succ (fun k => u_bits_PutAlign k s f) (.pure _)

end Go.AI
