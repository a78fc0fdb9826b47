/- A line, as it stands in memory. -/
import Derived.Test.YtjhkaanphpcepaaLkStep
set_option maxRecDepth 100000
set_option linter.unusedSimpArgs false
set_option linter.unusedVariables false
namespace Go.Proofs.Lk
open Go.Pv

def strs (l : List (List UInt8)) : PV := .sl 1 (l.map .str)
def Ln.pv (l : Ln) : PV := .agg [.int .i64 l.A.most, pcs l.A.way, .int .i64 l.A.next, .str l.A.rest, .int .i64 l.A.exp, .str (l.A.aside 0), .str (l.A.aside 1), .str (l.A.aside 2), .str (l.A.aside 3), .str (l.A.aside 4), .str (l.A.aside 5), .str (l.A.aside 6), .str (l.A.aside 7), .str (l.A.aside 8), .str (l.A.aside 9), .str (l.A.aside 10), .str (l.A.aside 11), .str (l.A.aside 12), .str (l.A.aside 13), .str (l.A.aside 14), .str (l.A.aside 15), .str l.A.read, .bool l.A.ack, .int .i64 l.B.most, pcs l.B.way, .int .i64 l.B.next, .str l.B.rest, .int .i64 l.B.exp, .str (l.B.aside 0), .str (l.B.aside 1), .str (l.B.aside 2), .str (l.B.aside 3), .str (l.B.aside 4), .str (l.B.aside 5), .str (l.B.aside 6), .str (l.B.aside 7), .str (l.B.aside 8), .str (l.B.aside 9), .str (l.B.aside 10), .str (l.B.aside 11), .str (l.B.aside 12), .str (l.B.aside 13), .str (l.B.aside 14), .str (l.B.aside 15), .str l.B.read, .bool l.B.ack, strs l.T, strs l.K, .str l.S, .str l.R, .str l.C, .str l.D]
end Go.Proofs.Lk
