/- A packet as data. -/
import Derived.Test.YtajbfmdgnkpjgaaOnly
namespace Go.Proofs.Ytajbfmdgnkpjgaa
structure Pk where
  src : Int
  dst : Int
  seq : Int
  data : ByteArray
def Pk.zero : Pk := ⟨0, 0, 0, ⟨#[]⟩⟩
abbrev Pk.val (p : Pk) : Value := .agg #[.int .i64 p.src, .int .i64 p.dst, .int .i64 p.seq, .string p.data]
def Pk.cells (p : Pk) : List Value := [.int .i64 p.src, .int .i64 p.dst, .int .i64 p.seq, .string p.data]
theorem Pk.clen (p : Pk) : p.cells.length = 4 := rfl
end Go.Proofs.Ytajbfmdgnkpjgaa
