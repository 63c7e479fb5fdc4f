/- find.Search, find.Word: their contracts, under the names that the printed texts call. -/
import Derived.Test.YtbfoflhfmhfofaaExtW
namespace Go.Proofs.Ytbfoflhfmhfofaa.Out
open Go.RowKit Go.Proofs.YtbfoflhfmhfofaaW.PrintWords
def find_Search.f (l0 : List ByteArray) (a1_0 : Int) (a1_1 : Int) (a2 : ByteArray) (a3 : Bool) (a4 : Int) : Option (Int × Int × Int × Bool × Int × Bool) := Ext.find_Search.f l0 a1_0 a1_1 a2 a3 a4
theorem find_Search.calls (A0 : Option Addr) (c0 : Nat) (l0 : List ByteArray) (a1_0 : Int) (a1_1 : Int) (a2 : ByteArray) (a3 : Bool) (a4 : Int) (r1 : Int) (r2 : Int) (r3 : Int) (r4 : Bool) (r5 : Int) (r6 : Bool) (w : World) (hr0 : Kd.C Kd.string w A0 l0.length l0) (hc0 : l0.length ≤ c0) (h : find_Search.f l0 a1_0 a1_1 a2 a3 a4 = some (r1, r2, r3, r4, r5, r6)) :
    Calls Try.prog 12 #[.slice A0 l0.length c0, .agg #[.int .i64 a1_0, .int .i64 a1_1], .string a2, .bool a3, .int .i64 a4] w fun e w' => e = .returned (.tuple #[.agg #[.int .i64 r1, .int .i64 r2, .int .i64 r3, .bool r4, .int .i64 r5], .bool r6]) ∧ Below w.heap.size w w' :=
  Ext.find_Search.calls A0 c0 l0 a1_0 a1_1 a2 a3 a4 r1 r2 r3 r4 r5 r6 w hr0 hc0 h
def find_Word.f (l0 : List ByteArray) (a1_0 : Int) (a1_1 : Int) : Option (Int × Int × ByteArray × Bool) := Ext.find_Word.f l0 a1_0 a1_1
theorem find_Word.calls (A0 : Option Addr) (c0 : Nat) (l0 : List ByteArray) (a1_0 : Int) (a1_1 : Int) (r1 : Int) (r2 : Int) (r3 : ByteArray) (r4 : Bool) (w : World) (hr0 : Kd.C Kd.string w A0 l0.length l0) (hc0 : l0.length ≤ c0) (h : find_Word.f l0 a1_0 a1_1 = some (r1, r2, r3, r4)) :
    Calls Try.prog 15 #[.slice A0 l0.length c0, .agg #[.int .i64 a1_0, .int .i64 a1_1]] w fun e w' => e = .returned (.tuple #[.agg #[.int .i64 r1, .int .i64 r2], .string r3, .bool r4]) ∧ Below w.heap.size w w' :=
  Ext.find_Word.calls A0 c0 l0 a1_0 a1_1 r1 r2 r3 r4 w hr0 hc0 h
end Go.Proofs.Ytbfoflhfmhfofaa.Out
