/-
  No cell of these rows narrows 'for every input' (looked for: loops, veiled, ifaces, maps, wideKeys, modest, calm, conditions, laid).
  DERIVED. THE GIVEN ROWS OF THIS SEAT. 7 by the template 'for every input the law returns true; each argument reads behind the call as it read before'; 0 by the template 'total and deterministic' (their statements: YtdklanenmihpdaaTotals.lean).
  GIVEN WITH THE SEED: the statements are not yours to turn. If you find one false, say at which input.
  Laid BY PROGRAM, IN A SANDBOX (cutbox-rows.mjs): the forced cells as the released guide's own fill.sh prints them over the translation c2a64d916d2678c0… (all of the seat's roots in one cut). By AI agents, Wed Nov 11 2026. No macro, syntax, notation, axiom, sorry.
-/
import Derived.Test.YtdklanenmihpdaaChecked
import GoSem.Claim
import GoSem.ClaimJoined
import GoSem.ClaimMapViews
import Derived.JoinedTies
import Derived.KernelRfl
namespace Go.Proofs.Ytdklanenmihpdaa
/- THE CELL 'sum', in the pinned program and in every row, IS THE sha256 OF THE DUMP (.gsa) THAT YtdklanenmihpdaaProg.lean LOADS. Nothing in Lean hashes anything: it is a label: what it is worth is what the hold of that sum in a sandbox is worth. -/
noncomputable def Try.pinned : Pinned := { name := "ytdklanenmihpdaa", sum := "c2a64d916d2678c0d81f6cb10897b2cd98e54bc5570d977af007251c3257b9db", checked := Try.checked }
namespace Rows
def none {H : Type} : Left H := { results := [], args := [] }

/-- 'tiklaw15.RecTells': WHATEVER THE INPUT: true; the input reads as it did. -/
def recTellsSpec : ChangeSpec := { name := "recTells", fn := fun _ => fun
  | [d1, d2, d3, d4] => { results := [.lit (.bool true)], args := [d1, d2, d3, d4] }
  | _ => none }
def recTellsRow : OpenClaim := { program := "ytdklanenmihpdaa", sum := "c2a64d916d2678c0d81f6cb10897b2cd98e54bc5570d977af007251c3257b9db", func := "tickertape/tiklaw15.RecTells", spec := "recTells", inPlace := ["internal/bytealg.MakeNoZero"], unfollowed := true, recurses := true, apart := false }
def RecTellsSaid : Prop := recTellsRow.holds Try.pinned (OpenSpec.ofChange recTellsSpec)

/-- ITS FALSE NEIGHBOUR: 'it returns false'. Refute it at one input. -/
def recTellsWrong : ChangeSpec := { name := "recTells", fn := fun _ => fun
  | [d1, d2, d3, d4] => { results := [.lit (.bool false)], args := [d1, d2, d3, d4] }
  | _ => none }
def RecTellsWrongFalsely : Prop := recTellsRow.holds Try.pinned (OpenSpec.ofChange recTellsWrong)

/-- 'tiklaw15.RecBack': WHATEVER THE INPUT: true; the input reads as it did. -/
def recBackSpec : ChangeSpec := { name := "recBack", fn := fun _ => fun
  | [d1, d2, d3, d4, d5, d6] => { results := [.lit (.bool true)], args := [d1, d2, d3, d4, d5, d6] }
  | _ => none }
def recBackRow : OpenClaim := { program := "ytdklanenmihpdaa", sum := "c2a64d916d2678c0d81f6cb10897b2cd98e54bc5570d977af007251c3257b9db", func := "tickertape/tiklaw15.RecBack", spec := "recBack", inPlace := ["internal/bytealg.MakeNoZero"], unfollowed := true, recurses := true, apart := false }
def RecBackSaid : Prop := recBackRow.holds Try.pinned (OpenSpec.ofChange recBackSpec)

/-- ITS FALSE NEIGHBOUR: 'it returns false'. Refute it at one input. -/
def recBackWrong : ChangeSpec := { name := "recBack", fn := fun _ => fun
  | [d1, d2, d3, d4, d5, d6] => { results := [.lit (.bool false)], args := [d1, d2, d3, d4, d5, d6] }
  | _ => none }
def RecBackWrongFalsely : Prop := recBackRow.holds Try.pinned (OpenSpec.ofChange recBackWrong)

/-- 'tiklaw15.RecApart': WHATEVER THE INPUT: true; the input reads as it did. -/
def recApartSpec : ChangeSpec := { name := "recApart", fn := fun _ => fun
  | [d1, d2] => { results := [.lit (.bool true)], args := [d1, d2] }
  | _ => none }
def recApartRow : OpenClaim := { program := "ytdklanenmihpdaa", sum := "c2a64d916d2678c0d81f6cb10897b2cd98e54bc5570d977af007251c3257b9db", func := "tickertape/tiklaw15.RecApart", spec := "recApart", inPlace := ["internal/bytealg.MakeNoZero"], unfollowed := true, recurses := true, apart := false }
def RecApartSaid : Prop := recApartRow.holds Try.pinned (OpenSpec.ofChange recApartSpec)

/-- ITS FALSE NEIGHBOUR: 'it returns false'. Refute it at one input. -/
def recApartWrong : ChangeSpec := { name := "recApart", fn := fun _ => fun
  | [d1, d2] => { results := [.lit (.bool false)], args := [d1, d2] }
  | _ => none }
def RecApartWrongFalsely : Prop := recApartRow.holds Try.pinned (OpenSpec.ofChange recApartWrong)

/-- 'tiklaw26.FragPuts': WHATEVER THE INPUT: true; the input reads as it did. -/
def fragPutsSpec : ChangeSpec := { name := "fragPuts", fn := fun _ => fun
  | [d1, d2, d3] => { results := [.lit (.bool true)], args := [d1, d2, d3] }
  | _ => none }
def fragPutsRow : OpenClaim := { program := "ytdklanenmihpdaa", sum := "c2a64d916d2678c0d81f6cb10897b2cd98e54bc5570d977af007251c3257b9db", func := "tickertape/tiklaw26.FragPuts", spec := "fragPuts", inPlace := ["internal/bytealg.MakeNoZero"], unfollowed := true, recurses := true, apart := false }
def FragPutsSaid : Prop := fragPutsRow.holds Try.pinned (OpenSpec.ofChange fragPutsSpec)

/-- ITS FALSE NEIGHBOUR: 'it returns false'. Refute it at one input. -/
def fragPutsWrong : ChangeSpec := { name := "fragPuts", fn := fun _ => fun
  | [d1, d2, d3] => { results := [.lit (.bool false)], args := [d1, d2, d3] }
  | _ => none }
def FragPutsWrongFalsely : Prop := fragPutsRow.holds Try.pinned (OpenSpec.ofChange fragPutsWrong)

/-- 'tiklaw26.FragBack': WHATEVER THE INPUT: true; the input reads as it did. -/
def fragBackSpec : ChangeSpec := { name := "fragBack", fn := fun _ => fun
  | [d1, d2, d3, d4] => { results := [.lit (.bool true)], args := [d1, d2, d3, d4] }
  | _ => none }
def fragBackRow : OpenClaim := { program := "ytdklanenmihpdaa", sum := "c2a64d916d2678c0d81f6cb10897b2cd98e54bc5570d977af007251c3257b9db", func := "tickertape/tiklaw26.FragBack", spec := "fragBack", inPlace := ["internal/bytealg.MakeNoZero"], unfollowed := true, recurses := true, apart := false }
def FragBackSaid : Prop := fragBackRow.holds Try.pinned (OpenSpec.ofChange fragBackSpec)

/-- ITS FALSE NEIGHBOUR: 'it returns false'. Refute it at one input. -/
def fragBackWrong : ChangeSpec := { name := "fragBack", fn := fun _ => fun
  | [d1, d2, d3, d4] => { results := [.lit (.bool false)], args := [d1, d2, d3, d4] }
  | _ => none }
def FragBackWrongFalsely : Prop := fragBackRow.holds Try.pinned (OpenSpec.ofChange fragBackWrong)

/-- 'tiklaw26.FragSizes': WHATEVER THE INPUT: true; the input reads as it did. -/
def fragSizesSpec : ChangeSpec := { name := "fragSizes", fn := fun _ => fun
  | [d1, d2, d3] => { results := [.lit (.bool true)], args := [d1, d2, d3] }
  | _ => none }
def fragSizesRow : OpenClaim := { program := "ytdklanenmihpdaa", sum := "c2a64d916d2678c0d81f6cb10897b2cd98e54bc5570d977af007251c3257b9db", func := "tickertape/tiklaw26.FragSizes", spec := "fragSizes", inPlace := ["internal/bytealg.MakeNoZero"], unfollowed := true, recurses := true, apart := false }
def FragSizesSaid : Prop := fragSizesRow.holds Try.pinned (OpenSpec.ofChange fragSizesSpec)

/-- ITS FALSE NEIGHBOUR: 'it returns false'. Refute it at one input. -/
def fragSizesWrong : ChangeSpec := { name := "fragSizes", fn := fun _ => fun
  | [d1, d2, d3] => { results := [.lit (.bool false)], args := [d1, d2, d3] }
  | _ => none }
def FragSizesWrongFalsely : Prop := fragSizesRow.holds Try.pinned (OpenSpec.ofChange fragSizesWrong)

/-- 'tiklaw26.FragNewer': WHATEVER THE INPUT: true; the input reads as it did. -/
def fragNewerSpec : ChangeSpec := { name := "fragNewer", fn := fun _ => fun
  | [d1, d2, d3, d4] => { results := [.lit (.bool true)], args := [d1, d2, d3, d4] }
  | _ => none }
def fragNewerRow : OpenClaim := { program := "ytdklanenmihpdaa", sum := "c2a64d916d2678c0d81f6cb10897b2cd98e54bc5570d977af007251c3257b9db", func := "tickertape/tiklaw26.FragNewer", spec := "fragNewer", inPlace := ["internal/bytealg.MakeNoZero"], unfollowed := true, recurses := true, apart := false }
def FragNewerSaid : Prop := fragNewerRow.holds Try.pinned (OpenSpec.ofChange fragNewerSpec)

/-- ITS FALSE NEIGHBOUR: 'it returns false'. Refute it at one input. -/
def fragNewerWrong : ChangeSpec := { name := "fragNewer", fn := fun _ => fun
  | [d1, d2, d3, d4] => { results := [.lit (.bool false)], args := [d1, d2, d3, d4] }
  | _ => none }
def FragNewerWrongFalsely : Prop := fragNewerRow.holds Try.pinned (OpenSpec.ofChange fragNewerWrong)

/- THE SECOND FORM. 'bulk': how many values and letters a reading holds, each counted each time it is reached (what is shared counts as often as it is met; a slice's spare places count too). A statement '..UptoSaid' is the law's where the arguments, and the package variables that the reading takes, are together of bulk at most 1048576: NARROWER than '..Said'. Prove '..Said' where nothing that the law and all that it calls make is longer than what came in: it says more and counts as full. Else prove '..UptoSaid'. A law counts once. -/
mutual
def uptoBulk {H : Type} : DataW H → Nat
  | .lit (.string bytes) => bytes.length + 1
  | .lit _ => 1
  | .nil => 1
  | .ptr d => uptoBulk d + 1
  | .slice elems spare => uptoBulkAll elems + uptoBulkAll spare + 1
  | .agg parts => uptoBulkAll parts + 1
  | .iface _ d => uptoBulk d + 1
  | .map entries => uptoBulkEntries entries + 1
  | .held _ => 1
def uptoBulkAll {H : Type} : List (DataW H) → Nat
  | [] => 0
  | d :: r => uptoBulk d + uptoBulkAll r
def uptoBulkEntries {H : Type} : List (Lit × DataW H) → Nat
  | [] => 0
  | x :: r => uptoBulkEntry x + uptoBulkEntries r
def uptoBulkEntry {H : Type} : Lit × DataW H → Nat
  | (.string bytes, d) => bytes.length + uptoBulk d + 1
  | (_, d) => uptoBulk d + 1
 end
def uptoSmall : (H : Type) → List (DataW H) → Bool := fun _ ds => decide (uptoBulkAll ds ≤ 1048576)
def OpenSpec.upto (s : _root_.Go.ChangeSpec) : _root_.Go.OpenSpec := { _root_.Go.OpenSpec.ofChange s with cond := some uptoSmall }

/-- 'tiklaw15.RecTells', WHERE WHAT IT READS IS OF BULK AT MOST 1048576: true; the input reads as it did. -/
def recTellsUptoRow : OpenClaim := { program := "ytdklanenmihpdaa", sum := "c2a64d916d2678c0d81f6cb10897b2cd98e54bc5570d977af007251c3257b9db", func := "tickertape/tiklaw15.RecTells", spec := "recTells", inPlace := ["internal/bytealg.MakeNoZero"], unfollowed := true, recurses := true, apart := false, narrowed := true }
def RecTellsUptoSaid : Prop := recTellsUptoRow.holds Try.pinned (OpenSpec.upto recTellsSpec)

/-- 'tiklaw15.RecBack', WHERE WHAT IT READS IS OF BULK AT MOST 1048576: true; the input reads as it did. -/
def recBackUptoRow : OpenClaim := { program := "ytdklanenmihpdaa", sum := "c2a64d916d2678c0d81f6cb10897b2cd98e54bc5570d977af007251c3257b9db", func := "tickertape/tiklaw15.RecBack", spec := "recBack", inPlace := ["internal/bytealg.MakeNoZero"], unfollowed := true, recurses := true, apart := false, narrowed := true }
def RecBackUptoSaid : Prop := recBackUptoRow.holds Try.pinned (OpenSpec.upto recBackSpec)

/-- 'tiklaw15.RecApart', WHERE WHAT IT READS IS OF BULK AT MOST 1048576: true; the input reads as it did. -/
def recApartUptoRow : OpenClaim := { program := "ytdklanenmihpdaa", sum := "c2a64d916d2678c0d81f6cb10897b2cd98e54bc5570d977af007251c3257b9db", func := "tickertape/tiklaw15.RecApart", spec := "recApart", inPlace := ["internal/bytealg.MakeNoZero"], unfollowed := true, recurses := true, apart := false, narrowed := true }
def RecApartUptoSaid : Prop := recApartUptoRow.holds Try.pinned (OpenSpec.upto recApartSpec)

/-- 'tiklaw26.FragPuts', WHERE WHAT IT READS IS OF BULK AT MOST 1048576: true; the input reads as it did. -/
def fragPutsUptoRow : OpenClaim := { program := "ytdklanenmihpdaa", sum := "c2a64d916d2678c0d81f6cb10897b2cd98e54bc5570d977af007251c3257b9db", func := "tickertape/tiklaw26.FragPuts", spec := "fragPuts", inPlace := ["internal/bytealg.MakeNoZero"], unfollowed := true, recurses := true, apart := false, narrowed := true }
def FragPutsUptoSaid : Prop := fragPutsUptoRow.holds Try.pinned (OpenSpec.upto fragPutsSpec)

/-- 'tiklaw26.FragBack', WHERE WHAT IT READS IS OF BULK AT MOST 1048576: true; the input reads as it did. -/
def fragBackUptoRow : OpenClaim := { program := "ytdklanenmihpdaa", sum := "c2a64d916d2678c0d81f6cb10897b2cd98e54bc5570d977af007251c3257b9db", func := "tickertape/tiklaw26.FragBack", spec := "fragBack", inPlace := ["internal/bytealg.MakeNoZero"], unfollowed := true, recurses := true, apart := false, narrowed := true }
def FragBackUptoSaid : Prop := fragBackUptoRow.holds Try.pinned (OpenSpec.upto fragBackSpec)

/-- 'tiklaw26.FragSizes', WHERE WHAT IT READS IS OF BULK AT MOST 1048576: true; the input reads as it did. -/
def fragSizesUptoRow : OpenClaim := { program := "ytdklanenmihpdaa", sum := "c2a64d916d2678c0d81f6cb10897b2cd98e54bc5570d977af007251c3257b9db", func := "tickertape/tiklaw26.FragSizes", spec := "fragSizes", inPlace := ["internal/bytealg.MakeNoZero"], unfollowed := true, recurses := true, apart := false, narrowed := true }
def FragSizesUptoSaid : Prop := fragSizesUptoRow.holds Try.pinned (OpenSpec.upto fragSizesSpec)

/-- 'tiklaw26.FragNewer', WHERE WHAT IT READS IS OF BULK AT MOST 1048576: true; the input reads as it did. -/
def fragNewerUptoRow : OpenClaim := { program := "ytdklanenmihpdaa", sum := "c2a64d916d2678c0d81f6cb10897b2cd98e54bc5570d977af007251c3257b9db", func := "tickertape/tiklaw26.FragNewer", spec := "fragNewer", inPlace := ["internal/bytealg.MakeNoZero"], unfollowed := true, recurses := true, apart := false, narrowed := true }
def FragNewerUptoSaid : Prop := fragNewerUptoRow.holds Try.pinned (OpenSpec.upto fragNewerSpec)

end Rows
end Go.Proofs.Ytdklanenmihpdaa
