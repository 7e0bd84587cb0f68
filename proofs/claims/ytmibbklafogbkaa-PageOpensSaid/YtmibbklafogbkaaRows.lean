/-
  No cell of these rows narrows 'for every input' (looked for: loops, veiled, ifaces, maps, wideKeys, modest, calm, conditions, laid).
  DERIVED. THE GIVEN ROWS OF THIS SEAT. 22 by the template 'for every input the law returns true; each argument reads behind the call as it read before'; 0 by the template 'total and deterministic' (their statements: YtmibbklafogbkaaTotals.lean).
  GIVEN WITH THE SEED: the statements are not yours to turn. If you find one false, say at which input.
  Laid BY PROGRAM, IN A SANDBOX (cutbox-rows.mjs): the forced cells as the released guide's own fill.sh prints them over the translation 847baafeec5cce69… (all of the seat's roots in one cut). By AI agents, Wed Nov 11 2026. No macro, syntax, notation, axiom, sorry.
-/
import Derived.Test.YtmibbklafogbkaaChecked
import GoSem.Claim
import GoSem.ClaimJoined
import GoSem.ClaimMapViews
import Derived.JoinedTies
import Derived.KernelRfl
namespace Go.Proofs.Ytmibbklafogbkaa
/- THE CELL 'sum', in the pinned program and in every row, IS THE sha256 OF THE DUMP (.gsa) THAT YtmibbklafogbkaaProg.lean LOADS. Nothing in Lean hashes anything: it is a label: what it is worth is what the hold of that sum in a sandbox is worth. -/
noncomputable def Try.pinned : Pinned := { name := "ytmibbklafogbkaa", sum := "847baafeec5cce69ce8f84d03b5ebb0465f7f03c8eca3b95380c259c0c6f4dda", checked := Try.checked }
namespace Rows
def none {H : Type} : Left H := { results := [], args := [] }

/-- 'cadastrelaw02.Sum32Sums': WHATEVER THE INPUT: true; the input reads as it did. -/
def sum32SumsSpec : ChangeSpec := { name := "sum32Sums", fn := fun _ => fun
  | [d1, d2, d3] => { results := [.lit (.bool true)], args := [d1, d2, d3] }
  | _ => none }
def sum32SumsRow : OpenClaim := { program := "ytmibbklafogbkaa", sum := "847baafeec5cce69ce8f84d03b5ebb0465f7f03c8eca3b95380c259c0c6f4dda", func := "cadastre/cadastrelaw02.Sum32Sums", spec := "sum32Sums", apart := false }
def Sum32SumsSaid : Prop := sum32SumsRow.holds Try.pinned (OpenSpec.ofChange sum32SumsSpec)

/-- ITS FALSE NEIGHBOUR: 'it returns false'. Refute it at one input. -/
def sum32SumsWrong : ChangeSpec := { name := "sum32Sums", fn := fun _ => fun
  | [d1, d2, d3] => { results := [.lit (.bool false)], args := [d1, d2, d3] }
  | _ => none }
def Sum32SumsWrongFalsely : Prop := sum32SumsRow.holds Try.pinned (OpenSpec.ofChange sum32SumsWrong)

/-- 'cadastrelaw02.Sum32Joins': WHATEVER THE INPUT: true; the input reads as it did. -/
def sum32JoinsSpec : ChangeSpec := { name := "sum32Joins", fn := fun _ => fun
  | [d1, d2, d3] => { results := [.lit (.bool true)], args := [d1, d2, d3] }
  | _ => none }
def sum32JoinsRow : OpenClaim := { program := "ytmibbklafogbkaa", sum := "847baafeec5cce69ce8f84d03b5ebb0465f7f03c8eca3b95380c259c0c6f4dda", func := "cadastre/cadastrelaw02.Sum32Joins", spec := "sum32Joins", apart := false }
def Sum32JoinsSaid : Prop := sum32JoinsRow.holds Try.pinned (OpenSpec.ofChange sum32JoinsSpec)

/-- ITS FALSE NEIGHBOUR: 'it returns false'. Refute it at one input. -/
def sum32JoinsWrong : ChangeSpec := { name := "sum32Joins", fn := fun _ => fun
  | [d1, d2, d3] => { results := [.lit (.bool false)], args := [d1, d2, d3] }
  | _ => none }
def Sum32JoinsWrongFalsely : Prop := sum32JoinsRow.holds Try.pinned (OpenSpec.ofChange sum32JoinsWrong)

/-- 'cadastrelaw02.Sum32Turns': WHATEVER THE INPUT: true; the input reads as it did. -/
def sum32TurnsSpec : ChangeSpec := { name := "sum32Turns", fn := fun _ => fun
  | [d1, d2, d3] => { results := [.lit (.bool true)], args := [d1, d2, d3] }
  | _ => none }
def sum32TurnsRow : OpenClaim := { program := "ytmibbklafogbkaa", sum := "847baafeec5cce69ce8f84d03b5ebb0465f7f03c8eca3b95380c259c0c6f4dda", func := "cadastre/cadastrelaw02.Sum32Turns", spec := "sum32Turns", apart := false }
def Sum32TurnsSaid : Prop := sum32TurnsRow.holds Try.pinned (OpenSpec.ofChange sum32TurnsSpec)

/-- ITS FALSE NEIGHBOUR: 'it returns false'. Refute it at one input. -/
def sum32TurnsWrong : ChangeSpec := { name := "sum32Turns", fn := fun _ => fun
  | [d1, d2, d3] => { results := [.lit (.bool false)], args := [d1, d2, d3] }
  | _ => none }
def Sum32TurnsWrongFalsely : Prop := sum32TurnsRow.holds Try.pinned (OpenSpec.ofChange sum32TurnsWrong)

/-- 'cadastrelaw02.Sum32Seen': WHATEVER THE INPUT: true; the input reads as it did. -/
def sum32SeenSpec : ChangeSpec := { name := "sum32Seen", fn := fun _ => fun
  | [d1, d2, d3] => { results := [.lit (.bool true)], args := [d1, d2, d3] }
  | _ => none }
def sum32SeenRow : OpenClaim := { program := "ytmibbklafogbkaa", sum := "847baafeec5cce69ce8f84d03b5ebb0465f7f03c8eca3b95380c259c0c6f4dda", func := "cadastre/cadastrelaw02.Sum32Seen", spec := "sum32Seen", apart := false }
def Sum32SeenSaid : Prop := sum32SeenRow.holds Try.pinned (OpenSpec.ofChange sum32SeenSpec)

/-- ITS FALSE NEIGHBOUR: 'it returns false'. Refute it at one input. -/
def sum32SeenWrong : ChangeSpec := { name := "sum32Seen", fn := fun _ => fun
  | [d1, d2, d3] => { results := [.lit (.bool false)], args := [d1, d2, d3] }
  | _ => none }
def Sum32SeenWrongFalsely : Prop := sum32SeenRow.holds Try.pinned (OpenSpec.ofChange sum32SeenWrong)

/-- 'cadastrelaw02.Sum32Far': WHATEVER THE INPUT: true; the input reads as it did. -/
def sum32FarSpec : ChangeSpec := { name := "sum32Far", fn := fun _ => fun
  | [d1, d2, d3] => { results := [.lit (.bool true)], args := [d1, d2, d3] }
  | _ => none }
def sum32FarRow : OpenClaim := { program := "ytmibbklafogbkaa", sum := "847baafeec5cce69ce8f84d03b5ebb0465f7f03c8eca3b95380c259c0c6f4dda", func := "cadastre/cadastrelaw02.Sum32Far", spec := "sum32Far", apart := false }
def Sum32FarSaid : Prop := sum32FarRow.holds Try.pinned (OpenSpec.ofChange sum32FarSpec)

/-- ITS FALSE NEIGHBOUR: 'it returns false'. Refute it at one input. -/
def sum32FarWrong : ChangeSpec := { name := "sum32Far", fn := fun _ => fun
  | [d1, d2, d3] => { results := [.lit (.bool false)], args := [d1, d2, d3] }
  | _ => none }
def Sum32FarWrongFalsely : Prop := sum32FarRow.holds Try.pinned (OpenSpec.ofChange sum32FarWrong)

/-- 'cadastrelaw02.Sum32Apart': WHATEVER THE INPUT: true; the input reads as it did. -/
def sum32ApartSpec : ChangeSpec := { name := "sum32Apart", fn := fun _ => fun
  | [d] => { results := [.lit (.bool true)], args := [d] }
  | _ => none }
def sum32ApartRow : OpenClaim := { program := "ytmibbklafogbkaa", sum := "847baafeec5cce69ce8f84d03b5ebb0465f7f03c8eca3b95380c259c0c6f4dda", func := "cadastre/cadastrelaw02.Sum32Apart", spec := "sum32Apart", apart := false }
def Sum32ApartSaid : Prop := sum32ApartRow.holds Try.pinned (OpenSpec.ofChange sum32ApartSpec)

/-- ITS FALSE NEIGHBOUR: 'it returns false'. Refute it at one input. -/
def sum32ApartWrong : ChangeSpec := { name := "sum32Apart", fn := fun _ => fun
  | [d] => { results := [.lit (.bool false)], args := [d] }
  | _ => none }
def Sum32ApartWrongFalsely : Prop := sum32ApartRow.holds Try.pinned (OpenSpec.ofChange sum32ApartWrong)

/-- 'cadastrelaw01.FieldApart': WHATEVER THE INPUT: true; the input reads as it did. -/
def fieldApartSpec : ChangeSpec := { name := "fieldApart", fn := fun _ => fun
  | [d] => { results := [.lit (.bool true)], args := [d] }
  | _ => none }
def fieldApartRow : OpenClaim := { program := "ytmibbklafogbkaa", sum := "847baafeec5cce69ce8f84d03b5ebb0465f7f03c8eca3b95380c259c0c6f4dda", func := "cadastre/cadastrelaw01.FieldApart", spec := "fieldApart", apart := false }
def FieldApartSaid : Prop := fieldApartRow.holds Try.pinned (OpenSpec.ofChange fieldApartSpec)

/-- ITS FALSE NEIGHBOUR: 'it returns false'. Refute it at one input. -/
def fieldApartWrong : ChangeSpec := { name := "fieldApart", fn := fun _ => fun
  | [d] => { results := [.lit (.bool false)], args := [d] }
  | _ => none }
def FieldApartWrongFalsely : Prop := fieldApartRow.holds Try.pinned (OpenSpec.ofChange fieldApartWrong)

/-- 'cadastrelaw01.FieldBack': WHATEVER THE INPUT: true; the input reads as it did. -/
def fieldBackSpec : ChangeSpec := { name := "fieldBack", fn := fun _ => fun
  | [d] => { results := [.lit (.bool true)], args := [d] }
  | _ => none }
def fieldBackRow : OpenClaim := { program := "ytmibbklafogbkaa", sum := "847baafeec5cce69ce8f84d03b5ebb0465f7f03c8eca3b95380c259c0c6f4dda", func := "cadastre/cadastrelaw01.FieldBack", spec := "fieldBack", apart := false }
def FieldBackSaid : Prop := fieldBackRow.holds Try.pinned (OpenSpec.ofChange fieldBackSpec)

/-- ITS FALSE NEIGHBOUR: 'it returns false'. Refute it at one input. -/
def fieldBackWrong : ChangeSpec := { name := "fieldBack", fn := fun _ => fun
  | [d] => { results := [.lit (.bool false)], args := [d] }
  | _ => none }
def FieldBackWrongFalsely : Prop := fieldBackRow.holds Try.pinned (OpenSpec.ofChange fieldBackWrong)

/-- 'cadastrelaw01.FieldScripts': WHATEVER THE INPUT: true; the input reads as it did. -/
def fieldScriptsSpec : ChangeSpec := { name := "fieldScripts", fn := fun _ => fun
  | [d1, d2] => { results := [.lit (.bool true)], args := [d1, d2] }
  | _ => none }
def fieldScriptsRow : OpenClaim := { program := "ytmibbklafogbkaa", sum := "847baafeec5cce69ce8f84d03b5ebb0465f7f03c8eca3b95380c259c0c6f4dda", func := "cadastre/cadastrelaw01.FieldScripts", spec := "fieldScripts", apart := false }
def FieldScriptsSaid : Prop := fieldScriptsRow.holds Try.pinned (OpenSpec.ofChange fieldScriptsSpec)

/-- ITS FALSE NEIGHBOUR: 'it returns false'. Refute it at one input. -/
def fieldScriptsWrong : ChangeSpec := { name := "fieldScripts", fn := fun _ => fun
  | [d1, d2] => { results := [.lit (.bool false)], args := [d1, d2] }
  | _ => none }
def FieldScriptsWrongFalsely : Prop := fieldScriptsRow.holds Try.pinned (OpenSpec.ofChange fieldScriptsWrong)

/-- 'cadastrelaw01.FieldNil': WHATEVER THE INPUT: true; the input reads as it did. -/
def fieldNilSpec : ChangeSpec := { name := "fieldNil", fn := fun _ => fun
  | [d1, d2] => { results := [.lit (.bool true)], args := [d1, d2] }
  | _ => none }
def fieldNilRow : OpenClaim := { program := "ytmibbklafogbkaa", sum := "847baafeec5cce69ce8f84d03b5ebb0465f7f03c8eca3b95380c259c0c6f4dda", func := "cadastre/cadastrelaw01.FieldNil", spec := "fieldNil", apart := false }
def FieldNilSaid : Prop := fieldNilRow.holds Try.pinned (OpenSpec.ofChange fieldNilSpec)

/-- ITS FALSE NEIGHBOUR: 'it returns false'. Refute it at one input. -/
def fieldNilWrong : ChangeSpec := { name := "fieldNil", fn := fun _ => fun
  | [d1, d2] => { results := [.lit (.bool false)], args := [d1, d2] }
  | _ => none }
def FieldNilWrongFalsely : Prop := fieldNilRow.holds Try.pinned (OpenSpec.ofChange fieldNilWrong)

/-- 'cadastrelaw01.FieldTexts': WHATEVER THE INPUT: true; the input reads as it did. -/
def fieldTextsSpec : ChangeSpec := { name := "fieldTexts", fn := fun _ => fun
  | [d] => { results := [.lit (.bool true)], args := [d] }
  | _ => none }
def fieldTextsRow : OpenClaim := { program := "ytmibbklafogbkaa", sum := "847baafeec5cce69ce8f84d03b5ebb0465f7f03c8eca3b95380c259c0c6f4dda", func := "cadastre/cadastrelaw01.FieldTexts", spec := "fieldTexts", apart := false }
def FieldTextsSaid : Prop := fieldTextsRow.holds Try.pinned (OpenSpec.ofChange fieldTextsSpec)

/-- ITS FALSE NEIGHBOUR: 'it returns false'. Refute it at one input. -/
def fieldTextsWrong : ChangeSpec := { name := "fieldTexts", fn := fun _ => fun
  | [d] => { results := [.lit (.bool false)], args := [d] }
  | _ => none }
def FieldTextsWrongFalsely : Prop := fieldTextsRow.holds Try.pinned (OpenSpec.ofChange fieldTextsWrong)

/-- 'cadastrelaw06.EntryWrites': WHATEVER THE INPUT: true; the input reads as it did. -/
def entryWritesSpec : ChangeSpec := { name := "entryWrites", fn := fun _ => fun
  | [d1, d2] => { results := [.lit (.bool true)], args := [d1, d2] }
  | _ => none }
def entryWritesRow : OpenClaim := { program := "ytmibbklafogbkaa", sum := "847baafeec5cce69ce8f84d03b5ebb0465f7f03c8eca3b95380c259c0c6f4dda", func := "cadastre/cadastrelaw06.EntryWrites", spec := "entryWrites", unfollowed := true, recurses := true, apart := false }
def EntryWritesSaid : Prop := entryWritesRow.holds Try.pinned (OpenSpec.ofChange entryWritesSpec)

/-- ITS FALSE NEIGHBOUR: 'it returns false'. Refute it at one input. -/
def entryWritesWrong : ChangeSpec := { name := "entryWrites", fn := fun _ => fun
  | [d1, d2] => { results := [.lit (.bool false)], args := [d1, d2] }
  | _ => none }
def EntryWritesWrongFalsely : Prop := entryWritesRow.holds Try.pinned (OpenSpec.ofChange entryWritesWrong)

/-- 'cadastrelaw06.EntryReads': WHATEVER THE INPUT: true; the input reads as it did. -/
def entryReadsSpec : ChangeSpec := { name := "entryReads", fn := fun _ => fun
  | [d] => { results := [.lit (.bool true)], args := [d] }
  | _ => none }
def entryReadsRow : OpenClaim := { program := "ytmibbklafogbkaa", sum := "847baafeec5cce69ce8f84d03b5ebb0465f7f03c8eca3b95380c259c0c6f4dda", func := "cadastre/cadastrelaw06.EntryReads", spec := "entryReads", unfollowed := true, recurses := true, apart := false }
def EntryReadsSaid : Prop := entryReadsRow.holds Try.pinned (OpenSpec.ofChange entryReadsSpec)

/-- ITS FALSE NEIGHBOUR: 'it returns false'. Refute it at one input. -/
def entryReadsWrong : ChangeSpec := { name := "entryReads", fn := fun _ => fun
  | [d] => { results := [.lit (.bool false)], args := [d] }
  | _ => none }
def EntryReadsWrongFalsely : Prop := entryReadsRow.holds Try.pinned (OpenSpec.ofChange entryReadsWrong)

/-- 'cadastrelaw06.EntryBack': WHATEVER THE INPUT: true; the input reads as it did. -/
def entryBackSpec : ChangeSpec := { name := "entryBack", fn := fun _ => fun
  | [d1, d2] => { results := [.lit (.bool true)], args := [d1, d2] }
  | _ => none }
def entryBackRow : OpenClaim := { program := "ytmibbklafogbkaa", sum := "847baafeec5cce69ce8f84d03b5ebb0465f7f03c8eca3b95380c259c0c6f4dda", func := "cadastre/cadastrelaw06.EntryBack", spec := "entryBack", unfollowed := true, recurses := true, apart := false }
def EntryBackSaid : Prop := entryBackRow.holds Try.pinned (OpenSpec.ofChange entryBackSpec)

/-- ITS FALSE NEIGHBOUR: 'it returns false'. Refute it at one input. -/
def entryBackWrong : ChangeSpec := { name := "entryBack", fn := fun _ => fun
  | [d1, d2] => { results := [.lit (.bool false)], args := [d1, d2] }
  | _ => none }
def EntryBackWrongFalsely : Prop := entryBackRow.holds Try.pinned (OpenSpec.ofChange entryBackWrong)

/-- 'cadastrelaw06.EntrySums': WHATEVER THE INPUT: true; the input reads as it did. -/
def entrySumsSpec : ChangeSpec := { name := "entrySums", fn := fun _ => fun
  | [d] => { results := [.lit (.bool true)], args := [d] }
  | _ => none }
def entrySumsRow : OpenClaim := { program := "ytmibbklafogbkaa", sum := "847baafeec5cce69ce8f84d03b5ebb0465f7f03c8eca3b95380c259c0c6f4dda", func := "cadastre/cadastrelaw06.EntrySums", spec := "entrySums", unfollowed := true, recurses := true, apart := false }
def EntrySumsSaid : Prop := entrySumsRow.holds Try.pinned (OpenSpec.ofChange entrySumsSpec)

/-- ITS FALSE NEIGHBOUR: 'it returns false'. Refute it at one input. -/
def entrySumsWrong : ChangeSpec := { name := "entrySums", fn := fun _ => fun
  | [d] => { results := [.lit (.bool false)], args := [d] }
  | _ => none }
def EntrySumsWrongFalsely : Prop := entrySumsRow.holds Try.pinned (OpenSpec.ofChange entrySumsWrong)

/-- 'cadastrelaw06.EntryApart': WHATEVER THE INPUT: true; the input reads as it did. -/
def entryApartSpec : ChangeSpec := { name := "entryApart", fn := fun _ => fun
  | [d1, d2] => { results := [.lit (.bool true)], args := [d1, d2] }
  | _ => none }
def entryApartRow : OpenClaim := { program := "ytmibbklafogbkaa", sum := "847baafeec5cce69ce8f84d03b5ebb0465f7f03c8eca3b95380c259c0c6f4dda", func := "cadastre/cadastrelaw06.EntryApart", spec := "entryApart", unfollowed := true, recurses := true, apart := false }
def EntryApartSaid : Prop := entryApartRow.holds Try.pinned (OpenSpec.ofChange entryApartSpec)

/-- ITS FALSE NEIGHBOUR: 'it returns false'. Refute it at one input. -/
def entryApartWrong : ChangeSpec := { name := "entryApart", fn := fun _ => fun
  | [d1, d2] => { results := [.lit (.bool false)], args := [d1, d2] }
  | _ => none }
def EntryApartWrongFalsely : Prop := entryApartRow.holds Try.pinned (OpenSpec.ofChange entryApartWrong)

/-- 'cadastrelaw03.PageSeals': WHATEVER THE INPUT: true; the input reads as it did. -/
def pageSealsSpec : ChangeSpec := { name := "pageSeals", fn := fun _ => fun
  | [d1, d2, d3] => { results := [.lit (.bool true)], args := [d1, d2, d3] }
  | _ => none }
def pageSealsRow : OpenClaim := { program := "ytmibbklafogbkaa", sum := "847baafeec5cce69ce8f84d03b5ebb0465f7f03c8eca3b95380c259c0c6f4dda", func := "cadastre/cadastrelaw03.PageSeals", spec := "pageSeals", inPlace := ["internal/abi.NoEscape", "internal/bytealg.MakeNoZero"], unfollowed := true, recurses := true, apart := false }
def PageSealsSaid : Prop := pageSealsRow.holds Try.pinned (OpenSpec.ofChange pageSealsSpec)

/-- ITS FALSE NEIGHBOUR: 'it returns false'. Refute it at one input. -/
def pageSealsWrong : ChangeSpec := { name := "pageSeals", fn := fun _ => fun
  | [d1, d2, d3] => { results := [.lit (.bool false)], args := [d1, d2, d3] }
  | _ => none }
def PageSealsWrongFalsely : Prop := pageSealsRow.holds Try.pinned (OpenSpec.ofChange pageSealsWrong)

/-- 'cadastrelaw03.PageOpens': WHATEVER THE INPUT: true; the input reads as it did. -/
def pageOpensSpec : ChangeSpec := { name := "pageOpens", fn := fun _ => fun
  | [d] => { results := [.lit (.bool true)], args := [d] }
  | _ => none }
def pageOpensRow : OpenClaim := { program := "ytmibbklafogbkaa", sum := "847baafeec5cce69ce8f84d03b5ebb0465f7f03c8eca3b95380c259c0c6f4dda", func := "cadastre/cadastrelaw03.PageOpens", spec := "pageOpens", inPlace := ["internal/abi.NoEscape", "internal/bytealg.MakeNoZero"], unfollowed := true, recurses := true, apart := false }
def PageOpensSaid : Prop := pageOpensRow.holds Try.pinned (OpenSpec.ofChange pageOpensSpec)

/-- ITS FALSE NEIGHBOUR: 'it returns false'. Refute it at one input. -/
def pageOpensWrong : ChangeSpec := { name := "pageOpens", fn := fun _ => fun
  | [d] => { results := [.lit (.bool false)], args := [d] }
  | _ => none }
def PageOpensWrongFalsely : Prop := pageOpensRow.holds Try.pinned (OpenSpec.ofChange pageOpensWrong)

/-- 'cadastrelaw03.PageBack': WHATEVER THE INPUT: true; the input reads as it did. -/
def pageBackSpec : ChangeSpec := { name := "pageBack", fn := fun _ => fun
  | [d1, d2] => { results := [.lit (.bool true)], args := [d1, d2] }
  | _ => none }
def pageBackRow : OpenClaim := { program := "ytmibbklafogbkaa", sum := "847baafeec5cce69ce8f84d03b5ebb0465f7f03c8eca3b95380c259c0c6f4dda", func := "cadastre/cadastrelaw03.PageBack", spec := "pageBack", inPlace := ["internal/abi.NoEscape", "internal/bytealg.MakeNoZero"], unfollowed := true, recurses := true, apart := false }
def PageBackSaid : Prop := pageBackRow.holds Try.pinned (OpenSpec.ofChange pageBackSpec)

/-- ITS FALSE NEIGHBOUR: 'it returns false'. Refute it at one input. -/
def pageBackWrong : ChangeSpec := { name := "pageBack", fn := fun _ => fun
  | [d1, d2] => { results := [.lit (.bool false)], args := [d1, d2] }
  | _ => none }
def PageBackWrongFalsely : Prop := pageBackRow.holds Try.pinned (OpenSpec.ofChange pageBackWrong)

/-- 'cadastrelaw03.PageTurned': WHATEVER THE INPUT: true; the input reads as it did. -/
def pageTurnedSpec : ChangeSpec := { name := "pageTurned", fn := fun _ => fun
  | [d1, d2, d3] => { results := [.lit (.bool true)], args := [d1, d2, d3] }
  | _ => none }
def pageTurnedRow : OpenClaim := { program := "ytmibbklafogbkaa", sum := "847baafeec5cce69ce8f84d03b5ebb0465f7f03c8eca3b95380c259c0c6f4dda", func := "cadastre/cadastrelaw03.PageTurned", spec := "pageTurned", inPlace := ["internal/abi.NoEscape", "internal/bytealg.MakeNoZero"], unfollowed := true, recurses := true, apart := false }
def PageTurnedSaid : Prop := pageTurnedRow.holds Try.pinned (OpenSpec.ofChange pageTurnedSpec)

/-- ITS FALSE NEIGHBOUR: 'it returns false'. Refute it at one input. -/
def pageTurnedWrong : ChangeSpec := { name := "pageTurned", fn := fun _ => fun
  | [d1, d2, d3] => { results := [.lit (.bool false)], args := [d1, d2, d3] }
  | _ => none }
def PageTurnedWrongFalsely : Prop := pageTurnedRow.holds Try.pinned (OpenSpec.ofChange pageTurnedWrong)

/-- 'cadastrelaw03.PageTorn': WHATEVER THE INPUT: true; the input reads as it did. -/
def pageTornSpec : ChangeSpec := { name := "pageTorn", fn := fun _ => fun
  | [d1, d2, d3] => { results := [.lit (.bool true)], args := [d1, d2, d3] }
  | _ => none }
def pageTornRow : OpenClaim := { program := "ytmibbklafogbkaa", sum := "847baafeec5cce69ce8f84d03b5ebb0465f7f03c8eca3b95380c259c0c6f4dda", func := "cadastre/cadastrelaw03.PageTorn", spec := "pageTorn", inPlace := ["internal/abi.NoEscape", "internal/bytealg.MakeNoZero"], unfollowed := true, recurses := true, apart := false }
def PageTornSaid : Prop := pageTornRow.holds Try.pinned (OpenSpec.ofChange pageTornSpec)

/-- ITS FALSE NEIGHBOUR: 'it returns false'. Refute it at one input. -/
def pageTornWrong : ChangeSpec := { name := "pageTorn", fn := fun _ => fun
  | [d1, d2, d3] => { results := [.lit (.bool false)], args := [d1, d2, d3] }
  | _ => none }
def PageTornWrongFalsely : Prop := pageTornRow.holds Try.pinned (OpenSpec.ofChange pageTornWrong)

/-- 'cadastrelaw03.PageApart': WHATEVER THE INPUT: true; the input reads as it did. -/
def pageApartSpec : ChangeSpec := { name := "pageApart", fn := fun _ => fun
  | [d1, d2] => { results := [.lit (.bool true)], args := [d1, d2] }
  | _ => none }
def pageApartRow : OpenClaim := { program := "ytmibbklafogbkaa", sum := "847baafeec5cce69ce8f84d03b5ebb0465f7f03c8eca3b95380c259c0c6f4dda", func := "cadastre/cadastrelaw03.PageApart", spec := "pageApart", inPlace := ["internal/abi.NoEscape", "internal/bytealg.MakeNoZero"], unfollowed := true, recurses := true, apart := false }
def PageApartSaid : Prop := pageApartRow.holds Try.pinned (OpenSpec.ofChange pageApartSpec)

/-- ITS FALSE NEIGHBOUR: 'it returns false'. Refute it at one input. -/
def pageApartWrong : ChangeSpec := { name := "pageApart", fn := fun _ => fun
  | [d1, d2] => { results := [.lit (.bool false)], args := [d1, d2] }
  | _ => none }
def PageApartWrongFalsely : Prop := pageApartRow.holds Try.pinned (OpenSpec.ofChange pageApartWrong)

/- THE SECOND FORM. 'bulk': how many values and letters a reading holds, each counted each time it is reached (what is shared counts as often as it is met; a slice's spare places count too). A statement '..UptoSaid' is the law's where the arguments, and the package variables that the reading takes, are together of bulk at most 1048576: NARROWER than '..Said'. Prove '..Said' where nothing that the law and all that it calls make is longer than what came in: it says more and counts as full. Else prove '..UptoSaid'. A law counts once. -/
mutual
def uptoBulk {H : Type} : DataW H → Nat
  | .lit (.string bytes) => bytes.length + 1
  | .lit _ => 1
  | .nil => 1
  | .ptr d => uptoBulk d + 1
  | .slice elems spare => uptoBulkAll elems + uptoBulkAll spare + 1
  | .agg parts => uptoBulkAll parts + 1
  | .iface _ d => uptoBulk d + 1
  | .map entries => uptoBulkEntries entries + 1
  | .held _ => 1
def uptoBulkAll {H : Type} : List (DataW H) → Nat
  | [] => 0
  | d :: r => uptoBulk d + uptoBulkAll r
def uptoBulkEntries {H : Type} : List (Lit × DataW H) → Nat
  | [] => 0
  | x :: r => uptoBulkEntry x + uptoBulkEntries r
def uptoBulkEntry {H : Type} : Lit × DataW H → Nat
  | (.string bytes, d) => bytes.length + uptoBulk d + 1
  | (_, d) => uptoBulk d + 1
 end
def uptoSmall : (H : Type) → List (DataW H) → Bool := fun _ ds => decide (uptoBulkAll ds ≤ 1048576)
def OpenSpec.upto (s : _root_.Go.ChangeSpec) : _root_.Go.OpenSpec := { _root_.Go.OpenSpec.ofChange s with cond := some uptoSmall }

/-- 'cadastrelaw02.Sum32Sums', WHERE WHAT IT READS IS OF BULK AT MOST 1048576: true; the input reads as it did. -/
def sum32SumsUptoRow : OpenClaim := { program := "ytmibbklafogbkaa", sum := "847baafeec5cce69ce8f84d03b5ebb0465f7f03c8eca3b95380c259c0c6f4dda", func := "cadastre/cadastrelaw02.Sum32Sums", spec := "sum32Sums", apart := false, narrowed := true }
def Sum32SumsUptoSaid : Prop := sum32SumsUptoRow.holds Try.pinned (OpenSpec.upto sum32SumsSpec)

/-- 'cadastrelaw02.Sum32Joins', WHERE WHAT IT READS IS OF BULK AT MOST 1048576: true; the input reads as it did. -/
def sum32JoinsUptoRow : OpenClaim := { program := "ytmibbklafogbkaa", sum := "847baafeec5cce69ce8f84d03b5ebb0465f7f03c8eca3b95380c259c0c6f4dda", func := "cadastre/cadastrelaw02.Sum32Joins", spec := "sum32Joins", apart := false, narrowed := true }
def Sum32JoinsUptoSaid : Prop := sum32JoinsUptoRow.holds Try.pinned (OpenSpec.upto sum32JoinsSpec)

/-- 'cadastrelaw02.Sum32Turns', WHERE WHAT IT READS IS OF BULK AT MOST 1048576: true; the input reads as it did. -/
def sum32TurnsUptoRow : OpenClaim := { program := "ytmibbklafogbkaa", sum := "847baafeec5cce69ce8f84d03b5ebb0465f7f03c8eca3b95380c259c0c6f4dda", func := "cadastre/cadastrelaw02.Sum32Turns", spec := "sum32Turns", apart := false, narrowed := true }
def Sum32TurnsUptoSaid : Prop := sum32TurnsUptoRow.holds Try.pinned (OpenSpec.upto sum32TurnsSpec)

/-- 'cadastrelaw02.Sum32Seen', WHERE WHAT IT READS IS OF BULK AT MOST 1048576: true; the input reads as it did. -/
def sum32SeenUptoRow : OpenClaim := { program := "ytmibbklafogbkaa", sum := "847baafeec5cce69ce8f84d03b5ebb0465f7f03c8eca3b95380c259c0c6f4dda", func := "cadastre/cadastrelaw02.Sum32Seen", spec := "sum32Seen", apart := false, narrowed := true }
def Sum32SeenUptoSaid : Prop := sum32SeenUptoRow.holds Try.pinned (OpenSpec.upto sum32SeenSpec)

/-- 'cadastrelaw02.Sum32Far', WHERE WHAT IT READS IS OF BULK AT MOST 1048576: true; the input reads as it did. -/
def sum32FarUptoRow : OpenClaim := { program := "ytmibbklafogbkaa", sum := "847baafeec5cce69ce8f84d03b5ebb0465f7f03c8eca3b95380c259c0c6f4dda", func := "cadastre/cadastrelaw02.Sum32Far", spec := "sum32Far", apart := false, narrowed := true }
def Sum32FarUptoSaid : Prop := sum32FarUptoRow.holds Try.pinned (OpenSpec.upto sum32FarSpec)

/-- 'cadastrelaw02.Sum32Apart', WHERE WHAT IT READS IS OF BULK AT MOST 1048576: true; the input reads as it did. -/
def sum32ApartUptoRow : OpenClaim := { program := "ytmibbklafogbkaa", sum := "847baafeec5cce69ce8f84d03b5ebb0465f7f03c8eca3b95380c259c0c6f4dda", func := "cadastre/cadastrelaw02.Sum32Apart", spec := "sum32Apart", apart := false, narrowed := true }
def Sum32ApartUptoSaid : Prop := sum32ApartUptoRow.holds Try.pinned (OpenSpec.upto sum32ApartSpec)

/-- 'cadastrelaw01.FieldApart', WHERE WHAT IT READS IS OF BULK AT MOST 1048576: true; the input reads as it did. -/
def fieldApartUptoRow : OpenClaim := { program := "ytmibbklafogbkaa", sum := "847baafeec5cce69ce8f84d03b5ebb0465f7f03c8eca3b95380c259c0c6f4dda", func := "cadastre/cadastrelaw01.FieldApart", spec := "fieldApart", apart := false, narrowed := true }
def FieldApartUptoSaid : Prop := fieldApartUptoRow.holds Try.pinned (OpenSpec.upto fieldApartSpec)

/-- 'cadastrelaw01.FieldBack', WHERE WHAT IT READS IS OF BULK AT MOST 1048576: true; the input reads as it did. -/
def fieldBackUptoRow : OpenClaim := { program := "ytmibbklafogbkaa", sum := "847baafeec5cce69ce8f84d03b5ebb0465f7f03c8eca3b95380c259c0c6f4dda", func := "cadastre/cadastrelaw01.FieldBack", spec := "fieldBack", apart := false, narrowed := true }
def FieldBackUptoSaid : Prop := fieldBackUptoRow.holds Try.pinned (OpenSpec.upto fieldBackSpec)

/-- 'cadastrelaw01.FieldScripts', WHERE WHAT IT READS IS OF BULK AT MOST 1048576: true; the input reads as it did. -/
def fieldScriptsUptoRow : OpenClaim := { program := "ytmibbklafogbkaa", sum := "847baafeec5cce69ce8f84d03b5ebb0465f7f03c8eca3b95380c259c0c6f4dda", func := "cadastre/cadastrelaw01.FieldScripts", spec := "fieldScripts", apart := false, narrowed := true }
def FieldScriptsUptoSaid : Prop := fieldScriptsUptoRow.holds Try.pinned (OpenSpec.upto fieldScriptsSpec)

/-- 'cadastrelaw01.FieldNil', WHERE WHAT IT READS IS OF BULK AT MOST 1048576: true; the input reads as it did. -/
def fieldNilUptoRow : OpenClaim := { program := "ytmibbklafogbkaa", sum := "847baafeec5cce69ce8f84d03b5ebb0465f7f03c8eca3b95380c259c0c6f4dda", func := "cadastre/cadastrelaw01.FieldNil", spec := "fieldNil", apart := false, narrowed := true }
def FieldNilUptoSaid : Prop := fieldNilUptoRow.holds Try.pinned (OpenSpec.upto fieldNilSpec)

/-- 'cadastrelaw01.FieldTexts', WHERE WHAT IT READS IS OF BULK AT MOST 1048576: true; the input reads as it did. -/
def fieldTextsUptoRow : OpenClaim := { program := "ytmibbklafogbkaa", sum := "847baafeec5cce69ce8f84d03b5ebb0465f7f03c8eca3b95380c259c0c6f4dda", func := "cadastre/cadastrelaw01.FieldTexts", spec := "fieldTexts", apart := false, narrowed := true }
def FieldTextsUptoSaid : Prop := fieldTextsUptoRow.holds Try.pinned (OpenSpec.upto fieldTextsSpec)

/-- 'cadastrelaw06.EntryWrites', WHERE WHAT IT READS IS OF BULK AT MOST 1048576: true; the input reads as it did. -/
def entryWritesUptoRow : OpenClaim := { program := "ytmibbklafogbkaa", sum := "847baafeec5cce69ce8f84d03b5ebb0465f7f03c8eca3b95380c259c0c6f4dda", func := "cadastre/cadastrelaw06.EntryWrites", spec := "entryWrites", unfollowed := true, recurses := true, apart := false, narrowed := true }
def EntryWritesUptoSaid : Prop := entryWritesUptoRow.holds Try.pinned (OpenSpec.upto entryWritesSpec)

/-- 'cadastrelaw06.EntryReads', WHERE WHAT IT READS IS OF BULK AT MOST 1048576: true; the input reads as it did. -/
def entryReadsUptoRow : OpenClaim := { program := "ytmibbklafogbkaa", sum := "847baafeec5cce69ce8f84d03b5ebb0465f7f03c8eca3b95380c259c0c6f4dda", func := "cadastre/cadastrelaw06.EntryReads", spec := "entryReads", unfollowed := true, recurses := true, apart := false, narrowed := true }
def EntryReadsUptoSaid : Prop := entryReadsUptoRow.holds Try.pinned (OpenSpec.upto entryReadsSpec)

/-- 'cadastrelaw06.EntryBack', WHERE WHAT IT READS IS OF BULK AT MOST 1048576: true; the input reads as it did. -/
def entryBackUptoRow : OpenClaim := { program := "ytmibbklafogbkaa", sum := "847baafeec5cce69ce8f84d03b5ebb0465f7f03c8eca3b95380c259c0c6f4dda", func := "cadastre/cadastrelaw06.EntryBack", spec := "entryBack", unfollowed := true, recurses := true, apart := false, narrowed := true }
def EntryBackUptoSaid : Prop := entryBackUptoRow.holds Try.pinned (OpenSpec.upto entryBackSpec)

/-- 'cadastrelaw06.EntrySums', WHERE WHAT IT READS IS OF BULK AT MOST 1048576: true; the input reads as it did. -/
def entrySumsUptoRow : OpenClaim := { program := "ytmibbklafogbkaa", sum := "847baafeec5cce69ce8f84d03b5ebb0465f7f03c8eca3b95380c259c0c6f4dda", func := "cadastre/cadastrelaw06.EntrySums", spec := "entrySums", unfollowed := true, recurses := true, apart := false, narrowed := true }
def EntrySumsUptoSaid : Prop := entrySumsUptoRow.holds Try.pinned (OpenSpec.upto entrySumsSpec)

/-- 'cadastrelaw06.EntryApart', WHERE WHAT IT READS IS OF BULK AT MOST 1048576: true; the input reads as it did. -/
def entryApartUptoRow : OpenClaim := { program := "ytmibbklafogbkaa", sum := "847baafeec5cce69ce8f84d03b5ebb0465f7f03c8eca3b95380c259c0c6f4dda", func := "cadastre/cadastrelaw06.EntryApart", spec := "entryApart", unfollowed := true, recurses := true, apart := false, narrowed := true }
def EntryApartUptoSaid : Prop := entryApartUptoRow.holds Try.pinned (OpenSpec.upto entryApartSpec)

/-- 'cadastrelaw03.PageSeals', WHERE WHAT IT READS IS OF BULK AT MOST 1048576: true; the input reads as it did. -/
def pageSealsUptoRow : OpenClaim := { program := "ytmibbklafogbkaa", sum := "847baafeec5cce69ce8f84d03b5ebb0465f7f03c8eca3b95380c259c0c6f4dda", func := "cadastre/cadastrelaw03.PageSeals", spec := "pageSeals", inPlace := ["internal/abi.NoEscape", "internal/bytealg.MakeNoZero"], unfollowed := true, recurses := true, apart := false, narrowed := true }
def PageSealsUptoSaid : Prop := pageSealsUptoRow.holds Try.pinned (OpenSpec.upto pageSealsSpec)

/-- 'cadastrelaw03.PageOpens', WHERE WHAT IT READS IS OF BULK AT MOST 1048576: true; the input reads as it did. -/
def pageOpensUptoRow : OpenClaim := { program := "ytmibbklafogbkaa", sum := "847baafeec5cce69ce8f84d03b5ebb0465f7f03c8eca3b95380c259c0c6f4dda", func := "cadastre/cadastrelaw03.PageOpens", spec := "pageOpens", inPlace := ["internal/abi.NoEscape", "internal/bytealg.MakeNoZero"], unfollowed := true, recurses := true, apart := false, narrowed := true }
def PageOpensUptoSaid : Prop := pageOpensUptoRow.holds Try.pinned (OpenSpec.upto pageOpensSpec)

/-- 'cadastrelaw03.PageBack', WHERE WHAT IT READS IS OF BULK AT MOST 1048576: true; the input reads as it did. -/
def pageBackUptoRow : OpenClaim := { program := "ytmibbklafogbkaa", sum := "847baafeec5cce69ce8f84d03b5ebb0465f7f03c8eca3b95380c259c0c6f4dda", func := "cadastre/cadastrelaw03.PageBack", spec := "pageBack", inPlace := ["internal/abi.NoEscape", "internal/bytealg.MakeNoZero"], unfollowed := true, recurses := true, apart := false, narrowed := true }
def PageBackUptoSaid : Prop := pageBackUptoRow.holds Try.pinned (OpenSpec.upto pageBackSpec)

/-- 'cadastrelaw03.PageTurned', WHERE WHAT IT READS IS OF BULK AT MOST 1048576: true; the input reads as it did. -/
def pageTurnedUptoRow : OpenClaim := { program := "ytmibbklafogbkaa", sum := "847baafeec5cce69ce8f84d03b5ebb0465f7f03c8eca3b95380c259c0c6f4dda", func := "cadastre/cadastrelaw03.PageTurned", spec := "pageTurned", inPlace := ["internal/abi.NoEscape", "internal/bytealg.MakeNoZero"], unfollowed := true, recurses := true, apart := false, narrowed := true }
def PageTurnedUptoSaid : Prop := pageTurnedUptoRow.holds Try.pinned (OpenSpec.upto pageTurnedSpec)

/-- 'cadastrelaw03.PageTorn', WHERE WHAT IT READS IS OF BULK AT MOST 1048576: true; the input reads as it did. -/
def pageTornUptoRow : OpenClaim := { program := "ytmibbklafogbkaa", sum := "847baafeec5cce69ce8f84d03b5ebb0465f7f03c8eca3b95380c259c0c6f4dda", func := "cadastre/cadastrelaw03.PageTorn", spec := "pageTorn", inPlace := ["internal/abi.NoEscape", "internal/bytealg.MakeNoZero"], unfollowed := true, recurses := true, apart := false, narrowed := true }
def PageTornUptoSaid : Prop := pageTornUptoRow.holds Try.pinned (OpenSpec.upto pageTornSpec)

/-- 'cadastrelaw03.PageApart', WHERE WHAT IT READS IS OF BULK AT MOST 1048576: true; the input reads as it did. -/
def pageApartUptoRow : OpenClaim := { program := "ytmibbklafogbkaa", sum := "847baafeec5cce69ce8f84d03b5ebb0465f7f03c8eca3b95380c259c0c6f4dda", func := "cadastre/cadastrelaw03.PageApart", spec := "pageApart", inPlace := ["internal/abi.NoEscape", "internal/bytealg.MakeNoZero"], unfollowed := true, recurses := true, apart := false, narrowed := true }
def PageApartUptoSaid : Prop := pageApartUptoRow.holds Try.pinned (OpenSpec.upto pageApartSpec)

end Rows
end Go.Proofs.Ytmibbklafogbkaa
