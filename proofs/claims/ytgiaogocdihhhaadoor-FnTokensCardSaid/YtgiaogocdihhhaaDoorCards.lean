/-
  DERIVED. GIVEN WITH THE SEED: THE CARDS: each row of YtgiaogocdihhhaaDoorRows.lean that lists a variable, with what it lists TIED to the program's text (the seventh form; the later family's looks); each row that meets fmt, with fmt's text TOLD by the authors' own Lean function (tested against real Go, not proved from fmt's source: count such statements apart). THE CARD IS WHAT COUNTS. Prove the row's statement (the work); the ties are given (YtgiaogocdihhhaaDoorTie.lean); close each card by the builder's one call (the guide's Derived/Test/ToyasCard.lean, 'card_holds'). Laid BY PROGRAM, IN A SANDBOX (cutbox-door.mjs). By AI agents, Wed Nov 11 2026. No macro, syntax, notation, axiom, sorry.
-/
import Derived.Test.YtgiaogocdihhhaaDoorRows
import GoSem.ClaimSeven
namespace Go.Proofs.YtgiaogocdihhhaaDoor
namespace Rows

/-- THE TIED CARD OF 'laws.FnExactRuneAt'. -/
def fnExactRuneAtCard : Claim7 := { stood := { row := fnExactRuneAtRow, standIns := [], harness := (true, "2fa69663e7e8609e8946aad56f73055279dd714145138ebbc4c083c07cd85bca"), looks := false }, kinds := [], alts := [], laidByText := true, laidKinds := [.data, .pinned], laidTests := true, laidLooks := .later }
def FnExactRuneAtCardSaid : Prop := Claim7.holds Tryd.pinned (.plain (OpenSpec.ofChange fnExactRuneAtSpec)) fnExactRuneAtCard

/-- THE TIED CARD OF 'laws.FnExactQuote'. -/
def fnExactQuoteCard : Claim7 := { stood := { row := fnExactQuoteRow, standIns := [], harness := (true, "2fa69663e7e8609e8946aad56f73055279dd714145138ebbc4c083c07cd85bca"), looks := false }, kinds := [], alts := [], laidByText := true, laidKinds := [.data, .pinned], laidTests := true, laidLooks := .later }
def FnExactQuoteCardSaid : Prop := Claim7.holds Tryd.pinned (.plain (OpenSpec.ofChange fnExactQuoteSpec)) fnExactQuoteCard

/-- THE TIED CARD OF 'laws.FnExactFold'. -/
def fnExactFoldCard : Claim7 := { stood := { row := fnExactFoldRow, standIns := [], harness := (true, "2fa69663e7e8609e8946aad56f73055279dd714145138ebbc4c083c07cd85bca"), looks := false }, kinds := [], alts := [], laidByText := true, laidKinds := [.data, .pinned], laidTests := true, laidLooks := .later }
def FnExactFoldCardSaid : Prop := Claim7.holds Tryd.pinned (.plain (OpenSpec.ofChange fnExactFoldSpec)) fnExactFoldCard

/-- THE TIED CARD OF 'laws.FnExactTokens'. -/
def fnExactTokensCard : Claim7 := { stood := { row := fnExactTokensRow, standIns := [], harness := (true, "2fa69663e7e8609e8946aad56f73055279dd714145138ebbc4c083c07cd85bca"), looks := false }, kinds := [], alts := [], laidByText := true, laidKinds := [.data, .pinned], laidTests := true, laidLooks := .later }
def FnExactTokensCardSaid : Prop := Claim7.holds Tryd.pinned (.plain (OpenSpec.ofChange fnExactTokensSpec)) fnExactTokensCard

/-- THE TIED CARD OF 'laws.FnTokens'. -/
def fnTokensCard : Claim7 := { stood := { row := fnTokensRow, standIns := [], harness := (true, "2fa69663e7e8609e8946aad56f73055279dd714145138ebbc4c083c07cd85bca"), looks := false }, kinds := [], alts := [], laidByText := true, laidKinds := [.data, .pinned], laidTests := true, laidLooks := .later }
def FnTokensCardSaid : Prop := Claim7.holds Tryd.pinned (.plain (OpenSpec.ofChange fnTokensSpec)) fnTokensCard

/-- THE SECOND FORM's CARD OF 'laws.FnExactRuneAt'. -/
def fnExactRuneAtUptoCard : Claim7 := { stood := { row := fnExactRuneAtUptoRow, standIns := [], harness := (true, "2fa69663e7e8609e8946aad56f73055279dd714145138ebbc4c083c07cd85bca"), looks := false }, kinds := [], alts := [], laidByText := true, laidKinds := [.data, .pinned], laidTests := true, laidLooks := .later }
def FnExactRuneAtUptoCardSaid : Prop := Claim7.holds Tryd.pinned (.plain (OpenSpec.upto fnExactRuneAtSpec)) fnExactRuneAtUptoCard

/-- THE SECOND FORM's CARD OF 'laws.FnExactQuote'. -/
def fnExactQuoteUptoCard : Claim7 := { stood := { row := fnExactQuoteUptoRow, standIns := [], harness := (true, "2fa69663e7e8609e8946aad56f73055279dd714145138ebbc4c083c07cd85bca"), looks := false }, kinds := [], alts := [], laidByText := true, laidKinds := [.data, .pinned], laidTests := true, laidLooks := .later }
def FnExactQuoteUptoCardSaid : Prop := Claim7.holds Tryd.pinned (.plain (OpenSpec.upto fnExactQuoteSpec)) fnExactQuoteUptoCard

/-- THE SECOND FORM's CARD OF 'laws.FnExactFold'. -/
def fnExactFoldUptoCard : Claim7 := { stood := { row := fnExactFoldUptoRow, standIns := [], harness := (true, "2fa69663e7e8609e8946aad56f73055279dd714145138ebbc4c083c07cd85bca"), looks := false }, kinds := [], alts := [], laidByText := true, laidKinds := [.data, .pinned], laidTests := true, laidLooks := .later }
def FnExactFoldUptoCardSaid : Prop := Claim7.holds Tryd.pinned (.plain (OpenSpec.upto fnExactFoldSpec)) fnExactFoldUptoCard

/-- THE SECOND FORM's CARD OF 'laws.FnExactTokens'. -/
def fnExactTokensUptoCard : Claim7 := { stood := { row := fnExactTokensUptoRow, standIns := [], harness := (true, "2fa69663e7e8609e8946aad56f73055279dd714145138ebbc4c083c07cd85bca"), looks := false }, kinds := [], alts := [], laidByText := true, laidKinds := [.data, .pinned], laidTests := true, laidLooks := .later }
def FnExactTokensUptoCardSaid : Prop := Claim7.holds Tryd.pinned (.plain (OpenSpec.upto fnExactTokensSpec)) fnExactTokensUptoCard

/-- THE SECOND FORM's CARD OF 'laws.FnTokens'. -/
def fnTokensUptoCard : Claim7 := { stood := { row := fnTokensUptoRow, standIns := [], harness := (true, "2fa69663e7e8609e8946aad56f73055279dd714145138ebbc4c083c07cd85bca"), looks := false }, kinds := [], alts := [], laidByText := true, laidKinds := [.data, .pinned], laidTests := true, laidLooks := .later }
def FnTokensUptoCardSaid : Prop := Claim7.holds Tryd.pinned (.plain (OpenSpec.upto fnTokensSpec)) fnTokensUptoCard
end Rows
end Go.Proofs.YtgiaogocdihhhaaDoor
