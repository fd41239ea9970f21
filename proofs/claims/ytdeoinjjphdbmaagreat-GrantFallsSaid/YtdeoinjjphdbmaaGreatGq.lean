/- A book of families as an association list: what each command does: plain functions. Conditions: none. -/
import Derived.Test.YtdeoinjjphdbmaaGreatGp
namespace Go.Sig
open Go.RowKit

structure GTok where
  kind : Int
  scope : List ByteArray
  used : Bool
structure GFam where
  id : ByteArray
  client : ByteArray
  user : ByteArray
  scope : List ByteArray
  redirect : ByteArray
  challenge : ByteArray
  method : ByteArray
  code : Int
  tokens : List GTok
  revoked : Bool
  leases : List Int
structure GCmd where
  kind : Int
  family : ByteArray
  serial : Int
  token : Int
  client : ByteArray
  user : ByteArray
  scope : List ByteArray
  redirect : ByteArray
  challenge : ByteArray
  method : ByteArray
  verifier : ByteArray
  refresh : Bool
  edge : Int
structure GAns where
  why : Int
  access : Int
  refresh : Int
  scope : List ByteArray
  client : ByteArray
  user : ByteArray
  active : Bool
  wait : Bool
def nilB : ByteArray := ⟨#[]⟩
def noA (w : Int) : GAns := ⟨w, 0, 0, [], nilB, nilB, false, false⟩
/-- What of a command its kind lets stand. -/
def restM (c : GCmd) : GCmd :=
  if c.kind = 1 then ⟨1, c.family, 0, 0, c.client, c.user, [], c.redirect, c.challenge, c.method, nilB, false, 0⟩
  else if c.kind = 2 then ⟨2, c.family, 0, 0, c.client, nilB, [], c.redirect, nilB, nilB, c.verifier, c.refresh, 0⟩
  else if c.kind = 3 then ⟨3, c.family, c.serial, 0, c.client, nilB, [], nilB, nilB, nilB, nilB, false, 0⟩
  else if c.kind = 4 then ⟨4, c.family, 0, 0, c.client, nilB, [], nilB, nilB, nilB, nilB, false, 0⟩
  else if c.kind = 5 then ⟨5, c.family, c.serial, c.token, c.client, nilB, [], nilB, nilB, nilB, nilB, false, 0⟩
  else if c.kind = 6 then ⟨6, c.family, c.serial, c.token, nilB, nilB, [], nilB, nilB, nilB, nilB, false, c.edge⟩
  else ⟨7, c.family, 0, 0, nilB, nilB, [], nilB, nilB, nilB, nilB, false, 0⟩
def restEq (r c : GCmd) : Bool :=
  decide (r.serial = c.serial) && decide (r.token = c.token) && decide (r.client = c.client) && decide (r.user = c.user) && decide (r.redirect = c.redirect) && decide (r.challenge = c.challenge) &&
  decide (r.method = c.method) && decide (r.verifier = c.verifier) && decide (r.refresh = c.refresh) && decide (r.edge = c.edge)
def mayM (c : GCmd) : Bool :=
  decide (1 ≤ c.kind ∧ c.kind ≤ 7) &&
  (!(!(decide (c.kind = 1) || decide (c.kind = 3) || decide (c.kind = 4)) && decide (0 < c.scope.length)) && setM c.scope && idM c.family && textsM [c.client, c.user, c.redirect, c.challenge, c.method, c.verifier]) &&
  restEq (restM c) c &&
  !(decide (c.kind ≤ 5) && decide (c.client.size = 0) || decide (c.serial < 0) || decide (1099511627776 < c.serial) || decide (c.edge < 0) || decide (32 ≤ c.edge)) &&
  !((decide (c.kind = 5) || decide (c.kind = 6)) && (decide (c.token < 1) || decide (3 < c.token))) &&
  shownM c.challenge c.method
/-- Tokens more. -/
def issueM (f : GFam) (sc : List ByteArray) (refresh : Bool) : GFam × GAns :=
  if refresh then
    ({ f with tokens := f.tokens ++ [⟨2, sc, false⟩, ⟨3, f.scope, false⟩] }, ⟨0, (f.tokens.length : Int) + 1, (f.tokens.length : Int) + 2, sc, nilB, nilB, false, false⟩)
  else ({ f with tokens := f.tokens ++ [⟨2, sc, false⟩] }, ⟨0, (f.tokens.length : Int) + 1, 0, sc, nilB, nilB, false, false⟩)
/-- The token of a kind and a serial number. -/
def tokM (f : GFam) (kind serial : Int) : Option GTok :=
  if serial < 1 ∨ (f.tokens.length : Int) < serial then none else (f.tokens[(serial - 1).toNat]?).bind fun t => if t.kind = kind then some t else none
def insI (e : Int) : List Int → List Int
  | [] => [e]
  | x :: l => if e < x then e :: x :: l else if e = x then x :: l else x :: insI e l
abbrev GBk := List (ByteArray × GFam)
def fallM (f : GFam) (b : GBk) : GBk := aset f.id { f with revoked := true } b
def beginM (room : Int) (c : GCmd) (b : GBk) : GBk × GAns :=
  if (aget c.family b).isSome then (b, noA 1)
  else if room ≤ (b.length : Int) then (b, noA 7)
  else if c.kind = 4 then
    (aset c.family ⟨c.family, c.client, c.user, c.scope, c.redirect, c.challenge, c.method, 0, [⟨2, c.scope, false⟩], false, []⟩ b, ⟨0, 1, 0, c.scope, nilB, nilB, false, false⟩)
  else (aset c.family ⟨c.family, c.client, c.user, c.scope, c.redirect, c.challenge, c.method, 1, [], false, []⟩ b, ⟨0, 0, 0, c.scope, nilB, nilB, false, false⟩)
def redeemM (c : GCmd) (b : GBk) : GBk × GAns :=
  match aget c.family b with
  | none => (b, noA 3)
  | some f =>
    if f.revoked = true ∨ f.client ≠ c.client ∨ f.code = 0 then (b, noA 3)
    else if f.code = 2 then (fallM f b, noA 3)
    else if f.redirect ≠ c.redirect ∨ (f.challenge.size = 0 ∧ c.verifier.size ≠ 0) ∨ (f.challenge.size ≠ 0 ∧ pkCheck f.challenge f.method c.verifier = false) then (b, noA 3)
    else (aset f.id (issueM { f with code := 2 } f.scope c.refresh).1 b, (issueM { f with code := 2 } f.scope c.refresh).2)
def useM (l : List GTok) (i : Nat) : List GTok := l.modify i fun t => { t with used := true }
def refreshM (c : GCmd) (b : GBk) : GBk × GAns :=
  match aget c.family b with
  | none => (b, noA 3)
  | some f =>
    match tokM f 3 c.serial with
    | none => (b, noA 3)
    | some t =>
      if f.revoked = true ∨ f.client ≠ c.client then (b, noA 3)
      else if t.used = true then (fallM f b, noA 3)
      else if within c.scope f.scope = false then (b, noA 6)
      else if 6 < f.tokens.length then (b, noA 7)
      else
        let g := { f with tokens := useM f.tokens (c.serial - 1).toNat }
        let sc := if c.scope.length = 0 then f.scope else c.scope
        (aset f.id (issueM g sc true).1 b, (issueM g sc true).2)
def revokeM (c : GCmd) (b : GBk) : GBk × GAns :=
  match aget c.family b with
  | none => (b, noA 0)
  | some f =>
    if f.client ≠ c.client then (b, noA 0)
    else if (tokM f c.token c.serial).isSome = true ∨ (c.token = 1 ∧ c.serial = 0 ∧ f.code ≠ 0) then (fallM f b, ⟨0, 0, 0, [], nilB, nilB, false, true⟩)
    else (b, ⟨0, 0, 0, [], nilB, nilB, false, f.revoked⟩)
def lookM (c : GCmd) (b : GBk) : GBk × GAns :=
  match aget c.family b with
  | none => (b, noA 0)
  | some f =>
    match tokM f c.token c.serial with
    | none => (b, noA 0)
    | some t =>
      if f.revoked = true ∨ t.used = true then (b, noA 0)
      else (aset f.id { f with leases := insI c.edge f.leases } b, ⟨0, 0, 0, t.scope, f.client, f.user, true, false⟩)
def doneM (c : GCmd) (b : GBk) : GBk × GAns :=
  match aget c.family b with
  | none => (b, noA 0)
  | some f => if f.revoked = true then (adel f.id b, noA 0) else (b, noA 0)
def doM (room : Int) (c : GCmd) (b : GBk) : GBk × GAns :=
  if mayM c = false then (b, noA 1)
  else if c.kind = 1 ∨ c.kind = 4 then beginM room c b
  else if c.kind = 2 then redeemM c b
  else if c.kind = 3 then refreshM c b
  else if c.kind = 5 then revokeM c b
  else if c.kind = 6 then lookM c b
  else doneM c b
end Go.Sig
