/- The values that the program handles, as plain data. -/
namespace Go.Proofs.YtheampfoedhipaaGreatDoor
/-- A text: its bytes. -/
abbrev Str := List UInt8
structure Seen where
  place : Str
  data : Str
  version : Int
deriving DecidableEq
structure Change where
  kind : Int
  place : Str
  data : Str
  version : Int
deriving DecidableEq
structure Op_ where
  kind : Int
  place : Str
  data : Str
  version : Int
  flags : Int
deriving DecidableEq
structure Full where
  place : Str
  data : Str
  version : Int
  made : Int
  changed : Int
  owner : Int
  counter : Int
deriving DecidableEq
structure Res where
  place : Str
  data : Str
  version : Int
  made : Int
  changed : Int
  owner : Int
  kids : List Str
deriving DecidableEq
structure Reply where
  stamp : Int
  code : Int
  at_ : Int
  results : List Res
deriving DecidableEq
structure Shot where
  stamp : Int
  place : Str
  kind : Int
  nodes : List Seen
deriving DecidableEq
structure Entry where
  stamp : Int
  view : Int
  kind : Int
  session : Int
  request : Int
  ops : List Op_
deriving DecidableEq
end Go.Proofs.YtheampfoedhipaaGreatDoor
