/- The shelf with the lexer's contracts (the same text). -/
import Derived.Test.YtcninopmelmajaaDoorShelf
