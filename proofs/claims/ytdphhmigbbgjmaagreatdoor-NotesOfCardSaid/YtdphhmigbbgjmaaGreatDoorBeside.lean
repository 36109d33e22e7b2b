/- Beside the shelf: what it holds, and the library's law of trimming. -/
import Derived.Test.YtdphhmigbbgjmaaGreatDoorShelf
import Derived.Shelf.Strings.SlTrimAscii
