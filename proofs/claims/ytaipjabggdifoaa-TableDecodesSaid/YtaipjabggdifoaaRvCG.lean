/- A LOGIC OF ABSTRACT STATES OVER THE MODEL, part CG: all of it, at the seat of Table. -/
import Derived.Test.YtaipjabggdifoaaRvCF
import Derived.Test.YtaipjabggdifoaaRvNW
import Derived.Test.YtaipjabggdifoaaShelf
