/- TableEncodes: what its row is made of. -/
import Derived.Test.YtjdkeabimcajlaaTe
import Derived.Test.YtjdkeabimcajlaaOr
