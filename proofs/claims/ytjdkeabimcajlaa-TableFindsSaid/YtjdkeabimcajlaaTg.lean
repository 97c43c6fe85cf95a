/- TableFinds: what its row is made of. -/
import Derived.Test.YtjdkeabimcajlaaTf
import Derived.Test.YtjdkeabimcajlaaOr
import Derived.Test.YtjdkeabimcajlaaOi
