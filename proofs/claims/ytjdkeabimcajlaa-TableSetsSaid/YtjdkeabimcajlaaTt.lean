/- TableSets: what its row is made of. -/
import Derived.Test.YtjdkeabimcajlaaTs
import Derived.Test.YtjdkeabimcajlaaOr
import Derived.Test.YtjdkeabimcajlaaTv
