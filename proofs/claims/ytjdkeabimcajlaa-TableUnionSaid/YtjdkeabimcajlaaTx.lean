/- TableUnion: what its row is made of. -/
import Derived.Test.YtjdkeabimcajlaaTu
import Derived.Test.YtjdkeabimcajlaaOr
