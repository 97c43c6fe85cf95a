/- TableBack, TableOneForm: what their rows are made of. -/
import Derived.Test.YtjdkeabimcajlaaTb
import Derived.Test.YtjdkeabimcajlaaOr
